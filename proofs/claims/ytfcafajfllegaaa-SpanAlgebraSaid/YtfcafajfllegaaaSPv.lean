/- Ranges: the order of their numbers, in plain Lean. -/
import Derived.Test.YtfcafajfllegaaaSPu
set_option linter.unusedVariables false
set_option linter.unusedSimpArgs false
namespace Go.RX.Span
open Go Go.RX

section
variable {a b c : Int}
/-- The k-th number of a right range, by the sign of its stride. -/
theorem num_eq {k : Nat} (hr : Right a b c) (hab : a ≤ b) : num a b c k = (if c < 0 then b else a) + c * k := by
  obtain ⟨_, _, _, _, _, p6, p7, _⟩ := parts hr hab
  unfold num; rw [p6, p7]
theorem right_dvd' (hr : Right a b c) (hab : a ≤ b) : c ∣ b - a := by
  rcases hr.2 with h | h | h
  · omega
  · rw [show b - a = 0 by omega]; exact Int.dvd_zero _
  · exact Int.dvd_of_emod_eq_zero h.2.2
theorem num_between {k : Nat} (hr : Right a b c) (hab : a ≤ b) (hk : (k : Int) < ofC a b c) : a ≤ num a b c k ∧ num a b c k ≤ b := by
  obtain ⟨p1, p2, p3, p4, p5, p6, p7, p8, p9, p10⟩ := parts hr hab
  have m1 := mulle (s := absI c) (x := 0) (y := (k : Int)) p1 (by omega)
  have m2 := mulle (s := absI c) (x := (k : Int)) (y := ofC a b c - 1) p1 (by omega)
  rw [Int.mul_zero] at m1
  rw [num_eq hr hab]
  by_cases hc : c < 0
  · rw [if_pos hc]
    have e : c * k = -(absI c * k) := by rw [absI_neg hc, Int.neg_mul, Int.neg_neg]
    rw [e]
    generalize absI c * (k : Int) = z at *
    omega
  · rw [if_neg hc]
    have e : c * k = absI c * k := by rw [absI_pos hc]
    rw [e]
    generalize absI c * (k : Int) = z at *
    omega
theorem num_mod {k : Nat} (hr : Right a b c) (hab : a ≤ b) : (num a b c k - a) % c = 0 := by
  rw [num_eq hr hab]
  have hd := right_dvd' hr hab
  apply Int.emod_eq_zero_of_dvd
  by_cases hc : c < 0
  · rw [if_pos hc, show b + c * k - a = (b - a) + c * k by omega]
    exact Int.dvd_add hd (Int.dvd_mul_right c k)
  · rw [if_neg hc, show a + c * k - a = c * k by omega]
    exact Int.dvd_mul_right c k
theorem num_has {k : Nat} (hr : Right a b c) (hab : a ≤ b) (hk : (k : Int) < ofC a b c) : has a b c (num a b c k) = true := by
  have h1 := num_between hr hab hk
  unfold has
  exact decide_eq_true ⟨chk_zero.2 hr, h1.1, h1.2, num_mod hr hab⟩
theorem num_pos {k : Nat} (hr : Right a b c) (hab : a ≤ b) (hk : (k : Int) < ofC a b c) : pos a b c (num a b c k) = k := by
  have hc := right_c hr
  unfold pos
  rw [num_has hr hab hk, num_eq hr hab]
  simp only [if_true]
  by_cases h : c < 0
  · rw [if_pos h, if_pos h, show b - (b + c * (k : Int)) = (-c) * k by rw [Int.neg_mul]; omega]
    exact Int.mul_ediv_cancel_left _ (by omega)
  · rw [if_neg h, if_neg h, show a + c * (k : Int) - a = c * k by omega]
    exact Int.mul_ediv_cancel_left _ (by omega)
theorem num_nth {k : Nat} (hr : Right a b c) (hk : (k : Int) < ofC a b c) : nthE a b c k = 0 ∧ nth a b c k = num a b c k := by
  have e : nthE a b c k = 0 := by
    unfold nthE; rw [if_neg (by rw [chk_zero.2 hr]; simp), if_neg (by omega)]
  exact ⟨e, by unfold nth num; rw [e]; simp⟩
theorem num_step {k : Nat} (hr : Right a b c) (hab : a ≤ b) : num a b c (k + 1) - num a b c k = c := by
  rw [num_eq hr hab, num_eq hr hab]
  have : c * ((k + 1 : Nat) : Int) = c * k + c := by rw [Int.natCast_add]; simp [Int.mul_add]
  rw [this]; omega
theorem of_self (hr : Right a b c) (h1 : -1000000 ≤ c) (h2 : c ≤ 1000000) : ofErr a b c = 0 ∧ ofLow a b c = a ∧ ofHigh a b c = b ∧ ofStr a b c = c := by
  have hl := hr.1
  have hc0 : c ≠ 0 := by rcases hr.2 with h | h | h <;> omega
  have e : ofErr a b c = 0 := by
    unfold ofErr; rw [if_neg hc0, if_pos (by omega)]
  have eL : ofLow a b c = a := by
    unfold ofLow; rw [e]
    simp only [ne_eq, not_true_eq_false, if_false]
    by_cases hab : a > b
    · rw [if_pos hab]; rcases hr.2 with h | h | h <;> omega
    · rw [if_neg hab]
      by_cases hc : c < 0
      · rw [if_pos hc]
        have := Int.ediv_mul_cancel ((Int.neg_dvd).2 (right_dvd' hr (by omega)))
        rw [this]; omega
      · rw [if_neg hc]
  have eH : ofHigh a b c = b := by
    unfold ofHigh; rw [e]
    simp only [ne_eq, not_true_eq_false, if_false]
    by_cases hab : a > b
    · rw [if_pos hab]; rcases hr.2 with h | h | h <;> omega
    · rw [if_neg hab]
      by_cases hc : c < 0
      · rw [if_pos hc]
      · rw [if_neg hc]
        have := Int.ediv_mul_cancel (right_dvd' hr (by omega))
        rw [this]; omega
  refine ⟨e, eL, eH, ?_⟩
  unfold ofStr; rw [e, eL, eH]
  simp only [ne_eq, not_true_eq_false, if_false]
  rcases hr.2 with h | h | h
  · rw [if_pos (by omega)]; omega
  · rw [if_neg (by omega), if_pos h.1]; omega
  · rw [if_neg (by omega), if_neg (by omega)]
end
noncomputable abbrev E10 : Env := ⟨P, conOf k10, scall P (conOf k10) noLoops 10⟩
theorem E10_ok : EnvOK E10 := envOK (allOK mixed k10_ok) 10

structure XO where
  (a b c : Int) (n n1 : Nat) (f f1 : Nat → Els [.int .i64]) (len : Int) (k : Nat)
def PreO (n0 : Nat) (a b c : Int) (n n1 : Nat) (f f1 : Nat → Els [.int .i64]) (len : Int) : Prop :=
  n0 ≤ 1 ∧ I64 a ∧ I64 b ∧ I64 c ∧ Right a b c ∧ (n : Int) = ofC a b c ∧ (n1 : Int) = ofC a b c ∧ len = ofC a b c ∧ (∀ k, k < n → (f k).1 = num a b c k) ∧ (∀ k, k < n → (f1 k).1 = num a b c k)
noncomputable def gO : Nat → Few → T (Ex × Few)
  | n0, ([.ptr 0 0, .row [.int .i64] n f, .row [.int .i64] n1 f1, .lit (.int .i64 len), .ki .i64 (.ofNat 0)], [(0, some (.cells [.lit (.int .i64 a), .lit (.int .i64 b), .lit (.int .i64 c)] 23))]) =>
    .ask (PreO n0 a b c n n1 f f1 len) (.ret (.exit 0, ([.ptr 0 0, .row [.int .i64] n f, .any, .any, .any], [(0, some (.cells [.lit (.int .i64 a), .lit (.int .i64 b), .lit (.int .i64 c)] 23))])))
  | _, _ => .stuck 1
noncomputable def VO (x : XO) : Few := ([.ptr 0 0, .row [.int .i64] x.n x.f, .row [.int .i64] x.n1 x.f1, .lit (.int .i64 x.len), .lit (.int .i64 x.k)], [(0, some (.cells [.lit (.int .i64 x.a), .lit (.int .i64 x.b), .lit (.int .i64 x.c)] 23))])
noncomputable def OO (x : XO) : Ex × Few := (.exit 0, ([.ptr 0 0, .row [.int .i64] x.n x.f, .any, .any, .any], [(0, some (.cells [.lit (.int .i64 x.a), .lit (.int .i64 x.b), .lit (.int .i64 x.c)] 23))]))
def PhiO (n0 : Nat) (x : XO) : Prop := PreO n0 x.a x.b x.c x.n x.n1 x.f x.f1 x.len ∧ x.k ≤ x.n
end Go.RX.Span
