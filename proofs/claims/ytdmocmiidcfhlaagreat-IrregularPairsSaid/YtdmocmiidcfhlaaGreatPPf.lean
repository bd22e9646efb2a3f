/- Ranges: the numbers that a range yields. -/
import Derived.RangeFuncNested
import Derived.RangeFuncBound
import Derived.RangeFuncCalls
import Derived.RangeFuncBox
import Derived.RangeFuncLeaves
import Derived.Shelf.Abstract
import Derived.Shelf.RegionOpen
import Derived.WalkKit
import Derived.OwnWalkIn
import Derived.TacticsInMore
import Derived.LoopNIn
import Derived.LoopIn
import Derived.Maps.AppendAt
import Derived.Test.YtdmocmiidcfhlaaGreatPPe
import Derived.Test.YtdmocmiidcfhlaaGreatPPb
import Derived.Test.YtdmocmiidcfhlaaGreatPPc
set_option linter.unusedVariables false
set_option linter.unusedSimpArgs false
namespace Go.RX.Span
open Go Go.RX Go.RowKit Go.Shelf Go.Proofs

attribute [local go_sem] Oper.semAt_some

def num (a b c : Int) (k : Nat) : Int := ofF a b c + ofB a b c * k
/-- The box of a range. -/
def Box3 (W : World) (B : Nat) (a b c : Int) : Prop := W.heap[B]? = some (.cells #[.int .i64 a, .int .i64 b, .int .i64 c] 23 (0, 0))

theorem Box3.lt {W : World} {B : Nat} {a b c : Int} (h : Box3 W B a b c) : B < W.heap.size := (Array.getElem?_eq_some_iff.1 h).1
end Go.RX.Span

/- Ranges: the order of their numbers, in plain Lean. -/
set_option linter.unusedVariables false
set_option linter.unusedSimpArgs false
namespace Go.RX.Span
open Go Go.RX

section
variable {a b c : Int}
/-- The k-th number of a right range, by the sign of its stride. -/
theorem num_eq {k : Nat} (hr : Right a b c) (hab : a ≤ b) : num a b c k = (if c < 0 then b else a) + c * k := by
  obtain ⟨_, _, _, _, _, p6, p7, _⟩ := parts hr hab
  unfold num; rw [p6, p7]
end
end Go.RX.Span

/- The library's slices.Equal and slices.Concat of two, of numbers. -/
set_option linter.unusedVariables false
set_option linter.unusedSimpArgs false
set_option maxRecDepth 100000
namespace Go.RX.Span
open Go Go.RX

noncomputable def eqR (n : Nat) (f : Nat → Els [.int .i64]) (n1 : Nat) (f1 : Nat → Els [.int .i64]) : Bool := @decide (n = n1 ∧ ∀ i, i < n → (f i).1 = (f1 i).1) (Classical.propDecidable _)
theorem eqR_t {n n1 : Nat} {f f1 : Nat → Els [.int .i64]} : eqR n f n1 f1 = true ↔ n = n1 ∧ ∀ i, i < n → (f i).1 = (f1 i).1 := by
  unfold eqR
  exact @decide_eq_true_iff _ (Classical.propDecidable _)
noncomputable abbrev E0 : Env := ⟨P, conOf [], scall P (conOf []) noLoops 10⟩
theorem E0_ok : EnvOK E0 := envOK (allOK mixed (fun p hp => absurd hp (by simp))) 10
theorem none_ok : ∀ p ∈ ([] : List (Nat × Con)), ConOK P p.1 p.2 := fun p hp => absurd hp (by simp)
def PreE (n0 n n1 : Nat) (len : Int) : Prop := n0 = 0 ∧ n = n1 ∧ len = n ∧ n ≤ top
structure XE where
  (n n1 : Nat) (f f1 : Nat → Els [.int .i64]) (len : Int) (k : Nat)
noncomputable def VE (x : XE) : Few := ([.row [.int .i64] x.n x.f, .row [.int .i64] x.n1 x.f1, .any, .lit (.int .i64 x.len), .lit (.int .i64 x.k)], [])
noncomputable def OE (x : XE) : Ex × Few := (.exit 0, ([.row [.int .i64] x.n x.f, .row [.int .i64] x.n1 x.f1, .any, .any, .any], []))
noncomputable def OE' : Ex × Few := (.ret, ([.any, .any, .kb false, .any, .any], []))
def PhiE (n0 : Nat) (x : XE) : Prop := (n0 = 0 ∧ x.n = x.n1 ∧ x.len = x.n ∧ x.n ≤ top) ∧ x.k ≤ x.n ∧ ∀ i, i < x.k → (x.f i).1 = (x.f1 i).1
def ZE (x : XE) (o : Ex × Few) : Prop := (eqR x.n x.f x.n1 x.f1 = true → o = OE x) ∧ (eqR x.n x.f x.n1 x.f1 = false → o = OE')
noncomputable def gE : Nat → Few → T (Ex × Few)
  | n0, ([.row [.int .i64] n f, .row [.int .i64] n1 f1, _, .lit (.int .i64 len), .ki .i64 (.ofNat 0)], []) =>
    .ask (PreE n0 n n1 len) (.br (lk eqR n f n1 f1) (.ret (.exit 0, ([.row [.int .i64] n f, .row [.int .i64] n1 f1, .any, .any, .any], []))) (.ret (.ret, ([.any, .any, .kb false, .any, .any], []))))
  | _, _ => .stuck 1
noncomputable abbrev l36 : List (Nat × Loops) := [(23, [(4, .sum (few 26 [0, 1, 4, 12, 13] gE))])]
end Go.RX.Span

/- The library's slices.Equal and slices.Concat of two, of numbers: the walks. -/
set_option linter.unusedVariables false
set_option linter.unusedSimpArgs false
set_option maxRecDepth 100000
namespace Go.RX.Span
open Go Go.RX

set_option maxRecDepth 100000 in
theorem t_E (n0 n n1 : Nat) (f f1 : Nat → Els [.int .i64]) (len i : Int) : (sx E0 [] n0 (loopOf P 23 4) (mkS 26 [0, 1, 4, 12, 13] [.row [.int .i64] n f, .row [.int .i64] n1 f1, .any, .lit (.int .i64 len), .lit (.int .i64 i)], [])).bind (proj 26 [0, 1, 4, 12, 13]) =
    T.br (U.lt i len) (.ask ((0 : Int) ≤ i ∧ i < ↑n) (.ask ((0 : Int) ≤ i ∧ i < ↑n1) (.br (U.ne (f (U.toNat i)).1 (f1 (U.toNat i)).1) (.ret (Ex.ret, [.row [.int .i64] n f, .row [.int
      .i64] n1 f1, SV.kb false, .lit (.int .i64 len), .lit (.int .i64 i)], [])) (.ret (Ex.normal, [.row [.int .i64] n f, .row [.int .i64] n1 f1, SV.any, .lit (.int .i64 len), .lit (.int
      .i64 (U.add .i64 i (1 : Int)))], []))))) (.ret (Ex.exit (nat_lit 0), [.row [.int .i64] n f, .row [.int .i64] n1 f1, SV.any, .lit (.int .i64 len), .lit (.int .i64 i)], [])) := by kernel_rfl
theorem roundE (n0 : Nat) (x : XE) (hx : PhiE n0 x) : ((sx E0 [] n0 (loopOf P 23 4) (mkS 26 [0, 1, 4, 12, 13] (VE x).1, (VE x).2)).bind (proj 26 [0, 1, 4, 12, 13])).All fun r => match r.1 with
      | .normal => ∃ x', PhiE n0 x' ∧ x'.n - x'.k < x.n - x.k ∧ Wk 26 [0, 1, 4, 12, 13] n0 r.2 (VE x') ∧ ∀ o, ZE x' o → ZE x o
      | e => ∃ s, ZE x (e, s) ∧ Wk 26 [0, 1, 4, 12, 13] n0 r.2 s := by
  obtain ⟨n, n1, f, f1, len, k⟩ := x
  unfold VE
  dsimp only
  refine T.all_of_eq (t_E n0 n n1 f f1 len k) ?_
  obtain ⟨⟨h0, e1, e2, ht⟩, hk, hall⟩ := hx
  simp only [] at h0 e1 e2 ht hk hall
  subst h0; subst e1
  simp only [top] at ht
  have w0 : ∀ {vs vs' : List SV}, RlL (idR 0) vs vs' → Wk 26 [0, 1, 4, 12, 13] 0 (vs, []) (vs', []) := fun h => wk_of (idR 0) rfl (Nat.zero_le _) (fun b hb => by omega) h trivial
  by_cases hlt : k < n
  · have hadd : U.add .i64 (k : Int) 1 = ((k + 1 : Nat) : Int) := by rw [U.add64 (by unfold I64; omega)]; omega
    simp only [T.All, U.le_t, U.le_f, U.lt_t, U.lt_f, U.gt_t, U.gt_f, U.ge_t, U.ge_f, U.eq_t, U.eq_f, U.ne_t, U.ne_f, U.not_t, U.not_f, U.andb_t, U.andb_f, SV.lit.injEq, SV.agg.injEq, SV.tup.injEq, List.cons.injEq, Value.int.injEq, Value.bool.injEq, true_and, and_true, lk_eq, U.toNat_eq, Int.toNat_natCast]
    refine ⟨fun _ => ⟨⟨by omega, by omega⟩, ⟨by omega, by omega⟩, fun hne => ⟨OE'.2, ⟨fun he => absurd ((eqR_t.1 he).2 k hlt) (Eq.mp U.ne_t hne), fun _ => rfl⟩, w0 ⟨trivial, trivial, rfl, trivial, trivial, trivial⟩⟩, fun heq => ?_⟩, fun h => absurd h (by omega)⟩
    refine ⟨⟨n, n, f, f1, len, k + 1⟩, ⟨⟨rfl, rfl, e2, ht⟩, hlt, fun i hi => ?_⟩, by simp only []; omega, w0 ⟨⟨rfl, sameRow_refl _ _⟩, ⟨rfl, sameRow_refl _ _⟩, trivial, rfl, by rw [hadd]; rfl, trivial⟩, fun o ho => ho⟩
    by_cases h : i = k
    · subst h; exact Eq.mp U.ne_f heq
    · have hi' : i < k + 1 := hi
      exact hall i (by omega)
  · have : (k : Int) = n := by omega
    have hkn : k = n := by omega
    simp only [T.All, U.le_t, U.le_f, U.lt_t, U.lt_f, U.gt_t, U.gt_f, U.ge_t, U.ge_f, U.eq_t, U.eq_f, U.ne_t, U.ne_f, U.not_t, U.not_f, U.andb_t, U.andb_f, SV.lit.injEq, SV.agg.injEq, SV.tup.injEq, List.cons.injEq, Value.int.injEq, Value.bool.injEq, true_and, and_true, lk_eq]
    refine ⟨fun h => absurd h (by omega), fun _ => ⟨(OE ⟨n, n, f, f1, len, k⟩).2, ⟨fun _ => rfl, fun he => ?_⟩, w0 ⟨⟨rfl, sameRow_refl _ _⟩, ⟨rfl, sameRow_refl _ _⟩, trivial, trivial, trivial, trivial⟩⟩⟩
    rw [eqR_t.2 ⟨rfl, fun i hi => hall i (by have hi' : i < n := hi; omega)⟩] at he
    cases he
theorem loopE : LoopOK P (loopOf P 23 4) (few 26 [0, 1, 4, 12, 13] gE) :=
  loop_few (E := E0) mixed E0_ok loopsOK_none 26 [0, 1, 4, 12, 13] (X := XE) gE (fun _ x => VE x) PhiE (fun x => x.n - x.k) (fun _ x o => ZE x o)
    (fun n0 s r h => by
      unfold gE at h
      split at h
      · rename_i n0 n f n1 f1 s4 len
        obtain ⟨h0, e1, e2, ht⟩ := (T.is_ask h).1
        have h := (T.is_ask h).2
        rcases h with ⟨he, h⟩ | ⟨he, h⟩ <;> rw [lk_eq] at he <;> obtain rfl := T.is_ret h
        all_goals
          refine ⟨⟨n, n1, f, f1, len, 0⟩, ⟨⟨h0, e1, e2, ht⟩, Nat.zero_le _, fun i hi => by simp only [] at hi; omega⟩, wk_of (idR 0) rfl (by rw [h0]; exact Nat.zero_le _) (fun b hb => by omega) ⟨⟨rfl, sameRow_refl _ _⟩, ⟨rfl, sameRow_refl _ _⟩, rl_any _, rfl, rfl, trivial⟩ trivial, fun o ho => ?_⟩
          first | exact ho.1 he | exact ho.2 he
      · exact h.elim)
    roundE
theorem l36_ok : ∀ p ∈ l36, LoopsOK P p.2 (bodyOf P p.1) := by
  intro p hp
  simp only [l36, List.mem_singleton] at hp
  subst hp
  refine loopsOK_of (by kernel_rfl) fun k g hk => ?_
  simp only [List.mem_singleton, Prod.mk.injEq, LoopC.sum.injEq] at hk
  obtain ⟨rfl, rfl⟩ := hk
  exact loopE

noncomputable def c_Equal : Con := fun args => match args with
  | [.row [.int .i64] n f, .row [.int .i64] n1 f1] => .ask (n ≤ top) (.ret (.lit (.bool (lk eqR n f n1 f1))))
  | _ => .stuck 1
set_option maxRecDepth 100000 in
theorem t_Equal (n n1 : Nat) (f f1 : Nat → Els [.int .i64]) : conB Go.Proofs.Tryz.prog (conOf []) (loopsOf l36) 10 23 [.row [.int .i64] n f, .row [.int .i64] n1 f1] =
    T.br (U.ne (Int.ofNat n) (Int.ofNat n1)) (.ret (.lit (.bool false))) (.ask (PreE (nat_lit 0) n n1 ↑n) (.br (lk eqR n f n1 f1) (.ret (.lit (.bool true))) (.ret (.lit (.bool
      false))))) := by kernel_rfl
theorem Equal_ok : ConOK P 23 c_Equal := con_of (allOKL mixed none_ok l36_ok) 10 23 fun args r h => by
  unfold c_Equal at h
  split at h
  · rename_i n f n1 f1
    have hp := (T.is_ask h).1
    have h := (T.is_ask h).2
    obtain rfl := T.is_ret h
    rw [t_Equal]
    by_cases hn : n = n1
    · subst hn
      have hpre : PreE 0 n n n := ⟨rfl, rfl, rfl, hp⟩
      have hne : U.ne (Int.ofNat n) (Int.ofNat n) = false := by rw [U.ne_eq]; simp
      simp only [T.All, hne, hpre, lk_eq]
      cases eqR n f n f1 <;> simp
    · have he : eqR n f n1 f1 = false := by
        cases h : eqR n f n1 f1
        · rfl
        · exact absurd (eqR_t.1 h).1 hn
      have hne : U.ne (Int.ofNat n) (Int.ofNat n1) = true := by rw [U.ne_eq]; simp only [Int.ofNat_eq_natCast]; simp; omega
      simp only [T.All, hne, lk_eq, he]
      simp
  · exact h.elim
end Go.RX.Span

/- Ranges: what By of By, and Count twice, come to, in plain Lean. -/
set_option linter.unusedVariables false
set_option linter.unusedSimpArgs false
namespace Go.RX.Span
open Go Go.RX

/-- A range upwards, out of its first number, its step and how many steps it has. -/
theorem rgU {F s q : Int} (hs : 1 ≤ s) (hq : 0 ≤ q) (h1 : -1000000 ≤ F) (h2 : F + s * q ≤ 1000000) :
    Right F (F + s * q) (if q = 0 then 1 else s) ∧ F ≤ F + s * q ∧ ofC F (F + s * q) (if q = 0 then 1 else s) = q + 1 ∧ ∀ j : Nat, (j : Int) ≤ q → num F (F + s * q) (if q = 0 then 1 else s) j = F + s * j := by
  have h0 := mulle (s := s) (x := 0) (y := q) hs hq
  rw [Int.mul_zero] at h0
  by_cases hz : q = 0
  · subst hz
    simp only [if_true, Int.mul_zero, Int.add_zero]
    have hr : Right F F 1 := ⟨by rw [Int.mul_zero] at h2; omega, .inr (.inl ⟨rfl, rfl⟩)⟩
    refine ⟨hr, Int.le_refl _, ?_, fun j hj => ?_⟩
    · simp [ofC]
    · obtain rfl : j = 0 := by omega
      rw [num_eq hr (Int.le_refl _)]; simp
  · rw [if_neg hz]
    have hsq := mulle (s := s) (x := 1) (y := q) hs (by omega)
    rw [Int.mul_one] at hsq
    have hr : Right F (F + s * q) s := ⟨by omega, .inr (.inr ⟨by omega, by omega, by rw [show F + s * q - F = s * q by omega]; exact Int.mul_emod_right s q⟩)⟩
    refine ⟨hr, by omega, ?_, fun j hj => ?_⟩
    · unfold ofC
      rw [if_neg (by omega), if_neg (by omega), show F + s * q - F = s * q by omega, Int.mul_ediv_cancel_left _ (by omega)]
    · rw [num_eq hr (by omega), if_neg (by omega)]
/-- And downwards. -/
theorem rgD {F s q : Int} (hs : 1 ≤ s) (hq : 0 ≤ q) (h1 : F ≤ 1000000) (h2 : -1000000 ≤ F - s * q) :
    Right (F - s * q) F (if q = 0 then 1 else -s) ∧ F - s * q ≤ F ∧ ofC (F - s * q) F (if q = 0 then 1 else -s) = q + 1 ∧ ∀ j : Nat, (j : Int) ≤ q → num (F - s * q) F (if q = 0 then 1 else -s) j = F - s * j := by
  have h0 := mulle (s := s) (x := 0) (y := q) hs hq
  rw [Int.mul_zero] at h0
  by_cases hz : q = 0
  · subst hz
    simp only [if_true, Int.mul_zero, Int.sub_zero]
    have hr : Right F F 1 := ⟨by rw [Int.mul_zero] at h2; omega, .inr (.inl ⟨rfl, rfl⟩)⟩
    refine ⟨hr, Int.le_refl _, ?_, fun j hj => ?_⟩
    · simp [ofC]
    · obtain rfl : j = 0 := by omega
      rw [num_eq hr (Int.le_refl _)]; simp
  · rw [if_neg hz]
    have hsq := mulle (s := s) (x := 1) (y := q) hs (by omega)
    rw [Int.mul_one] at hsq
    have hr : Right (F - s * q) F (-s) := ⟨by omega, .inr (.inr ⟨by omega, by omega, by
      rw [show F - (F - s * q) = (-s) * (-q) by rw [Int.neg_mul_neg]; omega]; exact Int.mul_emod_right (-s) (-q)⟩)⟩
    refine ⟨hr, by omega, ?_, fun j hj => ?_⟩
    · unfold ofC
      rw [if_neg (by omega), if_pos (by omega), show F - (F - s * q) = s * q by omega, Int.neg_neg, Int.mul_ediv_cancel_left _ (by omega)]
    · rw [num_eq hr (by omega), if_pos (by omega), Int.neg_mul]; omega

end Go.RX.Span

/- Euclid's algorithm, as the program goes: what it comes to, in plain Lean. -/
set_option linter.unusedVariables false
set_option linter.unusedSimpArgs false
namespace Go.RX.Span
open Go Go.RX

def eg : Nat → Int → Int → Int → Int → Int × Int
  | 0, x0, x1, _, _ => (x0, x1)
  | n + 1, x0, x1, y0, y1 => if y0 = 0 then (x0, x1) else eg n y0 y1 (x0 - x0.tdiv y0 * y0) (x1 - x0.tdiv y0 * y1)
def euG (a b : Int) : Int := (eg (b.toNat + 1) a 1 b 0).1
def euX (a b : Int) : Int := (eg (b.toNat + 1) a 1 b 0).2

/-- What holds ahead of each round. -/
structure EInv (a b B x0 x1 y0 y1 : Int) : Prop where
  hx : 0 ≤ x0
  hy : 0 ≤ y0
  cx : ∃ u, x0 = a * x1 + b * u
  cy : ∃ v, y0 = a * y1 + b * v
  g : Int.gcd x0 y0 = Int.gcd a b
  bx : (x1.natAbs : Int) ≤ B
  b1 : (y1.natAbs : Int) ≤ B
  s : (x1.natAbs : Int) * y0 + (y1.natAbs : Int) * x0 ≤ B

theorem einv_start {a b : Int} (ha : 0 ≤ a) (hb : 0 ≤ b) : EInv a b (max 1 b) a 1 b 0 where
  hx := ha
  hy := hb
  cx := ⟨0, by simp⟩
  cy := ⟨1, by simp⟩
  g := rfl
  bx := by simp; omega
  b1 := by simp; omega
  s := by simp; omega

theorem einv_q {x0 y0 : Int} (hx : 0 ≤ x0) (hy : 0 < y0) : x0.tdiv y0 = x0 / y0 ∧ 0 ≤ x0 / y0 ∧ x0 - x0 / y0 * y0 = x0 % y0 ∧ 0 ≤ x0 % y0 ∧ x0 % y0 < y0 ∧ x0 / y0 ≤ x0 ∧ 0 ≤ x0 / y0 * y0 ∧ x0 / y0 * y0 ≤ x0 := by
  have h1 := Int.tdiv_eq_ediv_of_nonneg hx (b := y0)
  have h2 := Int.ediv_nonneg hx (Int.le_of_lt hy)
  have h3 := Int.mul_ediv_add_emod x0 y0
  have h4 := Int.emod_nonneg x0 (show y0 ≠ 0 by omega)
  have h5 := Int.emod_lt_of_pos x0 hy
  have h6 : x0 / y0 * y0 = y0 * (x0 / y0) := Int.mul_comm _ _
  have h7 : 1 * (x0 / y0) ≤ y0 * (x0 / y0) := Int.mul_le_mul_of_nonneg_right (by omega) h2
  rw [Int.one_mul] at h7
  refine ⟨h1, h2, by omega, h4, h5, by omega, by omega, by omega⟩

theorem einv_step {a b B x0 x1 y0 y1 : Int} (h : EInv a b B x0 x1 y0 y1) (hy : y0 ≠ 0) : EInv a b B y0 y1 (x0 - x0.tdiv y0 * y0) (x1 - x0.tdiv y0 * y1) := by
  have hy' : 0 < y0 := by have := h.hy; omega
  obtain ⟨e1, e2, e3, e4, e5, e6, e7, e8⟩ := einv_q h.hx hy'
  rw [e1]
  obtain ⟨q, hq⟩ : ∃ q, q = x0 / y0 := ⟨_, rfl⟩
  rw [← hq] at e2 e3 e6 e7 e8 ⊢
  have hs : (y1.natAbs : Int) * (x0 - q * y0) + ((x1 - q * y1).natAbs : Int) * y0 ≤ B := by
    have hP : ((x1 - q * y1).natAbs : Int) ≤ (x1.natAbs : Int) + q * (y1.natAbs : Int) := by
      have h1 := Int.natAbs_sub_le x1 (q * y1)
      rw [Int.natAbs_mul] at h1
      have h2 : ((q.natAbs : Nat) : Int) = q := Int.natAbs_of_nonneg e2
      have h3 : (((q.natAbs * y1.natAbs : Nat)) : Int) = q * (y1.natAbs : Int) := by rw [Int.natCast_mul, h2]
      omega
    have hm := Int.mul_le_mul_of_nonneg_right hP (Int.le_of_lt hy')
    rw [Int.add_mul] at hm
    have hc : q * (y1.natAbs : Int) * y0 = (y1.natAbs : Int) * (q * y0) := by rw [Int.mul_comm q, Int.mul_assoc]
    have hs0 := h.s
    rw [Int.mul_sub]
    omega
  refine ⟨Int.le_of_lt hy', by omega, h.cy, ?_, ?_, h.b1, ?_, ?_⟩
  · obtain ⟨u, hu⟩ := h.cx
    obtain ⟨v, hv⟩ := h.cy
    refine ⟨u - q * v, ?_⟩
    have e : q * y0 = a * (q * y1) + b * (q * v) := by
      rw [hv, Int.mul_add]
      congr 1
      · rw [← Int.mul_assoc, ← Int.mul_assoc, Int.mul_comm q a]
      · rw [← Int.mul_assoc, ← Int.mul_assoc, Int.mul_comm q b]
    rw [Int.mul_sub, Int.mul_sub]
    omega
  · rw [← h.g, Int.gcd_comm x0 y0]
    exact Int.gcd_sub_mul_right_right y0 x0 q
  · have h0 : (0 : Int) ≤ (y1.natAbs : Int) * (x0 - q * y0) := Int.mul_nonneg (by omega) (by omega)
    have h1 : ((x1 - q * y1).natAbs : Int) * 1 ≤ ((x1 - q * y1).natAbs : Int) * y0 := Int.mul_le_mul_of_nonneg_left (by omega) (by omega)
    omega
  · rw [Int.add_comm] ; rw [Int.add_comm] at hs; omega

theorem eg_spec {a b B : Int} : ∀ (n : Nat) (x0 x1 y0 y1 : Int), y0.toNat < n → EInv a b B x0 x1 y0 y1 →
    (eg n x0 x1 y0 y1).1 = Int.gcd a b ∧ (∃ u, (eg n x0 x1 y0 y1).1 = a * (eg n x0 x1 y0 y1).2 + b * u) ∧ ((eg n x0 x1 y0 y1).2.natAbs : Int) ≤ B
  | 0, _, _, _, _, h, _ => by omega
  | n + 1, x0, x1, y0, y1, h, hi => by
    rw [eg]
    by_cases hy : y0 = 0
    · rw [if_pos hy]
      refine ⟨?_, hi.cx, hi.bx⟩
      rw [← hi.g, hy, Int.gcd_zero_right]
      exact (Int.natAbs_of_nonneg hi.hx).symm
    · rw [if_neg hy]
      have hy' : 0 < y0 := by have := hi.hy; omega
      obtain ⟨e1, e2, e3, e4, e5, e6, e7, e8⟩ := einv_q hi.hx hy'
      exact eg_spec n _ _ _ _ (by rw [e1]; omega) (einv_step hi hy)

/-- What Euclid's algorithm returns: the divisor; the factor. -/
theorem eu_spec {a b : Int} (ha : 0 ≤ a) (hb : 0 ≤ b) : euG a b = Int.gcd a b ∧ (∃ u, euG a b = a * euX a b + b * u) ∧ ((euX a b).natAbs : Int) ≤ max 1 b :=
  eg_spec (b.toNat + 1) a 1 b 0 (by omega) (einv_start ha hb)

structure XU where
  (a b x0 x1 y0 y1 : Int) (k : Nat)
def PreU (n0 : Nat) (a b : Int) : Prop := n0 ≤ 2 ∧ 0 ≤ a ∧ a ≤ 4000000 ∧ 0 ≤ b ∧ b ≤ 4000000
noncomputable def VU (x : XU) : Few := ([.ptr 0 0, .ptr 1 0], [(0, some (.cells [.lit (.int .i64 x.x0), .lit (.int .i64 x.x1)] 78)), (0, some (.cells [.lit (.int .i64 x.y0), .lit (.int .i64 x.y1)] 78))])
noncomputable def OU (x : XU) : Ex × Few := (.exit 0, ([.ptr 0 0, .ptr 1 0], [(0, some (.cells [.lit (.int .i64 (eg x.k x.x0 x.x1 x.y0 x.y1).1), .lit (.int .i64 (eg x.k x.x0 x.x1 x.y0 x.y1).2)] 78)), (0, some (.cells [.any, .any] 78))]))
def PhiU (n0 : Nat) (x : XU) : Prop := PreU n0 x.a x.b ∧ EInv x.a x.b (max 1 x.b) x.x0 x.x1 x.y0 x.y1 ∧ x.y0.toNat < x.k ∧ x.x0 ≤ 4000000 ∧ x.y0 ≤ 4000000
noncomputable def gU : Nat → Few → T (Ex × Few)
  | n0, ([.ptr 0 0, .ptr 1 0], [(_, some (.cells [.lit (.int .i64 a), .ki .i64 (.ofNat 1)] 78)), (_, some (.cells [.lit (.int .i64 b), .ki .i64 (.ofNat 0)] 78))]) =>
    .ask (PreU n0 a b) (.ret (.exit 0, ([.ptr 0 0, .ptr 1 0], [(0, some (.cells [.lit (.int .i64 (lk euG a b)), .lit (.int .i64 (lk euX a b))] 78)), (0, some (.cells [.any, .any] 78))])))
  | _, _ => .stuck 1
noncomputable abbrev l118 : List (Nat × Loops) := [(102, [(2, .sum (few 41 [6, 7] gU))])]
end Go.RX.Span

/- Euclid's algorithm: the walk. -/
set_option linter.unusedVariables false
set_option linter.unusedSimpArgs false
set_option maxRecDepth 100000
namespace Go.RX.Span
open Go Go.RX

set_option maxRecDepth 100000 in
theorem t_U (n0 : Nat) (x0 x1 y0 y1 : Int) : (sx E0 [] n0 (loopOf P 102 2) (mkS 41 [6, 7] [.ptr 0 0, .ptr 1 0], [(0, some (.cells [.lit (.int .i64 x0), .lit (.int .i64 x1)] 78)), (0, some (.cells [.lit (.int .i64 y0), .lit (.int .i64 y1)] 78))])).bind (proj 41 [6, 7]) =
    T.br (U.ne y0 (0 : Int)) (.ask (y0 ≠ (0 : Int)) (.ret (Ex.normal, [SV.ptr (nat_lit 0) (nat_lit 0), SV.ptr (nat_lit 1) (nat_lit 0)], [(nat_lit 1, some (Blk.cells [.lit (.int .i64
      y0), .lit (.int .i64 y1)] (nat_lit 78))), (nat_lit 1, some (Blk.cells [.lit (.int .i64 (U.sub .i64 x0 (U.mul .i64 (U.quo .i64 x0 y0) y0))), .lit (.int .i64 (U.sub .i64 x1 (U.mul
      .i64 (U.quo .i64 x0 y0) y1)))] (nat_lit 78)))]))) (.ret (Ex.exit (nat_lit 0), [SV.ptr (nat_lit 0) (nat_lit 0), SV.ptr (nat_lit 1) (nat_lit 0)], [(nat_lit 0, some (Blk.cells [.lit
      (.int .i64 x0), .lit (.int .i64 x1)] (nat_lit 78))), (nat_lit 0, some (Blk.cells [.lit (.int .i64 y0), .lit (.int .i64 y1)] (nat_lit 78)))])) := by kernel_rfl
theorem roundU (n0 : Nat) (x : XU) (hx : PhiU n0 x) : ((sx E0 [] n0 (loopOf P 102 2) (mkS 41 [6, 7] (VU x).1, (VU x).2)).bind (proj 41 [6, 7])).All fun r => match r.1 with
      | .normal => ∃ x', PhiU n0 x' ∧ x'.k < x.k ∧ Wk 41 [6, 7] n0 r.2 (VU x') ∧ ∀ o, o = OU x' → o = OU x
      | e => ∃ s, (e, s) = OU x ∧ Wk 41 [6, 7] n0 r.2 s := by
  obtain ⟨a, b, x0, x1, y0, y1, k⟩ := x
  unfold VU
  dsimp only
  refine T.all_of_eq (t_U n0 x0 x1 y0 y1) ?_
  obtain ⟨⟨h0, ha0, ha1, hb0, hb1⟩, hi, hk, hx4, hy4⟩ := hx
  simp only [] at h0 ha0 ha1 hb0 hb1 hi hk hx4 hy4
  by_cases hy : y0 = 0
  · subst hy
    simp only [T.All, U.le_t, U.le_f, U.lt_t, U.lt_f, U.gt_t, U.gt_f, U.ge_t, U.ge_f, U.eq_t, U.eq_f, U.ne_t, U.ne_f, U.not_t, U.not_f, U.andb_t, U.andb_f, SV.lit.injEq, SV.agg.injEq, SV.tup.injEq, List.cons.injEq, Value.int.injEq, Value.bool.injEq, true_and, and_true, lk_eq]
    refine ⟨fun h => absurd rfl h, fun _ => ⟨(OU ⟨a, b, x0, x1, 0, y1, k⟩).2, rfl, ?_⟩⟩
    have e : eg k x0 x1 0 y1 = (x0, x1) := by cases k <;> simp [eg]
    refine wk_of (idR 2) rfl h0 (fun b hb => idR_of (by omega)) ⟨⟨rfl, rfl⟩, ⟨rfl, rfl⟩, trivial⟩ ⟨⟨rfl, ⟨?_, ?_, trivial⟩⟩, ⟨rfl, ⟨rl_any _, rl_any _, trivial⟩⟩, trivial⟩
    · show Value.int .i64 x0 = Value.int .i64 (eg k x0 x1 0 y1).1
      rw [e]
    · show Value.int .i64 x1 = Value.int .i64 (eg k x0 x1 0 y1).2
      rw [e]
  · obtain ⟨k', rfl⟩ : ∃ k', k = k' + 1 := ⟨k - 1, by omega⟩
    have hy' : 0 < y0 := by have := hi.hy; omega
    obtain ⟨q1, q2, q3, q4, q5, q6, q7, q8⟩ := einv_q hi.hx hy'
    have hi' := einv_step hi hy
    have hbx := hi.bx
    have hb1' := hi.b1
    have hbs := hi'.b1
    have hx0 := hi.hx
    have e1 : U.quo .i64 x0 y0 = x0.tdiv y0 := U.quo64 (by rw [q1]; unfold I64; omega)
    have e2 : U.mul .i64 (x0.tdiv y0) y0 = x0.tdiv y0 * y0 := U.mul64 (by rw [q1]; unfold I64; omega)
    have e3 : U.sub .i64 x0 (x0.tdiv y0 * y0) = x0 - x0.tdiv y0 * y0 := U.sub64 (by rw [q1]; unfold I64; omega)
    have e4 : U.mul .i64 (x0.tdiv y0) y1 = x0.tdiv y0 * y1 := U.mul64 (by unfold I64; omega)
    have e5 : U.sub .i64 x1 (x0.tdiv y0 * y1) = x1 - x0.tdiv y0 * y1 := U.sub64 (by unfold I64; omega)
    simp only [T.All, U.le_t, U.le_f, U.lt_t, U.lt_f, U.gt_t, U.gt_f, U.ge_t, U.ge_f, U.eq_t, U.eq_f, U.ne_t, U.ne_f, U.not_t, U.not_f, U.andb_t, U.andb_f, SV.lit.injEq, SV.agg.injEq, SV.tup.injEq, List.cons.injEq, Value.int.injEq, Value.bool.injEq, true_and, and_true, lk_eq, e1, e2, e3, e4, e5]
    refine ⟨fun _ => ⟨hy, ⟨a, b, y0, y1, x0 - x0.tdiv y0 * y0, x1 - x0.tdiv y0 * y1, k'⟩, ⟨⟨h0, ha0, ha1, hb0, hb1⟩, hi', ?_, hy4, ?_⟩, Nat.lt_succ_self _, ?_, fun o ho => ?_⟩, fun h => absurd h hy⟩
    · show (x0 - x0.tdiv y0 * y0).toNat < k'
      rw [q1]; omega
    · show x0 - x0.tdiv y0 * y0 ≤ 4000000
      rw [q1]; omega
    · exact wk_of (idR 2) rfl h0 (fun b hb => idR_of (by omega)) ⟨⟨rfl, rfl⟩, ⟨rfl, rfl⟩, trivial⟩ ⟨⟨rfl, ⟨rfl, rfl, trivial⟩⟩, ⟨rfl, ⟨rfl, rfl, trivial⟩⟩, trivial⟩
    · rw [ho]
      have e : eg (k' + 1) x0 x1 y0 y1 = eg k' y0 y1 (x0 - x0.tdiv y0 * y0) (x1 - x0.tdiv y0 * y1) := by rw [eg, if_neg hy]
      simp only [OU, e]
theorem loopU : LoopOK P (loopOf P 102 2) (few 41 [6, 7] gU) :=
  loop_few (E := E0) mixed E0_ok loopsOK_none 41 [6, 7] (X := XU) gU (fun _ x => VU x) PhiU (fun x => x.k) (fun _ x o => o = OU x)
    (fun n0 s r h => by
      unfold gU at h
      split at h
      · rename_i n0 g1 a g2 b
        obtain ⟨h0, ha0, ha1, hb0, hb1⟩ := (T.is_ask h).1
        obtain rfl := T.is_ret (T.is_ask h).2
        refine ⟨⟨a, b, a, 1, b, 0, b.toNat + 1⟩, ⟨⟨h0, ha0, ha1, hb0, hb1⟩, einv_start ha0 hb0, Nat.lt_succ_self _, ha1, hb1⟩, ?_, fun o ho => ?_⟩
        · exact wk_of (idR 2) rfl h0 (fun b hb => idR_of (by omega)) ⟨⟨rfl, rfl⟩, ⟨rfl, rfl⟩, trivial⟩ ⟨⟨rfl, ⟨rfl, rfl, trivial⟩⟩, ⟨rfl, ⟨rfl, rfl, trivial⟩⟩, trivial⟩
        · rw [ho]
          simp only [OU, lk_eq, euG, euX]
      · exact h.elim)
    roundU
theorem l118_ok : ∀ p ∈ l118, LoopsOK P p.2 (bodyOf P p.1) := by
  intro p hp
  simp only [l118, List.mem_singleton] at hp
  subst hp
  refine loopsOK_of (by kernel_rfl) fun k g hk => ?_
  simp only [List.mem_singleton, Prod.mk.injEq, LoopC.sum.injEq] at hk
  obtain ⟨rfl, rfl⟩ := hk
  exact loopU
noncomputable def c_euclid : Con := fun args => match args with
  | [.lit (.int .i64 a), .lit (.int .i64 b)] => .ask (0 ≤ a ∧ a ≤ 4000000 ∧ 0 ≤ b ∧ b ≤ 4000000) (.ret (.tup [.lit (.int .i64 (lk euG a b)), .lit (.int .i64 (lk euX a b))]))
  | _ => .stuck 1
set_option maxRecDepth 100000 in
theorem t_euclid (a b : Int) : conB Go.Proofs.Tryz.prog (conOf []) (loopsOf l118) 10 102 [.lit (.int .i64 a), .lit (.int .i64 b)] =
    T.ask (PreU (nat_lit 0) a b) (.ret (.tup [.lit (.int .i64 (lk euG a b)), .lit (.int .i64 (lk euX a b))])) := by kernel_rfl
theorem euclid_ok : ConOK P 102 c_euclid := con_of (allOKL mixed none_ok l118_ok) 10 102 fun args r h => by
  unfold c_euclid at h
  split at h
  · rename_i a b
    have hp := (T.is_ask h).1
    have h := (T.is_ask h).2
    obtain rfl := T.is_ret h
    rw [t_euclid]
    have hpre : PreU 0 a b := ⟨by omega, hp⟩
    simp only [T.All, hpre, lk_eq, true_and]
    try simp
  · exact h.elim
end Go.RX.Span

/- The numbers that two series have both, in plain Lean: what the program reckons has just these. -/
set_option linter.unusedVariables false
set_option linter.unusedSimpArgs false
namespace Go.RX.Span
open Go Go.RX

def cmM (t g : Int) : Int := t.tdiv g
def cmK (A B g m x : Int) : Int := (((B - A).tdiv g).tmod m * x.tmod m).tmod m
/-- The least number from low on that is f off some steps. -/
def cmUp (f low y : Int) : Int := if f < low then (if (low - f).tmod y > 0 then low + (y - (low - f).tmod y) else low) else f - (f - low).tdiv y * y

theorem cmUp_spec {f low y : Int} (hy : 1 ≤ y) : low ≤ cmUp f low y ∧ cmUp f low y < low + y ∧ ∃ p, cmUp f low y = f + y * p := by
  unfold cmUp
  by_cases h : f < low
  · rw [if_pos h]
    have h1 := Int.tmod_eq_emod_of_nonneg (b := y) (show 0 ≤ low - f by omega)
    have h2 := Int.mul_ediv_add_emod (low - f) y
    have h3 := Int.emod_nonneg (low - f) (show y ≠ 0 by omega)
    have h4 := Int.emod_lt_of_pos (low - f) (show 0 < y by omega)
    rw [h1]
    by_cases hd : (low - f) % y > 0
    · rw [if_pos hd]
      refine ⟨by omega, by omega, (low - f) / y + 1, ?_⟩
      rw [Int.mul_add, Int.mul_one]; omega
    · rw [if_neg hd]
      exact ⟨by omega, by omega, (low - f) / y, by omega⟩
  · rw [if_neg h]
    have h1 := Int.tdiv_eq_ediv_of_nonneg (b := y) (show 0 ≤ f - low by omega)
    have h2 := Int.mul_ediv_add_emod (f - low) y
    have h3 := Int.emod_nonneg (f - low) (show y ≠ 0 by omega)
    have h4 := Int.emod_lt_of_pos (f - low) (show 0 < y by omega)
    rw [h1, Int.mul_comm]
    refine ⟨by omega, by omega, -((f - low) / y), ?_⟩
    rw [Int.mul_neg]; omega

theorem cm_first {s t g x A B s' m Q u : Int} (h1 : s = g * s') (h2 : t = g * m) (h3 : g = s * x + t * u) (h4 : B - A = g * Q) (hg : 1 ≤ g) (hm : 1 ≤ m) :
    ∃ q, A + s * cmK A B g m x = B + t * q := by
  have e1 : (B - A).tdiv g = Q := by rw [h4]; exact Int.mul_tdiv_cancel_left _ (by omega)
  unfold cmK
  rw [e1]
  have d1 := Int.tmod_def Q m
  have d2 := Int.tmod_def x m
  have d3 := Int.tmod_def (Q.tmod m * x.tmod m) m
  generalize Q.tmod m = Q1 at *
  generalize x.tmod m = x1 at *
  generalize (Q1 * x1).tmod m = K at *
  generalize Q.tdiv m = i at *
  generalize x.tdiv m = j at *
  generalize (Q1 * x1).tdiv m = l at *
  exact ⟨s' * (-(Q * j) - i * x + m * i * j - l) - Q * u, by subst d1; subst d2; grind⟩

/-- A number is in both progressions just if it is so many steps off the first one. -/
theorem cm_both {s t g x A B s' m u f n : Int} (h1 : s = g * s') (h2 : t = g * m) (h3 : g = s * x + t * u) (hg : 1 ≤ g) (hfa : ∃ p, f = A + s * p) (hfb : ∃ q, f = B + t * q) :
    ((∃ p, n = A + s * p) ∧ ∃ q, n = B + t * q) ↔ ∃ p, n = f + s * m * p := by
  obtain ⟨p0, hp0⟩ := hfa
  obtain ⟨q0, hq0⟩ := hfb
  constructor
  · rintro ⟨⟨p, hp⟩, q, hq⟩
    have hb : 1 = s' * x + m * u := by
      have : g * 1 = g * (s' * x + m * u) := by rw [Int.mul_one]; grind
      exact Int.eq_of_mul_eq_mul_left (by omega) this
    have hd : s * (p - p0) = t * (q - q0) := by grind
    have hd' : s' * (p - p0) = m * (q - q0) := by
      have : g * (s' * (p - p0)) = g * (m * (q - q0)) := by grind
      exact Int.eq_of_mul_eq_mul_left (by omega) this
    refine ⟨(q - q0) * x + u * (p - p0), ?_⟩
    have : p - p0 = m * ((q - q0) * x + u * (p - p0)) := by grind
    grind
  · rintro ⟨p, hp⟩
    exact ⟨⟨p0 + m * p, by grind⟩, q0 + s' * p, by grind⟩

/-- Where the firsts are no multiple of the divisor apart there is none. -/
theorem cm_none {s t g s' m A B n : Int} (h1 : s = g * s') (h2 : t = g * m) (hn : (B - A).tmod g ≠ 0) : ¬ ((∃ p, n = A + s * p) ∧ ∃ q, n = B + t * q) := by
  rintro ⟨⟨p, hp⟩, q, hq⟩
  apply hn
  have : B - A = g * (s' * p - m * q) := by grind
  rw [this]
  exact Int.mul_tmod_right _ _

/-- What lies in a progression and from low to high: so many steps off the least. -/
theorem cm_clamp {f low high y n : Int} (hy : 1 ≤ y) : ((∃ p, n = f + y * p) ∧ low ≤ n ∧ n ≤ high) ↔ (cmUp f low y ≤ n ∧ n ≤ high ∧ ∃ p, n = cmUp f low y + y * p) := by
  obtain ⟨h1, h2, p0, h3⟩ := cmUp_spec (f := f) (low := low) hy
  constructor
  · rintro ⟨⟨p, hp⟩, hl, hh⟩
    have he : n = cmUp f low y + y * (p - p0) := by rw [h3, Int.mul_sub]; omega
    refine ⟨?_, hh, p - p0, he⟩
    rcases Int.lt_or_le (p - p0) 0 with hneg | hpos
    · have := Int.mul_le_mul_of_nonneg_left (show p - p0 ≤ -1 by omega) (show (0 : Int) ≤ y by omega)
      omega
    · have := Int.mul_le_mul_of_nonneg_left hpos (show (0 : Int) ≤ y by omega)
      omega
  · rintro ⟨hl, hh, p, hp⟩
    exact ⟨⟨p0 + p, by rw [hp, h3, Int.mul_add]; omega⟩, by omega, hh⟩

/-- The divisor and the factor that the program finds. -/
theorem eu_facts {s t : Int} (hs : 1 ≤ s) (ht : 1 ≤ t) : 1 ≤ euG s t ∧ ((euX s t).natAbs : Int) ≤ t ∧ ∃ s' m u, s = euG s t * s' ∧ t = euG s t * m ∧ 1 ≤ s' ∧ 1 ≤ m ∧ m ≤ t ∧ s' ≤ s ∧ euG s t = s * euX s t + t * u ∧ cmM t (euG s t) = m := by
  obtain ⟨h1, ⟨u, hu⟩, h3⟩ := eu_spec (a := s) (b := t) (by omega) (by omega)
  have hpos : 1 ≤ euG s t := by
    rw [h1]
    have : 0 < Int.gcd s t := Int.gcd_pos_of_ne_zero_left t (by omega)
    omega
  obtain ⟨s', hs'⟩ : euG s t ∣ s := by rw [h1]; exact Int.gcd_dvd_left s t
  obtain ⟨m, hm⟩ : euG s t ∣ t := by rw [h1]; exact Int.gcd_dvd_right s t
  generalize euG s t = g at *
  have hs1 : 1 ≤ s' := by
    rcases Int.lt_or_le 0 s' with h | h
    · omega
    · have := Int.mul_le_mul_of_nonneg_left h (show (0 : Int) ≤ g by omega); omega
  have hm1 : 1 ≤ m := by
    rcases Int.lt_or_le 0 m with h | h
    · omega
    · have := Int.mul_le_mul_of_nonneg_left h (show (0 : Int) ≤ g by omega); omega
  have h5 := Int.mul_le_mul_of_nonneg_right hpos (show (0 : Int) ≤ m by omega)
  have h6 := Int.mul_le_mul_of_nonneg_right hpos (show (0 : Int) ≤ s' by omega)
  refine ⟨hpos, by omega, s', m, u, hs', hm, hs1, hm1, by omega, by omega, hu, ?_⟩
  unfold cmM
  have : (g * m).tdiv g = m := Int.mul_tdiv_cancel_left _ (by omega)
  rw [← hm] at this
  exact this

def cmF0 (A s B t : Int) : Int := A + s * cmK A B (euG s t) (cmM t (euG s t)) (euX s t)
def cmY (s t : Int) : Int := s * cmM t (euG s t)
def cmHi (A s C B t D : Int) : Int := min (sLast A s C) (sLast B t D)
def cmV (A s B t : Int) : Int := cmUp (cmF0 A s B t) (max A B) (cmY s t)
def cmE (A s C B t D : Int) : Bool := decide (C = 0 ∨ D = 0 ∨ (B - A).tmod (euG s t) ≠ 0 ∨ cmHi A s C B t D < cmV A s B t)
def cmFst (A s C B t D : Int) : Int := if cmE A s C B t D = true then 0 else cmV A s B t
def cmBy (A s C B t D : Int) : Int := if cmE A s C B t D = true then 0 else cmY s t
def cmCnt (A s C B t D : Int) : Int := if cmE A s C B t D = true then 0 else (cmHi A s C B t D - cmV A s B t).tdiv (cmY s t) + 1
/-- A series upwards that lies in the limits, or nothing. -/
def Ser (A s C : Int) : Prop := C = 0 ∨ (1 ≤ C ∧ C ≤ 2000001 ∧ 1 ≤ s ∧ s ≤ 2000000 ∧ -1000000 ≤ A ∧ A + s * (C - 1) ≤ 1000000)
end Go.RX.Span

/- What two series have both: the walk. -/
set_option linter.unusedVariables false
set_option linter.unusedSimpArgs false
set_option maxRecDepth 100000
namespace Go.RX.Span
open Go Go.RX

noncomputable abbrev kc : List (Nat × Con) := [(102, c_euclid), (103, c_last)] --%K
theorem kc_ok : ∀ p ∈ kc, ConOK P p.1 p.2 := by
  intro p hp
  simp only [kc, List.mem_cons, List.not_mem_nil, or_false] at hp
  rcases hp with rfl | rfl
  · exact euclid_ok
  · exact k7_ok (103, c_last) (by simp [k7, k6, k5, k4, k3, k2, k1])
theorem tmod_bnd {x m : Int} (hm : 1 ≤ m) : -m < x.tmod m ∧ x.tmod m < m := by
  have h1 := Int.tmod_lt_of_pos x (show 0 < m by omega)
  have h2 := Int.tmod_lt_of_pos (-x) (show 0 < m by omega)
  rw [Int.neg_tmod] at h2
  omega
theorem tdiv_bnd {x g N : Int} (hg : 1 ≤ g) (h : -N ≤ x ∧ x ≤ N) : -N ≤ x.tdiv g ∧ x.tdiv g ≤ N := by
  have h1 : (x.tdiv g).natAbs ≤ x.natAbs := by rw [Int.natAbs_tdiv]; exact Nat.div_le_self _ _
  omega
noncomputable def c_common : Con := fun args => match args with
  | [.agg [.lit (.int .i64 A), .lit (.int .i64 s), .lit (.int .i64 C)], .agg [.lit (.int .i64 B), .lit (.int .i64 t), .lit (.int .i64 D)]] =>
    .ask (Ser A s C ∧ Ser B t D) (.ret (.agg [.lit (.int .i64 (lk cmFst A s C B t D)), .lit (.int .i64 (lk cmBy A s C B t D)), .lit (.int .i64 (lk cmCnt A s C B t D))]))
  | _ => .stuck 1
set_option maxRecDepth 100000 in
theorem t_common (A s C B t D : Int) : conB Go.Proofs.Tryz.prog (conOf kc) noLoops 10 82 [.agg [.lit (.int .i64 A), .lit (.int .i64 s), .lit (.int .i64 C)], .agg [.lit (.int .i64 B), .lit (.int .i64 t), .lit (.int .i64 D)]] =
    T.br (U.eq C (0 : Int)) (.ret (.agg [.lit (.int .i64 0), .lit (.int .i64 0), .lit (.int .i64 0)])) (.br (U.eq D (0 : Int)) (.ret (.agg [.lit (.int .i64 0), .lit (.int .i64 0), .lit
      (.int .i64 0)])) (.ask ((0 : Int) ≤ s ∧ s ≤ (4000000 : Int) ∧ (0 : Int) ≤ t ∧ t ≤ (4000000 : Int)) (.ask (lk euG s t ≠ (0 : Int)) (.br (U.ne (U.rem (U.sub .i64 B A) (lk euG s t)) (0
      : Int)) (.ret (.agg [.lit (.int .i64 0), .lit (.int .i64 0), .lit (.int .i64 0)])) (.ask (lk euG s t ≠ (0 : Int)) (.ask (lk euG s t ≠ (0 : Int)) (.ask (U.quo .i64 t (lk euG s t) ≠
      (0 : Int)) (.ask (U.quo .i64 t (lk euG s t) ≠ (0 : Int)) (.ask (U.quo .i64 t (lk euG s t) ≠ (0 : Int)) (.ask (I64 (C - (1 : Int)) ∧ I64 (s * (C - (1 : Int))) ∧ I64 (A + s * (C - (1
      : Int)))) (.ask (I64 (D - (1 : Int)) ∧ I64 (t * (D - (1 : Int))) ∧ I64 (B + t * (D - (1 : Int)))) (.ask (U.mul .i64 s (U.quo .i64 t (lk euG s t)) ≠ (0 : Int)) (.br (U.lt (U.add .i64
      A (U.mul .i64 s (U.rem (U.mul .i64 (U.rem (U.quo .i64 (U.sub .i64 B A) (lk euG s t)) (U.quo .i64 t (lk euG s t))) (U.rem (lk euX s t) (U.quo .i64 t (lk euG s t)))) (U.quo .i64 t (lk
      euG s t))))) (U.mm true A B)) (.br (U.gt (U.rem (U.sub .i64 (U.mm true A B) (U.add .i64 A (U.mul .i64 s (U.rem (U.mul .i64 (U.rem (U.quo .i64 (U.sub .i64 B A) (lk euG s t)) (U.quo
      .i64 t (lk euG s t))) (U.rem (lk euX s t) (U.quo .i64 t (lk euG s t)))) (U.quo .i64 t (lk euG s t)))))) (U.mul .i64 s (U.quo .i64 t (lk euG s t)))) (0 : Int)) (.br (U.gt (U.add .i64
      (U.mm true A B) (U.sub .i64 (U.mul .i64 s (U.quo .i64 t (lk euG s t))) (U.rem (U.sub .i64 (U.mm true A B) (U.add .i64 A (U.mul .i64 s (U.rem (U.mul .i64 (U.rem (U.quo .i64 (U.sub
      .i64 B A) (lk euG s t)) (U.quo .i64 t (lk euG s t))) (U.rem (lk euX s t) (U.quo .i64 t (lk euG s t)))) (U.quo .i64 t (lk euG s t)))))) (U.mul .i64 s (U.quo .i64 t (lk euG s t))))))
      (U.mm false (lk sLast A s C) (lk sLast B t D))) (.ret (.agg [.lit (.int .i64 0), .lit (.int .i64 0), .lit (.int .i64 0)])) (.ask (U.mul .i64 s (U.quo .i64 t (lk euG s t)) ≠ (0 :
      Int)) (.ret (.agg [.lit (.int .i64 (U.add .i64 (U.mm true A B) (U.sub .i64 (U.mul .i64 s (U.quo .i64 t (lk euG s t))) (U.rem (U.sub .i64 (U.mm true A B) (U.add .i64 A (U.mul .i64 s
      (U.rem (U.mul .i64 (U.rem (U.quo .i64 (U.sub .i64 B A) (lk euG s t)) (U.quo .i64 t (lk euG s t))) (U.rem (lk euX s t) (U.quo .i64 t (lk euG s t)))) (U.quo .i64 t (lk euG s t))))))
      (U.mul .i64 s (U.quo .i64 t (lk euG s t))))))), .lit (.int .i64 (U.mul .i64 s (U.quo .i64 t (lk euG s t)))), .lit (.int .i64 (U.add .i64 (U.quo .i64 (U.sub .i64 (U.mm false (lk
      sLast A s C) (lk sLast B t D)) (U.add .i64 (U.mm true A B) (U.sub .i64 (U.mul .i64 s (U.quo .i64 t (lk euG s t))) (U.rem (U.sub .i64 (U.mm true A B) (U.add .i64 A (U.mul .i64 s
      (U.rem (U.mul .i64 (U.rem (U.quo .i64 (U.sub .i64 B A) (lk euG s t)) (U.quo .i64 t (lk euG s t))) (U.rem (lk euX s t) (U.quo .i64 t (lk euG s t)))) (U.quo .i64 t (lk euG s t))))))
      (U.mul .i64 s (U.quo .i64 t (lk euG s t))))))) (U.mul .i64 s (U.quo .i64 t (lk euG s t)))) (1 : Int)))])))) (.br (U.gt (U.mm true A B) (U.mm false (lk sLast A s C) (lk sLast B t
      D))) (.ret (.agg [.lit (.int .i64 0), .lit (.int .i64 0), .lit (.int .i64 0)])) (.ask (U.mul .i64 s (U.quo .i64 t (lk euG s t)) ≠ (0 : Int)) (.ret (.agg [.lit (.int .i64 (U.mm true
      A B)), .lit (.int .i64 (U.mul .i64 s (U.quo .i64 t (lk euG s t)))), .lit (.int .i64 (U.add .i64 (U.quo .i64 (U.sub .i64 (U.mm false (lk sLast A s C) (lk sLast B t D)) (U.mm true A
      B)) (U.mul .i64 s (U.quo .i64 t (lk euG s t)))) (1 : Int)))]))))) (.ask (U.mul .i64 s (U.quo .i64 t (lk euG s t)) ≠ (0 : Int)) (.br (U.gt (U.sub .i64 (U.add .i64 A (U.mul .i64 s
      (U.rem (U.mul .i64 (U.rem (U.quo .i64 (U.sub .i64 B A) (lk euG s t)) (U.quo .i64 t (lk euG s t))) (U.rem (lk euX s t) (U.quo .i64 t (lk euG s t)))) (U.quo .i64 t (lk euG s t)))))
      (U.mul .i64 (U.quo .i64 (U.sub .i64 (U.add .i64 A (U.mul .i64 s (U.rem (U.mul .i64 (U.rem (U.quo .i64 (U.sub .i64 B A) (lk euG s t)) (U.quo .i64 t (lk euG s t))) (U.rem (lk euX s t)
      (U.quo .i64 t (lk euG s t)))) (U.quo .i64 t (lk euG s t))))) (U.mm true A B)) (U.mul .i64 s (U.quo .i64 t (lk euG s t)))) (U.mul .i64 s (U.quo .i64 t (lk euG s t))))) (U.mm false
      (lk sLast A s C) (lk sLast B t D))) (.ret (.agg [.lit (.int .i64 0), .lit (.int .i64 0), .lit (.int .i64 0)])) (.ask (U.mul .i64 s (U.quo .i64 t (lk euG s t)) ≠ (0 : Int)) (.ret
      (.agg [.lit (.int .i64 (U.sub .i64 (U.add .i64 A (U.mul .i64 s (U.rem (U.mul .i64 (U.rem (U.quo .i64 (U.sub .i64 B A) (lk euG s t)) (U.quo .i64 t (lk euG s t))) (U.rem (lk euX s t)
      (U.quo .i64 t (lk euG s t)))) (U.quo .i64 t (lk euG s t))))) (U.mul .i64 (U.quo .i64 (U.sub .i64 (U.add .i64 A (U.mul .i64 s (U.rem (U.mul .i64 (U.rem (U.quo .i64 (U.sub .i64 B A)
      (lk euG s t)) (U.quo .i64 t (lk euG s t))) (U.rem (lk euX s t) (U.quo .i64 t (lk euG s t)))) (U.quo .i64 t (lk euG s t))))) (U.mm true A B)) (U.mul .i64 s (U.quo .i64 t (lk euG s
      t)))) (U.mul .i64 s (U.quo .i64 t (lk euG s t)))))), .lit (.int .i64 (U.mul .i64 s (U.quo .i64 t (lk euG s t)))), .lit (.int .i64 (U.add .i64 (U.quo .i64 (U.sub .i64 (U.mm false (lk
      sLast A s C) (lk sLast B t D)) (U.sub .i64 (U.add .i64 A (U.mul .i64 s (U.rem (U.mul .i64 (U.rem (U.quo .i64 (U.sub .i64 B A) (lk euG s t)) (U.quo .i64 t (lk euG s t))) (U.rem (lk
      euX s t) (U.quo .i64 t (lk euG s t)))) (U.quo .i64 t (lk euG s t))))) (U.mul .i64 (U.quo .i64 (U.sub .i64 (U.add .i64 A (U.mul .i64 s (U.rem (U.mul .i64 (U.rem (U.quo .i64 (U.sub
      .i64 B A) (lk euG s t)) (U.quo .i64 t (lk euG s t))) (U.rem (lk euX s t) (U.quo .i64 t (lk euG s t)))) (U.quo .i64 t (lk euG s t))))) (U.mm true A B)) (U.mul .i64 s (U.quo .i64 t
      (lk euG s t)))) (U.mul .i64 s (U.quo .i64 t (lk euG s t)))))) (U.mul .i64 s (U.quo .i64 t (lk euG s t)))) (1 : Int)))])))))))))))))))))) := by kernel_rfl
set_option maxHeartbeats 1000000 in
theorem common_ok : ConOK P 82 c_common := con_of (allOK mixed kc_ok) 10 82 fun args r h => by
  unfold c_common at h
  split at h
  · rename_i A s C B t D
    have hp := (T.is_ask h).1
    have h := (T.is_ask h).2
    obtain rfl := T.is_ret h
    rw [t_common]
    obtain ⟨hA, hB⟩ := hp
    by_cases hC : C = 0
    · have e : cmE A s C B t D = true := decide_eq_true (.inl hC)
      refine ⟨fun _ => ?_, fun h => absurd hC (by rwa [U.eq_f] at h)⟩
      simp only [lk_eq, cmFst, cmBy, cmCnt, e, if_true]
      exact rfl
    by_cases hD : D = 0
    · have e : cmE A s C B t D = true := decide_eq_true (.inr (.inl hD))
      refine ⟨fun h => absurd (by rwa [U.eq_t] at h) hC, fun _ => ⟨fun _ => ?_, fun h => absurd hD (by rwa [U.eq_f] at h)⟩⟩
      simp only [lk_eq, cmFst, cmBy, cmCnt, e, if_true]
      exact rfl
    obtain ⟨a1, a2, a3, a4, a5, a6⟩ : 1 ≤ C ∧ C ≤ 2000001 ∧ 1 ≤ s ∧ s ≤ 2000000 ∧ -1000000 ≤ A ∧ A + s * (C - 1) ≤ 1000000 := by rcases hA with h | h; exact absurd h hC; exact h
    obtain ⟨b1, b2, b3, b4, b5, b6⟩ : 1 ≤ D ∧ D ≤ 2000001 ∧ 1 ≤ t ∧ t ≤ 2000000 ∧ -1000000 ≤ B ∧ B + t * (D - 1) ≤ 1000000 := by rcases hB with h | h; exact absurd h hD; exact h
    obtain ⟨g1, g2, s', m, u, g3, g4, g5, g6, g7, g8, g9, g10⟩ := eu_facts a3 b3
    have hA1 := mulle (x := 0) (y := C - 1) a3 (by omega)
    have hB1 := mulle (x := 0) (y := D - 1) b3 (by omega)
    rw [Int.mul_zero] at hA1 hB1
    have e1 : U.sub .i64 B A = B - A := U.sub64 (by unfold I64; omega)
    have hQ := tdiv_bnd (x := B - A) (N := 2000000) g1 (by omega)
    have e2 : U.quo .i64 (B - A) (euG s t) = (B - A).tdiv (euG s t) := U.quo64 (by unfold I64; omega)
    have e3 : U.quo .i64 t (euG s t) = m := by rw [← g10]; exact U.quo64 (by show I64 (cmM t (euG s t)); rw [g10]; unfold I64; omega)
    have hQ1 := tmod_bnd (x := (B - A).tdiv (euG s t)) g6
    have hX1 := tmod_bnd (x := euX s t) g6
    have hP := mul_bnd (x := ((B - A).tdiv (euG s t)).tmod m) (y := (euX s t).tmod m) (X := 2000000) (Y := 2000000) (by omega) (by omega)
    have e4 : U.mul .i64 (((B - A).tdiv (euG s t)).tmod m) ((euX s t).tmod m) = ((B - A).tdiv (euG s t)).tmod m * (euX s t).tmod m := U.mul64 (by unfold I64; omega)
    have hK := tmod_bnd (x := ((B - A).tdiv (euG s t)).tmod m * (euX s t).tmod m) g6
    have hKe : cmK A B (euG s t) (cmM t (euG s t)) (euX s t) = (((B - A).tdiv (euG s t)).tmod m * (euX s t).tmod m).tmod m := by rw [g10]; rfl
    have hF0 : cmF0 A s B t = A + s * (((B - A).tdiv (euG s t)).tmod m * (euX s t).tmod m).tmod m := by unfold cmF0; rw [hKe]
    have hY : cmY s t = s * m := by unfold cmY; rw [g10]
    have hSK := mul_bnd (x := s) (y := (((B - A).tdiv (euG s t)).tmod m * (euX s t).tmod m).tmod m) (X := 2000000) (Y := 2000000) (by omega) (by omega)
    have hSM := mul_bnd (x := s) (y := m) (X := 2000000) (Y := 2000000) (by omega) (by omega)
    have hSM1 := mulle (s := s) (x := 1) (y := m) a3 g6
    rw [Int.mul_one] at hSM1
    have e5 : U.mul .i64 s (((((B - A).tdiv (euG s t)).tmod m * (euX s t).tmod m)).tmod m) = s * (((B - A).tdiv (euG s t)).tmod m * (euX s t).tmod m).tmod m := U.mul64 (by unfold I64; omega)
    have e6 : U.add .i64 A (s * (((B - A).tdiv (euG s t)).tmod m * (euX s t).tmod m).tmod m) = cmF0 A s B t := by rw [hF0]; exact U.add64 (by unfold I64; omega)
    have e7 : U.mul .i64 s m = cmY s t := by rw [hY]; exact U.mul64 (by unfold I64; omega)
    have hF0b : -4000001000000 ≤ cmF0 A s B t ∧ cmF0 A s B t ≤ 4000001000000 := by rw [hF0]; omega
    have hYb : 1 ≤ cmY s t ∧ cmY s t ≤ 4000000000000 := by rw [hY]; omega
    obtain ⟨v1, v2, _⟩ := cmUp_spec (f := cmF0 A s B t) (low := max A B) hYb.1
    have hHi : min (sLast A s C) (sLast B t D) = cmHi A s C B t D := rfl
    have hHb : -1000000 ≤ cmHi A s C B t D ∧ cmHi A s C B t D ≤ 1000000 := by unfold cmHi sLast; omega
    obtain ⟨L, hL⟩ : ∃ L, L = max A B := ⟨_, rfl⟩
    have hLb : -1000000 ≤ L ∧ L ≤ 1000000 := by
      have : A ≤ 1000000 := by omega
      omega
    have e8 : U.sub .i64 L (cmF0 A s B t) = L - cmF0 A s B t := U.sub64 (by unfold I64; omega)
    have e9 : U.sub .i64 (cmF0 A s B t) L = cmF0 A s B t - L := U.sub64 (by unfold I64; omega)
    have hqb := tdiv_bnd (x := cmF0 A s B t - L) (g := cmY s t) (N := 8000000000000) hYb.1 (by omega)
    have e10 : U.quo .i64 (cmF0 A s B t - L) (cmY s t) = (cmF0 A s B t - L).tdiv (cmY s t) := U.quo64 (by unfold I64; omega)
    simp only [lk_eq, mm_max, mm_min, U.rem_eq, e1, e2, e3, e4, e5, e6, e7, hHi, ← hL, e8, e9, e10]
    have hV : cmV A s B t = cmUp (cmF0 A s B t) L (cmY s t) := by rw [hL]; rfl
    rw [← hL, ← hV] at v1 v2
    have fin : ∀ v, cmV A s B t = v → (B - A).tmod (euG s t) = 0 → T.All (fun x => x = SV.agg [SV.lit (.int .i64 (cmFst A s C B t D)), SV.lit (.int .i64 (cmBy A s C B t D)), SV.lit (.int .i64 (cmCnt A s C B t D))])
        (T.br (U.gt v (cmHi A s C B t D)) (T.ret (SV.agg [SV.lit (.int .i64 0), SV.lit (.int .i64 0), SV.lit (.int .i64 0)]))
          (T.ask (cmY s t ≠ 0) (T.ret (SV.agg [SV.lit (.int .i64 v), SV.lit (.int .i64 (cmY s t)), SV.lit (.int .i64 (U.add .i64 (U.quo .i64 (U.sub .i64 (cmHi A s C B t D) v) (cmY s t)) 1))])))) := fun v hv hz => by
      by_cases hgt : cmHi A s C B t D < v
      · have e : cmE A s C B t D = true := decide_eq_true (.inr (.inr (.inr (by rw [hv]; exact hgt))))
        refine ⟨fun _ => ?_, fun h => absurd hgt (by rw [U.gt_f] at h; omega)⟩
        simp only [cmFst, cmBy, cmCnt, e, if_true]
        exact rfl
      · have e : cmE A s C B t D = false := decide_eq_false (by
          rintro (h | h | h | h)
          · exact hC h
          · exact hD h
          · exact h hz
          · rw [hv] at h; exact hgt h)
        refine ⟨fun h => absurd (by rw [U.gt_t] at h; omega) hgt, fun _ => ⟨by omega, ?_⟩⟩
        have f1 : U.sub .i64 (cmHi A s C B t D) v = cmHi A s C B t D - v := U.sub64 (by unfold I64; omega)
        have hqv := tdiv_bnd (x := cmHi A s C B t D - v) (g := cmY s t) (N := 8000000000000) hYb.1 (by omega)
        have f2 : U.quo .i64 (cmHi A s C B t D - v) (cmY s t) = (cmHi A s C B t D - v).tdiv (cmY s t) := U.quo64 (by unfold I64; omega)
        have f3 : U.add .i64 ((cmHi A s C B t D - v).tdiv (cmY s t)) 1 = (cmHi A s C B t D - v).tdiv (cmY s t) + 1 := U.add64 (by unfold I64; omega)
        rw [f1, f2, f3]
        simp only [cmFst, cmBy, cmCnt, e, hv]
        exact rfl
    have hAC : I64 (C - 1) ∧ I64 (s * (C - 1)) ∧ I64 (A + s * (C - 1)) := by unfold I64; omega
    have hBD : I64 (D - 1) ∧ I64 (t * (D - 1)) ∧ I64 (B + t * (D - 1)) := by unfold I64; omega
    refine ⟨fun h => absurd (by rwa [U.eq_t] at h) hC, fun _ => ⟨fun h => absurd (by rwa [U.eq_t] at h) hD, fun _ => ⟨by omega, by omega, fun h => ?_, fun h => ⟨by omega, by omega, by omega, by omega, by omega, hAC, hBD, by omega, fun hlt => ⟨fun hd => ?_, fun hd => ?_⟩, fun hge => ⟨by omega, ?_⟩⟩⟩⟩⟩
    · rw [U.ne_t] at h
      have e : cmE A s C B t D = true := decide_eq_true (.inr (.inr (.inl h)))
      simp only [cmFst, cmBy, cmCnt, e, if_true]
      exact rfl
    · rw [U.lt_t] at hlt
      rw [U.gt_t] at hd
      rw [U.ne_f] at h
      have hdb := tmod_bnd (x := L - cmF0 A s B t) hYb.1
      have f1 : U.sub .i64 (cmY s t) ((L - cmF0 A s B t).tmod (cmY s t)) = cmY s t - (L - cmF0 A s B t).tmod (cmY s t) := U.sub64 (by unfold I64; omega)
      have f2 : U.add .i64 L (cmY s t - (L - cmF0 A s B t).tmod (cmY s t)) = L + (cmY s t - (L - cmF0 A s B t).tmod (cmY s t)) := U.add64 (by unfold I64; omega)
      rw [f1, f2]
      exact fin _ (by rw [hV]; unfold cmUp; rw [if_pos hlt, if_pos hd]) h
    · rw [U.lt_t] at hlt
      rw [U.gt_f] at hd
      rw [U.ne_f] at h
      exact fin _ (by rw [hV]; unfold cmUp; rw [if_pos hlt, if_neg (by omega)]) h
    · rw [U.lt_f] at hge
      rw [U.ne_f] at h
      have t1 := Int.tdiv_eq_ediv_of_nonneg (b := cmY s t) (show 0 ≤ cmF0 A s B t - L by omega)
      have t2 := Int.mul_ediv_add_emod (cmF0 A s B t - L) (cmY s t)
      have t3 := Int.emod_nonneg (cmF0 A s B t - L) (show cmY s t ≠ 0 by omega)
      have t4 := Int.emod_lt_of_pos (cmF0 A s B t - L) (show 0 < cmY s t by omega)
      have t5 : (cmF0 A s B t - L).tdiv (cmY s t) * cmY s t = cmY s t * ((cmF0 A s B t - L) / cmY s t) := by rw [t1, Int.mul_comm]
      have f1 : U.mul .i64 ((cmF0 A s B t - L).tdiv (cmY s t)) (cmY s t) = (cmF0 A s B t - L).tdiv (cmY s t) * cmY s t := U.mul64 (by rw [t5]; unfold I64; omega)
      have f2 : U.sub .i64 (cmF0 A s B t) ((cmF0 A s B t - L).tdiv (cmY s t) * cmY s t) = cmF0 A s B t - (cmF0 A s B t - L).tdiv (cmY s t) * cmY s t := U.sub64 (by rw [t5]; unfold I64; omega)
      rw [f1, f2]
      exact fin _ (by rw [hV]; unfold cmUp; rw [if_neg (by omega)]) h
  · exact h.elim
end Go.RX.Span

/- Ranges as sets of numbers, in plain Lean. -/
set_option linter.unusedVariables false
set_option linter.unusedSimpArgs false
namespace Go.RX.Span
open Go Go.RX

/-- The numbers of a series upwards. -/
def SIn (F s C n : Int) : Prop := F ≤ n ∧ n ≤ F + s * (C - 1) ∧ 0 < C ∧ ∃ p, n = F + s * p
/-- A series upwards in the limits, of whatever step, or nothing. -/
def Sw (F s C : Int) : Prop := C = 0 ∨ (1 ≤ C ∧ 1 ≤ s ∧ s ≤ 4000000000000 ∧ -1000000 ≤ F ∧ F + s * (C - 1) ≤ 1000000)
theorem sIn_first {F s C : Int} (hs : 1 ≤ s) (hC : 1 ≤ C) : SIn F s C F := by
  have := mulle (x := 0) (y := C - 1) hs (by omega)
  rw [Int.mul_zero] at this
  exact ⟨by omega, by omega, by omega, 0, by omega⟩
theorem sIn_last {F s C : Int} (hs : 1 ≤ s) (hC : 1 ≤ C) : SIn F s C (F + s * (C - 1)) := by
  have := mulle (x := 0) (y := C - 1) hs (by omega)
  rw [Int.mul_zero] at this
  exact ⟨by omega, by omega, by omega, C - 1, rfl⟩
theorem sIn_second {F s C : Int} (hs : 1 ≤ s) (hC : 2 ≤ C) : SIn F s C (F + s) := by
  have := mulle (x := 1) (y := C - 1) hs (by omega)
  rw [Int.mul_one] at this
  exact ⟨by omega, by omega, by omega, 1, by omega⟩

/-- Two series with the same numbers are the same, but for the step of a single one. -/
theorem sIn_ext {F s C A t D : Int} (h1 : Sw F s C) (h2 : Sw A t D) (h : ∀ n, SIn F s C n ↔ SIn A t D n) : C = D ∧ (1 ≤ C → F = A ∧ s * (C - 1) = t * (D - 1)) := by
  by_cases hC : C = 0
  · by_cases hD : D = 0
    · exact ⟨by omega, fun h => by omega⟩
    · have h2' := h2.resolve_left hD
      have := ((h A).2 (sIn_first h2'.2.1 h2'.1)).2.2.1
      omega
  · have h1' := h1.resolve_left hC
    have hD : D ≠ 0 := fun hD => by have := ((h F).1 (sIn_first h1'.2.1 h1'.1)).2.2.1; omega
    have h2' := h2.resolve_left hD
    have f1 := (h F).1 (sIn_first h1'.2.1 h1'.1)
    have f2 := (h A).2 (sIn_first h2'.2.1 h2'.1)
    have l1 := (h _).1 (sIn_last h1'.2.1 h1'.1)
    have l2 := (h _).2 (sIn_last h2'.2.1 h2'.1)
    have hF : F = A := by have := f1.1; have := f2.1; omega
    have hL : s * (C - 1) = t * (D - 1) := by have := l1.2.1; have := l2.2.1; omega
    refine ⟨?_, fun _ => ⟨hF, hL⟩⟩
    have hs := h1'.2.1
    have ht := h2'.2.1
    rcases Int.lt_or_le 1 C with hc1 | hc1
    · rcases Int.lt_or_le 1 D with hd1 | hd1
      · obtain ⟨_, _, _, p, hp⟩ := (h _).1 (sIn_second hs (by omega : 2 ≤ C))
        obtain ⟨_, _, _, q, hq⟩ := (h _).2 (sIn_second ht (by omega : 2 ≤ D))
        have e1 : s = t * p := by omega
        have e2 : t = s * q := by omega
        have hst : s = t := by
          have hp1 : 1 ≤ p := by
            rcases Int.lt_or_le 0 p with h | h
            · omega
            · have := Int.mul_le_mul_of_nonneg_left h (show (0 : Int) ≤ t by omega); omega
          have hq1 : 1 ≤ q := by
            rcases Int.lt_or_le 0 q with h | h
            · omega
            · have := Int.mul_le_mul_of_nonneg_left h (show (0 : Int) ≤ s by omega); omega
          have := mulle (s := t) (x := 1) (y := p) ht hp1
          have := mulle (s := s) (x := 1) (y := q) hs hq1
          omega
        subst hst
        have := Int.eq_of_mul_eq_mul_left (by omega) hL
        omega
      · have : D = 1 := by omega
        subst this
        rw [Int.sub_self, Int.mul_zero] at hL
        have := (mul0 (s := s) (k := C - 1) hs).1 hL
        omega
    · have : C = 1 := by omega
      subst this
      rw [Int.sub_self, Int.mul_zero] at hL
      have := (mul0 (s := t) (k := D - 1) ht).1 hL.symm
      omega

/-- What the program reckons for two series has just the numbers of both. -/
theorem cm_set {A s C B t D : Int} (hA : Ser A s C) (hB : Ser B t D) : Sw (cmFst A s C B t D) (cmBy A s C B t D) (cmCnt A s C B t D) ∧ ∀ n, SIn (cmFst A s C B t D) (cmBy A s C B t D) (cmCnt A s C B t D) n ↔ SIn A s C n ∧ SIn B t D n := by
  by_cases hC : C = 0
  · have e : cmE A s C B t D = true := decide_eq_true (.inl hC)
    simp only [cmFst, cmBy, cmCnt, e, if_true]
    exact ⟨.inl rfl, fun n => ⟨fun h => by have := h.2.2.1; omega, fun h => by have := h.1.2.2.1; omega⟩⟩
  by_cases hD : D = 0
  · have e : cmE A s C B t D = true := decide_eq_true (.inr (.inl hD))
    simp only [cmFst, cmBy, cmCnt, e, if_true]
    exact ⟨.inl rfl, fun n => ⟨fun h => by have := h.2.2.1; omega, fun h => by have := h.2.2.2.1; omega⟩⟩
  obtain ⟨a1, a2, a3, a4, a5, a6⟩ := hA.resolve_left hC
  obtain ⟨b1, b2, b3, b4, b5, b6⟩ := hB.resolve_left hD
  obtain ⟨g1, g2, s', m, u, g3, g4, g5, g6, g7, g8, g9, g10⟩ := eu_facts a3 b3
  have hA1 := mulle (x := 0) (y := C - 1) a3 (by omega)
  have hB1 := mulle (x := 0) (y := D - 1) b3 (by omega)
  rw [Int.mul_zero] at hA1 hB1
  by_cases hz : (B - A).tmod (euG s t) = 0
  · obtain ⟨Q, hQ⟩ := Int.dvd_of_tmod_eq_zero hz
    have hY : cmY s t = s * m := by unfold cmY; rw [g10]
    have hSM1 := mulle (s := s) (x := 1) (y := m) a3 g6
    rw [Int.mul_one] at hSM1
    have hYb : 1 ≤ cmY s t := by rw [hY]; omega
    have hYt : cmY s t ≤ 4000000000000 := by
      rw [hY]
      have := mulle (s := s) (x := m) (y := 2000000) a3 (by omega)
      omega
    have hfa : ∃ p, cmF0 A s B t = A + s * p := ⟨_, rfl⟩
    have hfb : ∃ q, cmF0 A s B t = B + t * q := by unfold cmF0; rw [g10]; exact cm_first g3 g4 g9 hQ g1 g6
    have both := fun n => cm_both (n := n) g3 g4 g9 g1 hfa hfb
    have clamp := fun n => cm_clamp (f := cmF0 A s B t) (low := max A B) (high := cmHi A s C B t D) (n := n) hYb
    have hHi : cmHi A s C B t D = min (A + s * (C - 1)) (B + t * (D - 1)) := rfl
    have key : ∀ n, (SIn A s C n ∧ SIn B t D n) ↔ (cmV A s B t ≤ n ∧ n ≤ cmHi A s C B t D ∧ ∃ p, n = cmV A s B t + cmY s t * p) := fun n => by
      rw [show cmV A s B t = cmUp (cmF0 A s B t) (max A B) (cmY s t) from rfl, ← clamp n, hY, ← both n, hHi]
      constructor
      · rintro ⟨⟨x1, x2, _, x3⟩, ⟨y1, y2, _, y3⟩⟩
        exact ⟨⟨x3, y3⟩, by omega, by omega⟩
      · rintro ⟨⟨x3, y3⟩, z1, z2⟩
        exact ⟨⟨by omega, by omega, by omega, x3⟩, ⟨by omega, by omega, by omega, y3⟩⟩
    obtain ⟨v1, v2, _⟩ := cmUp_spec (f := cmF0 A s B t) (low := max A B) hYb
    have v1' : max A B ≤ cmV A s B t := v1
    by_cases hgt : cmHi A s C B t D < cmV A s B t
    · have e : cmE A s C B t D = true := decide_eq_true (.inr (.inr (.inr hgt)))
      simp only [cmFst, cmBy, cmCnt, e, if_true]
      refine ⟨.inl rfl, fun n => ⟨fun h => by have := h.2.2.1; omega, fun h => ?_⟩⟩
      have := (key n).1 h
      omega
    · have e : cmE A s C B t D = false := decide_eq_false (by
        rintro (h | h | h | h)
        · exact hC h
        · exact hD h
        · exact h hz
        · exact hgt h)
      simp only [cmFst, cmBy, cmCnt, e, Bool.false_eq_true, if_false]
      have t1 := Int.tdiv_eq_ediv_of_nonneg (b := cmY s t) (show 0 ≤ cmHi A s C B t D - cmV A s B t by omega)
      have t2 := Int.mul_ediv_add_emod (cmHi A s C B t D - cmV A s B t) (cmY s t)
      have t3 := Int.emod_nonneg (cmHi A s C B t D - cmV A s B t) (show cmY s t ≠ 0 by omega)
      have t4 := Int.emod_lt_of_pos (cmHi A s C B t D - cmV A s B t) (show 0 < cmY s t by omega)
      have t5 := Int.ediv_nonneg (show 0 ≤ cmHi A s C B t D - cmV A s B t by omega) (show 0 ≤ cmY s t by omega)
      rw [t1]
      obtain ⟨q, hq⟩ : ∃ q, q = (cmHi A s C B t D - cmV A s B t) / cmY s t := ⟨_, rfl⟩
      rw [← hq] at t2 t5 ⊢
      refine ⟨.inr ⟨by omega, hYb, hYt, by omega, by rw [show q + 1 - 1 = q by omega]; omega⟩, fun n => ?_⟩
      rw [key n]
      unfold SIn
      rw [show q + 1 - 1 = q by omega]
      constructor
      · rintro ⟨x1, x2, x3, x4⟩
        exact ⟨x1, by omega, x4⟩
      · rintro ⟨x1, x2, p, hp⟩
        refine ⟨x1, ?_, by omega, p, hp⟩
        rcases Int.lt_or_le q p with h | h
        · have := mulle (s := cmY s t) (x := q + 1) (y := p) hYb (by omega)
          rw [Int.mul_add, Int.mul_one] at this
          omega
        · have := mulle (s := cmY s t) (x := p) (y := q) hYb h
          omega
  · have e : cmE A s C B t D = true := decide_eq_true (.inr (.inr (.inl hz)))
    simp only [cmFst, cmBy, cmCnt, e, if_true]
    exact ⟨.inl rfl, fun n => ⟨fun h => by have := h.2.2.1; omega, fun h => absurd ⟨h.1.2.2.2, h.2.2.2.2⟩ (cm_none g3 g4 hz)⟩⟩

/-- A right range as a series upwards. -/
def sA (a b c : Int) : Int := uF (ofF a b c) (ofB a b c) (ofC a b c)
def sS (a b c : Int) : Int := uB (ofF a b c) (ofB a b c) (ofC a b c)
theorem up_ser {a b c : Int} (hr : Right a b c) : Ser (sA a b c) (sS a b c) (ofC a b c) := by
  by_cases hab : a ≤ b
  · obtain ⟨p1, p2, p3, p4, p5, _⟩ := parts hr hab
    obtain ⟨u1, u2⟩ := up_of hr hab
    have hl := hr.1
    exact .inr (by unfold sA sS; rw [u1, u2]; omega)
  · exact .inl (empty_of (c := c) hab).2.2
theorem up_ask {a b c : Int} (hr : Right a b c) : ofB a b c < 0 → ofC a b c ≠ 0 → I64 (ofC a b c - 1) ∧ I64 (ofB a b c * (ofC a b c - 1)) ∧ I64 (ofF a b c + ofB a b c * (ofC a b c - 1)) ∧ I64 (-ofB a b c) := fun h1 h2 => by
  have hab : a ≤ b := by
    by_cases hab : a ≤ b
    · exact hab
    · exact absurd (empty_of (c := c) hab).2.2 h2
  obtain ⟨p1, p2, p3, p4, p5, p6, p7, _⟩ := parts hr hab
  have hl := hr.1
  rw [p6] at h1 ⊢
  rw [p7, if_pos h1]
  have e : c * (ofC a b c - 1) = -(absI c * (ofC a b c - 1)) := by rw [absI_neg h1, Int.neg_mul, Int.neg_neg]
  have e2 := absI_neg h1
  rw [e]
  unfold I64
  omega
/-- The numbers of a right range. -/
def RIn (a b c n : Int) : Prop := SIn (sA a b c) (sS a b c) (ofC a b c) n
end Go.RX.Span

/- Intersect and Within of the program: the walks. -/
set_option linter.unusedVariables false
set_option linter.unusedSimpArgs false
set_option maxRecDepth 100000
namespace Go.RX.Span
open Go Go.RX

def ckd (a b c x y z : Int) : Int := if chk a b c ≠ 0 then chk a b c else chk x y z
noncomputable def c_checked : Con := fun args => match args with
  | [.agg [.lit (.int .i64 a), .lit (.int .i64 b), .lit (.int .i64 c)], .agg [.lit (.int .i64 x), .lit (.int .i64 y), .lit (.int .i64 z)]] =>
    .ask (I64 a ∧ I64 b ∧ I64 c ∧ I64 x ∧ I64 y ∧ I64 z) (.ret (.lit (.int .i64 (lk ckd a b c x y z))))
  | _ => .stuck 1
set_option maxRecDepth 100000 in
theorem t_checked (a b c x y z : Int) : conB Go.Proofs.Tryz.prog (conOf k8) noLoops 10 81 [.agg [.lit (.int .i64 a), .lit (.int .i64 b), .lit (.int .i64 c)], .agg [.lit (.int .i64 x), .lit (.int .i64 y), .lit (.int .i64 z)]] =
    T.ask (I64 a ∧ I64 b ∧ I64 c) (.br (U.ne (lk chk a b c) (0 : Int)) (.ret (.lit (.int .i64 (lk chk a b c)))) (.ask (I64 x ∧ I64 y ∧ I64 z) (.ret (.lit (.int .i64 (lk chk x y z)))))) := by kernel_rfl
theorem checked_ok : ConOK P 81 c_checked := con_of (allOK mixed k8_ok) 10 81 fun args r h => by
  unfold c_checked at h
  split at h
  · rename_i a b c x y z
    have hp := (T.is_ask h).1
    have h := (T.is_ask h).2
    obtain rfl := T.is_ret h
    rw [t_checked]
    obtain ⟨ha, hb, hc, hx, hy, hz⟩ := hp
    by_cases h1 : chk a b c = 0 <;> simp [T.All, U.ne_eq, lk_eq, ckd, h1, ha, hb, hc, hx, hy, hz]
  · exact h.elim

noncomputable abbrev ke : List (Nat × Con) := (81, c_checked) :: (82, c_common) :: (102, c_euclid) :: k8
theorem ke_ok : ∀ p ∈ ke, ConOK P p.1 p.2 := by
  intro p hp
  simp only [ke, List.mem_cons] at hp
  rcases hp with rfl | rfl | rfl | hp
  · exact checked_ok
  · exact common_ok
  · exact euclid_ok
  · exact k8_ok p (by simpa [k8] using hp)
theorem ckd_right {a b c x y z : Int} (h : ckd a b c x y z = 0) : Right a b c ∧ Right x y z := by
  unfold ckd at h
  by_cases h1 : chk a b c = 0
  · rw [if_neg (by simp [h1])] at h
    exact ⟨chk_zero.1 h1, chk_zero.1 h⟩
  · rw [if_pos h1] at h
    exact absurd h h1
end Go.RX.Span

/- Intersect and Within of the program: the walks. -/
set_option linter.unusedVariables false
set_option linter.unusedSimpArgs false
set_option maxRecDepth 100000
namespace Go.RX.Span
open Go Go.RX

def isF (a b c x y z : Int) : Int := cmFst (sA a b c) (sS a b c) (ofC a b c) (sA x y z) (sS x y z) (ofC x y z)
def isB (a b c x y z : Int) : Int := cmBy (sA a b c) (sS a b c) (ofC a b c) (sA x y z) (sS x y z) (ofC x y z)
def isC (a b c x y z : Int) : Int := cmCnt (sA a b c) (sS a b c) (ofC a b c) (sA x y z) (sS x y z) (ofC x y z)
def isL (a b c x y z : Int) : Int := if ckd a b c x y z ≠ 0 then 0 else nLow (kF (isF a b c x y z) (isB a b c x y z) (isC a b c x y z) c) (kB (isF a b c x y z) (isB a b c x y z) (isC a b c x y z) c) (isC a b c x y z)
def isH (a b c x y z : Int) : Int := if ckd a b c x y z ≠ 0 then 0 else nHigh (kF (isF a b c x y z) (isB a b c x y z) (isC a b c x y z) c) (kB (isF a b c x y z) (isB a b c x y z) (isC a b c x y z) c) (isC a b c x y z)
def isS (a b c x y z : Int) : Int := if ckd a b c x y z ≠ 0 then 0 else nStr (kF (isF a b c x y z) (isB a b c x y z) (isC a b c x y z) c) (kB (isF a b c x y z) (isB a b c x y z) (isC a b c x y z) c) (isC a b c x y z)
def isEr (a b c x y z : Int) : Int := if ckd a b c x y z ≠ 0 then ckd a b c x y z else nErr (kF (isF a b c x y z) (isB a b c x y z) (isC a b c x y z) c) (kB (isF a b c x y z) (isB a b c x y z) (isC a b c x y z) c) (isC a b c x y z)
theorem is_sw {a b c x y z : Int} (h : Right a b c) (h' : Right x y z) : Sw (isF a b c x y z) (isB a b c x y z) (isC a b c x y z) ∧ ∀ n, SIn (isF a b c x y z) (isB a b c x y z) (isC a b c x y z) n ↔ RIn a b c n ∧ RIn x y z n :=
  cm_set (up_ser h) (up_ser h')

theorem like_ask {F B C c : Int} (h : Sw F B C) : c < 0 → C ≠ 0 → I64 (C - 1) ∧ I64 (B * (C - 1)) ∧ I64 (F + B * (C - 1)) ∧ I64 (-B) := fun _ hC => by
  obtain ⟨h1, h2, h3, h4, h5⟩ := h.resolve_left hC
  have m0 := mulle (s := B) (x := 0) (y := C - 1) h2 (by omega)
  have m1 : 1 * (C - 1) ≤ B * (C - 1) := Int.mul_le_mul_of_nonneg_right h2 (by omega)
  rw [Int.mul_zero] at m0
  unfold I64
  omega
theorem norm_ask {F B C c : Int} (h : Sw F B C) : 0 < C → I64 (C - 1) ∧ I64 (kB F B C c * (C - 1)) ∧ I64 (kF F B C c + kB F B C c * (C - 1)) := fun hC => by
  obtain ⟨h1, h2, h3, h4, h5⟩ := h.resolve_left (by omega)
  have m0 := mulle (s := B) (x := 0) (y := C - 1) h2 (by omega)
  have m1 : 1 * (C - 1) ≤ B * (C - 1) := Int.mul_le_mul_of_nonneg_right h2 (by omega)
  rw [Int.mul_zero] at m0
  obtain ⟨k1, k2⟩ := like_bnd (f := F) (s := B) (C := C) (c := c) (by omega)
  unfold I64
  rcases k1 with k1 | k1 <;> rcases k2 with k2 | k2 <;> rw [k2, k1] <;> omega
noncomputable def c_Intersect : Con := fun args => match args with
  | [.agg [.lit (.int .i64 a), .lit (.int .i64 b), .lit (.int .i64 c)], .agg [.lit (.int .i64 x), .lit (.int .i64 y), .lit (.int .i64 z)]] =>
    .ask (I64 a ∧ I64 b ∧ I64 c ∧ I64 x ∧ I64 y ∧ I64 z) (.ret (.tup [.agg [.lit (.int .i64 (lk isL a b c x y z)), .lit (.int .i64 (lk isH a b c x y z)), .lit (.int .i64 (lk isS a b c x y z))], .lit (.int .i64 (lk isEr a b c x y z))]))
  | _ => .stuck 1
set_option maxRecDepth 100000 in
theorem t_Intersect (a b c x y z : Int) : conB Go.Proofs.Tryz.prog (conOf ke) noLoops 10 57 [.agg [.lit (.int .i64 a), .lit (.int .i64 b), .lit (.int .i64 c)], .agg [.lit (.int .i64 x), .lit (.int .i64 y), .lit (.int .i64 z)]] =
    T.ask (I64 a ∧ I64 b ∧ I64 c ∧ I64 x ∧ I64 y ∧ I64 z) (.br (U.ne (lk ckd a b c x y z) (0 : Int)) (.ret (.tup [.agg [.lit (.int .i64 0), .lit (.int .i64 0), .lit (.int .i64 0)], .lit
      (.int .i64 (lk ckd a b c x y z))])) (.ask (a ≤ b → c ≠ (0 : Int) ∧ (-9223372036854775807 : Int) ≤ c ∧ b - a < (9223372036854775807 : Int) ∧ I64 a ∧ I64 b ∧ I64 c) (.ask (lk ofB a b
      c < (0 : Int) → lk ofC a b c ≠ (0 : Int) → I64 (lk ofC a b c - (1 : Int)) ∧ I64 (lk ofB a b c * (lk ofC a b c - (1 : Int))) ∧ I64 (lk ofF a b c + lk ofB a b c * (lk ofC a b c - (1 :
      Int))) ∧ I64 (-lk ofB a b c)) (.ask (x ≤ y → z ≠ (0 : Int) ∧ (-9223372036854775807 : Int) ≤ z ∧ y - x < (9223372036854775807 : Int) ∧ I64 x ∧ I64 y ∧ I64 z) (.ask (lk ofB x y z < (0
      : Int) → lk ofC x y z ≠ (0 : Int) → I64 (lk ofC x y z - (1 : Int)) ∧ I64 (lk ofB x y z * (lk ofC x y z - (1 : Int))) ∧ I64 (lk ofF x y z + lk ofB x y z * (lk ofC x y z - (1 : Int)))
      ∧ I64 (-lk ofB x y z)) (.ask (Ser (lk uF (lk ofF a b c) (lk ofB a b c) (lk ofC a b c)) (lk uB (lk ofF a b c) (lk ofB a b c) (lk ofC a b c)) (lk ofC a b c) ∧ Ser (lk uF (lk ofF x y
      z) (lk ofB x y z) (lk ofC x y z)) (lk uB (lk ofF x y z) (lk ofB x y z) (lk ofC x y z)) (lk ofC x y z)) (.ask (c < (0 : Int) → lk cmCnt (lk uF (lk ofF a b c) (lk ofB a b c) (lk ofC a
      b c)) (lk uB (lk ofF a b c) (lk ofB a b c) (lk ofC a b c)) (lk ofC a b c) (lk uF (lk ofF x y z) (lk ofB x y z) (lk ofC x y z)) (lk uB (lk ofF x y z) (lk ofB x y z) (lk ofC x y z))
      (lk ofC x y z) ≠ (0 : Int) → I64 (lk cmCnt (lk uF (lk ofF a b c) (lk ofB a b c) (lk ofC a b c)) (lk uB (lk ofF a b c) (lk ofB a b c) (lk ofC a b c)) (lk ofC a b c) (lk uF (lk ofF x
      y z) (lk ofB x y z) (lk ofC x y z)) (lk uB (lk ofF x y z) (lk ofB x y z) (lk ofC x y z)) (lk ofC x y z) - (1 : Int)) ∧ I64 (lk cmBy (lk uF (lk ofF a b c) (lk ofB a b c) (lk ofC a b
      c)) (lk uB (lk ofF a b c) (lk ofB a b c) (lk ofC a b c)) (lk ofC a b c) (lk uF (lk ofF x y z) (lk ofB x y z) (lk ofC x y z)) (lk uB (lk ofF x y z) (lk ofB x y z) (lk ofC x y z)) (lk
      ofC x y z) * (lk cmCnt (lk uF (lk ofF a b c) (lk ofB a b c) (lk ofC a b c)) (lk uB (lk ofF a b c) (lk ofB a b c) (lk ofC a b c)) (lk ofC a b c) (lk uF (lk ofF x y z) (lk ofB x y z)
      (lk ofC x y z)) (lk uB (lk ofF x y z) (lk ofB x y z) (lk ofC x y z)) (lk ofC x y z) - (1 : Int))) ∧ I64 (lk cmFst (lk uF (lk ofF a b c) (lk ofB a b c) (lk ofC a b c)) (lk uB (lk ofF
      a b c) (lk ofB a b c) (lk ofC a b c)) (lk ofC a b c) (lk uF (lk ofF x y z) (lk ofB x y z) (lk ofC x y z)) (lk uB (lk ofF x y z) (lk ofB x y z) (lk ofC x y z)) (lk ofC x y z) + lk
      cmBy (lk uF (lk ofF a b c) (lk ofB a b c) (lk ofC a b c)) (lk uB (lk ofF a b c) (lk ofB a b c) (lk ofC a b c)) (lk ofC a b c) (lk uF (lk ofF x y z) (lk ofB x y z) (lk ofC x y z))
      (lk uB (lk ofF x y z) (lk ofB x y z) (lk ofC x y z)) (lk ofC x y z) * (lk cmCnt (lk uF (lk ofF a b c) (lk ofB a b c) (lk ofC a b c)) (lk uB (lk ofF a b c) (lk ofB a b c) (lk ofC a b
      c)) (lk ofC a b c) (lk uF (lk ofF x y z) (lk ofB x y z) (lk ofC x y z)) (lk uB (lk ofF x y z) (lk ofB x y z) (lk ofC x y z)) (lk ofC x y z) - (1 : Int))) ∧ I64 (-lk cmBy (lk uF (lk
      ofF a b c) (lk ofB a b c) (lk ofC a b c)) (lk uB (lk ofF a b c) (lk ofB a b c) (lk ofC a b c)) (lk ofC a b c) (lk uF (lk ofF x y z) (lk ofB x y z) (lk ofC x y z)) (lk uB (lk ofF x y
      z) (lk ofB x y z) (lk ofC x y z)) (lk ofC x y z))) (.ask ((0 : Int) < lk cmCnt (lk uF (lk ofF a b c) (lk ofB a b c) (lk ofC a b c)) (lk uB (lk ofF a b c) (lk ofB a b c) (lk ofC a b
      c)) (lk ofC a b c) (lk uF (lk ofF x y z) (lk ofB x y z) (lk ofC x y z)) (lk uB (lk ofF x y z) (lk ofB x y z) (lk ofC x y z)) (lk ofC x y z) → I64 (lk cmCnt (lk uF (lk ofF a b c) (lk
      ofB a b c) (lk ofC a b c)) (lk uB (lk ofF a b c) (lk ofB a b c) (lk ofC a b c)) (lk ofC a b c) (lk uF (lk ofF x y z) (lk ofB x y z) (lk ofC x y z)) (lk uB (lk ofF x y z) (lk ofB x y
      z) (lk ofC x y z)) (lk ofC x y z) - (1 : Int)) ∧ I64 (lk kB (lk cmFst (lk uF (lk ofF a b c) (lk ofB a b c) (lk ofC a b c)) (lk uB (lk ofF a b c) (lk ofB a b c) (lk ofC a b c)) (lk
      ofC a b c) (lk uF (lk ofF x y z) (lk ofB x y z) (lk ofC x y z)) (lk uB (lk ofF x y z) (lk ofB x y z) (lk ofC x y z)) (lk ofC x y z)) (lk cmBy (lk uF (lk ofF a b c) (lk ofB a b c)
      (lk ofC a b c)) (lk uB (lk ofF a b c) (lk ofB a b c) (lk ofC a b c)) (lk ofC a b c) (lk uF (lk ofF x y z) (lk ofB x y z) (lk ofC x y z)) (lk uB (lk ofF x y z) (lk ofB x y z) (lk ofC
      x y z)) (lk ofC x y z)) (lk cmCnt (lk uF (lk ofF a b c) (lk ofB a b c) (lk ofC a b c)) (lk uB (lk ofF a b c) (lk ofB a b c) (lk ofC a b c)) (lk ofC a b c) (lk uF (lk ofF x y z) (lk
      ofB x y z) (lk ofC x y z)) (lk uB (lk ofF x y z) (lk ofB x y z) (lk ofC x y z)) (lk ofC x y z)) c * (lk cmCnt (lk uF (lk ofF a b c) (lk ofB a b c) (lk ofC a b c)) (lk uB (lk ofF a b
      c) (lk ofB a b c) (lk ofC a b c)) (lk ofC a b c) (lk uF (lk ofF x y z) (lk ofB x y z) (lk ofC x y z)) (lk uB (lk ofF x y z) (lk ofB x y z) (lk ofC x y z)) (lk ofC x y z) - (1 :
      Int))) ∧ I64 (lk kF (lk cmFst (lk uF (lk ofF a b c) (lk ofB a b c) (lk ofC a b c)) (lk uB (lk ofF a b c) (lk ofB a b c) (lk ofC a b c)) (lk ofC a b c) (lk uF (lk ofF x y z) (lk ofB
      x y z) (lk ofC x y z)) (lk uB (lk ofF x y z) (lk ofB x y z) (lk ofC x y z)) (lk ofC x y z)) (lk cmBy (lk uF (lk ofF a b c) (lk ofB a b c) (lk ofC a b c)) (lk uB (lk ofF a b c) (lk
      ofB a b c) (lk ofC a b c)) (lk ofC a b c) (lk uF (lk ofF x y z) (lk ofB x y z) (lk ofC x y z)) (lk uB (lk ofF x y z) (lk ofB x y z) (lk ofC x y z)) (lk ofC x y z)) (lk cmCnt (lk uF
      (lk ofF a b c) (lk ofB a b c) (lk ofC a b c)) (lk uB (lk ofF a b c) (lk ofB a b c) (lk ofC a b c)) (lk ofC a b c) (lk uF (lk ofF x y z) (lk ofB x y z) (lk ofC x y z)) (lk uB (lk ofF
      x y z) (lk ofB x y z) (lk ofC x y z)) (lk ofC x y z)) c + lk kB (lk cmFst (lk uF (lk ofF a b c) (lk ofB a b c) (lk ofC a b c)) (lk uB (lk ofF a b c) (lk ofB a b c) (lk ofC a b c))
      (lk ofC a b c) (lk uF (lk ofF x y z) (lk ofB x y z) (lk ofC x y z)) (lk uB (lk ofF x y z) (lk ofB x y z) (lk ofC x y z)) (lk ofC x y z)) (lk cmBy (lk uF (lk ofF a b c) (lk ofB a b
      c) (lk ofC a b c)) (lk uB (lk ofF a b c) (lk ofB a b c) (lk ofC a b c)) (lk ofC a b c) (lk uF (lk ofF x y z) (lk ofB x y z) (lk ofC x y z)) (lk uB (lk ofF x y z) (lk ofB x y z) (lk
      ofC x y z)) (lk ofC x y z)) (lk cmCnt (lk uF (lk ofF a b c) (lk ofB a b c) (lk ofC a b c)) (lk uB (lk ofF a b c) (lk ofB a b c) (lk ofC a b c)) (lk ofC a b c) (lk uF (lk ofF x y z)
      (lk ofB x y z) (lk ofC x y z)) (lk uB (lk ofF x y z) (lk ofB x y z) (lk ofC x y z)) (lk ofC x y z)) c * (lk cmCnt (lk uF (lk ofF a b c) (lk ofB a b c) (lk ofC a b c)) (lk uB (lk ofF
      a b c) (lk ofB a b c) (lk ofC a b c)) (lk ofC a b c) (lk uF (lk ofF x y z) (lk ofB x y z) (lk ofC x y z)) (lk uB (lk ofF x y z) (lk ofB x y z) (lk ofC x y z)) (lk ofC x y z) - (1 :
      Int)))) (.ret (.tup [.agg [.lit (.int .i64 (lk nLow (lk kF (lk cmFst (lk uF (lk ofF a b c) (lk ofB a b c) (lk ofC a b c)) (lk uB (lk ofF a b c) (lk ofB a b c) (lk ofC a b c)) (lk
      ofC a b c) (lk uF (lk ofF x y z) (lk ofB x y z) (lk ofC x y z)) (lk uB (lk ofF x y z) (lk ofB x y z) (lk ofC x y z)) (lk ofC x y z)) (lk cmBy (lk uF (lk ofF a b c) (lk ofB a b c)
      (lk ofC a b c)) (lk uB (lk ofF a b c) (lk ofB a b c) (lk ofC a b c)) (lk ofC a b c) (lk uF (lk ofF x y z) (lk ofB x y z) (lk ofC x y z)) (lk uB (lk ofF x y z) (lk ofB x y z) (lk ofC
      x y z)) (lk ofC x y z)) (lk cmCnt (lk uF (lk ofF a b c) (lk ofB a b c) (lk ofC a b c)) (lk uB (lk ofF a b c) (lk ofB a b c) (lk ofC a b c)) (lk ofC a b c) (lk uF (lk ofF x y z) (lk
      ofB x y z) (lk ofC x y z)) (lk uB (lk ofF x y z) (lk ofB x y z) (lk ofC x y z)) (lk ofC x y z)) c) (lk kB (lk cmFst (lk uF (lk ofF a b c) (lk ofB a b c) (lk ofC a b c)) (lk uB (lk
      ofF a b c) (lk ofB a b c) (lk ofC a b c)) (lk ofC a b c) (lk uF (lk ofF x y z) (lk ofB x y z) (lk ofC x y z)) (lk uB (lk ofF x y z) (lk ofB x y z) (lk ofC x y z)) (lk ofC x y z))
      (lk cmBy (lk uF (lk ofF a b c) (lk ofB a b c) (lk ofC a b c)) (lk uB (lk ofF a b c) (lk ofB a b c) (lk ofC a b c)) (lk ofC a b c) (lk uF (lk ofF x y z) (lk ofB x y z) (lk ofC x y
      z)) (lk uB (lk ofF x y z) (lk ofB x y z) (lk ofC x y z)) (lk ofC x y z)) (lk cmCnt (lk uF (lk ofF a b c) (lk ofB a b c) (lk ofC a b c)) (lk uB (lk ofF a b c) (lk ofB a b c) (lk ofC
      a b c)) (lk ofC a b c) (lk uF (lk ofF x y z) (lk ofB x y z) (lk ofC x y z)) (lk uB (lk ofF x y z) (lk ofB x y z) (lk ofC x y z)) (lk ofC x y z)) c) (lk cmCnt (lk uF (lk ofF a b c)
      (lk ofB a b c) (lk ofC a b c)) (lk uB (lk ofF a b c) (lk ofB a b c) (lk ofC a b c)) (lk ofC a b c) (lk uF (lk ofF x y z) (lk ofB x y z) (lk ofC x y z)) (lk uB (lk ofF x y z) (lk ofB
      x y z) (lk ofC x y z)) (lk ofC x y z)))), .lit (.int .i64 (lk nHigh (lk kF (lk cmFst (lk uF (lk ofF a b c) (lk ofB a b c) (lk ofC a b c)) (lk uB (lk ofF a b c) (lk ofB a b c) (lk
      ofC a b c)) (lk ofC a b c) (lk uF (lk ofF x y z) (lk ofB x y z) (lk ofC x y z)) (lk uB (lk ofF x y z) (lk ofB x y z) (lk ofC x y z)) (lk ofC x y z)) (lk cmBy (lk uF (lk ofF a b c)
      (lk ofB a b c) (lk ofC a b c)) (lk uB (lk ofF a b c) (lk ofB a b c) (lk ofC a b c)) (lk ofC a b c) (lk uF (lk ofF x y z) (lk ofB x y z) (lk ofC x y z)) (lk uB (lk ofF x y z) (lk ofB
      x y z) (lk ofC x y z)) (lk ofC x y z)) (lk cmCnt (lk uF (lk ofF a b c) (lk ofB a b c) (lk ofC a b c)) (lk uB (lk ofF a b c) (lk ofB a b c) (lk ofC a b c)) (lk ofC a b c) (lk uF (lk
      ofF x y z) (lk ofB x y z) (lk ofC x y z)) (lk uB (lk ofF x y z) (lk ofB x y z) (lk ofC x y z)) (lk ofC x y z)) c) (lk kB (lk cmFst (lk uF (lk ofF a b c) (lk ofB a b c) (lk ofC a b
      c)) (lk uB (lk ofF a b c) (lk ofB a b c) (lk ofC a b c)) (lk ofC a b c) (lk uF (lk ofF x y z) (lk ofB x y z) (lk ofC x y z)) (lk uB (lk ofF x y z) (lk ofB x y z) (lk ofC x y z)) (lk
      ofC x y z)) (lk cmBy (lk uF (lk ofF a b c) (lk ofB a b c) (lk ofC a b c)) (lk uB (lk ofF a b c) (lk ofB a b c) (lk ofC a b c)) (lk ofC a b c) (lk uF (lk ofF x y z) (lk ofB x y z)
      (lk ofC x y z)) (lk uB (lk ofF x y z) (lk ofB x y z) (lk ofC x y z)) (lk ofC x y z)) (lk cmCnt (lk uF (lk ofF a b c) (lk ofB a b c) (lk ofC a b c)) (lk uB (lk ofF a b c) (lk ofB a b
      c) (lk ofC a b c)) (lk ofC a b c) (lk uF (lk ofF x y z) (lk ofB x y z) (lk ofC x y z)) (lk uB (lk ofF x y z) (lk ofB x y z) (lk ofC x y z)) (lk ofC x y z)) c) (lk cmCnt (lk uF (lk
      ofF a b c) (lk ofB a b c) (lk ofC a b c)) (lk uB (lk ofF a b c) (lk ofB a b c) (lk ofC a b c)) (lk ofC a b c) (lk uF (lk ofF x y z) (lk ofB x y z) (lk ofC x y z)) (lk uB (lk ofF x y
      z) (lk ofB x y z) (lk ofC x y z)) (lk ofC x y z)))), .lit (.int .i64 (lk nStr (lk kF (lk cmFst (lk uF (lk ofF a b c) (lk ofB a b c) (lk ofC a b c)) (lk uB (lk ofF a b c) (lk ofB a b
      c) (lk ofC a b c)) (lk ofC a b c) (lk uF (lk ofF x y z) (lk ofB x y z) (lk ofC x y z)) (lk uB (lk ofF x y z) (lk ofB x y z) (lk ofC x y z)) (lk ofC x y z)) (lk cmBy (lk uF (lk ofF a
      b c) (lk ofB a b c) (lk ofC a b c)) (lk uB (lk ofF a b c) (lk ofB a b c) (lk ofC a b c)) (lk ofC a b c) (lk uF (lk ofF x y z) (lk ofB x y z) (lk ofC x y z)) (lk uB (lk ofF x y z)
      (lk ofB x y z) (lk ofC x y z)) (lk ofC x y z)) (lk cmCnt (lk uF (lk ofF a b c) (lk ofB a b c) (lk ofC a b c)) (lk uB (lk ofF a b c) (lk ofB a b c) (lk ofC a b c)) (lk ofC a b c) (lk
      uF (lk ofF x y z) (lk ofB x y z) (lk ofC x y z)) (lk uB (lk ofF x y z) (lk ofB x y z) (lk ofC x y z)) (lk ofC x y z)) c) (lk kB (lk cmFst (lk uF (lk ofF a b c) (lk ofB a b c) (lk
      ofC a b c)) (lk uB (lk ofF a b c) (lk ofB a b c) (lk ofC a b c)) (lk ofC a b c) (lk uF (lk ofF x y z) (lk ofB x y z) (lk ofC x y z)) (lk uB (lk ofF x y z) (lk ofB x y z) (lk ofC x y
      z)) (lk ofC x y z)) (lk cmBy (lk uF (lk ofF a b c) (lk ofB a b c) (lk ofC a b c)) (lk uB (lk ofF a b c) (lk ofB a b c) (lk ofC a b c)) (lk ofC a b c) (lk uF (lk ofF x y z) (lk ofB x
      y z) (lk ofC x y z)) (lk uB (lk ofF x y z) (lk ofB x y z) (lk ofC x y z)) (lk ofC x y z)) (lk cmCnt (lk uF (lk ofF a b c) (lk ofB a b c) (lk ofC a b c)) (lk uB (lk ofF a b c) (lk
      ofB a b c) (lk ofC a b c)) (lk ofC a b c) (lk uF (lk ofF x y z) (lk ofB x y z) (lk ofC x y z)) (lk uB (lk ofF x y z) (lk ofB x y z) (lk ofC x y z)) (lk ofC x y z)) c) (lk cmCnt (lk
      uF (lk ofF a b c) (lk ofB a b c) (lk ofC a b c)) (lk uB (lk ofF a b c) (lk ofB a b c) (lk ofC a b c)) (lk ofC a b c) (lk uF (lk ofF x y z) (lk ofB x y z) (lk ofC x y z)) (lk uB (lk
      ofF x y z) (lk ofB x y z) (lk ofC x y z)) (lk ofC x y z))))], .lit (.int .i64 (lk nErr (lk kF (lk cmFst (lk uF (lk ofF a b c) (lk ofB a b c) (lk ofC a b c)) (lk uB (lk ofF a b c)
      (lk ofB a b c) (lk ofC a b c)) (lk ofC a b c) (lk uF (lk ofF x y z) (lk ofB x y z) (lk ofC x y z)) (lk uB (lk ofF x y z) (lk ofB x y z) (lk ofC x y z)) (lk ofC x y z)) (lk cmBy (lk
      uF (lk ofF a b c) (lk ofB a b c) (lk ofC a b c)) (lk uB (lk ofF a b c) (lk ofB a b c) (lk ofC a b c)) (lk ofC a b c) (lk uF (lk ofF x y z) (lk ofB x y z) (lk ofC x y z)) (lk uB (lk
      ofF x y z) (lk ofB x y z) (lk ofC x y z)) (lk ofC x y z)) (lk cmCnt (lk uF (lk ofF a b c) (lk ofB a b c) (lk ofC a b c)) (lk uB (lk ofF a b c) (lk ofB a b c) (lk ofC a b c)) (lk ofC
      a b c) (lk uF (lk ofF x y z) (lk ofB x y z) (lk ofC x y z)) (lk uB (lk ofF x y z) (lk ofB x y z) (lk ofC x y z)) (lk ofC x y z)) c) (lk kB (lk cmFst (lk uF (lk ofF a b c) (lk ofB a
      b c) (lk ofC a b c)) (lk uB (lk ofF a b c) (lk ofB a b c) (lk ofC a b c)) (lk ofC a b c) (lk uF (lk ofF x y z) (lk ofB x y z) (lk ofC x y z)) (lk uB (lk ofF x y z) (lk ofB x y z)
      (lk ofC x y z)) (lk ofC x y z)) (lk cmBy (lk uF (lk ofF a b c) (lk ofB a b c) (lk ofC a b c)) (lk uB (lk ofF a b c) (lk ofB a b c) (lk ofC a b c)) (lk ofC a b c) (lk uF (lk ofF x y
      z) (lk ofB x y z) (lk ofC x y z)) (lk uB (lk ofF x y z) (lk ofB x y z) (lk ofC x y z)) (lk ofC x y z)) (lk cmCnt (lk uF (lk ofF a b c) (lk ofB a b c) (lk ofC a b c)) (lk uB (lk ofF
      a b c) (lk ofB a b c) (lk ofC a b c)) (lk ofC a b c) (lk uF (lk ofF x y z) (lk ofB x y z) (lk ofC x y z)) (lk uB (lk ofF x y z) (lk ofB x y z) (lk ofC x y z)) (lk ofC x y z)) c) (lk
      cmCnt (lk uF (lk ofF a b c) (lk ofB a b c) (lk ofC a b c)) (lk uB (lk ofF a b c) (lk ofB a b c) (lk ofC a b c)) (lk ofC a b c) (lk uF (lk ofF x y z) (lk ofB x y z) (lk ofC x y z))
      (lk uB (lk ofF x y z) (lk ofB x y z) (lk ofC x y z)) (lk ofC x y z))))])))))))))) := by kernel_rfl
theorem Intersect_ok : ConOK P 57 c_Intersect := con_of (allOK mixed ke_ok) 10 57 fun args r h => by
  unfold c_Intersect at h
  split at h
  · rename_i a b c x y z
    have hp := (T.is_ask h).1
    have h := (T.is_ask h).2
    obtain rfl := T.is_ret h
    rw [t_Intersect]
    obtain ⟨ha, hb, hc, hx, hy, hz⟩ := hp
    simp only [lk_eq]
    refine ⟨⟨ha, hb, hc, hx, hy, hz⟩, fun h => ?_, fun h => ?_⟩
    · rw [U.ne_t] at h
      simp only [isL, isH, isS, isEr, if_pos h]
      exact rfl
    · rw [U.ne_f] at h
      obtain ⟨r1, r2⟩ := ckd_right h
      have hn : ¬ ckd a b c x y z ≠ 0 := by simp [h]
      have hsw := (is_sw r1 r2).1
      refine ⟨of_ask r1 ha hb hc, up_ask r1, of_ask r2 hx hy hz, up_ask r2, ⟨up_ser r1, up_ser r2⟩, ?_⟩
      refine ⟨like_ask hsw, norm_ask hsw, ?_⟩
      simp only [isL, isH, isS, isEr, if_neg hn]
      exact rfl
  · exact h.elim
end Go.RX.Span

/- Ranges: Intersect, Hull and Within as sets, in plain Lean. -/
set_option linter.unusedVariables false
set_option linter.unusedSimpArgs false
namespace Go.RX.Span
open Go Go.RX

theorem sIn_one {F s t n : Int} : SIn F s 1 n ↔ SIn F t 1 n := by
  unfold SIn
  simp only [Int.sub_self, Int.mul_zero, Int.add_zero]
  constructor <;> rintro ⟨h1, h2, h3, _⟩ <;> exact ⟨h1, h2, h3, 0, by omega⟩
/-- A right range out of a series: the same numbers. -/
theorem rin_of {L H S F B C : Int} (hC : 1 ≤ C) (hr : Right L H S) (hLH : L ≤ H) (h1 : L = F) (hc : ofC L H S = C) (hS : C ≠ 1 → absI S = B) (n : Int) : RIn L H S n ↔ SIn F B C n := by
  obtain ⟨u1, u2⟩ := up_of hr hLH
  unfold RIn sA sS
  rw [u1, u2, hc, h1]
  by_cases h : C = 1
  · subst h; exact sIn_one
  · rw [hS h]
theorem rin_empty (n : Int) : ¬ RIn 1 0 1 n := fun h => by
  have := h.2.2.1
  have e : ofC 1 0 1 = 0 := rfl
  rw [e] at this
  omega
theorem right_empty : Right 1 0 1 := ⟨by omega, .inl ⟨rfl, rfl, rfl⟩⟩

/-- A series made a range in a direction. -/
theorem mv_set {F B C c : Int} (h : Sw F B C) : nErr (kF F B C c) (kB F B C c) C = 0 ∧ Right (nLow (kF F B C c) (kB F B C c) C) (nHigh (kF F B C c) (kB F B C c) C) (nStr (kF F B C c) (kB F B C c) C) ∧
    ∀ n, RIn (nLow (kF F B C c) (kB F B C c) C) (nHigh (kF F B C c) (kB F B C c) C) (nStr (kF F B C c) (kB F B C c) C) n ↔ SIn F B C n := by
  by_cases hC : C = 0
  · subst hC
    simp only [nErr, nLow, nHigh, nStr, Int.le_refl, if_true]
    exact ⟨trivial, right_empty, fun n => ⟨fun h => absurd h (rin_empty n), fun h => by have := h.2.2.1; omega⟩⟩
  · obtain ⟨h1, h2, h3, h4, h5⟩ := h.resolve_left hC
    obtain ⟨q1, q2, q3, q4⟩ := nrm_like (f := F) (s := B) (C := C) (c := c) h2
    have m0 := mulle (x := 0) (y := C - 1) h2 (by omega)
    rw [Int.mul_zero] at m0
    have n1 : ¬ C ≤ 0 := by omega
    have e0 : mvE F B C = 0 := by unfold mvE; rw [if_neg n1, if_pos (by omega)]
    rw [q1, q2, q3, q4, e0]
    simp only [mvLow, mvHigh, mvStr, e0, if_neg n1, if_true]
    refine ⟨trivial, ?_⟩
    by_cases hc : c < 0
    · obtain ⟨g1, g2, g3, g4⟩ := rgD (F := F + B * (C - 1)) (s := B) (q := C - 1) h2 (by omega) (by omega) (by omega)
      rw [show F + B * (C - 1) - B * (C - 1) = F by omega] at g1 g2 g3
      have e : (if C - 1 = 0 then (1 : Int) else -B) = if C = 1 then 1 else if c < 0 then -B else B := by
        by_cases h : C = 1
        · rw [if_pos (by omega), if_pos h]
        · rw [if_neg (by omega), if_neg h, if_pos hc]
      rw [e] at g1 g3
      refine ⟨g1, fun n => rin_of h1 g1 g2 rfl (by omega) (fun h => ?_) n⟩
      rw [if_neg h, if_pos hc, absI_neg (by omega)]; omega
    · obtain ⟨g1, g2, g3, g4⟩ := rgU (F := F) (s := B) (q := C - 1) h2 (by omega) (by omega) (by omega)
      have e : (if C - 1 = 0 then (1 : Int) else B) = if C = 1 then 1 else if c < 0 then -B else B := by
        by_cases h : C = 1
        · rw [if_pos (by omega), if_pos h]
        · rw [if_neg (by omega), if_neg h, if_neg hc]
      rw [e] at g1 g3
      refine ⟨g1, fun n => rin_of h1 g1 g2 rfl (by omega) (fun h => ?_) n⟩
      rw [if_neg h, if_neg hc, absI_pos (by omega)]

theorem ckd_zero {a b c x y z : Int} (h : Right a b c) (h' : Right x y z) : ckd a b c x y z = 0 := by
  unfold ckd; rw [if_neg (by simp [chk_zero.2 h])]; exact chk_zero.2 h'
/-- Intersect of right ranges has the numbers of both. -/
theorem is_set {a b c x y z : Int} (h : Right a b c) (h' : Right x y z) : isEr a b c x y z = 0 ∧ Right (isL a b c x y z) (isH a b c x y z) (isS a b c x y z) ∧ ∀ n, RIn (isL a b c x y z) (isH a b c x y z) (isS a b c x y z) n ↔ RIn a b c n ∧ RIn x y z n := by
  have hn : ¬ ckd a b c x y z ≠ 0 := by simp [ckd_zero h h']
  simp only [isEr, isL, isH, isS, if_neg hn]
  obtain ⟨w1, w2⟩ := is_sw h h'
  obtain ⟨m1, m2, m3⟩ := mv_set (c := c) w1
  exact ⟨m1, m2, fun n => (m3 n).trans (w2 n)⟩
end Go.RX.Span

/- The library's slices.Equal of ranges. -/
set_option linter.unusedVariables false
set_option linter.unusedSimpArgs false
namespace Go.RX.Span
open Go Go.RX

/-- Three numbers are the same. -/
def same3 (d e : Els [.int .i64, .int .i64, .int .i64]) : Prop := d.1 = e.1 ∧ d.2.1 = e.2.1 ∧ d.2.2.1 = e.2.2.1
noncomputable def eqR3 (n : Nat) (f : Nat → Els [.int .i64, .int .i64, .int .i64]) (n1 : Nat) (f1 : Nat → Els [.int .i64, .int .i64, .int .i64]) : Bool := @decide (n = n1 ∧ ∀ i, i < n → same3 (f i) (f1 i)) (Classical.propDecidable _)
theorem eqR3_t {n n1 : Nat} {f f1 : Nat → Els [.int .i64, .int .i64, .int .i64]} : eqR3 n f n1 f1 = true ↔ n = n1 ∧ ∀ i, i < n → same3 (f i) (f1 i) := by
  unfold eqR3
  exact @decide_eq_true_iff _ (Classical.propDecidable _)
structure XG where
  (n n1 : Nat) (f f1 : Nat → Els [.int .i64, .int .i64, .int .i64]) (len : Int) (k : Nat)
noncomputable def VG (x : XG) : Few := ([.row [.int .i64, .int .i64, .int .i64] x.n x.f, .row [.int .i64, .int .i64, .int .i64] x.n1 x.f1, .any, .lit (.int .i64 x.len), .lit (.int .i64 x.k)], [])
noncomputable def OG (x : XG) : Ex × Few := (.exit 0, ([.row [.int .i64, .int .i64, .int .i64] x.n x.f, .row [.int .i64, .int .i64, .int .i64] x.n1 x.f1, .any, .any, .any], []))
noncomputable def OG' : Ex × Few := (.ret, ([.any, .any, .kb false, .any, .any], []))
def PhiG (n0 : Nat) (x : XG) : Prop := (n0 = 0 ∧ x.n = x.n1 ∧ x.len = x.n ∧ x.n ≤ top) ∧ x.k ≤ x.n ∧ ∀ i, i < x.k → same3 (x.f i) (x.f1 i)
def ZG (x : XG) (o : Ex × Few) : Prop := (eqR3 x.n x.f x.n1 x.f1 = true → o = OG x) ∧ (eqR3 x.n x.f x.n1 x.f1 = false → o = OG')
noncomputable def gG : Nat → Few → T (Ex × Few)
  | n0, ([.row [.int .i64, .int .i64, .int .i64] n f, .row [.int .i64, .int .i64, .int .i64] n1 f1, _, .lit (.int .i64 len), .ki .i64 (.ofNat 0)], []) =>
    .ask (PreE n0 n n1 len) (.br (lk eqR3 n f n1 f1) (.ret (.exit 0, ([.row [.int .i64, .int .i64, .int .i64] n f, .row [.int .i64, .int .i64, .int .i64] n1 f1, .any, .any, .any], []))) (.ret (.ret, ([.any, .any, .kb false, .any, .any], []))))
  | _, _ => .stuck 1
noncomputable abbrev l56 : List (Nat × Loops) := [(35, [(4, .sum (few 26 [0, 1, 4, 12, 13] gG))])]
end Go.RX.Span

/- The library's slices.Equal of ranges: the walks. -/
set_option linter.unusedVariables false
set_option linter.unusedSimpArgs false
set_option maxRecDepth 100000
namespace Go.RX.Span
open Go Go.RX

set_option maxRecDepth 100000 in
theorem t_G (n0 n n1 : Nat) (f f1 : Nat → Els [.int .i64, .int .i64, .int .i64]) (len i : Int) : (sx E0 [] n0 (loopOf P 35 4) (mkS 26 [0, 1, 4, 12, 13] [.row [.int .i64, .int .i64, .int .i64] n f, .row [.int .i64, .int .i64, .int .i64] n1 f1, .any, .lit (.int .i64 len), .lit (.int .i64 i)], [])).bind (proj 26 [0, 1, 4, 12, 13]) =
    T.br (U.lt i len) (.ask ((0 : Int) ≤ i ∧ i < ↑n) (.ask ((0 : Int) ≤ i ∧ i < ↑n1) (.br (U.not (U.andb (U.eq (f (U.toNat i)).1 (f1 (U.toNat i)).1) (U.andb (U.eq (f (U.toNat i)).2.1
      (f1 (U.toNat i)).2.1) (U.eq (f (U.toNat i)).2.2.1 (f1 (U.toNat i)).2.2.1)))) (.ret (Ex.ret, [.row [.int .i64, .int .i64, .int .i64] n f, .row [.int .i64, .int .i64, .int .i64] n1
      f1, SV.kb false, .lit (.int .i64 len), .lit (.int .i64 i)], [])) (.ret (Ex.normal, [.row [.int .i64, .int .i64, .int .i64] n f, .row [.int .i64, .int .i64, .int .i64] n1 f1, SV.any,
      .lit (.int .i64 len), .lit (.int .i64 (U.add .i64 i (1 : Int)))], []))))) (.ret (Ex.exit (nat_lit 0), [.row [.int .i64, .int .i64, .int .i64] n f, .row [.int .i64, .int .i64, .int
      .i64] n1 f1, SV.any, .lit (.int .i64 len), .lit (.int .i64 i)], [])) := by kernel_rfl
theorem roundG (n0 : Nat) (x : XG) (hx : PhiG n0 x) : ((sx E0 [] n0 (loopOf P 35 4) (mkS 26 [0, 1, 4, 12, 13] (VG x).1, (VG x).2)).bind (proj 26 [0, 1, 4, 12, 13])).All fun r => match r.1 with
      | .normal => ∃ x', PhiG n0 x' ∧ x'.n - x'.k < x.n - x.k ∧ Wk 26 [0, 1, 4, 12, 13] n0 r.2 (VG x') ∧ ∀ o, ZG x' o → ZG x o
      | e => ∃ s, ZG x (e, s) ∧ Wk 26 [0, 1, 4, 12, 13] n0 r.2 s := by
  obtain ⟨n, n1, f, f1, len, k⟩ := x
  unfold VG
  dsimp only
  refine T.all_of_eq (t_G n0 n n1 f f1 len k) ?_
  obtain ⟨⟨h0, e1, e2, ht⟩, hk, hall⟩ := hx
  simp only [] at h0 e1 e2 ht hk hall
  subst h0; subst e1
  simp only [top] at ht
  have w0 : ∀ {vs vs' : List SV}, RlL (idR 0) vs vs' → Wk 26 [0, 1, 4, 12, 13] 0 (vs, []) (vs', []) := fun h => wk_of (idR 0) rfl (Nat.zero_le _) (fun b hb => by omega) h trivial
  by_cases hlt : k < n
  · have hadd : U.add .i64 (k : Int) 1 = ((k + 1 : Nat) : Int) := by rw [U.add64 (by unfold I64; omega)]; omega
    simp only [T.All, U.le_t, U.le_f, U.lt_t, U.lt_f, U.gt_t, U.gt_f, U.ge_t, U.ge_f, U.eq_t, U.eq_f, U.ne_t, U.ne_f, U.not_t, U.not_f, U.andb_t, U.andb_f, SV.lit.injEq, SV.agg.injEq, SV.tup.injEq, List.cons.injEq, Value.int.injEq, Value.bool.injEq, true_and, and_true, lk_eq, U.toNat_eq, Int.toNat_natCast]
    refine ⟨fun _ => ⟨⟨by omega, by omega⟩, ⟨by omega, by omega⟩, fun hne => ⟨OG'.2, ⟨fun he => absurd ((eqR3_t.1 he).2 k hlt) (fun s => Bool.noConfusion ((hne (Eq.mpr U.eq_t s.1) (Eq.mpr U.eq_t s.2.1)).symm.trans (Eq.mpr U.eq_t s.2.2))), fun _ => rfl⟩, w0 ⟨trivial, trivial, rfl, trivial, trivial, trivial⟩⟩, fun heq => ?_⟩, fun h => absurd h (by omega)⟩
    refine ⟨⟨n, n, f, f1, len, k + 1⟩, ⟨⟨rfl, rfl, e2, ht⟩, hlt, fun i hi => ?_⟩, by simp only []; omega, w0 ⟨⟨rfl, sameRow_refl _ _⟩, ⟨rfl, sameRow_refl _ _⟩, trivial, rfl, by rw [hadd]; rfl, trivial⟩, fun o ho => ho⟩
    by_cases h : i = k
    · subst h; exact ⟨Eq.mp U.eq_t heq.1, Eq.mp U.eq_t heq.2.1, Eq.mp U.eq_t heq.2.2⟩
    · have hi' : i < k + 1 := hi
      exact hall i (by omega)
  · have : (k : Int) = n := by omega
    have hkn : k = n := by omega
    simp only [T.All, U.le_t, U.le_f, U.lt_t, U.lt_f, U.gt_t, U.gt_f, U.ge_t, U.ge_f, U.eq_t, U.eq_f, U.ne_t, U.ne_f, U.not_t, U.not_f, U.andb_t, U.andb_f, SV.lit.injEq, SV.agg.injEq, SV.tup.injEq, List.cons.injEq, Value.int.injEq, Value.bool.injEq, true_and, and_true, lk_eq]
    refine ⟨fun h => absurd h (by omega), fun _ => ⟨(OG ⟨n, n, f, f1, len, k⟩).2, ⟨fun _ => rfl, fun he => ?_⟩, w0 ⟨⟨rfl, sameRow_refl _ _⟩, ⟨rfl, sameRow_refl _ _⟩, trivial, trivial, trivial, trivial⟩⟩⟩
    rw [eqR3_t.2 ⟨rfl, fun i hi => hall i (by have hi' : i < n := hi; omega)⟩] at he
    cases he
theorem loopG : LoopOK P (loopOf P 35 4) (few 26 [0, 1, 4, 12, 13] gG) :=
  loop_few (E := E0) mixed E0_ok loopsOK_none 26 [0, 1, 4, 12, 13] (X := XG) gG (fun _ x => VG x) PhiG (fun x => x.n - x.k) (fun _ x o => ZG x o)
    (fun n0 s r h => by
      unfold gG at h
      split at h
      · rename_i n0 n f n1 f1 s4 len
        obtain ⟨h0, e1, e2, ht⟩ := (T.is_ask h).1
        have h := (T.is_ask h).2
        rcases h with ⟨he, h⟩ | ⟨he, h⟩ <;> rw [lk_eq] at he <;> obtain rfl := T.is_ret h
        all_goals
          refine ⟨⟨n, n1, f, f1, len, 0⟩, ⟨⟨h0, e1, e2, ht⟩, Nat.zero_le _, fun i hi => by simp only [] at hi; omega⟩, wk_of (idR 0) rfl (by rw [h0]; exact Nat.zero_le _) (fun b hb => by omega) ⟨⟨rfl, sameRow_refl _ _⟩, ⟨rfl, sameRow_refl _ _⟩, rl_any _, rfl, rfl, trivial⟩ trivial, fun o ho => ?_⟩
          first | exact ho.1 he | exact ho.2 he
      · exact h.elim)
    roundG
theorem l56_ok : ∀ p ∈ l56, LoopsOK P p.2 (bodyOf P p.1) := by
  intro p hp
  simp only [l56, List.mem_singleton] at hp
  subst hp
  refine loopsOK_of (by kernel_rfl) fun k g hk => ?_
  simp only [List.mem_singleton, Prod.mk.injEq, LoopC.sum.injEq] at hk
  obtain ⟨rfl, rfl⟩ := hk
  exact loopG

noncomputable def c_Equal3 : Con := fun args => match args with
  | [.row [.int .i64, .int .i64, .int .i64] n f, .row [.int .i64, .int .i64, .int .i64] n1 f1] => .ask (n ≤ top) (.ret (.lit (.bool (lk eqR3 n f n1 f1))))
  | _ => .stuck 1
set_option maxRecDepth 100000 in
theorem t_Equal3 (n n1 : Nat) (f f1 : Nat → Els [.int .i64, .int .i64, .int .i64]) : conB Go.Proofs.Tryz.prog (conOf []) (loopsOf l56) 10 35 [.row [.int .i64, .int .i64, .int .i64] n f, .row [.int .i64, .int .i64, .int .i64] n1 f1] =
    T.br (U.ne (Int.ofNat n) (Int.ofNat n1)) (.ret (.lit (.bool false))) (.ask (PreE (nat_lit 0) n n1 ↑n) (.br (lk eqR3 n f n1 f1) (.ret (.lit (.bool true))) (.ret (.lit (.bool
      false))))) := by kernel_rfl
theorem Equal3_ok : ConOK P 35 c_Equal3 := con_of (allOKL mixed none_ok l56_ok) 10 35 fun args r h => by
  unfold c_Equal3 at h
  split at h
  · rename_i n f n1 f1
    have hp := (T.is_ask h).1
    have h := (T.is_ask h).2
    obtain rfl := T.is_ret h
    rw [t_Equal3]
    by_cases hn : n = n1
    · subst hn
      have hpre : PreE 0 n n n := ⟨rfl, rfl, rfl, hp⟩
      have hne : U.ne (Int.ofNat n) (Int.ofNat n) = false := by rw [U.ne_eq]; simp
      simp only [T.All, hne, hpre, lk_eq]
      cases eqR3 n f n f1 <;> simp
    · have he : eqR3 n f n1 f1 = false := by
        cases h : eqR3 n f n1 f1
        · rfl
        · exact absurd (eqR3_t.1 h).1 hn
      have hne : U.ne (Int.ofNat n) (Int.ofNat n1) = true := by rw [U.ne_eq]; simp only [Int.ofNat_eq_natCast]; simp; omega
      simp only [T.All, hne, lk_eq, he]
      simp
  · exact h.elim
end Go.RX.Span

/- The divisor of the reference: the loop's states. -/
set_option linter.unusedVariables false
set_option linter.unusedSimpArgs false
namespace Go.RX.Span
open Go Go.RX

def gcdI (a b : Int) : Int := Int.gcd a b
def PreD (n0 : Nat) (a b : Int) : Prop := n0 = 0 ∧ 0 ≤ a ∧ 0 ≤ b
structure XD where
  (a b A B : Int)
noncomputable def VD (x : XD) : Few := ([.lit (.int .i64 x.A), .lit (.int .i64 x.B)], [])
noncomputable def OD (x : XD) : Ex × Few := (.exit 0, ([.lit (.int .i64 (gcdI x.a x.b)), .any], []))
def PhiD (n0 : Nat) (x : XD) : Prop := n0 = 0 ∧ 0 ≤ x.A ∧ 0 ≤ x.B ∧ Int.gcd x.A x.B = Int.gcd x.a x.b
noncomputable def gD : Nat → Few → T (Ex × Few)
  | n0, ([.lit (.int .i64 a), .lit (.int .i64 b)], []) => .ask (PreD n0 a b) (.ret (.exit 0, ([.lit (.int .i64 (lk gcdI a b)), .any], [])))
  | _, _ => .stuck 1
noncomputable abbrev l119 : List (Nat × Loops) := [(88, [(1, .sum (few 12 [0, 1] gD))])]
end Go.RX.Span

/- The divisor of the reference: the walk. -/
set_option linter.unusedVariables false
set_option linter.unusedSimpArgs false
set_option maxRecDepth 100000
namespace Go.RX.Span
open Go Go.RX

set_option maxRecDepth 100000 in
theorem t_D (n0 : Nat) (A B : Int) : (sx E0 [] n0 (loopOf P 88 1) (mkS 12 [0, 1] [.lit (.int .i64 A), .lit (.int .i64 B)], [])).bind (proj 12 [0, 1]) =
    T.br (U.ne B (0 : Int)) (.ask (B ≠ (0 : Int)) (.ret (Ex.normal, [.lit (.int .i64 B), .lit (.int .i64 (U.rem A B))], []))) (.ret (Ex.exit (nat_lit 0), [.lit (.int .i64 A), .lit (.int
      .i64 B)], [])) := by kernel_rfl
theorem roundD (n0 : Nat) (x : XD) (hx : PhiD n0 x) : ((sx E0 [] n0 (loopOf P 88 1) (mkS 12 [0, 1] (VD x).1, (VD x).2)).bind (proj 12 [0, 1])).All fun r => match r.1 with
      | .normal => ∃ x', PhiD n0 x' ∧ x'.B.toNat < x.B.toNat ∧ Wk 12 [0, 1] n0 r.2 (VD x') ∧ ∀ o, o = OD x' → o = OD x
      | e => ∃ s, (e, s) = OD x ∧ Wk 12 [0, 1] n0 r.2 s := by
  obtain ⟨a, b, A, B⟩ := x
  unfold VD
  dsimp only
  refine T.all_of_eq (t_D n0 A B) ?_
  obtain ⟨h0, hA, hB, hg⟩ := hx
  simp only [] at h0 hA hB hg
  subst h0
  have w0 : ∀ {vs vs' : List SV}, RlL (idR 0) vs vs' → Wk 12 [0, 1] 0 (vs, []) (vs', []) := fun h => wk_of (idR 0) rfl (Nat.zero_le _) (fun b hb => by omega) h trivial
  by_cases hz : B = 0
  · subst hz
    simp only [T.All, U.le_t, U.le_f, U.lt_t, U.lt_f, U.gt_t, U.gt_f, U.ge_t, U.ge_f, U.eq_t, U.eq_f, U.ne_t, U.ne_f, U.not_t, U.not_f, U.andb_t, U.andb_f, SV.lit.injEq, SV.agg.injEq, SV.tup.injEq, List.cons.injEq, Value.int.injEq, Value.bool.injEq, true_and, and_true, lk_eq]
    refine ⟨fun h => absurd rfl h, fun _ => ⟨(OD ⟨a, b, A, 0⟩).2, rfl, w0 ⟨?_, rl_any _, trivial⟩⟩⟩
    show Value.int .i64 A = Value.int .i64 (gcdI a b)
    have : (A.natAbs : Int) = A := Int.natAbs_of_nonneg hA
    rw [Int.gcd_zero_right] at hg
    unfold gcdI
    rw [← hg, this]
  · have e := Int.tmod_eq_emod_of_nonneg hA (b := B)
    have t3 := Int.emod_nonneg A hz
    have t4 := Int.emod_lt_of_pos A (show 0 < B by omega)
    have t5 := Int.mul_ediv_add_emod A B
    simp only [T.All, U.le_t, U.le_f, U.lt_t, U.lt_f, U.gt_t, U.gt_f, U.ge_t, U.ge_f, U.eq_t, U.eq_f, U.ne_t, U.ne_f, U.not_t, U.not_f, U.andb_t, U.andb_f, SV.lit.injEq, SV.agg.injEq, SV.tup.injEq, List.cons.injEq, Value.int.injEq, Value.bool.injEq, true_and, and_true, lk_eq, U.rem_eq]
    refine ⟨fun _ => ⟨hz, ⟨a, b, B, A.tmod B⟩, ⟨rfl, hB, by show 0 ≤ A.tmod B; rw [e]; exact t3, ?_⟩, ?_, w0 ⟨rfl, rfl, trivial⟩, fun o ho => ho⟩, fun h => absurd h hz⟩
    · show Int.gcd B (A.tmod B) = Int.gcd a b
      rw [e, ← hg, show A % B = A - B * (A / B) by omega, Int.gcd_comm A B]
      exact Int.gcd_sub_mul_left_right B A (A / B)
    · show (A.tmod B).toNat < B.toNat
      rw [e]; omega
theorem loopD : LoopOK P (loopOf P 88 1) (few 12 [0, 1] gD) :=
  loop_few (E := E0) mixed E0_ok loopsOK_none 12 [0, 1] (X := XD) gD (fun _ x => VD x) PhiD (fun x => x.B.toNat) (fun _ x o => o = OD x)
    (fun n0 s r h => by
      unfold gD at h
      split at h
      · rename_i n0 a b
        obtain ⟨h0, ha, hb⟩ := (T.is_ask h).1
        obtain rfl := T.is_ret (T.is_ask h).2
        refine ⟨⟨a, b, a, b⟩, ⟨h0, ha, hb, rfl⟩, wk_of (idR 0) rfl (by rw [h0]; exact Nat.zero_le _) (fun b hb => by omega) ⟨rfl, rfl, trivial⟩ trivial, fun o ho => ?_⟩
        rw [ho]
        simp only [OD, lk_eq]
      · exact h.elim)
    roundD
theorem l119_ok : ∀ p ∈ l119, LoopsOK P p.2 (bodyOf P p.1) := by
  intro p hp
  simp only [l119, List.mem_singleton] at hp
  subst hp
  refine loopsOK_of (by kernel_rfl) fun k g hk => ?_
  simp only [List.mem_singleton, Prod.mk.injEq, LoopC.sum.injEq] at hk
  obtain ⟨rfl, rfl⟩ := hk
  exact loopD
noncomputable def c_Gcd : Con := fun args => match args with
  | [.lit (.int .i64 a), .lit (.int .i64 b)] => .ask (0 ≤ a ∧ 0 ≤ b) (.ret (.lit (.int .i64 (lk gcdI a b))))
  | _ => .stuck 1
set_option maxRecDepth 100000 in
theorem t_Gcd (a b : Int) : conB Go.Proofs.Tryz.prog (conOf []) (loopsOf l119) 10 88 [.lit (.int .i64 a), .lit (.int .i64 b)] =
    T.ask (PreD (nat_lit 0) a b) (.ret (.lit (.int .i64 (lk gcdI a b)))) := by kernel_rfl
theorem Gcd_ok : ConOK P 88 c_Gcd := con_of (allOKL mixed none_ok l119_ok) 10 88 fun args r h => by
  unfold c_Gcd at h
  split at h
  · rename_i a b
    have hp := (T.is_ask h).1
    have h := (T.is_ask h).2
    obtain rfl := T.is_ret h
    rw [t_Gcd]
    have hpre : PreD 0 a b := ⟨rfl, hp⟩
    simp only [T.All, hpre, lk_eq, true_and]
    try simp
  · exact h.elim
end Go.RX.Span

/- Ranges: the reference's search for a common number, in plain Lean. -/
set_option linter.unusedVariables false
set_option linter.unusedSimpArgs false
namespace Go.RX.Span
open Go Go.RX

/-- The search upwards in steps of s. -/
def se (aH x y z s : Int) : Nat → Int → Int
  | 0, f => f
  | n + 1, f => if f ≤ aH ∧ f ≤ y ∧ has x y z f = false then se aH x y z s n (f + s) else f
theorem se_go {aH x y z s f : Int} {n : Nat} (h : f ≤ aH ∧ f ≤ y ∧ has x y z f = false) : se aH x y z s (n + 1) f = se aH x y z s n (f + s) := by rw [se, if_pos h]
theorem se_end {aH x y z s f : Int} {n : Nat} (h : ¬ (f ≤ aH ∧ f ≤ y ∧ has x y z f = false)) : se aH x y z s n f = f := by
  cases n with
  | zero => rfl
  | succ n => rw [se, if_neg h]
theorem se_spec {aH x y z s : Int} : ∀ (n : Nat) (f : Int), ∃ j : Nat, j ≤ n ∧ se aH x y z s n f = f + s * j ∧ (∀ i : Nat, i < j → f + s * i ≤ aH ∧ f + s * i ≤ y ∧ has x y z (f + s * i) = false) ∧
    (j < n → ¬ (f + s * j ≤ aH ∧ f + s * j ≤ y ∧ has x y z (f + s * j) = false))
  | 0, f => ⟨0, Nat.le_refl _, by simp [se], fun i hi => by omega, fun h => by omega⟩
  | n + 1, f => by
    by_cases h : f ≤ aH ∧ f ≤ y ∧ has x y z f = false
    · obtain ⟨j, h1, h2, h3, h4⟩ := se_spec n (f + s) (aH := aH) (x := x) (y := y) (z := z) (s := s)
      have e : ∀ i : Nat, f + s + s * (i : Int) = f + s * ((i + 1 : Nat) : Int) := fun i => by rw [Int.natCast_add, Int.mul_add]; simp; omega
      refine ⟨j + 1, by omega, by rw [se_go h, h2, e], fun i hi => ?_, fun hj => by rw [← e]; exact h4 (by omega)⟩
      cases i with
      | zero => simpa using h
      | succ i => rw [← e]; exact h3 i (by omega)
    · exact ⟨0, Nat.zero_le _, by rw [se_end h]; simp, fun i hi => by omega, fun _ => by simpa using h⟩

theorem rin_has {a b c n : Int} (hr : Right a b c) : RIn a b c n ↔ has a b c n = true := by
  unfold has
  rw [decide_eq_true_iff]
  by_cases hab : a ≤ b
  · obtain ⟨p1, p2, p3, p4, p5, p6, p7, p8, p9, p10⟩ := parts hr hab
    obtain ⟨u1, u2⟩ := up_of hr hab
    unfold RIn sA sS SIn
    rw [u1, u2]
    have hd : (n - a) % c = 0 ↔ ∃ p, n = a + absI c * p := by
      constructor
      · intro h
        obtain ⟨k, hk⟩ := Int.dvd_of_emod_eq_zero h
        by_cases hc : c < 0
        · exact ⟨-k, by rw [absI_neg hc, Int.neg_mul_neg]; omega⟩
        · exact ⟨k, by rw [absI_pos hc]; omega⟩
      · rintro ⟨p, hp⟩
        apply Int.emod_eq_zero_of_dvd
        by_cases hc : c < 0
        · exact ⟨-p, by rw [absI_neg hc] at hp; rw [Int.mul_neg, ← Int.neg_mul]; omega⟩
        · exact ⟨p, by rw [absI_pos hc] at hp; omega⟩
    rw [hd]
    constructor
    · rintro ⟨h1, h2, h3, h4⟩; exact ⟨chk_zero.2 hr, h1, by omega, h4⟩
    · rintro ⟨h1, h2, h3, h4⟩; exact ⟨h2, by omega, by omega, h4⟩
  · have e := (empty_of (c := c) hab).2.2
    constructor
    · intro h; have := h.2.2.1; omega
    · intro h; omega

theorem rin_iff {a b c n : Int} (hr : Right a b c) (hab : a ≤ b) : RIn a b c n ↔ a ≤ n ∧ n ≤ b ∧ ∃ p, n = a + absI c * p := by
  obtain ⟨p1, p2, p3, p4, p5, p6, p7, p8, p9, p10⟩ := parts hr hab
  obtain ⟨u1, u2⟩ := up_of hr hab
  unfold RIn sA sS SIn
  rw [u1, u2]
  constructor
  · rintro ⟨h1, h2, h3, h4⟩; exact ⟨h1, by omega, h4⟩
  · rintro ⟨h1, h2, h4⟩; exact ⟨h1, by omega, by omega, h4⟩

/-- The first candidate of the reference. -/
def riF0 (a c x : Int) : Int := if max a x > a then a + (max a x - a + absI c - 1).tdiv (absI c) * absI c else a
theorem riF0_spec {a c x : Int} (hs : 1 ≤ absI c) : max a x ≤ riF0 a c x ∧ riF0 a c x < max a x + absI c ∧ ∃ p, 0 ≤ p ∧ riF0 a c x = a + absI c * p := by
  unfold riF0
  generalize absI c = s at *
  by_cases h : max a x > a
  · rw [if_pos h]
    have t1 := Int.tdiv_eq_ediv_of_nonneg (b := s) (show 0 ≤ max a x - a + s - 1 by omega)
    have t2 := Int.mul_ediv_add_emod (max a x - a + s - 1) s
    have t3 := Int.emod_nonneg (max a x - a + s - 1) (show s ≠ 0 by omega)
    have t4 := Int.emod_lt_of_pos (max a x - a + s - 1) (show 0 < s by omega)
    have t5 := Int.ediv_nonneg (show 0 ≤ max a x - a + s - 1 by omega) (show 0 ≤ s by omega)
    rw [t1, Int.mul_comm _ s]
    generalize (max a x - a + s - 1) / s = q at *
    exact ⟨by omega, by omega, q, t5, rfl⟩
  · rw [if_neg h]
    exact ⟨by omega, by omega, 0, by omega, by omega⟩
/-- Where the search ends. -/
def riF (a b c x y z : Int) : Int := se b x y z (absI c) (absI z).toNat (riF0 a c x)
def riG (a b c x y z : Int) : Bool := has a b c (riF a b c x y z) && has x y z (riF a b c x y z)
/-- The least common multiple. -/
def riM (c z : Int) : Int := (absI c).tdiv (gcdI (absI c) (absI z)) * absI z
def riQ (a b c x y z : Int) : Int := (min b y - riF a b c x y z).tdiv (riM c z)

theorem riM_eq {c z : Int} (hs : 1 ≤ absI c) (ht : 1 ≤ absI z) : ∃ g s' m u w, absI c = g * s' ∧ absI z = g * m ∧ g = absI c * w + absI z * u ∧ 1 ≤ g ∧ 1 ≤ m ∧ m ≤ absI z ∧ riM c z = absI c * m := by
  obtain ⟨g1, g2, s', m, u, g3, g4, g5, g6, g7, g8, g9, g10⟩ := eu_facts hs ht
  refine ⟨_, s', m, u, _, g3, g4, g9, g1, g6, g7, ?_⟩
  have e : gcdI (absI c) (absI z) = euG (absI c) (absI z) := (eu_spec (by omega) (by omega)).1.symm
  unfold riM
  rw [e]
  have : (absI c).tdiv (euG (absI c) (absI z)) = s' := by
    have h := Int.mul_tdiv_cancel_left s' (show euG (absI c) (absI z) ≠ 0 by omega)
    rw [← g3] at h
    exact h
  rw [this]
  generalize euG (absI c) (absI z) = g at *
  generalize absI c = s at *
  generalize absI z = t at *
  subst g3; subst g4
  grind

theorem ri_set {a b c x y z : Int} (h : Right a b c) (h' : Right x y z) (hab : a ≤ b) (hxy : x ≤ y) :
    (riG a b c x y z = true → Sw (riF a b c x y z) (riM c z) (riQ a b c x y z + 1) ∧ (0 ≤ riQ a b c x y z ∧ riQ a b c x y z ≤ 2000000) ∧ riF a b c x y z ≤ min b y ∧ ∀ n, SIn (riF a b c x y z) (riM c z) (riQ a b c x y z + 1) n ↔ RIn a b c n ∧ RIn x y z n) ∧
    (riG a b c x y z = false → ∀ n, ¬ (RIn a b c n ∧ RIn x y z n)) := by
  obtain ⟨s1, s2, _⟩ := parts h hab
  obtain ⟨t1, t2, _⟩ := parts h' hxy
  have hla := h.1
  have hlx := h'.1
  obtain ⟨f1, f2, p0, f3, f4⟩ := riF0_spec (a := a) (c := c) (x := x) s1
  obtain ⟨j, j1, j2, j3, j4⟩ := se_spec (aH := b) (x := x) (y := y) (z := z) (s := absI c) (absI z).toNat (riF0 a c x)
  have hF : riF a b c x y z = riF0 a c x + absI c * j := j2
  obtain ⟨g, s', m, u, w, g3, g4, g9, g1, g6, g7, gl⟩ := riM_eq s1 t1
  -- a number of both is so many steps behind the first candidate
  have beh : ∀ n, RIn a b c n → RIn x y z n → ∃ i : Nat, n = riF0 a c x + absI c * i := fun n k1 k2 => by
    obtain ⟨a1, a2, p, a3⟩ := (rin_iff h hab).1 k1
    obtain ⟨b1, b2, _⟩ := (rin_iff h' hxy).1 k2
    have e : n - riF0 a c x = absI c * (p - p0) := by rw [Int.mul_sub]; omega
    have hp : 0 ≤ p - p0 := by
      rcases Int.lt_or_le (p - p0) 0 with hneg | hpos
      · have := Int.mul_le_mul_of_nonneg_left (show p - p0 ≤ -1 by omega) (show (0 : Int) ≤ absI c by omega)
        omega
      · exact hpos
    exact ⟨(p - p0).toNat, by rw [Int.toNat_of_nonneg hp]; omega⟩
  constructor
  · intro hg
    unfold riG at hg
    rw [Bool.and_eq_true] at hg
    have m1 := (rin_iff h hab).1 ((rin_has h).2 hg.1)
    have m2 := (rin_iff h' hxy).1 ((rin_has h').2 hg.2)
    have both := fun n => cm_both (n := n) g3 g4 g9 g1 m1.2.2 m2.2.2
    have hM1 : 1 ≤ riM c z := by
      rw [gl]
      have := mulle (s := absI c) (x := 1) (y := m) s1 g6
      omega
    have hMt : riM c z ≤ 4000000000000 := by
      rw [gl]
      have := mulle (s := absI c) (x := m) (y := 2000000) s1 (by omega)
      omega
    have hh : riF a b c x y z ≤ min b y := by omega
    have u1 := Int.tdiv_eq_ediv_of_nonneg (b := riM c z) (show 0 ≤ min b y - riF a b c x y z by omega)
    have u2 := Int.mul_ediv_add_emod (min b y - riF a b c x y z) (riM c z)
    have u3 := Int.emod_nonneg (min b y - riF a b c x y z) (show riM c z ≠ 0 by omega)
    have u4 := Int.emod_lt_of_pos (min b y - riF a b c x y z) (show 0 < riM c z by omega)
    have u5 := Int.ediv_nonneg (show 0 ≤ min b y - riF a b c x y z by omega) (show 0 ≤ riM c z by omega)
    have hQ : riQ a b c x y z = (min b y - riF a b c x y z) / riM c z := u1
    obtain ⟨q, hq⟩ : ∃ q, q = riQ a b c x y z := ⟨_, rfl⟩
    rw [← hQ, ← hq] at u2 u5
    rw [← hq]
    have hqm := mulle (s := riM c z) (x := 0) (y := q) hM1 u5
    have hq2 : q ≤ riM c z * q := by
      have := Int.mul_le_mul_of_nonneg_right hM1 u5
      omega
    refine ⟨.inr ⟨by omega, hM1, hMt, by omega, by rw [show q + 1 - 1 = q by omega]; omega⟩, ⟨u5, by omega⟩, hh, fun n => ?_⟩
    constructor
    · rintro ⟨x1, x2, x3, x4⟩
      rw [show q + 1 - 1 = q by omega] at x2
      rw [gl] at x4
      obtain ⟨y1, y2⟩ := (both n).2 x4
      exact ⟨(rin_iff h hab).2 ⟨by omega, by omega, y1⟩, (rin_iff h' hxy).2 ⟨by omega, by omega, y2⟩⟩
    · rintro ⟨x1, x2⟩
      have y1 := (rin_iff h hab).1 x1
      have y2 := (rin_iff h' hxy).1 x2
      obtain ⟨p, hp⟩ := (both n).1 ⟨y1.2.2, y2.2.2⟩
      rw [← gl] at hp
      have hFn : riF a b c x y z ≤ n := by
        obtain ⟨i, hi⟩ := beh n x1 x2
        rcases Nat.lt_or_ge i j with hlt | hge
        · have hf := (j3 i hlt).2.2
          rw [← hi, (rin_has h').1 x2] at hf
          cases hf
        · have := mulle (s := absI c) (x := (j : Int)) (y := (i : Int)) s1 (by omega)
          omega
      refine ⟨hFn, ?_, by omega, p, hp⟩
      rw [show q + 1 - 1 = q by omega]
      rcases Int.lt_or_le q p with hlt | hle
      · have := mulle (s := riM c z) (x := q + 1) (y := p) hM1 (by omega)
        rw [Int.mul_add, Int.mul_one] at this
        omega
      · have := mulle (s := riM c z) (x := p) (y := q) hM1 hle
        omega
  · rintro hg n ⟨k1, k2⟩
    obtain ⟨i, hi⟩ := beh n k1 k2
    obtain ⟨a1, a2, pa, a3⟩ := (rin_iff h hab).1 k1
    obtain ⟨b1, b2, pb, b3⟩ := (rin_iff h' hxy).1 k2
    -- the same number, less a common multiple
    have d1 := Int.mul_ediv_add_emod (i : Int) (absI z)
    have d2 := Int.emod_nonneg (i : Int) (show absI z ≠ 0 by omega)
    have d3 := Int.emod_lt_of_pos (i : Int) (show 0 < absI z by omega)
    have d4 := Int.ediv_nonneg (show (0 : Int) ≤ i by omega) (show 0 ≤ absI z by omega)
    obtain ⟨i', hi'⟩ : ∃ i' : Nat, (i' : Int) = (i : Int) % absI z := ⟨((i : Int) % absI z).toNat, Int.toNat_of_nonneg d2⟩
    rw [← hi'] at d1 d2 d3
    have hle : (i' : Int) ≤ i := by
      have := mulle (s := absI z) (x := 0) (y := (i : Int) / absI z) t1 d4
      omega
    have e1 : riF0 a c x + absI c * i' = a + absI c * (p0 + i') := by rw [Int.mul_add]; omega
    have e2 : riF0 a c x + absI c * i' = x + absI z * (pb - absI c * ((i : Int) / absI z)) := by
      have : absI c * (i : Int) = absI c * (absI z * ((i : Int) / absI z)) + absI c * i' := by rw [← Int.mul_add]; rw [d1]
      rw [Int.mul_sub, Int.mul_left_comm]
      omega
    have m1 := mulle (s := absI c) (x := (i' : Int)) (y := (i : Int)) s1 hle
    have m2 := mulle (s := absI c) (x := 0) (y := (i' : Int)) s1 (by omega)
    have r1 : RIn a b c (riF0 a c x + absI c * i') := (rin_iff h hab).2 ⟨by omega, by omega, _, e1⟩
    have r2 : RIn x y z (riF0 a c x + absI c * i') := (rin_iff h' hxy).2 ⟨by omega, by omega, _, e2⟩
    have both : riG a b c x y z = true := by
      unfold riG
      rw [Bool.and_eq_true]
      rcases Nat.lt_trichotomy j i' with hlt | heq | hgt
      · have hn := j4 (by omega)
        have m3 := mulle (s := absI c) (x := (j : Int)) (y := (i' : Int)) s1 (by omega)
        have m4 := mulle (s := absI c) (x := 0) (y := (j : Int)) s1 (by omega)
        have r3 : RIn a b c (riF0 a c x + absI c * j) := (rin_iff h hab).2 ⟨by omega, by omega, p0 + j, by rw [Int.mul_add]; omega⟩
        rw [hF]
        refine ⟨(rin_has h).1 r3, ?_⟩
        cases hb : has x y z (riF0 a c x + absI c * j)
        · exact absurd ⟨by omega, by omega, hb⟩ hn
        · rfl
      · rw [hF, heq]
        exact ⟨(rin_has h).1 r1, (rin_has h').1 r2⟩
      · have hf := (j3 i' hgt).2.2
        rw [(rin_has h').1 r2] at hf
        cases hf
    rw [both] at hg
    cases hg

/-- The reference's range is the program's. -/
theorem ri_is {a b c x y z : Int} (h : Right a b c) (h' : Right x y z) (hab : a ≤ b) (hxy : x ≤ y) :
    (riG a b c x y z = true → isL a b c x y z = rnL (riF a b c x y z) (riF a b c x y z + riQ a b c x y z * riM c z) (riM c z) (decide (c < 0)) ∧ isH a b c x y z = rnH (riF a b c x y z) (riF a b c x y z + riQ a b c x y z * riM c z) (riM c z) (decide (c < 0)) ∧
      isS a b c x y z = rnS (riF a b c x y z) (riF a b c x y z + riQ a b c x y z * riM c z) (riM c z) (decide (c < 0))) ∧
    (riG a b c x y z = false → isL a b c x y z = 1 ∧ isH a b c x y z = 0 ∧ isS a b c x y z = 1) := by
  have hn : ¬ ckd a b c x y z ≠ 0 := by simp [ckd_zero h h']
  obtain ⟨w1, w2⟩ := is_sw h h'
  obtain ⟨r1, r2⟩ := ri_set h h' hab hxy
  simp only [isL, isH, isS, if_neg hn]
  constructor
  · intro hg
    obtain ⟨v1, v2, v3, v4⟩ := r1 hg
    obtain ⟨e1, e2⟩ := sIn_ext w1 v1 (fun n => (w2 n).trans (v4 n).symm)
    generalize isC a b c x y z = C at *
    generalize isF a b c x y z = F at *
    generalize isB a b c x y z = B at *
    generalize riQ a b c x y z = q at *
    generalize riF a b c x y z = F' at *
    generalize riM c z = M at *
    subst e1
    obtain ⟨e2, e3⟩ := e2 (by omega)
    subst e2
    rw [show q + 1 - 1 = q by omega] at e3
    have w := w1.resolve_left (by omega)
    have v := v1.resolve_left (by omega)
    obtain ⟨q1, q2, q3, q4⟩ := nrm_like (f := F) (s := B) (C := q + 1) (c := c) w.2.1
    have m0 := mulle (s := M) (x := 0) (y := q) v.2.1 (by omega)
    rw [Int.mul_zero] at m0
    have n1 : ¬ q + 1 ≤ 0 := by omega
    have e0 : mvE F B (q + 1) = 0 := by unfold mvE; rw [if_neg n1, if_pos (by rw [show q + 1 - 1 = q by omega] at w ⊢; omega)]
    rw [q2, q3, q4]
    simp only [mvLow, mvHigh, mvStr, e0, if_neg n1, if_true]
    rw [show q + 1 - 1 = q by omega, e3, Int.mul_comm q M]
    unfold rnL rnH rnS
    rw [if_neg (by omega), if_neg (by omega)]
    refine ⟨rfl, rfl, ?_⟩
    by_cases hq : q = 0
    · subst hq; simp
    · have m1 := mulle (s := M) (x := 1) (y := q) v.2.1 (by omega)
      have hB : B = M := Int.eq_of_mul_eq_mul_right hq e3
      subst hB
      rw [if_neg (show ¬ (q + 1 = 1) by omega), if_neg (show ¬ (F ≥ F + B * q) by omega)]
      by_cases hc : c < 0 <;> simp [hc]
  · intro hg
    have hC : isC a b c x y z = 0 := by
      rcases w1 with h0 | h1
      · exact h0
      · exact absurd ((w2 _).1 (sIn_first h1.2.1 h1.1)) (r2 hg _)
    rw [hC]
    simp [nLow, nHigh, nStr]
end Go.RX.Span

/- The reference's Intersect: the search loop's states. -/
set_option linter.unusedVariables false
set_option linter.unusedSimpArgs false
namespace Go.RX.Span
open Go Go.RX

noncomputable abbrev kr : List (Nat × Con) := (88, c_Gcd) :: k8
theorem kr_ok : ∀ p ∈ kr, ConOK P p.1 p.2 := by
  intro p hp
  simp only [kr, List.mem_cons] at hp
  rcases hp with rfl | hp
  · exact Gcd_ok
  · exact k8_ok p (by simpa [k8] using hp)
noncomputable abbrev Er : Env := ⟨P, conOf kr, scall P (conOf kr) noLoops 10⟩
theorem Er_ok : EnvOK Er := envOK (allOK mixed kr_ok) 10
structure XS where
  (a b c x y z s t M f : Int) (k : Nat)
def PreS (n0 : Nat) (a b c x y z s t M f : Int) : Prop := n0 ≤ 3 ∧ (I64 a ∧ I64 b ∧ I64 c) ∧ (I64 x ∧ I64 y ∧ I64 z) ∧ b ≤ 1000000 ∧ 1 ≤ s ∧ s ≤ 2000000 ∧ 1 ≤ t ∧ t ≤ 2000000 ∧ -1000000 ≤ f ∧ f ≤ 4000000
def memS (a b c x y z : Int) : Mem := [(0, some (.cells [.lit (.int .i64 a), .lit (.int .i64 b), .lit (.int .i64 c)] 46)), (0, some (.cells [.lit (.int .i64 x), .lit (.int .i64 y), .lit (.int .i64 z)] 46)), (0, some (.cells [.lit (.int .i64 0), .lit (.int .i64 0), .lit (.int .i64 0)] 46))]
noncomputable def gS : Nat → Few → T (Ex × Few)
  | n0, ([.ptr 0 0, .ptr 1 0, .ptr 2 0, .ki .i64 (.ofNat 0), .lit (.int .i64 s), .lit (.int .i64 t), .lit (.int .i64 M), .lit (.int .i64 f), .ki .i64 (.ofNat 0)], [(0, some (.cells [.lit (.int .i64 a), .lit (.int .i64 b), .lit (.int .i64 c)] 46)), (0, some (.cells [.lit (.int .i64 x), .lit (.int .i64 y), .lit (.int .i64 z)] 46)), (0, some (.cells [.lit (.int .i64 (.ofNat 0)), .lit (.int .i64 (.ofNat 0)), .lit (.int .i64 (.ofNat 0))] 46))]) =>
    .ask (PreS n0 a b c x y z s t M f) (.ret (.exit 0, ([.ptr 0 0, .ptr 1 0, .ptr 2 0, .ki .i64 (.ofNat 0), .lit (.int .i64 s), .lit (.int .i64 t), .lit (.int .i64 M), .lit (.int .i64 (lk se b x y z s (U.toNat t) f)), .any],
      [(0, some (.cells [.lit (.int .i64 a), .lit (.int .i64 b), .lit (.int .i64 c)] 46)), (0, some (.cells [.lit (.int .i64 x), .lit (.int .i64 y), .lit (.int .i64 z)] 46)), (0, some (.cells [.lit (.int .i64 (.ofNat 0)), .lit (.int .i64 (.ofNat 0)), .lit (.int .i64 (.ofNat 0))] 46))])))
  | _, _ => .stuck 1
noncomputable def VS (q : XS) : Few := ([.ptr 0 0, .ptr 1 0, .ptr 2 0, .ki .i64 0, .lit (.int .i64 q.s), .lit (.int .i64 q.t), .lit (.int .i64 q.M), .lit (.int .i64 q.f), .lit (.int .i64 q.k)], memS q.a q.b q.c q.x q.y q.z)
noncomputable def OS (q : XS) : Ex × Few := (.exit 0, ([.ptr 0 0, .ptr 1 0, .ptr 2 0, .ki .i64 0, .lit (.int .i64 q.s), .lit (.int .i64 q.t), .lit (.int .i64 q.M), .lit (.int .i64 (se q.b q.x q.y q.z q.s (q.t - q.k).toNat q.f)), .any], memS q.a q.b q.c q.x q.y q.z))
def PhiS (n0 : Nat) (q : XS) : Prop := PreS n0 q.a q.b q.c q.x q.y q.z q.s q.t q.M q.f ∧ (q.k : Int) ≤ q.t
noncomputable abbrev l51 : List (Nat × Loops) := [(64, [(16, .sum (few 126 [2, 3, 4, 5, 8, 9, 10, 12, 13] gS))])]
end Go.RX.Span

/- The reference's Intersect: the walks. -/
set_option linter.unusedVariables false
set_option linter.unusedSimpArgs false
set_option maxRecDepth 100000
namespace Go.RX.Span
open Go Go.RX
attribute [local irreducible] sx conB

set_option maxRecDepth 100000 in
theorem t_S (n0 : Nat) (a b c x y z s t M f i : Int) : (sx Er [] n0 (loopOf P 64 16) (mkS 126 [2, 3, 4, 5, 8, 9, 10, 12, 13] [.ptr 0 0, .ptr 1 0, .ptr 2 0, .ki .i64 0, .lit (.int .i64 s), .lit (.int .i64 t), .lit (.int .i64 M), .lit (.int .i64 f), .lit (.int .i64 i)], memS a b c x y z)).bind (proj 126 [2, 3, 4, 5, 8, 9, 10, 12, 13]) =
    T.br (U.lt i t) (.br (U.le f b) (.br (U.le f y) (.ask (I64 x ∧ I64 y ∧ I64 z) (.br (U.not (lk has x y z f)) (.ret (Ex.normal, [SV.ptr (nat_lit 0) (nat_lit 0), SV.ptr (nat_lit 1)
      (nat_lit 0), SV.ptr (nat_lit 2) (nat_lit 0), SV.ki .i64 0, .lit (.int .i64 s), .lit (.int .i64 t), .lit (.int .i64 M), .lit (.int .i64 (U.add .i64 f s)), .lit (.int .i64 (U.add .i64
      i (1 : Int)))], [(nat_lit 0, some (Blk.cells [.lit (.int .i64 a), .lit (.int .i64 b), .lit (.int .i64 c)] (nat_lit 46))), (nat_lit 0, some (Blk.cells [.lit (.int .i64 x), .lit (.int
      .i64 y), .lit (.int .i64 z)] (nat_lit 46))), (nat_lit 0, some (Blk.cells [.lit (.int .i64 0), .lit (.int .i64 0), .lit (.int .i64 0)] (nat_lit 46)))])) (.ret (Ex.exit (nat_lit 0),
      [SV.ptr (nat_lit 0) (nat_lit 0), SV.ptr (nat_lit 1) (nat_lit 0), SV.ptr (nat_lit 2) (nat_lit 0), SV.ki .i64 0, .lit (.int .i64 s), .lit (.int .i64 t), .lit (.int .i64 M), .lit (.int
      .i64 f), .lit (.int .i64 i)], [(nat_lit 0, some (Blk.cells [.lit (.int .i64 a), .lit (.int .i64 b), .lit (.int .i64 c)] (nat_lit 46))), (nat_lit 0, some (Blk.cells [.lit (.int .i64
      x), .lit (.int .i64 y), .lit (.int .i64 z)] (nat_lit 46))), (nat_lit 0, some (Blk.cells [.lit (.int .i64 0), .lit (.int .i64 0), .lit (.int .i64 0)] (nat_lit 46)))])))) (.ret
      (Ex.exit (nat_lit 0), [SV.ptr (nat_lit 0) (nat_lit 0), SV.ptr (nat_lit 1) (nat_lit 0), SV.ptr (nat_lit 2) (nat_lit 0), SV.ki .i64 0, .lit (.int .i64 s), .lit (.int .i64 t), .lit
      (.int .i64 M), .lit (.int .i64 f), .lit (.int .i64 i)], [(nat_lit 0, some (Blk.cells [.lit (.int .i64 a), .lit (.int .i64 b), .lit (.int .i64 c)] (nat_lit 46))), (nat_lit 0, some
      (Blk.cells [.lit (.int .i64 x), .lit (.int .i64 y), .lit (.int .i64 z)] (nat_lit 46))), (nat_lit 0, some (Blk.cells [.lit (.int .i64 0), .lit (.int .i64 0), .lit (.int .i64 0)]
      (nat_lit 46)))]))) (.ret (Ex.exit (nat_lit 0), [SV.ptr (nat_lit 0) (nat_lit 0), SV.ptr (nat_lit 1) (nat_lit 0), SV.ptr (nat_lit 2) (nat_lit 0), SV.ki .i64 0, .lit (.int .i64 s),
      .lit (.int .i64 t), .lit (.int .i64 M), .lit (.int .i64 f), .lit (.int .i64 i)], [(nat_lit 0, some (Blk.cells [.lit (.int .i64 a), .lit (.int .i64 b), .lit (.int .i64 c)] (nat_lit
      46))), (nat_lit 0, some (Blk.cells [.lit (.int .i64 x), .lit (.int .i64 y), .lit (.int .i64 z)] (nat_lit 46))), (nat_lit 0, some (Blk.cells [.lit (.int .i64 0), .lit (.int .i64 0),
      .lit (.int .i64 0)] (nat_lit 46)))]))) (.ret (Ex.exit (nat_lit 0), [SV.ptr (nat_lit 0) (nat_lit 0), SV.ptr (nat_lit 1) (nat_lit 0), SV.ptr (nat_lit 2) (nat_lit 0), SV.ki .i64 0,
      .lit (.int .i64 s), .lit (.int .i64 t), .lit (.int .i64 M), .lit (.int .i64 f), .lit (.int .i64 i)], [(nat_lit 0, some (Blk.cells [.lit (.int .i64 a), .lit (.int .i64 b), .lit (.int
      .i64 c)] (nat_lit 46))), (nat_lit 0, some (Blk.cells [.lit (.int .i64 x), .lit (.int .i64 y), .lit (.int .i64 z)] (nat_lit 46))), (nat_lit 0, some (Blk.cells [.lit (.int .i64 0),
      .lit (.int .i64 0), .lit (.int .i64 0)] (nat_lit 46)))])) := by kernel_rfl
theorem roundS (n0 : Nat) (q : XS) (hq : PhiS n0 q) : ((sx Er [] n0 (loopOf P 64 16) (mkS 126 [2, 3, 4, 5, 8, 9, 10, 12, 13] (VS q).1, (VS q).2)).bind (proj 126 [2, 3, 4, 5, 8, 9, 10, 12, 13])).All fun r => match r.1 with
      | .normal => ∃ q', PhiS n0 q' ∧ (q'.t - q'.k).toNat < (q.t - q.k).toNat ∧ Wk 126 [2, 3, 4, 5, 8, 9, 10, 12, 13] n0 r.2 (VS q') ∧ ∀ o, o = OS q' → o = OS q
      | e => ∃ s, (e, s) = OS q ∧ Wk 126 [2, 3, 4, 5, 8, 9, 10, 12, 13] n0 r.2 s := by
  unfold VS
  dsimp only
  rw [t_S]
  obtain ⟨a, b, c, x, y, z, s, t, M, f, k⟩ := q
  dsimp only
  obtain ⟨⟨h0, ha, hx, hb, s1, s2, t1, t2, f1, f2⟩, hk⟩ := hq
  simp only [] at h0 ha hx hb s1 s2 t1 t2 f1 f2 hk
  have w0 : ∀ {vs vs' : List SV}, RlL (idR 3) vs vs' → Wk 126 [2, 3, 4, 5, 8, 9, 10, 12, 13] n0 (vs, memS a b c x y z) (vs', memS a b c x y z) := fun h =>
    wk_of (idR 3) rfl h0 (fun b hb => idR_of (by omega)) h ⟨⟨rfl, rfl, rfl, rfl, trivial⟩, ⟨rfl, rfl, rfl, rfl, trivial⟩, ⟨rfl, rfl, rfl, rfl, trivial⟩, trivial⟩
  have fin : (¬ ((k : Int) < t ∧ f ≤ b ∧ f ≤ y ∧ has x y z f = false)) → ∃ s', ((Ex.exit 0, s') : Ex × Few) = OS ⟨a, b, c, x, y, z, s, t, M, f, k⟩ ∧ Wk 126 [2, 3, 4, 5, 8, 9, 10, 12, 13] n0 ([.ptr 0 0, .ptr 1 0, .ptr 2 0, .ki .i64 0, .lit (.int .i64 s), .lit (.int .i64 t), .lit (.int .i64 M), .lit (.int .i64 f), .lit (.int .i64 k)], memS a b c x y z) s' := fun hn => by
    refine ⟨(OS ⟨a, b, c, x, y, z, s, t, M, f, k⟩).2, rfl, w0 ⟨⟨rfl, rfl⟩, ⟨rfl, rfl⟩, ⟨rfl, rfl⟩, ⟨rfl, rfl⟩, rfl, rfl, rfl, ?_, trivial, trivial⟩⟩
    show Value.int .i64 f = Value.int .i64 (se b x y z s (t - k).toNat f)
    by_cases hkt : (k : Int) < t
    · rw [se_end (fun h => hn ⟨hkt, h⟩)]
    · rw [show (t - (k : Int)).toNat = 0 by omega]; rfl
  simp only [T.All, U.le_t, U.le_f, U.lt_t, U.lt_f, U.gt_t, U.gt_f, U.ge_t, U.ge_f, U.eq_t, U.eq_f, U.ne_t, U.ne_f, U.not_t, U.not_f, U.andb_t, U.andb_f, SV.lit.injEq, SV.agg.injEq, SV.tup.injEq, List.cons.injEq, Value.int.injEq, Value.bool.injEq, true_and, and_true, lk_eq, hx, and_self, true_and]
  refine ⟨fun hlt => ⟨fun hfb => ⟨fun hfy => ⟨fun hh => ?_, fun hh => fin (fun h => by rw [hh] at h; cases h.2.2.2)⟩, fun h => fin (by omega)⟩, fun h => fin (by omega)⟩, fun h => fin (by omega)⟩
  have e1 : U.add .i64 f s = f + s := by rw [U.add64 (by unfold I64; omega)]
  have e2 : U.add .i64 (k : Int) 1 = ((k + 1 : Nat) : Int) := by rw [U.add64 (by unfold I64; omega)]; omega
  refine ⟨⟨a, b, c, x, y, z, s, t, M, f + s, k + 1⟩, ⟨⟨h0, ha, hx, hb, s1, s2, t1, t2, by simp only []; omega, by simp only []; omega⟩, by simp only []; omega⟩, by simp only []; omega, ?_, fun o ho => ?_⟩
  · rw [e1, e2]
    exact w0 ⟨⟨rfl, rfl⟩, ⟨rfl, rfl⟩, ⟨rfl, rfl⟩, ⟨rfl, rfl⟩, rfl, rfl, rfl, rfl, rfl, trivial⟩
  · rw [ho]
    simp only [OS]
    rw [show (t - (k : Int)).toNat = (t - ((k + 1 : Nat) : Int)).toNat + 1 by omega, se_go ⟨hfb, hfy, hh⟩]
theorem loopS : LoopOK P (loopOf P 64 16) (few 126 [2, 3, 4, 5, 8, 9, 10, 12, 13] gS) :=
  loop_few (E := Er) mixed Er_ok loopsOK_none 126 [2, 3, 4, 5, 8, 9, 10, 12, 13] (X := XS) gS (fun _ x => VS x) PhiS (fun x => (x.t - x.k).toNat) (fun _ x o => o = OS x)
    (fun n0 st r h => by
      unfold gS at h
      split at h
      · rename_i n0 s t M f a b c x y z
        have hp := (T.is_ask h).1
        have hp' := hp
        obtain ⟨h0, ha, hx, hb, s1, s2, t1, t2, f1, f2⟩ := hp'
        obtain rfl := T.is_ret (T.is_ask h).2
        refine ⟨⟨a, b, c, x, y, z, s, t, M, f, 0⟩, ⟨hp, by simp only []; omega⟩, wk_of (idR 3) rfl h0 (fun b hb => idR_of (by omega)) ⟨⟨rfl, rfl⟩, ⟨rfl, rfl⟩, ⟨rfl, rfl⟩, ⟨rfl, rfl⟩, rfl, rfl, rfl, rfl, rfl, trivial⟩ ⟨⟨rfl, rfl, rfl, rfl, trivial⟩, ⟨rfl, rfl, rfl, rfl, trivial⟩, ⟨rfl, rfl, rfl, rfl, trivial⟩, trivial⟩, fun o ho => ?_⟩
        rw [ho]
        simp only [OS, lk_eq, U.toNat_eq]
        rw [show t - ((0 : Nat) : Int) = t by omega]
        rfl
      · exact h.elim)
    roundS
theorem l51_ok : ∀ p ∈ l51, LoopsOK P p.2 (bodyOf P p.1) := by
  intro p hp
  simp only [l51, List.mem_singleton] at hp
  subst hp
  refine loopsOK_of (by kernel_rfl) fun k g hk => ?_
  simp only [List.mem_singleton, Prod.mk.injEq, LoopC.sum.injEq] at hk
  obtain ⟨rfl, rfl⟩ := hk
  exact loopS
set_option maxRecDepth 100000 in
theorem t_rIntersect (a b c x y z : Int) : conB Go.Proofs.Tryz.prog (conOf kr) (loopsOf l51) 10 64 [.agg [.lit (.int .i64 a), .lit (.int .i64 b), .lit (.int .i64 c)], .agg [.lit (.int .i64 x), .lit (.int .i64 y), .lit (.int .i64 z)]] =
    T.ask (I64 a ∧ I64 b ∧ I64 c) (.br (U.ne (lk chk a b c) (0 : Int)) (.ret (.tup [.agg [.lit (.int .i64 0), .lit (.int .i64 0), .lit (.int .i64 0)], .lit (.int .i64 (lk chk a b c))]))
      (.ask (I64 x ∧ I64 y ∧ I64 z) (.br (U.ne (lk chk x y z) (0 : Int)) (.ret (.tup [.agg [.lit (.int .i64 0), .lit (.int .i64 0), .lit (.int .i64 0)], .lit (.int .i64 (lk chk x y z))]))
      (.br (lk isE a b c) (.ret (.tup [.agg [.lit (.int .i64 1), .lit (.int .i64 0), .lit (.int .i64 1)], .lit (.int .i64 0)])) (.br (lk isE x y z) (.ret (.tup [.agg [.lit (.int .i64 1),
      .lit (.int .i64 0), .lit (.int .i64 1)], .lit (.int .i64 0)])) (.ask (I64 (-c)) (.ask (I64 (-z)) (.ask ((0 : Int) ≤ lk absI c ∧ (0 : Int) ≤ lk absI z) (.ask (lk gcdI (lk absI c) (lk
      absI z) ≠ (0 : Int)) (.br (U.gt (U.mm true a x) a) (.ask (lk absI c ≠ (0 : Int)) (.ask (PreS (nat_lit 0) a b c x y z (lk absI c) (lk absI z) (U.mul .i64 (U.quo .i64 (lk absI c) (lk
      gcdI (lk absI c) (lk absI z))) (lk absI z)) (U.add .i64 a (U.mul .i64 (U.quo .i64 (U.sub .i64 (U.add .i64 (U.sub .i64 (U.mm true a x) a) (lk absI c)) (1 : Int)) (lk absI c)) (lk
      absI c)))) (.ask (I64 a ∧ I64 b ∧ I64 c) (.br (U.not (lk has a b c (lk se b x y z (lk absI c) (U.toNat (lk absI z)) (U.add .i64 a (U.mul .i64 (U.quo .i64 (U.sub .i64 (U.add .i64
      (U.sub .i64 (U.mm true a x) a) (lk absI c)) (1 : Int)) (lk absI c)) (lk absI c)))))) (.ret (.tup [.agg [.lit (.int .i64 1), .lit (.int .i64 0), .lit (.int .i64 1)], .lit (.int .i64
      0)])) (.ask (I64 x ∧ I64 y ∧ I64 z) (.br (U.not (lk has x y z (lk se b x y z (lk absI c) (U.toNat (lk absI z)) (U.add .i64 a (U.mul .i64 (U.quo .i64 (U.sub .i64 (U.add .i64 (U.sub
      .i64 (U.mm true a x) a) (lk absI c)) (1 : Int)) (lk absI c)) (lk absI c)))))) (.ret (.tup [.agg [.lit (.int .i64 1), .lit (.int .i64 0), .lit (.int .i64 1)], .lit (.int .i64 0)]))
      (.ask (U.mul .i64 (U.quo .i64 (lk absI c) (lk gcdI (lk absI c) (lk absI z))) (lk absI z) ≠ (0 : Int)) (.ask (lk se b x y z (lk absI c) (U.toNat (lk absI z)) (U.add .i64 a (U.mul
      .i64 (U.quo .i64 (U.sub .i64 (U.add .i64 (U.sub .i64 (U.mm true a x) a) (lk absI c)) (1 : Int)) (lk absI c)) (lk absI c))) < U.add .i64 (lk se b x y z (lk absI c) (U.toNat (lk absI
      z)) (U.add .i64 a (U.mul .i64 (U.quo .i64 (U.sub .i64 (U.add .i64 (U.sub .i64 (U.mm true a x) a) (lk absI c)) (1 : Int)) (lk absI c)) (lk absI c)))) (U.mul .i64 (U.quo .i64 (U.sub
      .i64 (U.mm false b y) (lk se b x y z (lk absI c) (U.toNat (lk absI z)) (U.add .i64 a (U.mul .i64 (U.quo .i64 (U.sub .i64 (U.add .i64 (U.sub .i64 (U.mm true a x) a) (lk absI c)) (1 :
      Int)) (lk absI c)) (lk absI c))))) (U.mul .i64 (U.quo .i64 (lk absI c) (lk gcdI (lk absI c) (lk absI z))) (lk absI z))) (U.mul .i64 (U.quo .i64 (lk absI c) (lk gcdI (lk absI c) (lk
      absI z))) (lk absI z))) → U.lt c (0 : Int) = true → I64 (-U.mul .i64 (U.quo .i64 (lk absI c) (lk gcdI (lk absI c) (lk absI z))) (lk absI z))) (.ret (.tup [.agg [.lit (.int .i64 (lk
      rnL (lk se b x y z (lk absI c) (U.toNat (lk absI z)) (U.add .i64 a (U.mul .i64 (U.quo .i64 (U.sub .i64 (U.add .i64 (U.sub .i64 (U.mm true a x) a) (lk absI c)) (1 : Int)) (lk absI
      c)) (lk absI c)))) (U.add .i64 (lk se b x y z (lk absI c) (U.toNat (lk absI z)) (U.add .i64 a (U.mul .i64 (U.quo .i64 (U.sub .i64 (U.add .i64 (U.sub .i64 (U.mm true a x) a) (lk absI
      c)) (1 : Int)) (lk absI c)) (lk absI c)))) (U.mul .i64 (U.quo .i64 (U.sub .i64 (U.mm false b y) (lk se b x y z (lk absI c) (U.toNat (lk absI z)) (U.add .i64 a (U.mul .i64 (U.quo
      .i64 (U.sub .i64 (U.add .i64 (U.sub .i64 (U.mm true a x) a) (lk absI c)) (1 : Int)) (lk absI c)) (lk absI c))))) (U.mul .i64 (U.quo .i64 (lk absI c) (lk gcdI (lk absI c) (lk absI
      z))) (lk absI z))) (U.mul .i64 (U.quo .i64 (lk absI c) (lk gcdI (lk absI c) (lk absI z))) (lk absI z)))) (U.mul .i64 (U.quo .i64 (lk absI c) (lk gcdI (lk absI c) (lk absI z))) (lk
      absI z)) (U.lt c (0 : Int)))), .lit (.int .i64 (lk rnH (lk se b x y z (lk absI c) (U.toNat (lk absI z)) (U.add .i64 a (U.mul .i64 (U.quo .i64 (U.sub .i64 (U.add .i64 (U.sub .i64
      (U.mm true a x) a) (lk absI c)) (1 : Int)) (lk absI c)) (lk absI c)))) (U.add .i64 (lk se b x y z (lk absI c) (U.toNat (lk absI z)) (U.add .i64 a (U.mul .i64 (U.quo .i64 (U.sub .i64
      (U.add .i64 (U.sub .i64 (U.mm true a x) a) (lk absI c)) (1 : Int)) (lk absI c)) (lk absI c)))) (U.mul .i64 (U.quo .i64 (U.sub .i64 (U.mm false b y) (lk se b x y z (lk absI c)
      (U.toNat (lk absI z)) (U.add .i64 a (U.mul .i64 (U.quo .i64 (U.sub .i64 (U.add .i64 (U.sub .i64 (U.mm true a x) a) (lk absI c)) (1 : Int)) (lk absI c)) (lk absI c))))) (U.mul .i64
      (U.quo .i64 (lk absI c) (lk gcdI (lk absI c) (lk absI z))) (lk absI z))) (U.mul .i64 (U.quo .i64 (lk absI c) (lk gcdI (lk absI c) (lk absI z))) (lk absI z)))) (U.mul .i64 (U.quo
      .i64 (lk absI c) (lk gcdI (lk absI c) (lk absI z))) (lk absI z)) (U.lt c (0 : Int)))), .lit (.int .i64 (lk rnS (lk se b x y z (lk absI c) (U.toNat (lk absI z)) (U.add .i64 a (U.mul
      .i64 (U.quo .i64 (U.sub .i64 (U.add .i64 (U.sub .i64 (U.mm true a x) a) (lk absI c)) (1 : Int)) (lk absI c)) (lk absI c)))) (U.add .i64 (lk se b x y z (lk absI c) (U.toNat (lk absI
      z)) (U.add .i64 a (U.mul .i64 (U.quo .i64 (U.sub .i64 (U.add .i64 (U.sub .i64 (U.mm true a x) a) (lk absI c)) (1 : Int)) (lk absI c)) (lk absI c)))) (U.mul .i64 (U.quo .i64 (U.sub
      .i64 (U.mm false b y) (lk se b x y z (lk absI c) (U.toNat (lk absI z)) (U.add .i64 a (U.mul .i64 (U.quo .i64 (U.sub .i64 (U.add .i64 (U.sub .i64 (U.mm true a x) a) (lk absI c)) (1 :
      Int)) (lk absI c)) (lk absI c))))) (U.mul .i64 (U.quo .i64 (lk absI c) (lk gcdI (lk absI c) (lk absI z))) (lk absI z))) (U.mul .i64 (U.quo .i64 (lk absI c) (lk gcdI (lk absI c) (lk
      absI z))) (lk absI z)))) (U.mul .i64 (U.quo .i64 (lk absI c) (lk gcdI (lk absI c) (lk absI z))) (lk absI z)) (U.lt c (0 : Int))))], .lit (.int .i64 0)])))))))))) (.ask (PreS
      (nat_lit 0) a b c x y z (lk absI c) (lk absI z) (U.mul .i64 (U.quo .i64 (lk absI c) (lk gcdI (lk absI c) (lk absI z))) (lk absI z)) a) (.ask (I64 a ∧ I64 b ∧ I64 c) (.br (U.not (lk
      has a b c (lk se b x y z (lk absI c) (U.toNat (lk absI z)) a))) (.ret (.tup [.agg [.lit (.int .i64 1), .lit (.int .i64 0), .lit (.int .i64 1)], .lit (.int .i64 0)])) (.ask (I64 x ∧
      I64 y ∧ I64 z) (.br (U.not (lk has x y z (lk se b x y z (lk absI c) (U.toNat (lk absI z)) a))) (.ret (.tup [.agg [.lit (.int .i64 1), .lit (.int .i64 0), .lit (.int .i64 1)], .lit
      (.int .i64 0)])) (.ask (U.mul .i64 (U.quo .i64 (lk absI c) (lk gcdI (lk absI c) (lk absI z))) (lk absI z) ≠ (0 : Int)) (.ask (lk se b x y z (lk absI c) (U.toNat (lk absI z)) a <
      U.add .i64 (lk se b x y z (lk absI c) (U.toNat (lk absI z)) a) (U.mul .i64 (U.quo .i64 (U.sub .i64 (U.mm false b y) (lk se b x y z (lk absI c) (U.toNat (lk absI z)) a)) (U.mul .i64
      (U.quo .i64 (lk absI c) (lk gcdI (lk absI c) (lk absI z))) (lk absI z))) (U.mul .i64 (U.quo .i64 (lk absI c) (lk gcdI (lk absI c) (lk absI z))) (lk absI z))) → U.lt c (0 : Int) =
      true → I64 (-U.mul .i64 (U.quo .i64 (lk absI c) (lk gcdI (lk absI c) (lk absI z))) (lk absI z))) (.ret (.tup [.agg [.lit (.int .i64 (lk rnL (lk se b x y z (lk absI c) (U.toNat (lk
      absI z)) a) (U.add .i64 (lk se b x y z (lk absI c) (U.toNat (lk absI z)) a) (U.mul .i64 (U.quo .i64 (U.sub .i64 (U.mm false b y) (lk se b x y z (lk absI c) (U.toNat (lk absI z)) a))
      (U.mul .i64 (U.quo .i64 (lk absI c) (lk gcdI (lk absI c) (lk absI z))) (lk absI z))) (U.mul .i64 (U.quo .i64 (lk absI c) (lk gcdI (lk absI c) (lk absI z))) (lk absI z)))) (U.mul
      .i64 (U.quo .i64 (lk absI c) (lk gcdI (lk absI c) (lk absI z))) (lk absI z)) (U.lt c (0 : Int)))), .lit (.int .i64 (lk rnH (lk se b x y z (lk absI c) (U.toNat (lk absI z)) a) (U.add
      .i64 (lk se b x y z (lk absI c) (U.toNat (lk absI z)) a) (U.mul .i64 (U.quo .i64 (U.sub .i64 (U.mm false b y) (lk se b x y z (lk absI c) (U.toNat (lk absI z)) a)) (U.mul .i64 (U.quo
      .i64 (lk absI c) (lk gcdI (lk absI c) (lk absI z))) (lk absI z))) (U.mul .i64 (U.quo .i64 (lk absI c) (lk gcdI (lk absI c) (lk absI z))) (lk absI z)))) (U.mul .i64 (U.quo .i64 (lk
      absI c) (lk gcdI (lk absI c) (lk absI z))) (lk absI z)) (U.lt c (0 : Int)))), .lit (.int .i64 (lk rnS (lk se b x y z (lk absI c) (U.toNat (lk absI z)) a) (U.add .i64 (lk se b x y z
      (lk absI c) (U.toNat (lk absI z)) a) (U.mul .i64 (U.quo .i64 (U.sub .i64 (U.mm false b y) (lk se b x y z (lk absI c) (U.toNat (lk absI z)) a)) (U.mul .i64 (U.quo .i64 (lk absI c)
      (lk gcdI (lk absI c) (lk absI z))) (lk absI z))) (U.mul .i64 (U.quo .i64 (lk absI c) (lk gcdI (lk absI c) (lk absI z))) (lk absI z)))) (U.mul .i64 (U.quo .i64 (lk absI c) (lk gcdI
      (lk absI c) (lk absI z))) (lk absI z)) (U.lt c (0 : Int))))], .lit (.int .i64 0)]))))))))))))))))))) := by kernel_rfl
theorem is_zero {a b c x y z : Int} (h : Right a b c) (h' : Right x y z) (hC : isC a b c x y z = 0) : isL a b c x y z = 1 ∧ isH a b c x y z = 0 ∧ isS a b c x y z = 1 := by
  have hn : ¬ ckd a b c x y z ≠ 0 := by simp [ckd_zero h h']
  simp only [isL, isH, isS, if_neg hn, hC]
  simp [nLow, nHigh, nStr]
theorem is_empty {a b c x y z : Int} (h : Right a b c) (h' : Right x y z) (he : isE a b c = true ∨ isE x y z = true) : isC a b c x y z = 0 := by
  obtain ⟨w1, w2⟩ := is_sw h h'
  rcases w1 with h0 | h1
  · exact h0
  · have f1 := (w2 _).1 (sIn_first h1.2.1 h1.1)
    rcases he with he | he
    · rw [isE_t] at he
      have := (empty_of (a := a) (b := b) (c := c) (by omega)).2.2
      have := f1.1.2.2.1
      omega
    · rw [isE_t] at he
      have := (empty_of (a := x) (b := y) (c := z) (by omega)).2.2
      have := f1.2.2.2.1
      omega
/-- The reference's reckoning, without overflow. -/
theorem ri_nums {a b c x y z : Int} (h : Right a b c) (h' : Right x y z) (hab : a ≤ b) (hxy : x ≤ y) :
    gcdI (absI c) (absI z) ≠ 0 ∧ U.mul .i64 (U.quo .i64 (absI c) (gcdI (absI c) (absI z))) (absI z) = riM c z ∧ 1 ≤ riM c z ∧ riM c z ≤ 4000000000000 ∧
    (max a x > a → U.add .i64 a (U.mul .i64 (U.quo .i64 (U.sub .i64 (U.add .i64 (U.sub .i64 (max a x) a) (absI c)) 1) (absI c)) (absI c)) = riF0 a c x) ∧
    (riG a b c x y z = true → U.add .i64 (riF a b c x y z) (U.mul .i64 (U.quo .i64 (U.sub .i64 (min b y) (riF a b c x y z)) (riM c z)) (riM c z)) = riF a b c x y z + riQ a b c x y z * riM c z) := by
  obtain ⟨s1, s2, _⟩ := parts h hab
  obtain ⟨t1, t2, _⟩ := parts h' hxy
  have hla := h.1
  have hlx := h'.1
  obtain ⟨g, s', m, u, w, g3, g4, g9, g1, g6, g7, gl⟩ := riM_eq s1 t1
  have hM1 : 1 ≤ riM c z := by
    rw [gl]
    have := mulle (s := absI c) (x := 1) (y := m) s1 g6
    omega
  have hMt : riM c z ≤ 4000000000000 := by
    rw [gl]
    have := mulle (s := absI c) (x := m) (y := 2000000) s1 (by omega)
    omega
  have hg0 : gcdI (absI c) (absI z) ≠ 0 := by
    unfold gcdI
    have : 0 < Int.gcd (absI c) (absI z) := Int.gcd_pos_of_ne_zero_left _ (by omega)
    omega
  have hgp : 0 ≤ gcdI (absI c) (absI z) := by unfold gcdI; omega
  have q1 := Int.tdiv_eq_ediv_of_nonneg (b := gcdI (absI c) (absI z)) (show 0 ≤ absI c by omega)
  have q2 := Int.ediv_nonneg (show 0 ≤ absI c by omega) hgp
  have q3 := Int.ediv_le_self (gcdI (absI c) (absI z)) (show 0 ≤ absI c by omega)
  have hMM : U.mul .i64 (U.quo .i64 (absI c) (gcdI (absI c) (absI z))) (absI z) = riM c z := by
    have e := U.quo64 (a := absI c) (b := gcdI (absI c) (absI z)) (by unfold I64; omega)
    have e' : riM c z = (absI c).tdiv (gcdI (absI c) (absI z)) * absI z := rfl
    rw [e, U.mul64 (by unfold I64; omega), e']
  refine ⟨hg0, hMM, hM1, hMt, fun hgt => ?_, fun hG => ?_⟩
  · obtain ⟨f1, f2, p0, f3, f4⟩ := riF0_spec (a := a) (c := c) (x := x) s1
    have e : riF0 a c x = a + (max a x - a + absI c - 1).tdiv (absI c) * absI c := by unfold riF0; rw [if_pos hgt]
    have r1 := Int.tdiv_eq_ediv_of_nonneg (b := absI c) (show 0 ≤ max a x - a + absI c - 1 by omega)
    have r2 := Int.ediv_nonneg (show 0 ≤ max a x - a + absI c - 1 by omega) (show 0 ≤ absI c by omega)
    have r3 := Int.ediv_le_self (absI c) (show 0 ≤ max a x - a + absI c - 1 by omega)
    have e1 : U.sub .i64 (max a x) a = max a x - a := U.sub64 (by unfold I64; omega)
    have e2 : U.add .i64 (max a x - a) (absI c) = max a x - a + absI c := U.add64 (by unfold I64; omega)
    have e3 : U.sub .i64 (max a x - a + absI c) 1 = max a x - a + absI c - 1 := U.sub64 (by unfold I64; omega)
    have e4 : U.quo .i64 (max a x - a + absI c - 1) (absI c) = (max a x - a + absI c - 1).tdiv (absI c) := U.quo64 (by unfold I64; omega)
    rw [e1, e2, e3, e4, U.mul64 (by unfold I64; omega), U.add64 (by unfold I64; omega), e]
  · obtain ⟨v1, v2, v3, v4⟩ := (ri_set h h' hab hxy).1 hG
    have w := v1.resolve_left (by omega)
    have w4 := w.2.2.2.1
    have w5 := w.2.2.2.2
    rw [show riQ a b c x y z + 1 - 1 = riQ a b c x y z by omega] at w5
    have m0 := mulle (s := riM c z) (x := 0) (y := riQ a b c x y z) hM1 v2.1
    have e1 : U.sub .i64 (min b y) (riF a b c x y z) = min b y - riF a b c x y z := U.sub64 (by unfold I64; omega)
    have hq : riQ a b c x y z = (min b y - riF a b c x y z).tdiv (riM c z) := rfl
    have e2 : U.quo .i64 (min b y - riF a b c x y z) (riM c z) = riQ a b c x y z := by
      rw [U.quo64 (by unfold I64; omega), hq]
    rw [e1, e2, U.mul64 (by rw [Int.mul_comm]; unfold I64; omega), U.add64 (by rw [Int.mul_comm]; unfold I64; omega)]
theorem rIntersect_ok : ConOK P 64 c_Intersect := con_of (allOKL mixed kr_ok l51_ok) 10 64 fun args r h => by
  unfold c_Intersect at h
  split at h
  · rename_i a b c x y z
    have hp := (T.is_ask h).1
    have h := (T.is_ask h).2
    obtain rfl := T.is_ret h
    rw [t_rIntersect]
    obtain ⟨ha, hb, hc, hx, hy, hz⟩ := hp
    by_cases h1 : chk a b c = 0
    · by_cases h2 : chk x y z = 0
      · have r1 := chk_zero.1 h1
        have r2 := chk_zero.1 h2
        have er := (is_set r1 r2).1
        cases i1 : isE a b c
        · cases i2 : isE x y z
          · have hab := right_le r1 (by rw [isE_f] at i1; exact i1)
            have hxy := right_le r2 (by rw [isE_f] at i2; exact i2)
            obtain ⟨s1, s2, _⟩ := parts r1 hab
            obtain ⟨t1, t2, _⟩ := parts r2 hxy
            have hla := r1.1
            have hlx := r2.1
            have rc := right_c r1
            have rz := right_c r2
            obtain ⟨n1, n2, n3, n4, n5, n6⟩ := ri_nums r1 r2 hab hxy
            obtain ⟨k1, k2⟩ := ri_is r1 r2 hab hxy
            obtain ⟨f1, f2, _⟩ := riF0_spec (a := a) (c := c) (x := x) s1
            have hse : se b x y z (absI c) (absI z).toNat (riF0 a c x) = riF a b c x y z := rfl
            have pre : PreS 0 a b c x y z (absI c) (absI z) (riM c z) (riF0 a c x) := ⟨by omega, ⟨ha, hb, hc⟩, ⟨hx, hy, hz⟩, by omega, s1, s2, t1, t2, by omega, by omega⟩
            have neg : I64 (-riM c z) := by unfold I64; omega
            have negc : I64 (-c) := by unfold I64; omega
            have negz : I64 (-z) := by unfold I64; omega
            have hs0 : absI c ≠ 0 := by omega
            have hM0 : riM c z ≠ 0 := by omega
            have nn : (0 : Int) ≤ absI c ∧ (0 : Int) ≤ absI z := by omega
            have hlt : U.lt c 0 = decide (c < 0) := U.lt_eq c 0
            have body : ∀ (f : Int), f = riF0 a c x → T.All (fun x_1 => x_1 = (SV.tup [SV.agg [.lit (.int .i64 (isL a b c x y z)), .lit (.int .i64 (isH a b c x y z)), .lit (.int .i64 (isS a b c x y z))], .lit (.int .i64 (isEr a b c x y z))])) (T.ask (PreS 0 a b c x y z (absI c) (absI z) (riM c z) f)
                (T.ask (I64 a ∧ I64 b ∧ I64 c) (T.br (U.not (has a b c (se b x y z (absI c) (absI z).toNat f))) (T.ret (.tup [.agg [.lit (.int .i64 1), .lit (.int .i64 0), .lit (.int .i64 1)], .lit (.int .i64 0)]))
                (T.ask (I64 x ∧ I64 y ∧ I64 z) (T.br (U.not (has x y z (se b x y z (absI c) (absI z).toNat f))) (T.ret (.tup [.agg [.lit (.int .i64 1), .lit (.int .i64 0), .lit (.int .i64 1)], .lit (.int .i64 0)]))
                (T.ask (riM c z ≠ 0) (T.ask (se b x y z (absI c) (absI z).toNat f < U.add .i64 (se b x y z (absI c) (absI z).toNat f) (U.mul .i64 (U.quo .i64 (U.sub .i64 (min b y) (se b x y z (absI c) (absI z).toNat f)) (riM c z)) (riM c z)) → decide (c < 0) = true → I64 (-riM c z))
                (T.ret (.tup [.agg [.lit (.int .i64 (rnL (se b x y z (absI c) (absI z).toNat f) (U.add .i64 (se b x y z (absI c) (absI z).toNat f) (U.mul .i64 (U.quo .i64 (U.sub .i64 (min b y) (se b x y z (absI c) (absI z).toNat f)) (riM c z)) (riM c z))) (riM c z) (decide (c < 0)))),
                  .lit (.int .i64 (rnH (se b x y z (absI c) (absI z).toNat f) (U.add .i64 (se b x y z (absI c) (absI z).toNat f) (U.mul .i64 (U.quo .i64 (U.sub .i64 (min b y) (se b x y z (absI c) (absI z).toNat f)) (riM c z)) (riM c z))) (riM c z) (decide (c < 0)))),
                  .lit (.int .i64 (rnS (se b x y z (absI c) (absI z).toNat f) (U.add .i64 (se b x y z (absI c) (absI z).toNat f) (U.mul .i64 (U.quo .i64 (U.sub .i64 (min b y) (se b x y z (absI c) (absI z).toNat f)) (riM c z)) (riM c z))) (riM c z) (decide (c < 0))))], .lit (.int .i64 0)]))))))))) := by
              rintro f rfl
              rw [hse]
              cases g1 : has a b c (riF a b c x y z)
              · obtain ⟨m1, m2, m3⟩ := k2 (by unfold riG; rw [g1]; rfl)
                simp [T.All, U.not_eq, pre, ha, hb, hc, m1, m2, m3, er]
              · cases g2 : has x y z (riF a b c x y z)
                · obtain ⟨m1, m2, m3⟩ := k2 (by unfold riG; rw [g1, g2]; rfl)
                  simp [T.All, U.not_eq, pre, ha, hb, hc, hx, hy, hz, m1, m2, m3, er]
                · have hG : riG a b c x y z = true := by unfold riG; rw [g1, g2]; rfl
                  obtain ⟨m1, m2, m3⟩ := k1 hG
                  rw [n6 hG]
                  simp [T.All, U.not_eq, pre, ha, hb, hc, hx, hy, hz, m1, m2, m3, er, hM0, neg]
            simp only [lk_eq, mm_max, mm_min, n2, hlt, U.toNat_eq]
            simp only [T.All, U.ne_eq, h1, h2, i1, i2, ha, hb, hc, hx, hy, hz, negc, negz, nn, n1, hs0, and_self, true_and, ne_eq, not_false_eq_true, not_true_eq_false, U.gt_t, U.gt_f] at body ⊢
            refine ⟨fun h => by simp at h, fun _ => ⟨fun h => by simp at h, fun _ => ⟨fun h => by simp at h, fun _ => ⟨fun h => by simp at h, fun _ => ⟨fun hgt => body _ (n5 hgt), fun hle => body _ ?_⟩⟩⟩⟩⟩
            unfold riF0
            rw [if_neg (by omega)]
          · obtain ⟨e1, e2, e3⟩ := is_zero r1 r2 (is_empty r1 r2 (.inr i2))
            simp [T.All, U.ne_eq, lk_eq, h1, h2, i1, i2, e1, e2, e3, er, ha, hb, hc, hx, hy, hz]
        · obtain ⟨e1, e2, e3⟩ := is_zero r1 r2 (is_empty r1 r2 (.inl i1))
          simp [T.All, U.ne_eq, lk_eq, h1, h2, i1, e1, e2, e3, er, ha, hb, hc, hx, hy, hz]
      · simp [T.All, U.ne_eq, lk_eq, isL, isH, isS, isEr, ckd, h1, h2, ha, hb, hc, hx, hy, hz]
    · simp [T.All, U.ne_eq, lk_eq, isL, isH, isS, isEr, ckd, h1, ha, hb, hc]
  · exact h.elim
end Go.RX.Span

/- Ranges: what Subtract returns, in plain Lean. -/
set_option linter.unusedVariables false
set_option linter.unusedSimpArgs false
namespace Go.RX.Span
open Go Go.RX

abbrev R3 := Els [.int .i64, .int .i64, .int .i64]

end Go.RX.Span

/- The reference's Subtract: the loop's states. -/
set_option linter.unusedVariables false
set_option linter.unusedSimpArgs false
namespace Go.RX.Span
open Go Go.RX

theorem cat_l {n i : Nat} {f g : Nat → R3} (h : i < n) : U.cat n f g i = f i := (U.cat_eq _ _ _ _).trans (if_pos h)
theorem cat_r {n i : Nat} {f g : Nat → R3} (h : n ≤ i) : U.cat n f g i = g (i - n) := (U.cat_eq _ _ _ _).trans (if_neg (by omega))
end Go.RX.Span

/- The reference's Subtract: the walks. -/
set_option linter.unusedVariables false
set_option linter.unusedSimpArgs false
set_option maxRecDepth 100000
namespace Go.RX.Span
open Go Go.RX
attribute [local irreducible] sx conB

theorem sameR {n : Nat} {f g : Nat → R3} (h : ∀ i, i < n → f i = g i) : sameRow n f g := ⟨eqShs_refl _, fun i hi => h i hi⟩
end Go.RX.Span

/- Subtract of the program: the walk. -/
set_option linter.unusedVariables false
set_option linter.unusedSimpArgs false
set_option maxRecDepth 100000
namespace Go.RX.Span
open Go Go.RX
attribute [local irreducible] sx conB

section
variable {a b c x y z : Int}
theorem cl_lit {v w : Value} (h : v = w) : Cl (.lit v) (.lit w) := .inl (by rw [h])
theorem cl_nil0 {n : Nat} {f : Nat → R3} (h : n = 0) : Cl (.lit (.slice none 0 0)) (.row [.int .i64, .int .i64, .int .i64] n f) := .inr ⟨rfl, h⟩
theorem cl_row' {n m : Nat} {f g : Nat → R3} (h : n = m) (hf : ∀ i, i < n → f i = g i) : Cl (.row [.int .i64, .int .i64, .int .i64] n f) (.row [.int .i64, .int .i64, .int .i64] m g) := ⟨h, sameR hf⟩
end
end Go.RX.Span

