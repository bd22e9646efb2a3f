/- Ranges as sets of numbers, in plain Lean. -/
import Derived.Test.YtoncmmlgpecklaaPEd
import Derived.Test.YtoncmmlgpecklaaPEb
set_option linter.unusedVariables false
set_option linter.unusedSimpArgs false
namespace Go.RX.Span
open Go Go.RX

/-- The numbers of a series upwards. -/
def SIn (F s C n : Int) : Prop := F ≤ n ∧ n ≤ F + s * (C - 1) ∧ 0 < C ∧ ∃ p, n = F + s * p
/-- A series upwards in the limits, of whatever step, or nothing. -/
def Sw (F s C : Int) : Prop := C = 0 ∨ (1 ≤ C ∧ 1 ≤ s ∧ s ≤ 4000000000000 ∧ -1000000 ≤ F ∧ F + s * (C - 1) ≤ 1000000)
theorem Ser.sw {A s C : Int} (h : Ser A s C) : Sw A s C := by rcases h with h | h; exact .inl h; exact .inr (by omega)

theorem sIn_first {F s C : Int} (hs : 1 ≤ s) (hC : 1 ≤ C) : SIn F s C F := by
  have := mulle (x := 0) (y := C - 1) hs (by omega)
  rw [Int.mul_zero] at this
  exact ⟨by omega, by omega, by omega, 0, by omega⟩
theorem sIn_last {F s C : Int} (hs : 1 ≤ s) (hC : 1 ≤ C) : SIn F s C (F + s * (C - 1)) := by
  have := mulle (x := 0) (y := C - 1) hs (by omega)
  rw [Int.mul_zero] at this
  exact ⟨by omega, by omega, by omega, C - 1, rfl⟩
theorem sIn_second {F s C : Int} (hs : 1 ≤ s) (hC : 2 ≤ C) : SIn F s C (F + s) := by
  have := mulle (x := 1) (y := C - 1) hs (by omega)
  rw [Int.mul_one] at this
  exact ⟨by omega, by omega, by omega, 1, by omega⟩

/-- Two series with the same numbers are the same, but for the step of a single one. -/
theorem sIn_ext {F s C A t D : Int} (h1 : Sw F s C) (h2 : Sw A t D) (h : ∀ n, SIn F s C n ↔ SIn A t D n) : C = D ∧ (1 ≤ C → F = A ∧ s * (C - 1) = t * (D - 1)) := by
  by_cases hC : C = 0
  · by_cases hD : D = 0
    · exact ⟨by omega, fun h => by omega⟩
    · have h2' := h2.resolve_left hD
      have := ((h A).2 (sIn_first h2'.2.1 h2'.1)).2.2.1
      omega
  · have h1' := h1.resolve_left hC
    have hD : D ≠ 0 := fun hD => by have := ((h F).1 (sIn_first h1'.2.1 h1'.1)).2.2.1; omega
    have h2' := h2.resolve_left hD
    have f1 := (h F).1 (sIn_first h1'.2.1 h1'.1)
    have f2 := (h A).2 (sIn_first h2'.2.1 h2'.1)
    have l1 := (h _).1 (sIn_last h1'.2.1 h1'.1)
    have l2 := (h _).2 (sIn_last h2'.2.1 h2'.1)
    have hF : F = A := by have := f1.1; have := f2.1; omega
    have hL : s * (C - 1) = t * (D - 1) := by have := l1.2.1; have := l2.2.1; omega
    refine ⟨?_, fun _ => ⟨hF, hL⟩⟩
    have hs := h1'.2.1
    have ht := h2'.2.1
    rcases Int.lt_or_le 1 C with hc1 | hc1
    · rcases Int.lt_or_le 1 D with hd1 | hd1
      · obtain ⟨_, _, _, p, hp⟩ := (h _).1 (sIn_second hs (by omega : 2 ≤ C))
        obtain ⟨_, _, _, q, hq⟩ := (h _).2 (sIn_second ht (by omega : 2 ≤ D))
        have e1 : s = t * p := by omega
        have e2 : t = s * q := by omega
        have hst : s = t := by
          have hp1 : 1 ≤ p := by
            rcases Int.lt_or_le 0 p with h | h
            · omega
            · have := Int.mul_le_mul_of_nonneg_left h (show (0 : Int) ≤ t by omega); omega
          have hq1 : 1 ≤ q := by
            rcases Int.lt_or_le 0 q with h | h
            · omega
            · have := Int.mul_le_mul_of_nonneg_left h (show (0 : Int) ≤ s by omega); omega
          have := mulle (s := t) (x := 1) (y := p) ht hp1
          have := mulle (s := s) (x := 1) (y := q) hs hq1
          omega
        subst hst
        have := Int.eq_of_mul_eq_mul_left (by omega) hL
        omega
      · have : D = 1 := by omega
        subst this
        rw [Int.sub_self, Int.mul_zero] at hL
        have := (mul0 (s := s) (k := C - 1) hs).1 hL
        omega
    · have : C = 1 := by omega
      subst this
      rw [Int.sub_self, Int.mul_zero] at hL
      have := (mul0 (s := t) (k := D - 1) ht).1 hL.symm
      omega

/-- A part of a series that has as many numbers is the whole. -/
theorem sIn_count {F s C A t D : Int} (h1 : Sw F s C) (h2 : Sw A t D) (h : ∀ n, SIn F s C n → SIn A t D n) (hCD : C = D) : ∀ n, SIn A t D n → SIn F s C n := by
  subst hCD
  intro n hn
  have hC : C ≠ 0 := by have := hn.2.2.1; omega
  have h1' := h1.resolve_left hC
  have h2' := h2.resolve_left hC
  have hs := h1'.2.1
  have ht := h2'.2.1
  obtain ⟨g1, g2, g3, p, hp⟩ := h _ (sIn_first hs h1'.1)
  obtain ⟨l1, l2, l3, r, hr⟩ := h _ (sIn_last hs h1'.1)
  rcases Int.lt_or_le 1 C with hc1 | hc1
  · obtain ⟨_, _, _, q, hq⟩ := h _ (sIn_second hs (by omega : 2 ≤ C))
    have e1 : s = t * (q - p) := by rw [Int.mul_sub]; omega
    have hqp : 1 ≤ q - p := by
      rcases Int.lt_or_le 0 (q - p) with h | h
      · omega
      · have := Int.mul_le_mul_of_nonneg_left h (show (0 : Int) ≤ t by omega); omega
    have hp0 : 0 ≤ p := by
      rcases Int.lt_or_le p 0 with h | h
      · have := Int.mul_le_mul_of_nonneg_left (show p ≤ -1 by omega) (show (0 : Int) ≤ t by omega); omega
      · exact h
    have hge : t ≤ s := by have := mulle (s := t) (x := 1) (y := q - p) ht hqp; omega
    have hle : s * (C - 1) ≤ t * (C - 1) := by have := mulle (s := t) (x := 0) (y := p) ht hp0; omega
    have hst : s = t := by
      rcases Int.lt_or_le t s with hlt | h
      · have := Int.mul_lt_mul_of_pos_right hlt (show (0 : Int) < C - 1 by omega)
        omega
      · omega
    subst hst
    have hFA : F = A := by have := mulle (s := s) (x := 0) (y := p) ht hp0; omega
    rw [hFA]; exact hn
  · have : C = 1 := by omega
    subst this
    obtain ⟨k1, k2, k3, w, hw⟩ := hn
    have hFA : F = A := by simp at g2; omega
    have hnA : n = A := by simp at k2; omega
    rw [hnA, ← hFA]
    exact sIn_first hs (by omega)

/-- What the program reckons for two series has just the numbers of both. -/
theorem cm_set {A s C B t D : Int} (hA : Ser A s C) (hB : Ser B t D) : Sw (cmFst A s C B t D) (cmBy A s C B t D) (cmCnt A s C B t D) ∧ ∀ n, SIn (cmFst A s C B t D) (cmBy A s C B t D) (cmCnt A s C B t D) n ↔ SIn A s C n ∧ SIn B t D n := by
  by_cases hC : C = 0
  · have e : cmE A s C B t D = true := decide_eq_true (.inl hC)
    simp only [cmFst, cmBy, cmCnt, e, if_true]
    exact ⟨.inl rfl, fun n => ⟨fun h => by have := h.2.2.1; omega, fun h => by have := h.1.2.2.1; omega⟩⟩
  by_cases hD : D = 0
  · have e : cmE A s C B t D = true := decide_eq_true (.inr (.inl hD))
    simp only [cmFst, cmBy, cmCnt, e, if_true]
    exact ⟨.inl rfl, fun n => ⟨fun h => by have := h.2.2.1; omega, fun h => by have := h.2.2.2.1; omega⟩⟩
  obtain ⟨a1, a2, a3, a4, a5, a6⟩ := hA.resolve_left hC
  obtain ⟨b1, b2, b3, b4, b5, b6⟩ := hB.resolve_left hD
  obtain ⟨g1, g2, s', m, u, g3, g4, g5, g6, g7, g8, g9, g10⟩ := eu_facts a3 b3
  have hA1 := mulle (x := 0) (y := C - 1) a3 (by omega)
  have hB1 := mulle (x := 0) (y := D - 1) b3 (by omega)
  rw [Int.mul_zero] at hA1 hB1
  by_cases hz : (B - A).tmod (euG s t) = 0
  · obtain ⟨Q, hQ⟩ := Int.dvd_of_tmod_eq_zero hz
    have hY : cmY s t = s * m := by unfold cmY; rw [g10]
    have hSM1 := mulle (s := s) (x := 1) (y := m) a3 g6
    rw [Int.mul_one] at hSM1
    have hYb : 1 ≤ cmY s t := by rw [hY]; omega
    have hYt : cmY s t ≤ 4000000000000 := by
      rw [hY]
      have := mulle (s := s) (x := m) (y := 2000000) a3 (by omega)
      omega
    have hfa : ∃ p, cmF0 A s B t = A + s * p := ⟨_, rfl⟩
    have hfb : ∃ q, cmF0 A s B t = B + t * q := by unfold cmF0; rw [g10]; exact cm_first g3 g4 g9 hQ g1 g6
    have both := fun n => cm_both (n := n) g3 g4 g9 g1 hfa hfb
    have clamp := fun n => cm_clamp (f := cmF0 A s B t) (low := max A B) (high := cmHi A s C B t D) (n := n) hYb
    have hHi : cmHi A s C B t D = min (A + s * (C - 1)) (B + t * (D - 1)) := rfl
    have key : ∀ n, (SIn A s C n ∧ SIn B t D n) ↔ (cmV A s B t ≤ n ∧ n ≤ cmHi A s C B t D ∧ ∃ p, n = cmV A s B t + cmY s t * p) := fun n => by
      rw [show cmV A s B t = cmUp (cmF0 A s B t) (max A B) (cmY s t) from rfl, ← clamp n, hY, ← both n, hHi]
      constructor
      · rintro ⟨⟨x1, x2, _, x3⟩, ⟨y1, y2, _, y3⟩⟩
        exact ⟨⟨x3, y3⟩, by omega, by omega⟩
      · rintro ⟨⟨x3, y3⟩, z1, z2⟩
        exact ⟨⟨by omega, by omega, by omega, x3⟩, ⟨by omega, by omega, by omega, y3⟩⟩
    obtain ⟨v1, v2, _⟩ := cmUp_spec (f := cmF0 A s B t) (low := max A B) hYb
    have v1' : max A B ≤ cmV A s B t := v1
    by_cases hgt : cmHi A s C B t D < cmV A s B t
    · have e : cmE A s C B t D = true := decide_eq_true (.inr (.inr (.inr hgt)))
      simp only [cmFst, cmBy, cmCnt, e, if_true]
      refine ⟨.inl rfl, fun n => ⟨fun h => by have := h.2.2.1; omega, fun h => ?_⟩⟩
      have := (key n).1 h
      omega
    · have e : cmE A s C B t D = false := decide_eq_false (by
        rintro (h | h | h | h)
        · exact hC h
        · exact hD h
        · exact h hz
        · exact hgt h)
      simp only [cmFst, cmBy, cmCnt, e, Bool.false_eq_true, if_false]
      have t1 := Int.tdiv_eq_ediv_of_nonneg (b := cmY s t) (show 0 ≤ cmHi A s C B t D - cmV A s B t by omega)
      have t2 := Int.mul_ediv_add_emod (cmHi A s C B t D - cmV A s B t) (cmY s t)
      have t3 := Int.emod_nonneg (cmHi A s C B t D - cmV A s B t) (show cmY s t ≠ 0 by omega)
      have t4 := Int.emod_lt_of_pos (cmHi A s C B t D - cmV A s B t) (show 0 < cmY s t by omega)
      have t5 := Int.ediv_nonneg (show 0 ≤ cmHi A s C B t D - cmV A s B t by omega) (show 0 ≤ cmY s t by omega)
      rw [t1]
      obtain ⟨q, hq⟩ : ∃ q, q = (cmHi A s C B t D - cmV A s B t) / cmY s t := ⟨_, rfl⟩
      rw [← hq] at t2 t5 ⊢
      refine ⟨.inr ⟨by omega, hYb, hYt, by omega, by rw [show q + 1 - 1 = q by omega]; omega⟩, fun n => ?_⟩
      rw [key n]
      unfold SIn
      rw [show q + 1 - 1 = q by omega]
      constructor
      · rintro ⟨x1, x2, x3, x4⟩
        exact ⟨x1, by omega, x4⟩
      · rintro ⟨x1, x2, p, hp⟩
        refine ⟨x1, ?_, by omega, p, hp⟩
        rcases Int.lt_or_le q p with h | h
        · have := mulle (s := cmY s t) (x := q + 1) (y := p) hYb (by omega)
          rw [Int.mul_add, Int.mul_one] at this
          omega
        · have := mulle (s := cmY s t) (x := p) (y := q) hYb h
          omega
  · have e : cmE A s C B t D = true := decide_eq_true (.inr (.inr (.inl hz)))
    simp only [cmFst, cmBy, cmCnt, e, if_true]
    exact ⟨.inl rfl, fun n => ⟨fun h => by have := h.2.2.1; omega, fun h => absurd ⟨h.1.2.2.2, h.2.2.2.2⟩ (cm_none g3 g4 hz)⟩⟩

/-- A right range as a series upwards. -/
def sA (a b c : Int) : Int := uF (ofF a b c) (ofB a b c) (ofC a b c)
def sS (a b c : Int) : Int := uB (ofF a b c) (ofB a b c) (ofC a b c)
theorem up_ser {a b c : Int} (hr : Right a b c) : Ser (sA a b c) (sS a b c) (ofC a b c) := by
  by_cases hab : a ≤ b
  · obtain ⟨p1, p2, p3, p4, p5, _⟩ := parts hr hab
    obtain ⟨u1, u2⟩ := up_of hr hab
    have hl := hr.1
    exact .inr (by unfold sA sS; rw [u1, u2]; omega)
  · exact .inl (empty_of (c := c) hab).2.2
theorem up_ask {a b c : Int} (hr : Right a b c) : ofB a b c < 0 → ofC a b c ≠ 0 → I64 (ofC a b c - 1) ∧ I64 (ofB a b c * (ofC a b c - 1)) ∧ I64 (ofF a b c + ofB a b c * (ofC a b c - 1)) ∧ I64 (-ofB a b c) := fun h1 h2 => by
  have hab : a ≤ b := by
    by_cases hab : a ≤ b
    · exact hab
    · exact absurd (empty_of (c := c) hab).2.2 h2
  obtain ⟨p1, p2, p3, p4, p5, p6, p7, _⟩ := parts hr hab
  have hl := hr.1
  rw [p6] at h1 ⊢
  rw [p7, if_pos h1]
  have e : c * (ofC a b c - 1) = -(absI c * (ofC a b c - 1)) := by rw [absI_neg h1, Int.neg_mul, Int.neg_neg]
  have e2 := absI_neg h1
  rw [e]
  unfold I64
  omega
/-- The numbers of a right range. -/
def RIn (a b c n : Int) : Prop := SIn (sA a b c) (sS a b c) (ofC a b c) n
end Go.RX.Span

/- Intersect and Within of the program: the walks. -/
set_option linter.unusedVariables false
set_option linter.unusedSimpArgs false
set_option maxRecDepth 100000
namespace Go.RX.Span
open Go Go.RX

def ckd (a b c x y z : Int) : Int := if chk a b c ≠ 0 then chk a b c else chk x y z
noncomputable def c_checked : Con := fun args => match args with
  | [.agg [.lit (.int .i64 a), .lit (.int .i64 b), .lit (.int .i64 c)], .agg [.lit (.int .i64 x), .lit (.int .i64 y), .lit (.int .i64 z)]] =>
    .ask (I64 a ∧ I64 b ∧ I64 c ∧ I64 x ∧ I64 y ∧ I64 z) (.ret (.lit (.int .i64 (lk ckd a b c x y z))))
  | _ => .stuck 1
set_option maxRecDepth 100000 in
theorem t_checked (a b c x y z : Int) : conB Go.Proofs.Try.prog (conOf k8) noLoops 10 110 [.agg [.lit (.int .i64 a), .lit (.int .i64 b), .lit (.int .i64 c)], .agg [.lit (.int .i64 x), .lit (.int .i64 y), .lit (.int .i64 z)]] =
    T.ask (I64 a ∧ I64 b ∧ I64 c) (.br (U.ne (lk chk a b c) (0 : Int)) (.ret (.lit (.int .i64 (lk chk a b c)))) (.ask (I64 x ∧ I64 y ∧ I64 z) (.ret (.lit (.int .i64 (lk chk x y z)))))) := by kernel_rfl
theorem checked_ok : ConOK P 110 c_checked := con_of (allOK mixed k8_ok) 10 110 fun args r h => by
  unfold c_checked at h
  split at h
  · rename_i a b c x y z
    have hp := (T.is_ask h).1
    have h := (T.is_ask h).2
    obtain rfl := T.is_ret h
    rw [t_checked]
    obtain ⟨ha, hb, hc, hx, hy, hz⟩ := hp
    by_cases h1 : chk a b c = 0 <;> simp [T.All, U.ne_eq, lk_eq, ckd, h1, ha, hb, hc, hx, hy, hz]
  · exact h.elim

noncomputable abbrev ke : List (Nat × Con) := (110, c_checked) :: (111, c_common) :: (127, c_euclid) :: k8
theorem ke_ok : ∀ p ∈ ke, ConOK P p.1 p.2 := by
  intro p hp
  simp only [ke, List.mem_cons] at hp
  rcases hp with rfl | rfl | rfl | hp
  · exact checked_ok
  · exact common_ok
  · exact euclid_ok
  · exact k8_ok p (by simpa [k8] using hp)
theorem ckd_right {a b c x y z : Int} (h : ckd a b c x y z = 0) : Right a b c ∧ Right x y z := by
  unfold ckd at h
  by_cases h1 : chk a b c = 0
  · rw [if_neg (by simp [h1])] at h
    exact ⟨chk_zero.1 h1, chk_zero.1 h⟩
  · rw [if_pos h1] at h
    exact absurd h h1
end Go.RX.Span

/- Intersect and Within of the program: the walks. -/
set_option linter.unusedVariables false
set_option linter.unusedSimpArgs false
set_option maxRecDepth 100000
namespace Go.RX.Span
open Go Go.RX

def isF (a b c x y z : Int) : Int := cmFst (sA a b c) (sS a b c) (ofC a b c) (sA x y z) (sS x y z) (ofC x y z)
def isB (a b c x y z : Int) : Int := cmBy (sA a b c) (sS a b c) (ofC a b c) (sA x y z) (sS x y z) (ofC x y z)
def isC (a b c x y z : Int) : Int := cmCnt (sA a b c) (sS a b c) (ofC a b c) (sA x y z) (sS x y z) (ofC x y z)
def wiB (a b c x y z : Int) : Bool := if ckd a b c x y z ≠ 0 then false else decide (isC a b c x y z = ofC a b c)
def isL (a b c x y z : Int) : Int := if ckd a b c x y z ≠ 0 then 0 else nLow (kF (isF a b c x y z) (isB a b c x y z) (isC a b c x y z) c) (kB (isF a b c x y z) (isB a b c x y z) (isC a b c x y z) c) (isC a b c x y z)
def isH (a b c x y z : Int) : Int := if ckd a b c x y z ≠ 0 then 0 else nHigh (kF (isF a b c x y z) (isB a b c x y z) (isC a b c x y z) c) (kB (isF a b c x y z) (isB a b c x y z) (isC a b c x y z) c) (isC a b c x y z)
def isS (a b c x y z : Int) : Int := if ckd a b c x y z ≠ 0 then 0 else nStr (kF (isF a b c x y z) (isB a b c x y z) (isC a b c x y z) c) (kB (isF a b c x y z) (isB a b c x y z) (isC a b c x y z) c) (isC a b c x y z)
def isEr (a b c x y z : Int) : Int := if ckd a b c x y z ≠ 0 then ckd a b c x y z else nErr (kF (isF a b c x y z) (isB a b c x y z) (isC a b c x y z) c) (kB (isF a b c x y z) (isB a b c x y z) (isC a b c x y z) c) (isC a b c x y z)
theorem is_sw {a b c x y z : Int} (h : Right a b c) (h' : Right x y z) : Sw (isF a b c x y z) (isB a b c x y z) (isC a b c x y z) ∧ ∀ n, SIn (isF a b c x y z) (isB a b c x y z) (isC a b c x y z) n ↔ RIn a b c n ∧ RIn x y z n :=
  cm_set (up_ser h) (up_ser h')

theorem like_ask {F B C c : Int} (h : Sw F B C) : c < 0 → C ≠ 0 → I64 (C - 1) ∧ I64 (B * (C - 1)) ∧ I64 (F + B * (C - 1)) ∧ I64 (-B) := fun _ hC => by
  obtain ⟨h1, h2, h3, h4, h5⟩ := h.resolve_left hC
  have m0 := mulle (s := B) (x := 0) (y := C - 1) h2 (by omega)
  have m1 : 1 * (C - 1) ≤ B * (C - 1) := Int.mul_le_mul_of_nonneg_right h2 (by omega)
  rw [Int.mul_zero] at m0
  unfold I64
  omega
theorem norm_ask {F B C c : Int} (h : Sw F B C) : 0 < C → I64 (C - 1) ∧ I64 (kB F B C c * (C - 1)) ∧ I64 (kF F B C c + kB F B C c * (C - 1)) := fun hC => by
  obtain ⟨h1, h2, h3, h4, h5⟩ := h.resolve_left (by omega)
  have m0 := mulle (s := B) (x := 0) (y := C - 1) h2 (by omega)
  have m1 : 1 * (C - 1) ≤ B * (C - 1) := Int.mul_le_mul_of_nonneg_right h2 (by omega)
  rw [Int.mul_zero] at m0
  obtain ⟨k1, k2⟩ := like_bnd (f := F) (s := B) (C := C) (c := c) (by omega)
  unfold I64
  rcases k1 with k1 | k1 <;> rcases k2 with k2 | k2 <;> rw [k2, k1] <;> omega
noncomputable def c_Within : Con := fun args => match args with
  | [.agg [.lit (.int .i64 a), .lit (.int .i64 b), .lit (.int .i64 c)], .agg [.lit (.int .i64 x), .lit (.int .i64 y), .lit (.int .i64 z)]] =>
    .ask (I64 a ∧ I64 b ∧ I64 c ∧ I64 x ∧ I64 y ∧ I64 z) (.ret (.tup [.lit (.bool (lk wiB a b c x y z)), .lit (.int .i64 (lk ckd a b c x y z))]))
  | _ => .stuck 1
set_option maxRecDepth 100000 in
theorem t_Within (a b c x y z : Int) : conB Go.Proofs.Try.prog (conOf ke) noLoops 10 24 [.agg [.lit (.int .i64 a), .lit (.int .i64 b), .lit (.int .i64 c)], .agg [.lit (.int .i64 x), .lit (.int .i64 y), .lit (.int .i64 z)]] =
    T.ask (I64 a ∧ I64 b ∧ I64 c ∧ I64 x ∧ I64 y ∧ I64 z) (.br (U.ne (lk ckd a b c x y z) (0 : Int)) (.ret (.tup [.lit (.bool false), .lit (.int .i64 (lk ckd a b c x y z))])) (.ask (a ≤
      b → c ≠ (0 : Int) ∧ (-9223372036854775807 : Int) ≤ c ∧ b - a < (9223372036854775807 : Int) ∧ I64 a ∧ I64 b ∧ I64 c) (.ask (lk ofB a b c < (0 : Int) → lk ofC a b c ≠ (0 : Int) → I64
      (lk ofC a b c - (1 : Int)) ∧ I64 (lk ofB a b c * (lk ofC a b c - (1 : Int))) ∧ I64 (lk ofF a b c + lk ofB a b c * (lk ofC a b c - (1 : Int))) ∧ I64 (-lk ofB a b c)) (.ask (x ≤ y → z
      ≠ (0 : Int) ∧ (-9223372036854775807 : Int) ≤ z ∧ y - x < (9223372036854775807 : Int) ∧ I64 x ∧ I64 y ∧ I64 z) (.ask (lk ofB x y z < (0 : Int) → lk ofC x y z ≠ (0 : Int) → I64 (lk
      ofC x y z - (1 : Int)) ∧ I64 (lk ofB x y z * (lk ofC x y z - (1 : Int))) ∧ I64 (lk ofF x y z + lk ofB x y z * (lk ofC x y z - (1 : Int))) ∧ I64 (-lk ofB x y z)) (.ask (Ser (lk uF
      (lk ofF a b c) (lk ofB a b c) (lk ofC a b c)) (lk uB (lk ofF a b c) (lk ofB a b c) (lk ofC a b c)) (lk ofC a b c) ∧ Ser (lk uF (lk ofF x y z) (lk ofB x y z) (lk ofC x y z)) (lk uB
      (lk ofF x y z) (lk ofB x y z) (lk ofC x y z)) (lk ofC x y z)) (.ret (.tup [.lit (.bool (U.eq (lk cmCnt (lk uF (lk ofF a b c) (lk ofB a b c) (lk ofC a b c)) (lk uB (lk ofF a b c) (lk
      ofB a b c) (lk ofC a b c)) (lk ofC a b c) (lk uF (lk ofF x y z) (lk ofB x y z) (lk ofC x y z)) (lk uB (lk ofF x y z) (lk ofB x y z) (lk ofC x y z)) (lk ofC x y z)) (lk ofC a b c))),
      .lit (.int .i64 0)])))))))) := by kernel_rfl
theorem Within_ok : ConOK P 24 c_Within := con_of (allOK mixed ke_ok) 10 24 fun args r h => by
  unfold c_Within at h
  split at h
  · rename_i a b c x y z
    have hp := (T.is_ask h).1
    have h := (T.is_ask h).2
    obtain rfl := T.is_ret h
    rw [t_Within]
    obtain ⟨ha, hb, hc, hx, hy, hz⟩ := hp
    simp only [lk_eq]
    refine ⟨⟨ha, hb, hc, hx, hy, hz⟩, fun h => ?_, fun h => ?_⟩
    · rw [U.ne_t] at h
      simp only [wiB, if_pos h]
      exact rfl
    · rw [U.ne_f] at h
      obtain ⟨r1, r2⟩ := ckd_right h
      refine ⟨of_ask r1 ha hb hc, up_ask r1, of_ask r2 hx hy hz, up_ask r2, ⟨up_ser r1, up_ser r2⟩, ?_⟩
      simp only [wiB, if_neg (show ¬ ckd a b c x y z ≠ 0 by simp [h]), U.eq_eq, h]
      exact rfl
  · exact h.elim

noncomputable def c_Intersect : Con := fun args => match args with
  | [.agg [.lit (.int .i64 a), .lit (.int .i64 b), .lit (.int .i64 c)], .agg [.lit (.int .i64 x), .lit (.int .i64 y), .lit (.int .i64 z)]] =>
    .ask (I64 a ∧ I64 b ∧ I64 c ∧ I64 x ∧ I64 y ∧ I64 z) (.ret (.tup [.agg [.lit (.int .i64 (lk isL a b c x y z)), .lit (.int .i64 (lk isH a b c x y z)), .lit (.int .i64 (lk isS a b c x y z))], .lit (.int .i64 (lk isEr a b c x y z))]))
  | _ => .stuck 1
set_option maxRecDepth 100000 in
theorem t_Intersect (a b c x y z : Int) : conB Go.Proofs.Try.prog (conOf ke) noLoops 10 22 [.agg [.lit (.int .i64 a), .lit (.int .i64 b), .lit (.int .i64 c)], .agg [.lit (.int .i64 x), .lit (.int .i64 y), .lit (.int .i64 z)]] =
    T.ask (I64 a ∧ I64 b ∧ I64 c ∧ I64 x ∧ I64 y ∧ I64 z) (.br (U.ne (lk ckd a b c x y z) (0 : Int)) (.ret (.tup [.agg [.lit (.int .i64 0), .lit (.int .i64 0), .lit (.int .i64 0)], .lit
      (.int .i64 (lk ckd a b c x y z))])) (.ask (a ≤ b → c ≠ (0 : Int) ∧ (-9223372036854775807 : Int) ≤ c ∧ b - a < (9223372036854775807 : Int) ∧ I64 a ∧ I64 b ∧ I64 c) (.ask (lk ofB a b
      c < (0 : Int) → lk ofC a b c ≠ (0 : Int) → I64 (lk ofC a b c - (1 : Int)) ∧ I64 (lk ofB a b c * (lk ofC a b c - (1 : Int))) ∧ I64 (lk ofF a b c + lk ofB a b c * (lk ofC a b c - (1 :
      Int))) ∧ I64 (-lk ofB a b c)) (.ask (x ≤ y → z ≠ (0 : Int) ∧ (-9223372036854775807 : Int) ≤ z ∧ y - x < (9223372036854775807 : Int) ∧ I64 x ∧ I64 y ∧ I64 z) (.ask (lk ofB x y z < (0
      : Int) → lk ofC x y z ≠ (0 : Int) → I64 (lk ofC x y z - (1 : Int)) ∧ I64 (lk ofB x y z * (lk ofC x y z - (1 : Int))) ∧ I64 (lk ofF x y z + lk ofB x y z * (lk ofC x y z - (1 : Int)))
      ∧ I64 (-lk ofB x y z)) (.ask (Ser (lk uF (lk ofF a b c) (lk ofB a b c) (lk ofC a b c)) (lk uB (lk ofF a b c) (lk ofB a b c) (lk ofC a b c)) (lk ofC a b c) ∧ Ser (lk uF (lk ofF x y
      z) (lk ofB x y z) (lk ofC x y z)) (lk uB (lk ofF x y z) (lk ofB x y z) (lk ofC x y z)) (lk ofC x y z)) (.ask (c < (0 : Int) → lk cmCnt (lk uF (lk ofF a b c) (lk ofB a b c) (lk ofC a
      b c)) (lk uB (lk ofF a b c) (lk ofB a b c) (lk ofC a b c)) (lk ofC a b c) (lk uF (lk ofF x y z) (lk ofB x y z) (lk ofC x y z)) (lk uB (lk ofF x y z) (lk ofB x y z) (lk ofC x y z))
      (lk ofC x y z) ≠ (0 : Int) → I64 (lk cmCnt (lk uF (lk ofF a b c) (lk ofB a b c) (lk ofC a b c)) (lk uB (lk ofF a b c) (lk ofB a b c) (lk ofC a b c)) (lk ofC a b c) (lk uF (lk ofF x
      y z) (lk ofB x y z) (lk ofC x y z)) (lk uB (lk ofF x y z) (lk ofB x y z) (lk ofC x y z)) (lk ofC x y z) - (1 : Int)) ∧ I64 (lk cmBy (lk uF (lk ofF a b c) (lk ofB a b c) (lk ofC a b
      c)) (lk uB (lk ofF a b c) (lk ofB a b c) (lk ofC a b c)) (lk ofC a b c) (lk uF (lk ofF x y z) (lk ofB x y z) (lk ofC x y z)) (lk uB (lk ofF x y z) (lk ofB x y z) (lk ofC x y z)) (lk
      ofC x y z) * (lk cmCnt (lk uF (lk ofF a b c) (lk ofB a b c) (lk ofC a b c)) (lk uB (lk ofF a b c) (lk ofB a b c) (lk ofC a b c)) (lk ofC a b c) (lk uF (lk ofF x y z) (lk ofB x y z)
      (lk ofC x y z)) (lk uB (lk ofF x y z) (lk ofB x y z) (lk ofC x y z)) (lk ofC x y z) - (1 : Int))) ∧ I64 (lk cmFst (lk uF (lk ofF a b c) (lk ofB a b c) (lk ofC a b c)) (lk uB (lk ofF
      a b c) (lk ofB a b c) (lk ofC a b c)) (lk ofC a b c) (lk uF (lk ofF x y z) (lk ofB x y z) (lk ofC x y z)) (lk uB (lk ofF x y z) (lk ofB x y z) (lk ofC x y z)) (lk ofC x y z) + lk
      cmBy (lk uF (lk ofF a b c) (lk ofB a b c) (lk ofC a b c)) (lk uB (lk ofF a b c) (lk ofB a b c) (lk ofC a b c)) (lk ofC a b c) (lk uF (lk ofF x y z) (lk ofB x y z) (lk ofC x y z))
      (lk uB (lk ofF x y z) (lk ofB x y z) (lk ofC x y z)) (lk ofC x y z) * (lk cmCnt (lk uF (lk ofF a b c) (lk ofB a b c) (lk ofC a b c)) (lk uB (lk ofF a b c) (lk ofB a b c) (lk ofC a b
      c)) (lk ofC a b c) (lk uF (lk ofF x y z) (lk ofB x y z) (lk ofC x y z)) (lk uB (lk ofF x y z) (lk ofB x y z) (lk ofC x y z)) (lk ofC x y z) - (1 : Int))) ∧ I64 (-lk cmBy (lk uF (lk
      ofF a b c) (lk ofB a b c) (lk ofC a b c)) (lk uB (lk ofF a b c) (lk ofB a b c) (lk ofC a b c)) (lk ofC a b c) (lk uF (lk ofF x y z) (lk ofB x y z) (lk ofC x y z)) (lk uB (lk ofF x y
      z) (lk ofB x y z) (lk ofC x y z)) (lk ofC x y z))) (.ask ((0 : Int) < lk cmCnt (lk uF (lk ofF a b c) (lk ofB a b c) (lk ofC a b c)) (lk uB (lk ofF a b c) (lk ofB a b c) (lk ofC a b
      c)) (lk ofC a b c) (lk uF (lk ofF x y z) (lk ofB x y z) (lk ofC x y z)) (lk uB (lk ofF x y z) (lk ofB x y z) (lk ofC x y z)) (lk ofC x y z) → I64 (lk cmCnt (lk uF (lk ofF a b c) (lk
      ofB a b c) (lk ofC a b c)) (lk uB (lk ofF a b c) (lk ofB a b c) (lk ofC a b c)) (lk ofC a b c) (lk uF (lk ofF x y z) (lk ofB x y z) (lk ofC x y z)) (lk uB (lk ofF x y z) (lk ofB x y
      z) (lk ofC x y z)) (lk ofC x y z) - (1 : Int)) ∧ I64 (lk kB (lk cmFst (lk uF (lk ofF a b c) (lk ofB a b c) (lk ofC a b c)) (lk uB (lk ofF a b c) (lk ofB a b c) (lk ofC a b c)) (lk
      ofC a b c) (lk uF (lk ofF x y z) (lk ofB x y z) (lk ofC x y z)) (lk uB (lk ofF x y z) (lk ofB x y z) (lk ofC x y z)) (lk ofC x y z)) (lk cmBy (lk uF (lk ofF a b c) (lk ofB a b c)
      (lk ofC a b c)) (lk uB (lk ofF a b c) (lk ofB a b c) (lk ofC a b c)) (lk ofC a b c) (lk uF (lk ofF x y z) (lk ofB x y z) (lk ofC x y z)) (lk uB (lk ofF x y z) (lk ofB x y z) (lk ofC
      x y z)) (lk ofC x y z)) (lk cmCnt (lk uF (lk ofF a b c) (lk ofB a b c) (lk ofC a b c)) (lk uB (lk ofF a b c) (lk ofB a b c) (lk ofC a b c)) (lk ofC a b c) (lk uF (lk ofF x y z) (lk
      ofB x y z) (lk ofC x y z)) (lk uB (lk ofF x y z) (lk ofB x y z) (lk ofC x y z)) (lk ofC x y z)) c * (lk cmCnt (lk uF (lk ofF a b c) (lk ofB a b c) (lk ofC a b c)) (lk uB (lk ofF a b
      c) (lk ofB a b c) (lk ofC a b c)) (lk ofC a b c) (lk uF (lk ofF x y z) (lk ofB x y z) (lk ofC x y z)) (lk uB (lk ofF x y z) (lk ofB x y z) (lk ofC x y z)) (lk ofC x y z) - (1 :
      Int))) ∧ I64 (lk kF (lk cmFst (lk uF (lk ofF a b c) (lk ofB a b c) (lk ofC a b c)) (lk uB (lk ofF a b c) (lk ofB a b c) (lk ofC a b c)) (lk ofC a b c) (lk uF (lk ofF x y z) (lk ofB
      x y z) (lk ofC x y z)) (lk uB (lk ofF x y z) (lk ofB x y z) (lk ofC x y z)) (lk ofC x y z)) (lk cmBy (lk uF (lk ofF a b c) (lk ofB a b c) (lk ofC a b c)) (lk uB (lk ofF a b c) (lk
      ofB a b c) (lk ofC a b c)) (lk ofC a b c) (lk uF (lk ofF x y z) (lk ofB x y z) (lk ofC x y z)) (lk uB (lk ofF x y z) (lk ofB x y z) (lk ofC x y z)) (lk ofC x y z)) (lk cmCnt (lk uF
      (lk ofF a b c) (lk ofB a b c) (lk ofC a b c)) (lk uB (lk ofF a b c) (lk ofB a b c) (lk ofC a b c)) (lk ofC a b c) (lk uF (lk ofF x y z) (lk ofB x y z) (lk ofC x y z)) (lk uB (lk ofF
      x y z) (lk ofB x y z) (lk ofC x y z)) (lk ofC x y z)) c + lk kB (lk cmFst (lk uF (lk ofF a b c) (lk ofB a b c) (lk ofC a b c)) (lk uB (lk ofF a b c) (lk ofB a b c) (lk ofC a b c))
      (lk ofC a b c) (lk uF (lk ofF x y z) (lk ofB x y z) (lk ofC x y z)) (lk uB (lk ofF x y z) (lk ofB x y z) (lk ofC x y z)) (lk ofC x y z)) (lk cmBy (lk uF (lk ofF a b c) (lk ofB a b
      c) (lk ofC a b c)) (lk uB (lk ofF a b c) (lk ofB a b c) (lk ofC a b c)) (lk ofC a b c) (lk uF (lk ofF x y z) (lk ofB x y z) (lk ofC x y z)) (lk uB (lk ofF x y z) (lk ofB x y z) (lk
      ofC x y z)) (lk ofC x y z)) (lk cmCnt (lk uF (lk ofF a b c) (lk ofB a b c) (lk ofC a b c)) (lk uB (lk ofF a b c) (lk ofB a b c) (lk ofC a b c)) (lk ofC a b c) (lk uF (lk ofF x y z)
      (lk ofB x y z) (lk ofC x y z)) (lk uB (lk ofF x y z) (lk ofB x y z) (lk ofC x y z)) (lk ofC x y z)) c * (lk cmCnt (lk uF (lk ofF a b c) (lk ofB a b c) (lk ofC a b c)) (lk uB (lk ofF
      a b c) (lk ofB a b c) (lk ofC a b c)) (lk ofC a b c) (lk uF (lk ofF x y z) (lk ofB x y z) (lk ofC x y z)) (lk uB (lk ofF x y z) (lk ofB x y z) (lk ofC x y z)) (lk ofC x y z) - (1 :
      Int)))) (.ret (.tup [.agg [.lit (.int .i64 (lk nLow (lk kF (lk cmFst (lk uF (lk ofF a b c) (lk ofB a b c) (lk ofC a b c)) (lk uB (lk ofF a b c) (lk ofB a b c) (lk ofC a b c)) (lk
      ofC a b c) (lk uF (lk ofF x y z) (lk ofB x y z) (lk ofC x y z)) (lk uB (lk ofF x y z) (lk ofB x y z) (lk ofC x y z)) (lk ofC x y z)) (lk cmBy (lk uF (lk ofF a b c) (lk ofB a b c)
      (lk ofC a b c)) (lk uB (lk ofF a b c) (lk ofB a b c) (lk ofC a b c)) (lk ofC a b c) (lk uF (lk ofF x y z) (lk ofB x y z) (lk ofC x y z)) (lk uB (lk ofF x y z) (lk ofB x y z) (lk ofC
      x y z)) (lk ofC x y z)) (lk cmCnt (lk uF (lk ofF a b c) (lk ofB a b c) (lk ofC a b c)) (lk uB (lk ofF a b c) (lk ofB a b c) (lk ofC a b c)) (lk ofC a b c) (lk uF (lk ofF x y z) (lk
      ofB x y z) (lk ofC x y z)) (lk uB (lk ofF x y z) (lk ofB x y z) (lk ofC x y z)) (lk ofC x y z)) c) (lk kB (lk cmFst (lk uF (lk ofF a b c) (lk ofB a b c) (lk ofC a b c)) (lk uB (lk
      ofF a b c) (lk ofB a b c) (lk ofC a b c)) (lk ofC a b c) (lk uF (lk ofF x y z) (lk ofB x y z) (lk ofC x y z)) (lk uB (lk ofF x y z) (lk ofB x y z) (lk ofC x y z)) (lk ofC x y z))
      (lk cmBy (lk uF (lk ofF a b c) (lk ofB a b c) (lk ofC a b c)) (lk uB (lk ofF a b c) (lk ofB a b c) (lk ofC a b c)) (lk ofC a b c) (lk uF (lk ofF x y z) (lk ofB x y z) (lk ofC x y
      z)) (lk uB (lk ofF x y z) (lk ofB x y z) (lk ofC x y z)) (lk ofC x y z)) (lk cmCnt (lk uF (lk ofF a b c) (lk ofB a b c) (lk ofC a b c)) (lk uB (lk ofF a b c) (lk ofB a b c) (lk ofC
      a b c)) (lk ofC a b c) (lk uF (lk ofF x y z) (lk ofB x y z) (lk ofC x y z)) (lk uB (lk ofF x y z) (lk ofB x y z) (lk ofC x y z)) (lk ofC x y z)) c) (lk cmCnt (lk uF (lk ofF a b c)
      (lk ofB a b c) (lk ofC a b c)) (lk uB (lk ofF a b c) (lk ofB a b c) (lk ofC a b c)) (lk ofC a b c) (lk uF (lk ofF x y z) (lk ofB x y z) (lk ofC x y z)) (lk uB (lk ofF x y z) (lk ofB
      x y z) (lk ofC x y z)) (lk ofC x y z)))), .lit (.int .i64 (lk nHigh (lk kF (lk cmFst (lk uF (lk ofF a b c) (lk ofB a b c) (lk ofC a b c)) (lk uB (lk ofF a b c) (lk ofB a b c) (lk
      ofC a b c)) (lk ofC a b c) (lk uF (lk ofF x y z) (lk ofB x y z) (lk ofC x y z)) (lk uB (lk ofF x y z) (lk ofB x y z) (lk ofC x y z)) (lk ofC x y z)) (lk cmBy (lk uF (lk ofF a b c)
      (lk ofB a b c) (lk ofC a b c)) (lk uB (lk ofF a b c) (lk ofB a b c) (lk ofC a b c)) (lk ofC a b c) (lk uF (lk ofF x y z) (lk ofB x y z) (lk ofC x y z)) (lk uB (lk ofF x y z) (lk ofB
      x y z) (lk ofC x y z)) (lk ofC x y z)) (lk cmCnt (lk uF (lk ofF a b c) (lk ofB a b c) (lk ofC a b c)) (lk uB (lk ofF a b c) (lk ofB a b c) (lk ofC a b c)) (lk ofC a b c) (lk uF (lk
      ofF x y z) (lk ofB x y z) (lk ofC x y z)) (lk uB (lk ofF x y z) (lk ofB x y z) (lk ofC x y z)) (lk ofC x y z)) c) (lk kB (lk cmFst (lk uF (lk ofF a b c) (lk ofB a b c) (lk ofC a b
      c)) (lk uB (lk ofF a b c) (lk ofB a b c) (lk ofC a b c)) (lk ofC a b c) (lk uF (lk ofF x y z) (lk ofB x y z) (lk ofC x y z)) (lk uB (lk ofF x y z) (lk ofB x y z) (lk ofC x y z)) (lk
      ofC x y z)) (lk cmBy (lk uF (lk ofF a b c) (lk ofB a b c) (lk ofC a b c)) (lk uB (lk ofF a b c) (lk ofB a b c) (lk ofC a b c)) (lk ofC a b c) (lk uF (lk ofF x y z) (lk ofB x y z)
      (lk ofC x y z)) (lk uB (lk ofF x y z) (lk ofB x y z) (lk ofC x y z)) (lk ofC x y z)) (lk cmCnt (lk uF (lk ofF a b c) (lk ofB a b c) (lk ofC a b c)) (lk uB (lk ofF a b c) (lk ofB a b
      c) (lk ofC a b c)) (lk ofC a b c) (lk uF (lk ofF x y z) (lk ofB x y z) (lk ofC x y z)) (lk uB (lk ofF x y z) (lk ofB x y z) (lk ofC x y z)) (lk ofC x y z)) c) (lk cmCnt (lk uF (lk
      ofF a b c) (lk ofB a b c) (lk ofC a b c)) (lk uB (lk ofF a b c) (lk ofB a b c) (lk ofC a b c)) (lk ofC a b c) (lk uF (lk ofF x y z) (lk ofB x y z) (lk ofC x y z)) (lk uB (lk ofF x y
      z) (lk ofB x y z) (lk ofC x y z)) (lk ofC x y z)))), .lit (.int .i64 (lk nStr (lk kF (lk cmFst (lk uF (lk ofF a b c) (lk ofB a b c) (lk ofC a b c)) (lk uB (lk ofF a b c) (lk ofB a b
      c) (lk ofC a b c)) (lk ofC a b c) (lk uF (lk ofF x y z) (lk ofB x y z) (lk ofC x y z)) (lk uB (lk ofF x y z) (lk ofB x y z) (lk ofC x y z)) (lk ofC x y z)) (lk cmBy (lk uF (lk ofF a
      b c) (lk ofB a b c) (lk ofC a b c)) (lk uB (lk ofF a b c) (lk ofB a b c) (lk ofC a b c)) (lk ofC a b c) (lk uF (lk ofF x y z) (lk ofB x y z) (lk ofC x y z)) (lk uB (lk ofF x y z)
      (lk ofB x y z) (lk ofC x y z)) (lk ofC x y z)) (lk cmCnt (lk uF (lk ofF a b c) (lk ofB a b c) (lk ofC a b c)) (lk uB (lk ofF a b c) (lk ofB a b c) (lk ofC a b c)) (lk ofC a b c) (lk
      uF (lk ofF x y z) (lk ofB x y z) (lk ofC x y z)) (lk uB (lk ofF x y z) (lk ofB x y z) (lk ofC x y z)) (lk ofC x y z)) c) (lk kB (lk cmFst (lk uF (lk ofF a b c) (lk ofB a b c) (lk
      ofC a b c)) (lk uB (lk ofF a b c) (lk ofB a b c) (lk ofC a b c)) (lk ofC a b c) (lk uF (lk ofF x y z) (lk ofB x y z) (lk ofC x y z)) (lk uB (lk ofF x y z) (lk ofB x y z) (lk ofC x y
      z)) (lk ofC x y z)) (lk cmBy (lk uF (lk ofF a b c) (lk ofB a b c) (lk ofC a b c)) (lk uB (lk ofF a b c) (lk ofB a b c) (lk ofC a b c)) (lk ofC a b c) (lk uF (lk ofF x y z) (lk ofB x
      y z) (lk ofC x y z)) (lk uB (lk ofF x y z) (lk ofB x y z) (lk ofC x y z)) (lk ofC x y z)) (lk cmCnt (lk uF (lk ofF a b c) (lk ofB a b c) (lk ofC a b c)) (lk uB (lk ofF a b c) (lk
      ofB a b c) (lk ofC a b c)) (lk ofC a b c) (lk uF (lk ofF x y z) (lk ofB x y z) (lk ofC x y z)) (lk uB (lk ofF x y z) (lk ofB x y z) (lk ofC x y z)) (lk ofC x y z)) c) (lk cmCnt (lk
      uF (lk ofF a b c) (lk ofB a b c) (lk ofC a b c)) (lk uB (lk ofF a b c) (lk ofB a b c) (lk ofC a b c)) (lk ofC a b c) (lk uF (lk ofF x y z) (lk ofB x y z) (lk ofC x y z)) (lk uB (lk
      ofF x y z) (lk ofB x y z) (lk ofC x y z)) (lk ofC x y z))))], .lit (.int .i64 (lk nErr (lk kF (lk cmFst (lk uF (lk ofF a b c) (lk ofB a b c) (lk ofC a b c)) (lk uB (lk ofF a b c)
      (lk ofB a b c) (lk ofC a b c)) (lk ofC a b c) (lk uF (lk ofF x y z) (lk ofB x y z) (lk ofC x y z)) (lk uB (lk ofF x y z) (lk ofB x y z) (lk ofC x y z)) (lk ofC x y z)) (lk cmBy (lk
      uF (lk ofF a b c) (lk ofB a b c) (lk ofC a b c)) (lk uB (lk ofF a b c) (lk ofB a b c) (lk ofC a b c)) (lk ofC a b c) (lk uF (lk ofF x y z) (lk ofB x y z) (lk ofC x y z)) (lk uB (lk
      ofF x y z) (lk ofB x y z) (lk ofC x y z)) (lk ofC x y z)) (lk cmCnt (lk uF (lk ofF a b c) (lk ofB a b c) (lk ofC a b c)) (lk uB (lk ofF a b c) (lk ofB a b c) (lk ofC a b c)) (lk ofC
      a b c) (lk uF (lk ofF x y z) (lk ofB x y z) (lk ofC x y z)) (lk uB (lk ofF x y z) (lk ofB x y z) (lk ofC x y z)) (lk ofC x y z)) c) (lk kB (lk cmFst (lk uF (lk ofF a b c) (lk ofB a
      b c) (lk ofC a b c)) (lk uB (lk ofF a b c) (lk ofB a b c) (lk ofC a b c)) (lk ofC a b c) (lk uF (lk ofF x y z) (lk ofB x y z) (lk ofC x y z)) (lk uB (lk ofF x y z) (lk ofB x y z)
      (lk ofC x y z)) (lk ofC x y z)) (lk cmBy (lk uF (lk ofF a b c) (lk ofB a b c) (lk ofC a b c)) (lk uB (lk ofF a b c) (lk ofB a b c) (lk ofC a b c)) (lk ofC a b c) (lk uF (lk ofF x y
      z) (lk ofB x y z) (lk ofC x y z)) (lk uB (lk ofF x y z) (lk ofB x y z) (lk ofC x y z)) (lk ofC x y z)) (lk cmCnt (lk uF (lk ofF a b c) (lk ofB a b c) (lk ofC a b c)) (lk uB (lk ofF
      a b c) (lk ofB a b c) (lk ofC a b c)) (lk ofC a b c) (lk uF (lk ofF x y z) (lk ofB x y z) (lk ofC x y z)) (lk uB (lk ofF x y z) (lk ofB x y z) (lk ofC x y z)) (lk ofC x y z)) c) (lk
      cmCnt (lk uF (lk ofF a b c) (lk ofB a b c) (lk ofC a b c)) (lk uB (lk ofF a b c) (lk ofB a b c) (lk ofC a b c)) (lk ofC a b c) (lk uF (lk ofF x y z) (lk ofB x y z) (lk ofC x y z))
      (lk uB (lk ofF x y z) (lk ofB x y z) (lk ofC x y z)) (lk ofC x y z))))])))))))))) := by kernel_rfl
theorem Intersect_ok : ConOK P 22 c_Intersect := con_of (allOK mixed ke_ok) 10 22 fun args r h => by
  unfold c_Intersect at h
  split at h
  · rename_i a b c x y z
    have hp := (T.is_ask h).1
    have h := (T.is_ask h).2
    obtain rfl := T.is_ret h
    rw [t_Intersect]
    obtain ⟨ha, hb, hc, hx, hy, hz⟩ := hp
    simp only [lk_eq]
    refine ⟨⟨ha, hb, hc, hx, hy, hz⟩, fun h => ?_, fun h => ?_⟩
    · rw [U.ne_t] at h
      simp only [isL, isH, isS, isEr, if_pos h]
      exact rfl
    · rw [U.ne_f] at h
      obtain ⟨r1, r2⟩ := ckd_right h
      have hn : ¬ ckd a b c x y z ≠ 0 := by simp [h]
      have hsw := (is_sw r1 r2).1
      refine ⟨of_ask r1 ha hb hc, up_ask r1, of_ask r2 hx hy hz, up_ask r2, ⟨up_ser r1, up_ser r2⟩, ?_⟩
      refine ⟨like_ask hsw, norm_ask hsw, ?_⟩
      simp only [isL, isH, isS, isEr, if_neg hn]
      exact rfl
  · exact h.elim
end Go.RX.Span

/- Hull of the program: the walk. -/
set_option linter.unusedVariables false
set_option linter.unusedSimpArgs false
set_option maxRecDepth 100000
namespace Go.RX.Span
open Go Go.RX

theorem eu_le {a b : Int} (ha : 0 ≤ a) (hb : 1 ≤ b) : 1 ≤ euG a b ∧ euG a b ≤ b ∧ euG a b ∣ a ∧ euG a b ∣ b ∧ ∀ d : Int, d ∣ a → d ∣ b → d ∣ euG a b := by
  obtain ⟨h1, _, _⟩ := eu_spec (a := a) (b := b) ha (by omega)
  have hpos : 0 < Int.gcd a b := Int.gcd_pos_of_ne_zero_right a (by omega)
  have hd : euG a b ∣ b := by rw [h1]; exact Int.gcd_dvd_right a b
  refine ⟨by rw [h1]; omega, Int.le_of_dvd (by omega) hd, by rw [h1]; exact Int.gcd_dvd_left a b, hd, fun d h2 h3 => ?_⟩
  rw [h1]
  exact Int.dvd_coe_gcd h2 h3
/-- The step of a hull: by the distance of the firsts, and the steps. -/
def huD (A B : Int) : Int := max (A - B) (B - A)
def hu1 (A s C B : Int) : Int := if C > 1 then euG (huD A B) s else huD A B
def hu2 (A s C B t D : Int) : Int := if D > 1 then euG (hu1 A s C B) t else hu1 A s C B
def huX (A s C B t D : Int) : Int := max (sLast A s C) (sLast B t D)
def huF (A s C B t D : Int) : Int := if C = 0 then B else if D = 0 then A else min A B
def huB (A s C B t D : Int) : Int := if C = 0 then t else if D = 0 then s else if hu2 A s C B t D = 0 then 1 else hu2 A s C B t D
def huC (A s C B t D : Int) : Int := if C = 0 then D else if D = 0 then C else if hu2 A s C B t D = 0 then 1 else (huX A s C B t D - min A B).tdiv (hu2 A s C B t D) + 1
def haF (a b c x y z : Int) : Int := huF (sA a b c) (sS a b c) (ofC a b c) (sA x y z) (sS x y z) (ofC x y z)
def haB (a b c x y z : Int) : Int := huB (sA a b c) (sS a b c) (ofC a b c) (sA x y z) (sS x y z) (ofC x y z)
def haC (a b c x y z : Int) : Int := huC (sA a b c) (sS a b c) (ofC a b c) (sA x y z) (sS x y z) (ofC x y z)
def hlL (a b c x y z : Int) : Int := if ckd a b c x y z ≠ 0 then 0 else nLow (haF a b c x y z) (haB a b c x y z) (haC a b c x y z)
def hlH (a b c x y z : Int) : Int := if ckd a b c x y z ≠ 0 then 0 else nHigh (haF a b c x y z) (haB a b c x y z) (haC a b c x y z)
def hlS (a b c x y z : Int) : Int := if ckd a b c x y z ≠ 0 then 0 else nStr (haF a b c x y z) (haB a b c x y z) (haC a b c x y z)
def hlE (a b c x y z : Int) : Int := if ckd a b c x y z ≠ 0 then ckd a b c x y z else nErr (haF a b c x y z) (haB a b c x y z) (haC a b c x y z)

noncomputable abbrev l49 : List (Nat × Loops) := [(38, [(12, .un 3)])] --%K
theorem l49_ok : ∀ p ∈ l49, LoopsOK P p.2 (bodyOf P p.1) := by
  intro p hp
  simp only [l49, List.mem_singleton] at hp
  subst hp
  exact loopsOK_un fun q hq => by simp only [List.mem_singleton] at hq; subst hq; exact ⟨3, rfl⟩
noncomputable def c_Hull : Con := fun args => match args with
  | [.agg [.lit (.int .i64 a), .lit (.int .i64 b), .lit (.int .i64 c)], .agg [.lit (.int .i64 x), .lit (.int .i64 y), .lit (.int .i64 z)]] =>
    .ask (I64 a ∧ I64 b ∧ I64 c ∧ I64 x ∧ I64 y ∧ I64 z) (.ret (.tup [.agg [.lit (.int .i64 (lk hlL a b c x y z)), .lit (.int .i64 (lk hlH a b c x y z)), .lit (.int .i64 (lk hlS a b c x y z))], .lit (.int .i64 (lk hlE a b c x y z))]))
  | _ => .stuck 1
set_option maxRecDepth 100000 in
theorem t_Hull (a b c x y z : Int) : conB Go.Proofs.Try.prog (conOf ke) (loopsOf l49) 10 38 [.agg [.lit (.int .i64 a), .lit (.int .i64 b), .lit (.int .i64 c)], .agg [.lit (.int .i64 x), .lit (.int .i64 y), .lit (.int .i64 z)]] =
    T.ask (I64 a ∧ I64 b ∧ I64 c ∧ I64 x ∧ I64 y ∧ I64 z) (.br (U.ne (lk ckd a b c x y z) (0 : Int)) (.ret (.tup [.agg [.lit (.int .i64 0), .lit (.int .i64 0), .lit (.int .i64 0)], .lit
      (.int .i64 (lk ckd a b c x y z))])) (.ask (a ≤ b → c ≠ (0 : Int) ∧ (-9223372036854775807 : Int) ≤ c ∧ b - a < (9223372036854775807 : Int) ∧ I64 a ∧ I64 b ∧ I64 c) (.ask (lk ofB a b
      c < (0 : Int) → lk ofC a b c ≠ (0 : Int) → I64 (lk ofC a b c - (1 : Int)) ∧ I64 (lk ofB a b c * (lk ofC a b c - (1 : Int))) ∧ I64 (lk ofF a b c + lk ofB a b c * (lk ofC a b c - (1 :
      Int))) ∧ I64 (-lk ofB a b c)) (.ask (x ≤ y → z ≠ (0 : Int) ∧ (-9223372036854775807 : Int) ≤ z ∧ y - x < (9223372036854775807 : Int) ∧ I64 x ∧ I64 y ∧ I64 z) (.ask (lk ofB x y z < (0
      : Int) → lk ofC x y z ≠ (0 : Int) → I64 (lk ofC x y z - (1 : Int)) ∧ I64 (lk ofB x y z * (lk ofC x y z - (1 : Int))) ∧ I64 (lk ofF x y z + lk ofB x y z * (lk ofC x y z - (1 : Int)))
      ∧ I64 (-lk ofB x y z)) (.br (U.eq (lk ofC a b c) (0 : Int)) (.ask ((0 : Int) < lk ofC x y z → I64 (lk ofC x y z - (1 : Int)) ∧ I64 (lk uB (lk ofF x y z) (lk ofB x y z) (lk ofC x y
      z) * (lk ofC x y z - (1 : Int))) ∧ I64 (lk uF (lk ofF x y z) (lk ofB x y z) (lk ofC x y z) + lk uB (lk ofF x y z) (lk ofB x y z) (lk ofC x y z) * (lk ofC x y z - (1 : Int)))) (.ret
      (.tup [.agg [.lit (.int .i64 (lk nLow (lk uF (lk ofF x y z) (lk ofB x y z) (lk ofC x y z)) (lk uB (lk ofF x y z) (lk ofB x y z) (lk ofC x y z)) (lk ofC x y z))), .lit (.int .i64 (lk
      nHigh (lk uF (lk ofF x y z) (lk ofB x y z) (lk ofC x y z)) (lk uB (lk ofF x y z) (lk ofB x y z) (lk ofC x y z)) (lk ofC x y z))), .lit (.int .i64 (lk nStr (lk uF (lk ofF x y z) (lk
      ofB x y z) (lk ofC x y z)) (lk uB (lk ofF x y z) (lk ofB x y z) (lk ofC x y z)) (lk ofC x y z)))], .lit (.int .i64 (lk nErr (lk uF (lk ofF x y z) (lk ofB x y z) (lk ofC x y z)) (lk
      uB (lk ofF x y z) (lk ofB x y z) (lk ofC x y z)) (lk ofC x y z)))]))) (.br (U.eq (lk ofC x y z) (0 : Int)) (.ask ((0 : Int) < lk ofC a b c → I64 (lk ofC a b c - (1 : Int)) ∧ I64 (lk
      uB (lk ofF a b c) (lk ofB a b c) (lk ofC a b c) * (lk ofC a b c - (1 : Int))) ∧ I64 (lk uF (lk ofF a b c) (lk ofB a b c) (lk ofC a b c) + lk uB (lk ofF a b c) (lk ofB a b c) (lk ofC
      a b c) * (lk ofC a b c - (1 : Int)))) (.ret (.tup [.agg [.lit (.int .i64 (lk nLow (lk uF (lk ofF a b c) (lk ofB a b c) (lk ofC a b c)) (lk uB (lk ofF a b c) (lk ofB a b c) (lk ofC a
      b c)) (lk ofC a b c))), .lit (.int .i64 (lk nHigh (lk uF (lk ofF a b c) (lk ofB a b c) (lk ofC a b c)) (lk uB (lk ofF a b c) (lk ofB a b c) (lk ofC a b c)) (lk ofC a b c))), .lit
      (.int .i64 (lk nStr (lk uF (lk ofF a b c) (lk ofB a b c) (lk ofC a b c)) (lk uB (lk ofF a b c) (lk ofB a b c) (lk ofC a b c)) (lk ofC a b c)))], .lit (.int .i64 (lk nErr (lk uF (lk
      ofF a b c) (lk ofB a b c) (lk ofC a b c)) (lk uB (lk ofF a b c) (lk ofB a b c) (lk ofC a b c)) (lk ofC a b c)))]))) (.ask (I64 (lk ofC a b c - (1 : Int)) ∧ I64 (lk uB (lk ofF a b c)
      (lk ofB a b c) (lk ofC a b c) * (lk ofC a b c - (1 : Int))) ∧ I64 (lk uF (lk ofF a b c) (lk ofB a b c) (lk ofC a b c) + lk uB (lk ofF a b c) (lk ofB a b c) (lk ofC a b c) * (lk ofC
      a b c - (1 : Int)))) (.ask (I64 (lk ofC x y z - (1 : Int)) ∧ I64 (lk uB (lk ofF x y z) (lk ofB x y z) (lk ofC x y z) * (lk ofC x y z - (1 : Int))) ∧ I64 (lk uF (lk ofF x y z) (lk
      ofB x y z) (lk ofC x y z) + lk uB (lk ofF x y z) (lk ofB x y z) (lk ofC x y z) * (lk ofC x y z - (1 : Int)))) (.br (U.gt (lk ofC a b c) (1 : Int)) (.ask ((0 : Int) ≤ U.mm true
      (U.sub .i64 (lk uF (lk ofF a b c) (lk ofB a b c) (lk ofC a b c)) (lk uF (lk ofF x y z) (lk ofB x y z) (lk ofC x y z))) (U.sub .i64 (lk uF (lk ofF x y z) (lk ofB x y z) (lk ofC x y
      z)) (lk uF (lk ofF a b c) (lk ofB a b c) (lk ofC a b c))) ∧ U.mm true (U.sub .i64 (lk uF (lk ofF a b c) (lk ofB a b c) (lk ofC a b c)) (lk uF (lk ofF x y z) (lk ofB x y z) (lk ofC x
      y z))) (U.sub .i64 (lk uF (lk ofF x y z) (lk ofB x y z) (lk ofC x y z)) (lk uF (lk ofF a b c) (lk ofB a b c) (lk ofC a b c))) ≤ (4000000 : Int) ∧ (0 : Int) ≤ lk uB (lk ofF a b c)
      (lk ofB a b c) (lk ofC a b c) ∧ lk uB (lk ofF a b c) (lk ofB a b c) (lk ofC a b c) ≤ (4000000 : Int)) (.br (U.gt (lk ofC x y z) (1 : Int)) (.ask ((0 : Int) ≤ lk euG (U.mm true
      (U.sub .i64 (lk uF (lk ofF a b c) (lk ofB a b c) (lk ofC a b c)) (lk uF (lk ofF x y z) (lk ofB x y z) (lk ofC x y z))) (U.sub .i64 (lk uF (lk ofF x y z) (lk ofB x y z) (lk ofC x y
      z)) (lk uF (lk ofF a b c) (lk ofB a b c) (lk ofC a b c)))) (lk uB (lk ofF a b c) (lk ofB a b c) (lk ofC a b c)) ∧ lk euG (U.mm true (U.sub .i64 (lk uF (lk ofF a b c) (lk ofB a b c)
      (lk ofC a b c)) (lk uF (lk ofF x y z) (lk ofB x y z) (lk ofC x y z))) (U.sub .i64 (lk uF (lk ofF x y z) (lk ofB x y z) (lk ofC x y z)) (lk uF (lk ofF a b c) (lk ofB a b c) (lk ofC a
      b c)))) (lk uB (lk ofF a b c) (lk ofB a b c) (lk ofC a b c)) ≤ (4000000 : Int) ∧ (0 : Int) ≤ lk uB (lk ofF x y z) (lk ofB x y z) (lk ofC x y z) ∧ lk uB (lk ofF x y z) (lk ofB x y z)
      (lk ofC x y z) ≤ (4000000 : Int)) (.br (U.eq (lk euG (lk euG (U.mm true (U.sub .i64 (lk uF (lk ofF a b c) (lk ofB a b c) (lk ofC a b c)) (lk uF (lk ofF x y z) (lk ofB x y z) (lk ofC
      x y z))) (U.sub .i64 (lk uF (lk ofF x y z) (lk ofB x y z) (lk ofC x y z)) (lk uF (lk ofF a b c) (lk ofB a b c) (lk ofC a b c)))) (lk uB (lk ofF a b c) (lk ofB a b c) (lk ofC a b
      c))) (lk uB (lk ofF x y z) (lk ofB x y z) (lk ofC x y z))) (0 : Int)) (.ask ((0 : Int) < (1 : Int) → I64 ((1 : Int) - (1 : Int)) ∧ I64 ((1 : Int) * ((1 : Int) - (1 : Int))) ∧ I64
      (U.mm false (lk uF (lk ofF a b c) (lk ofB a b c) (lk ofC a b c)) (lk uF (lk ofF x y z) (lk ofB x y z) (lk ofC x y z)) + (1 : Int) * ((1 : Int) - (1 : Int)))) (.ret (.tup [.agg [.lit
      (.int .i64 (lk nLow (U.mm false (lk uF (lk ofF a b c) (lk ofB a b c) (lk ofC a b c)) (lk uF (lk ofF x y z) (lk ofB x y z) (lk ofC x y z))) (1 : Int) (1 : Int))), .lit (.int .i64 (lk
      nHigh (U.mm false (lk uF (lk ofF a b c) (lk ofB a b c) (lk ofC a b c)) (lk uF (lk ofF x y z) (lk ofB x y z) (lk ofC x y z))) (1 : Int) (1 : Int))), .lit (.int .i64 (lk nStr (U.mm
      false (lk uF (lk ofF a b c) (lk ofB a b c) (lk ofC a b c)) (lk uF (lk ofF x y z) (lk ofB x y z) (lk ofC x y z))) (1 : Int) (1 : Int)))], .lit (.int .i64 (lk nErr (U.mm false (lk uF
      (lk ofF a b c) (lk ofB a b c) (lk ofC a b c)) (lk uF (lk ofF x y z) (lk ofB x y z) (lk ofC x y z))) (1 : Int) (1 : Int)))]))) (.ask (lk euG (lk euG (U.mm true (U.sub .i64 (lk uF (lk
      ofF a b c) (lk ofB a b c) (lk ofC a b c)) (lk uF (lk ofF x y z) (lk ofB x y z) (lk ofC x y z))) (U.sub .i64 (lk uF (lk ofF x y z) (lk ofB x y z) (lk ofC x y z)) (lk uF (lk ofF a b
      c) (lk ofB a b c) (lk ofC a b c)))) (lk uB (lk ofF a b c) (lk ofB a b c) (lk ofC a b c))) (lk uB (lk ofF x y z) (lk ofB x y z) (lk ofC x y z)) ≠ (0 : Int)) (.ask ((0 : Int) < U.add
      .i64 (U.quo .i64 (U.sub .i64 (U.mm true (lk sLast (lk uF (lk ofF a b c) (lk ofB a b c) (lk ofC a b c)) (lk uB (lk ofF a b c) (lk ofB a b c) (lk ofC a b c)) (lk ofC a b c)) (lk sLast
      (lk uF (lk ofF x y z) (lk ofB x y z) (lk ofC x y z)) (lk uB (lk ofF x y z) (lk ofB x y z) (lk ofC x y z)) (lk ofC x y z))) (U.mm false (lk uF (lk ofF a b c) (lk ofB a b c) (lk ofC a
      b c)) (lk uF (lk ofF x y z) (lk ofB x y z) (lk ofC x y z)))) (lk euG (lk euG (U.mm true (U.sub .i64 (lk uF (lk ofF a b c) (lk ofB a b c) (lk ofC a b c)) (lk uF (lk ofF x y z) (lk
      ofB x y z) (lk ofC x y z))) (U.sub .i64 (lk uF (lk ofF x y z) (lk ofB x y z) (lk ofC x y z)) (lk uF (lk ofF a b c) (lk ofB a b c) (lk ofC a b c)))) (lk uB (lk ofF a b c) (lk ofB a b
      c) (lk ofC a b c))) (lk uB (lk ofF x y z) (lk ofB x y z) (lk ofC x y z)))) (1 : Int) → I64 (U.add .i64 (U.quo .i64 (U.sub .i64 (U.mm true (lk sLast (lk uF (lk ofF a b c) (lk ofB a b
      c) (lk ofC a b c)) (lk uB (lk ofF a b c) (lk ofB a b c) (lk ofC a b c)) (lk ofC a b c)) (lk sLast (lk uF (lk ofF x y z) (lk ofB x y z) (lk ofC x y z)) (lk uB (lk ofF x y z) (lk ofB
      x y z) (lk ofC x y z)) (lk ofC x y z))) (U.mm false (lk uF (lk ofF a b c) (lk ofB a b c) (lk ofC a b c)) (lk uF (lk ofF x y z) (lk ofB x y z) (lk ofC x y z)))) (lk euG (lk euG (U.mm
      true (U.sub .i64 (lk uF (lk ofF a b c) (lk ofB a b c) (lk ofC a b c)) (lk uF (lk ofF x y z) (lk ofB x y z) (lk ofC x y z))) (U.sub .i64 (lk uF (lk ofF x y z) (lk ofB x y z) (lk ofC
      x y z)) (lk uF (lk ofF a b c) (lk ofB a b c) (lk ofC a b c)))) (lk uB (lk ofF a b c) (lk ofB a b c) (lk ofC a b c))) (lk uB (lk ofF x y z) (lk ofB x y z) (lk ofC x y z)))) (1 : Int)
      - (1 : Int)) ∧ I64 (lk euG (lk euG (U.mm true (U.sub .i64 (lk uF (lk ofF a b c) (lk ofB a b c) (lk ofC a b c)) (lk uF (lk ofF x y z) (lk ofB x y z) (lk ofC x y z))) (U.sub .i64 (lk
      uF (lk ofF x y z) (lk ofB x y z) (lk ofC x y z)) (lk uF (lk ofF a b c) (lk ofB a b c) (lk ofC a b c)))) (lk uB (lk ofF a b c) (lk ofB a b c) (lk ofC a b c))) (lk uB (lk ofF x y z)
      (lk ofB x y z) (lk ofC x y z)) * (U.add .i64 (U.quo .i64 (U.sub .i64 (U.mm true (lk sLast (lk uF (lk ofF a b c) (lk ofB a b c) (lk ofC a b c)) (lk uB (lk ofF a b c) (lk ofB a b c)
      (lk ofC a b c)) (lk ofC a b c)) (lk sLast (lk uF (lk ofF x y z) (lk ofB x y z) (lk ofC x y z)) (lk uB (lk ofF x y z) (lk ofB x y z) (lk ofC x y z)) (lk ofC x y z))) (U.mm false (lk
      uF (lk ofF a b c) (lk ofB a b c) (lk ofC a b c)) (lk uF (lk ofF x y z) (lk ofB x y z) (lk ofC x y z)))) (lk euG (lk euG (U.mm true (U.sub .i64 (lk uF (lk ofF a b c) (lk ofB a b c)
      (lk ofC a b c)) (lk uF (lk ofF x y z) (lk ofB x y z) (lk ofC x y z))) (U.sub .i64 (lk uF (lk ofF x y z) (lk ofB x y z) (lk ofC x y z)) (lk uF (lk ofF a b c) (lk ofB a b c) (lk ofC a
      b c)))) (lk uB (lk ofF a b c) (lk ofB a b c) (lk ofC a b c))) (lk uB (lk ofF x y z) (lk ofB x y z) (lk ofC x y z)))) (1 : Int) - (1 : Int))) ∧ I64 (U.mm false (lk uF (lk ofF a b c)
      (lk ofB a b c) (lk ofC a b c)) (lk uF (lk ofF x y z) (lk ofB x y z) (lk ofC x y z)) + lk euG (lk euG (U.mm true (U.sub .i64 (lk uF (lk ofF a b c) (lk ofB a b c) (lk ofC a b c)) (lk
      uF (lk ofF x y z) (lk ofB x y z) (lk ofC x y z))) (U.sub .i64 (lk uF (lk ofF x y z) (lk ofB x y z) (lk ofC x y z)) (lk uF (lk ofF a b c) (lk ofB a b c) (lk ofC a b c)))) (lk uB (lk
      ofF a b c) (lk ofB a b c) (lk ofC a b c))) (lk uB (lk ofF x y z) (lk ofB x y z) (lk ofC x y z)) * (U.add .i64 (U.quo .i64 (U.sub .i64 (U.mm true (lk sLast (lk uF (lk ofF a b c) (lk
      ofB a b c) (lk ofC a b c)) (lk uB (lk ofF a b c) (lk ofB a b c) (lk ofC a b c)) (lk ofC a b c)) (lk sLast (lk uF (lk ofF x y z) (lk ofB x y z) (lk ofC x y z)) (lk uB (lk ofF x y z)
      (lk ofB x y z) (lk ofC x y z)) (lk ofC x y z))) (U.mm false (lk uF (lk ofF a b c) (lk ofB a b c) (lk ofC a b c)) (lk uF (lk ofF x y z) (lk ofB x y z) (lk ofC x y z)))) (lk euG (lk
      euG (U.mm true (U.sub .i64 (lk uF (lk ofF a b c) (lk ofB a b c) (lk ofC a b c)) (lk uF (lk ofF x y z) (lk ofB x y z) (lk ofC x y z))) (U.sub .i64 (lk uF (lk ofF x y z) (lk ofB x y
      z) (lk ofC x y z)) (lk uF (lk ofF a b c) (lk ofB a b c) (lk ofC a b c)))) (lk uB (lk ofF a b c) (lk ofB a b c) (lk ofC a b c))) (lk uB (lk ofF x y z) (lk ofB x y z) (lk ofC x y
      z)))) (1 : Int) - (1 : Int)))) (.ret (.tup [.agg [.lit (.int .i64 (lk nLow (U.mm false (lk uF (lk ofF a b c) (lk ofB a b c) (lk ofC a b c)) (lk uF (lk ofF x y z) (lk ofB x y z) (lk
      ofC x y z))) (lk euG (lk euG (U.mm true (U.sub .i64 (lk uF (lk ofF a b c) (lk ofB a b c) (lk ofC a b c)) (lk uF (lk ofF x y z) (lk ofB x y z) (lk ofC x y z))) (U.sub .i64 (lk uF (lk
      ofF x y z) (lk ofB x y z) (lk ofC x y z)) (lk uF (lk ofF a b c) (lk ofB a b c) (lk ofC a b c)))) (lk uB (lk ofF a b c) (lk ofB a b c) (lk ofC a b c))) (lk uB (lk ofF x y z) (lk ofB
      x y z) (lk ofC x y z))) (U.add .i64 (U.quo .i64 (U.sub .i64 (U.mm true (lk sLast (lk uF (lk ofF a b c) (lk ofB a b c) (lk ofC a b c)) (lk uB (lk ofF a b c) (lk ofB a b c) (lk ofC a
      b c)) (lk ofC a b c)) (lk sLast (lk uF (lk ofF x y z) (lk ofB x y z) (lk ofC x y z)) (lk uB (lk ofF x y z) (lk ofB x y z) (lk ofC x y z)) (lk ofC x y z))) (U.mm false (lk uF (lk ofF
      a b c) (lk ofB a b c) (lk ofC a b c)) (lk uF (lk ofF x y z) (lk ofB x y z) (lk ofC x y z)))) (lk euG (lk euG (U.mm true (U.sub .i64 (lk uF (lk ofF a b c) (lk ofB a b c) (lk ofC a b
      c)) (lk uF (lk ofF x y z) (lk ofB x y z) (lk ofC x y z))) (U.sub .i64 (lk uF (lk ofF x y z) (lk ofB x y z) (lk ofC x y z)) (lk uF (lk ofF a b c) (lk ofB a b c) (lk ofC a b c)))) (lk
      uB (lk ofF a b c) (lk ofB a b c) (lk ofC a b c))) (lk uB (lk ofF x y z) (lk ofB x y z) (lk ofC x y z)))) (1 : Int)))), .lit (.int .i64 (lk nHigh (U.mm false (lk uF (lk ofF a b c)
      (lk ofB a b c) (lk ofC a b c)) (lk uF (lk ofF x y z) (lk ofB x y z) (lk ofC x y z))) (lk euG (lk euG (U.mm true (U.sub .i64 (lk uF (lk ofF a b c) (lk ofB a b c) (lk ofC a b c)) (lk
      uF (lk ofF x y z) (lk ofB x y z) (lk ofC x y z))) (U.sub .i64 (lk uF (lk ofF x y z) (lk ofB x y z) (lk ofC x y z)) (lk uF (lk ofF a b c) (lk ofB a b c) (lk ofC a b c)))) (lk uB (lk
      ofF a b c) (lk ofB a b c) (lk ofC a b c))) (lk uB (lk ofF x y z) (lk ofB x y z) (lk ofC x y z))) (U.add .i64 (U.quo .i64 (U.sub .i64 (U.mm true (lk sLast (lk uF (lk ofF a b c) (lk
      ofB a b c) (lk ofC a b c)) (lk uB (lk ofF a b c) (lk ofB a b c) (lk ofC a b c)) (lk ofC a b c)) (lk sLast (lk uF (lk ofF x y z) (lk ofB x y z) (lk ofC x y z)) (lk uB (lk ofF x y z)
      (lk ofB x y z) (lk ofC x y z)) (lk ofC x y z))) (U.mm false (lk uF (lk ofF a b c) (lk ofB a b c) (lk ofC a b c)) (lk uF (lk ofF x y z) (lk ofB x y z) (lk ofC x y z)))) (lk euG (lk
      euG (U.mm true (U.sub .i64 (lk uF (lk ofF a b c) (lk ofB a b c) (lk ofC a b c)) (lk uF (lk ofF x y z) (lk ofB x y z) (lk ofC x y z))) (U.sub .i64 (lk uF (lk ofF x y z) (lk ofB x y
      z) (lk ofC x y z)) (lk uF (lk ofF a b c) (lk ofB a b c) (lk ofC a b c)))) (lk uB (lk ofF a b c) (lk ofB a b c) (lk ofC a b c))) (lk uB (lk ofF x y z) (lk ofB x y z) (lk ofC x y
      z)))) (1 : Int)))), .lit (.int .i64 (lk nStr (U.mm false (lk uF (lk ofF a b c) (lk ofB a b c) (lk ofC a b c)) (lk uF (lk ofF x y z) (lk ofB x y z) (lk ofC x y z))) (lk euG (lk euG
      (U.mm true (U.sub .i64 (lk uF (lk ofF a b c) (lk ofB a b c) (lk ofC a b c)) (lk uF (lk ofF x y z) (lk ofB x y z) (lk ofC x y z))) (U.sub .i64 (lk uF (lk ofF x y z) (lk ofB x y z)
      (lk ofC x y z)) (lk uF (lk ofF a b c) (lk ofB a b c) (lk ofC a b c)))) (lk uB (lk ofF a b c) (lk ofB a b c) (lk ofC a b c))) (lk uB (lk ofF x y z) (lk ofB x y z) (lk ofC x y z)))
      (U.add .i64 (U.quo .i64 (U.sub .i64 (U.mm true (lk sLast (lk uF (lk ofF a b c) (lk ofB a b c) (lk ofC a b c)) (lk uB (lk ofF a b c) (lk ofB a b c) (lk ofC a b c)) (lk ofC a b c))
      (lk sLast (lk uF (lk ofF x y z) (lk ofB x y z) (lk ofC x y z)) (lk uB (lk ofF x y z) (lk ofB x y z) (lk ofC x y z)) (lk ofC x y z))) (U.mm false (lk uF (lk ofF a b c) (lk ofB a b c)
      (lk ofC a b c)) (lk uF (lk ofF x y z) (lk ofB x y z) (lk ofC x y z)))) (lk euG (lk euG (U.mm true (U.sub .i64 (lk uF (lk ofF a b c) (lk ofB a b c) (lk ofC a b c)) (lk uF (lk ofF x y
      z) (lk ofB x y z) (lk ofC x y z))) (U.sub .i64 (lk uF (lk ofF x y z) (lk ofB x y z) (lk ofC x y z)) (lk uF (lk ofF a b c) (lk ofB a b c) (lk ofC a b c)))) (lk uB (lk ofF a b c) (lk
      ofB a b c) (lk ofC a b c))) (lk uB (lk ofF x y z) (lk ofB x y z) (lk ofC x y z)))) (1 : Int))))], .lit (.int .i64 (lk nErr (U.mm false (lk uF (lk ofF a b c) (lk ofB a b c) (lk ofC a
      b c)) (lk uF (lk ofF x y z) (lk ofB x y z) (lk ofC x y z))) (lk euG (lk euG (U.mm true (U.sub .i64 (lk uF (lk ofF a b c) (lk ofB a b c) (lk ofC a b c)) (lk uF (lk ofF x y z) (lk ofB
      x y z) (lk ofC x y z))) (U.sub .i64 (lk uF (lk ofF x y z) (lk ofB x y z) (lk ofC x y z)) (lk uF (lk ofF a b c) (lk ofB a b c) (lk ofC a b c)))) (lk uB (lk ofF a b c) (lk ofB a b c)
      (lk ofC a b c))) (lk uB (lk ofF x y z) (lk ofB x y z) (lk ofC x y z))) (U.add .i64 (U.quo .i64 (U.sub .i64 (U.mm true (lk sLast (lk uF (lk ofF a b c) (lk ofB a b c) (lk ofC a b c))
      (lk uB (lk ofF a b c) (lk ofB a b c) (lk ofC a b c)) (lk ofC a b c)) (lk sLast (lk uF (lk ofF x y z) (lk ofB x y z) (lk ofC x y z)) (lk uB (lk ofF x y z) (lk ofB x y z) (lk ofC x y
      z)) (lk ofC x y z))) (U.mm false (lk uF (lk ofF a b c) (lk ofB a b c) (lk ofC a b c)) (lk uF (lk ofF x y z) (lk ofB x y z) (lk ofC x y z)))) (lk euG (lk euG (U.mm true (U.sub .i64
      (lk uF (lk ofF a b c) (lk ofB a b c) (lk ofC a b c)) (lk uF (lk ofF x y z) (lk ofB x y z) (lk ofC x y z))) (U.sub .i64 (lk uF (lk ofF x y z) (lk ofB x y z) (lk ofC x y z)) (lk uF
      (lk ofF a b c) (lk ofB a b c) (lk ofC a b c)))) (lk uB (lk ofF a b c) (lk ofB a b c) (lk ofC a b c))) (lk uB (lk ofF x y z) (lk ofB x y z) (lk ofC x y z)))) (1 : Int))))])))))) (.br
      (U.eq (lk euG (U.mm true (U.sub .i64 (lk uF (lk ofF a b c) (lk ofB a b c) (lk ofC a b c)) (lk uF (lk ofF x y z) (lk ofB x y z) (lk ofC x y z))) (U.sub .i64 (lk uF (lk ofF x y z) (lk
      ofB x y z) (lk ofC x y z)) (lk uF (lk ofF a b c) (lk ofB a b c) (lk ofC a b c)))) (lk uB (lk ofF a b c) (lk ofB a b c) (lk ofC a b c))) (0 : Int)) (.ask ((0 : Int) < (1 : Int) → I64
      ((1 : Int) - (1 : Int)) ∧ I64 ((1 : Int) * ((1 : Int) - (1 : Int))) ∧ I64 (U.mm false (lk uF (lk ofF a b c) (lk ofB a b c) (lk ofC a b c)) (lk uF (lk ofF x y z) (lk ofB x y z) (lk
      ofC x y z)) + (1 : Int) * ((1 : Int) - (1 : Int)))) (.ret (.tup [.agg [.lit (.int .i64 (lk nLow (U.mm false (lk uF (lk ofF a b c) (lk ofB a b c) (lk ofC a b c)) (lk uF (lk ofF x y
      z) (lk ofB x y z) (lk ofC x y z))) (1 : Int) (1 : Int))), .lit (.int .i64 (lk nHigh (U.mm false (lk uF (lk ofF a b c) (lk ofB a b c) (lk ofC a b c)) (lk uF (lk ofF x y z) (lk ofB x
      y z) (lk ofC x y z))) (1 : Int) (1 : Int))), .lit (.int .i64 (lk nStr (U.mm false (lk uF (lk ofF a b c) (lk ofB a b c) (lk ofC a b c)) (lk uF (lk ofF x y z) (lk ofB x y z) (lk ofC x
      y z))) (1 : Int) (1 : Int)))], .lit (.int .i64 (lk nErr (U.mm false (lk uF (lk ofF a b c) (lk ofB a b c) (lk ofC a b c)) (lk uF (lk ofF x y z) (lk ofB x y z) (lk ofC x y z))) (1 :
      Int) (1 : Int)))]))) (.ask (lk euG (U.mm true (U.sub .i64 (lk uF (lk ofF a b c) (lk ofB a b c) (lk ofC a b c)) (lk uF (lk ofF x y z) (lk ofB x y z) (lk ofC x y z))) (U.sub .i64 (lk
      uF (lk ofF x y z) (lk ofB x y z) (lk ofC x y z)) (lk uF (lk ofF a b c) (lk ofB a b c) (lk ofC a b c)))) (lk uB (lk ofF a b c) (lk ofB a b c) (lk ofC a b c)) ≠ (0 : Int)) (.ask ((0 :
      Int) < U.add .i64 (U.quo .i64 (U.sub .i64 (U.mm true (lk sLast (lk uF (lk ofF a b c) (lk ofB a b c) (lk ofC a b c)) (lk uB (lk ofF a b c) (lk ofB a b c) (lk ofC a b c)) (lk ofC a b
      c)) (lk sLast (lk uF (lk ofF x y z) (lk ofB x y z) (lk ofC x y z)) (lk uB (lk ofF x y z) (lk ofB x y z) (lk ofC x y z)) (lk ofC x y z))) (U.mm false (lk uF (lk ofF a b c) (lk ofB a
      b c) (lk ofC a b c)) (lk uF (lk ofF x y z) (lk ofB x y z) (lk ofC x y z)))) (lk euG (U.mm true (U.sub .i64 (lk uF (lk ofF a b c) (lk ofB a b c) (lk ofC a b c)) (lk uF (lk ofF x y z)
      (lk ofB x y z) (lk ofC x y z))) (U.sub .i64 (lk uF (lk ofF x y z) (lk ofB x y z) (lk ofC x y z)) (lk uF (lk ofF a b c) (lk ofB a b c) (lk ofC a b c)))) (lk uB (lk ofF a b c) (lk ofB
      a b c) (lk ofC a b c)))) (1 : Int) → I64 (U.add .i64 (U.quo .i64 (U.sub .i64 (U.mm true (lk sLast (lk uF (lk ofF a b c) (lk ofB a b c) (lk ofC a b c)) (lk uB (lk ofF a b c) (lk ofB
      a b c) (lk ofC a b c)) (lk ofC a b c)) (lk sLast (lk uF (lk ofF x y z) (lk ofB x y z) (lk ofC x y z)) (lk uB (lk ofF x y z) (lk ofB x y z) (lk ofC x y z)) (lk ofC x y z))) (U.mm
      false (lk uF (lk ofF a b c) (lk ofB a b c) (lk ofC a b c)) (lk uF (lk ofF x y z) (lk ofB x y z) (lk ofC x y z)))) (lk euG (U.mm true (U.sub .i64 (lk uF (lk ofF a b c) (lk ofB a b c)
      (lk ofC a b c)) (lk uF (lk ofF x y z) (lk ofB x y z) (lk ofC x y z))) (U.sub .i64 (lk uF (lk ofF x y z) (lk ofB x y z) (lk ofC x y z)) (lk uF (lk ofF a b c) (lk ofB a b c) (lk ofC a
      b c)))) (lk uB (lk ofF a b c) (lk ofB a b c) (lk ofC a b c)))) (1 : Int) - (1 : Int)) ∧ I64 (lk euG (U.mm true (U.sub .i64 (lk uF (lk ofF a b c) (lk ofB a b c) (lk ofC a b c)) (lk
      uF (lk ofF x y z) (lk ofB x y z) (lk ofC x y z))) (U.sub .i64 (lk uF (lk ofF x y z) (lk ofB x y z) (lk ofC x y z)) (lk uF (lk ofF a b c) (lk ofB a b c) (lk ofC a b c)))) (lk uB (lk
      ofF a b c) (lk ofB a b c) (lk ofC a b c)) * (U.add .i64 (U.quo .i64 (U.sub .i64 (U.mm true (lk sLast (lk uF (lk ofF a b c) (lk ofB a b c) (lk ofC a b c)) (lk uB (lk ofF a b c) (lk
      ofB a b c) (lk ofC a b c)) (lk ofC a b c)) (lk sLast (lk uF (lk ofF x y z) (lk ofB x y z) (lk ofC x y z)) (lk uB (lk ofF x y z) (lk ofB x y z) (lk ofC x y z)) (lk ofC x y z))) (U.mm
      false (lk uF (lk ofF a b c) (lk ofB a b c) (lk ofC a b c)) (lk uF (lk ofF x y z) (lk ofB x y z) (lk ofC x y z)))) (lk euG (U.mm true (U.sub .i64 (lk uF (lk ofF a b c) (lk ofB a b c)
      (lk ofC a b c)) (lk uF (lk ofF x y z) (lk ofB x y z) (lk ofC x y z))) (U.sub .i64 (lk uF (lk ofF x y z) (lk ofB x y z) (lk ofC x y z)) (lk uF (lk ofF a b c) (lk ofB a b c) (lk ofC a
      b c)))) (lk uB (lk ofF a b c) (lk ofB a b c) (lk ofC a b c)))) (1 : Int) - (1 : Int))) ∧ I64 (U.mm false (lk uF (lk ofF a b c) (lk ofB a b c) (lk ofC a b c)) (lk uF (lk ofF x y z)
      (lk ofB x y z) (lk ofC x y z)) + lk euG (U.mm true (U.sub .i64 (lk uF (lk ofF a b c) (lk ofB a b c) (lk ofC a b c)) (lk uF (lk ofF x y z) (lk ofB x y z) (lk ofC x y z))) (U.sub .i64
      (lk uF (lk ofF x y z) (lk ofB x y z) (lk ofC x y z)) (lk uF (lk ofF a b c) (lk ofB a b c) (lk ofC a b c)))) (lk uB (lk ofF a b c) (lk ofB a b c) (lk ofC a b c)) * (U.add .i64 (U.quo
      .i64 (U.sub .i64 (U.mm true (lk sLast (lk uF (lk ofF a b c) (lk ofB a b c) (lk ofC a b c)) (lk uB (lk ofF a b c) (lk ofB a b c) (lk ofC a b c)) (lk ofC a b c)) (lk sLast (lk uF (lk
      ofF x y z) (lk ofB x y z) (lk ofC x y z)) (lk uB (lk ofF x y z) (lk ofB x y z) (lk ofC x y z)) (lk ofC x y z))) (U.mm false (lk uF (lk ofF a b c) (lk ofB a b c) (lk ofC a b c)) (lk
      uF (lk ofF x y z) (lk ofB x y z) (lk ofC x y z)))) (lk euG (U.mm true (U.sub .i64 (lk uF (lk ofF a b c) (lk ofB a b c) (lk ofC a b c)) (lk uF (lk ofF x y z) (lk ofB x y z) (lk ofC x
      y z))) (U.sub .i64 (lk uF (lk ofF x y z) (lk ofB x y z) (lk ofC x y z)) (lk uF (lk ofF a b c) (lk ofB a b c) (lk ofC a b c)))) (lk uB (lk ofF a b c) (lk ofB a b c) (lk ofC a b c))))
      (1 : Int) - (1 : Int)))) (.ret (.tup [.agg [.lit (.int .i64 (lk nLow (U.mm false (lk uF (lk ofF a b c) (lk ofB a b c) (lk ofC a b c)) (lk uF (lk ofF x y z) (lk ofB x y z) (lk ofC x
      y z))) (lk euG (U.mm true (U.sub .i64 (lk uF (lk ofF a b c) (lk ofB a b c) (lk ofC a b c)) (lk uF (lk ofF x y z) (lk ofB x y z) (lk ofC x y z))) (U.sub .i64 (lk uF (lk ofF x y z)
      (lk ofB x y z) (lk ofC x y z)) (lk uF (lk ofF a b c) (lk ofB a b c) (lk ofC a b c)))) (lk uB (lk ofF a b c) (lk ofB a b c) (lk ofC a b c))) (U.add .i64 (U.quo .i64 (U.sub .i64 (U.mm
      true (lk sLast (lk uF (lk ofF a b c) (lk ofB a b c) (lk ofC a b c)) (lk uB (lk ofF a b c) (lk ofB a b c) (lk ofC a b c)) (lk ofC a b c)) (lk sLast (lk uF (lk ofF x y z) (lk ofB x y
      z) (lk ofC x y z)) (lk uB (lk ofF x y z) (lk ofB x y z) (lk ofC x y z)) (lk ofC x y z))) (U.mm false (lk uF (lk ofF a b c) (lk ofB a b c) (lk ofC a b c)) (lk uF (lk ofF x y z) (lk
      ofB x y z) (lk ofC x y z)))) (lk euG (U.mm true (U.sub .i64 (lk uF (lk ofF a b c) (lk ofB a b c) (lk ofC a b c)) (lk uF (lk ofF x y z) (lk ofB x y z) (lk ofC x y z))) (U.sub .i64
      (lk uF (lk ofF x y z) (lk ofB x y z) (lk ofC x y z)) (lk uF (lk ofF a b c) (lk ofB a b c) (lk ofC a b c)))) (lk uB (lk ofF a b c) (lk ofB a b c) (lk ofC a b c)))) (1 : Int)))), .lit
      (.int .i64 (lk nHigh (U.mm false (lk uF (lk ofF a b c) (lk ofB a b c) (lk ofC a b c)) (lk uF (lk ofF x y z) (lk ofB x y z) (lk ofC x y z))) (lk euG (U.mm true (U.sub .i64 (lk uF (lk
      ofF a b c) (lk ofB a b c) (lk ofC a b c)) (lk uF (lk ofF x y z) (lk ofB x y z) (lk ofC x y z))) (U.sub .i64 (lk uF (lk ofF x y z) (lk ofB x y z) (lk ofC x y z)) (lk uF (lk ofF a b
      c) (lk ofB a b c) (lk ofC a b c)))) (lk uB (lk ofF a b c) (lk ofB a b c) (lk ofC a b c))) (U.add .i64 (U.quo .i64 (U.sub .i64 (U.mm true (lk sLast (lk uF (lk ofF a b c) (lk ofB a b
      c) (lk ofC a b c)) (lk uB (lk ofF a b c) (lk ofB a b c) (lk ofC a b c)) (lk ofC a b c)) (lk sLast (lk uF (lk ofF x y z) (lk ofB x y z) (lk ofC x y z)) (lk uB (lk ofF x y z) (lk ofB
      x y z) (lk ofC x y z)) (lk ofC x y z))) (U.mm false (lk uF (lk ofF a b c) (lk ofB a b c) (lk ofC a b c)) (lk uF (lk ofF x y z) (lk ofB x y z) (lk ofC x y z)))) (lk euG (U.mm true
      (U.sub .i64 (lk uF (lk ofF a b c) (lk ofB a b c) (lk ofC a b c)) (lk uF (lk ofF x y z) (lk ofB x y z) (lk ofC x y z))) (U.sub .i64 (lk uF (lk ofF x y z) (lk ofB x y z) (lk ofC x y
      z)) (lk uF (lk ofF a b c) (lk ofB a b c) (lk ofC a b c)))) (lk uB (lk ofF a b c) (lk ofB a b c) (lk ofC a b c)))) (1 : Int)))), .lit (.int .i64 (lk nStr (U.mm false (lk uF (lk ofF a
      b c) (lk ofB a b c) (lk ofC a b c)) (lk uF (lk ofF x y z) (lk ofB x y z) (lk ofC x y z))) (lk euG (U.mm true (U.sub .i64 (lk uF (lk ofF a b c) (lk ofB a b c) (lk ofC a b c)) (lk uF
      (lk ofF x y z) (lk ofB x y z) (lk ofC x y z))) (U.sub .i64 (lk uF (lk ofF x y z) (lk ofB x y z) (lk ofC x y z)) (lk uF (lk ofF a b c) (lk ofB a b c) (lk ofC a b c)))) (lk uB (lk ofF
      a b c) (lk ofB a b c) (lk ofC a b c))) (U.add .i64 (U.quo .i64 (U.sub .i64 (U.mm true (lk sLast (lk uF (lk ofF a b c) (lk ofB a b c) (lk ofC a b c)) (lk uB (lk ofF a b c) (lk ofB a
      b c) (lk ofC a b c)) (lk ofC a b c)) (lk sLast (lk uF (lk ofF x y z) (lk ofB x y z) (lk ofC x y z)) (lk uB (lk ofF x y z) (lk ofB x y z) (lk ofC x y z)) (lk ofC x y z))) (U.mm false
      (lk uF (lk ofF a b c) (lk ofB a b c) (lk ofC a b c)) (lk uF (lk ofF x y z) (lk ofB x y z) (lk ofC x y z)))) (lk euG (U.mm true (U.sub .i64 (lk uF (lk ofF a b c) (lk ofB a b c) (lk
      ofC a b c)) (lk uF (lk ofF x y z) (lk ofB x y z) (lk ofC x y z))) (U.sub .i64 (lk uF (lk ofF x y z) (lk ofB x y z) (lk ofC x y z)) (lk uF (lk ofF a b c) (lk ofB a b c) (lk ofC a b
      c)))) (lk uB (lk ofF a b c) (lk ofB a b c) (lk ofC a b c)))) (1 : Int))))], .lit (.int .i64 (lk nErr (U.mm false (lk uF (lk ofF a b c) (lk ofB a b c) (lk ofC a b c)) (lk uF (lk ofF
      x y z) (lk ofB x y z) (lk ofC x y z))) (lk euG (U.mm true (U.sub .i64 (lk uF (lk ofF a b c) (lk ofB a b c) (lk ofC a b c)) (lk uF (lk ofF x y z) (lk ofB x y z) (lk ofC x y z)))
      (U.sub .i64 (lk uF (lk ofF x y z) (lk ofB x y z) (lk ofC x y z)) (lk uF (lk ofF a b c) (lk ofB a b c) (lk ofC a b c)))) (lk uB (lk ofF a b c) (lk ofB a b c) (lk ofC a b c))) (U.add
      .i64 (U.quo .i64 (U.sub .i64 (U.mm true (lk sLast (lk uF (lk ofF a b c) (lk ofB a b c) (lk ofC a b c)) (lk uB (lk ofF a b c) (lk ofB a b c) (lk ofC a b c)) (lk ofC a b c)) (lk sLast
      (lk uF (lk ofF x y z) (lk ofB x y z) (lk ofC x y z)) (lk uB (lk ofF x y z) (lk ofB x y z) (lk ofC x y z)) (lk ofC x y z))) (U.mm false (lk uF (lk ofF a b c) (lk ofB a b c) (lk ofC a
      b c)) (lk uF (lk ofF x y z) (lk ofB x y z) (lk ofC x y z)))) (lk euG (U.mm true (U.sub .i64 (lk uF (lk ofF a b c) (lk ofB a b c) (lk ofC a b c)) (lk uF (lk ofF x y z) (lk ofB x y z)
      (lk ofC x y z))) (U.sub .i64 (lk uF (lk ofF x y z) (lk ofB x y z) (lk ofC x y z)) (lk uF (lk ofF a b c) (lk ofB a b c) (lk ofC a b c)))) (lk uB (lk ofF a b c) (lk ofB a b c) (lk ofC
      a b c)))) (1 : Int))))]))))))) (.br (U.gt (lk ofC x y z) (1 : Int)) (.ask ((0 : Int) ≤ U.mm true (U.sub .i64 (lk uF (lk ofF a b c) (lk ofB a b c) (lk ofC a b c)) (lk uF (lk ofF x y
      z) (lk ofB x y z) (lk ofC x y z))) (U.sub .i64 (lk uF (lk ofF x y z) (lk ofB x y z) (lk ofC x y z)) (lk uF (lk ofF a b c) (lk ofB a b c) (lk ofC a b c))) ∧ U.mm true (U.sub .i64 (lk
      uF (lk ofF a b c) (lk ofB a b c) (lk ofC a b c)) (lk uF (lk ofF x y z) (lk ofB x y z) (lk ofC x y z))) (U.sub .i64 (lk uF (lk ofF x y z) (lk ofB x y z) (lk ofC x y z)) (lk uF (lk
      ofF a b c) (lk ofB a b c) (lk ofC a b c))) ≤ (4000000 : Int) ∧ (0 : Int) ≤ lk uB (lk ofF x y z) (lk ofB x y z) (lk ofC x y z) ∧ lk uB (lk ofF x y z) (lk ofB x y z) (lk ofC x y z) ≤
      (4000000 : Int)) (.br (U.eq (lk euG (U.mm true (U.sub .i64 (lk uF (lk ofF a b c) (lk ofB a b c) (lk ofC a b c)) (lk uF (lk ofF x y z) (lk ofB x y z) (lk ofC x y z))) (U.sub .i64 (lk
      uF (lk ofF x y z) (lk ofB x y z) (lk ofC x y z)) (lk uF (lk ofF a b c) (lk ofB a b c) (lk ofC a b c)))) (lk uB (lk ofF x y z) (lk ofB x y z) (lk ofC x y z))) (0 : Int)) (.ask ((0 :
      Int) < (1 : Int) → I64 ((1 : Int) - (1 : Int)) ∧ I64 ((1 : Int) * ((1 : Int) - (1 : Int))) ∧ I64 (U.mm false (lk uF (lk ofF a b c) (lk ofB a b c) (lk ofC a b c)) (lk uF (lk ofF x y
      z) (lk ofB x y z) (lk ofC x y z)) + (1 : Int) * ((1 : Int) - (1 : Int)))) (.ret (.tup [.agg [.lit (.int .i64 (lk nLow (U.mm false (lk uF (lk ofF a b c) (lk ofB a b c) (lk ofC a b
      c)) (lk uF (lk ofF x y z) (lk ofB x y z) (lk ofC x y z))) (1 : Int) (1 : Int))), .lit (.int .i64 (lk nHigh (U.mm false (lk uF (lk ofF a b c) (lk ofB a b c) (lk ofC a b c)) (lk uF
      (lk ofF x y z) (lk ofB x y z) (lk ofC x y z))) (1 : Int) (1 : Int))), .lit (.int .i64 (lk nStr (U.mm false (lk uF (lk ofF a b c) (lk ofB a b c) (lk ofC a b c)) (lk uF (lk ofF x y z)
      (lk ofB x y z) (lk ofC x y z))) (1 : Int) (1 : Int)))], .lit (.int .i64 (lk nErr (U.mm false (lk uF (lk ofF a b c) (lk ofB a b c) (lk ofC a b c)) (lk uF (lk ofF x y z) (lk ofB x y
      z) (lk ofC x y z))) (1 : Int) (1 : Int)))]))) (.ask (lk euG (U.mm true (U.sub .i64 (lk uF (lk ofF a b c) (lk ofB a b c) (lk ofC a b c)) (lk uF (lk ofF x y z) (lk ofB x y z) (lk ofC
      x y z))) (U.sub .i64 (lk uF (lk ofF x y z) (lk ofB x y z) (lk ofC x y z)) (lk uF (lk ofF a b c) (lk ofB a b c) (lk ofC a b c)))) (lk uB (lk ofF x y z) (lk ofB x y z) (lk ofC x y z))
      ≠ (0 : Int)) (.ask ((0 : Int) < U.add .i64 (U.quo .i64 (U.sub .i64 (U.mm true (lk sLast (lk uF (lk ofF a b c) (lk ofB a b c) (lk ofC a b c)) (lk uB (lk ofF a b c) (lk ofB a b c) (lk
      ofC a b c)) (lk ofC a b c)) (lk sLast (lk uF (lk ofF x y z) (lk ofB x y z) (lk ofC x y z)) (lk uB (lk ofF x y z) (lk ofB x y z) (lk ofC x y z)) (lk ofC x y z))) (U.mm false (lk uF
      (lk ofF a b c) (lk ofB a b c) (lk ofC a b c)) (lk uF (lk ofF x y z) (lk ofB x y z) (lk ofC x y z)))) (lk euG (U.mm true (U.sub .i64 (lk uF (lk ofF a b c) (lk ofB a b c) (lk ofC a b
      c)) (lk uF (lk ofF x y z) (lk ofB x y z) (lk ofC x y z))) (U.sub .i64 (lk uF (lk ofF x y z) (lk ofB x y z) (lk ofC x y z)) (lk uF (lk ofF a b c) (lk ofB a b c) (lk ofC a b c)))) (lk
      uB (lk ofF x y z) (lk ofB x y z) (lk ofC x y z)))) (1 : Int) → I64 (U.add .i64 (U.quo .i64 (U.sub .i64 (U.mm true (lk sLast (lk uF (lk ofF a b c) (lk ofB a b c) (lk ofC a b c)) (lk
      uB (lk ofF a b c) (lk ofB a b c) (lk ofC a b c)) (lk ofC a b c)) (lk sLast (lk uF (lk ofF x y z) (lk ofB x y z) (lk ofC x y z)) (lk uB (lk ofF x y z) (lk ofB x y z) (lk ofC x y z))
      (lk ofC x y z))) (U.mm false (lk uF (lk ofF a b c) (lk ofB a b c) (lk ofC a b c)) (lk uF (lk ofF x y z) (lk ofB x y z) (lk ofC x y z)))) (lk euG (U.mm true (U.sub .i64 (lk uF (lk
      ofF a b c) (lk ofB a b c) (lk ofC a b c)) (lk uF (lk ofF x y z) (lk ofB x y z) (lk ofC x y z))) (U.sub .i64 (lk uF (lk ofF x y z) (lk ofB x y z) (lk ofC x y z)) (lk uF (lk ofF a b
      c) (lk ofB a b c) (lk ofC a b c)))) (lk uB (lk ofF x y z) (lk ofB x y z) (lk ofC x y z)))) (1 : Int) - (1 : Int)) ∧ I64 (lk euG (U.mm true (U.sub .i64 (lk uF (lk ofF a b c) (lk ofB
      a b c) (lk ofC a b c)) (lk uF (lk ofF x y z) (lk ofB x y z) (lk ofC x y z))) (U.sub .i64 (lk uF (lk ofF x y z) (lk ofB x y z) (lk ofC x y z)) (lk uF (lk ofF a b c) (lk ofB a b c)
      (lk ofC a b c)))) (lk uB (lk ofF x y z) (lk ofB x y z) (lk ofC x y z)) * (U.add .i64 (U.quo .i64 (U.sub .i64 (U.mm true (lk sLast (lk uF (lk ofF a b c) (lk ofB a b c) (lk ofC a b
      c)) (lk uB (lk ofF a b c) (lk ofB a b c) (lk ofC a b c)) (lk ofC a b c)) (lk sLast (lk uF (lk ofF x y z) (lk ofB x y z) (lk ofC x y z)) (lk uB (lk ofF x y z) (lk ofB x y z) (lk ofC
      x y z)) (lk ofC x y z))) (U.mm false (lk uF (lk ofF a b c) (lk ofB a b c) (lk ofC a b c)) (lk uF (lk ofF x y z) (lk ofB x y z) (lk ofC x y z)))) (lk euG (U.mm true (U.sub .i64 (lk
      uF (lk ofF a b c) (lk ofB a b c) (lk ofC a b c)) (lk uF (lk ofF x y z) (lk ofB x y z) (lk ofC x y z))) (U.sub .i64 (lk uF (lk ofF x y z) (lk ofB x y z) (lk ofC x y z)) (lk uF (lk
      ofF a b c) (lk ofB a b c) (lk ofC a b c)))) (lk uB (lk ofF x y z) (lk ofB x y z) (lk ofC x y z)))) (1 : Int) - (1 : Int))) ∧ I64 (U.mm false (lk uF (lk ofF a b c) (lk ofB a b c) (lk
      ofC a b c)) (lk uF (lk ofF x y z) (lk ofB x y z) (lk ofC x y z)) + lk euG (U.mm true (U.sub .i64 (lk uF (lk ofF a b c) (lk ofB a b c) (lk ofC a b c)) (lk uF (lk ofF x y z) (lk ofB x
      y z) (lk ofC x y z))) (U.sub .i64 (lk uF (lk ofF x y z) (lk ofB x y z) (lk ofC x y z)) (lk uF (lk ofF a b c) (lk ofB a b c) (lk ofC a b c)))) (lk uB (lk ofF x y z) (lk ofB x y z)
      (lk ofC x y z)) * (U.add .i64 (U.quo .i64 (U.sub .i64 (U.mm true (lk sLast (lk uF (lk ofF a b c) (lk ofB a b c) (lk ofC a b c)) (lk uB (lk ofF a b c) (lk ofB a b c) (lk ofC a b c))
      (lk ofC a b c)) (lk sLast (lk uF (lk ofF x y z) (lk ofB x y z) (lk ofC x y z)) (lk uB (lk ofF x y z) (lk ofB x y z) (lk ofC x y z)) (lk ofC x y z))) (U.mm false (lk uF (lk ofF a b
      c) (lk ofB a b c) (lk ofC a b c)) (lk uF (lk ofF x y z) (lk ofB x y z) (lk ofC x y z)))) (lk euG (U.mm true (U.sub .i64 (lk uF (lk ofF a b c) (lk ofB a b c) (lk ofC a b c)) (lk uF
      (lk ofF x y z) (lk ofB x y z) (lk ofC x y z))) (U.sub .i64 (lk uF (lk ofF x y z) (lk ofB x y z) (lk ofC x y z)) (lk uF (lk ofF a b c) (lk ofB a b c) (lk ofC a b c)))) (lk uB (lk ofF
      x y z) (lk ofB x y z) (lk ofC x y z)))) (1 : Int) - (1 : Int)))) (.ret (.tup [.agg [.lit (.int .i64 (lk nLow (U.mm false (lk uF (lk ofF a b c) (lk ofB a b c) (lk ofC a b c)) (lk uF
      (lk ofF x y z) (lk ofB x y z) (lk ofC x y z))) (lk euG (U.mm true (U.sub .i64 (lk uF (lk ofF a b c) (lk ofB a b c) (lk ofC a b c)) (lk uF (lk ofF x y z) (lk ofB x y z) (lk ofC x y
      z))) (U.sub .i64 (lk uF (lk ofF x y z) (lk ofB x y z) (lk ofC x y z)) (lk uF (lk ofF a b c) (lk ofB a b c) (lk ofC a b c)))) (lk uB (lk ofF x y z) (lk ofB x y z) (lk ofC x y z)))
      (U.add .i64 (U.quo .i64 (U.sub .i64 (U.mm true (lk sLast (lk uF (lk ofF a b c) (lk ofB a b c) (lk ofC a b c)) (lk uB (lk ofF a b c) (lk ofB a b c) (lk ofC a b c)) (lk ofC a b c))
      (lk sLast (lk uF (lk ofF x y z) (lk ofB x y z) (lk ofC x y z)) (lk uB (lk ofF x y z) (lk ofB x y z) (lk ofC x y z)) (lk ofC x y z))) (U.mm false (lk uF (lk ofF a b c) (lk ofB a b c)
      (lk ofC a b c)) (lk uF (lk ofF x y z) (lk ofB x y z) (lk ofC x y z)))) (lk euG (U.mm true (U.sub .i64 (lk uF (lk ofF a b c) (lk ofB a b c) (lk ofC a b c)) (lk uF (lk ofF x y z) (lk
      ofB x y z) (lk ofC x y z))) (U.sub .i64 (lk uF (lk ofF x y z) (lk ofB x y z) (lk ofC x y z)) (lk uF (lk ofF a b c) (lk ofB a b c) (lk ofC a b c)))) (lk uB (lk ofF x y z) (lk ofB x y
      z) (lk ofC x y z)))) (1 : Int)))), .lit (.int .i64 (lk nHigh (U.mm false (lk uF (lk ofF a b c) (lk ofB a b c) (lk ofC a b c)) (lk uF (lk ofF x y z) (lk ofB x y z) (lk ofC x y z)))
      (lk euG (U.mm true (U.sub .i64 (lk uF (lk ofF a b c) (lk ofB a b c) (lk ofC a b c)) (lk uF (lk ofF x y z) (lk ofB x y z) (lk ofC x y z))) (U.sub .i64 (lk uF (lk ofF x y z) (lk ofB x
      y z) (lk ofC x y z)) (lk uF (lk ofF a b c) (lk ofB a b c) (lk ofC a b c)))) (lk uB (lk ofF x y z) (lk ofB x y z) (lk ofC x y z))) (U.add .i64 (U.quo .i64 (U.sub .i64 (U.mm true (lk
      sLast (lk uF (lk ofF a b c) (lk ofB a b c) (lk ofC a b c)) (lk uB (lk ofF a b c) (lk ofB a b c) (lk ofC a b c)) (lk ofC a b c)) (lk sLast (lk uF (lk ofF x y z) (lk ofB x y z) (lk
      ofC x y z)) (lk uB (lk ofF x y z) (lk ofB x y z) (lk ofC x y z)) (lk ofC x y z))) (U.mm false (lk uF (lk ofF a b c) (lk ofB a b c) (lk ofC a b c)) (lk uF (lk ofF x y z) (lk ofB x y
      z) (lk ofC x y z)))) (lk euG (U.mm true (U.sub .i64 (lk uF (lk ofF a b c) (lk ofB a b c) (lk ofC a b c)) (lk uF (lk ofF x y z) (lk ofB x y z) (lk ofC x y z))) (U.sub .i64 (lk uF (lk
      ofF x y z) (lk ofB x y z) (lk ofC x y z)) (lk uF (lk ofF a b c) (lk ofB a b c) (lk ofC a b c)))) (lk uB (lk ofF x y z) (lk ofB x y z) (lk ofC x y z)))) (1 : Int)))), .lit (.int .i64
      (lk nStr (U.mm false (lk uF (lk ofF a b c) (lk ofB a b c) (lk ofC a b c)) (lk uF (lk ofF x y z) (lk ofB x y z) (lk ofC x y z))) (lk euG (U.mm true (U.sub .i64 (lk uF (lk ofF a b c)
      (lk ofB a b c) (lk ofC a b c)) (lk uF (lk ofF x y z) (lk ofB x y z) (lk ofC x y z))) (U.sub .i64 (lk uF (lk ofF x y z) (lk ofB x y z) (lk ofC x y z)) (lk uF (lk ofF a b c) (lk ofB a
      b c) (lk ofC a b c)))) (lk uB (lk ofF x y z) (lk ofB x y z) (lk ofC x y z))) (U.add .i64 (U.quo .i64 (U.sub .i64 (U.mm true (lk sLast (lk uF (lk ofF a b c) (lk ofB a b c) (lk ofC a
      b c)) (lk uB (lk ofF a b c) (lk ofB a b c) (lk ofC a b c)) (lk ofC a b c)) (lk sLast (lk uF (lk ofF x y z) (lk ofB x y z) (lk ofC x y z)) (lk uB (lk ofF x y z) (lk ofB x y z) (lk
      ofC x y z)) (lk ofC x y z))) (U.mm false (lk uF (lk ofF a b c) (lk ofB a b c) (lk ofC a b c)) (lk uF (lk ofF x y z) (lk ofB x y z) (lk ofC x y z)))) (lk euG (U.mm true (U.sub .i64
      (lk uF (lk ofF a b c) (lk ofB a b c) (lk ofC a b c)) (lk uF (lk ofF x y z) (lk ofB x y z) (lk ofC x y z))) (U.sub .i64 (lk uF (lk ofF x y z) (lk ofB x y z) (lk ofC x y z)) (lk uF
      (lk ofF a b c) (lk ofB a b c) (lk ofC a b c)))) (lk uB (lk ofF x y z) (lk ofB x y z) (lk ofC x y z)))) (1 : Int))))], .lit (.int .i64 (lk nErr (U.mm false (lk uF (lk ofF a b c) (lk
      ofB a b c) (lk ofC a b c)) (lk uF (lk ofF x y z) (lk ofB x y z) (lk ofC x y z))) (lk euG (U.mm true (U.sub .i64 (lk uF (lk ofF a b c) (lk ofB a b c) (lk ofC a b c)) (lk uF (lk ofF x
      y z) (lk ofB x y z) (lk ofC x y z))) (U.sub .i64 (lk uF (lk ofF x y z) (lk ofB x y z) (lk ofC x y z)) (lk uF (lk ofF a b c) (lk ofB a b c) (lk ofC a b c)))) (lk uB (lk ofF x y z)
      (lk ofB x y z) (lk ofC x y z))) (U.add .i64 (U.quo .i64 (U.sub .i64 (U.mm true (lk sLast (lk uF (lk ofF a b c) (lk ofB a b c) (lk ofC a b c)) (lk uB (lk ofF a b c) (lk ofB a b c)
      (lk ofC a b c)) (lk ofC a b c)) (lk sLast (lk uF (lk ofF x y z) (lk ofB x y z) (lk ofC x y z)) (lk uB (lk ofF x y z) (lk ofB x y z) (lk ofC x y z)) (lk ofC x y z))) (U.mm false (lk
      uF (lk ofF a b c) (lk ofB a b c) (lk ofC a b c)) (lk uF (lk ofF x y z) (lk ofB x y z) (lk ofC x y z)))) (lk euG (U.mm true (U.sub .i64 (lk uF (lk ofF a b c) (lk ofB a b c) (lk ofC a
      b c)) (lk uF (lk ofF x y z) (lk ofB x y z) (lk ofC x y z))) (U.sub .i64 (lk uF (lk ofF x y z) (lk ofB x y z) (lk ofC x y z)) (lk uF (lk ofF a b c) (lk ofB a b c) (lk ofC a b c))))
      (lk uB (lk ofF x y z) (lk ofB x y z) (lk ofC x y z)))) (1 : Int))))])))))) (.br (U.eq (U.mm true (U.sub .i64 (lk uF (lk ofF a b c) (lk ofB a b c) (lk ofC a b c)) (lk uF (lk ofF x y
      z) (lk ofB x y z) (lk ofC x y z))) (U.sub .i64 (lk uF (lk ofF x y z) (lk ofB x y z) (lk ofC x y z)) (lk uF (lk ofF a b c) (lk ofB a b c) (lk ofC a b c)))) (0 : Int)) (.ask ((0 :
      Int) < (1 : Int) → I64 ((1 : Int) - (1 : Int)) ∧ I64 ((1 : Int) * ((1 : Int) - (1 : Int))) ∧ I64 (U.mm false (lk uF (lk ofF a b c) (lk ofB a b c) (lk ofC a b c)) (lk uF (lk ofF x y
      z) (lk ofB x y z) (lk ofC x y z)) + (1 : Int) * ((1 : Int) - (1 : Int)))) (.ret (.tup [.agg [.lit (.int .i64 (lk nLow (U.mm false (lk uF (lk ofF a b c) (lk ofB a b c) (lk ofC a b
      c)) (lk uF (lk ofF x y z) (lk ofB x y z) (lk ofC x y z))) (1 : Int) (1 : Int))), .lit (.int .i64 (lk nHigh (U.mm false (lk uF (lk ofF a b c) (lk ofB a b c) (lk ofC a b c)) (lk uF
      (lk ofF x y z) (lk ofB x y z) (lk ofC x y z))) (1 : Int) (1 : Int))), .lit (.int .i64 (lk nStr (U.mm false (lk uF (lk ofF a b c) (lk ofB a b c) (lk ofC a b c)) (lk uF (lk ofF x y z)
      (lk ofB x y z) (lk ofC x y z))) (1 : Int) (1 : Int)))], .lit (.int .i64 (lk nErr (U.mm false (lk uF (lk ofF a b c) (lk ofB a b c) (lk ofC a b c)) (lk uF (lk ofF x y z) (lk ofB x y
      z) (lk ofC x y z))) (1 : Int) (1 : Int)))]))) (.ask (U.mm true (U.sub .i64 (lk uF (lk ofF a b c) (lk ofB a b c) (lk ofC a b c)) (lk uF (lk ofF x y z) (lk ofB x y z) (lk ofC x y z)))
      (U.sub .i64 (lk uF (lk ofF x y z) (lk ofB x y z) (lk ofC x y z)) (lk uF (lk ofF a b c) (lk ofB a b c) (lk ofC a b c))) ≠ (0 : Int)) (.ask ((0 : Int) < U.add .i64 (U.quo .i64 (U.sub
      .i64 (U.mm true (lk sLast (lk uF (lk ofF a b c) (lk ofB a b c) (lk ofC a b c)) (lk uB (lk ofF a b c) (lk ofB a b c) (lk ofC a b c)) (lk ofC a b c)) (lk sLast (lk uF (lk ofF x y z)
      (lk ofB x y z) (lk ofC x y z)) (lk uB (lk ofF x y z) (lk ofB x y z) (lk ofC x y z)) (lk ofC x y z))) (U.mm false (lk uF (lk ofF a b c) (lk ofB a b c) (lk ofC a b c)) (lk uF (lk ofF
      x y z) (lk ofB x y z) (lk ofC x y z)))) (U.mm true (U.sub .i64 (lk uF (lk ofF a b c) (lk ofB a b c) (lk ofC a b c)) (lk uF (lk ofF x y z) (lk ofB x y z) (lk ofC x y z))) (U.sub .i64
      (lk uF (lk ofF x y z) (lk ofB x y z) (lk ofC x y z)) (lk uF (lk ofF a b c) (lk ofB a b c) (lk ofC a b c))))) (1 : Int) → I64 (U.add .i64 (U.quo .i64 (U.sub .i64 (U.mm true (lk sLast
      (lk uF (lk ofF a b c) (lk ofB a b c) (lk ofC a b c)) (lk uB (lk ofF a b c) (lk ofB a b c) (lk ofC a b c)) (lk ofC a b c)) (lk sLast (lk uF (lk ofF x y z) (lk ofB x y z) (lk ofC x y
      z)) (lk uB (lk ofF x y z) (lk ofB x y z) (lk ofC x y z)) (lk ofC x y z))) (U.mm false (lk uF (lk ofF a b c) (lk ofB a b c) (lk ofC a b c)) (lk uF (lk ofF x y z) (lk ofB x y z) (lk
      ofC x y z)))) (U.mm true (U.sub .i64 (lk uF (lk ofF a b c) (lk ofB a b c) (lk ofC a b c)) (lk uF (lk ofF x y z) (lk ofB x y z) (lk ofC x y z))) (U.sub .i64 (lk uF (lk ofF x y z) (lk
      ofB x y z) (lk ofC x y z)) (lk uF (lk ofF a b c) (lk ofB a b c) (lk ofC a b c))))) (1 : Int) - (1 : Int)) ∧ I64 (U.mm true (U.sub .i64 (lk uF (lk ofF a b c) (lk ofB a b c) (lk ofC a
      b c)) (lk uF (lk ofF x y z) (lk ofB x y z) (lk ofC x y z))) (U.sub .i64 (lk uF (lk ofF x y z) (lk ofB x y z) (lk ofC x y z)) (lk uF (lk ofF a b c) (lk ofB a b c) (lk ofC a b c))) *
      (U.add .i64 (U.quo .i64 (U.sub .i64 (U.mm true (lk sLast (lk uF (lk ofF a b c) (lk ofB a b c) (lk ofC a b c)) (lk uB (lk ofF a b c) (lk ofB a b c) (lk ofC a b c)) (lk ofC a b c))
      (lk sLast (lk uF (lk ofF x y z) (lk ofB x y z) (lk ofC x y z)) (lk uB (lk ofF x y z) (lk ofB x y z) (lk ofC x y z)) (lk ofC x y z))) (U.mm false (lk uF (lk ofF a b c) (lk ofB a b c)
      (lk ofC a b c)) (lk uF (lk ofF x y z) (lk ofB x y z) (lk ofC x y z)))) (U.mm true (U.sub .i64 (lk uF (lk ofF a b c) (lk ofB a b c) (lk ofC a b c)) (lk uF (lk ofF x y z) (lk ofB x y
      z) (lk ofC x y z))) (U.sub .i64 (lk uF (lk ofF x y z) (lk ofB x y z) (lk ofC x y z)) (lk uF (lk ofF a b c) (lk ofB a b c) (lk ofC a b c))))) (1 : Int) - (1 : Int))) ∧ I64 (U.mm
      false (lk uF (lk ofF a b c) (lk ofB a b c) (lk ofC a b c)) (lk uF (lk ofF x y z) (lk ofB x y z) (lk ofC x y z)) + U.mm true (U.sub .i64 (lk uF (lk ofF a b c) (lk ofB a b c) (lk ofC
      a b c)) (lk uF (lk ofF x y z) (lk ofB x y z) (lk ofC x y z))) (U.sub .i64 (lk uF (lk ofF x y z) (lk ofB x y z) (lk ofC x y z)) (lk uF (lk ofF a b c) (lk ofB a b c) (lk ofC a b c)))
      * (U.add .i64 (U.quo .i64 (U.sub .i64 (U.mm true (lk sLast (lk uF (lk ofF a b c) (lk ofB a b c) (lk ofC a b c)) (lk uB (lk ofF a b c) (lk ofB a b c) (lk ofC a b c)) (lk ofC a b c))
      (lk sLast (lk uF (lk ofF x y z) (lk ofB x y z) (lk ofC x y z)) (lk uB (lk ofF x y z) (lk ofB x y z) (lk ofC x y z)) (lk ofC x y z))) (U.mm false (lk uF (lk ofF a b c) (lk ofB a b c)
      (lk ofC a b c)) (lk uF (lk ofF x y z) (lk ofB x y z) (lk ofC x y z)))) (U.mm true (U.sub .i64 (lk uF (lk ofF a b c) (lk ofB a b c) (lk ofC a b c)) (lk uF (lk ofF x y z) (lk ofB x y
      z) (lk ofC x y z))) (U.sub .i64 (lk uF (lk ofF x y z) (lk ofB x y z) (lk ofC x y z)) (lk uF (lk ofF a b c) (lk ofB a b c) (lk ofC a b c))))) (1 : Int) - (1 : Int)))) (.ret (.tup
      [.agg [.lit (.int .i64 (lk nLow (U.mm false (lk uF (lk ofF a b c) (lk ofB a b c) (lk ofC a b c)) (lk uF (lk ofF x y z) (lk ofB x y z) (lk ofC x y z))) (U.mm true (U.sub .i64 (lk uF
      (lk ofF a b c) (lk ofB a b c) (lk ofC a b c)) (lk uF (lk ofF x y z) (lk ofB x y z) (lk ofC x y z))) (U.sub .i64 (lk uF (lk ofF x y z) (lk ofB x y z) (lk ofC x y z)) (lk uF (lk ofF a
      b c) (lk ofB a b c) (lk ofC a b c)))) (U.add .i64 (U.quo .i64 (U.sub .i64 (U.mm true (lk sLast (lk uF (lk ofF a b c) (lk ofB a b c) (lk ofC a b c)) (lk uB (lk ofF a b c) (lk ofB a b
      c) (lk ofC a b c)) (lk ofC a b c)) (lk sLast (lk uF (lk ofF x y z) (lk ofB x y z) (lk ofC x y z)) (lk uB (lk ofF x y z) (lk ofB x y z) (lk ofC x y z)) (lk ofC x y z))) (U.mm false
      (lk uF (lk ofF a b c) (lk ofB a b c) (lk ofC a b c)) (lk uF (lk ofF x y z) (lk ofB x y z) (lk ofC x y z)))) (U.mm true (U.sub .i64 (lk uF (lk ofF a b c) (lk ofB a b c) (lk ofC a b
      c)) (lk uF (lk ofF x y z) (lk ofB x y z) (lk ofC x y z))) (U.sub .i64 (lk uF (lk ofF x y z) (lk ofB x y z) (lk ofC x y z)) (lk uF (lk ofF a b c) (lk ofB a b c) (lk ofC a b c))))) (1
      : Int)))), .lit (.int .i64 (lk nHigh (U.mm false (lk uF (lk ofF a b c) (lk ofB a b c) (lk ofC a b c)) (lk uF (lk ofF x y z) (lk ofB x y z) (lk ofC x y z))) (U.mm true (U.sub .i64
      (lk uF (lk ofF a b c) (lk ofB a b c) (lk ofC a b c)) (lk uF (lk ofF x y z) (lk ofB x y z) (lk ofC x y z))) (U.sub .i64 (lk uF (lk ofF x y z) (lk ofB x y z) (lk ofC x y z)) (lk uF
      (lk ofF a b c) (lk ofB a b c) (lk ofC a b c)))) (U.add .i64 (U.quo .i64 (U.sub .i64 (U.mm true (lk sLast (lk uF (lk ofF a b c) (lk ofB a b c) (lk ofC a b c)) (lk uB (lk ofF a b c)
      (lk ofB a b c) (lk ofC a b c)) (lk ofC a b c)) (lk sLast (lk uF (lk ofF x y z) (lk ofB x y z) (lk ofC x y z)) (lk uB (lk ofF x y z) (lk ofB x y z) (lk ofC x y z)) (lk ofC x y z)))
      (U.mm false (lk uF (lk ofF a b c) (lk ofB a b c) (lk ofC a b c)) (lk uF (lk ofF x y z) (lk ofB x y z) (lk ofC x y z)))) (U.mm true (U.sub .i64 (lk uF (lk ofF a b c) (lk ofB a b c)
      (lk ofC a b c)) (lk uF (lk ofF x y z) (lk ofB x y z) (lk ofC x y z))) (U.sub .i64 (lk uF (lk ofF x y z) (lk ofB x y z) (lk ofC x y z)) (lk uF (lk ofF a b c) (lk ofB a b c) (lk ofC a
      b c))))) (1 : Int)))), .lit (.int .i64 (lk nStr (U.mm false (lk uF (lk ofF a b c) (lk ofB a b c) (lk ofC a b c)) (lk uF (lk ofF x y z) (lk ofB x y z) (lk ofC x y z))) (U.mm true
      (U.sub .i64 (lk uF (lk ofF a b c) (lk ofB a b c) (lk ofC a b c)) (lk uF (lk ofF x y z) (lk ofB x y z) (lk ofC x y z))) (U.sub .i64 (lk uF (lk ofF x y z) (lk ofB x y z) (lk ofC x y
      z)) (lk uF (lk ofF a b c) (lk ofB a b c) (lk ofC a b c)))) (U.add .i64 (U.quo .i64 (U.sub .i64 (U.mm true (lk sLast (lk uF (lk ofF a b c) (lk ofB a b c) (lk ofC a b c)) (lk uB (lk
      ofF a b c) (lk ofB a b c) (lk ofC a b c)) (lk ofC a b c)) (lk sLast (lk uF (lk ofF x y z) (lk ofB x y z) (lk ofC x y z)) (lk uB (lk ofF x y z) (lk ofB x y z) (lk ofC x y z)) (lk ofC
      x y z))) (U.mm false (lk uF (lk ofF a b c) (lk ofB a b c) (lk ofC a b c)) (lk uF (lk ofF x y z) (lk ofB x y z) (lk ofC x y z)))) (U.mm true (U.sub .i64 (lk uF (lk ofF a b c) (lk ofB
      a b c) (lk ofC a b c)) (lk uF (lk ofF x y z) (lk ofB x y z) (lk ofC x y z))) (U.sub .i64 (lk uF (lk ofF x y z) (lk ofB x y z) (lk ofC x y z)) (lk uF (lk ofF a b c) (lk ofB a b c)
      (lk ofC a b c))))) (1 : Int))))], .lit (.int .i64 (lk nErr (U.mm false (lk uF (lk ofF a b c) (lk ofB a b c) (lk ofC a b c)) (lk uF (lk ofF x y z) (lk ofB x y z) (lk ofC x y z)))
      (U.mm true (U.sub .i64 (lk uF (lk ofF a b c) (lk ofB a b c) (lk ofC a b c)) (lk uF (lk ofF x y z) (lk ofB x y z) (lk ofC x y z))) (U.sub .i64 (lk uF (lk ofF x y z) (lk ofB x y z)
      (lk ofC x y z)) (lk uF (lk ofF a b c) (lk ofB a b c) (lk ofC a b c)))) (U.add .i64 (U.quo .i64 (U.sub .i64 (U.mm true (lk sLast (lk uF (lk ofF a b c) (lk ofB a b c) (lk ofC a b c))
      (lk uB (lk ofF a b c) (lk ofB a b c) (lk ofC a b c)) (lk ofC a b c)) (lk sLast (lk uF (lk ofF x y z) (lk ofB x y z) (lk ofC x y z)) (lk uB (lk ofF x y z) (lk ofB x y z) (lk ofC x y
      z)) (lk ofC x y z))) (U.mm false (lk uF (lk ofF a b c) (lk ofB a b c) (lk ofC a b c)) (lk uF (lk ofF x y z) (lk ofB x y z) (lk ofC x y z)))) (U.mm true (U.sub .i64 (lk uF (lk ofF a
      b c) (lk ofB a b c) (lk ofC a b c)) (lk uF (lk ofF x y z) (lk ofB x y z) (lk ofC x y z))) (U.sub .i64 (lk uF (lk ofF x y z) (lk ofB x y z) (lk ofC x y z)) (lk uF (lk ofF a b c) (lk
      ofB a b c) (lk ofC a b c))))) (1 : Int))))])))))))))))))))) := by kernel_rfl
set_option maxHeartbeats 1000000 in
theorem Hull_ok : ConOK P 38 c_Hull := con_of (allOKL mixed ke_ok l49_ok) 10 38 fun args r h => by
  unfold c_Hull at h
  split at h
  · rename_i a b c x y z
    have hp := (T.is_ask h).1
    have h := (T.is_ask h).2
    obtain rfl := T.is_ret h
    rw [t_Hull]
    obtain ⟨ha, hb, hc, hx, hy, hz⟩ := hp
    have f1 : uF (ofF a b c) (ofB a b c) (ofC a b c) = sA a b c := rfl
    have f2 : uB (ofF a b c) (ofB a b c) (ofC a b c) = sS a b c := rfl
    have f3 : uF (ofF x y z) (ofB x y z) (ofC x y z) = sA x y z := rfl
    have f4 : uB (ofF x y z) (ofB x y z) (ofC x y z) = sS x y z := rfl
    simp only [lk_eq, f1, f2, f3, f4, mm_max, mm_min]
    refine ⟨⟨ha, hb, hc, hx, hy, hz⟩, fun h => ?_, fun h => ?_⟩
    · rw [U.ne_t] at h
      simp only [hlL, hlH, hlS, hlE, if_pos h]
      exact rfl
    · rw [U.ne_f] at h
      obtain ⟨r1, r2⟩ := ckd_right h
      have hn : ¬ ckd a b c x y z ≠ 0 := by simp [h]
      refine ⟨of_ask r1 ha hb hc, up_ask r1, of_ask r2 hx hy hz, up_ask r2, ?_⟩
      have s1 := up_ser r1
      have s2 := up_ser r2
      simp only [hlL, hlH, hlS, hlE, if_neg hn, haF, haB, haC]
      generalize sA a b c = A at *
      generalize sS a b c = s at *
      generalize ofC a b c = C at *
      generalize sA x y z = B at *
      generalize sS x y z = t at *
      generalize ofC x y z = D at *
      by_cases hC : C = 0
      · refine ⟨fun _ => ⟨fun hd => ?_, ?_⟩, fun h => absurd hC (by rwa [U.eq_f] at h)⟩
        · obtain ⟨b1, b2, b3, b4, b5, b6⟩ := s2.resolve_left (by omega)
          have hB1 := mulle (x := 0) (y := D - 1) b3 (by omega)
          rw [Int.mul_zero] at hB1
          unfold I64; omega
        · simp only [huF, huB, huC, if_pos hC]
          exact rfl
      by_cases hD : D = 0
      · refine ⟨fun h => absurd (by rwa [U.eq_t] at h) hC, fun _ => ⟨fun _ => ⟨fun hd => ?_, ?_⟩, fun h => absurd hD (by rwa [U.eq_f] at h)⟩⟩
        · obtain ⟨a1, a2, a3, a4, a5, a6⟩ := s1.resolve_left (by omega)
          have hA1 := mulle (x := 0) (y := C - 1) a3 (by omega)
          rw [Int.mul_zero] at hA1
          unfold I64; omega
        · simp only [huF, huB, huC, if_neg hC, if_pos hD]
          exact rfl
      obtain ⟨a1, a2, a3, a4, a5, a6⟩ := s1.resolve_left hC
      obtain ⟨b1, b2, b3, b4, b5, b6⟩ := s2.resolve_left hD
      have hA1 := mulle (x := 0) (y := C - 1) a3 (by omega)
      have hB1 := mulle (x := 0) (y := D - 1) b3 (by omega)
      rw [Int.mul_zero] at hA1 hB1
      have e1 : U.sub .i64 A B = A - B := U.sub64 (by unfold I64; omega)
      have e2 : U.sub .i64 B A = B - A := U.sub64 (by unfold I64; omega)
      have e3 : max (A - B) (B - A) = huD A B := rfl
      have e4 : max (sLast A s C) (sLast B t D) = huX A s C B t D := rfl
      have hXb : min A B ≤ huX A s C B t D ∧ huX A s C B t D ≤ 1000000 := by unfold huX sLast; omega
      have hDb : 0 ≤ huD A B ∧ huD A B ≤ 2000000 := by unfold huD; omega
      simp only [e1, e2, e3, e4]
      have f1 : U.sub .i64 (huX A s C B t D) (min A B) = huX A s C B t D - min A B := U.sub64 (by unfold I64; omega)
      have fin : ∀ g, hu2 A s C B t D = g → 0 ≤ g → T.All (fun x => x = SV.tup [SV.agg [SV.lit (.int .i64 (nLow (huF A s C B t D) (huB A s C B t D) (huC A s C B t D))), SV.lit (.int .i64 (nHigh (huF A s C B t D) (huB A s C B t D) (huC A s C B t D))), SV.lit (.int .i64 (nStr (huF A s C B t D) (huB A s C B t D) (huC A s C B t D)))], SV.lit (.int .i64 (nErr (huF A s C B t D) (huB A s C B t D) (huC A s C B t D)))])
          (T.br (U.eq g 0) (T.ask ((0 : Int) < 1 → I64 (1 - 1) ∧ I64 (1 * (1 - 1)) ∧ I64 (min A B + 1 * (1 - 1)))
              (T.ret (SV.tup [SV.agg [SV.lit (.int .i64 (nLow (min A B) 1 1)), SV.lit (.int .i64 (nHigh (min A B) 1 1)), SV.lit (.int .i64 (nStr (min A B) 1 1))], SV.lit (.int .i64 (nErr (min A B) 1 1))])))
            (T.ask (g ≠ 0) (T.ask (0 < U.add .i64 (U.quo .i64 (U.sub .i64 (huX A s C B t D) (min A B)) g) 1 → I64 (U.add .i64 (U.quo .i64 (U.sub .i64 (huX A s C B t D) (min A B)) g) 1 - 1) ∧ I64 (g * (U.add .i64 (U.quo .i64 (U.sub .i64 (huX A s C B t D) (min A B)) g) 1 - 1)) ∧ I64 (min A B + g * (U.add .i64 (U.quo .i64 (U.sub .i64 (huX A s C B t D) (min A B)) g) 1 - 1)))
              (T.ret (SV.tup [SV.agg [SV.lit (.int .i64 (nLow (min A B) g (U.add .i64 (U.quo .i64 (U.sub .i64 (huX A s C B t D) (min A B)) g) 1))), SV.lit (.int .i64 (nHigh (min A B) g (U.add .i64 (U.quo .i64 (U.sub .i64 (huX A s C B t D) (min A B)) g) 1))), SV.lit (.int .i64 (nStr (min A B) g (U.add .i64 (U.quo .i64 (U.sub .i64 (huX A s C B t D) (min A B)) g) 1)))], SV.lit (.int .i64 (nErr (min A B) g (U.add .i64 (U.quo .i64 (U.sub .i64 (huX A s C B t D) (min A B)) g) 1)))]))))) := fun g hg hg0 => by
        have hF : huF A s C B t D = min A B := by simp only [huF, if_neg hC, if_neg hD]
        by_cases hz : g = 0
        · have hBB : huB A s C B t D = 1 := by simp only [huB, if_neg hC, if_neg hD, hg, if_pos hz]
          have hCC : huC A s C B t D = 1 := by simp only [huC, if_neg hC, if_neg hD, hg, if_pos hz]
          rw [hF, hBB, hCC]
          refine ⟨fun _ => ⟨fun _ => by unfold I64; omega, rfl⟩, fun h => absurd hz (by rwa [U.eq_f] at h)⟩
        · have hBB : huB A s C B t D = g := by simp only [huB, if_neg hC, if_neg hD, hg, if_neg hz]
          have hCC : huC A s C B t D = (huX A s C B t D - min A B).tdiv g + 1 := by simp only [huC, if_neg hC, if_neg hD, hg, if_neg hz]
          have t1 := Int.tdiv_eq_ediv_of_nonneg (b := g) (show 0 ≤ huX A s C B t D - min A B by omega)
          obtain ⟨q1, q2, q3, q4, q5, q6, q7, q8⟩ := einv_q (x0 := huX A s C B t D - min A B) (y0 := g) (by omega) (by omega)
          have t2 : g * ((huX A s C B t D - min A B) / g) = (huX A s C B t D - min A B) / g * g := Int.mul_comm _ _
          have f2 : U.quo .i64 (huX A s C B t D - min A B) g = (huX A s C B t D - min A B).tdiv g := U.quo64 (by rw [t1]; unfold I64; omega)
          have f3 : U.add .i64 ((huX A s C B t D - min A B).tdiv g) 1 = (huX A s C B t D - min A B).tdiv g + 1 := U.add64 (by rw [t1]; unfold I64; omega)
          simp only [f1, f2, f3]
          rw [hF, hBB, hCC]
          refine ⟨fun h => absurd (by rwa [U.eq_t] at h) hz, fun _ => ⟨hz, fun _ => ?_, rfl⟩⟩
          rw [show (huX A s C B t D - min A B).tdiv g + 1 - 1 = (huX A s C B t D - min A B) / g by omega, t2]
          unfold I64; omega
      have hAC : I64 (C - 1) ∧ I64 (s * (C - 1)) ∧ I64 (A + s * (C - 1)) := by unfold I64; omega
      have hBD : I64 (D - 1) ∧ I64 (t * (D - 1)) ∧ I64 (B + t * (D - 1)) := by unfold I64; omega
      have g1 := eu_le hDb.1 a3
      have g2 := eu_le (show 0 ≤ euG (huD A B) s by omega) b3
      have g3 := eu_le hDb.1 b3
      refine ⟨fun h => absurd (by rwa [U.eq_t] at h) hC, fun _ => ⟨fun h => absurd (by rwa [U.eq_t] at h) hD, fun _ => ⟨hAC, hBD, fun h1 => ⟨⟨hDb.1, by omega, by omega, by omega⟩, fun h2 => ⟨⟨by omega, by omega, by omega, by omega⟩, fin _ ?_ (by omega)⟩, fun h2 => fin _ ?_ (by omega)⟩, fun h1 => ⟨fun h2 => ⟨⟨hDb.1, by omega, by omega, by omega⟩, fin _ ?_ (by omega)⟩, fun h2 => fin _ ?_ hDb.1⟩⟩⟩⟩
      · rw [U.gt_t] at h1 h2
        simp only [hu2, hu1, if_pos h1, if_pos h2]
      · rw [U.gt_t] at h1
        rw [U.gt_f] at h2
        simp only [hu2, hu1, if_pos h1, if_neg (show ¬ D > 1 by omega)]
      · rw [U.gt_f] at h1
        rw [U.gt_t] at h2
        simp only [hu2, hu1, if_neg (show ¬ C > 1 by omega), if_pos h2]
      · rw [U.gt_f] at h1 h2
        simp only [hu2, hu1, if_neg (show ¬ C > 1 by omega), if_neg (show ¬ D > 1 by omega)]
  · exact h.elim
end Go.RX.Span

/- Ranges: Intersect, Hull and Within as sets, in plain Lean. -/
set_option linter.unusedVariables false
set_option linter.unusedSimpArgs false
namespace Go.RX.Span
open Go Go.RX

theorem sIn_one {F s t n : Int} : SIn F s 1 n ↔ SIn F t 1 n := by
  unfold SIn
  simp only [Int.sub_self, Int.mul_zero, Int.add_zero]
  constructor <;> rintro ⟨h1, h2, h3, _⟩ <;> exact ⟨h1, h2, h3, 0, by omega⟩
/-- A right range out of a series: the same numbers. -/
theorem rin_of {L H S F B C : Int} (hC : 1 ≤ C) (hr : Right L H S) (hLH : L ≤ H) (h1 : L = F) (hc : ofC L H S = C) (hS : C ≠ 1 → absI S = B) (n : Int) : RIn L H S n ↔ SIn F B C n := by
  obtain ⟨u1, u2⟩ := up_of hr hLH
  unfold RIn sA sS
  rw [u1, u2, hc, h1]
  by_cases h : C = 1
  · subst h; exact sIn_one
  · rw [hS h]
theorem rin_empty (n : Int) : ¬ RIn 1 0 1 n := fun h => by
  have := h.2.2.1
  have e : ofC 1 0 1 = 0 := rfl
  rw [e] at this
  omega
theorem right_empty : Right 1 0 1 := ⟨by omega, .inl ⟨rfl, rfl, rfl⟩⟩

/-- A series made a range in a direction. -/
theorem mv_set {F B C c : Int} (h : Sw F B C) : nErr (kF F B C c) (kB F B C c) C = 0 ∧ Right (nLow (kF F B C c) (kB F B C c) C) (nHigh (kF F B C c) (kB F B C c) C) (nStr (kF F B C c) (kB F B C c) C) ∧
    ∀ n, RIn (nLow (kF F B C c) (kB F B C c) C) (nHigh (kF F B C c) (kB F B C c) C) (nStr (kF F B C c) (kB F B C c) C) n ↔ SIn F B C n := by
  by_cases hC : C = 0
  · subst hC
    simp only [nErr, nLow, nHigh, nStr, Int.le_refl, if_true]
    exact ⟨trivial, right_empty, fun n => ⟨fun h => absurd h (rin_empty n), fun h => by have := h.2.2.1; omega⟩⟩
  · obtain ⟨h1, h2, h3, h4, h5⟩ := h.resolve_left hC
    obtain ⟨q1, q2, q3, q4⟩ := nrm_like (f := F) (s := B) (C := C) (c := c) h2
    have m0 := mulle (x := 0) (y := C - 1) h2 (by omega)
    rw [Int.mul_zero] at m0
    have n1 : ¬ C ≤ 0 := by omega
    have e0 : mvE F B C = 0 := by unfold mvE; rw [if_neg n1, if_pos (by omega)]
    rw [q1, q2, q3, q4, e0]
    simp only [mvLow, mvHigh, mvStr, e0, if_neg n1, if_true]
    refine ⟨trivial, ?_⟩
    by_cases hc : c < 0
    · obtain ⟨g1, g2, g3, g4⟩ := rgD (F := F + B * (C - 1)) (s := B) (q := C - 1) h2 (by omega) (by omega) (by omega)
      rw [show F + B * (C - 1) - B * (C - 1) = F by omega] at g1 g2 g3
      have e : (if C - 1 = 0 then (1 : Int) else -B) = if C = 1 then 1 else if c < 0 then -B else B := by
        by_cases h : C = 1
        · rw [if_pos (by omega), if_pos h]
        · rw [if_neg (by omega), if_neg h, if_pos hc]
      rw [e] at g1 g3
      refine ⟨g1, fun n => rin_of h1 g1 g2 rfl (by omega) (fun h => ?_) n⟩
      rw [if_neg h, if_pos hc, absI_neg (by omega)]; omega
    · obtain ⟨g1, g2, g3, g4⟩ := rgU (F := F) (s := B) (q := C - 1) h2 (by omega) (by omega) (by omega)
      have e : (if C - 1 = 0 then (1 : Int) else B) = if C = 1 then 1 else if c < 0 then -B else B := by
        by_cases h : C = 1
        · rw [if_pos (by omega), if_pos h]
        · rw [if_neg (by omega), if_neg h, if_neg hc]
      rw [e] at g1 g3
      refine ⟨g1, fun n => rin_of h1 g1 g2 rfl (by omega) (fun h => ?_) n⟩
      rw [if_neg h, if_neg hc, absI_pos (by omega)]

theorem ckd_zero {a b c x y z : Int} (h : Right a b c) (h' : Right x y z) : ckd a b c x y z = 0 := by
  unfold ckd; rw [if_neg (by simp [chk_zero.2 h])]; exact chk_zero.2 h'
/-- Intersect of right ranges has the numbers of both. -/
theorem is_set {a b c x y z : Int} (h : Right a b c) (h' : Right x y z) : isEr a b c x y z = 0 ∧ Right (isL a b c x y z) (isH a b c x y z) (isS a b c x y z) ∧ ∀ n, RIn (isL a b c x y z) (isH a b c x y z) (isS a b c x y z) n ↔ RIn a b c n ∧ RIn x y z n := by
  have hn : ¬ ckd a b c x y z ≠ 0 := by simp [ckd_zero h h']
  simp only [isEr, isL, isH, isS, if_neg hn]
  obtain ⟨w1, w2⟩ := is_sw h h'
  obtain ⟨m1, m2, m3⟩ := mv_set (c := c) w1
  exact ⟨m1, m2, fun n => (m3 n).trans (w2 n)⟩
/-- Ranges with the same numbers have the same ends, and the same size. -/
theorem rin_ext {a b c x y z : Int} (h : Right a b c) (h' : Right x y z) (he : ∀ n, RIn a b c n ↔ RIn x y z n) : a = x ∧ b = y ∧ ofC a b c = ofC x y z := by
  obtain ⟨e1, e2⟩ := sIn_ext (up_ser h).sw (up_ser h').sw he
  by_cases hab : a ≤ b
  · obtain ⟨p1, p2, p3, p4, p5, _⟩ := parts h hab
    have hxy : x ≤ y := by
      by_cases hxy : x ≤ y
      · exact hxy
      · have := (empty_of (c := z) hxy).2.2; omega
    obtain ⟨p1', p2', p3', p4', p5', _⟩ := parts h' hxy
    obtain ⟨u1, u2⟩ := up_of h hab
    obtain ⟨v1, v2⟩ := up_of h' hxy
    obtain ⟨k1, k2⟩ := e2 p3
    unfold sA at k1
    unfold sS at k2
    rw [u1, v1] at k1
    rw [u2, v2, p5, p5'] at k2
    exact ⟨k1, by omega, e1⟩
  · have h0 := (empty_of (c := c) hab).2.2
    have hxy : ¬ x ≤ y := fun hxy => by have := (parts h' hxy).2.2.1; omega
    obtain ⟨i1, i2, i3⟩ := empty_is h hab
    obtain ⟨j1, j2, j3⟩ := empty_is h' hxy
    exact ⟨by omega, by omega, e1⟩
/-- Within says what the sets say. -/
theorem wi_set {a b c x y z : Int} (h : Right a b c) (h' : Right x y z) : wiB a b c x y z = true ↔ ∀ n, RIn a b c n → RIn x y z n := by
  have hn : ¬ ckd a b c x y z ≠ 0 := by simp [ckd_zero h h']
  obtain ⟨w1, w2⟩ := is_sw h h'
  simp only [wiB, if_neg hn, decide_eq_true_eq]
  constructor
  · intro hc n hin
    exact ((w2 n).1 (sIn_count w1 (up_ser h).sw (fun n hn => ((w2 n).1 hn).1) hc n hin)).2
  · intro hs
    exact (sIn_ext w1 (up_ser h).sw (fun n => (w2 n).trans ⟨fun g => g.1, fun g => ⟨g, hs n g⟩⟩)).1
end Go.RX.Span

/- Ranges: Hull as a set, in plain Lean. -/
set_option linter.unusedVariables false
set_option linter.unusedSimpArgs false
namespace Go.RX.Span
open Go Go.RX

theorem huD_dvd {A B d : Int} : d ∣ huD A B ↔ d ∣ A - B := by
  unfold huD
  rcases Int.le_total (A - B) (B - A) with h | h
  · rw [Int.max_eq_right h, show A - B = -(B - A) by omega]
    exact Int.dvd_neg.symm
  · rw [Int.max_eq_left h]
theorem hu2_spec {A s C B t D : Int} (hs : 1 ≤ s) (ht : 1 ≤ t) : 0 ≤ hu2 A s C B t D ∧ hu2 A s C B t D ∣ A - B ∧ (C > 1 → hu2 A s C B t D ∣ s) ∧ (D > 1 → hu2 A s C B t D ∣ t) ∧
    ∀ d : Int, d ∣ A - B → (C > 1 → d ∣ s) → (D > 1 → d ∣ t) → d ∣ hu2 A s C B t D := by
  have hD0 : 0 ≤ huD A B := by unfold huD; omega
  have h1 : 0 ≤ hu1 A s C B ∧ hu1 A s C B ∣ A - B ∧ (C > 1 → hu1 A s C B ∣ s) ∧ ∀ d : Int, d ∣ A - B → (C > 1 → d ∣ s) → d ∣ hu1 A s C B := by
    unfold hu1
    by_cases hC : C > 1
    · rw [if_pos hC]
      obtain ⟨g1, g2, g3, g4, g5⟩ := eu_le hD0 hs
      exact ⟨by omega, huD_dvd.1 g3, fun _ => g4, fun d h1 h2 => g5 d (huD_dvd.2 h1) (h2 hC)⟩
    · rw [if_neg hC]
      exact ⟨hD0, huD_dvd.1 (Int.dvd_refl _), fun h => absurd h hC, fun d h1 _ => huD_dvd.2 h1⟩
  obtain ⟨a1, a2, a3, a4⟩ := h1
  unfold hu2
  by_cases hD : D > 1
  · rw [if_pos hD]
    obtain ⟨g1, g2, g3, g4, g5⟩ := eu_le a1 ht
    exact ⟨by omega, Int.dvd_trans g3 a2, fun h => Int.dvd_trans g3 (a3 h), fun _ => g4, fun d h1 h2 h3 => g5 d (a4 d h1 h2) (h3 hD)⟩
  · rw [if_neg hD]
    exact ⟨a1, a2, a3, fun h => absurd h hD, fun d h1 h2 _ => a4 d h1 h2⟩

/-- The hull of two series: it has both, and each other series that has both has it. -/
theorem hu_set {A s C B t D : Int} (hA : Ser A s C) (hB : Ser B t D) : Sw (huF A s C B t D) (huB A s C B t D) (huC A s C B t D) ∧
    (∀ n, SIn A s C n → SIn (huF A s C B t D) (huB A s C B t D) (huC A s C B t D) n) ∧ (∀ n, SIn B t D n → SIn (huF A s C B t D) (huB A s C B t D) (huC A s C B t D) n) ∧
    ∀ P u M, (∀ n, SIn A s C n → SIn P u M n) → (∀ n, SIn B t D n → SIn P u M n) → ∀ n, SIn (huF A s C B t D) (huB A s C B t D) (huC A s C B t D) n → SIn P u M n := by
  by_cases hC : C = 0
  · simp only [huF, huB, huC, if_pos hC]
    exact ⟨hB.sw, fun n h => by have := h.2.2.1; omega, fun n h => h, fun P u M _ h => h⟩
  by_cases hD : D = 0
  · simp only [huF, huB, huC, if_neg hC, if_pos hD]
    exact ⟨hA.sw, fun n h => h, fun n h => by have := h.2.2.1; omega, fun P u M h _ => h⟩
  obtain ⟨a1, a2, a3, a4, a5, a6⟩ := hA.resolve_left hC
  obtain ⟨b1, b2, b3, b4, b5, b6⟩ := hB.resolve_left hD
  have hA1 := mulle (x := 0) (y := C - 1) a3 (by omega)
  have hB1 := mulle (x := 0) (y := D - 1) b3 (by omega)
  rw [Int.mul_zero] at hA1 hB1
  obtain ⟨g0, g1, g2, g3, g4⟩ := hu2_spec (A := A) (s := s) (C := C) (B := B) (t := t) (D := D) a3 b3
  simp only [huF, huB, huC, if_neg hC, if_neg hD]
  generalize hu2 A s C B t D = g at *
  by_cases hz : g = 0
  · subst hz
    have hAB : A - B = 0 := Int.zero_dvd.1 g1
    have hC1 : C = 1 := by
      rcases Int.lt_or_le 1 C with h | h
      · have := Int.zero_dvd.1 (g2 h); omega
      · omega
    have hD1 : D = 1 := by
      rcases Int.lt_or_le 1 D with h | h
      · have := Int.zero_dvd.1 (g3 h); omega
      · omega
    subst hC1; subst hD1
    obtain rfl : A = B := by omega
    simp only [if_true, Int.min_self]
    exact ⟨.inr ⟨by omega, by omega, by omega, by omega, by omega⟩, fun n h => sIn_one.1 h, fun n h => sIn_one.1 h, fun P u M h _ n hn => h n (sIn_one.1 hn)⟩
  · simp only [if_neg hz]
    have hg : 1 ≤ g := by omega
    have dA : g ∣ s * (C - 1) := by
      rcases Int.lt_or_le 1 C with h | h
      · exact Int.dvd_trans (g2 h) (Int.dvd_mul_right s _)
      · rw [show C - 1 = 0 by omega, Int.mul_zero]; exact Int.dvd_zero _
    have dB : g ∣ t * (D - 1) := by
      rcases Int.lt_or_le 1 D with h | h
      · exact Int.dvd_trans (g3 h) (Int.dvd_mul_right t _)
      · rw [show D - 1 = 0 by omega, Int.mul_zero]; exact Int.dvd_zero _
    have hX : huX A s C B t D = max (A + s * (C - 1)) (B + t * (D - 1)) := rfl
    obtain ⟨i, hi⟩ := dA
    obtain ⟨j, hj⟩ := dB
    obtain ⟨k, hk⟩ := g1
    have dX : ∃ w, huX A s C B t D - min A B = g * w := by
      rw [hX]
      rcases Int.le_total A B with h | h
      · rw [Int.min_eq_left h]
        rcases Int.le_total (A + s * (C - 1)) (B + t * (D - 1)) with h' | h'
        · rw [Int.max_eq_right h']; exact ⟨j - k, by rw [Int.mul_sub g j k]; omega⟩
        · rw [Int.max_eq_left h']; exact ⟨i, by omega⟩
      · rw [Int.min_eq_right h]
        rcases Int.le_total (A + s * (C - 1)) (B + t * (D - 1)) with h' | h'
        · rw [Int.max_eq_right h']; exact ⟨j, by omega⟩
        · rw [Int.max_eq_left h']; exact ⟨i + k, by rw [Int.mul_add g i k]; omega⟩
    obtain ⟨w, hw⟩ := dX
    have hq : (huX A s C B t D - min A B).tdiv g = w := by rw [hw]; exact Int.mul_tdiv_cancel_left _ (by omega)
    rw [hq]
    have hw0 : 0 ≤ w := by
      rcases Int.lt_or_le w 0 with h | h
      · have := Int.mul_le_mul_of_nonneg_left (show w ≤ -1 by omega) (show (0 : Int) ≤ g by omega); omega
      · exact h
    have hgs : g ≤ 4000000000000 := by
      rcases Int.lt_or_le 1 C with h | h
      · have := Int.le_of_dvd (by omega) (g2 h); omega
      · rcases Int.lt_or_le 1 D with h' | h'
        · have := Int.le_of_dvd (by omega) (g3 h'); omega
        · by_cases hAB : A - B = 0
          · have := g4 0 (by rw [hAB]; exact Int.dvd_refl _) (fun h => by omega) (fun h => by omega)
            exact absurd (Int.zero_dvd.1 this) hz
          · rcases Int.lt_or_le 0 (A - B) with h3 | h3
            · have := Int.le_of_dvd h3 ⟨k, hk⟩; omega
            · have := Int.le_of_dvd (show 0 < B - A by omega) (show g ∣ B - A from ⟨-k, by rw [Int.mul_neg]; omega⟩); omega
    have mA : ∀ n, SIn A s C n → ∃ p, n = min A B + g * p := by
      rintro n ⟨x1, x2, x3, p, hp⟩
      have hd : ∃ v, s * p = g * v := by
        rcases Int.lt_or_le 1 C with h | h
        · obtain ⟨v, hv⟩ := g2 h; exact ⟨v * p, by rw [hv, Int.mul_assoc]⟩
        · have : s * (C - 1) = 0 := by rw [show C - 1 = 0 by omega, Int.mul_zero]
          exact ⟨0, by omega⟩
      obtain ⟨v, hv⟩ := hd
      rcases Int.le_total A B with h | h
      · rw [Int.min_eq_left h]; exact ⟨v, by omega⟩
      · rw [Int.min_eq_right h]; exact ⟨v + k, by rw [Int.mul_add]; omega⟩
    have mB : ∀ n, SIn B t D n → ∃ p, n = min A B + g * p := by
      rintro n ⟨x1, x2, x3, p, hp⟩
      have hd : ∃ v, t * p = g * v := by
        rcases Int.lt_or_le 1 D with h | h
        · obtain ⟨v, hv⟩ := g3 h; exact ⟨v * p, by rw [hv, Int.mul_assoc]⟩
        · have : t * (D - 1) = 0 := by rw [show D - 1 = 0 by omega, Int.mul_zero]
          exact ⟨0, by omega⟩
      obtain ⟨v, hv⟩ := hd
      rcases Int.le_total A B with h | h
      · rw [Int.min_eq_left h]; exact ⟨v - k, by rw [Int.mul_sub]; omega⟩
      · rw [Int.min_eq_right h]; exact ⟨v, by omega⟩
    refine ⟨.inr ⟨by omega, hg, hgs, by omega, by rw [show w + 1 - 1 = w by omega]; omega⟩, fun n hn => ?_, fun n hn => ?_, fun P u M hp hq' n hn => ?_⟩
    · exact ⟨by have := hn.1; omega, by have := hn.2.1; rw [show w + 1 - 1 = w by omega]; omega, by omega, mA n hn⟩
    · exact ⟨by have := hn.1; omega, by have := hn.2.1; rw [show w + 1 - 1 = w by omega]; omega, by omega, mB n hn⟩
    · obtain ⟨x1, x2, x3, p, hpn⟩ := hn
      rw [show w + 1 - 1 = w by omega] at x2
      obtain ⟨y1, y2, y3, i1, e1⟩ := hp A (sIn_first a3 a1)
      obtain ⟨_, y2', _, _⟩ := hp _ (sIn_last a3 a1)
      obtain ⟨z1, z2, z3, j1, e2⟩ := hq' B (sIn_first b3 b1)
      obtain ⟨_, z2', _, _⟩ := hq' _ (sIn_last b3 b1)
      have hu : u ∣ g := by
        refine g4 u ⟨i1 - j1, by rw [Int.mul_sub]; omega⟩ (fun h => ?_) (fun h => ?_)
        · obtain ⟨_, _, _, i2, e3⟩ := hp _ (sIn_second a3 (by omega : 2 ≤ C))
          exact ⟨i2 - i1, by rw [Int.mul_sub]; omega⟩
        · obtain ⟨_, _, _, j2, e4⟩ := hq' _ (sIn_second b3 (by omega : 2 ≤ D))
          exact ⟨j2 - j1, by rw [Int.mul_sub]; omega⟩
      obtain ⟨v, hv⟩ := hu
      refine ⟨by omega, by omega, y3, ?_⟩
      have hvp : g * p = u * (v * p) := by rw [hv, Int.mul_assoc]
      rcases Int.le_total A B with h | h
      · rw [Int.min_eq_left h] at hpn; exact ⟨i1 + v * p, by rw [Int.mul_add]; omega⟩
      · rw [Int.min_eq_right h] at hpn; exact ⟨j1 + v * p, by rw [Int.mul_add]; omega⟩

theorem hl_set {a b c x y z : Int} (h : Right a b c) (h' : Right x y z) : hlE a b c x y z = 0 ∧ Right (hlL a b c x y z) (hlH a b c x y z) (hlS a b c x y z) ∧
    (∀ n, RIn a b c n → RIn (hlL a b c x y z) (hlH a b c x y z) (hlS a b c x y z) n) ∧ (∀ n, RIn x y z n → RIn (hlL a b c x y z) (hlH a b c x y z) (hlS a b c x y z) n) ∧
    ∀ p q r, (∀ n, RIn a b c n → RIn p q r n) → (∀ n, RIn x y z n → RIn p q r n) → ∀ n, RIn (hlL a b c x y z) (hlH a b c x y z) (hlS a b c x y z) n → RIn p q r n := by
  have hn : ¬ ckd a b c x y z ≠ 0 := by simp [ckd_zero h h']
  simp only [hlE, hlL, hlH, hlS, if_neg hn]
  obtain ⟨w1, w2, w3, w4⟩ := hu_set (up_ser h) (up_ser h')
  obtain ⟨m1, m2, m3⟩ := mv_set (c := 0) w1
  simp only [kF, kB, Int.lt_irrefl, if_false] at m1 m2 m3
  exact ⟨m1, m2, fun n hn => (m3 n).2 (w2 n hn), fun n hn => (m3 n).2 (w3 n hn), fun p q r k1 k2 n hn => w4 _ _ _ k1 k2 n ((m3 n).1 hn)⟩
end Go.RX.Span

/- The library's slices.Equal of ranges. -/
set_option linter.unusedVariables false
set_option linter.unusedSimpArgs false
namespace Go.RX.Span
open Go Go.RX

/-- Three numbers are the same. -/
def same3 (d e : Els [.int .i64, .int .i64, .int .i64]) : Prop := d.1 = e.1 ∧ d.2.1 = e.2.1 ∧ d.2.2.1 = e.2.2.1
noncomputable def eqR3 (n : Nat) (f : Nat → Els [.int .i64, .int .i64, .int .i64]) (n1 : Nat) (f1 : Nat → Els [.int .i64, .int .i64, .int .i64]) : Bool := @decide (n = n1 ∧ ∀ i, i < n → same3 (f i) (f1 i)) (Classical.propDecidable _)
theorem eqR3_t {n n1 : Nat} {f f1 : Nat → Els [.int .i64, .int .i64, .int .i64]} : eqR3 n f n1 f1 = true ↔ n = n1 ∧ ∀ i, i < n → same3 (f i) (f1 i) := by
  unfold eqR3
  exact @decide_eq_true_iff _ (Classical.propDecidable _)
structure XG where
  (n n1 : Nat) (f f1 : Nat → Els [.int .i64, .int .i64, .int .i64]) (len : Int) (k : Nat)
noncomputable def VG (x : XG) : Few := ([.row [.int .i64, .int .i64, .int .i64] x.n x.f, .row [.int .i64, .int .i64, .int .i64] x.n1 x.f1, .any, .lit (.int .i64 x.len), .lit (.int .i64 x.k)], [])
noncomputable def OG (x : XG) : Ex × Few := (.exit 0, ([.row [.int .i64, .int .i64, .int .i64] x.n x.f, .row [.int .i64, .int .i64, .int .i64] x.n1 x.f1, .any, .any, .any], []))
noncomputable def OG' : Ex × Few := (.ret, ([.any, .any, .kb false, .any, .any], []))
def PhiG (n0 : Nat) (x : XG) : Prop := (n0 = 0 ∧ x.n = x.n1 ∧ x.len = x.n ∧ x.n ≤ top) ∧ x.k ≤ x.n ∧ ∀ i, i < x.k → same3 (x.f i) (x.f1 i)
def ZG (x : XG) (o : Ex × Few) : Prop := (eqR3 x.n x.f x.n1 x.f1 = true → o = OG x) ∧ (eqR3 x.n x.f x.n1 x.f1 = false → o = OG')
noncomputable def gG : Nat → Few → T (Ex × Few)
  | n0, ([.row [.int .i64, .int .i64, .int .i64] n f, .row [.int .i64, .int .i64, .int .i64] n1 f1, _, .lit (.int .i64 len), .ki .i64 (.ofNat 0)], []) =>
    .ask (PreE n0 n n1 len) (.br (lk eqR3 n f n1 f1) (.ret (.exit 0, ([.row [.int .i64, .int .i64, .int .i64] n f, .row [.int .i64, .int .i64, .int .i64] n1 f1, .any, .any, .any], []))) (.ret (.ret, ([.any, .any, .kb false, .any, .any], []))))
  | _, _ => .stuck 1
noncomputable abbrev l56 : List (Nat × Loops) := [(145, [(4, .sum (few 26 [0, 1, 4, 12, 13] gG))])]
end Go.RX.Span

/- The divisor of the reference: the loop's states. -/
set_option linter.unusedVariables false
set_option linter.unusedSimpArgs false
namespace Go.RX.Span
open Go Go.RX

def gcdI (a b : Int) : Int := Int.gcd a b
def PreD (n0 : Nat) (a b : Int) : Prop := n0 = 0 ∧ 0 ≤ a ∧ 0 ≤ b
structure XD where
  (a b A B : Int)
noncomputable def VD (x : XD) : Few := ([.lit (.int .i64 x.A), .lit (.int .i64 x.B)], [])
noncomputable def OD (x : XD) : Ex × Few := (.exit 0, ([.lit (.int .i64 (gcdI x.a x.b)), .any], []))
def PhiD (n0 : Nat) (x : XD) : Prop := n0 = 0 ∧ 0 ≤ x.A ∧ 0 ≤ x.B ∧ Int.gcd x.A x.B = Int.gcd x.a x.b
noncomputable def gD : Nat → Few → T (Ex × Few)
  | n0, ([.lit (.int .i64 a), .lit (.int .i64 b)], []) => .ask (PreD n0 a b) (.ret (.exit 0, ([.lit (.int .i64 (lk gcdI a b)), .any], [])))
  | _, _ => .stuck 1
noncomputable abbrev l119 : List (Nat × Loops) := [(197, [(1, .sum (few 12 [0, 1] gD))])]
end Go.RX.Span

/- The divisor of the reference: the walk. -/
set_option linter.unusedVariables false
set_option linter.unusedSimpArgs false
set_option maxRecDepth 100000
namespace Go.RX.Span
open Go Go.RX

set_option maxRecDepth 100000 in
theorem t_D (n0 : Nat) (A B : Int) : (sx E0 [] n0 (loopOf P 197 1) (mkS 12 [0, 1] [.lit (.int .i64 A), .lit (.int .i64 B)], [])).bind (proj 12 [0, 1]) =
    T.br (U.ne B (0 : Int)) (.ask (B ≠ (0 : Int)) (.ret (Ex.normal, [.lit (.int .i64 B), .lit (.int .i64 (U.rem A B))], []))) (.ret (Ex.exit (nat_lit 0), [.lit (.int .i64 A), .lit (.int
      .i64 B)], [])) := by kernel_rfl
theorem roundD (n0 : Nat) (x : XD) (hx : PhiD n0 x) : ((sx E0 [] n0 (loopOf P 197 1) (mkS 12 [0, 1] (VD x).1, (VD x).2)).bind (proj 12 [0, 1])).All fun r => match r.1 with
      | .normal => ∃ x', PhiD n0 x' ∧ x'.B.toNat < x.B.toNat ∧ Wk 12 [0, 1] n0 r.2 (VD x') ∧ ∀ o, o = OD x' → o = OD x
      | e => ∃ s, (e, s) = OD x ∧ Wk 12 [0, 1] n0 r.2 s := by
  obtain ⟨a, b, A, B⟩ := x
  unfold VD
  dsimp only
  refine T.all_of_eq (t_D n0 A B) ?_
  obtain ⟨h0, hA, hB, hg⟩ := hx
  simp only [] at h0 hA hB hg
  subst h0
  have w0 : ∀ {vs vs' : List SV}, RlL (idR 0) vs vs' → Wk 12 [0, 1] 0 (vs, []) (vs', []) := fun h => wk_of (idR 0) rfl (Nat.zero_le _) (fun b hb => by omega) h trivial
  by_cases hz : B = 0
  · subst hz
    simp only [T.All, U.le_t, U.le_f, U.lt_t, U.lt_f, U.gt_t, U.gt_f, U.ge_t, U.ge_f, U.eq_t, U.eq_f, U.ne_t, U.ne_f, U.not_t, U.not_f, U.andb_t, U.andb_f, SV.lit.injEq, SV.agg.injEq, SV.tup.injEq, List.cons.injEq, Value.int.injEq, Value.bool.injEq, true_and, and_true, lk_eq]
    refine ⟨fun h => absurd rfl h, fun _ => ⟨(OD ⟨a, b, A, 0⟩).2, rfl, w0 ⟨?_, rl_any _, trivial⟩⟩⟩
    show Value.int .i64 A = Value.int .i64 (gcdI a b)
    have : (A.natAbs : Int) = A := Int.natAbs_of_nonneg hA
    rw [Int.gcd_zero_right] at hg
    unfold gcdI
    rw [← hg, this]
  · have e := Int.tmod_eq_emod_of_nonneg hA (b := B)
    have t3 := Int.emod_nonneg A hz
    have t4 := Int.emod_lt_of_pos A (show 0 < B by omega)
    have t5 := Int.mul_ediv_add_emod A B
    simp only [T.All, U.le_t, U.le_f, U.lt_t, U.lt_f, U.gt_t, U.gt_f, U.ge_t, U.ge_f, U.eq_t, U.eq_f, U.ne_t, U.ne_f, U.not_t, U.not_f, U.andb_t, U.andb_f, SV.lit.injEq, SV.agg.injEq, SV.tup.injEq, List.cons.injEq, Value.int.injEq, Value.bool.injEq, true_and, and_true, lk_eq, U.rem_eq]
    refine ⟨fun _ => ⟨hz, ⟨a, b, B, A.tmod B⟩, ⟨rfl, hB, by show 0 ≤ A.tmod B; rw [e]; exact t3, ?_⟩, ?_, w0 ⟨rfl, rfl, trivial⟩, fun o ho => ho⟩, fun h => absurd h hz⟩
    · show Int.gcd B (A.tmod B) = Int.gcd a b
      rw [e, ← hg, show A % B = A - B * (A / B) by omega, Int.gcd_comm A B]
      exact Int.gcd_sub_mul_left_right B A (A / B)
    · show (A.tmod B).toNat < B.toNat
      rw [e]; omega
theorem loopD : LoopOK P (loopOf P 197 1) (few 12 [0, 1] gD) :=
  loop_few (E := E0) mixed E0_ok loopsOK_none 12 [0, 1] (X := XD) gD (fun _ x => VD x) PhiD (fun x => x.B.toNat) (fun _ x o => o = OD x)
    (fun n0 s r h => by
      unfold gD at h
      split at h
      · rename_i n0 a b
        obtain ⟨h0, ha, hb⟩ := (T.is_ask h).1
        obtain rfl := T.is_ret (T.is_ask h).2
        refine ⟨⟨a, b, a, b⟩, ⟨h0, ha, hb, rfl⟩, wk_of (idR 0) rfl (by rw [h0]; exact Nat.zero_le _) (fun b hb => by omega) ⟨rfl, rfl, trivial⟩ trivial, fun o ho => ?_⟩
        rw [ho]
        simp only [OD, lk_eq]
      · exact h.elim)
    roundD
theorem l119_ok : ∀ p ∈ l119, LoopsOK P p.2 (bodyOf P p.1) := by
  intro p hp
  simp only [l119, List.mem_singleton] at hp
  subst hp
  refine loopsOK_of (by kernel_rfl) fun k g hk => ?_
  simp only [List.mem_singleton, Prod.mk.injEq, LoopC.sum.injEq] at hk
  obtain ⟨rfl, rfl⟩ := hk
  exact loopD
noncomputable def c_Gcd : Con := fun args => match args with
  | [.lit (.int .i64 a), .lit (.int .i64 b)] => .ask (0 ≤ a ∧ 0 ≤ b) (.ret (.lit (.int .i64 (lk gcdI a b))))
  | _ => .stuck 1
set_option maxRecDepth 100000 in
theorem t_Gcd (a b : Int) : conB Go.Proofs.Try.prog (conOf []) (loopsOf l119) 10 197 [.lit (.int .i64 a), .lit (.int .i64 b)] =
    T.ask (PreD (nat_lit 0) a b) (.ret (.lit (.int .i64 (lk gcdI a b)))) := by kernel_rfl
theorem Gcd_ok : ConOK P 197 c_Gcd := con_of (allOKL mixed none_ok l119_ok) 10 197 fun args r h => by
  unfold c_Gcd at h
  split at h
  · rename_i a b
    have hp := (T.is_ask h).1
    have h := (T.is_ask h).2
    obtain rfl := T.is_ret h
    rw [t_Gcd]
    have hpre : PreD 0 a b := ⟨rfl, hp⟩
    simp only [T.All, hpre, lk_eq, true_and]
    try simp
  · exact h.elim
end Go.RX.Span

/- Ranges: the reference's search for a common number, in plain Lean. -/
set_option linter.unusedVariables false
set_option linter.unusedSimpArgs false
namespace Go.RX.Span
open Go Go.RX

/-- The search upwards in steps of s. -/
def se (aH x y z s : Int) : Nat → Int → Int
  | 0, f => f
  | n + 1, f => if f ≤ aH ∧ f ≤ y ∧ has x y z f = false then se aH x y z s n (f + s) else f
theorem se_go {aH x y z s f : Int} {n : Nat} (h : f ≤ aH ∧ f ≤ y ∧ has x y z f = false) : se aH x y z s (n + 1) f = se aH x y z s n (f + s) := by rw [se, if_pos h]
theorem se_end {aH x y z s f : Int} {n : Nat} (h : ¬ (f ≤ aH ∧ f ≤ y ∧ has x y z f = false)) : se aH x y z s n f = f := by
  cases n with
  | zero => rfl
  | succ n => rw [se, if_neg h]
theorem se_spec {aH x y z s : Int} : ∀ (n : Nat) (f : Int), ∃ j : Nat, j ≤ n ∧ se aH x y z s n f = f + s * j ∧ (∀ i : Nat, i < j → f + s * i ≤ aH ∧ f + s * i ≤ y ∧ has x y z (f + s * i) = false) ∧
    (j < n → ¬ (f + s * j ≤ aH ∧ f + s * j ≤ y ∧ has x y z (f + s * j) = false))
  | 0, f => ⟨0, Nat.le_refl _, by simp [se], fun i hi => by omega, fun h => by omega⟩
  | n + 1, f => by
    by_cases h : f ≤ aH ∧ f ≤ y ∧ has x y z f = false
    · obtain ⟨j, h1, h2, h3, h4⟩ := se_spec n (f + s) (aH := aH) (x := x) (y := y) (z := z) (s := s)
      have e : ∀ i : Nat, f + s + s * (i : Int) = f + s * ((i + 1 : Nat) : Int) := fun i => by rw [Int.natCast_add, Int.mul_add]; simp; omega
      refine ⟨j + 1, by omega, by rw [se_go h, h2, e], fun i hi => ?_, fun hj => by rw [← e]; exact h4 (by omega)⟩
      cases i with
      | zero => simpa using h
      | succ i => rw [← e]; exact h3 i (by omega)
    · exact ⟨0, Nat.zero_le _, by rw [se_end h]; simp, fun i hi => by omega, fun _ => by simpa using h⟩

theorem rin_has {a b c n : Int} (hr : Right a b c) : RIn a b c n ↔ has a b c n = true := by
  unfold has
  rw [decide_eq_true_iff]
  by_cases hab : a ≤ b
  · obtain ⟨p1, p2, p3, p4, p5, p6, p7, p8, p9, p10⟩ := parts hr hab
    obtain ⟨u1, u2⟩ := up_of hr hab
    unfold RIn sA sS SIn
    rw [u1, u2]
    have hd : (n - a) % c = 0 ↔ ∃ p, n = a + absI c * p := by
      constructor
      · intro h
        obtain ⟨k, hk⟩ := Int.dvd_of_emod_eq_zero h
        by_cases hc : c < 0
        · exact ⟨-k, by rw [absI_neg hc, Int.neg_mul_neg]; omega⟩
        · exact ⟨k, by rw [absI_pos hc]; omega⟩
      · rintro ⟨p, hp⟩
        apply Int.emod_eq_zero_of_dvd
        by_cases hc : c < 0
        · exact ⟨-p, by rw [absI_neg hc] at hp; rw [Int.mul_neg, ← Int.neg_mul]; omega⟩
        · exact ⟨p, by rw [absI_pos hc] at hp; omega⟩
    rw [hd]
    constructor
    · rintro ⟨h1, h2, h3, h4⟩; exact ⟨chk_zero.2 hr, h1, by omega, h4⟩
    · rintro ⟨h1, h2, h3, h4⟩; exact ⟨h2, by omega, by omega, h4⟩
  · have e := (empty_of (c := c) hab).2.2
    constructor
    · intro h; have := h.2.2.1; omega
    · intro h; omega

theorem rin_iff {a b c n : Int} (hr : Right a b c) (hab : a ≤ b) : RIn a b c n ↔ a ≤ n ∧ n ≤ b ∧ ∃ p, n = a + absI c * p := by
  obtain ⟨p1, p2, p3, p4, p5, p6, p7, p8, p9, p10⟩ := parts hr hab
  obtain ⟨u1, u2⟩ := up_of hr hab
  unfold RIn sA sS SIn
  rw [u1, u2]
  constructor
  · rintro ⟨h1, h2, h3, h4⟩; exact ⟨h1, by omega, h4⟩
  · rintro ⟨h1, h2, h4⟩; exact ⟨h1, by omega, by omega, h4⟩

/-- The first candidate of the reference. -/
def riF0 (a c x : Int) : Int := if max a x > a then a + (max a x - a + absI c - 1).tdiv (absI c) * absI c else a
theorem riF0_spec {a c x : Int} (hs : 1 ≤ absI c) : max a x ≤ riF0 a c x ∧ riF0 a c x < max a x + absI c ∧ ∃ p, 0 ≤ p ∧ riF0 a c x = a + absI c * p := by
  unfold riF0
  generalize absI c = s at *
  by_cases h : max a x > a
  · rw [if_pos h]
    have t1 := Int.tdiv_eq_ediv_of_nonneg (b := s) (show 0 ≤ max a x - a + s - 1 by omega)
    have t2 := Int.mul_ediv_add_emod (max a x - a + s - 1) s
    have t3 := Int.emod_nonneg (max a x - a + s - 1) (show s ≠ 0 by omega)
    have t4 := Int.emod_lt_of_pos (max a x - a + s - 1) (show 0 < s by omega)
    have t5 := Int.ediv_nonneg (show 0 ≤ max a x - a + s - 1 by omega) (show 0 ≤ s by omega)
    rw [t1, Int.mul_comm _ s]
    generalize (max a x - a + s - 1) / s = q at *
    exact ⟨by omega, by omega, q, t5, rfl⟩
  · rw [if_neg h]
    exact ⟨by omega, by omega, 0, by omega, by omega⟩
/-- Where the search ends. -/
def riF (a b c x y z : Int) : Int := se b x y z (absI c) (absI z).toNat (riF0 a c x)
def riG (a b c x y z : Int) : Bool := has a b c (riF a b c x y z) && has x y z (riF a b c x y z)
/-- The least common multiple. -/
def riM (c z : Int) : Int := (absI c).tdiv (gcdI (absI c) (absI z)) * absI z
def riQ (a b c x y z : Int) : Int := (min b y - riF a b c x y z).tdiv (riM c z)

theorem riM_eq {c z : Int} (hs : 1 ≤ absI c) (ht : 1 ≤ absI z) : ∃ g s' m u w, absI c = g * s' ∧ absI z = g * m ∧ g = absI c * w + absI z * u ∧ 1 ≤ g ∧ 1 ≤ m ∧ m ≤ absI z ∧ riM c z = absI c * m := by
  obtain ⟨g1, g2, s', m, u, g3, g4, g5, g6, g7, g8, g9, g10⟩ := eu_facts hs ht
  refine ⟨_, s', m, u, _, g3, g4, g9, g1, g6, g7, ?_⟩
  have e : gcdI (absI c) (absI z) = euG (absI c) (absI z) := (eu_spec (by omega) (by omega)).1.symm
  unfold riM
  rw [e]
  have : (absI c).tdiv (euG (absI c) (absI z)) = s' := by
    have h := Int.mul_tdiv_cancel_left s' (show euG (absI c) (absI z) ≠ 0 by omega)
    rw [← g3] at h
    exact h
  rw [this]
  generalize euG (absI c) (absI z) = g at *
  generalize absI c = s at *
  generalize absI z = t at *
  subst g3; subst g4
  grind

theorem ri_set {a b c x y z : Int} (h : Right a b c) (h' : Right x y z) (hab : a ≤ b) (hxy : x ≤ y) :
    (riG a b c x y z = true → Sw (riF a b c x y z) (riM c z) (riQ a b c x y z + 1) ∧ (0 ≤ riQ a b c x y z ∧ riQ a b c x y z ≤ 2000000) ∧ riF a b c x y z ≤ min b y ∧ ∀ n, SIn (riF a b c x y z) (riM c z) (riQ a b c x y z + 1) n ↔ RIn a b c n ∧ RIn x y z n) ∧
    (riG a b c x y z = false → ∀ n, ¬ (RIn a b c n ∧ RIn x y z n)) := by
  obtain ⟨s1, s2, _⟩ := parts h hab
  obtain ⟨t1, t2, _⟩ := parts h' hxy
  have hla := h.1
  have hlx := h'.1
  obtain ⟨f1, f2, p0, f3, f4⟩ := riF0_spec (a := a) (c := c) (x := x) s1
  obtain ⟨j, j1, j2, j3, j4⟩ := se_spec (aH := b) (x := x) (y := y) (z := z) (s := absI c) (absI z).toNat (riF0 a c x)
  have hF : riF a b c x y z = riF0 a c x + absI c * j := j2
  obtain ⟨g, s', m, u, w, g3, g4, g9, g1, g6, g7, gl⟩ := riM_eq s1 t1
  -- a number of both is so many steps behind the first candidate
  have beh : ∀ n, RIn a b c n → RIn x y z n → ∃ i : Nat, n = riF0 a c x + absI c * i := fun n k1 k2 => by
    obtain ⟨a1, a2, p, a3⟩ := (rin_iff h hab).1 k1
    obtain ⟨b1, b2, _⟩ := (rin_iff h' hxy).1 k2
    have e : n - riF0 a c x = absI c * (p - p0) := by rw [Int.mul_sub]; omega
    have hp : 0 ≤ p - p0 := by
      rcases Int.lt_or_le (p - p0) 0 with hneg | hpos
      · have := Int.mul_le_mul_of_nonneg_left (show p - p0 ≤ -1 by omega) (show (0 : Int) ≤ absI c by omega)
        omega
      · exact hpos
    exact ⟨(p - p0).toNat, by rw [Int.toNat_of_nonneg hp]; omega⟩
  constructor
  · intro hg
    unfold riG at hg
    rw [Bool.and_eq_true] at hg
    have m1 := (rin_iff h hab).1 ((rin_has h).2 hg.1)
    have m2 := (rin_iff h' hxy).1 ((rin_has h').2 hg.2)
    have both := fun n => cm_both (n := n) g3 g4 g9 g1 m1.2.2 m2.2.2
    have hM1 : 1 ≤ riM c z := by
      rw [gl]
      have := mulle (s := absI c) (x := 1) (y := m) s1 g6
      omega
    have hMt : riM c z ≤ 4000000000000 := by
      rw [gl]
      have := mulle (s := absI c) (x := m) (y := 2000000) s1 (by omega)
      omega
    have hh : riF a b c x y z ≤ min b y := by omega
    have u1 := Int.tdiv_eq_ediv_of_nonneg (b := riM c z) (show 0 ≤ min b y - riF a b c x y z by omega)
    have u2 := Int.mul_ediv_add_emod (min b y - riF a b c x y z) (riM c z)
    have u3 := Int.emod_nonneg (min b y - riF a b c x y z) (show riM c z ≠ 0 by omega)
    have u4 := Int.emod_lt_of_pos (min b y - riF a b c x y z) (show 0 < riM c z by omega)
    have u5 := Int.ediv_nonneg (show 0 ≤ min b y - riF a b c x y z by omega) (show 0 ≤ riM c z by omega)
    have hQ : riQ a b c x y z = (min b y - riF a b c x y z) / riM c z := u1
    obtain ⟨q, hq⟩ : ∃ q, q = riQ a b c x y z := ⟨_, rfl⟩
    rw [← hQ, ← hq] at u2 u5
    rw [← hq]
    have hqm := mulle (s := riM c z) (x := 0) (y := q) hM1 u5
    have hq2 : q ≤ riM c z * q := by
      have := Int.mul_le_mul_of_nonneg_right hM1 u5
      omega
    refine ⟨.inr ⟨by omega, hM1, hMt, by omega, by rw [show q + 1 - 1 = q by omega]; omega⟩, ⟨u5, by omega⟩, hh, fun n => ?_⟩
    constructor
    · rintro ⟨x1, x2, x3, x4⟩
      rw [show q + 1 - 1 = q by omega] at x2
      rw [gl] at x4
      obtain ⟨y1, y2⟩ := (both n).2 x4
      exact ⟨(rin_iff h hab).2 ⟨by omega, by omega, y1⟩, (rin_iff h' hxy).2 ⟨by omega, by omega, y2⟩⟩
    · rintro ⟨x1, x2⟩
      have y1 := (rin_iff h hab).1 x1
      have y2 := (rin_iff h' hxy).1 x2
      obtain ⟨p, hp⟩ := (both n).1 ⟨y1.2.2, y2.2.2⟩
      rw [← gl] at hp
      have hFn : riF a b c x y z ≤ n := by
        obtain ⟨i, hi⟩ := beh n x1 x2
        rcases Nat.lt_or_ge i j with hlt | hge
        · have hf := (j3 i hlt).2.2
          rw [← hi, (rin_has h').1 x2] at hf
          cases hf
        · have := mulle (s := absI c) (x := (j : Int)) (y := (i : Int)) s1 (by omega)
          omega
      refine ⟨hFn, ?_, by omega, p, hp⟩
      rw [show q + 1 - 1 = q by omega]
      rcases Int.lt_or_le q p with hlt | hle
      · have := mulle (s := riM c z) (x := q + 1) (y := p) hM1 (by omega)
        rw [Int.mul_add, Int.mul_one] at this
        omega
      · have := mulle (s := riM c z) (x := p) (y := q) hM1 hle
        omega
  · rintro hg n ⟨k1, k2⟩
    obtain ⟨i, hi⟩ := beh n k1 k2
    obtain ⟨a1, a2, pa, a3⟩ := (rin_iff h hab).1 k1
    obtain ⟨b1, b2, pb, b3⟩ := (rin_iff h' hxy).1 k2
    -- the same number, less a common multiple
    have d1 := Int.mul_ediv_add_emod (i : Int) (absI z)
    have d2 := Int.emod_nonneg (i : Int) (show absI z ≠ 0 by omega)
    have d3 := Int.emod_lt_of_pos (i : Int) (show 0 < absI z by omega)
    have d4 := Int.ediv_nonneg (show (0 : Int) ≤ i by omega) (show 0 ≤ absI z by omega)
    obtain ⟨i', hi'⟩ : ∃ i' : Nat, (i' : Int) = (i : Int) % absI z := ⟨((i : Int) % absI z).toNat, Int.toNat_of_nonneg d2⟩
    rw [← hi'] at d1 d2 d3
    have hle : (i' : Int) ≤ i := by
      have := mulle (s := absI z) (x := 0) (y := (i : Int) / absI z) t1 d4
      omega
    have e1 : riF0 a c x + absI c * i' = a + absI c * (p0 + i') := by rw [Int.mul_add]; omega
    have e2 : riF0 a c x + absI c * i' = x + absI z * (pb - absI c * ((i : Int) / absI z)) := by
      have : absI c * (i : Int) = absI c * (absI z * ((i : Int) / absI z)) + absI c * i' := by rw [← Int.mul_add]; rw [d1]
      rw [Int.mul_sub, Int.mul_left_comm]
      omega
    have m1 := mulle (s := absI c) (x := (i' : Int)) (y := (i : Int)) s1 hle
    have m2 := mulle (s := absI c) (x := 0) (y := (i' : Int)) s1 (by omega)
    have r1 : RIn a b c (riF0 a c x + absI c * i') := (rin_iff h hab).2 ⟨by omega, by omega, _, e1⟩
    have r2 : RIn x y z (riF0 a c x + absI c * i') := (rin_iff h' hxy).2 ⟨by omega, by omega, _, e2⟩
    have both : riG a b c x y z = true := by
      unfold riG
      rw [Bool.and_eq_true]
      rcases Nat.lt_trichotomy j i' with hlt | heq | hgt
      · have hn := j4 (by omega)
        have m3 := mulle (s := absI c) (x := (j : Int)) (y := (i' : Int)) s1 (by omega)
        have m4 := mulle (s := absI c) (x := 0) (y := (j : Int)) s1 (by omega)
        have r3 : RIn a b c (riF0 a c x + absI c * j) := (rin_iff h hab).2 ⟨by omega, by omega, p0 + j, by rw [Int.mul_add]; omega⟩
        rw [hF]
        refine ⟨(rin_has h).1 r3, ?_⟩
        cases hb : has x y z (riF0 a c x + absI c * j)
        · exact absurd ⟨by omega, by omega, hb⟩ hn
        · rfl
      · rw [hF, heq]
        exact ⟨(rin_has h).1 r1, (rin_has h').1 r2⟩
      · have hf := (j3 i' hgt).2.2
        rw [(rin_has h').1 r2] at hf
        cases hf
    rw [both] at hg
    cases hg

/-- The reference's range is the program's. -/
theorem ri_is {a b c x y z : Int} (h : Right a b c) (h' : Right x y z) (hab : a ≤ b) (hxy : x ≤ y) :
    (riG a b c x y z = true → isL a b c x y z = rnL (riF a b c x y z) (riF a b c x y z + riQ a b c x y z * riM c z) (riM c z) (decide (c < 0)) ∧ isH a b c x y z = rnH (riF a b c x y z) (riF a b c x y z + riQ a b c x y z * riM c z) (riM c z) (decide (c < 0)) ∧
      isS a b c x y z = rnS (riF a b c x y z) (riF a b c x y z + riQ a b c x y z * riM c z) (riM c z) (decide (c < 0))) ∧
    (riG a b c x y z = false → isL a b c x y z = 1 ∧ isH a b c x y z = 0 ∧ isS a b c x y z = 1) := by
  have hn : ¬ ckd a b c x y z ≠ 0 := by simp [ckd_zero h h']
  obtain ⟨w1, w2⟩ := is_sw h h'
  obtain ⟨r1, r2⟩ := ri_set h h' hab hxy
  simp only [isL, isH, isS, if_neg hn]
  constructor
  · intro hg
    obtain ⟨v1, v2, v3, v4⟩ := r1 hg
    obtain ⟨e1, e2⟩ := sIn_ext w1 v1 (fun n => (w2 n).trans (v4 n).symm)
    generalize isC a b c x y z = C at *
    generalize isF a b c x y z = F at *
    generalize isB a b c x y z = B at *
    generalize riQ a b c x y z = q at *
    generalize riF a b c x y z = F' at *
    generalize riM c z = M at *
    subst e1
    obtain ⟨e2, e3⟩ := e2 (by omega)
    subst e2
    rw [show q + 1 - 1 = q by omega] at e3
    have w := w1.resolve_left (by omega)
    have v := v1.resolve_left (by omega)
    obtain ⟨q1, q2, q3, q4⟩ := nrm_like (f := F) (s := B) (C := q + 1) (c := c) w.2.1
    have m0 := mulle (s := M) (x := 0) (y := q) v.2.1 (by omega)
    rw [Int.mul_zero] at m0
    have n1 : ¬ q + 1 ≤ 0 := by omega
    have e0 : mvE F B (q + 1) = 0 := by unfold mvE; rw [if_neg n1, if_pos (by rw [show q + 1 - 1 = q by omega] at w ⊢; omega)]
    rw [q2, q3, q4]
    simp only [mvLow, mvHigh, mvStr, e0, if_neg n1, if_true]
    rw [show q + 1 - 1 = q by omega, e3, Int.mul_comm q M]
    unfold rnL rnH rnS
    rw [if_neg (by omega), if_neg (by omega)]
    refine ⟨rfl, rfl, ?_⟩
    by_cases hq : q = 0
    · subst hq; simp
    · have m1 := mulle (s := M) (x := 1) (y := q) v.2.1 (by omega)
      have hB : B = M := Int.eq_of_mul_eq_mul_right hq e3
      subst hB
      rw [if_neg (show ¬ (q + 1 = 1) by omega), if_neg (show ¬ (F ≥ F + B * q) by omega)]
      by_cases hc : c < 0 <;> simp [hc]
  · intro hg
    have hC : isC a b c x y z = 0 := by
      rcases w1 with h0 | h1
      · exact h0
      · exact absurd ((w2 _).1 (sIn_first h1.2.1 h1.1)) (r2 hg _)
    rw [hC]
    simp [nLow, nHigh, nStr]
end Go.RX.Span

/- Ranges: what Subtract returns, in plain Lean. -/
set_option linter.unusedVariables false
set_option linter.unusedSimpArgs false
namespace Go.RX.Span
open Go Go.RX

abbrev R3 := Els [.int .i64, .int .i64, .int .i64]
/-- A series upwards as a range in a direction. -/
def pc (f s n c : Int) : R3 := (mvLow f s n, mvHigh f s n, mvStr f s n c, ())
section
variable (a b c x y z : Int)
/-- The last number of both. -/
def sbL : Int := isF a b c x y z + isB a b c x y z * (isC a b c x y z - 1)
def sbT : Int := sA a b c + sS a b c * (ofC a b c - 1)
def sbN0 : Nat := if sA a b c < isF a b c x y z then 1 else 0
def sbM : Nat := if 1 < isC a b c x y z then ((isB a b c x y z).tdiv (sS a b c) - 1).toNat else 0
def sbN1 : Nat := if sbL a b c x y z < sbT a b c then 1 else 0
def sbAll : Nat := sbN0 a b c x y z + sbM a b c x y z + sbN1 a b c x y z
def sbN : Nat := if ckd a b c x y z ≠ 0 then 0 else if isC a b c x y z = 0 then (if 0 < ofC a b c then 1 else 0) else if 1000 < sbAll a b c x y z then 0 else sbAll a b c x y z
def sbE : Int := if ckd a b c x y z ≠ 0 then ckd a b c x y z else if isC a b c x y z = 0 then 0 else if 1000 < sbAll a b c x y z then 7 else 0
def sbIn (i : Nat) : R3 := pc (isF a b c x y z + sS a b c * (i + 1)) (isB a b c x y z) (isC a b c x y z - 1) c
def sbF (i : Nat) : R3 := if isC a b c x y z = 0 then pc (sA a b c) (sS a b c) (ofC a b c) c
  else if i < sbN0 a b c x y z then pc (sA a b c) (sS a b c) ((isF a b c x y z - sA a b c).tdiv (sS a b c)) c
  else if i < sbN0 a b c x y z + sbM a b c x y z then sbIn a b c x y z (i - sbN0 a b c x y z)
  else pc (sbL a b c x y z + sS a b c) (sS a b c) ((sbT a b c - sbL a b c x y z).tdiv (sS a b c)) c
end

/-- What both have, seen from the first range. -/
theorem sb_facts {a b c x y z : Int} (h : Right a b c) (h' : Right x y z) (hn : isC a b c x y z ≠ 0) :
    a ≤ b ∧ x ≤ y ∧ sA a b c = a ∧ sS a b c = absI c ∧ 1 ≤ absI c ∧ absI c ≤ 2000000 ∧ sbT a b c = b ∧ 1 ≤ isC a b c x y z ∧ isC a b c x y z ≤ 2000001 ∧ 1 ≤ isB a b c x y z ∧ isB a b c x y z ≤ 4000000000000 ∧
    -1000000 ≤ a ∧ b ≤ 1000000 ∧ isF a b c x y z ≤ sbL a b c x y z ∧
    ∃ k0 k1 : Int, 0 ≤ k0 ∧ 0 ≤ k1 ∧ k0 ≤ 2000000 ∧ k1 ≤ 2000000 ∧ isF a b c x y z = a + absI c * k0 ∧ b = sbL a b c x y z + absI c * k1 ∧
      (isF a b c x y z - sA a b c).tdiv (sS a b c) = k0 ∧ (sbT a b c - sbL a b c x y z).tdiv (sS a b c) = k1 ∧
      (1 < isC a b c x y z → ∃ m : Int, 1 ≤ m ∧ m ≤ 2000000 ∧ isB a b c x y z = absI c * m ∧ (isB a b c x y z).tdiv (sS a b c) = m ∧ isB a b c x y z ≤ 2000000) := by
  obtain ⟨w1, w2⟩ := is_sw h h'
  obtain ⟨c1, c2, c3, c4, c5⟩ := w1.resolve_left hn
  have f1 := (w2 _).1 (sIn_first c2 c1)
  have f2 := (w2 _).1 (sIn_last c2 c1)
  have hab : a ≤ b := by
    by_cases hab : a ≤ b
    · exact hab
    · have e := (empty_of (c := c) hab).2.2
      have := f1.1.2.2.1
      omega
  have hxy : x ≤ y := by
    by_cases hxy : x ≤ y
    · exact hxy
    · have e := (empty_of (c := z) hxy).2.2
      have := f1.2.2.2.1
      omega
  obtain ⟨p1, p2, p3, p4, p5, _⟩ := parts h hab
  obtain ⟨u1, u2⟩ := up_of h hab
  have eA : sA a b c = a := u1
  have eS : sS a b c = absI c := u2
  have eT : sbT a b c = b := by unfold sbT; rw [eA, eS]; omega
  obtain ⟨g1, g2, k0, g3⟩ := (rin_iff h hab).1 f1.1
  obtain ⟨g4, g5, k2, g6⟩ := (rin_iff h hab).1 f2.1
  have hl := h.1
  have hpos : ∀ {k : Int}, 0 ≤ absI c * k → 0 ≤ k := fun {k} hk => by
    rcases Int.lt_or_le k 0 with hneg | hp
    · have := Int.mul_le_mul_of_nonneg_left (show k ≤ -1 by omega) (show (0 : Int) ≤ absI c by omega)
      omega
    · exact hp
  have hk0 : 0 ≤ k0 := hpos (by omega)
  have e5 : absI c * (ofC a b c - 1 - k2) = b - sbL a b c x y z := by
    unfold sbL
    rw [Int.mul_sub, p5]; omega
  have hk1 : 0 ≤ ofC a b c - 1 - k2 := hpos (by rw [e5]; unfold sbL; omega)
  have hle : ∀ {k : Int}, 0 ≤ k → k ≤ absI c * k := fun {k} hk => by
    have := Int.mul_le_mul_of_nonneg_right p1 hk
    omega
  have m0 := hle hk0
  have m1 := hle hk1
  have hFL : isF a b c x y z ≤ sbL a b c x y z := by
    unfold sbL
    have := mulle (s := isB a b c x y z) (x := 0) (y := isC a b c x y z - 1) c2 (by omega)
    omega
  have hCC : isC a b c x y z ≤ 2000001 := by
    have := Int.mul_le_mul_of_nonneg_right c2 (show 0 ≤ isC a b c x y z - 1 by omega)
    omega
  refine ⟨hab, hxy, eA, eS, p1, p2, eT, c1, hCC, c2, c3, by omega, by omega, hFL, k0, ofC a b c - 1 - k2, hk0, hk1, by omega, ?_, g3, by omega, ?_, ?_, fun hC => ?_⟩
  · have : sbL a b c x y z = isF a b c x y z + isB a b c x y z * (isC a b c x y z - 1) := rfl
    omega
  · rw [eA, eS, g3, show a + absI c * k0 - a = absI c * k0 by omega]
    exact Int.mul_tdiv_cancel_left _ (by omega)
  · rw [eT, eS, ← e5]
    exact Int.mul_tdiv_cancel_left _ (by omega)
  · obtain ⟨_, g8, k3, g9⟩ := (rin_iff h hab).1 ((w2 _).1 (sIn_second c2 (by omega : 2 ≤ isC a b c x y z))).1
    have e : isB a b c x y z = absI c * (k3 - k0) := by rw [Int.mul_sub]; omega
    have hm : 1 ≤ k3 - k0 := by
      have := hpos (k := k3 - k0) (by omega)
      by_cases hz : k3 - k0 = 0
      · rw [hz, Int.mul_zero] at e; omega
      · omega
    have m3 := hle (k := k3 - k0) (by omega)
    exact ⟨k3 - k0, hm, by omega, e, by rw [eS, e]; exact Int.mul_tdiv_cancel_left _ (by omega), by omega⟩
end Go.RX.Span

/- Domains: plain specifications. -/
set_option linter.unusedVariables false
set_option linter.unusedSimpArgs false
namespace Go.RX.Span
open Go Go.RX

def rA (r : R3) : Int := r.1
def rB (r : R3) : Int := r.2.1
def rC (r : R3) : Int := r.2.2.1
/-- The error of one range of a domain. -/
def ck1 (r : R3) : Int := if chk (rA r) (rB r) (rC r) ≠ 0 then chk (rA r) (rB r) (rC r) else if rC r < 0 then 2 else 0
/-- Whether a map is right. -/
def fitB (k s h : Int) : Bool := decide ((k = 0 ∧ s = 0 ∧ 0 ≤ h ∧ h < 8) ∨ ((k = 1 ∨ k = 2 ∨ k = 4) ∧ s = 0 ∧ h = 0) ∨ (k = 3 ∧ 1 ≤ s ∧ s ≤ 1000 ∧ h = 0))
/-- The error of a domain. -/
def chD (n : Nat) (f : Nat → R3) (k s h : Int) : Int := if n < 1 ∨ 2 < n then 5 else if ck1 (f 0) ≠ 0 then ck1 (f 0) else if n = 2 ∧ ck1 (f 1) ≠ 0 then ck1 (f 1) else if fitB k s h = true then 0 else 2
def szR (r : R3) : Int := size (rA r) (rB r) (rC r)
def colD (n : Nat) (f : Nat → R3) : Int := if n = 1 then 1 else szR (f 1)
def szD (n : Nat) (f : Nat → R3) (k s h : Int) : Int := if chD n f k s h ≠ 0 then 0 else szR (f 0) * colD n f
def Row64 (n : Nat) (f : Nat → R3) : Prop := ∀ i, i < n → I64 (rA (f i)) ∧ I64 (rB (f i)) ∧ I64 (rC (f i))
def RR (r : R3) : Prop := Right (rA r) (rB r) (rC r) ∧ 0 < rC r
def DR (n : Nat) (f : Nat → R3) : Prop := (n = 1 ∨ n = 2) ∧ ∀ i, i < n → RR (f i)
theorem ck1_zero {r : R3} : ck1 r = 0 ↔ RR r := by
  unfold ck1 RR
  by_cases h : chk (rA r) (rB r) (rC r) = 0
  · rw [if_neg (by simp [h])]
    have hr := chk_zero.1 h
    have hc := right_c hr
    by_cases hn : rC r < 0
    · rw [if_pos hn]
      constructor
      · intro h; omega
      · rintro ⟨_, h⟩; omega
    · rw [if_neg hn]
      exact ⟨fun _ => ⟨hr, by omega⟩, fun _ => rfl⟩
  · rw [if_pos h]
    exact ⟨fun h' => absurd h' h, fun h' => absurd (chk_zero.2 h'.1) h⟩
theorem chD_zero {n : Nat} {f : Nat → R3} {k s h : Int} : chD n f k s h = 0 ↔ DR n f ∧ fitB k s h = true := by
  unfold chD DR
  by_cases h1 : n < 1 ∨ 2 < n
  · rw [if_pos h1]
    exact ⟨fun h => by omega, fun h => by omega⟩
  rw [if_neg h1]
  by_cases h2 : ck1 (f 0) = 0
  · rw [if_neg (by simp [h2])]
    by_cases h3 : n = 2 ∧ ck1 (f 1) ≠ 0
    · rw [if_pos h3]
      exact ⟨fun h => absurd h h3.2, fun h => absurd (ck1_zero.2 (h.1.2 1 (by omega))) h3.2⟩
    · rw [if_neg h3]
      have hall : ∀ i, i < n → RR (f i) := fun i hi => by
        rcases (show i = 0 ∨ i = 1 by omega) with rfl | rfl
        · exact ck1_zero.1 h2
        · exact ck1_zero.1 (Classical.byContradiction fun h => h3 ⟨by omega, h⟩)
      by_cases h4 : fitB k s h = true
      · rw [if_pos h4]
        exact ⟨fun _ => ⟨⟨by omega, hall⟩, h4⟩, fun _ => rfl⟩
      · rw [if_neg h4]
        exact ⟨fun h => by omega, fun h => absurd h.2 h4⟩
  · rw [if_pos h2]
    exact ⟨fun h => absurd h h2, fun h => absurd (ck1_zero.2 (h.1.2 0 (by omega))) h2⟩
theorem rr_size {r : R3} (h : RR r) : szR r = ofC (rA r) (rB r) (rC r) ∧ 0 ≤ szR r ∧ szR r ≤ 2000001 := by
  have e : szR r = ofC (rA r) (rB r) (rC r) := size_eq' h.1
  have := ofC_bnd h.1
  exact ⟨e, by omega, by omega⟩
theorem dr_col {n : Nat} {f : Nat → R3} (h : DR n f) : 0 ≤ colD n f ∧ colD n f ≤ 2000001 := by
  unfold colD
  by_cases h1 : n = 1
  · rw [if_pos h1]; omega
  · rw [if_neg h1]
    have hn := h.1
    have := rr_size (h.2 1 (by omega))
    omega
theorem szD_right {n : Nat} {f : Nat → R3} {k s h : Int} (hr : chD n f k s h = 0) : szD n f k s h = szR (f 0) * colD n f := by unfold szD; rw [if_neg (by simp [hr])]
theorem dr_prod {n : Nat} {f : Nat → R3} (h : DR n f) : 0 ≤ szR (f 0) * colD n f ∧ szR (f 0) * colD n f ≤ 5000000000000 := by
  have hn := h.1
  have h0 := rr_size (h.2 0 (by omega))
  have h1 := dr_col h
  refine ⟨Int.mul_nonneg h0.2.1 h1.1, ?_⟩
  have := Int.mul_le_mul h0.2.2 h1.2 h1.1 (by omega)
  omega
/-- Right ranges as numbers of 64 bits. -/
theorem rr_64 {r : R3} (h : RR r) : I64 (rA r) ∧ I64 (rB r) ∧ I64 (rC r) := by
  have h1 := h.1.1
  have h2 := right_c h.1
  unfold I64
  omega
theorem dr_64 {n : Nat} {f : Nat → R3} (h : DR n f) : Row64 n f := fun i hi => rr_64 (h.2 i hi)

/-- What two ranges have both. -/
def isR (r q : R3) : R3 := (isL (rA r) (rB r) (rC r) (rA q) (rB q) (rC q), isH (rA r) (rB r) (rC r) (rA q) (rB q) (rC q), isS (rA r) (rB r) (rC r) (rA q) (rB q) (rC q), ())
def RInR (r : R3) (v : Int) : Prop := RIn (rA r) (rB r) (rC r) v
theorem isR_spec {r q : R3} (h : RR r) (h' : RR q) : RR (isR r q) ∧ (∀ v, RInR (isR r q) v ↔ RInR r v ∧ RInR q v) ∧ szR (isR r q) ≤ szR r ∧ (szR (isR r q) = szR r ↔ ∀ v, RInR r v → RInR q v) := by
  obtain ⟨i1, i2, i3⟩ := is_set h.1 h'.1
  have hpos : 0 < rC (isR r q) := by
    show 0 < isS (rA r) (rB r) (rC r) (rA q) (rB q) (rC q)
    have hn : ¬ ckd (rA r) (rB r) (rC r) (rA q) (rB q) (rC q) ≠ 0 := by simp [ckd_zero h.1 h'.1]
    have hc := h.2
    simp only [isS, if_neg hn]
    rcases (is_sw h.1 h'.1).1 with h0 | h1
    · rw [h0]; simp [nStr]
    · obtain ⟨q1, q2, q3, q4⟩ := nrm_like (f := isF (rA r) (rB r) (rC r) (rA q) (rB q) (rC q)) (s := isB (rA r) (rB r) (rC r) (rA q) (rB q) (rC q)) (C := isC (rA r) (rB r) (rC r) (rA q) (rB q) (rC q)) (c := rC r) h1.2.1
      have m0 := mulle (x := 0) (y := isC (rA r) (rB r) (rC r) (rA q) (rB q) (rC q) - 1) h1.2.1 (by omega)
      rw [Int.mul_zero] at m0
      have n1 : ¬ isC (rA r) (rB r) (rC r) (rA q) (rB q) (rC q) ≤ 0 := by omega
      rw [q4]
      have e0 : mvE (isF (rA r) (rB r) (rC r) (rA q) (rB q) (rC q)) (isB (rA r) (rB r) (rC r) (rA q) (rB q) (rC q)) (isC (rA r) (rB r) (rC r) (rA q) (rB q) (rC q)) = 0 := by unfold mvE; rw [if_neg n1, if_pos (by omega)]
      simp only [mvStr, e0, if_neg n1, if_true]
      rw [if_neg (show ¬ rC r < 0 by omega)]
      split <;> omega
  have hsz : szR (isR r q) = isC (rA r) (rB r) (rC r) (rA q) (rB q) (rC q) := by
    obtain ⟨w1, w2⟩ := is_sw h.1 h'.1
    obtain ⟨e1, _⟩ := sIn_ext (up_ser i2).sw w1 (fun n => (i3 n).trans (w2 n).symm)
    exact (size_eq' i2).trans e1
  have hw := wi_set h.1 h'.1
  have hn : ¬ ckd (rA r) (rB r) (rC r) (rA q) (rB q) (rC q) ≠ 0 := by simp [ckd_zero h.1 h'.1]
  rw [show wiB (rA r) (rB r) (rC r) (rA q) (rB q) (rC q) = decide (isC (rA r) (rB r) (rC r) (rA q) (rB q) (rC q) = ofC (rA r) (rB r) (rC r)) by unfold wiB; rw [if_neg hn], decide_eq_true_iff] at hw
  have e2 := (rr_size h).1
  refine ⟨⟨i2, hpos⟩, i3, ?_, ?_⟩
  · rw [hsz, e2]
    by_cases hC : isC (rA r) (rB r) (rC r) (rA q) (rB q) (rC q) = 0
    · have := ofC_bnd h.1; omega
    · obtain ⟨hab, hxy, eA, eS, s1, s2, eT, C1, C2, B1, B2, lo, hi, FL, k0, k1, k0n, k1n, k0b, k1b, eF, eb, eK0, eK1, hm⟩ := sb_facts h.1 h'.1 hC
      have p5 := (parts h.1 hab).2.2.2.2.1
      have p3 := (parts h.1 hab).2.2.1
      have m0 := mulle (s := absI (rC r)) (x := 0) (y := k0) s1 k0n
      have m1 := mulle (s := absI (rC r)) (x := 0) (y := k1) s1 k1n
      rcases Int.lt_or_le 1 (isC (rA r) (rB r) (rC r) (rA q) (rB q) (rC q)) with h1 | h1
      · obtain ⟨m, q1, q2, q3, q4, q5⟩ := hm h1
        have g1 : absI (rC r) ≤ isB (rA r) (rB r) (rC r) (rA q) (rB q) (rC q) := by
          rw [q3]
          have := mulle (s := absI (rC r)) (x := 1) (y := m) s1 q1
          omega
        have g2 := Int.mul_le_mul_of_nonneg_right g1 (show 0 ≤ isC (rA r) (rB r) (rC r) (rA q) (rB q) (rC q) - 1 by omega)
        have eL : sbL (rA r) (rB r) (rC r) (rA q) (rB q) (rC q) = isF (rA r) (rB r) (rC r) (rA q) (rB q) (rC q) + isB (rA r) (rB r) (rC r) (rA q) (rB q) (rC q) * (isC (rA r) (rB r) (rC r) (rA q) (rB q) (rC q) - 1) := rfl
        have g3 : absI (rC r) * (isC (rA r) (rB r) (rC r) (rA q) (rB q) (rC q) - 1) ≤ absI (rC r) * (ofC (rA r) (rB r) (rC r) - 1) := by omega
        have := Int.le_of_mul_le_mul_left g3 (by omega)
        omega
      · omega
  · rw [hsz, e2]; exact hw

theorem rr_none {r : R3} (h : RR r) (hz : szR r = 0) (v : Int) : ¬ RInR r v := fun hv => by
  have := hv.2.2.1
  have := (rr_size h).1
  omega
theorem rr_some {r : R3} (h : RR r) (hz : szR r ≠ 0) : ∃ v, RInR r v := by
  obtain ⟨e1, e2, e3⟩ := rr_size h
  have := (up_ser h.1).resolve_left (by omega)
  exact ⟨_, sIn_first this.2.2.1 this.1⟩
theorem rr_ext {r q : R3} (h : RR r) (h' : RR q) (he : ∀ v, RInR r v ↔ RInR q v) : rA r = rA q ∧ rB r = rB q ∧ rC r = rC q := by
  obtain ⟨e1, e2, e3⟩ := rin_ext h.1 h'.1 he
  refine ⟨e1, e2, ?_⟩
  by_cases hab : rA r ≤ rB r
  · obtain ⟨p1, p2, p3, p4, p5, _, _, _, _, p10⟩ := parts h.1 hab
    obtain ⟨q1, q2, q3, q4, q5, _, _, _, _, q10⟩ := parts h'.1 (by omega)
    have c1 := h.2
    have c2 := h'.2
    rw [absI_pos (by omega)] at p5 q5
    by_cases hl : rA r = rB r
    · rw [p10 hl, q10 (by omega)]
    · have hC : ofC (rA r) (rB r) (rC r) - 1 ≠ 0 := fun hz => by rw [hz, Int.mul_zero] at p5; omega
      rw [← e3] at q5
      exact Int.eq_of_mul_eq_mul_right hC (by omega)
  · have i1 := empty_is h.1 hab
    have i2 := empty_is h'.1 (by omega)
    omega

section
variable (n : Nat) (f : Nat → R3) (k s h : Int) (m : Nat) (g : Nat → R3) (k' s' h' : Int)
def boE : Int := if chD n f k s h ≠ 0 then chD n f k s h else if chD m g k' s' h' ≠ 0 then chD m g k' s' h' else if n ≠ m then 5 else 0
def diN : Nat := if boE n f k s h m g k' s' h' ≠ 0 then 0 else n
def diX (x : Int) : Int := if boE n f k s h m g k' s' h' ≠ 0 then 0 else x
def wiD : Bool := if boE n f k s h m g k' s' h' ≠ 0 then false else decide (szD n (fun i => isR (f i) (g i)) k s h = szD n f k s h)
noncomputable def saD : Bool := if boE n f k s h m g k' s' h' ≠ 0 then false else if szD n f k s h = 0 ∨ szD m g k' s' h' = 0 then decide (szD n f k s h = szD m g k' s' h') else eqR3 n f m g
end
def diF (f g : Nat → R3) : Nat → R3 := fun i => isR (f i) (g i)

section
variable {n : Nat} {f : Nat → R3} {k s h : Int} {m : Nat} {g : Nat → R3} {k' s' h' : Int}
theorem boE_zero : boE n f k s h m g k' s' h' = 0 ↔ chD n f k s h = 0 ∧ chD m g k' s' h' = 0 ∧ n = m := by
  unfold boE
  by_cases h1 : chD n f k s h = 0
  · rw [if_neg (by simp [h1])]
    by_cases h2 : chD m g k' s' h' = 0
    · rw [if_neg (by simp [h2])]
      by_cases h3 : n = m
      · rw [if_neg (by simp [h3])]; exact ⟨fun _ => ⟨h1, h2, h3⟩, fun _ => rfl⟩
      · rw [if_pos h3]; exact ⟨fun h => by omega, fun h => absurd h.2.2 h3⟩
    · rw [if_pos h2]; exact ⟨fun h => absurd h h2, fun h => absurd h.2.1 h2⟩
  · rw [if_pos h1]; exact ⟨fun h => absurd h h1, fun h => absurd h.1 h1⟩
theorem di_right (hE : boE n f k s h m g k' s' h' = 0) : chD n (diF f g) k s h = 0 := by
  obtain ⟨h1, h2, h3⟩ := boE_zero.1 hE
  subst h3
  obtain ⟨d1, d2⟩ := chD_zero.1 h1
  obtain ⟨d3, d4⟩ := chD_zero.1 h2
  exact chD_zero.2 ⟨⟨d1.1, fun i hi => (isR_spec (d1.2 i hi) (d3.2 i hi)).1⟩, d2⟩
theorem mul_both {x X y Y : Int} (h1 : 0 ≤ x) (h2 : x ≤ X) (h3 : 0 ≤ y) (h4 : y ≤ Y) : x * y = X * Y ↔ X * Y = 0 ∨ (x = X ∧ y = Y) := by
  have a1 := Int.mul_le_mul_of_nonneg_left h4 h1
  have a2 := Int.mul_le_mul_of_nonneg_right h2 (show 0 ≤ Y by omega)
  have a3 := Int.mul_nonneg h1 h3
  constructor
  · intro he
    by_cases hz : X * Y = 0
    · exact .inl hz
    · have hX : X ≠ 0 := fun h => hz (by rw [h, Int.zero_mul])
      have hY : Y ≠ 0 := fun h => hz (by rw [h, Int.mul_zero])
      have e1 : x * Y = X * Y := by omega
      have e2 := Int.eq_of_mul_eq_mul_right hY e1
      subst e2
      exact .inr ⟨rfl, Int.eq_of_mul_eq_mul_left hX he⟩
  · rintro (hz | ⟨rfl, rfl⟩)
    · omega
    · rfl
theorem wiD_iff (hE : boE n f k s h m g k' s' h' = 0) : wiD n f k s h m g k' s' h' = true ↔ szD n f k s h = 0 ∨ ∀ i, i < n → ∀ v, RInR (f i) v → RInR (g i) v := by
  have hE' := hE
  obtain ⟨h1, h2, h3⟩ := boE_zero.1 hE'
  subst h3
  obtain ⟨d1, d2⟩ := chD_zero.1 h1
  obtain ⟨d3, d4⟩ := chD_zero.1 h2
  have hdi : chD n (fun i => isR (f i) (g i)) k s h = 0 := di_right hE
  unfold wiD
  rw [if_neg (by simp [hE]), decide_eq_true_iff, szD_right h1, szD_right hdi]
  obtain ⟨a1, a2, a3, a4⟩ := isR_spec (d1.2 0 (by have := d1.1; omega)) (d3.2 0 (by have := d1.1; omega))
  have b0 := rr_size a1
  rcases d1.1 with hn | hn
  · subst hn
    have e1 : colD 1 f = 1 := rfl
    have e2 : colD 1 (fun i => isR (f i) (g i)) = 1 := rfl
    rw [e1, e2, Int.mul_one, Int.mul_one, a4]
    constructor
    · intro hs
      exact .inr fun i hi => by obtain rfl : i = 0 := by omega
                                exact hs
    · rintro (hz | hs)
      · intro v hv
        exact absurd hv (rr_none (d1.2 0 (by omega)) hz v)
      · exact hs 0 (by omega)
  · subst hn
    obtain ⟨c1, c2, c3, c4⟩ := isR_spec (d1.2 1 (by omega)) (d3.2 1 (by omega))
    have b1 := rr_size c1
    have e1 : colD 2 f = szR (f 1) := rfl
    have e2 : colD 2 (fun i => isR (f i) (g i)) = szR (isR (f 1) (g 1)) := rfl
    rw [e1, e2, mul_both b0.2.1 a3 b1.2.1 c3, a4, c4]
    constructor
    · rintro (hz | ⟨s0, s1⟩)
      · exact .inl hz
      · exact .inr fun i hi => by
          rcases (show i = 0 ∨ i = 1 by omega) with rfl | rfl
          · exact s0
          · exact s1
    · rintro (hz | hs)
      · exact .inl hz
      · exact .inr ⟨hs 0 (by omega), hs 1 (by omega)⟩
theorem szD_none (h1 : chD n f k s h = 0) : szD n f k s h = 0 ↔ ∃ i, i < n ∧ szR (f i) = 0 := by
  obtain ⟨d1, d2⟩ := chD_zero.1 h1
  rw [szD_right h1]
  rcases d1.1 with hn | hn
  · subst hn
    have e1 : colD 1 f = 1 := rfl
    rw [e1, Int.mul_one]
    exact ⟨fun h => ⟨0, by omega, h⟩, fun ⟨i, hi, h⟩ => by obtain rfl : i = 0 := by omega
                                                           exact h⟩
  · subst hn
    have e1 : colD 2 f = szR (f 1) := rfl
    rw [e1, Int.mul_eq_zero]
    constructor
    · rintro (h | h)
      · exact ⟨0, by omega, h⟩
      · exact ⟨1, by omega, h⟩
    · rintro ⟨i, hi, h⟩
      rcases (show i = 0 ∨ i = 1 by omega) with rfl | rfl
      · exact .inl h
      · exact .inr h
/-- A domain that has indices is within one that has none in no case. -/
theorem within_none (h1 : chD n f k s h = 0) (h2 : chD n g k' s' h' = 0) (hs : ∀ i, i < n → ∀ v, RInR (f i) v → RInR (g i) v) (hz : szD n g k' s' h' = 0) : szD n f k s h = 0 := by
  obtain ⟨i, hi, hi0⟩ := (szD_none h2).1 hz
  obtain ⟨d1, _⟩ := chD_zero.1 h1
  obtain ⟨d3, _⟩ := chD_zero.1 h2
  refine (szD_none h1).2 ⟨i, hi, Classical.byContradiction fun hne => ?_⟩
  obtain ⟨v, hv⟩ := rr_some (d1.2 i hi) hne
  exact rr_none (d3.2 i hi) hi0 v (hs i hi v hv)
theorem wi_self (h1 : chD n f k s h = 0) : wiD n f k s h n f k s h = true := (wiD_iff (boE_zero.2 ⟨h1, h1, rfl⟩)).2 (.inr fun _ _ _ hv => hv)
theorem wi_trans {e : Nat → R3} {k2 s2 h2' : Int} (h1 : chD n f k s h = 0) (h2 : chD n g k' s' h' = 0) (h3 : chD n e k2 s2 h2' = 0) (w1 : wiD n f k s h n g k' s' h' = true) (w2 : wiD n g k' s' h' n e k2 s2 h2' = true) : wiD n f k s h n e k2 s2 h2' = true := by
  rw [wiD_iff (boE_zero.2 ⟨h1, h2, rfl⟩)] at w1
  rw [wiD_iff (boE_zero.2 ⟨h2, h3, rfl⟩)] at w2
  rw [wiD_iff (boE_zero.2 ⟨h1, h3, rfl⟩)]
  rcases w1 with hz | w1
  · exact .inl hz
  · rcases w2 with hz | w2
    · exact .inl (within_none h1 h2 w1 hz)
    · exact .inr fun i hi v hv => w2 i hi v (w1 i hi v hv)
theorem wi_same (h1 : chD n f k s h = 0) (h2 : chD n g k' s' h' = 0) : (wiD n f k s h n g k' s' h' && wiD n g k' s' h' n f k s h) = saD n f k s h n g k' s' h' := by
  have hE := boE_zero.2 ⟨h1, h2, rfl⟩
  have i1 := wiD_iff hE
  have i2 := wiD_iff (boE_zero.2 ⟨h2, h1, rfl⟩)
  obtain ⟨d1, _⟩ := chD_zero.1 h1
  obtain ⟨d3, _⟩ := chD_zero.1 h2
  unfold saD
  rw [if_neg (by simp [hE])]
  rw [Bool.eq_iff_iff, Bool.and_eq_true, i1, i2]
  by_cases hz : szD n f k s h = 0 ∨ szD n g k' s' h' = 0
  · rw [if_pos hz, decide_eq_true_iff]
    constructor
    · rintro ⟨w1, w2⟩
      rcases hz with hz | hz
      · rcases w2 with w2 | w2
        · rw [hz, w2]
        · rw [hz, within_none h2 h1 w2 hz]
      · rcases w1 with w1 | w1
        · rw [hz, w1]
        · rw [hz, within_none h1 h2 w1 hz]
    · intro he
      exact ⟨.inl (by omega), .inl (by omega)⟩
  · rw [if_neg hz, eqR3_t]
    constructor
    · rintro ⟨w1, w2⟩
      have w1 := w1.resolve_left (fun h => hz (.inl h))
      have w2 := w2.resolve_left (fun h => hz (.inr h))
      exact ⟨rfl, fun i hi => rr_ext (d1.2 i hi) (d3.2 i hi) (fun v => ⟨w1 i hi v, w2 i hi v⟩)⟩
    · rintro ⟨_, he⟩
      have key : ∀ i, i < n → ∀ v, RInR (f i) v ↔ RInR (g i) v := fun i hi v => by
        obtain ⟨e1, e2, e3⟩ := he i hi
        unfold RInR
        rw [show rA (f i) = rA (g i) from e1, show rB (f i) = rB (g i) from e2, show rC (f i) = rC (g i) from e3]
      exact ⟨.inr fun i hi v => (key i hi v).1, .inr fun i hi v => (key i hi v).2⟩
end
end Go.RX.Span

/- Domains: the contracts of layer 2's functions. -/
set_option linter.unusedVariables false
namespace Go.RX.Span
open Go Go.RX

noncomputable def c_fits : Con := fun args => match args with
  | [.agg [.lit (.int .i64 k), .lit (.int .i64 s), .lit (.int .i64 h)]] => .ret (.lit (.bool (lk fitB k s h)))
  | _ => .stuck 1
noncomputable def c_DCheck : Con := fun args => match args with
  | [.agg [.row [.int .i64, .int .i64, .int .i64] n f, .lit (.int .i64 k), .lit (.int .i64 s), .lit (.int .i64 h)]] => .ask (Row64 n f) (.ret (.lit (.int .i64 (lk chD n f k s h))))
  | _ => .stuck 1
noncomputable def c_columns : Con := fun args => match args with
  | [.agg [.row [.int .i64, .int .i64, .int .i64] n f, .lit (.int .i64 k), .lit (.int .i64 s), .lit (.int .i64 h)]] => .ask (Row64 n f ∧ (n = 1 ∨ n = 2)) (.ret (.lit (.int .i64 (lk colD n f))))
  | _ => .stuck 1
noncomputable def c_DSize : Con := fun args => match args with
  | [.agg [.row [.int .i64, .int .i64, .int .i64] n f, .lit (.int .i64 k), .lit (.int .i64 s), .lit (.int .i64 h)]] => .ask (Row64 n f) (.ret (.lit (.int .i64 (lk szD n f k s h))))
  | _ => .stuck 1
noncomputable def c_both : Con := fun args => match args with
  | [.agg [.row [.int .i64, .int .i64, .int .i64] n f, .lit (.int .i64 k), .lit (.int .i64 s), .lit (.int .i64 h)], .agg [.row [.int .i64, .int .i64, .int .i64] m g, .lit (.int .i64 k'), .lit (.int .i64 s'), .lit (.int .i64 h')]] =>
    .ask (Row64 n f ∧ Row64 m g) (.ret (.lit (.int .i64 (lk boE n f k s h m g k' s' h'))))
  | _ => .stuck 1
noncomputable def c_DIntersect : Con := fun args => match args with
  | [.agg [.row [.int .i64, .int .i64, .int .i64] n f, .lit (.int .i64 k), .lit (.int .i64 s), .lit (.int .i64 h)], .agg [.row [.int .i64, .int .i64, .int .i64] m g, .lit (.int .i64 k'), .lit (.int .i64 s'), .lit (.int .i64 h')]] =>
    .ask (Row64 n f ∧ Row64 m g) (.ret (.tup [.agg [.row [.int .i64, .int .i64, .int .i64] (lk diN n f k s h m g k' s' h') (lk diF f g), .lit (.int .i64 (lk diX n f k s h m g k' s' h' k)), .lit (.int .i64 (lk diX n f k s h m g k' s' h' s)), .lit (.int .i64 (lk diX n f k s h m g k' s' h' h))], .lit (.int .i64 (lk boE n f k s h m g k' s' h'))]))
  | _ => .stuck 1
noncomputable def c_DWithin : Con := fun args => match args with
  | [.agg [.row [.int .i64, .int .i64, .int .i64] n f, .lit (.int .i64 k), .lit (.int .i64 s), .lit (.int .i64 h)], .agg [.row [.int .i64, .int .i64, .int .i64] m g, .lit (.int .i64 k'), .lit (.int .i64 s'), .lit (.int .i64 h')]] =>
    .ask (Row64 n f ∧ Row64 m g) (.ret (.tup [.lit (.bool (lk wiD n f k s h m g k' s' h')), .lit (.int .i64 (lk boE n f k s h m g k' s' h'))]))
  | _ => .stuck 1
noncomputable def c_DSame : Con := fun args => match args with
  | [.agg [.row [.int .i64, .int .i64, .int .i64] n f, .lit (.int .i64 k), .lit (.int .i64 s), .lit (.int .i64 h)], .agg [.row [.int .i64, .int .i64, .int .i64] m g, .lit (.int .i64 k'), .lit (.int .i64 s'), .lit (.int .i64 h')]] =>
    .ask (Row64 n f ∧ Row64 m g) (.ret (.lit (.bool (lk saD n f k s h m g k' s' h'))))
  | _ => .stuck 1
end Go.RX.Span

/- Domains: Check, Size: the walks. -/
set_option linter.unusedVariables false
set_option linter.unusedSimpArgs false
set_option maxRecDepth 100000
namespace Go.RX.Span
open Go Go.RX
attribute [local irreducible] sx conB

set_option maxRecDepth 100000 in
theorem t_fits (k s h : Int) : conB Go.Proofs.Try.prog (conOf []) noLoops 10 147 [.agg [.lit (.int .i64 k), .lit (.int .i64 s), .lit (.int .i64 h)]] =
    T.br (U.eq k (0 : Int)) (.br (U.ge s (0 : Int)) (.br (U.le s (0 : Int)) (.br (U.ge h (0 : Int)) (.ret (.lit (.bool (U.lt h (8 : Int))))) (.ret (.lit (.bool false)))) (.ret (.lit
      (.bool false)))) (.ret (.lit (.bool false)))) (.br (U.eq k (3 : Int)) (.br (U.ge s (1 : Int)) (.br (U.le s (1000 : Int)) (.br (U.ge h (0 : Int)) (.ret (.lit (.bool (U.lt h (1 :
      Int))))) (.ret (.lit (.bool false)))) (.ret (.lit (.bool false)))) (.ret (.lit (.bool false)))) (.br (U.eq k (1 : Int)) (.br (U.ge s (0 : Int)) (.br (U.le s (0 : Int)) (.br (U.ge h
      (0 : Int)) (.ret (.lit (.bool (U.lt h (1 : Int))))) (.ret (.lit (.bool false)))) (.ret (.lit (.bool false)))) (.ret (.lit (.bool false)))) (.br (U.eq k (2 : Int)) (.br (U.ge s (0 :
      Int)) (.br (U.le s (0 : Int)) (.br (U.ge h (0 : Int)) (.ret (.lit (.bool (U.lt h (1 : Int))))) (.ret (.lit (.bool false)))) (.ret (.lit (.bool false)))) (.ret (.lit (.bool false))))
      (.br (U.eq k (4 : Int)) (.br (U.ge s (0 : Int)) (.br (U.le s (0 : Int)) (.br (U.ge h (0 : Int)) (.ret (.lit (.bool (U.lt h (1 : Int))))) (.ret (.lit (.bool false)))) (.ret (.lit
      (.bool false)))) (.ret (.lit (.bool false)))) (.ret (.lit (.bool false))))))) := by kernel_rfl
theorem fits_ok : ConOK P 147 c_fits := con_of (allOK mixed none_ok) 10 147 fun args r h => by
  unfold c_fits at h
  split at h
  · rename_i k s h'
    obtain rfl := T.is_ret h
    rw [t_fits]
    simp only [T.All, U.le_t, U.le_f, U.lt_t, U.lt_f, U.gt_t, U.gt_f, U.ge_t, U.ge_f, U.eq_t, U.eq_f, U.ne_t, U.ne_f, U.not_t, U.not_f, U.andb_t, U.andb_f, SV.lit.injEq, SV.agg.injEq, SV.tup.injEq, List.cons.injEq, Value.int.injEq, Value.bool.injEq, true_and, and_true, lk_eq, fitB]
    repeat' (first | apply And.intro | intro _)
    all_goals first | exact (decide_eq_false (by omega)).symm | (rw [U.lt_eq]; exact decide_eq_decide.2 (by constructor <;> intro _ <;> omega))
  · exact h.elim
noncomputable abbrev d0 : List (Nat × Con) := (147, c_fits) :: (22, c_Intersect) :: k8 --%K
theorem d0_ok : ∀ p ∈ d0, ConOK P p.1 p.2 := by
  intro p hp
  simp only [d0, List.mem_cons] at hp
  rcases hp with rfl | rfl | hp
  · exact fits_ok
  · exact Intersect_ok
  · exact k8_ok p (by simpa [k8] using hp)
noncomputable abbrev lDC : List (Nat × Loops) := [(63, [(4, .un 3)])] --%K
set_option maxRecDepth 100000 in
theorem t_DCheck (n : Nat) (f : Nat → R3) (k s h : Int) : conB Go.Proofs.Try.prog (conOf d0) (loopsOf lDC) 10 63 [.agg [.row [.int .i64, .int .i64, .int .i64] n f, .lit (.int .i64 k), .lit (.int .i64 s), .lit (.int .i64 h)]] =
    T.br (U.lt (Int.ofNat n) (1 : Int)) (.ret (.lit (.int .i64 5))) (.br (U.gt (Int.ofNat n) (2 : Int)) (.ret (.lit (.int .i64 5))) (.br (U.lt (0 : Int) (Int.ofNat n)) (.ask ((0 : Int)
      ≤ (0 : Int) ∧ (0 : Int) < ↑n) (.ask (I64 (f (U.toNat (Int.ofNat 0))).1 ∧ I64 (f (U.toNat (Int.ofNat 0))).2.1 ∧ I64 (f (U.toNat (Int.ofNat 0))).2.2.1) (.br (U.ne (lk chk (f (U.toNat
      (Int.ofNat 0))).1 (f (U.toNat (Int.ofNat 0))).2.1 (f (U.toNat (Int.ofNat 0))).2.2.1) (0 : Int)) (.ret (.lit (.int .i64 (lk chk (f (U.toNat (Int.ofNat 0))).1 (f (U.toNat (Int.ofNat
      0))).2.1 (f (U.toNat (Int.ofNat 0))).2.2.1)))) (.br (U.lt (f (U.toNat (Int.ofNat 0))).2.2.1 (0 : Int)) (.ret (.lit (.int .i64 2))) (.br (U.lt (1 : Int) (Int.ofNat n)) (.ask ((0 :
      Int) ≤ (1 : Int) ∧ (1 : Int) < ↑n) (.ask (I64 (f (U.toNat (Int.ofNat 1))).1 ∧ I64 (f (U.toNat (Int.ofNat 1))).2.1 ∧ I64 (f (U.toNat (Int.ofNat 1))).2.2.1) (.br (U.ne (lk chk (f
      (U.toNat (Int.ofNat 1))).1 (f (U.toNat (Int.ofNat 1))).2.1 (f (U.toNat (Int.ofNat 1))).2.2.1) (0 : Int)) (.ret (.lit (.int .i64 (lk chk (f (U.toNat (Int.ofNat 1))).1 (f (U.toNat
      (Int.ofNat 1))).2.1 (f (U.toNat (Int.ofNat 1))).2.2.1)))) (.br (U.lt (f (U.toNat (Int.ofNat 1))).2.2.1 (0 : Int)) (.ret (.lit (.int .i64 2))) (.br (U.lt (2 : Int) (Int.ofNat n))
      (.ask ((0 : Int) ≤ (2 : Int) ∧ (2 : Int) < ↑n) (.ask (I64 (f (U.toNat (Int.ofNat 2))).1 ∧ I64 (f (U.toNat (Int.ofNat 2))).2.1 ∧ I64 (f (U.toNat (Int.ofNat 2))).2.2.1) (.br (U.ne (lk
      chk (f (U.toNat (Int.ofNat 2))).1 (f (U.toNat (Int.ofNat 2))).2.1 (f (U.toNat (Int.ofNat 2))).2.2.1) (0 : Int)) (.ret (.lit (.int .i64 (lk chk (f (U.toNat (Int.ofNat 2))).1 (f
      (U.toNat (Int.ofNat 2))).2.1 (f (U.toNat (Int.ofNat 2))).2.2.1)))) (.br (U.lt (f (U.toNat (Int.ofNat 2))).2.2.1 (0 : Int)) (.ret (.lit (.int .i64 2))) (.stuck (nat_lit 105))))))
      (.br (U.not (lk fitB k s h)) (.ret (.lit (.int .i64 2))) (.ret (.lit (.int .i64 0))))))))) (.br (U.not (lk fitB k s h)) (.ret (.lit (.int .i64 2))) (.ret (.lit (.int .i64 0)))))))))
      (.br (U.not (lk fitB k s h)) (.ret (.lit (.int .i64 2))) (.ret (.lit (.int .i64 0)))))) := by kernel_rfl
theorem lDC_ok : ∀ p ∈ lDC, LoopsOK P p.2 (bodyOf P p.1) := by
  intro p hp
  simp only [lDC, List.mem_singleton] at hp
  subst hp
  exact loopsOK_un fun q hq => by simp only [List.mem_singleton] at hq; subst hq; exact ⟨3, rfl⟩
theorem tn (j : Nat) : U.toNat (Int.ofNat j) = j := by rw [U.toNat_eq]; rfl
theorem r3 (r : R3) : ∃ a b c : Int, r = (a, b, c, ()) := ⟨r.1, r.2.1, r.2.2.1, rfl⟩
theorem DCheck_ok : ConOK P 63 c_DCheck := con_of (allOKL mixed d0_ok lDC_ok) 10 63 fun args r h => by
  unfold c_DCheck at h
  split at h
  · rename_i n f k s h'
    have hp : Row64 n f := (T.is_ask h).1
    have h := (T.is_ask h).2
    obtain rfl := T.is_ret h
    rw [t_DCheck]
    obtain ⟨a0, b0, c0, hf0⟩ := r3 (f 0)
    obtain ⟨a1, b1, c1, hf1⟩ := r3 (f 1)
    have hI0 : 0 < n → I64 a0 ∧ I64 b0 ∧ I64 c0 := fun hn => by have := hp 0 hn; rw [hf0] at this; exact this
    have hI1 : 1 < n → I64 a1 ∧ I64 b1 ∧ I64 c1 := fun hn => by have := hp 1 hn; rw [hf1] at this; exact this
    have k0 : ck1 (f 0) = if chk a0 b0 c0 ≠ 0 then chk a0 b0 c0 else if c0 < 0 then 2 else 0 := by rw [hf0]; rfl
    have k1 : ck1 (f 1) = if chk a1 b1 c1 ≠ 0 then chk a1 b1 c1 else if c1 < 0 then 2 else 0 := by rw [hf1]; rfl
    simp only [tn, lk_eq, hf0, hf1]
    simp only [Int.ofNat_eq_natCast]
    by_cases h1 : n < 1
    · have : n = 0 := by omega
      subst this
      simp [T.All, U.lt_eq, chD]
    by_cases h2 : 2 < n
    · have e : chD n f k s h' = 5 := by unfold chD; rw [if_pos (.inr h2)]
      have g1 : U.lt (n : Int) 1 = false := by rw [U.lt_eq]; exact decide_eq_false (by omega)
      have g2 : U.gt (n : Int) 2 = true := by rw [U.gt_eq]; exact decide_eq_true (by omega)
      simp only [T.All, g1, g2, e]
      simp
    have hn : n = 1 ∨ n = 2 := by omega
    by_cases z0 : chk a0 b0 c0 = 0
    · by_cases m0 : c0 < 0
      · rw [if_neg (by simp [z0]), if_pos m0] at k0
        have e2 : chD n f k s h' = 2 := by unfold chD; rw [if_neg (by omega), if_pos (by omega), k0]
        rcases hn with rfl | rfl <;> simp [T.All, U.lt_eq, U.gt_eq, U.ne_eq, hI0, z0, m0, e2]
      · rw [if_neg (by simp [z0]), if_neg m0] at k0
        rcases hn with rfl | rfl
        · have e2 : chD 1 f k s h' = if fitB k s h' = true then 0 else 2 := by unfold chD; rw [if_neg (by omega), if_neg (by omega), if_neg (by omega)]
          cases hf : fitB k s h' <;> simp [T.All, U.lt_eq, U.gt_eq, U.ne_eq, U.not_eq, hI0, z0, m0, e2, hf]
        · by_cases z1 : chk a1 b1 c1 = 0
          · by_cases m1 : c1 < 0
            · rw [if_neg (by simp [z1]), if_pos m1] at k1
              have e2 : chD 2 f k s h' = 2 := by unfold chD; rw [if_neg (by omega), if_neg (by omega), if_pos ⟨rfl, by omega⟩, k1]
              simp [T.All, U.lt_eq, U.gt_eq, U.ne_eq, hI0, hI1, z0, m0, z1, m1, e2]
            · rw [if_neg (by simp [z1]), if_neg m1] at k1
              have e2 : chD 2 f k s h' = if fitB k s h' = true then 0 else 2 := by unfold chD; rw [if_neg (by omega), if_neg (by omega), if_neg (fun h => h.2 k1)]
              cases hf : fitB k s h' <;> simp [T.All, U.lt_eq, U.gt_eq, U.ne_eq, U.not_eq, hI0, hI1, z0, m0, z1, m1, e2, hf]
          · rw [if_pos z1] at k1
            have e2 : chD 2 f k s h' = chk a1 b1 c1 := by unfold chD; rw [if_neg (by omega), if_neg (by omega), if_pos ⟨rfl, by rw [k1]; exact z1⟩, k1]
            simp [T.All, U.lt_eq, U.gt_eq, U.ne_eq, hI0, hI1, z0, m0, z1, e2]
    · rw [if_pos z0] at k0
      have e2 : chD n f k s h' = chk a0 b0 c0 := by unfold chD; rw [if_neg (by omega), if_pos (by rw [k0]; exact z0), k0]
      rcases hn with rfl | rfl <;> simp [T.All, U.lt_eq, U.gt_eq, U.ne_eq, hI0, z0, e2]
  · exact h.elim
end Go.RX.Span

/- The library's slices.Equal of ranges: the walks. -/
set_option linter.unusedVariables false
set_option linter.unusedSimpArgs false
set_option maxRecDepth 100000
namespace Go.RX.Span
open Go Go.RX

set_option maxRecDepth 100000 in
theorem t_G (n0 n n1 : Nat) (f f1 : Nat → Els [.int .i64, .int .i64, .int .i64]) (len i : Int) : (sx E0 [] n0 (loopOf P 145 4) (mkS 26 [0, 1, 4, 12, 13] [.row [.int .i64, .int .i64, .int .i64] n f, .row [.int .i64, .int .i64, .int .i64] n1 f1, .any, .lit (.int .i64 len), .lit (.int .i64 i)], [])).bind (proj 26 [0, 1, 4, 12, 13]) =
    T.br (U.lt i len) (.ask ((0 : Int) ≤ i ∧ i < ↑n) (.ask ((0 : Int) ≤ i ∧ i < ↑n1) (.br (U.not (U.andb (U.eq (f (U.toNat i)).1 (f1 (U.toNat i)).1) (U.andb (U.eq (f (U.toNat i)).2.1
      (f1 (U.toNat i)).2.1) (U.eq (f (U.toNat i)).2.2.1 (f1 (U.toNat i)).2.2.1)))) (.ret (Ex.ret, [.row [.int .i64, .int .i64, .int .i64] n f, .row [.int .i64, .int .i64, .int .i64] n1
      f1, SV.kb false, .lit (.int .i64 len), .lit (.int .i64 i)], [])) (.ret (Ex.normal, [.row [.int .i64, .int .i64, .int .i64] n f, .row [.int .i64, .int .i64, .int .i64] n1 f1, SV.any,
      .lit (.int .i64 len), .lit (.int .i64 (U.add .i64 i (1 : Int)))], []))))) (.ret (Ex.exit (nat_lit 0), [.row [.int .i64, .int .i64, .int .i64] n f, .row [.int .i64, .int .i64, .int
      .i64] n1 f1, SV.any, .lit (.int .i64 len), .lit (.int .i64 i)], [])) := by kernel_rfl
theorem roundG (n0 : Nat) (x : XG) (hx : PhiG n0 x) : ((sx E0 [] n0 (loopOf P 145 4) (mkS 26 [0, 1, 4, 12, 13] (VG x).1, (VG x).2)).bind (proj 26 [0, 1, 4, 12, 13])).All fun r => match r.1 with
      | .normal => ∃ x', PhiG n0 x' ∧ x'.n - x'.k < x.n - x.k ∧ Wk 26 [0, 1, 4, 12, 13] n0 r.2 (VG x') ∧ ∀ o, ZG x' o → ZG x o
      | e => ∃ s, ZG x (e, s) ∧ Wk 26 [0, 1, 4, 12, 13] n0 r.2 s := by
  obtain ⟨n, n1, f, f1, len, k⟩ := x
  unfold VG
  dsimp only
  refine T.all_of_eq (t_G n0 n n1 f f1 len k) ?_
  obtain ⟨⟨h0, e1, e2, ht⟩, hk, hall⟩ := hx
  simp only [] at h0 e1 e2 ht hk hall
  subst h0; subst e1
  simp only [top] at ht
  have w0 : ∀ {vs vs' : List SV}, RlL (idR 0) vs vs' → Wk 26 [0, 1, 4, 12, 13] 0 (vs, []) (vs', []) := fun h => wk_of (idR 0) rfl (Nat.zero_le _) (fun b hb => by omega) h trivial
  by_cases hlt : k < n
  · have hadd : U.add .i64 (k : Int) 1 = ((k + 1 : Nat) : Int) := by rw [U.add64 (by unfold I64; omega)]; omega
    simp only [T.All, U.le_t, U.le_f, U.lt_t, U.lt_f, U.gt_t, U.gt_f, U.ge_t, U.ge_f, U.eq_t, U.eq_f, U.ne_t, U.ne_f, U.not_t, U.not_f, U.andb_t, U.andb_f, SV.lit.injEq, SV.agg.injEq, SV.tup.injEq, List.cons.injEq, Value.int.injEq, Value.bool.injEq, true_and, and_true, lk_eq, U.toNat_eq, Int.toNat_natCast]
    refine ⟨fun _ => ⟨⟨by omega, by omega⟩, ⟨by omega, by omega⟩, fun hne => ⟨OG'.2, ⟨fun he => absurd ((eqR3_t.1 he).2 k hlt) (fun s => Bool.noConfusion ((hne (Eq.mpr U.eq_t s.1) (Eq.mpr U.eq_t s.2.1)).symm.trans (Eq.mpr U.eq_t s.2.2))), fun _ => rfl⟩, w0 ⟨trivial, trivial, rfl, trivial, trivial, trivial⟩⟩, fun heq => ?_⟩, fun h => absurd h (by omega)⟩
    refine ⟨⟨n, n, f, f1, len, k + 1⟩, ⟨⟨rfl, rfl, e2, ht⟩, hlt, fun i hi => ?_⟩, by simp only []; omega, w0 ⟨⟨rfl, sameRow_refl _ _⟩, ⟨rfl, sameRow_refl _ _⟩, trivial, rfl, by rw [hadd]; rfl, trivial⟩, fun o ho => ho⟩
    by_cases h : i = k
    · subst h; exact ⟨Eq.mp U.eq_t heq.1, Eq.mp U.eq_t heq.2.1, Eq.mp U.eq_t heq.2.2⟩
    · have hi' : i < k + 1 := hi
      exact hall i (by omega)
  · have : (k : Int) = n := by omega
    have hkn : k = n := by omega
    simp only [T.All, U.le_t, U.le_f, U.lt_t, U.lt_f, U.gt_t, U.gt_f, U.ge_t, U.ge_f, U.eq_t, U.eq_f, U.ne_t, U.ne_f, U.not_t, U.not_f, U.andb_t, U.andb_f, SV.lit.injEq, SV.agg.injEq, SV.tup.injEq, List.cons.injEq, Value.int.injEq, Value.bool.injEq, true_and, and_true, lk_eq]
    refine ⟨fun h => absurd h (by omega), fun _ => ⟨(OG ⟨n, n, f, f1, len, k⟩).2, ⟨fun _ => rfl, fun he => ?_⟩, w0 ⟨⟨rfl, sameRow_refl _ _⟩, ⟨rfl, sameRow_refl _ _⟩, trivial, trivial, trivial, trivial⟩⟩⟩
    rw [eqR3_t.2 ⟨rfl, fun i hi => hall i (by have hi' : i < n := hi; omega)⟩] at he
    cases he
theorem loopG : LoopOK P (loopOf P 145 4) (few 26 [0, 1, 4, 12, 13] gG) :=
  loop_few (E := E0) mixed E0_ok loopsOK_none 26 [0, 1, 4, 12, 13] (X := XG) gG (fun _ x => VG x) PhiG (fun x => x.n - x.k) (fun _ x o => ZG x o)
    (fun n0 s r h => by
      unfold gG at h
      split at h
      · rename_i n0 n f n1 f1 s4 len
        obtain ⟨h0, e1, e2, ht⟩ := (T.is_ask h).1
        have h := (T.is_ask h).2
        rcases h with ⟨he, h⟩ | ⟨he, h⟩ <;> rw [lk_eq] at he <;> obtain rfl := T.is_ret h
        all_goals
          refine ⟨⟨n, n1, f, f1, len, 0⟩, ⟨⟨h0, e1, e2, ht⟩, Nat.zero_le _, fun i hi => by simp only [] at hi; omega⟩, wk_of (idR 0) rfl (by rw [h0]; exact Nat.zero_le _) (fun b hb => by omega) ⟨⟨rfl, sameRow_refl _ _⟩, ⟨rfl, sameRow_refl _ _⟩, rl_any _, rfl, rfl, trivial⟩ trivial, fun o ho => ?_⟩
          first | exact ho.1 he | exact ho.2 he
      · exact h.elim)
    roundG
theorem l56_ok : ∀ p ∈ l56, LoopsOK P p.2 (bodyOf P p.1) := by
  intro p hp
  simp only [l56, List.mem_singleton] at hp
  subst hp
  refine loopsOK_of (by kernel_rfl) fun k g hk => ?_
  simp only [List.mem_singleton, Prod.mk.injEq, LoopC.sum.injEq] at hk
  obtain ⟨rfl, rfl⟩ := hk
  exact loopG

noncomputable def c_Equal3 : Con := fun args => match args with
  | [.row [.int .i64, .int .i64, .int .i64] n f, .row [.int .i64, .int .i64, .int .i64] n1 f1] => .ask (n ≤ top) (.ret (.lit (.bool (lk eqR3 n f n1 f1))))
  | _ => .stuck 1
set_option maxRecDepth 100000 in
theorem t_Equal3 (n n1 : Nat) (f f1 : Nat → Els [.int .i64, .int .i64, .int .i64]) : conB Go.Proofs.Try.prog (conOf []) (loopsOf l56) 10 145 [.row [.int .i64, .int .i64, .int .i64] n f, .row [.int .i64, .int .i64, .int .i64] n1 f1] =
    T.br (U.ne (Int.ofNat n) (Int.ofNat n1)) (.ret (.lit (.bool false))) (.ask (PreE (nat_lit 0) n n1 ↑n) (.br (lk eqR3 n f n1 f1) (.ret (.lit (.bool true))) (.ret (.lit (.bool
      false))))) := by kernel_rfl
theorem Equal3_ok : ConOK P 145 c_Equal3 := con_of (allOKL mixed none_ok l56_ok) 10 145 fun args r h => by
  unfold c_Equal3 at h
  split at h
  · rename_i n f n1 f1
    have hp := (T.is_ask h).1
    have h := (T.is_ask h).2
    obtain rfl := T.is_ret h
    rw [t_Equal3]
    by_cases hn : n = n1
    · subst hn
      have hpre : PreE 0 n n n := ⟨rfl, rfl, rfl, hp⟩
      have hne : U.ne (Int.ofNat n) (Int.ofNat n) = false := by rw [U.ne_eq]; simp
      simp only [T.All, hne, hpre, lk_eq]
      cases eqR3 n f n f1 <;> simp
    · have he : eqR3 n f n1 f1 = false := by
        cases h : eqR3 n f n1 f1
        · rfl
        · exact absurd (eqR3_t.1 h).1 hn
      have hne : U.ne (Int.ofNat n) (Int.ofNat n1) = true := by rw [U.ne_eq]; simp only [Int.ofNat_eq_natCast]; simp; omega
      simp only [T.All, hne, lk_eq, he]
      simp
  · exact h.elim
end Go.RX.Span

/- The reference's Intersect: the search loop's states. -/
set_option linter.unusedVariables false
set_option linter.unusedSimpArgs false
namespace Go.RX.Span
open Go Go.RX

noncomputable abbrev kr : List (Nat × Con) := (197, c_Gcd) :: k8
theorem kr_ok : ∀ p ∈ kr, ConOK P p.1 p.2 := by
  intro p hp
  simp only [kr, List.mem_cons] at hp
  rcases hp with rfl | hp
  · exact Gcd_ok
  · exact k8_ok p (by simpa [k8] using hp)
noncomputable abbrev Er : Env := ⟨P, conOf kr, scall P (conOf kr) noLoops 10⟩
theorem Er_ok : EnvOK Er := envOK (allOK mixed kr_ok) 10
structure XS where
  (a b c x y z s t M f : Int) (k : Nat)
def PreS (n0 : Nat) (a b c x y z s t M f : Int) : Prop := n0 ≤ 3 ∧ (I64 a ∧ I64 b ∧ I64 c) ∧ (I64 x ∧ I64 y ∧ I64 z) ∧ b ≤ 1000000 ∧ 1 ≤ s ∧ s ≤ 2000000 ∧ 1 ≤ t ∧ t ≤ 2000000 ∧ -1000000 ≤ f ∧ f ≤ 4000000
def memS (a b c x y z : Int) : Mem := [(0, some (.cells [.lit (.int .i64 a), .lit (.int .i64 b), .lit (.int .i64 c)] 23)), (0, some (.cells [.lit (.int .i64 x), .lit (.int .i64 y), .lit (.int .i64 z)] 23)), (0, some (.cells [.lit (.int .i64 0), .lit (.int .i64 0), .lit (.int .i64 0)] 23))]
noncomputable def gS : Nat → Few → T (Ex × Few)
  | n0, ([.ptr 0 0, .ptr 1 0, .ptr 2 0, .ki .i64 (.ofNat 0), .lit (.int .i64 s), .lit (.int .i64 t), .lit (.int .i64 M), .lit (.int .i64 f), .ki .i64 (.ofNat 0)], [(0, some (.cells [.lit (.int .i64 a), .lit (.int .i64 b), .lit (.int .i64 c)] 23)), (0, some (.cells [.lit (.int .i64 x), .lit (.int .i64 y), .lit (.int .i64 z)] 23)), (0, some (.cells [.lit (.int .i64 (.ofNat 0)), .lit (.int .i64 (.ofNat 0)), .lit (.int .i64 (.ofNat 0))] 23))]) =>
    .ask (PreS n0 a b c x y z s t M f) (.ret (.exit 0, ([.ptr 0 0, .ptr 1 0, .ptr 2 0, .ki .i64 (.ofNat 0), .lit (.int .i64 s), .lit (.int .i64 t), .lit (.int .i64 M), .lit (.int .i64 (lk se b x y z s (U.toNat t) f)), .any],
      [(0, some (.cells [.lit (.int .i64 a), .lit (.int .i64 b), .lit (.int .i64 c)] 23)), (0, some (.cells [.lit (.int .i64 x), .lit (.int .i64 y), .lit (.int .i64 z)] 23)), (0, some (.cells [.lit (.int .i64 (.ofNat 0)), .lit (.int .i64 (.ofNat 0)), .lit (.int .i64 (.ofNat 0))] 23))])))
  | _, _ => .stuck 1
noncomputable def VS (q : XS) : Few := ([.ptr 0 0, .ptr 1 0, .ptr 2 0, .ki .i64 0, .lit (.int .i64 q.s), .lit (.int .i64 q.t), .lit (.int .i64 q.M), .lit (.int .i64 q.f), .lit (.int .i64 q.k)], memS q.a q.b q.c q.x q.y q.z)
noncomputable def OS (q : XS) : Ex × Few := (.exit 0, ([.ptr 0 0, .ptr 1 0, .ptr 2 0, .ki .i64 0, .lit (.int .i64 q.s), .lit (.int .i64 q.t), .lit (.int .i64 q.M), .lit (.int .i64 (se q.b q.x q.y q.z q.s (q.t - q.k).toNat q.f)), .any], memS q.a q.b q.c q.x q.y q.z))
def PhiS (n0 : Nat) (q : XS) : Prop := PreS n0 q.a q.b q.c q.x q.y q.z q.s q.t q.M q.f ∧ (q.k : Int) ≤ q.t
noncomputable abbrev l51 : List (Nat × Loops) := [(158, [(16, .sum (few 126 [2, 3, 4, 5, 8, 9, 10, 12, 13] gS))])]
end Go.RX.Span

/- The reference's Intersect: the walks. -/
set_option linter.unusedVariables false
set_option linter.unusedSimpArgs false
set_option maxRecDepth 100000
namespace Go.RX.Span
open Go Go.RX
attribute [local irreducible] sx conB

set_option maxRecDepth 100000 in
theorem t_S (n0 : Nat) (a b c x y z s t M f i : Int) : (sx Er [] n0 (loopOf P 158 16) (mkS 126 [2, 3, 4, 5, 8, 9, 10, 12, 13] [.ptr 0 0, .ptr 1 0, .ptr 2 0, .ki .i64 0, .lit (.int .i64 s), .lit (.int .i64 t), .lit (.int .i64 M), .lit (.int .i64 f), .lit (.int .i64 i)], memS a b c x y z)).bind (proj 126 [2, 3, 4, 5, 8, 9, 10, 12, 13]) =
    T.br (U.lt i t) (.br (U.le f b) (.br (U.le f y) (.ask (I64 x ∧ I64 y ∧ I64 z) (.br (U.not (lk has x y z f)) (.ret (Ex.normal, [SV.ptr (nat_lit 0) (nat_lit 0), SV.ptr (nat_lit 1)
      (nat_lit 0), SV.ptr (nat_lit 2) (nat_lit 0), SV.ki .i64 0, .lit (.int .i64 s), .lit (.int .i64 t), .lit (.int .i64 M), .lit (.int .i64 (U.add .i64 f s)), .lit (.int .i64 (U.add .i64
      i (1 : Int)))], [(nat_lit 0, some (Blk.cells [.lit (.int .i64 a), .lit (.int .i64 b), .lit (.int .i64 c)] (nat_lit 23))), (nat_lit 0, some (Blk.cells [.lit (.int .i64 x), .lit (.int
      .i64 y), .lit (.int .i64 z)] (nat_lit 23))), (nat_lit 0, some (Blk.cells [.lit (.int .i64 0), .lit (.int .i64 0), .lit (.int .i64 0)] (nat_lit 23)))])) (.ret (Ex.exit (nat_lit 0),
      [SV.ptr (nat_lit 0) (nat_lit 0), SV.ptr (nat_lit 1) (nat_lit 0), SV.ptr (nat_lit 2) (nat_lit 0), SV.ki .i64 0, .lit (.int .i64 s), .lit (.int .i64 t), .lit (.int .i64 M), .lit (.int
      .i64 f), .lit (.int .i64 i)], [(nat_lit 0, some (Blk.cells [.lit (.int .i64 a), .lit (.int .i64 b), .lit (.int .i64 c)] (nat_lit 23))), (nat_lit 0, some (Blk.cells [.lit (.int .i64
      x), .lit (.int .i64 y), .lit (.int .i64 z)] (nat_lit 23))), (nat_lit 0, some (Blk.cells [.lit (.int .i64 0), .lit (.int .i64 0), .lit (.int .i64 0)] (nat_lit 23)))])))) (.ret
      (Ex.exit (nat_lit 0), [SV.ptr (nat_lit 0) (nat_lit 0), SV.ptr (nat_lit 1) (nat_lit 0), SV.ptr (nat_lit 2) (nat_lit 0), SV.ki .i64 0, .lit (.int .i64 s), .lit (.int .i64 t), .lit
      (.int .i64 M), .lit (.int .i64 f), .lit (.int .i64 i)], [(nat_lit 0, some (Blk.cells [.lit (.int .i64 a), .lit (.int .i64 b), .lit (.int .i64 c)] (nat_lit 23))), (nat_lit 0, some
      (Blk.cells [.lit (.int .i64 x), .lit (.int .i64 y), .lit (.int .i64 z)] (nat_lit 23))), (nat_lit 0, some (Blk.cells [.lit (.int .i64 0), .lit (.int .i64 0), .lit (.int .i64 0)]
      (nat_lit 23)))]))) (.ret (Ex.exit (nat_lit 0), [SV.ptr (nat_lit 0) (nat_lit 0), SV.ptr (nat_lit 1) (nat_lit 0), SV.ptr (nat_lit 2) (nat_lit 0), SV.ki .i64 0, .lit (.int .i64 s),
      .lit (.int .i64 t), .lit (.int .i64 M), .lit (.int .i64 f), .lit (.int .i64 i)], [(nat_lit 0, some (Blk.cells [.lit (.int .i64 a), .lit (.int .i64 b), .lit (.int .i64 c)] (nat_lit
      23))), (nat_lit 0, some (Blk.cells [.lit (.int .i64 x), .lit (.int .i64 y), .lit (.int .i64 z)] (nat_lit 23))), (nat_lit 0, some (Blk.cells [.lit (.int .i64 0), .lit (.int .i64 0),
      .lit (.int .i64 0)] (nat_lit 23)))]))) (.ret (Ex.exit (nat_lit 0), [SV.ptr (nat_lit 0) (nat_lit 0), SV.ptr (nat_lit 1) (nat_lit 0), SV.ptr (nat_lit 2) (nat_lit 0), SV.ki .i64 0,
      .lit (.int .i64 s), .lit (.int .i64 t), .lit (.int .i64 M), .lit (.int .i64 f), .lit (.int .i64 i)], [(nat_lit 0, some (Blk.cells [.lit (.int .i64 a), .lit (.int .i64 b), .lit (.int
      .i64 c)] (nat_lit 23))), (nat_lit 0, some (Blk.cells [.lit (.int .i64 x), .lit (.int .i64 y), .lit (.int .i64 z)] (nat_lit 23))), (nat_lit 0, some (Blk.cells [.lit (.int .i64 0),
      .lit (.int .i64 0), .lit (.int .i64 0)] (nat_lit 23)))])) := by kernel_rfl
theorem roundS (n0 : Nat) (q : XS) (hq : PhiS n0 q) : ((sx Er [] n0 (loopOf P 158 16) (mkS 126 [2, 3, 4, 5, 8, 9, 10, 12, 13] (VS q).1, (VS q).2)).bind (proj 126 [2, 3, 4, 5, 8, 9, 10, 12, 13])).All fun r => match r.1 with
      | .normal => ∃ q', PhiS n0 q' ∧ (q'.t - q'.k).toNat < (q.t - q.k).toNat ∧ Wk 126 [2, 3, 4, 5, 8, 9, 10, 12, 13] n0 r.2 (VS q') ∧ ∀ o, o = OS q' → o = OS q
      | e => ∃ s, (e, s) = OS q ∧ Wk 126 [2, 3, 4, 5, 8, 9, 10, 12, 13] n0 r.2 s := by
  unfold VS
  dsimp only
  rw [t_S]
  obtain ⟨a, b, c, x, y, z, s, t, M, f, k⟩ := q
  dsimp only
  obtain ⟨⟨h0, ha, hx, hb, s1, s2, t1, t2, f1, f2⟩, hk⟩ := hq
  simp only [] at h0 ha hx hb s1 s2 t1 t2 f1 f2 hk
  have w0 : ∀ {vs vs' : List SV}, RlL (idR 3) vs vs' → Wk 126 [2, 3, 4, 5, 8, 9, 10, 12, 13] n0 (vs, memS a b c x y z) (vs', memS a b c x y z) := fun h =>
    wk_of (idR 3) rfl h0 (fun b hb => idR_of (by omega)) h ⟨⟨rfl, rfl, rfl, rfl, trivial⟩, ⟨rfl, rfl, rfl, rfl, trivial⟩, ⟨rfl, rfl, rfl, rfl, trivial⟩, trivial⟩
  have fin : (¬ ((k : Int) < t ∧ f ≤ b ∧ f ≤ y ∧ has x y z f = false)) → ∃ s', ((Ex.exit 0, s') : Ex × Few) = OS ⟨a, b, c, x, y, z, s, t, M, f, k⟩ ∧ Wk 126 [2, 3, 4, 5, 8, 9, 10, 12, 13] n0 ([.ptr 0 0, .ptr 1 0, .ptr 2 0, .ki .i64 0, .lit (.int .i64 s), .lit (.int .i64 t), .lit (.int .i64 M), .lit (.int .i64 f), .lit (.int .i64 k)], memS a b c x y z) s' := fun hn => by
    refine ⟨(OS ⟨a, b, c, x, y, z, s, t, M, f, k⟩).2, rfl, w0 ⟨⟨rfl, rfl⟩, ⟨rfl, rfl⟩, ⟨rfl, rfl⟩, ⟨rfl, rfl⟩, rfl, rfl, rfl, ?_, trivial, trivial⟩⟩
    show Value.int .i64 f = Value.int .i64 (se b x y z s (t - k).toNat f)
    by_cases hkt : (k : Int) < t
    · rw [se_end (fun h => hn ⟨hkt, h⟩)]
    · rw [show (t - (k : Int)).toNat = 0 by omega]; rfl
  simp only [T.All, U.le_t, U.le_f, U.lt_t, U.lt_f, U.gt_t, U.gt_f, U.ge_t, U.ge_f, U.eq_t, U.eq_f, U.ne_t, U.ne_f, U.not_t, U.not_f, U.andb_t, U.andb_f, SV.lit.injEq, SV.agg.injEq, SV.tup.injEq, List.cons.injEq, Value.int.injEq, Value.bool.injEq, true_and, and_true, lk_eq, hx, and_self, true_and]
  refine ⟨fun hlt => ⟨fun hfb => ⟨fun hfy => ⟨fun hh => ?_, fun hh => fin (fun h => by rw [hh] at h; cases h.2.2.2)⟩, fun h => fin (by omega)⟩, fun h => fin (by omega)⟩, fun h => fin (by omega)⟩
  have e1 : U.add .i64 f s = f + s := by rw [U.add64 (by unfold I64; omega)]
  have e2 : U.add .i64 (k : Int) 1 = ((k + 1 : Nat) : Int) := by rw [U.add64 (by unfold I64; omega)]; omega
  refine ⟨⟨a, b, c, x, y, z, s, t, M, f + s, k + 1⟩, ⟨⟨h0, ha, hx, hb, s1, s2, t1, t2, by simp only []; omega, by simp only []; omega⟩, by simp only []; omega⟩, by simp only []; omega, ?_, fun o ho => ?_⟩
  · rw [e1, e2]
    exact w0 ⟨⟨rfl, rfl⟩, ⟨rfl, rfl⟩, ⟨rfl, rfl⟩, ⟨rfl, rfl⟩, rfl, rfl, rfl, rfl, rfl, trivial⟩
  · rw [ho]
    simp only [OS]
    rw [show (t - (k : Int)).toNat = (t - ((k + 1 : Nat) : Int)).toNat + 1 by omega, se_go ⟨hfb, hfy, hh⟩]
theorem loopS : LoopOK P (loopOf P 158 16) (few 126 [2, 3, 4, 5, 8, 9, 10, 12, 13] gS) :=
  loop_few (E := Er) mixed Er_ok loopsOK_none 126 [2, 3, 4, 5, 8, 9, 10, 12, 13] (X := XS) gS (fun _ x => VS x) PhiS (fun x => (x.t - x.k).toNat) (fun _ x o => o = OS x)
    (fun n0 st r h => by
      unfold gS at h
      split at h
      · rename_i n0 s t M f a b c x y z
        have hp := (T.is_ask h).1
        have hp' := hp
        obtain ⟨h0, ha, hx, hb, s1, s2, t1, t2, f1, f2⟩ := hp'
        obtain rfl := T.is_ret (T.is_ask h).2
        refine ⟨⟨a, b, c, x, y, z, s, t, M, f, 0⟩, ⟨hp, by simp only []; omega⟩, wk_of (idR 3) rfl h0 (fun b hb => idR_of (by omega)) ⟨⟨rfl, rfl⟩, ⟨rfl, rfl⟩, ⟨rfl, rfl⟩, ⟨rfl, rfl⟩, rfl, rfl, rfl, rfl, rfl, trivial⟩ ⟨⟨rfl, rfl, rfl, rfl, trivial⟩, ⟨rfl, rfl, rfl, rfl, trivial⟩, ⟨rfl, rfl, rfl, rfl, trivial⟩, trivial⟩, fun o ho => ?_⟩
        rw [ho]
        simp only [OS, lk_eq, U.toNat_eq]
        rw [show t - ((0 : Nat) : Int) = t by omega]
        rfl
      · exact h.elim)
    roundS
theorem l51_ok : ∀ p ∈ l51, LoopsOK P p.2 (bodyOf P p.1) := by
  intro p hp
  simp only [l51, List.mem_singleton] at hp
  subst hp
  refine loopsOK_of (by kernel_rfl) fun k g hk => ?_
  simp only [List.mem_singleton, Prod.mk.injEq, LoopC.sum.injEq] at hk
  obtain ⟨rfl, rfl⟩ := hk
  exact loopS
set_option maxRecDepth 100000 in
theorem t_rIntersect (a b c x y z : Int) : conB Go.Proofs.Try.prog (conOf kr) (loopsOf l51) 10 158 [.agg [.lit (.int .i64 a), .lit (.int .i64 b), .lit (.int .i64 c)], .agg [.lit (.int .i64 x), .lit (.int .i64 y), .lit (.int .i64 z)]] =
    T.ask (I64 a ∧ I64 b ∧ I64 c) (.br (U.ne (lk chk a b c) (0 : Int)) (.ret (.tup [.agg [.lit (.int .i64 0), .lit (.int .i64 0), .lit (.int .i64 0)], .lit (.int .i64 (lk chk a b c))]))
      (.ask (I64 x ∧ I64 y ∧ I64 z) (.br (U.ne (lk chk x y z) (0 : Int)) (.ret (.tup [.agg [.lit (.int .i64 0), .lit (.int .i64 0), .lit (.int .i64 0)], .lit (.int .i64 (lk chk x y z))]))
      (.br (lk isE a b c) (.ret (.tup [.agg [.lit (.int .i64 1), .lit (.int .i64 0), .lit (.int .i64 1)], .lit (.int .i64 0)])) (.br (lk isE x y z) (.ret (.tup [.agg [.lit (.int .i64 1),
      .lit (.int .i64 0), .lit (.int .i64 1)], .lit (.int .i64 0)])) (.ask (I64 (-c)) (.ask (I64 (-z)) (.ask ((0 : Int) ≤ lk absI c ∧ (0 : Int) ≤ lk absI z) (.ask (lk gcdI (lk absI c) (lk
      absI z) ≠ (0 : Int)) (.br (U.gt (U.mm true a x) a) (.ask (lk absI c ≠ (0 : Int)) (.ask (PreS (nat_lit 0) a b c x y z (lk absI c) (lk absI z) (U.mul .i64 (U.quo .i64 (lk absI c) (lk
      gcdI (lk absI c) (lk absI z))) (lk absI z)) (U.add .i64 a (U.mul .i64 (U.quo .i64 (U.sub .i64 (U.add .i64 (U.sub .i64 (U.mm true a x) a) (lk absI c)) (1 : Int)) (lk absI c)) (lk
      absI c)))) (.ask (I64 a ∧ I64 b ∧ I64 c) (.br (U.not (lk has a b c (lk se b x y z (lk absI c) (U.toNat (lk absI z)) (U.add .i64 a (U.mul .i64 (U.quo .i64 (U.sub .i64 (U.add .i64
      (U.sub .i64 (U.mm true a x) a) (lk absI c)) (1 : Int)) (lk absI c)) (lk absI c)))))) (.ret (.tup [.agg [.lit (.int .i64 1), .lit (.int .i64 0), .lit (.int .i64 1)], .lit (.int .i64
      0)])) (.ask (I64 x ∧ I64 y ∧ I64 z) (.br (U.not (lk has x y z (lk se b x y z (lk absI c) (U.toNat (lk absI z)) (U.add .i64 a (U.mul .i64 (U.quo .i64 (U.sub .i64 (U.add .i64 (U.sub
      .i64 (U.mm true a x) a) (lk absI c)) (1 : Int)) (lk absI c)) (lk absI c)))))) (.ret (.tup [.agg [.lit (.int .i64 1), .lit (.int .i64 0), .lit (.int .i64 1)], .lit (.int .i64 0)]))
      (.ask (U.mul .i64 (U.quo .i64 (lk absI c) (lk gcdI (lk absI c) (lk absI z))) (lk absI z) ≠ (0 : Int)) (.ask (lk se b x y z (lk absI c) (U.toNat (lk absI z)) (U.add .i64 a (U.mul
      .i64 (U.quo .i64 (U.sub .i64 (U.add .i64 (U.sub .i64 (U.mm true a x) a) (lk absI c)) (1 : Int)) (lk absI c)) (lk absI c))) < U.add .i64 (lk se b x y z (lk absI c) (U.toNat (lk absI
      z)) (U.add .i64 a (U.mul .i64 (U.quo .i64 (U.sub .i64 (U.add .i64 (U.sub .i64 (U.mm true a x) a) (lk absI c)) (1 : Int)) (lk absI c)) (lk absI c)))) (U.mul .i64 (U.quo .i64 (U.sub
      .i64 (U.mm false b y) (lk se b x y z (lk absI c) (U.toNat (lk absI z)) (U.add .i64 a (U.mul .i64 (U.quo .i64 (U.sub .i64 (U.add .i64 (U.sub .i64 (U.mm true a x) a) (lk absI c)) (1 :
      Int)) (lk absI c)) (lk absI c))))) (U.mul .i64 (U.quo .i64 (lk absI c) (lk gcdI (lk absI c) (lk absI z))) (lk absI z))) (U.mul .i64 (U.quo .i64 (lk absI c) (lk gcdI (lk absI c) (lk
      absI z))) (lk absI z))) → U.lt c (0 : Int) = true → I64 (-U.mul .i64 (U.quo .i64 (lk absI c) (lk gcdI (lk absI c) (lk absI z))) (lk absI z))) (.ret (.tup [.agg [.lit (.int .i64 (lk
      rnL (lk se b x y z (lk absI c) (U.toNat (lk absI z)) (U.add .i64 a (U.mul .i64 (U.quo .i64 (U.sub .i64 (U.add .i64 (U.sub .i64 (U.mm true a x) a) (lk absI c)) (1 : Int)) (lk absI
      c)) (lk absI c)))) (U.add .i64 (lk se b x y z (lk absI c) (U.toNat (lk absI z)) (U.add .i64 a (U.mul .i64 (U.quo .i64 (U.sub .i64 (U.add .i64 (U.sub .i64 (U.mm true a x) a) (lk absI
      c)) (1 : Int)) (lk absI c)) (lk absI c)))) (U.mul .i64 (U.quo .i64 (U.sub .i64 (U.mm false b y) (lk se b x y z (lk absI c) (U.toNat (lk absI z)) (U.add .i64 a (U.mul .i64 (U.quo
      .i64 (U.sub .i64 (U.add .i64 (U.sub .i64 (U.mm true a x) a) (lk absI c)) (1 : Int)) (lk absI c)) (lk absI c))))) (U.mul .i64 (U.quo .i64 (lk absI c) (lk gcdI (lk absI c) (lk absI
      z))) (lk absI z))) (U.mul .i64 (U.quo .i64 (lk absI c) (lk gcdI (lk absI c) (lk absI z))) (lk absI z)))) (U.mul .i64 (U.quo .i64 (lk absI c) (lk gcdI (lk absI c) (lk absI z))) (lk
      absI z)) (U.lt c (0 : Int)))), .lit (.int .i64 (lk rnH (lk se b x y z (lk absI c) (U.toNat (lk absI z)) (U.add .i64 a (U.mul .i64 (U.quo .i64 (U.sub .i64 (U.add .i64 (U.sub .i64
      (U.mm true a x) a) (lk absI c)) (1 : Int)) (lk absI c)) (lk absI c)))) (U.add .i64 (lk se b x y z (lk absI c) (U.toNat (lk absI z)) (U.add .i64 a (U.mul .i64 (U.quo .i64 (U.sub .i64
      (U.add .i64 (U.sub .i64 (U.mm true a x) a) (lk absI c)) (1 : Int)) (lk absI c)) (lk absI c)))) (U.mul .i64 (U.quo .i64 (U.sub .i64 (U.mm false b y) (lk se b x y z (lk absI c)
      (U.toNat (lk absI z)) (U.add .i64 a (U.mul .i64 (U.quo .i64 (U.sub .i64 (U.add .i64 (U.sub .i64 (U.mm true a x) a) (lk absI c)) (1 : Int)) (lk absI c)) (lk absI c))))) (U.mul .i64
      (U.quo .i64 (lk absI c) (lk gcdI (lk absI c) (lk absI z))) (lk absI z))) (U.mul .i64 (U.quo .i64 (lk absI c) (lk gcdI (lk absI c) (lk absI z))) (lk absI z)))) (U.mul .i64 (U.quo
      .i64 (lk absI c) (lk gcdI (lk absI c) (lk absI z))) (lk absI z)) (U.lt c (0 : Int)))), .lit (.int .i64 (lk rnS (lk se b x y z (lk absI c) (U.toNat (lk absI z)) (U.add .i64 a (U.mul
      .i64 (U.quo .i64 (U.sub .i64 (U.add .i64 (U.sub .i64 (U.mm true a x) a) (lk absI c)) (1 : Int)) (lk absI c)) (lk absI c)))) (U.add .i64 (lk se b x y z (lk absI c) (U.toNat (lk absI
      z)) (U.add .i64 a (U.mul .i64 (U.quo .i64 (U.sub .i64 (U.add .i64 (U.sub .i64 (U.mm true a x) a) (lk absI c)) (1 : Int)) (lk absI c)) (lk absI c)))) (U.mul .i64 (U.quo .i64 (U.sub
      .i64 (U.mm false b y) (lk se b x y z (lk absI c) (U.toNat (lk absI z)) (U.add .i64 a (U.mul .i64 (U.quo .i64 (U.sub .i64 (U.add .i64 (U.sub .i64 (U.mm true a x) a) (lk absI c)) (1 :
      Int)) (lk absI c)) (lk absI c))))) (U.mul .i64 (U.quo .i64 (lk absI c) (lk gcdI (lk absI c) (lk absI z))) (lk absI z))) (U.mul .i64 (U.quo .i64 (lk absI c) (lk gcdI (lk absI c) (lk
      absI z))) (lk absI z)))) (U.mul .i64 (U.quo .i64 (lk absI c) (lk gcdI (lk absI c) (lk absI z))) (lk absI z)) (U.lt c (0 : Int))))], .lit (.int .i64 0)])))))))))) (.ask (PreS
      (nat_lit 0) a b c x y z (lk absI c) (lk absI z) (U.mul .i64 (U.quo .i64 (lk absI c) (lk gcdI (lk absI c) (lk absI z))) (lk absI z)) a) (.ask (I64 a ∧ I64 b ∧ I64 c) (.br (U.not (lk
      has a b c (lk se b x y z (lk absI c) (U.toNat (lk absI z)) a))) (.ret (.tup [.agg [.lit (.int .i64 1), .lit (.int .i64 0), .lit (.int .i64 1)], .lit (.int .i64 0)])) (.ask (I64 x ∧
      I64 y ∧ I64 z) (.br (U.not (lk has x y z (lk se b x y z (lk absI c) (U.toNat (lk absI z)) a))) (.ret (.tup [.agg [.lit (.int .i64 1), .lit (.int .i64 0), .lit (.int .i64 1)], .lit
      (.int .i64 0)])) (.ask (U.mul .i64 (U.quo .i64 (lk absI c) (lk gcdI (lk absI c) (lk absI z))) (lk absI z) ≠ (0 : Int)) (.ask (lk se b x y z (lk absI c) (U.toNat (lk absI z)) a <
      U.add .i64 (lk se b x y z (lk absI c) (U.toNat (lk absI z)) a) (U.mul .i64 (U.quo .i64 (U.sub .i64 (U.mm false b y) (lk se b x y z (lk absI c) (U.toNat (lk absI z)) a)) (U.mul .i64
      (U.quo .i64 (lk absI c) (lk gcdI (lk absI c) (lk absI z))) (lk absI z))) (U.mul .i64 (U.quo .i64 (lk absI c) (lk gcdI (lk absI c) (lk absI z))) (lk absI z))) → U.lt c (0 : Int) =
      true → I64 (-U.mul .i64 (U.quo .i64 (lk absI c) (lk gcdI (lk absI c) (lk absI z))) (lk absI z))) (.ret (.tup [.agg [.lit (.int .i64 (lk rnL (lk se b x y z (lk absI c) (U.toNat (lk
      absI z)) a) (U.add .i64 (lk se b x y z (lk absI c) (U.toNat (lk absI z)) a) (U.mul .i64 (U.quo .i64 (U.sub .i64 (U.mm false b y) (lk se b x y z (lk absI c) (U.toNat (lk absI z)) a))
      (U.mul .i64 (U.quo .i64 (lk absI c) (lk gcdI (lk absI c) (lk absI z))) (lk absI z))) (U.mul .i64 (U.quo .i64 (lk absI c) (lk gcdI (lk absI c) (lk absI z))) (lk absI z)))) (U.mul
      .i64 (U.quo .i64 (lk absI c) (lk gcdI (lk absI c) (lk absI z))) (lk absI z)) (U.lt c (0 : Int)))), .lit (.int .i64 (lk rnH (lk se b x y z (lk absI c) (U.toNat (lk absI z)) a) (U.add
      .i64 (lk se b x y z (lk absI c) (U.toNat (lk absI z)) a) (U.mul .i64 (U.quo .i64 (U.sub .i64 (U.mm false b y) (lk se b x y z (lk absI c) (U.toNat (lk absI z)) a)) (U.mul .i64 (U.quo
      .i64 (lk absI c) (lk gcdI (lk absI c) (lk absI z))) (lk absI z))) (U.mul .i64 (U.quo .i64 (lk absI c) (lk gcdI (lk absI c) (lk absI z))) (lk absI z)))) (U.mul .i64 (U.quo .i64 (lk
      absI c) (lk gcdI (lk absI c) (lk absI z))) (lk absI z)) (U.lt c (0 : Int)))), .lit (.int .i64 (lk rnS (lk se b x y z (lk absI c) (U.toNat (lk absI z)) a) (U.add .i64 (lk se b x y z
      (lk absI c) (U.toNat (lk absI z)) a) (U.mul .i64 (U.quo .i64 (U.sub .i64 (U.mm false b y) (lk se b x y z (lk absI c) (U.toNat (lk absI z)) a)) (U.mul .i64 (U.quo .i64 (lk absI c)
      (lk gcdI (lk absI c) (lk absI z))) (lk absI z))) (U.mul .i64 (U.quo .i64 (lk absI c) (lk gcdI (lk absI c) (lk absI z))) (lk absI z)))) (U.mul .i64 (U.quo .i64 (lk absI c) (lk gcdI
      (lk absI c) (lk absI z))) (lk absI z)) (U.lt c (0 : Int))))], .lit (.int .i64 0)]))))))))))))))))))) := by kernel_rfl
theorem is_zero {a b c x y z : Int} (h : Right a b c) (h' : Right x y z) (hC : isC a b c x y z = 0) : isL a b c x y z = 1 ∧ isH a b c x y z = 0 ∧ isS a b c x y z = 1 := by
  have hn : ¬ ckd a b c x y z ≠ 0 := by simp [ckd_zero h h']
  simp only [isL, isH, isS, if_neg hn, hC]
  simp [nLow, nHigh, nStr]
theorem is_empty {a b c x y z : Int} (h : Right a b c) (h' : Right x y z) (he : isE a b c = true ∨ isE x y z = true) : isC a b c x y z = 0 := by
  obtain ⟨w1, w2⟩ := is_sw h h'
  rcases w1 with h0 | h1
  · exact h0
  · have f1 := (w2 _).1 (sIn_first h1.2.1 h1.1)
    rcases he with he | he
    · rw [isE_t] at he
      have := (empty_of (a := a) (b := b) (c := c) (by omega)).2.2
      have := f1.1.2.2.1
      omega
    · rw [isE_t] at he
      have := (empty_of (a := x) (b := y) (c := z) (by omega)).2.2
      have := f1.2.2.2.1
      omega
/-- The reference's reckoning, without overflow. -/
theorem ri_nums {a b c x y z : Int} (h : Right a b c) (h' : Right x y z) (hab : a ≤ b) (hxy : x ≤ y) :
    gcdI (absI c) (absI z) ≠ 0 ∧ U.mul .i64 (U.quo .i64 (absI c) (gcdI (absI c) (absI z))) (absI z) = riM c z ∧ 1 ≤ riM c z ∧ riM c z ≤ 4000000000000 ∧
    (max a x > a → U.add .i64 a (U.mul .i64 (U.quo .i64 (U.sub .i64 (U.add .i64 (U.sub .i64 (max a x) a) (absI c)) 1) (absI c)) (absI c)) = riF0 a c x) ∧
    (riG a b c x y z = true → U.add .i64 (riF a b c x y z) (U.mul .i64 (U.quo .i64 (U.sub .i64 (min b y) (riF a b c x y z)) (riM c z)) (riM c z)) = riF a b c x y z + riQ a b c x y z * riM c z) := by
  obtain ⟨s1, s2, _⟩ := parts h hab
  obtain ⟨t1, t2, _⟩ := parts h' hxy
  have hla := h.1
  have hlx := h'.1
  obtain ⟨g, s', m, u, w, g3, g4, g9, g1, g6, g7, gl⟩ := riM_eq s1 t1
  have hM1 : 1 ≤ riM c z := by
    rw [gl]
    have := mulle (s := absI c) (x := 1) (y := m) s1 g6
    omega
  have hMt : riM c z ≤ 4000000000000 := by
    rw [gl]
    have := mulle (s := absI c) (x := m) (y := 2000000) s1 (by omega)
    omega
  have hg0 : gcdI (absI c) (absI z) ≠ 0 := by
    unfold gcdI
    have : 0 < Int.gcd (absI c) (absI z) := Int.gcd_pos_of_ne_zero_left _ (by omega)
    omega
  have hgp : 0 ≤ gcdI (absI c) (absI z) := by unfold gcdI; omega
  have q1 := Int.tdiv_eq_ediv_of_nonneg (b := gcdI (absI c) (absI z)) (show 0 ≤ absI c by omega)
  have q2 := Int.ediv_nonneg (show 0 ≤ absI c by omega) hgp
  have q3 := Int.ediv_le_self (gcdI (absI c) (absI z)) (show 0 ≤ absI c by omega)
  have hMM : U.mul .i64 (U.quo .i64 (absI c) (gcdI (absI c) (absI z))) (absI z) = riM c z := by
    have e := U.quo64 (a := absI c) (b := gcdI (absI c) (absI z)) (by unfold I64; omega)
    have e' : riM c z = (absI c).tdiv (gcdI (absI c) (absI z)) * absI z := rfl
    rw [e, U.mul64 (by unfold I64; omega), e']
  refine ⟨hg0, hMM, hM1, hMt, fun hgt => ?_, fun hG => ?_⟩
  · obtain ⟨f1, f2, p0, f3, f4⟩ := riF0_spec (a := a) (c := c) (x := x) s1
    have e : riF0 a c x = a + (max a x - a + absI c - 1).tdiv (absI c) * absI c := by unfold riF0; rw [if_pos hgt]
    have r1 := Int.tdiv_eq_ediv_of_nonneg (b := absI c) (show 0 ≤ max a x - a + absI c - 1 by omega)
    have r2 := Int.ediv_nonneg (show 0 ≤ max a x - a + absI c - 1 by omega) (show 0 ≤ absI c by omega)
    have r3 := Int.ediv_le_self (absI c) (show 0 ≤ max a x - a + absI c - 1 by omega)
    have e1 : U.sub .i64 (max a x) a = max a x - a := U.sub64 (by unfold I64; omega)
    have e2 : U.add .i64 (max a x - a) (absI c) = max a x - a + absI c := U.add64 (by unfold I64; omega)
    have e3 : U.sub .i64 (max a x - a + absI c) 1 = max a x - a + absI c - 1 := U.sub64 (by unfold I64; omega)
    have e4 : U.quo .i64 (max a x - a + absI c - 1) (absI c) = (max a x - a + absI c - 1).tdiv (absI c) := U.quo64 (by unfold I64; omega)
    rw [e1, e2, e3, e4, U.mul64 (by unfold I64; omega), U.add64 (by unfold I64; omega), e]
  · obtain ⟨v1, v2, v3, v4⟩ := (ri_set h h' hab hxy).1 hG
    have w := v1.resolve_left (by omega)
    have w4 := w.2.2.2.1
    have w5 := w.2.2.2.2
    rw [show riQ a b c x y z + 1 - 1 = riQ a b c x y z by omega] at w5
    have m0 := mulle (s := riM c z) (x := 0) (y := riQ a b c x y z) hM1 v2.1
    have e1 : U.sub .i64 (min b y) (riF a b c x y z) = min b y - riF a b c x y z := U.sub64 (by unfold I64; omega)
    have hq : riQ a b c x y z = (min b y - riF a b c x y z).tdiv (riM c z) := rfl
    have e2 : U.quo .i64 (min b y - riF a b c x y z) (riM c z) = riQ a b c x y z := by
      rw [U.quo64 (by unfold I64; omega), hq]
    rw [e1, e2, U.mul64 (by rw [Int.mul_comm]; unfold I64; omega), U.add64 (by rw [Int.mul_comm]; unfold I64; omega)]
theorem rIntersect_ok : ConOK P 158 c_Intersect := con_of (allOKL mixed kr_ok l51_ok) 10 158 fun args r h => by
  unfold c_Intersect at h
  split at h
  · rename_i a b c x y z
    have hp := (T.is_ask h).1
    have h := (T.is_ask h).2
    obtain rfl := T.is_ret h
    rw [t_rIntersect]
    obtain ⟨ha, hb, hc, hx, hy, hz⟩ := hp
    by_cases h1 : chk a b c = 0
    · by_cases h2 : chk x y z = 0
      · have r1 := chk_zero.1 h1
        have r2 := chk_zero.1 h2
        have er := (is_set r1 r2).1
        cases i1 : isE a b c
        · cases i2 : isE x y z
          · have hab := right_le r1 (by rw [isE_f] at i1; exact i1)
            have hxy := right_le r2 (by rw [isE_f] at i2; exact i2)
            obtain ⟨s1, s2, _⟩ := parts r1 hab
            obtain ⟨t1, t2, _⟩ := parts r2 hxy
            have hla := r1.1
            have hlx := r2.1
            have rc := right_c r1
            have rz := right_c r2
            obtain ⟨n1, n2, n3, n4, n5, n6⟩ := ri_nums r1 r2 hab hxy
            obtain ⟨k1, k2⟩ := ri_is r1 r2 hab hxy
            obtain ⟨f1, f2, _⟩ := riF0_spec (a := a) (c := c) (x := x) s1
            have hse : se b x y z (absI c) (absI z).toNat (riF0 a c x) = riF a b c x y z := rfl
            have pre : PreS 0 a b c x y z (absI c) (absI z) (riM c z) (riF0 a c x) := ⟨by omega, ⟨ha, hb, hc⟩, ⟨hx, hy, hz⟩, by omega, s1, s2, t1, t2, by omega, by omega⟩
            have neg : I64 (-riM c z) := by unfold I64; omega
            have negc : I64 (-c) := by unfold I64; omega
            have negz : I64 (-z) := by unfold I64; omega
            have hs0 : absI c ≠ 0 := by omega
            have hM0 : riM c z ≠ 0 := by omega
            have nn : (0 : Int) ≤ absI c ∧ (0 : Int) ≤ absI z := by omega
            have hlt : U.lt c 0 = decide (c < 0) := U.lt_eq c 0
            have body : ∀ (f : Int), f = riF0 a c x → T.All (fun x_1 => x_1 = (SV.tup [SV.agg [.lit (.int .i64 (isL a b c x y z)), .lit (.int .i64 (isH a b c x y z)), .lit (.int .i64 (isS a b c x y z))], .lit (.int .i64 (isEr a b c x y z))])) (T.ask (PreS 0 a b c x y z (absI c) (absI z) (riM c z) f)
                (T.ask (I64 a ∧ I64 b ∧ I64 c) (T.br (U.not (has a b c (se b x y z (absI c) (absI z).toNat f))) (T.ret (.tup [.agg [.lit (.int .i64 1), .lit (.int .i64 0), .lit (.int .i64 1)], .lit (.int .i64 0)]))
                (T.ask (I64 x ∧ I64 y ∧ I64 z) (T.br (U.not (has x y z (se b x y z (absI c) (absI z).toNat f))) (T.ret (.tup [.agg [.lit (.int .i64 1), .lit (.int .i64 0), .lit (.int .i64 1)], .lit (.int .i64 0)]))
                (T.ask (riM c z ≠ 0) (T.ask (se b x y z (absI c) (absI z).toNat f < U.add .i64 (se b x y z (absI c) (absI z).toNat f) (U.mul .i64 (U.quo .i64 (U.sub .i64 (min b y) (se b x y z (absI c) (absI z).toNat f)) (riM c z)) (riM c z)) → decide (c < 0) = true → I64 (-riM c z))
                (T.ret (.tup [.agg [.lit (.int .i64 (rnL (se b x y z (absI c) (absI z).toNat f) (U.add .i64 (se b x y z (absI c) (absI z).toNat f) (U.mul .i64 (U.quo .i64 (U.sub .i64 (min b y) (se b x y z (absI c) (absI z).toNat f)) (riM c z)) (riM c z))) (riM c z) (decide (c < 0)))),
                  .lit (.int .i64 (rnH (se b x y z (absI c) (absI z).toNat f) (U.add .i64 (se b x y z (absI c) (absI z).toNat f) (U.mul .i64 (U.quo .i64 (U.sub .i64 (min b y) (se b x y z (absI c) (absI z).toNat f)) (riM c z)) (riM c z))) (riM c z) (decide (c < 0)))),
                  .lit (.int .i64 (rnS (se b x y z (absI c) (absI z).toNat f) (U.add .i64 (se b x y z (absI c) (absI z).toNat f) (U.mul .i64 (U.quo .i64 (U.sub .i64 (min b y) (se b x y z (absI c) (absI z).toNat f)) (riM c z)) (riM c z))) (riM c z) (decide (c < 0))))], .lit (.int .i64 0)]))))))))) := by
              rintro f rfl
              rw [hse]
              cases g1 : has a b c (riF a b c x y z)
              · obtain ⟨m1, m2, m3⟩ := k2 (by unfold riG; rw [g1]; rfl)
                simp [T.All, U.not_eq, pre, ha, hb, hc, m1, m2, m3, er]
              · cases g2 : has x y z (riF a b c x y z)
                · obtain ⟨m1, m2, m3⟩ := k2 (by unfold riG; rw [g1, g2]; rfl)
                  simp [T.All, U.not_eq, pre, ha, hb, hc, hx, hy, hz, m1, m2, m3, er]
                · have hG : riG a b c x y z = true := by unfold riG; rw [g1, g2]; rfl
                  obtain ⟨m1, m2, m3⟩ := k1 hG
                  rw [n6 hG]
                  simp [T.All, U.not_eq, pre, ha, hb, hc, hx, hy, hz, m1, m2, m3, er, hM0, neg]
            simp only [lk_eq, mm_max, mm_min, n2, hlt, U.toNat_eq]
            simp only [T.All, U.ne_eq, h1, h2, i1, i2, ha, hb, hc, hx, hy, hz, negc, negz, nn, n1, hs0, and_self, true_and, ne_eq, not_false_eq_true, not_true_eq_false, U.gt_t, U.gt_f] at body ⊢
            refine ⟨fun h => by simp at h, fun _ => ⟨fun h => by simp at h, fun _ => ⟨fun h => by simp at h, fun _ => ⟨fun h => by simp at h, fun _ => ⟨fun hgt => body _ (n5 hgt), fun hle => body _ ?_⟩⟩⟩⟩⟩
            unfold riF0
            rw [if_neg (by omega)]
          · obtain ⟨e1, e2, e3⟩ := is_zero r1 r2 (is_empty r1 r2 (.inr i2))
            simp [T.All, U.ne_eq, lk_eq, h1, h2, i1, i2, e1, e2, e3, er, ha, hb, hc, hx, hy, hz]
        · obtain ⟨e1, e2, e3⟩ := is_zero r1 r2 (is_empty r1 r2 (.inl i1))
          simp [T.All, U.ne_eq, lk_eq, h1, h2, i1, e1, e2, e3, er, ha, hb, hc, hx, hy, hz]
      · simp [T.All, U.ne_eq, lk_eq, isL, isH, isS, isEr, ckd, h1, h2, ha, hb, hc, hx, hy, hz]
    · simp [T.All, U.ne_eq, lk_eq, isL, isH, isS, isEr, ckd, h1, ha, hb, hc]
  · exact h.elim
end Go.RX.Span

/- The reference's Hull and Within: the walks. -/
set_option linter.unusedVariables false
set_option linter.unusedSimpArgs false
set_option maxRecDepth 100000
namespace Go.RX.Span
open Go Go.RX
attribute [local irreducible] sx conB

noncomputable abbrev ks : List (Nat × Con) := (22, c_Intersect) :: (158, c_Intersect) :: (110, c_checked) :: (111, c_common) :: kr --%K
theorem ks_ok : ∀ p ∈ ks, ConOK P p.1 p.2 := by
  intro p hp
  simp only [ks, List.mem_cons] at hp
  rcases hp with rfl | rfl | rfl | rfl | hp
  · exact Intersect_ok
  · exact rIntersect_ok
  · exact checked_ok
  · exact common_ok
  · exact kr_ok p (by simpa [kr] using hp)
/-- The reference's step of a hull. -/
def rh0 (a x : Int) : Int := if a - x < 0 then -(a - x) else a - x
def rh1 (a b c x : Int) : Int := if a < b then gcdI (rh0 a x) (absI c) else rh0 a x
def rhG (a b c x y z : Int) : Int := if x < y then gcdI (rh1 a b c x) (absI z) else rh1 a b c x
noncomputable def rhR (a b c x y z : Int) : SV := .tup [.agg [.lit (.int .i64 (rnL (min a x) (max b y) (rhG a b c x y z) false)), .lit (.int .i64 (rnH (min a x) (max b y) (rhG a b c x y z) false)), .lit (.int .i64 (rnS (min a x) (max b y) (rhG a b c x y z) false))], .lit (.int .i64 0)]
theorem gcd_nn {a b : Int} : 0 ≤ gcdI a b := by unfold gcdI; omega
theorem gcd_eu {a b : Int} (ha : 0 ≤ a) (hb : 0 ≤ b) : gcdI a b = euG a b := (eu_spec ha hb).1.symm
theorem gcd_0 {b : Int} (hb : 0 ≤ b) : gcdI 0 b = b := by unfold gcdI; rw [Int.gcd_zero_left]; omega
theorem gcd_s {b : Int} (hb : 0 ≤ b) : gcdI b b = b := by unfold gcdI; rw [Int.gcd_self]; omega
/-- A series upwards as a range upwards. -/
theorem nrm_up {f s C : Int} (hs : 1 ≤ s) (hC : 1 ≤ C) (h1 : -1000000 ≤ f) (h2 : f + s * (C - 1) ≤ 1000000) :
    nLow f s C = f ∧ nHigh f s C = f + s * (C - 1) ∧ nStr f s C = (if C = 1 then 1 else s) := by
  have m0 := mulle (x := 0) (y := C - 1) hs (by omega)
  rw [Int.mul_zero] at m0
  obtain ⟨q1, q2, q3, q4⟩ := nrm_like (f := f) (s := s) (C := C) (c := 0) hs
  simp only [kF, kB, Int.lt_irrefl, if_false] at q1 q2 q3 q4
  have n1 : ¬ C ≤ 0 := by omega
  have e0 : mvE f s C = 0 := by unfold mvE; rw [if_neg n1, if_pos (by omega)]
  rw [q2, q3, q4]
  simp only [mvLow, mvHigh, mvStr, e0, if_neg n1, if_true, Int.lt_irrefl, if_false]
  exact ⟨trivial, trivial, trivial⟩
theorem hl_ne {a b c x y z : Int} (h : Right a b c) (h' : Right x y z) (hab : a ≤ b) (hxy : x ≤ y) :
    hlL a b c x y z = rnL (min a x) (max b y) (rhG a b c x y z) false ∧ hlH a b c x y z = rnH (min a x) (max b y) (rhG a b c x y z) false ∧ hlS a b c x y z = rnS (min a x) (max b y) (rhG a b c x y z) false := by
  have hn : ¬ ckd a b c x y z ≠ 0 := by simp [ckd_zero h h']
  obtain ⟨w1, w2, w3, _⟩ := hu_set (up_ser h) (up_ser h')
  obtain ⟨p1, p2, p3, p4, p5, _⟩ := parts h hab
  obtain ⟨v1, v2, v3, v4, v5, _⟩ := parts h' hxy
  have eA : sA a b c = a := (up_of h hab).1
  have eS : sS a b c = absI c := (up_of h hab).2
  have eX : sA x y z = x := (up_of h' hxy).1
  have eZ : sS x y z = absI z := (up_of h' hxy).2
  have hla := h.1
  have hlx := h'.1
  have l1 := (w2 _ (sIn_last (by rw [eS]; exact p1) p3)).2.1
  have l2 := (w3 _ (sIn_last (by rw [eZ]; exact v1) v3)).2.1
  simp only [hlL, hlH, hlS, if_neg hn, haF, haB, haC]
  rw [eA, eS, eX, eZ] at w1 l1 l2 ⊢
  have k1 : absI c * (ofC a b c - 1) = b - a := p5
  have k2 : absI z * (ofC x y z - 1) = y - x := v5
  have cC : ofC a b c > 1 ↔ a < b := by
    constructor
    · intro hc
      have := mulle (s := absI c) (x := 1) (y := ofC a b c - 1) p1 (by omega)
      omega
    · intro hlt
      rcases Int.lt_or_le 1 (ofC a b c) with h | h
      · exact h
      · rw [show ofC a b c - 1 = 0 by omega, Int.mul_zero] at k1; omega
  have cD : ofC x y z > 1 ↔ x < y := by
    constructor
    · intro hc
      have := mulle (s := absI z) (x := 1) (y := ofC x y z - 1) v1 (by omega)
      omega
    · intro hlt
      rcases Int.lt_or_le 1 (ofC x y z) with h | h
      · exact h
      · rw [show ofC x y z - 1 = 0 by omega, Int.mul_zero] at k2; omega
  have g0 : huD a x = rh0 a x := by unfold huD rh0; split <;> omega
  have g0n : 0 ≤ rh0 a x := by unfold rh0; split <;> omega
  have g1 : hu1 a (absI c) (ofC a b c) x = rh1 a b c x := by
    unfold hu1 rh1
    rw [g0]
    by_cases hlt : a < b
    · rw [if_pos (cC.2 hlt), if_pos hlt, gcd_eu g0n (by omega)]
    · rw [if_neg (fun h => hlt (cC.1 h)), if_neg hlt]
  have g1n : 0 ≤ rh1 a b c x := by unfold rh1; split; exact gcd_nn; exact g0n
  have g2 : hu2 a (absI c) (ofC a b c) x (absI z) (ofC x y z) = rhG a b c x y z := by
    unfold hu2 rhG
    rw [g1]
    by_cases hlt : x < y
    · rw [if_pos (cD.2 hlt), if_pos hlt, gcd_eu g1n (by omega)]
    · rw [if_neg (fun h => hlt (cD.1 h)), if_neg hlt]
  have g2n : 0 ≤ rhG a b c x y z := by unfold rhG; split; exact gcd_nn; exact g1n
  have eXX : huX a (absI c) (ofC a b c) x (absI z) (ofC x y z) = max b y := by
    unfold huX sLast
    rw [k1, k2]; omega
  have n1 : ¬ ofC a b c = 0 := by omega
  have n2 : ¬ ofC x y z = 0 := by omega
  simp only [huF, huB, huC, if_neg n1, if_neg n2, g2, eXX] at w1 l1 l2 ⊢
  rw [k1] at l1
  rw [k2] at l2
  generalize rhG a b c x y z = g at *
  by_cases hz : g = 0
  · subst hz
    simp only [if_true] at w1 l1 l2 ⊢
    obtain ⟨q1, q2, q3⟩ := nrm_up (f := min a x) (s := 1) (C := 1) (by omega) (by omega) (by omega) (by omega)
    rw [q1, q2, q3]
    unfold rnL rnH rnS
    rw [if_neg (by omega), if_neg (by omega), if_pos rfl, if_pos (by omega)]
    exact ⟨rfl, by omega, rfl⟩
  · simp only [if_neg hz] at w1 l1 l2 ⊢
    have hg : 1 ≤ g := by omega
    have t1 := Int.tdiv_eq_ediv_of_nonneg (b := g) (show 0 ≤ max b y - min a x by omega)
    have t2 := Int.mul_ediv_add_emod (max b y - min a x) g
    have t3 := Int.emod_nonneg (max b y - min a x) (show g ≠ 0 by omega)
    have t5 := Int.ediv_nonneg (show 0 ≤ max b y - min a x by omega) (show 0 ≤ g by omega)
    rw [t1] at l1 l2 ⊢
    generalize (max b y - min a x) / g = q at *
    rw [show q + 1 - 1 = q by omega] at l1 l2
    obtain ⟨q1, q2, q3⟩ := nrm_up (f := min a x) (s := g) (C := q + 1) hg (by omega) (by omega) (by rw [show q + 1 - 1 = q by omega]; omega)
    rw [q1, q2, q3, show q + 1 - 1 = q by omega]
    unfold rnL rnH rnS
    rw [if_neg (by omega), if_neg (by omega)]
    refine ⟨rfl, by omega, ?_⟩
    by_cases hq : q = 0
    · subst hq
      rw [Int.mul_zero] at *
      rw [if_pos (by omega), if_pos (by omega)]
    · have := mulle (s := g) (x := 1) (y := q) hg (by omega)
      rw [if_neg (by omega), if_neg (by omega), if_neg (by simp)]
theorem rhG_self {x y z : Int} (hz : 1 ≤ absI z) : rnL (min x x) (max y y) (rhG x y z x y z) false = rnL x y (absI z) false ∧ rnH (min x x) (max y y) (rhG x y z x y z) false = rnH x y (absI z) false ∧ rnS (min x x) (max y y) (rhG x y z x y z) false = rnS x y (absI z) false := by
  rw [Int.min_self, Int.max_self]
  refine ⟨rfl, rfl, ?_⟩
  by_cases h : x < y
  · have e : rhG x y z x y z = absI z := by
      unfold rhG rh1 rh0
      rw [if_pos h, if_pos h, Int.sub_self, if_neg (by omega), gcd_0 (by omega), gcd_s (by omega)]
    rw [e]
  · unfold rnS
    rw [if_pos (by omega), if_pos (by omega)]
theorem up_nrm {x y z : Int} (h' : Right x y z) (hxy : x ≤ y) : nLow (sA x y z) (sS x y z) (ofC x y z) = rnL x y (absI z) false ∧ nHigh (sA x y z) (sS x y z) (ofC x y z) = rnH x y (absI z) false ∧ nStr (sA x y z) (sS x y z) (ofC x y z) = rnS x y (absI z) false := by
  obtain ⟨v1, v2, v3, v4, v5, _⟩ := parts h' hxy
  have eX : sA x y z = x := (up_of h' hxy).1
  have eZ : sS x y z = absI z := (up_of h' hxy).2
  have hlx := h'.1
  obtain ⟨q1, q2, q3⟩ := nrm_up (f := x) (s := absI z) (C := ofC x y z) v1 v3 (by omega) (by omega)
  rw [eX, eZ, q1, q2, q3, v5]
  unfold rnL rnH rnS
  rw [if_neg (by omega), if_neg (by omega)]
  refine ⟨rfl, by omega, ?_⟩
  by_cases hq : ofC x y z = 1
  · rw [hq, Int.sub_self, Int.mul_zero] at v5
    rw [if_pos hq, if_pos (by omega)]
  · have := mulle (s := absI z) (x := 1) (y := ofC x y z - 1) v1 (by omega)
    rw [if_neg hq, if_neg (by omega), if_neg (by simp)]
theorem hl_l {a b c x y z : Int} (h : Right a b c) (h' : Right x y z) (hab : ¬ a ≤ b) (hxy : x ≤ y) :
    hlL a b c x y z = rnL (min x x) (max y y) (rhG x y z x y z) false ∧ hlH a b c x y z = rnH (min x x) (max y y) (rhG x y z x y z) false ∧ hlS a b c x y z = rnS (min x x) (max y y) (rhG x y z x y z) false := by
  have hn : ¬ ckd a b c x y z ≠ 0 := by simp [ckd_zero h h']
  have e := (empty_of (c := c) hab).2.2
  obtain ⟨v1, _⟩ := parts h' hxy
  obtain ⟨q1, q2, q3⟩ := rhG_self (x := x) (y := y) v1
  simp only [hlL, hlH, hlS, if_neg hn, haF, haB, haC, huF, huB, huC, e, if_true]
  rw [q1, q2, q3]
  exact up_nrm h' hxy
theorem hl_r {a b c x y z : Int} (h : Right a b c) (h' : Right x y z) (hab : a ≤ b) (hxy : ¬ x ≤ y) :
    hlL a b c x y z = rnL (min a a) (max b b) (rhG a b c a b c) false ∧ hlH a b c x y z = rnH (min a a) (max b b) (rhG a b c a b c) false ∧ hlS a b c x y z = rnS (min a a) (max b b) (rhG a b c a b c) false := by
  have hn : ¬ ckd a b c x y z ≠ 0 := by simp [ckd_zero h h']
  have e := (empty_of (c := z) hxy).2.2
  obtain ⟨v1, _, v3, _⟩ := parts h hab
  have n1 : ¬ ofC a b c = 0 := by omega
  obtain ⟨q1, q2, q3⟩ := rhG_self (x := a) (y := b) v1
  simp only [hlL, hlH, hlS, if_neg hn, haF, haB, haC, huF, huB, huC, e, if_neg n1, if_true]
  rw [q1, q2, q3]
  exact up_nrm h hab
theorem hl_e {a b c x y z : Int} (h : Right a b c) (h' : Right x y z) (hab : ¬ a ≤ b) (hxy : ¬ x ≤ y) : hlL a b c x y z = 1 ∧ hlH a b c x y z = 0 ∧ hlS a b c x y z = 1 := by
  have hn : ¬ ckd a b c x y z ≠ 0 := by simp [ckd_zero h h']
  have e := (empty_of (c := c) hab).2.2
  have e' := (empty_of (c := z) hxy).2.2
  simp only [hlL, hlH, hlS, if_neg hn, haF, haB, haC, huF, huB, huC, e, e', if_true, nLow, nHigh, nStr, Int.le_refl]
  exact ⟨trivial, trivial, trivial⟩
theorem isE_iff {a b c : Int} (h : Right a b c) : isE a b c = true ↔ ¬ a ≤ b := by
  rw [isE_t]
  constructor
  · omega
  · intro hab; exact empty_is h hab
theorem right_i6 {a b c : Int} (h : Right a b c) : I64 a ∧ I64 b ∧ I64 c := by
  have h1 := h.1
  have h2 := right_c h
  unfold I64
  omega
end Go.RX.Span

/- The reference's Subtract: the loop's states. -/
set_option linter.unusedVariables false
set_option linter.unusedSimpArgs false
namespace Go.RX.Span
open Go Go.RX

def upT (low high st : Int) : Int := if high < low then low - 1 else low + (high - low).tdiv st * st
noncomputable def c_upto : Con := fun args => match args with
  | [.lit (.int .i64 l), .lit (.int .i64 h), .lit (.int .i64 s)] => .ask (-10000000 ≤ l ∧ l ≤ 10000000 ∧ -10000000 ≤ h ∧ h ≤ 10000000 ∧ 1 ≤ s ∧ s ≤ 10000000) (.ret (.lit (.int .i64 (lk upT l h s))))
  | _ => .stuck 1
theorem cat_l {n i : Nat} {f g : Nat → R3} (h : i < n) : U.cat n f g i = f i := (U.cat_eq _ _ _ _).trans (if_pos h)
theorem cat_r {n i : Nat} {f g : Nat → R3} (h : n ≤ i) : U.cat n f g i = g (i - n) := (U.cat_eq _ _ _ _).trans (if_neg (by omega))
/-- The reference's i-th inner piece. -/
def rpc (cl ch s t : Int) (d : Bool) (i : Nat) : R3 := (rnL (cl + (i + 1) * s) (upT (cl + (i + 1) * s) ch t) t d, rnH (cl + (i + 1) * s) (upT (cl + (i + 1) * s) ch t) t d, rnS (cl + (i + 1) * s) (upT (cl + (i + 1) * s) ch t) t d, ())
def rM (s t : Int) : Nat := (t.tdiv s - 1).toNat
structure XR where
  (a b c x y z cl ch cs s t : Int) (d : Bool) (n : Nat) (f : Nat → R3) (j : Nat)
/-- The pieces ahead, and so many inner ones. -/
noncomputable def rpF (cl ch s t : Int) (d : Bool) (n : Nat) (f : Nat → R3) : Nat → R3 := U.cat n f (rpc cl ch s t d)
def PreR (n0 : Nat) (cl ch s t : Int) (n : Nat) : Prop := n0 = 0 ∧ 1 ≤ s ∧ s ≤ 2000000 ∧ -1000000 ≤ cl ∧ ch ≤ 1000000 ∧ cl + t ≤ ch ∧ (∃ m : Int, t = s * m) ∧ 1 ≤ t ∧ t ≤ 2000000 ∧ n ≤ 1 ∧ rM s t ≤ 1002
noncomputable def memR (a b c x y z cl ch cs : Int) (n : Nat) (f : Nat → R3) : Mem := [(0, some (.cells [.lit (.int .i64 a), .lit (.int .i64 b), .lit (.int .i64 c)] 23)), (0, some (.cells [.lit (.int .i64 x), .lit (.int .i64 y), .lit (.int .i64 z)] 23)), (0, some (.cells [.lit (.int .i64 cl), .lit (.int .i64 ch), .lit (.int .i64 cs)] 23)), (0, none), (0, none), (0, none), (0, some (.row false n [.int .i64, .int .i64, .int .i64] f 23))]
noncomputable def VR (q : XR) : Few := ([.ptr 0 0, .ptr 2 0, .own false 6 (q.n + q.j), .lit (.int .i64 q.s), .lit (.bool q.d), .lit (.int .i64 q.t), .lit (.int .i64 ((q.j + 1 : Nat) : Int))], memR q.a q.b q.c q.x q.y q.z q.cl q.ch q.cs (q.n + q.j) (rpF q.cl q.ch q.s q.t q.d q.n q.f))
noncomputable def OR (q : XR) : Ex × Few := (.exit 0, ([.ptr 0 0, .ptr 2 0, .own false 6 (q.n + rM q.s q.t), .lit (.int .i64 q.s), .lit (.bool q.d), .lit (.int .i64 q.t), .any], memR q.a q.b q.c q.x q.y q.z q.cl q.ch q.cs (q.n + rM q.s q.t) (rpF q.cl q.ch q.s q.t q.d q.n q.f)))
def PhiR (n0 : Nat) (q : XR) : Prop := PreR n0 q.cl q.ch q.s q.t q.n ∧ q.j ≤ rM q.s q.t
noncomputable def oR (a b c x y z cl ch cs s t : Int) (d : Bool) (n : Nat) (f : Nat → R3) : Ex × Few := (.exit 0, ([.ptr 0 0, .ptr 2 0, .own false 6 (n + lk rM s t), .lit (.int .i64 s), .lit (.bool d), .lit (.int .i64 t), .any], [(0, some (.cells [.lit (.int .i64 a), .lit (.int .i64 b), .lit (.int .i64 c)] 23)), (0, some (.cells [.lit (.int .i64 x), .lit (.int .i64 y), .lit (.int .i64 z)] 23)), (0, some (.cells [.lit (.int .i64 cl), .lit (.int .i64 ch), .lit (.int .i64 cs)] 23)), (0, none), (0, none), (0, none), (0, some (.row false (n + lk rM s t) [.int .i64, .int .i64, .int .i64] (lk rpF cl ch s t d n f) 23))]))
noncomputable def gR : Nat → Few → T (Ex × Few)
  | n0, ([.ptr 0 0, .ptr 2 0, .own false 3 n', .lit (.int .i64 s), .lit (.bool d), .lit (.int .i64 t), .ki .i64 (.ofNat 1)], [(_, some (.cells [.lit (.int .i64 a), .lit (.int .i64 b), .lit (.int .i64 c)] 23)), (_, some (.cells [.lit (.int .i64 x), .lit (.int .i64 y), .lit (.int .i64 z)] 23)), (_, some (.cells [.lit (.int .i64 cl), .lit (.int .i64 ch), .lit (.int .i64 cs)] 23)), (_, some (.row false n [.int .i64, .int .i64, .int .i64] f 23)), _]) =>
    .ask (PreR n0 cl ch s t n ∧ n' = n) (.ret (oR a b c x y z cl ch cs s t d n f))
  | n0, ([.ptr 0 0, .ptr 2 0, .own false 6 n', .lit (.int .i64 s), .lit (.bool d), .lit (.int .i64 t), .ki .i64 (.ofNat 1)], [(_, some (.cells [.lit (.int .i64 a), .lit (.int .i64 b), .lit (.int .i64 c)] 23)), (_, some (.cells [.lit (.int .i64 x), .lit (.int .i64 y), .lit (.int .i64 z)] 23)), (_, some (.cells [.lit (.int .i64 cl), .lit (.int .i64 ch), .lit (.int .i64 cs)] 23)), _, _, _, (_, some (.row false n [.int .i64, .int .i64, .int .i64] f 23))]) =>
    .ask (PreR n0 cl ch s t n ∧ n' = n) (.ret (oR a b c x y z cl ch cs s t d n f))
  | _, _ => .stuck 1
noncomputable abbrev l53 : List (Nat × Loops) := [(162, [(14, .sum (few 95 [2, 6, 8, 9, 10, 11, 12] gR))])]
theorem E1_ok' {l : List (Nat × Con)} (h : ∀ p ∈ l, ConOK P p.1 p.2) : EnvOK ⟨P, conOf l, scall P (conOf l) noLoops 10⟩ := envOK (allOK mixed h) 10
end Go.RX.Span

/- The reference's Subtract: the walks. -/
set_option linter.unusedVariables false
set_option linter.unusedSimpArgs false
set_option maxRecDepth 100000
namespace Go.RX.Span
open Go Go.RX
attribute [local irreducible] sx conB

set_option maxRecDepth 100000 in
theorem t_upto (l h s : Int) : conB Go.Proofs.Try.prog (conOf []) noLoops 10 200 [.lit (.int .i64 l), .lit (.int .i64 h), .lit (.int .i64 s)] =
    T.br (U.lt h l) (.ret (.lit (.int .i64 (U.sub .i64 l (1 : Int))))) (.ask (s ≠ (0 : Int)) (.ret (.lit (.int .i64 (U.add .i64 l (U.mul .i64 (U.quo .i64 (U.sub .i64 h l) s) s)))))) := by kernel_rfl
theorem upto_ok : ConOK P 200 c_upto := con_of (allOK mixed none_ok) 10 200 fun args r h => by
  unfold c_upto at h
  split at h
  · rename_i l h' s
    have hp := (T.is_ask h).1
    have h := (T.is_ask h).2
    obtain rfl := T.is_ret h
    rw [t_upto]
    obtain ⟨l1, l2, h1, h2, s1, s2⟩ := hp
    simp only [T.All, U.le_t, U.le_f, U.lt_t, U.lt_f, U.gt_t, U.gt_f, U.ge_t, U.ge_f, U.eq_t, U.eq_f, U.ne_t, U.ne_f, U.not_t, U.not_f, U.andb_t, U.andb_f, SV.lit.injEq, SV.agg.injEq, SV.tup.injEq, List.cons.injEq, Value.int.injEq, Value.bool.injEq, true_and, and_true, lk_eq, upT]
    refine ⟨fun hlt => ?_, fun hle => ⟨by omega, ?_⟩⟩
    · rw [if_pos hlt, U.sub64 (by unfold I64; omega)]
    · rw [if_neg (by omega)]
      have e1 := Int.tdiv_eq_ediv_of_nonneg (b := s) (show 0 ≤ h' - l by omega)
      have e2 := Int.ediv_nonneg (show 0 ≤ h' - l by omega) (show 0 ≤ s by omega)
      have e3 := Int.ediv_mul_le (h' - l) (show s ≠ 0 by omega)
      have e4 := Int.mul_nonneg e2 (show 0 ≤ s by omega)
      have e5 := Int.ediv_le_self s (show 0 ≤ h' - l by omega)
      rw [U.sub64 (by unfold I64; omega), U.quo64 (by rw [e1]; unfold I64; omega), U.mul64 (by rw [e1]; unfold I64; omega), U.add64 (by rw [e1]; unfold I64; omega)]
  · exact h.elim
noncomputable abbrev kt : List (Nat × Con) := (200, c_upto) :: ks --%K
theorem kt_ok : ∀ p ∈ kt, ConOK P p.1 p.2 := by
  intro p hp
  simp only [kt, List.mem_cons] at hp
  rcases hp with rfl | hp
  · exact upto_ok
  · exact ks_ok p (by simpa [ks] using hp)
noncomputable abbrev Et : Env := ⟨P, conOf kt, scall P (conOf kt) noLoops 10⟩ --%K
theorem Et_ok : EnvOK Et := envOK (allOK mixed kt_ok) 10
set_option maxRecDepth 100000 in
theorem t_R (n0 : Nat) (a b c x y z cl ch cs s t k : Int) (d : Bool) (n : Nat) (f : Nat → R3) : (sx Et [] n0 (loopOf P 162 14) (mkS 95 [2, 6, 8, 9, 10, 11, 12] [.ptr 0 0, .ptr 2 0, .own false 6 n, .lit (.int .i64 s), .lit (.bool d), .lit (.int .i64 t), .lit (.int .i64 k)], memR a b c x y z cl ch cs n f)).bind (proj 95 [2, 6, 8, 9, 10, 11, 12]) =
    T.br (U.lt (U.mul .i64 k s) t) (.ask ((-10000000 : Int) ≤ U.add .i64 cl (U.mul .i64 k s) ∧ U.add .i64 cl (U.mul .i64 k s) ≤ (10000000 : Int) ∧ (-10000000 : Int) ≤ ch ∧ ch ≤
      (10000000 : Int) ∧ (1 : Int) ≤ t ∧ t ≤ (10000000 : Int)) (.ask (U.add .i64 cl (U.mul .i64 k s) < lk upT (U.add .i64 cl (U.mul .i64 k s)) ch t → d = true → I64 (-t)) (.br (lk isE (lk
      rnL (U.add .i64 cl (U.mul .i64 k s)) (lk upT (U.add .i64 cl (U.mul .i64 k s)) ch t) t d) (lk rnH (U.add .i64 cl (U.mul .i64 k s)) (lk upT (U.add .i64 cl (U.mul .i64 k s)) ch t) t d)
      (lk rnS (U.add .i64 cl (U.mul .i64 k s)) (lk upT (U.add .i64 cl (U.mul .i64 k s)) ch t) t d)) (.ret (Ex.normal, [SV.ptr (nat_lit 0) (nat_lit 0), SV.ptr (nat_lit 2) (nat_lit 0),
      SV.own false (nat_lit 6) n, .lit (.int .i64 s), .lit (.bool d), .lit (.int .i64 t), .lit (.int .i64 (U.add .i64 k (1 : Int)))], [(nat_lit 0, some (Blk.cells [.lit (.int .i64 a),
      .lit (.int .i64 b), .lit (.int .i64 c)] (nat_lit 23))), (nat_lit 0, some (Blk.cells [.lit (.int .i64 x), .lit (.int .i64 y), .lit (.int .i64 z)] (nat_lit 23))), (nat_lit 0, some
      (Blk.cells [.lit (.int .i64 cl), .lit (.int .i64 ch), .lit (.int .i64 cs)] (nat_lit 23))), (nat_lit 0, none), (nat_lit 0, none), (nat_lit 0, none), (nat_lit 0, some (Blk.row false n
      [.int .i64, .int .i64, .int .i64] f (nat_lit 23))), (nat_lit 0, some (Blk.cells [.lit (.int .i64 (lk rnL (U.add .i64 cl (U.mul .i64 k s)) (lk upT (U.add .i64 cl (U.mul .i64 k s)) ch
      t) t d)), .lit (.int .i64 (lk rnH (U.add .i64 cl (U.mul .i64 k s)) (lk upT (U.add .i64 cl (U.mul .i64 k s)) ch t) t d)), .lit (.int .i64 (lk rnS (U.add .i64 cl (U.mul .i64 k s)) (lk
      upT (U.add .i64 cl (U.mul .i64 k s)) ch t) t d))] (nat_lit 23)))])) (.ask ((n + (1 : Nat)) * nat_lit 24 ≤ nat_lit 140737488351232) (.ret (Ex.normal, [SV.ptr (nat_lit 0) (nat_lit 0),
      SV.ptr (nat_lit 2) (nat_lit 0), SV.own false (nat_lit 9) (n.add (nat_lit 1)), .lit (.int .i64 s), .lit (.bool d), .lit (.int .i64 t), .lit (.int .i64 (U.add .i64 k (1 : Int)))],
      [(nat_lit 0, some (Blk.cells [.lit (.int .i64 a), .lit (.int .i64 b), .lit (.int .i64 c)] (nat_lit 23))), (nat_lit 0, some (Blk.cells [.lit (.int .i64 x), .lit (.int .i64 y), .lit
      (.int .i64 z)] (nat_lit 23))), (nat_lit 0, some (Blk.cells [.lit (.int .i64 cl), .lit (.int .i64 ch), .lit (.int .i64 cs)] (nat_lit 23))), (nat_lit 0, none), (nat_lit 0, none),
      (nat_lit 0, none), (nat_lit 1, none), (nat_lit 0, some (Blk.cells [.lit (.int .i64 (lk rnL (U.add .i64 cl (U.mul .i64 k s)) (lk upT (U.add .i64 cl (U.mul .i64 k s)) ch t) t d)),
      .lit (.int .i64 (lk rnH (U.add .i64 cl (U.mul .i64 k s)) (lk upT (U.add .i64 cl (U.mul .i64 k s)) ch t) t d)), .lit (.int .i64 (lk rnS (U.add .i64 cl (U.mul .i64 k s)) (lk upT
      (U.add .i64 cl (U.mul .i64 k s)) ch t) t d))] (nat_lit 23))), (nat_lit 0, some (Blk.cells [.lit (.int .i64 (lk rnL (U.add .i64 cl (U.mul .i64 k s)) (lk upT (U.add .i64 cl (U.mul
      .i64 k s)) ch t) t d)), .lit (.int .i64 (lk rnH (U.add .i64 cl (U.mul .i64 k s)) (lk upT (U.add .i64 cl (U.mul .i64 k s)) ch t) t d)), .lit (.int .i64 (lk rnS (U.add .i64 cl (U.mul
      .i64 k s)) (lk upT (U.add .i64 cl (U.mul .i64 k s)) ch t) t d))] (nat_lit 23))), (nat_lit 0, some (Blk.row false (n.add (nat_lit 1)) [.int .i64, .int .i64, .int .i64] (U.cat n f fun
      x => (lk rnL (U.add .i64 cl (U.mul .i64 k s)) (lk upT (U.add .i64 cl (U.mul .i64 k s)) ch t) t d, lk rnH (U.add .i64 cl (U.mul .i64 k s)) (lk upT (U.add .i64 cl (U.mul .i64 k s)) ch
      t) t d, lk rnS (U.add .i64 cl (U.mul .i64 k s)) (lk upT (U.add .i64 cl (U.mul .i64 k s)) ch t) t d, PUnit.unit)) (nat_lit 23)))])))))) (.ret (Ex.exit (nat_lit 0), [SV.ptr (nat_lit
      0) (nat_lit 0), SV.ptr (nat_lit 2) (nat_lit 0), SV.own false (nat_lit 6) n, .lit (.int .i64 s), .lit (.bool d), .lit (.int .i64 t), .lit (.int .i64 k)], [(nat_lit 0, some (Blk.cells
      [.lit (.int .i64 a), .lit (.int .i64 b), .lit (.int .i64 c)] (nat_lit 23))), (nat_lit 0, some (Blk.cells [.lit (.int .i64 x), .lit (.int .i64 y), .lit (.int .i64 z)] (nat_lit 23))),
      (nat_lit 0, some (Blk.cells [.lit (.int .i64 cl), .lit (.int .i64 ch), .lit (.int .i64 cs)] (nat_lit 23))), (nat_lit 0, none), (nat_lit 0, none), (nat_lit 0, none), (nat_lit 0, some
      (Blk.row false n [.int .i64, .int .i64, .int .i64] f (nat_lit 23)))])) := by kernel_rfl
theorem upT_ge {l h t : Int} (hl : l ≤ h) (ht : 1 ≤ t) : l ≤ upT l h t ∧ upT l h t ≤ h := by
  unfold upT
  rw [if_neg (by omega)]
  have e1 := Int.tdiv_eq_ediv_of_nonneg (b := t) (show 0 ≤ h - l by omega)
  have e2 := Int.ediv_nonneg (show 0 ≤ h - l by omega) (show 0 ≤ t by omega)
  have e3 := Int.ediv_mul_le (h - l) (show t ≠ 0 by omega)
  have e4 := Int.mul_nonneg e2 (show 0 ≤ t by omega)
  rw [e1]; omega
theorem rn_not {l h t : Int} {d : Bool} (hl : l ≤ h) : isE (rnL l h t d) (rnH l h t d) (rnS l h t d) = false := by
  rw [isE_f]
  unfold rnL rnH
  rw [if_neg (by omega), if_neg (by omega)]
  omega
theorem sameR {n : Nat} {f g : Nat → R3} (h : ∀ i, i < n → f i = g i) : sameRow n f g := ⟨eqShs_refl _, fun i hi => h i hi⟩
theorem rM_spec {s t : Int} (hs : 1 ≤ s) (ht : 1 ≤ t) (h : ∃ m : Int, t = s * m) : s * ((rM s t : Int) + 1) = t := by
  obtain ⟨m, rfl⟩ := h
  have e : (s * m).tdiv s = m := Int.mul_tdiv_cancel_left _ (by omega)
  have hm : 1 ≤ m := by
    rcases Int.lt_or_le 0 m with h | h
    · omega
    · have := Int.mul_le_mul_of_nonneg_left h (show (0 : Int) ≤ s by omega); omega
  unfold rM
  rw [e, Int.toNat_of_nonneg (by omega), show m - 1 + 1 = m by omega]
theorem roundR (n0 : Nat) (q : XR) (hq : PhiR n0 q) : ((sx Et [] n0 (loopOf P 162 14) (mkS 95 [2, 6, 8, 9, 10, 11, 12] (VR q).1, (VR q).2)).bind (proj 95 [2, 6, 8, 9, 10, 11, 12])).All fun r => match r.1 with
      | .normal => ∃ q', PhiR n0 q' ∧ rM q'.s q'.t - q'.j < rM q.s q.t - q.j ∧ Wk 95 [2, 6, 8, 9, 10, 11, 12] n0 r.2 (VR q') ∧ ∀ o, o = OR q' → o = OR q
      | e => ∃ s, (e, s) = OR q ∧ Wk 95 [2, 6, 8, 9, 10, 11, 12] n0 r.2 s := by
  unfold VR
  dsimp only
  rw [t_R]
  obtain ⟨a, b, c, x, y, z, cl, ch, cs, s, t, d, n, f, j⟩ := q
  obtain ⟨⟨h0, s1, s2, c1, c2, c3, hm, t1, t2, hn, hM⟩, hj⟩ := hq
  simp only [] at h0 s1 s2 c1 c2 c3 hm t1 t2 hn hM hj
  subst h0
  have hMs := rM_spec s1 t1 hm
  have hMs' := hMs
  dsimp only
  have mle := mulle (s := s) (x := ((j + 1 : Nat) : Int)) (y := (rM s t : Int) + 1) s1 (by omega)
  have mge := mulle (s := s) (x := 0) (y := ((j + 1 : Nat) : Int)) s1 (by omega)
  have e1 : U.mul .i64 ((j + 1 : Nat) : Int) s = s * ((j + 1 : Nat) : Int) := by rw [U.mul64 (by rw [Int.mul_comm]; unfold I64; omega), Int.mul_comm]
  have e2 : U.add .i64 ((j + 1 : Nat) : Int) 1 = ((j + 1 + 1 : Nat) : Int) := by rw [U.add64 (by unfold I64; omega)]; omega
  have e3 : U.add .i64 cl (s * ((j + 1 : Nat) : Int)) = cl + s * ((j + 1 : Nat) : Int) := U.add64 (by unfold I64; omega)
  simp only [e1, e2, e3]
  by_cases hlt : j < rM s t
  · have mlt := mulle (s := s) (x := ((j + 1 : Nat) : Int) + 1) (y := (rM s t : Int) + 1) s1 (by omega)
    have hcond : s * ((j + 1 : Nat) : Int) < t := by rw [Int.mul_add] at mlt; omega
    obtain ⟨u1, u2⟩ := upT_ge (l := cl + s * ((j + 1 : Nat) : Int)) (h := ch) (t := t) (by omega) t1
    have hE := rn_not (t := t) (d := d) u1
    simp only [T.All, U.le_t, U.le_f, U.lt_t, U.lt_f, U.gt_t, U.gt_f, U.ge_t, U.ge_f, U.eq_t, U.eq_f, U.ne_t, U.ne_f, U.not_t, U.not_f, U.andb_t, U.andb_f, SV.lit.injEq, SV.agg.injEq, SV.tup.injEq, List.cons.injEq, Value.int.injEq, Value.bool.injEq, true_and, and_true, lk_eq, hE, Bool.false_eq_true, false_implies]
    refine ⟨fun _ => ⟨by omega, fun _ _ => by unfold I64; omega, fun _ => ⟨by omega, ?_⟩⟩, fun h => by omega⟩
    · refine ⟨⟨a, b, c, x, y, z, cl, ch, cs, s, t, d, n, f, j + 1⟩, ⟨⟨rfl, s1, s2, c1, c2, c3, hm, t1, t2, hn, hM⟩, by simp only []; omega⟩, by simp only []; omega, ?_, fun o ho => ho⟩
      refine wk_of [some 0, some 1, some 2, none, none, none, some 9] rfl (Nat.zero_le _) (fun b hb => by omega) ⟨⟨rfl, rfl⟩, ⟨rfl, rfl⟩, ⟨rfl, rfl, rfl⟩, rfl, rfl, rfl, rfl, trivial⟩ ⟨⟨rfl, rfl, rfl, rfl, trivial⟩, ⟨rfl, rfl, rfl, rfl, trivial⟩, ⟨rfl, rfl, rfl, rfl, trivial⟩, ⟨rfl, rfl, rfl, sameR fun i hi => ?_⟩, trivial⟩
      by_cases hi' : i < n + j
      · exact cat_l hi'
      · have : i = n + j := by have hi2 : i < n + j + 1 := hi; omega
        subst this
        refine (cat_r (Nat.le_refl _)).trans ?_
        show _ = rpF cl ch s t d n f (n + j)
        unfold rpF
        refine Eq.trans ?_ (cat_r (by omega)).symm
        rw [show n + j - n = j by omega]
        unfold rpc
        rw [show cl + ((j : Int) + 1) * s = cl + s * ((j + 1 : Nat) : Int) by rw [Int.mul_comm]; rfl]
  · have hj' : j = rM s t := by omega
    subst hj'
    have hcond : ¬ s * ((rM s t + 1 : Nat) : Int) < t := by
      have : ((rM s t + 1 : Nat) : Int) = (rM s t : Int) + 1 := rfl
      rw [this]; omega
    simp only [T.All, U.le_t, U.le_f, U.lt_t, U.lt_f, U.gt_t, U.gt_f, U.ge_t, U.ge_f, U.eq_t, U.eq_f, U.ne_t, U.ne_f, U.not_t, U.not_f, U.andb_t, U.andb_f, SV.lit.injEq, SV.agg.injEq, SV.tup.injEq, List.cons.injEq, Value.int.injEq, Value.bool.injEq, true_and, and_true, lk_eq]
    refine ⟨fun h => absurd h hcond, fun _ => ⟨_, rfl, ?_⟩⟩
    exact wk_of (idR 7) rfl (Nat.zero_le _) (fun b hb => by omega) ⟨⟨rfl, rfl⟩, ⟨rfl, rfl⟩, ⟨rfl, rfl, rfl⟩, rfl, rfl, rfl, trivial, trivial⟩ ⟨⟨rfl, rfl, rfl, rfl, trivial⟩, ⟨rfl, rfl, rfl, rfl, trivial⟩, ⟨rfl, rfl, rfl, rfl, trivial⟩, ⟨rfl, rfl, rfl, sameRow_refl _ _⟩, trivial⟩
theorem loopR : LoopOK P (loopOf P 162 14) (few 95 [2, 6, 8, 9, 10, 11, 12] gR) :=
  loop_few (E := Et) mixed Et_ok loopsOK_none 95 [2, 6, 8, 9, 10, 11, 12] (X := XR) gR (fun _ x => VR x) PhiR (fun q => rM q.s q.t - q.j) (fun _ x o => o = OR x)
    (fun n0 st r h => by
      have key : ∀ (a b c x y z cl ch cs s t : Int) (d : Bool) (n : Nat) (f : Nat → R3) (o : Ex × Few), o = OR ⟨a, b, c, x, y, z, cl, ch, cs, s, t, d, n, f, 0⟩ → o = oR a b c x y z cl ch cs s t d n f := fun a b c x y z cl ch cs s t d n f o ho => by
        rw [ho]; simp only [OR, oR, lk_eq, memR]
      have same0 : ∀ (cl ch s t : Int) (d : Bool) (n : Nat) (f : Nat → R3) (i : Nat), i < n → f i = rpF cl ch s t d n f i := fun cl ch s t d n f i hi => by
        exact (cat_l hi).symm
      unfold gR at h
      split at h
      · rename_i n0 n' s d t g0 a b c g1 x y z g2 cl ch cs g3 n f g4
        obtain ⟨hp, hnn⟩ := (T.is_ask h).1
        obtain rfl := T.is_ret (T.is_ask h).2
        have hp' := hp
        obtain ⟨h0, _⟩ := hp'
        subst h0; subst hnn
        refine ⟨⟨a, b, c, x, y, z, cl, ch, cs, s, t, d, n', f, 0⟩, ⟨hp, Nat.zero_le _⟩, ?_, fun o ho => key _ _ _ _ _ _ _ _ _ _ _ _ _ _ o ho⟩
        exact wk_of [some 0, some 1, some 2, none, none, none, some 3] rfl (Nat.zero_le _) (fun b hb => by omega) ⟨⟨rfl, rfl⟩, ⟨rfl, rfl⟩, ⟨rfl, rfl, rfl⟩, rfl, rfl, rfl, rfl, trivial⟩ ⟨⟨rfl, rfl, rfl, rfl, trivial⟩, ⟨rfl, rfl, rfl, rfl, trivial⟩, ⟨rfl, rfl, rfl, rfl, trivial⟩, ⟨rfl, rfl, rfl, sameR fun i hi => same0 _ _ _ _ _ _ _ i hi⟩, trivial⟩
      · rename_i n0 n' s d t g0 a b c g1 x y z g2 cl ch cs m1 m2 m3 g3 n f
        obtain ⟨hp, hnn⟩ := (T.is_ask h).1
        obtain rfl := T.is_ret (T.is_ask h).2
        have hp' := hp
        obtain ⟨h0, _⟩ := hp'
        subst h0; subst hnn
        refine ⟨⟨a, b, c, x, y, z, cl, ch, cs, s, t, d, n', f, 0⟩, ⟨hp, Nat.zero_le _⟩, ?_, fun o ho => key _ _ _ _ _ _ _ _ _ _ _ _ _ _ o ho⟩
        exact wk_of (idR 7) rfl (Nat.zero_le _) (fun b hb => by omega) ⟨⟨rfl, rfl⟩, ⟨rfl, rfl⟩, ⟨rfl, rfl, rfl⟩, rfl, rfl, rfl, rfl, trivial⟩ ⟨⟨rfl, rfl, rfl, rfl, trivial⟩, ⟨rfl, rfl, rfl, rfl, trivial⟩, ⟨rfl, rfl, rfl, rfl, trivial⟩, ⟨rfl, rfl, rfl, sameR fun i hi => same0 _ _ _ _ _ _ _ i hi⟩, trivial⟩
      · exact h.elim)
    roundR
theorem l53_ok : ∀ p ∈ l53, LoopsOK P p.2 (bodyOf P p.1) := by
  intro p hp
  simp only [l53, List.mem_singleton] at hp
  subst hp
  refine loopsOK_of (by kernel_rfl) fun k g hk => ?_
  simp only [List.mem_singleton, Prod.mk.injEq, LoopC.sum.injEq] at hk
  obtain ⟨rfl, rfl⟩ := hk
  exact loopR
set_option maxRecDepth 100000 in
theorem t_rSubtract (a b c x y z : Int) : conB Go.Proofs.Try.prog (conOf kt) (loopsOf l53) 10 162 [.agg [.lit (.int .i64 a), .lit (.int .i64 b), .lit (.int .i64 c)], .agg [.lit (.int .i64 x), .lit (.int .i64 y), .lit (.int .i64 z)]] =
    T.ask (I64 a ∧ I64 b ∧ I64 c ∧ I64 x ∧ I64 y ∧ I64 z) (.br (U.ne (lk isEr a b c x y z) (0 : Int)) (.ret (.tup [.lit (.slice none (nat_lit 0) (nat_lit 0)), .lit (.int .i64 (lk isEr a
      b c x y z))])) (.br (lk isE (lk isL a b c x y z) (lk isH a b c x y z) (lk isS a b c x y z)) (.br (lk isE a b c) (.ret (.tup [.row [.int .i64, .int .i64, .int .i64] (nat_lit 0) fun x
      => ((0 : Int), (0 : Int), (0 : Int), PUnit.unit), .lit (.int .i64 0)])) (.ask (((0 : Nat) + (1 : Nat)) * nat_lit 24 ≤ nat_lit 140737488351232) (.ret (.tup [.row [.int .i64, .int
      .i64, .int .i64] (nat_lit 1) (U.cat (nat_lit 0) (fun x => ((0 : Int), (0 : Int), (0 : Int), PUnit.unit)) fun x => (a, b, c, PUnit.unit)), .lit (.int .i64 0)])))) (.ask (I64 (-c))
      (.ask (a < U.sub .i64 (lk isL a b c x y z) (lk absI c) → U.lt c (0 : Int) = true → I64 (-lk absI c)) (.br (lk isE (lk rnL a (U.sub .i64 (lk isL a b c x y z) (lk absI c)) (lk absI c)
      (U.lt c (0 : Int))) (lk rnH a (U.sub .i64 (lk isL a b c x y z) (lk absI c)) (lk absI c) (U.lt c (0 : Int))) (lk rnS a (U.sub .i64 (lk isL a b c x y z) (lk absI c)) (lk absI c) (U.lt
      c (0 : Int)))) (.br (U.lt (lk isL a b c x y z) (lk isH a b c x y z)) (.ask (I64 (-lk isS a b c x y z)) (.ask (lk absI c ≠ (0 : Int)) (.br (U.gt (U.quo .i64 (lk absI (lk isS a b c x
      y z)) (lk absI c)) (1002 : Int)) (.ret (.tup [.lit (.slice none (nat_lit 0) (nat_lit 0)), .lit (.int .i64 7)])) (.ask (PreR (nat_lit 0) (lk isL a b c x y z) (lk isH a b c x y z) (lk
      absI c) (lk absI (lk isS a b c x y z)) (0 : Nat) ∧ (0 : Nat) = (0 : Nat)) (.ask (U.add .i64 (lk isH a b c x y z) (lk absI c) < b → U.lt c (0 : Int) = true → I64 (-lk absI c)) (.br
      (lk isE (lk rnL (U.add .i64 (lk isH a b c x y z) (lk absI c)) b (lk absI c) (U.lt c (0 : Int))) (lk rnH (U.add .i64 (lk isH a b c x y z) (lk absI c)) b (lk absI c) (U.lt c (0 :
      Int))) (lk rnS (U.add .i64 (lk isH a b c x y z) (lk absI c)) b (lk absI c) (U.lt c (0 : Int)))) (.br (U.gt (Int.ofNat (nat_lit 0 + lk rM (lk absI c) (lk absI (lk isS a b c x y z))))
      (1000 : Int)) (.ret (.tup [.lit (.slice none (nat_lit 0) (nat_lit 0)), .lit (.int .i64 7)])) (.ret (.tup [.row [.int .i64, .int .i64, .int .i64] (nat_lit 0 + lk rM (lk absI c) (lk
      absI (lk isS a b c x y z))) (lk rpF (lk isL a b c x y z) (lk isH a b c x y z) (lk absI c) (lk absI (lk isS a b c x y z)) (U.lt c (0 : Int)) (nat_lit 0) fun x => ((0 : Int), (0 :
      Int), (0 : Int), PUnit.unit)), .lit (.int .i64 0)]))) (.ask (((0 : Nat) + lk rM (lk absI c) (lk absI (lk isS a b c x y z)) + (1 : Nat)) * nat_lit 24 ≤ nat_lit 140737488351232) (.br
      (U.gt (Int.ofNat ((nat_lit 0 + lk rM (lk absI c) (lk absI (lk isS a b c x y z))).add (nat_lit 1))) (1000 : Int)) (.ret (.tup [.lit (.slice none (nat_lit 0) (nat_lit 0)), .lit (.int
      .i64 7)])) (.ret (.tup [.row [.int .i64, .int .i64, .int .i64] ((nat_lit 0 + lk rM (lk absI c) (lk absI (lk isS a b c x y z))).add (nat_lit 1)) (U.cat (nat_lit 0 + lk rM (lk absI c)
      (lk absI (lk isS a b c x y z))) (lk rpF (lk isL a b c x y z) (lk isH a b c x y z) (lk absI c) (lk absI (lk isS a b c x y z)) (U.lt c (0 : Int)) (nat_lit 0) fun x => ((0 : Int), (0 :
      Int), (0 : Int), PUnit.unit)) fun x_1 => (lk rnL (U.add .i64 (lk isH a b c x y z) (lk absI c)) b (lk absI c) (U.lt c (0 : Int)), lk rnH (U.add .i64 (lk isH a b c x y z) (lk absI c))
      b (lk absI c) (U.lt c (0 : Int)), lk rnS (U.add .i64 (lk isH a b c x y z) (lk absI c)) b (lk absI c) (U.lt c (0 : Int)), PUnit.unit)), .lit (.int .i64 0)])))))))))) (.ask (U.add
      .i64 (lk isH a b c x y z) (lk absI c) < b → U.lt c (0 : Int) = true → I64 (-lk absI c)) (.br (lk isE (lk rnL (U.add .i64 (lk isH a b c x y z) (lk absI c)) b (lk absI c) (U.lt c (0 :
      Int))) (lk rnH (U.add .i64 (lk isH a b c x y z) (lk absI c)) b (lk absI c) (U.lt c (0 : Int))) (lk rnS (U.add .i64 (lk isH a b c x y z) (lk absI c)) b (lk absI c) (U.lt c (0 :
      Int)))) (.br (U.gt (0 : Int) (1000 : Int)) (.ret (.tup [.lit (.slice none (nat_lit 0) (nat_lit 0)), .lit (.int .i64 7)])) (.ret (.tup [.row [.int .i64, .int .i64, .int .i64]
      (nat_lit 0) fun x => ((0 : Int), (0 : Int), (0 : Int), PUnit.unit), .lit (.int .i64 0)]))) (.ask (((0 : Nat) + (1 : Nat)) * nat_lit 24 ≤ nat_lit 140737488351232) (.br (U.gt (1 :
      Int) (1000 : Int)) (.ret (.tup [.lit (.slice none (nat_lit 0) (nat_lit 0)), .lit (.int .i64 7)])) (.ret (.tup [.row [.int .i64, .int .i64, .int .i64] (nat_lit 1) (U.cat (nat_lit 0)
      (fun x => ((0 : Int), (0 : Int), (0 : Int), PUnit.unit)) fun x_1 => (lk rnL (U.add .i64 (lk isH a b c x y z) (lk absI c)) b (lk absI c) (U.lt c (0 : Int)), lk rnH (U.add .i64 (lk
      isH a b c x y z) (lk absI c)) b (lk absI c) (U.lt c (0 : Int)), lk rnS (U.add .i64 (lk isH a b c x y z) (lk absI c)) b (lk absI c) (U.lt c (0 : Int)), PUnit.unit)), .lit (.int .i64
      0)]))))))) (.ask (((0 : Nat) + (1 : Nat)) * nat_lit 24 ≤ nat_lit 140737488351232) (.br (U.lt (lk isL a b c x y z) (lk isH a b c x y z)) (.ask (I64 (-lk isS a b c x y z)) (.ask (lk
      absI c ≠ (0 : Int)) (.br (U.gt (U.quo .i64 (lk absI (lk isS a b c x y z)) (lk absI c)) (1002 : Int)) (.ret (.tup [.lit (.slice none (nat_lit 0) (nat_lit 0)), .lit (.int .i64 7)]))
      (.ask (PreR (nat_lit 0) (lk isL a b c x y z) (lk isH a b c x y z) (lk absI c) (lk absI (lk isS a b c x y z)) ((0 : Nat) + (1 : Nat)) ∧ (0 : Nat) + (1 : Nat) = (0 : Nat) + (1 : Nat))
      (.ask (U.add .i64 (lk isH a b c x y z) (lk absI c) < b → U.lt c (0 : Int) = true → I64 (-lk absI c)) (.br (lk isE (lk rnL (U.add .i64 (lk isH a b c x y z) (lk absI c)) b (lk absI c)
      (U.lt c (0 : Int))) (lk rnH (U.add .i64 (lk isH a b c x y z) (lk absI c)) b (lk absI c) (U.lt c (0 : Int))) (lk rnS (U.add .i64 (lk isH a b c x y z) (lk absI c)) b (lk absI c) (U.lt
      c (0 : Int)))) (.br (U.gt (Int.ofNat (nat_lit 1 + lk rM (lk absI c) (lk absI (lk isS a b c x y z)))) (1000 : Int)) (.ret (.tup [.lit (.slice none (nat_lit 0) (nat_lit 0)), .lit
      (.int .i64 7)])) (.ret (.tup [.row [.int .i64, .int .i64, .int .i64] (nat_lit 1 + lk rM (lk absI c) (lk absI (lk isS a b c x y z))) (lk rpF (lk isL a b c x y z) (lk isH a b c x y z)
      (lk absI c) (lk absI (lk isS a b c x y z)) (U.lt c (0 : Int)) (nat_lit 1) (U.cat (nat_lit 0) (fun x => ((0 : Int), (0 : Int), (0 : Int), PUnit.unit)) fun x_1 => (lk rnL a (U.sub
      .i64 (lk isL a b c x y z) (lk absI c)) (lk absI c) (U.lt c (0 : Int)), lk rnH a (U.sub .i64 (lk isL a b c x y z) (lk absI c)) (lk absI c) (U.lt c (0 : Int)), lk rnS a (U.sub .i64
      (lk isL a b c x y z) (lk absI c)) (lk absI c) (U.lt c (0 : Int)), PUnit.unit))), .lit (.int .i64 0)]))) (.ask (((0 : Nat) + (1 : Nat) + lk rM (lk absI c) (lk absI (lk isS a b c x y
      z)) + (1 : Nat)) * nat_lit 24 ≤ nat_lit 140737488351232) (.br (U.gt (Int.ofNat ((nat_lit 1 + lk rM (lk absI c) (lk absI (lk isS a b c x y z))).add (nat_lit 1))) (1000 : Int)) (.ret
      (.tup [.lit (.slice none (nat_lit 0) (nat_lit 0)), .lit (.int .i64 7)])) (.ret (.tup [.row [.int .i64, .int .i64, .int .i64] ((nat_lit 1 + lk rM (lk absI c) (lk absI (lk isS a b c x
      y z))).add (nat_lit 1)) (U.cat (nat_lit 1 + lk rM (lk absI c) (lk absI (lk isS a b c x y z))) (lk rpF (lk isL a b c x y z) (lk isH a b c x y z) (lk absI c) (lk absI (lk isS a b c x
      y z)) (U.lt c (0 : Int)) (nat_lit 1) (U.cat (nat_lit 0) (fun x => ((0 : Int), (0 : Int), (0 : Int), PUnit.unit)) fun x_1 => (lk rnL a (U.sub .i64 (lk isL a b c x y z) (lk absI c))
      (lk absI c) (U.lt c (0 : Int)), lk rnH a (U.sub .i64 (lk isL a b c x y z) (lk absI c)) (lk absI c) (U.lt c (0 : Int)), lk rnS a (U.sub .i64 (lk isL a b c x y z) (lk absI c)) (lk
      absI c) (U.lt c (0 : Int)), PUnit.unit))) fun x_1 => (lk rnL (U.add .i64 (lk isH a b c x y z) (lk absI c)) b (lk absI c) (U.lt c (0 : Int)), lk rnH (U.add .i64 (lk isH a b c x y z)
      (lk absI c)) b (lk absI c) (U.lt c (0 : Int)), lk rnS (U.add .i64 (lk isH a b c x y z) (lk absI c)) b (lk absI c) (U.lt c (0 : Int)), PUnit.unit)), .lit (.int .i64 0)]))))))))))
      (.ask (U.add .i64 (lk isH a b c x y z) (lk absI c) < b → U.lt c (0 : Int) = true → I64 (-lk absI c)) (.br (lk isE (lk rnL (U.add .i64 (lk isH a b c x y z) (lk absI c)) b (lk absI c)
      (U.lt c (0 : Int))) (lk rnH (U.add .i64 (lk isH a b c x y z) (lk absI c)) b (lk absI c) (U.lt c (0 : Int))) (lk rnS (U.add .i64 (lk isH a b c x y z) (lk absI c)) b (lk absI c) (U.lt
      c (0 : Int)))) (.br (U.gt (1 : Int) (1000 : Int)) (.ret (.tup [.lit (.slice none (nat_lit 0) (nat_lit 0)), .lit (.int .i64 7)])) (.ret (.tup [.row [.int .i64, .int .i64, .int .i64]
      (nat_lit 1) (U.cat (nat_lit 0) (fun x => ((0 : Int), (0 : Int), (0 : Int), PUnit.unit)) fun x_1 => (lk rnL a (U.sub .i64 (lk isL a b c x y z) (lk absI c)) (lk absI c) (U.lt c (0 :
      Int)), lk rnH a (U.sub .i64 (lk isL a b c x y z) (lk absI c)) (lk absI c) (U.lt c (0 : Int)), lk rnS a (U.sub .i64 (lk isL a b c x y z) (lk absI c)) (lk absI c) (U.lt c (0 : Int)),
      PUnit.unit)), .lit (.int .i64 0)]))) (.ask (((0 : Nat) + (1 : Nat) + (1 : Nat)) * nat_lit 24 ≤ nat_lit 140737488351232) (.br (U.gt (2 : Int) (1000 : Int)) (.ret (.tup [.lit (.slice
      none (nat_lit 0) (nat_lit 0)), .lit (.int .i64 7)])) (.ret (.tup [.row [.int .i64, .int .i64, .int .i64] (nat_lit 2) (U.cat (nat_lit 1) (U.cat (nat_lit 0) (fun x => ((0 : Int), (0 :
      Int), (0 : Int), PUnit.unit)) fun x_1 => (lk rnL a (U.sub .i64 (lk isL a b c x y z) (lk absI c)) (lk absI c) (U.lt c (0 : Int)), lk rnH a (U.sub .i64 (lk isL a b c x y z) (lk absI
      c)) (lk absI c) (U.lt c (0 : Int)), lk rnS a (U.sub .i64 (lk isL a b c x y z) (lk absI c)) (lk absI c) (U.lt c (0 : Int)), PUnit.unit)) fun x_1 => (lk rnL (U.add .i64 (lk isH a b c
      x y z) (lk absI c)) b (lk absI c) (U.lt c (0 : Int)), lk rnH (U.add .i64 (lk isH a b c x y z) (lk absI c)) b (lk absI c) (U.lt c (0 : Int)), lk rnS (U.add .i64 (lk isH a b c x y z)
      (lk absI c)) b (lk absI c) (U.lt c (0 : Int)), PUnit.unit)), .lit (.int .i64 0)]))))))))))))) := by kernel_rfl
end Go.RX.Span

/- The program's Subtract: the loop's states. -/
set_option linter.unusedVariables false
set_option linter.unusedSimpArgs false
namespace Go.RX.Span
open Go Go.RX

noncomputable abbrev ku : List (Nat × Con) := (110, c_checked) :: (111, c_common) :: k8
theorem ku_ok : ∀ p ∈ ku, ConOK P p.1 p.2 := by
  intro p hp
  simp only [ku, List.mem_cons] at hp
  rcases hp with rfl | rfl | hp
  · exact checked_ok
  · exact common_ok
  · exact k8_ok p (by simpa [k8] using hp)
noncomputable abbrev Eu : Env := ⟨P, conOf ku, scall P (conOf ku) noLoops 10⟩
theorem Eu_ok : EnvOK Eu := envOK (allOK mixed ku_ok) 10
structure XP where
  (a b c x y z F S C G B D : Int) (u : Bool) (n : Nat) (f : Nat → R3) (j : Nat)
/-- The program's i-th inner piece. -/
def ppc (c S G B D : Int) (i : Nat) : R3 := pc (G + S * (i + 1)) B (D - 1) c
def pM (S B D : Int) (n : Nat) : Nat := if 1 < D then min (rM S B) (1001 - n) else 0
noncomputable def ppF (c S G B D : Int) (n : Nat) (f : Nat → R3) : Nat → R3 := U.cat n f (ppc c S G B D)
def Dv (s t : Int) : Prop := ∃ m : Int, t = s * m
def PreP (n0 : Nat) (S G B D : Int) (u : Bool) (n : Nat) : Prop := n0 = 0 ∧ (1 ≤ S ∧ S ≤ 2000000) ∧ (1 ≤ B ∧ B ≤ 4000000000000) ∧ (1 ≤ D ∧ D ≤ 2000001) ∧ (-1000000 ≤ G ∧ G + B * (D - 1) ≤ 1000000) ∧ (1 < D → Dv S B) ∧ n ≤ 1
noncomputable def memP (a b c x y z F S C G B D : Int) (u : Bool) (n : Nat) (f : Nat → R3) : Mem := [(0, some (.cells [.lit (.int .i64 a), .lit (.int .i64 b), .lit (.int .i64 c)] 23)), (0, some (.cells [.lit (.int .i64 x), .lit (.int .i64 y), .lit (.int .i64 z)] 23)), (0, some (.cells [.lit (.int .i64 F), .lit (.int .i64 S), .lit (.int .i64 C)] 114)), (0, some (.cells [.lit (.int .i64 G), .lit (.int .i64 B), .lit (.int .i64 D)] 114)), (0, some (.cells [.own u 8 n] 29)), (0, none), (0, none), (0, none), (0, some (.row u n [.int .i64, .int .i64, .int .i64] f 23))]
def pU (u : Bool) (j : Nat) : Bool := u && decide (j = 0)
noncomputable def VP (q : XP) : Few := ([.ptr 0 0, .ptr 2 0, .ptr 3 0, .ptr 4 0, .fn (.func 116) [] [.ptr 4 0, .ptr 0 0], .lit (.int .i64 (q.S * ((q.j + 1 : Nat) : Int)))], memP q.a q.b q.c q.x q.y q.z q.F q.S q.C q.G q.B q.D (pU q.u q.j) (q.n + q.j) (ppF q.c q.S q.G q.B q.D q.n q.f))
noncomputable def OP (q : XP) : Ex × Few := (.exit 0, ([.ptr 0 0, .ptr 2 0, .ptr 3 0, .ptr 4 0, .fn (.func 116) [] [.ptr 4 0, .ptr 0 0], .any], memP q.a q.b q.c q.x q.y q.z q.F q.S q.C q.G q.B q.D (pU q.u (pM q.S q.B q.D q.n)) (q.n + pM q.S q.B q.D q.n) (ppF q.c q.S q.G q.B q.D q.n q.f)))
def PhiP (n0 : Nat) (q : XP) : Prop := PreP n0 q.S q.G q.B q.D q.u q.n ∧ q.j ≤ pM q.S q.B q.D q.n
noncomputable def oP (a b c x y z F S C G B D : Int) (u : Bool) (n : Nat) (f : Nat → R3) : Ex × Few := (.exit 0, ([.ptr 0 0, .ptr 2 0, .ptr 3 0, .ptr 4 0, .fn (.func 116) [] [.ptr 4 0, .ptr 0 0], .any],
  [(0, some (.cells [.lit (.int .i64 a), .lit (.int .i64 b), .lit (.int .i64 c)] 23)), (0, some (.cells [.lit (.int .i64 x), .lit (.int .i64 y), .lit (.int .i64 z)] 23)), (0, some (.cells [.lit (.int .i64 F), .lit (.int .i64 S), .lit (.int .i64 C)] 114)), (0, some (.cells [.lit (.int .i64 G), .lit (.int .i64 B), .lit (.int .i64 D)] 114)), (0, some (.cells [.own (lk pU u (pM S B D n)) 8 (n + lk pM S B D n)] 29)), (0, none), (0, none), (0, none), (0, some (.row (lk pU u (pM S B D n)) (n + lk pM S B D n) [.int .i64, .int .i64, .int .i64] (lk ppF c S G B D n f) 23))]))
noncomputable def gP : Nat → Few → T (Ex × Few)
  | n0, ([.ptr 0 0, .ptr 2 0, .ptr 3 0, .ptr 4 0, .fn (.func 116) [] [.ptr 4 0, .ptr 0 0], .lit (.int .i64 k)], [(_, some (.cells [.lit (.int .i64 a), .lit (.int .i64 b), .lit (.int .i64 c)] 23)), (_, some (.cells [.lit (.int .i64 x), .lit (.int .i64 y), .lit (.int .i64 z)] 23)), (_, some (.cells [.lit (.int .i64 F), .lit (.int .i64 S), .lit (.int .i64 C)] 114)), (_, some (.cells [.lit (.int .i64 G), .lit (.int .i64 B), .lit (.int .i64 D)] 114)), (_, some (.cells [.lit (.slice none 0 0)] 29)), _]) =>
    .ask (PreP n0 S G B D true 0 ∧ k = S) (.ret (oP a b c x y z F S C G B D true 0 fun _ => ((0 : Int), (0 : Int), (0 : Int), ())))
  | n0, ([.ptr 0 0, .ptr 2 0, .ptr 3 0, .ptr 4 0, .fn (.func 116) [] [.ptr 4 0, .ptr 0 0], .lit (.int .i64 k)], [(_, some (.cells [.lit (.int .i64 a), .lit (.int .i64 b), .lit (.int .i64 c)] 23)), (_, some (.cells [.lit (.int .i64 x), .lit (.int .i64 y), .lit (.int .i64 z)] 23)), (_, some (.cells [.lit (.int .i64 F), .lit (.int .i64 S), .lit (.int .i64 C)] 114)), (_, some (.cells [.lit (.int .i64 G), .lit (.int .i64 B), .lit (.int .i64 D)] 114)), (_, some (.cells [.own false 8 n'] 29)), _, _, _, (_, some (.row false n [.int .i64, .int .i64, .int .i64] f 23))]) =>
    .ask (PreP n0 S G B D false n ∧ k = S ∧ n' = n) (.ret (oP a b c x y z F S C G B D false n f))
  | _, _ => .stuck 1
noncomputable abbrev l52 : List (Nat × Loops) := [(23, [(13, .sum (few 103 [2, 7, 8, 9, 10, 11] gP))])]
theorem pc_asks {f s C c : Int} (hs : 1 ≤ s) (hs2 : s ≤ 4000000000000) (hC : 1 ≤ C) (hC2 : C ≤ 2000001) (h1 : -1000000 ≤ f) (h2 : f + s * (C - 1) ≤ 1000000) :
    (c < 0 → C ≠ 0 → I64 (C - 1) ∧ I64 (s * (C - 1)) ∧ I64 (f + s * (C - 1)) ∧ I64 (-s)) ∧ (0 < C → I64 (C - 1) ∧ I64 (kB f s C c * (C - 1)) ∧ I64 (kF f s C c + kB f s C c * (C - 1))) := by
  have m0 := mulle (x := 0) (y := C - 1) hs (by omega)
  rw [Int.mul_zero] at m0
  obtain ⟨q1, q2⟩ := like_bnd (f := f) (s := s) (C := C) (c := c) (by omega)
  unfold I64
  refine ⟨fun _ _ => by omega, fun _ => ⟨by omega, ?_, ?_⟩⟩
  · rcases q1 with h | h <;> omega
  · rcases q2 with h | h <;> omega
theorem pc_eq {f s C c : Int} (hs : 1 ≤ s) : (nLow (kF f s C c) (kB f s C c) C, nHigh (kF f s C c) (kB f s C c) C, nStr (kF f s C c) (kB f s C c) C, ()) = pc f s C c := by
  obtain ⟨q1, q2, q3, q4⟩ := nrm_like (f := f) (s := s) (C := C) (c := c) hs
  unfold pc
  rw [q2, q3, q4]
  rfl
end Go.RX.Span

/- The program's Subtract: the walks. -/
set_option linter.unusedVariables false
set_option linter.unusedSimpArgs false
set_option maxRecDepth 100000
namespace Go.RX.Span
open Go Go.RX
attribute [local irreducible] sx conB

set_option maxRecDepth 100000 in
theorem t_P (n0 : Nat) (a b c x y z F S C G B D k : Int) (u : Bool) (n : Nat) (f : Nat → R3) : (sx Eu [] n0 (loopOf P 23 13) (mkS 103 [2, 7, 8, 9, 10, 11] [.ptr 0 0, .ptr 2 0, .ptr 3 0, .ptr 4 0, .fn (.func 116) [] [.ptr 4 0, .ptr 0 0], .lit (.int .i64 k)], memP a b c x y z F S C G B D u n f)).bind (proj 103 [2, 7, 8, 9, 10, 11]) =
    T.br (U.gt D (1 : Int)) (.br (U.lt k B) (.br (U.le (Int.ofNat n) (1000 : Int)) (.br (U.gt (U.sub .i64 D (1 : Int)) (0 : Int)) (.br (U.le (Int.ofNat n) (1000 : Int)) (.ask (c < (0 :
      Int) → U.sub .i64 D (1 : Int) ≠ (0 : Int) → I64 (U.sub .i64 D (1 : Int) - (1 : Int)) ∧ I64 (B * (U.sub .i64 D (1 : Int) - (1 : Int))) ∧ I64 (U.add .i64 G k + B * (U.sub .i64 D (1 :
      Int) - (1 : Int))) ∧ I64 (-B)) (.ask ((0 : Int) < U.sub .i64 D (1 : Int) → I64 (U.sub .i64 D (1 : Int) - (1 : Int)) ∧ I64 (lk kB (U.add .i64 G k) B (U.sub .i64 D (1 : Int)) c *
      (U.sub .i64 D (1 : Int) - (1 : Int))) ∧ I64 (lk kF (U.add .i64 G k) B (U.sub .i64 D (1 : Int)) c + lk kB (U.add .i64 G k) B (U.sub .i64 D (1 : Int)) c * (U.sub .i64 D (1 : Int) - (1
      : Int)))) (.ask ((n + (1 : Nat)) * nat_lit 24 ≤ nat_lit 140737488351232) (.ret (Ex.normal, [SV.ptr (nat_lit 0) (nat_lit 0), SV.ptr (nat_lit 2) (nat_lit 0), SV.ptr (nat_lit 3)
      (nat_lit 0), SV.ptr (nat_lit 4) (nat_lit 0), SV.fn (Fn.func (nat_lit 116)) [] [SV.ptr (nat_lit 4) (nat_lit 0), SV.ptr (nat_lit 0) (nat_lit 0)], .lit (.int .i64 (U.add .i64 k S))],
      [(nat_lit 0, some (Blk.cells [.lit (.int .i64 a), .lit (.int .i64 b), .lit (.int .i64 c)] (nat_lit 23))), (nat_lit 0, some (Blk.cells [.lit (.int .i64 x), .lit (.int .i64 y), .lit
      (.int .i64 z)] (nat_lit 23))), (nat_lit 0, some (Blk.cells [.lit (.int .i64 F), .lit (.int .i64 S), .lit (.int .i64 C)] (nat_lit 114))), (nat_lit 0, some (Blk.cells [.lit (.int .i64
      G), .lit (.int .i64 B), .lit (.int .i64 D)] (nat_lit 114))), (nat_lit 1, some (Blk.cells [SV.own false (nat_lit 12) (n.add (nat_lit 1))] (nat_lit 29))), (nat_lit 0, none), (nat_lit
      0, none), (nat_lit 0, none), (nat_lit 1, none), (nat_lit 0, some (Blk.cells [.lit (.int .i64 (U.add .i64 G k)), .lit (.int .i64 B), .lit (.int .i64 (U.sub .i64 D (1 : Int)))]
      (nat_lit 114))), (nat_lit 0, some (Blk.cells [.lit (.int .i64 (lk nLow (lk kF (U.add .i64 G k) B (U.sub .i64 D (1 : Int)) c) (lk kB (U.add .i64 G k) B (U.sub .i64 D (1 : Int)) c)
      (U.sub .i64 D (1 : Int)))), .lit (.int .i64 (lk nHigh (lk kF (U.add .i64 G k) B (U.sub .i64 D (1 : Int)) c) (lk kB (U.add .i64 G k) B (U.sub .i64 D (1 : Int)) c) (U.sub .i64 D (1 :
      Int)))), .lit (.int .i64 (lk nStr (lk kF (U.add .i64 G k) B (U.sub .i64 D (1 : Int)) c) (lk kB (U.add .i64 G k) B (U.sub .i64 D (1 : Int)) c) (U.sub .i64 D (1 : Int))))] (nat_lit
      23))), (nat_lit 0, some (Blk.cells [.lit (.int .i64 (lk nLow (lk kF (U.add .i64 G k) B (U.sub .i64 D (1 : Int)) c) (lk kB (U.add .i64 G k) B (U.sub .i64 D (1 : Int)) c) (U.sub .i64
      D (1 : Int)))), .lit (.int .i64 (lk nHigh (lk kF (U.add .i64 G k) B (U.sub .i64 D (1 : Int)) c) (lk kB (U.add .i64 G k) B (U.sub .i64 D (1 : Int)) c) (U.sub .i64 D (1 : Int)))),
      .lit (.int .i64 (lk nStr (lk kF (U.add .i64 G k) B (U.sub .i64 D (1 : Int)) c) (lk kB (U.add .i64 G k) B (U.sub .i64 D (1 : Int)) c) (U.sub .i64 D (1 : Int))))] (nat_lit 23))),
      (nat_lit 0, some (Blk.row false (n.add (nat_lit 1)) [.int .i64, .int .i64, .int .i64] (U.cat n f fun x => (lk nLow (lk kF (U.add .i64 G k) B (U.sub .i64 D (1 : Int)) c) (lk kB
      (U.add .i64 G k) B (U.sub .i64 D (1 : Int)) c) (U.sub .i64 D (1 : Int)), lk nHigh (lk kF (U.add .i64 G k) B (U.sub .i64 D (1 : Int)) c) (lk kB (U.add .i64 G k) B (U.sub .i64 D (1 :
      Int)) c) (U.sub .i64 D (1 : Int)), lk nStr (lk kF (U.add .i64 G k) B (U.sub .i64 D (1 : Int)) c) (lk kB (U.add .i64 G k) B (U.sub .i64 D (1 : Int)) c) (U.sub .i64 D (1 : Int)),
      PUnit.unit)) (nat_lit 23)))]))))) (.ret (Ex.normal, [SV.ptr (nat_lit 0) (nat_lit 0), SV.ptr (nat_lit 2) (nat_lit 0), SV.ptr (nat_lit 3) (nat_lit 0), SV.ptr (nat_lit 4) (nat_lit 0),
      SV.fn (Fn.func (nat_lit 116)) [] [SV.ptr (nat_lit 4) (nat_lit 0), SV.ptr (nat_lit 0) (nat_lit 0)], .lit (.int .i64 (U.add .i64 k S))], [(nat_lit 0, some (Blk.cells [.lit (.int .i64
      a), .lit (.int .i64 b), .lit (.int .i64 c)] (nat_lit 23))), (nat_lit 0, some (Blk.cells [.lit (.int .i64 x), .lit (.int .i64 y), .lit (.int .i64 z)] (nat_lit 23))), (nat_lit 0, some
      (Blk.cells [.lit (.int .i64 F), .lit (.int .i64 S), .lit (.int .i64 C)] (nat_lit 114))), (nat_lit 0, some (Blk.cells [.lit (.int .i64 G), .lit (.int .i64 B), .lit (.int .i64 D)]
      (nat_lit 114))), (nat_lit 0, some (Blk.cells [SV.own u (nat_lit 8) n] (nat_lit 29))), (nat_lit 0, none), (nat_lit 0, none), (nat_lit 0, none), (nat_lit 0, some (Blk.row u n [.int
      .i64, .int .i64, .int .i64] f (nat_lit 23))), (nat_lit 0, some (Blk.cells [.lit (.int .i64 (U.add .i64 G k)), .lit (.int .i64 B), .lit (.int .i64 (U.sub .i64 D (1 : Int)))] (nat_lit
      114)))]))) (.ret (Ex.normal, [SV.ptr (nat_lit 0) (nat_lit 0), SV.ptr (nat_lit 2) (nat_lit 0), SV.ptr (nat_lit 3) (nat_lit 0), SV.ptr (nat_lit 4) (nat_lit 0), SV.fn (Fn.func (nat_lit
      116)) [] [SV.ptr (nat_lit 4) (nat_lit 0), SV.ptr (nat_lit 0) (nat_lit 0)], .lit (.int .i64 (U.add .i64 k S))], [(nat_lit 0, some (Blk.cells [.lit (.int .i64 a), .lit (.int .i64 b),
      .lit (.int .i64 c)] (nat_lit 23))), (nat_lit 0, some (Blk.cells [.lit (.int .i64 x), .lit (.int .i64 y), .lit (.int .i64 z)] (nat_lit 23))), (nat_lit 0, some (Blk.cells [.lit (.int
      .i64 F), .lit (.int .i64 S), .lit (.int .i64 C)] (nat_lit 114))), (nat_lit 0, some (Blk.cells [.lit (.int .i64 G), .lit (.int .i64 B), .lit (.int .i64 D)] (nat_lit 114))), (nat_lit
      0, some (Blk.cells [SV.own u (nat_lit 8) n] (nat_lit 29))), (nat_lit 0, none), (nat_lit 0, none), (nat_lit 0, none), (nat_lit 0, some (Blk.row u n [.int .i64, .int .i64, .int .i64]
      f (nat_lit 23))), (nat_lit 0, some (Blk.cells [.lit (.int .i64 (U.add .i64 G k)), .lit (.int .i64 B), .lit (.int .i64 (U.sub .i64 D (1 : Int)))] (nat_lit 114)))]))) (.ret (Ex.exit
      (nat_lit 0), [SV.ptr (nat_lit 0) (nat_lit 0), SV.ptr (nat_lit 2) (nat_lit 0), SV.ptr (nat_lit 3) (nat_lit 0), SV.ptr (nat_lit 4) (nat_lit 0), SV.fn (Fn.func (nat_lit 116)) []
      [SV.ptr (nat_lit 4) (nat_lit 0), SV.ptr (nat_lit 0) (nat_lit 0)], .lit (.int .i64 k)], [(nat_lit 0, some (Blk.cells [.lit (.int .i64 a), .lit (.int .i64 b), .lit (.int .i64 c)]
      (nat_lit 23))), (nat_lit 0, some (Blk.cells [.lit (.int .i64 x), .lit (.int .i64 y), .lit (.int .i64 z)] (nat_lit 23))), (nat_lit 0, some (Blk.cells [.lit (.int .i64 F), .lit (.int
      .i64 S), .lit (.int .i64 C)] (nat_lit 114))), (nat_lit 0, some (Blk.cells [.lit (.int .i64 G), .lit (.int .i64 B), .lit (.int .i64 D)] (nat_lit 114))), (nat_lit 0, some (Blk.cells
      [SV.own u (nat_lit 8) n] (nat_lit 29))), (nat_lit 0, none), (nat_lit 0, none), (nat_lit 0, none), (nat_lit 0, some (Blk.row u n [.int .i64, .int .i64, .int .i64] f (nat_lit
      23)))]))) (.ret (Ex.exit (nat_lit 0), [SV.ptr (nat_lit 0) (nat_lit 0), SV.ptr (nat_lit 2) (nat_lit 0), SV.ptr (nat_lit 3) (nat_lit 0), SV.ptr (nat_lit 4) (nat_lit 0), SV.fn (Fn.func
      (nat_lit 116)) [] [SV.ptr (nat_lit 4) (nat_lit 0), SV.ptr (nat_lit 0) (nat_lit 0)], .lit (.int .i64 k)], [(nat_lit 0, some (Blk.cells [.lit (.int .i64 a), .lit (.int .i64 b), .lit
      (.int .i64 c)] (nat_lit 23))), (nat_lit 0, some (Blk.cells [.lit (.int .i64 x), .lit (.int .i64 y), .lit (.int .i64 z)] (nat_lit 23))), (nat_lit 0, some (Blk.cells [.lit (.int .i64
      F), .lit (.int .i64 S), .lit (.int .i64 C)] (nat_lit 114))), (nat_lit 0, some (Blk.cells [.lit (.int .i64 G), .lit (.int .i64 B), .lit (.int .i64 D)] (nat_lit 114))), (nat_lit 0,
      some (Blk.cells [SV.own u (nat_lit 8) n] (nat_lit 29))), (nat_lit 0, none), (nat_lit 0, none), (nat_lit 0, none), (nat_lit 0, some (Blk.row u n [.int .i64, .int .i64, .int .i64] f
      (nat_lit 23)))]))) (.ret (Ex.exit (nat_lit 0), [SV.ptr (nat_lit 0) (nat_lit 0), SV.ptr (nat_lit 2) (nat_lit 0), SV.ptr (nat_lit 3) (nat_lit 0), SV.ptr (nat_lit 4) (nat_lit 0), SV.fn
      (Fn.func (nat_lit 116)) [] [SV.ptr (nat_lit 4) (nat_lit 0), SV.ptr (nat_lit 0) (nat_lit 0)], .lit (.int .i64 k)], [(nat_lit 0, some (Blk.cells [.lit (.int .i64 a), .lit (.int .i64
      b), .lit (.int .i64 c)] (nat_lit 23))), (nat_lit 0, some (Blk.cells [.lit (.int .i64 x), .lit (.int .i64 y), .lit (.int .i64 z)] (nat_lit 23))), (nat_lit 0, some (Blk.cells [.lit
      (.int .i64 F), .lit (.int .i64 S), .lit (.int .i64 C)] (nat_lit 114))), (nat_lit 0, some (Blk.cells [.lit (.int .i64 G), .lit (.int .i64 B), .lit (.int .i64 D)] (nat_lit 114))),
      (nat_lit 0, some (Blk.cells [SV.own u (nat_lit 8) n] (nat_lit 29))), (nat_lit 0, none), (nat_lit 0, none), (nat_lit 0, none), (nat_lit 0, some (Blk.row u n [.int .i64, .int .i64,
      .int .i64] f (nat_lit 23)))])) := by kernel_rfl
theorem roundP (n0 : Nat) (q : XP) (hq : PhiP n0 q) : ((sx Eu [] n0 (loopOf P 23 13) (mkS 103 [2, 7, 8, 9, 10, 11] (VP q).1, (VP q).2)).bind (proj 103 [2, 7, 8, 9, 10, 11])).All fun r => match r.1 with
      | .normal => ∃ q', PhiP n0 q' ∧ pM q'.S q'.B q'.D q'.n - q'.j < pM q.S q.B q.D q.n - q.j ∧ Wk 103 [2, 7, 8, 9, 10, 11] n0 r.2 (VP q') ∧ ∀ o, o = OP q' → o = OP q
      | e => ∃ s, (e, s) = OP q ∧ Wk 103 [2, 7, 8, 9, 10, 11] n0 r.2 s := by
  unfold VP
  dsimp only
  rw [t_P]
  obtain ⟨a, b, c, x, y, z, F, S, C, G, B, D, u, n, f, j⟩ := q
  obtain ⟨⟨h0, ⟨s1, s2⟩, ⟨b1, b2⟩, ⟨d1, d2⟩, ⟨g1, g2⟩, hm, hn⟩, hj⟩ := hq
  simp only [] at h0 s1 s2 b1 b2 d1 d2 g1 g2 hm hn hj
  subst h0
  dsimp only
  have hu : pU u (j + 1) = false := by unfold pU; simp
  have fin : j = pM S B D n → ∃ s, ((Ex.exit 0, s) : Ex × Few) = OP ⟨a, b, c, x, y, z, F, S, C, G, B, D, u, n, f, j⟩ ∧ Wk 103 [2, 7, 8, 9, 10, 11] 0 ([.ptr 0 0, .ptr 2 0, .ptr 3 0, .ptr 4 0, .fn (.func 116) [] [.ptr 4 0, .ptr 0 0], .lit (.int .i64 (S * ((j + 1 : Nat) : Int)))], memP a b c x y z F S C G B D (pU u j) (n + j) (ppF c S G B D n f)) s := fun hj => by
    refine ⟨_, rfl, ?_⟩
    subst hj
    exact wk_of (idR 9) rfl (Nat.zero_le _) (fun b hb => by omega) ⟨⟨rfl, rfl⟩, ⟨rfl, rfl⟩, ⟨rfl, rfl⟩, ⟨rfl, rfl⟩, ⟨rfl, trivial, ⟨rfl, rfl⟩, ⟨rfl, rfl⟩, trivial⟩, trivial, trivial⟩ ⟨⟨rfl, rfl, rfl, rfl, trivial⟩, ⟨rfl, rfl, rfl, rfl, trivial⟩, ⟨rfl, rfl, rfl, rfl, trivial⟩, ⟨rfl, rfl, rfl, rfl, trivial⟩, ⟨rfl, ⟨rfl, rfl, rfl⟩, trivial⟩, ⟨rfl, rfl, rfl, sameRow_refl _ _⟩, trivial⟩
  by_cases hD : 1 < D
  · have hMs := rM_spec s1 b1 (hm hD)
    have hp : pM S B D n = min (rM S B) (1001 - n) := by unfold pM; rw [if_pos hD]
    rw [hp] at hj fin
    have m0 := mulle (s := S) (x := 0) (y := ((j + 1 : Nat) : Int)) s1 (by omega)
    have m1 := mulle (s := S) (x := ((j + 1 : Nat) : Int)) (y := (rM S B : Int) + 1) s1 (by omega)
    have hBD := mulle (s := B) (x := 1) (y := D - 1) b1 (by omega)
    have hB2 : B ≤ 2000000 := by omega
    by_cases hlt : j < rM S B
    · have m2 := mulle (s := S) (x := ((j + 1 : Nat) : Int) + 1) (y := (rM S B : Int) + 1) s1 (by omega)
      rw [Int.mul_add, Int.mul_one] at m2
      by_cases hle : n + j ≤ 1000
      · have e1 : U.sub .i64 D 1 = D - 1 := U.sub64 (by unfold I64; omega)
        have e2 : U.add .i64 G (S * ((j + 1 : Nat) : Int)) = G + S * ((j + 1 : Nat) : Int) := U.add64 (by unfold I64; omega)
        have e4 : S * ((j + 1 + 1 : Nat) : Int) = S * ((j + 1 : Nat) : Int) + S := by
          have : ((j + 1 + 1 : Nat) : Int) = ((j + 1 : Nat) : Int) + 1 := rfl
          rw [this, Int.mul_add, Int.mul_one]
        have e3 : U.add .i64 (S * ((j + 1 : Nat) : Int)) S = S * ((j + 1 + 1 : Nat) : Int) := by rw [U.add64 (by unfold I64; omega), e4]
        have hlast : B * (D - 1 - 1) = B * (D - 1) - B := by rw [Int.mul_sub B (D - 1) 1, Int.mul_one]
        obtain ⟨a1, a2⟩ := pc_asks (f := G + S * ((j + 1 : Nat) : Int)) (s := B) (C := D - 1) (c := c) b1 b2 (by omega) (by omega) (by omega) (by omega)
        have ep := pc_eq (f := G + S * ((j + 1 : Nat) : Int)) (s := B) (C := D - 1) (c := c) b1
        simp only [e1, e2, e3]
        simp only [T.All, U.le_t, U.le_f, U.lt_t, U.lt_f, U.gt_t, U.gt_f, U.ge_t, U.ge_f, U.eq_t, U.eq_f, U.ne_t, U.ne_f, U.not_t, U.not_f, U.andb_t, U.andb_f, SV.lit.injEq, SV.agg.injEq, SV.tup.injEq, List.cons.injEq, Value.int.injEq, Value.bool.injEq, true_and, and_true, lk_eq, Int.ofNat_eq_natCast]
        refine ⟨fun _ => ⟨fun _ => ⟨fun _ => ⟨fun _ => ⟨fun _ => ⟨a1, a2, by omega, ?_⟩, fun h => by omega⟩, fun h => by omega⟩, fun h => by omega⟩, fun h => by omega⟩, fun h => by omega⟩
        refine ⟨⟨a, b, c, x, y, z, F, S, C, G, B, D, u, n, f, j + 1⟩, ⟨⟨rfl, ⟨s1, s2⟩, ⟨b1, b2⟩, ⟨d1, d2⟩, ⟨g1, g2⟩, hm, hn⟩, ?_⟩, ?_, ?_, fun o ho => ho⟩
        · show j + 1 ≤ pM S B D n
          rw [hp]; omega
        · show pM S B D n - (j + 1) < pM S B D n - j
          rw [hp]; omega
        refine wk_of [some 0, some 1, some 2, some 3, some 4, none, none, none, some 12] rfl (Nat.zero_le _) (fun b hb => by omega) ⟨⟨rfl, rfl⟩, ⟨rfl, rfl⟩, ⟨rfl, rfl⟩, ⟨rfl, rfl⟩, ⟨rfl, trivial, ⟨rfl, rfl⟩, ⟨rfl, rfl⟩, trivial⟩, rfl, trivial⟩ ⟨⟨rfl, rfl, rfl, rfl, trivial⟩, ⟨rfl, rfl, rfl, rfl, trivial⟩, ⟨rfl, rfl, rfl, rfl, trivial⟩, ⟨rfl, rfl, rfl, rfl, trivial⟩, ⟨rfl, ⟨hu.symm, rfl, rfl⟩, trivial⟩, ⟨rfl, hu.symm, rfl, sameR fun i hi => ?_⟩, trivial⟩
        by_cases hi' : i < n + j
        · exact cat_l hi'
        · have : i = n + j := by have hi2 : i < n + j + 1 := hi; omega
          subst this
          refine (cat_r (Nat.le_refl _)).trans ?_
          show _ = ppF c S G B D n f (n + j)
          unfold ppF
          refine Eq.trans ?_ (cat_r (by omega)).symm
          rw [show n + j - n = j by omega]
          exact ep
      · simp only [T.All, U.le_t, U.le_f, U.lt_t, U.lt_f, U.gt_t, U.gt_f, U.ge_t, U.ge_f, U.eq_t, U.eq_f, U.ne_t, U.ne_f, U.not_t, U.not_f, U.andb_t, U.andb_f, SV.lit.injEq, SV.agg.injEq, SV.tup.injEq, List.cons.injEq, Value.int.injEq, Value.bool.injEq, true_and, and_true, lk_eq, Int.ofNat_eq_natCast]
        refine ⟨fun _ => ⟨fun _ => ⟨fun h => by omega, fun _ => fin (by omega)⟩, fun _ => fin (by omega)⟩, fun _ => fin (by omega)⟩
    · have hjM : j = rM S B := by omega
      have hnot : ¬ S * ((j + 1 : Nat) : Int) < B := by
        have : ((j + 1 : Nat) : Int) = (rM S B : Int) + 1 := by omega
        rw [this]; omega
      simp only [T.All, U.le_t, U.le_f, U.lt_t, U.lt_f, U.gt_t, U.gt_f, U.ge_t, U.ge_f, U.eq_t, U.eq_f, U.ne_t, U.ne_f, U.not_t, U.not_f, U.andb_t, U.andb_f, SV.lit.injEq, SV.agg.injEq, SV.tup.injEq, List.cons.injEq, Value.int.injEq, Value.bool.injEq, true_and, and_true, lk_eq]
      refine ⟨fun _ => ⟨fun h => absurd h hnot, fun _ => fin (by omega)⟩, fun _ => fin (by omega)⟩
  · have hp : pM S B D n = 0 := by unfold pM; rw [if_neg hD]
    rw [hp] at hj fin
    simp only [T.All, U.le_t, U.le_f, U.lt_t, U.lt_f, U.gt_t, U.gt_f, U.ge_t, U.ge_f, U.eq_t, U.eq_f, U.ne_t, U.ne_f, U.not_t, U.not_f, U.andb_t, U.andb_f, SV.lit.injEq, SV.agg.injEq, SV.tup.injEq, List.cons.injEq, Value.int.injEq, Value.bool.injEq, true_and, and_true, lk_eq]
    exact ⟨fun h => absurd h hD, fun _ => fin (by omega)⟩
theorem loopP : LoopOK P (loopOf P 23 13) (few 103 [2, 7, 8, 9, 10, 11] gP) :=
  loop_few (E := Eu) mixed Eu_ok loopsOK_none 103 [2, 7, 8, 9, 10, 11] (X := XP) gP (fun _ x => VP x) PhiP (fun q => pM q.S q.B q.D q.n - q.j) (fun _ x o => o = OP x)
    (fun n0 st r h => by
      have key : ∀ (a b c x y z F S C G B D : Int) (u : Bool) (n : Nat) (f : Nat → R3) (o : Ex × Few), o = OP ⟨a, b, c, x, y, z, F, S, C, G, B, D, u, n, f, 0⟩ → o = oP a b c x y z F S C G B D u n f := fun a b c x y z F S C G B D u n f o ho => by
        rw [ho]; simp only [OP, oP, lk_eq, memP]
      have same0 : ∀ (c S G B D : Int) (n : Nat) (f : Nat → R3) (i : Nat), i < n → f i = ppF c S G B D n f i := fun c S G B D n f i hi => (cat_l hi).symm
      unfold gP at h
      split at h
      · rename_i n0 k g0 a b c g1 x y z g2 F S C g3 G B D g4 g5
        obtain ⟨hp, hk⟩ := (T.is_ask h).1
        obtain rfl := T.is_ret (T.is_ask h).2
        have hp' := hp
        obtain ⟨h0, _⟩ := hp'
        subst h0; subst hk
        refine ⟨⟨a, b, c, x, y, z, F, k, C, G, B, D, true, 0, fun _ => ((0 : Int), (0 : Int), (0 : Int), ()), 0⟩, ⟨hp, Nat.zero_le _⟩, ?_, fun o ho => key _ _ _ _ _ _ _ _ _ _ _ _ _ _ _ o ho⟩
        exact wk_of [some 0, some 1, some 2, some 3, some 4, none, none, none, none] rfl (Nat.zero_le _) (fun b hb => by omega) ⟨⟨rfl, rfl⟩, ⟨rfl, rfl⟩, ⟨rfl, rfl⟩, ⟨rfl, rfl⟩, ⟨rfl, trivial, ⟨rfl, rfl⟩, ⟨rfl, rfl⟩, trivial⟩, by show Value.int .i64 k = Value.int .i64 (k * 1); rw [Int.mul_one], trivial⟩ ⟨⟨rfl, rfl, rfl, rfl, trivial⟩, ⟨rfl, rfl, rfl, rfl, trivial⟩, ⟨rfl, rfl, rfl, rfl, trivial⟩, ⟨rfl, rfl, rfl, rfl, trivial⟩, ⟨rfl, ⟨rfl, rfl, rfl⟩, trivial⟩, ⟨rfl, rfl⟩, trivial⟩
      · rename_i n0 k g0 a b c g1 x y z g2 F S C g3 G B D g4 n' m1 m2 m3 g5 n f
        obtain ⟨hp, hk, hnn⟩ := (T.is_ask h).1
        obtain rfl := T.is_ret (T.is_ask h).2
        have hp' := hp
        obtain ⟨h0, _⟩ := hp'
        subst h0; subst hk; subst hnn
        refine ⟨⟨a, b, c, x, y, z, F, k, C, G, B, D, false, n', f, 0⟩, ⟨hp, Nat.zero_le _⟩, ?_, fun o ho => key _ _ _ _ _ _ _ _ _ _ _ _ _ _ _ o ho⟩
        exact wk_of (idR 9) rfl (Nat.zero_le _) (fun b hb => by omega) ⟨⟨rfl, rfl⟩, ⟨rfl, rfl⟩, ⟨rfl, rfl⟩, ⟨rfl, rfl⟩, ⟨rfl, trivial, ⟨rfl, rfl⟩, ⟨rfl, rfl⟩, trivial⟩, by show Value.int .i64 k = Value.int .i64 (k * 1); rw [Int.mul_one], trivial⟩ ⟨⟨rfl, rfl, rfl, rfl, trivial⟩, ⟨rfl, rfl, rfl, rfl, trivial⟩, ⟨rfl, rfl, rfl, rfl, trivial⟩, ⟨rfl, rfl, rfl, rfl, trivial⟩, ⟨rfl, ⟨rfl, rfl, rfl⟩, trivial⟩, ⟨rfl, rfl, rfl, sameR fun i hi => same0 _ _ _ _ _ _ _ i hi⟩, trivial⟩
      · exact h.elim)
    roundP
theorem l52_ok : ∀ p ∈ l52, LoopsOK P p.2 (bodyOf P p.1) := by
  intro p hp
  simp only [l52, List.mem_singleton] at hp
  subst hp
  refine loopsOK_of (by kernel_rfl) fun k g hk => ?_
  simp only [List.mem_singleton, Prod.mk.injEq, LoopC.sum.injEq] at hk
  obtain ⟨rfl, rfl⟩ := hk
  exact loopP
end Go.RX.Span

