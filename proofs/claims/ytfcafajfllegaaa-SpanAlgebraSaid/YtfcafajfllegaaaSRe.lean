/- Ranges as sets of numbers, in plain Lean. -/
import Derived.Test.YtfcafajfllegaaaSRc
import Derived.Test.YtfcafajfllegaaaSPn
import Derived.Test.YtfcafajfllegaaaSQa
set_option linter.unusedVariables false
set_option linter.unusedSimpArgs false
namespace Go.RX.Span
open Go Go.RX

/-- The numbers of a series upwards. -/
def SIn (F s C n : Int) : Prop := F ≤ n ∧ n ≤ F + s * (C - 1) ∧ 0 < C ∧ ∃ p, n = F + s * p
/-- A series upwards in the limits, of whatever step, or nothing. -/
def Sw (F s C : Int) : Prop := C = 0 ∨ (1 ≤ C ∧ 1 ≤ s ∧ s ≤ 4000000000000 ∧ -1000000 ≤ F ∧ F + s * (C - 1) ≤ 1000000)
theorem Ser.sw {A s C : Int} (h : Ser A s C) : Sw A s C := by rcases h with h | h; exact .inl h; exact .inr (by omega)

theorem sIn_first {F s C : Int} (hs : 1 ≤ s) (hC : 1 ≤ C) : SIn F s C F := by
  have := mulle (x := 0) (y := C - 1) hs (by omega)
  rw [Int.mul_zero] at this
  exact ⟨by omega, by omega, by omega, 0, by omega⟩
theorem sIn_last {F s C : Int} (hs : 1 ≤ s) (hC : 1 ≤ C) : SIn F s C (F + s * (C - 1)) := by
  have := mulle (x := 0) (y := C - 1) hs (by omega)
  rw [Int.mul_zero] at this
  exact ⟨by omega, by omega, by omega, C - 1, rfl⟩
theorem sIn_second {F s C : Int} (hs : 1 ≤ s) (hC : 2 ≤ C) : SIn F s C (F + s) := by
  have := mulle (x := 1) (y := C - 1) hs (by omega)
  rw [Int.mul_one] at this
  exact ⟨by omega, by omega, by omega, 1, by omega⟩

/-- Two series with the same numbers are the same, but for the step of a single one. -/
theorem sIn_ext {F s C A t D : Int} (h1 : Sw F s C) (h2 : Sw A t D) (h : ∀ n, SIn F s C n ↔ SIn A t D n) : C = D ∧ (1 ≤ C → F = A ∧ s * (C - 1) = t * (D - 1)) := by
  by_cases hC : C = 0
  · by_cases hD : D = 0
    · exact ⟨by omega, fun h => by omega⟩
    · have h2' := h2.resolve_left hD
      have := ((h A).2 (sIn_first h2'.2.1 h2'.1)).2.2.1
      omega
  · have h1' := h1.resolve_left hC
    have hD : D ≠ 0 := fun hD => by have := ((h F).1 (sIn_first h1'.2.1 h1'.1)).2.2.1; omega
    have h2' := h2.resolve_left hD
    have f1 := (h F).1 (sIn_first h1'.2.1 h1'.1)
    have f2 := (h A).2 (sIn_first h2'.2.1 h2'.1)
    have l1 := (h _).1 (sIn_last h1'.2.1 h1'.1)
    have l2 := (h _).2 (sIn_last h2'.2.1 h2'.1)
    have hF : F = A := by have := f1.1; have := f2.1; omega
    have hL : s * (C - 1) = t * (D - 1) := by have := l1.2.1; have := l2.2.1; omega
    refine ⟨?_, fun _ => ⟨hF, hL⟩⟩
    have hs := h1'.2.1
    have ht := h2'.2.1
    rcases Int.lt_or_le 1 C with hc1 | hc1
    · rcases Int.lt_or_le 1 D with hd1 | hd1
      · obtain ⟨_, _, _, p, hp⟩ := (h _).1 (sIn_second hs (by omega : 2 ≤ C))
        obtain ⟨_, _, _, q, hq⟩ := (h _).2 (sIn_second ht (by omega : 2 ≤ D))
        have e1 : s = t * p := by omega
        have e2 : t = s * q := by omega
        have hst : s = t := by
          have hp1 : 1 ≤ p := by
            rcases Int.lt_or_le 0 p with h | h
            · omega
            · have := Int.mul_le_mul_of_nonneg_left h (show (0 : Int) ≤ t by omega); omega
          have hq1 : 1 ≤ q := by
            rcases Int.lt_or_le 0 q with h | h
            · omega
            · have := Int.mul_le_mul_of_nonneg_left h (show (0 : Int) ≤ s by omega); omega
          have := mulle (s := t) (x := 1) (y := p) ht hp1
          have := mulle (s := s) (x := 1) (y := q) hs hq1
          omega
        subst hst
        have := Int.eq_of_mul_eq_mul_left (by omega) hL
        omega
      · have : D = 1 := by omega
        subst this
        rw [Int.sub_self, Int.mul_zero] at hL
        have := (mul0 (s := s) (k := C - 1) hs).1 hL
        omega
    · have : C = 1 := by omega
      subst this
      rw [Int.sub_self, Int.mul_zero] at hL
      have := (mul0 (s := t) (k := D - 1) ht).1 hL.symm
      omega

/-- A part of a series that has as many numbers is the whole. -/
theorem sIn_count {F s C A t D : Int} (h1 : Sw F s C) (h2 : Sw A t D) (h : ∀ n, SIn F s C n → SIn A t D n) (hCD : C = D) : ∀ n, SIn A t D n → SIn F s C n := by
  subst hCD
  intro n hn
  have hC : C ≠ 0 := by have := hn.2.2.1; omega
  have h1' := h1.resolve_left hC
  have h2' := h2.resolve_left hC
  have hs := h1'.2.1
  have ht := h2'.2.1
  obtain ⟨g1, g2, g3, p, hp⟩ := h _ (sIn_first hs h1'.1)
  obtain ⟨l1, l2, l3, r, hr⟩ := h _ (sIn_last hs h1'.1)
  rcases Int.lt_or_le 1 C with hc1 | hc1
  · obtain ⟨_, _, _, q, hq⟩ := h _ (sIn_second hs (by omega : 2 ≤ C))
    have e1 : s = t * (q - p) := by rw [Int.mul_sub]; omega
    have hqp : 1 ≤ q - p := by
      rcases Int.lt_or_le 0 (q - p) with h | h
      · omega
      · have := Int.mul_le_mul_of_nonneg_left h (show (0 : Int) ≤ t by omega); omega
    have hp0 : 0 ≤ p := by
      rcases Int.lt_or_le p 0 with h | h
      · have := Int.mul_le_mul_of_nonneg_left (show p ≤ -1 by omega) (show (0 : Int) ≤ t by omega); omega
      · exact h
    have hge : t ≤ s := by have := mulle (s := t) (x := 1) (y := q - p) ht hqp; omega
    have hle : s * (C - 1) ≤ t * (C - 1) := by have := mulle (s := t) (x := 0) (y := p) ht hp0; omega
    have hst : s = t := by
      rcases Int.lt_or_le t s with hlt | h
      · have := Int.mul_lt_mul_of_pos_right hlt (show (0 : Int) < C - 1 by omega)
        omega
      · omega
    subst hst
    have hFA : F = A := by have := mulle (s := s) (x := 0) (y := p) ht hp0; omega
    rw [hFA]; exact hn
  · have : C = 1 := by omega
    subst this
    obtain ⟨k1, k2, k3, w, hw⟩ := hn
    have hFA : F = A := by simp at g2; omega
    have hnA : n = A := by simp at k2; omega
    rw [hnA, ← hFA]
    exact sIn_first hs (by omega)

/-- What the program reckons for two series has just the numbers of both. -/
theorem cm_set {A s C B t D : Int} (hA : Ser A s C) (hB : Ser B t D) : Sw (cmFst A s C B t D) (cmBy A s C B t D) (cmCnt A s C B t D) ∧ ∀ n, SIn (cmFst A s C B t D) (cmBy A s C B t D) (cmCnt A s C B t D) n ↔ SIn A s C n ∧ SIn B t D n := by
  by_cases hC : C = 0
  · have e : cmE A s C B t D = true := decide_eq_true (.inl hC)
    simp only [cmFst, cmBy, cmCnt, e, if_true]
    exact ⟨.inl rfl, fun n => ⟨fun h => by have := h.2.2.1; omega, fun h => by have := h.1.2.2.1; omega⟩⟩
  by_cases hD : D = 0
  · have e : cmE A s C B t D = true := decide_eq_true (.inr (.inl hD))
    simp only [cmFst, cmBy, cmCnt, e, if_true]
    exact ⟨.inl rfl, fun n => ⟨fun h => by have := h.2.2.1; omega, fun h => by have := h.2.2.2.1; omega⟩⟩
  obtain ⟨a1, a2, a3, a4, a5, a6⟩ := hA.resolve_left hC
  obtain ⟨b1, b2, b3, b4, b5, b6⟩ := hB.resolve_left hD
  obtain ⟨g1, g2, s', m, u, g3, g4, g5, g6, g7, g8, g9, g10⟩ := eu_facts a3 b3
  have hA1 := mulle (x := 0) (y := C - 1) a3 (by omega)
  have hB1 := mulle (x := 0) (y := D - 1) b3 (by omega)
  rw [Int.mul_zero] at hA1 hB1
  by_cases hz : (B - A).tmod (euG s t) = 0
  · obtain ⟨Q, hQ⟩ := Int.dvd_of_tmod_eq_zero hz
    have hY : cmY s t = s * m := by unfold cmY; rw [g10]
    have hSM1 := mulle (s := s) (x := 1) (y := m) a3 g6
    rw [Int.mul_one] at hSM1
    have hYb : 1 ≤ cmY s t := by rw [hY]; omega
    have hYt : cmY s t ≤ 4000000000000 := by
      rw [hY]
      have := mulle (s := s) (x := m) (y := 2000000) a3 (by omega)
      omega
    have hfa : ∃ p, cmF0 A s B t = A + s * p := ⟨_, rfl⟩
    have hfb : ∃ q, cmF0 A s B t = B + t * q := by unfold cmF0; rw [g10]; exact cm_first g3 g4 g9 hQ g1 g6
    have both := fun n => cm_both (n := n) g3 g4 g9 g1 hfa hfb
    have clamp := fun n => cm_clamp (f := cmF0 A s B t) (low := max A B) (high := cmHi A s C B t D) (n := n) hYb
    have hHi : cmHi A s C B t D = min (A + s * (C - 1)) (B + t * (D - 1)) := rfl
    have key : ∀ n, (SIn A s C n ∧ SIn B t D n) ↔ (cmV A s B t ≤ n ∧ n ≤ cmHi A s C B t D ∧ ∃ p, n = cmV A s B t + cmY s t * p) := fun n => by
      rw [show cmV A s B t = cmUp (cmF0 A s B t) (max A B) (cmY s t) from rfl, ← clamp n, hY, ← both n, hHi]
      constructor
      · rintro ⟨⟨x1, x2, _, x3⟩, ⟨y1, y2, _, y3⟩⟩
        exact ⟨⟨x3, y3⟩, by omega, by omega⟩
      · rintro ⟨⟨x3, y3⟩, z1, z2⟩
        exact ⟨⟨by omega, by omega, by omega, x3⟩, ⟨by omega, by omega, by omega, y3⟩⟩
    obtain ⟨v1, v2, _⟩ := cmUp_spec (f := cmF0 A s B t) (low := max A B) hYb
    have v1' : max A B ≤ cmV A s B t := v1
    by_cases hgt : cmHi A s C B t D < cmV A s B t
    · have e : cmE A s C B t D = true := decide_eq_true (.inr (.inr (.inr hgt)))
      simp only [cmFst, cmBy, cmCnt, e, if_true]
      refine ⟨.inl rfl, fun n => ⟨fun h => by have := h.2.2.1; omega, fun h => ?_⟩⟩
      have := (key n).1 h
      omega
    · have e : cmE A s C B t D = false := decide_eq_false (by
        rintro (h | h | h | h)
        · exact hC h
        · exact hD h
        · exact h hz
        · exact hgt h)
      simp only [cmFst, cmBy, cmCnt, e, Bool.false_eq_true, if_false]
      have t1 := Int.tdiv_eq_ediv_of_nonneg (b := cmY s t) (show 0 ≤ cmHi A s C B t D - cmV A s B t by omega)
      have t2 := Int.mul_ediv_add_emod (cmHi A s C B t D - cmV A s B t) (cmY s t)
      have t3 := Int.emod_nonneg (cmHi A s C B t D - cmV A s B t) (show cmY s t ≠ 0 by omega)
      have t4 := Int.emod_lt_of_pos (cmHi A s C B t D - cmV A s B t) (show 0 < cmY s t by omega)
      have t5 := Int.ediv_nonneg (show 0 ≤ cmHi A s C B t D - cmV A s B t by omega) (show 0 ≤ cmY s t by omega)
      rw [t1]
      obtain ⟨q, hq⟩ : ∃ q, q = (cmHi A s C B t D - cmV A s B t) / cmY s t := ⟨_, rfl⟩
      rw [← hq] at t2 t5 ⊢
      refine ⟨.inr ⟨by omega, hYb, hYt, by omega, by rw [show q + 1 - 1 = q by omega]; omega⟩, fun n => ?_⟩
      rw [key n]
      unfold SIn
      rw [show q + 1 - 1 = q by omega]
      constructor
      · rintro ⟨x1, x2, x3, x4⟩
        exact ⟨x1, by omega, x4⟩
      · rintro ⟨x1, x2, p, hp⟩
        refine ⟨x1, ?_, by omega, p, hp⟩
        rcases Int.lt_or_le q p with h | h
        · have := mulle (s := cmY s t) (x := q + 1) (y := p) hYb (by omega)
          rw [Int.mul_add, Int.mul_one] at this
          omega
        · have := mulle (s := cmY s t) (x := p) (y := q) hYb h
          omega
  · have e : cmE A s C B t D = true := decide_eq_true (.inr (.inr (.inl hz)))
    simp only [cmFst, cmBy, cmCnt, e, if_true]
    exact ⟨.inl rfl, fun n => ⟨fun h => by have := h.2.2.1; omega, fun h => absurd ⟨h.1.2.2.2, h.2.2.2.2⟩ (cm_none g3 g4 hz)⟩⟩

/-- A right range as a series upwards. -/
def sA (a b c : Int) : Int := uF (ofF a b c) (ofB a b c) (ofC a b c)
def sS (a b c : Int) : Int := uB (ofF a b c) (ofB a b c) (ofC a b c)
theorem up_ser {a b c : Int} (hr : Right a b c) : Ser (sA a b c) (sS a b c) (ofC a b c) := by
  by_cases hab : a ≤ b
  · obtain ⟨p1, p2, p3, p4, p5, _⟩ := parts hr hab
    obtain ⟨u1, u2⟩ := up_of hr hab
    have hl := hr.1
    exact .inr (by unfold sA sS; rw [u1, u2]; omega)
  · exact .inl (empty_of (c := c) hab).2.2
theorem up_ask {a b c : Int} (hr : Right a b c) : ofB a b c < 0 → ofC a b c ≠ 0 → I64 (ofC a b c - 1) ∧ I64 (ofB a b c * (ofC a b c - 1)) ∧ I64 (ofF a b c + ofB a b c * (ofC a b c - 1)) ∧ I64 (-ofB a b c) := fun h1 h2 => by
  have hab : a ≤ b := by
    by_cases hab : a ≤ b
    · exact hab
    · exact absurd (empty_of (c := c) hab).2.2 h2
  obtain ⟨p1, p2, p3, p4, p5, p6, p7, _⟩ := parts hr hab
  have hl := hr.1
  rw [p6] at h1 ⊢
  rw [p7, if_pos h1]
  have e : c * (ofC a b c - 1) = -(absI c * (ofC a b c - 1)) := by rw [absI_neg h1, Int.neg_mul, Int.neg_neg]
  have e2 := absI_neg h1
  rw [e]
  unfold I64
  omega
/-- The numbers of a right range. -/
def RIn (a b c n : Int) : Prop := SIn (sA a b c) (sS a b c) (ofC a b c) n
end Go.RX.Span
