/- Ranges: Intersect, Hull and Within as sets, in plain Lean. -/
import Derived.Test.YtfcafajfllegaaaSRh
set_option linter.unusedVariables false
set_option linter.unusedSimpArgs false
namespace Go.RX.Span
open Go Go.RX

theorem sIn_one {F s t n : Int} : SIn F s 1 n ↔ SIn F t 1 n := by
  unfold SIn
  simp only [Int.sub_self, Int.mul_zero, Int.add_zero]
  constructor <;> rintro ⟨h1, h2, h3, _⟩ <;> exact ⟨h1, h2, h3, 0, by omega⟩
/-- A right range out of a series: the same numbers. -/
theorem rin_of {L H S F B C : Int} (hC : 1 ≤ C) (hr : Right L H S) (hLH : L ≤ H) (h1 : L = F) (hc : ofC L H S = C) (hS : C ≠ 1 → absI S = B) (n : Int) : RIn L H S n ↔ SIn F B C n := by
  obtain ⟨u1, u2⟩ := up_of hr hLH
  unfold RIn sA sS
  rw [u1, u2, hc, h1]
  by_cases h : C = 1
  · subst h; exact sIn_one
  · rw [hS h]
theorem rin_empty (n : Int) : ¬ RIn 1 0 1 n := fun h => by
  have := h.2.2.1
  have e : ofC 1 0 1 = 0 := rfl
  rw [e] at this
  omega
theorem right_empty : Right 1 0 1 := ⟨by omega, .inl ⟨rfl, rfl, rfl⟩⟩

/-- A series made a range in a direction. -/
theorem mv_set {F B C c : Int} (h : Sw F B C) : nErr (kF F B C c) (kB F B C c) C = 0 ∧ Right (nLow (kF F B C c) (kB F B C c) C) (nHigh (kF F B C c) (kB F B C c) C) (nStr (kF F B C c) (kB F B C c) C) ∧
    ∀ n, RIn (nLow (kF F B C c) (kB F B C c) C) (nHigh (kF F B C c) (kB F B C c) C) (nStr (kF F B C c) (kB F B C c) C) n ↔ SIn F B C n := by
  by_cases hC : C = 0
  · subst hC
    simp only [nErr, nLow, nHigh, nStr, Int.le_refl, if_true]
    exact ⟨trivial, right_empty, fun n => ⟨fun h => absurd h (rin_empty n), fun h => by have := h.2.2.1; omega⟩⟩
  · obtain ⟨h1, h2, h3, h4, h5⟩ := h.resolve_left hC
    obtain ⟨q1, q2, q3, q4⟩ := nrm_like (f := F) (s := B) (C := C) (c := c) h2
    have m0 := mulle (x := 0) (y := C - 1) h2 (by omega)
    rw [Int.mul_zero] at m0
    have n1 : ¬ C ≤ 0 := by omega
    have e0 : mvE F B C = 0 := by unfold mvE; rw [if_neg n1, if_pos (by omega)]
    rw [q1, q2, q3, q4, e0]
    simp only [mvLow, mvHigh, mvStr, e0, if_neg n1, if_true]
    refine ⟨trivial, ?_⟩
    by_cases hc : c < 0
    · obtain ⟨g1, g2, g3, g4⟩ := rgD (F := F + B * (C - 1)) (s := B) (q := C - 1) h2 (by omega) (by omega) (by omega)
      rw [show F + B * (C - 1) - B * (C - 1) = F by omega] at g1 g2 g3
      have e : (if C - 1 = 0 then (1 : Int) else -B) = if C = 1 then 1 else if c < 0 then -B else B := by
        by_cases h : C = 1
        · rw [if_pos (by omega), if_pos h]
        · rw [if_neg (by omega), if_neg h, if_pos hc]
      rw [e] at g1 g3
      refine ⟨g1, fun n => rin_of h1 g1 g2 rfl (by omega) (fun h => ?_) n⟩
      rw [if_neg h, if_pos hc, absI_neg (by omega)]; omega
    · obtain ⟨g1, g2, g3, g4⟩ := rgU (F := F) (s := B) (q := C - 1) h2 (by omega) (by omega) (by omega)
      have e : (if C - 1 = 0 then (1 : Int) else B) = if C = 1 then 1 else if c < 0 then -B else B := by
        by_cases h : C = 1
        · rw [if_pos (by omega), if_pos h]
        · rw [if_neg (by omega), if_neg h, if_neg hc]
      rw [e] at g1 g3
      refine ⟨g1, fun n => rin_of h1 g1 g2 rfl (by omega) (fun h => ?_) n⟩
      rw [if_neg h, if_neg hc, absI_pos (by omega)]

theorem ckd_zero {a b c x y z : Int} (h : Right a b c) (h' : Right x y z) : ckd a b c x y z = 0 := by
  unfold ckd; rw [if_neg (by simp [chk_zero.2 h])]; exact chk_zero.2 h'
/-- Intersect of right ranges has the numbers of both. -/
theorem is_set {a b c x y z : Int} (h : Right a b c) (h' : Right x y z) : isEr a b c x y z = 0 ∧ Right (isL a b c x y z) (isH a b c x y z) (isS a b c x y z) ∧ ∀ n, RIn (isL a b c x y z) (isH a b c x y z) (isS a b c x y z) n ↔ RIn a b c n ∧ RIn x y z n := by
  have hn : ¬ ckd a b c x y z ≠ 0 := by simp [ckd_zero h h']
  simp only [isEr, isL, isH, isS, if_neg hn]
  obtain ⟨w1, w2⟩ := is_sw h h'
  obtain ⟨m1, m2, m3⟩ := mv_set (c := c) w1
  exact ⟨m1, m2, fun n => (m3 n).trans (w2 n)⟩
/-- Ranges with the same numbers have the same ends, and the same size. -/
theorem rin_ext {a b c x y z : Int} (h : Right a b c) (h' : Right x y z) (he : ∀ n, RIn a b c n ↔ RIn x y z n) : a = x ∧ b = y ∧ ofC a b c = ofC x y z := by
  obtain ⟨e1, e2⟩ := sIn_ext (up_ser h).sw (up_ser h').sw he
  by_cases hab : a ≤ b
  · obtain ⟨p1, p2, p3, p4, p5, _⟩ := parts h hab
    have hxy : x ≤ y := by
      by_cases hxy : x ≤ y
      · exact hxy
      · have := (empty_of (c := z) hxy).2.2; omega
    obtain ⟨p1', p2', p3', p4', p5', _⟩ := parts h' hxy
    obtain ⟨u1, u2⟩ := up_of h hab
    obtain ⟨v1, v2⟩ := up_of h' hxy
    obtain ⟨k1, k2⟩ := e2 p3
    unfold sA at k1
    unfold sS at k2
    rw [u1, v1] at k1
    rw [u2, v2, p5, p5'] at k2
    exact ⟨k1, by omega, e1⟩
  · have h0 := (empty_of (c := c) hab).2.2
    have hxy : ¬ x ≤ y := fun hxy => by have := (parts h' hxy).2.2.1; omega
    obtain ⟨i1, i2, i3⟩ := empty_is h hab
    obtain ⟨j1, j2, j3⟩ := empty_is h' hxy
    exact ⟨by omega, by omega, e1⟩
/-- Within says what the sets say. -/
theorem wi_set {a b c x y z : Int} (h : Right a b c) (h' : Right x y z) : wiB a b c x y z = true ↔ ∀ n, RIn a b c n → RIn x y z n := by
  have hn : ¬ ckd a b c x y z ≠ 0 := by simp [ckd_zero h h']
  obtain ⟨w1, w2⟩ := is_sw h h'
  simp only [wiB, if_neg hn, decide_eq_true_eq]
  constructor
  · intro hc n hin
    exact ((w2 n).1 (sIn_count w1 (up_ser h).sw (fun n hn => ((w2 n).1 hn).1) hc n hin)).2
  · intro hs
    exact (sIn_ext w1 (up_ser h).sw (fun n => (w2 n).trans ⟨fun g => g.1, fun g => ⟨g, hs n g⟩⟩)).1
end Go.RX.Span
