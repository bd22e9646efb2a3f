/- Ranges: what By of By, and Count twice, come to, in plain Lean. -/
import Derived.Test.YtfcafajfllegaaaSPv
import Derived.Test.YtfcafajfllegaaaSPy
set_option linter.unusedVariables false
set_option linter.unusedSimpArgs false
namespace Go.RX.Span
open Go Go.RX

/-- A range upwards, out of its first number, its step and how many steps it has. -/
theorem rgU {F s q : Int} (hs : 1 ≤ s) (hq : 0 ≤ q) (h1 : -1000000 ≤ F) (h2 : F + s * q ≤ 1000000) :
    Right F (F + s * q) (if q = 0 then 1 else s) ∧ F ≤ F + s * q ∧ ofC F (F + s * q) (if q = 0 then 1 else s) = q + 1 ∧ ∀ j : Nat, (j : Int) ≤ q → num F (F + s * q) (if q = 0 then 1 else s) j = F + s * j := by
  have h0 := mulle (s := s) (x := 0) (y := q) hs hq
  rw [Int.mul_zero] at h0
  by_cases hz : q = 0
  · subst hz
    simp only [if_true, Int.mul_zero, Int.add_zero]
    have hr : Right F F 1 := ⟨by rw [Int.mul_zero] at h2; omega, .inr (.inl ⟨rfl, rfl⟩)⟩
    refine ⟨hr, Int.le_refl _, ?_, fun j hj => ?_⟩
    · simp [ofC]
    · obtain rfl : j = 0 := by omega
      rw [num_eq hr (Int.le_refl _)]; simp
  · rw [if_neg hz]
    have hsq := mulle (s := s) (x := 1) (y := q) hs (by omega)
    rw [Int.mul_one] at hsq
    have hr : Right F (F + s * q) s := ⟨by omega, .inr (.inr ⟨by omega, by omega, by rw [show F + s * q - F = s * q by omega]; exact Int.mul_emod_right s q⟩)⟩
    refine ⟨hr, by omega, ?_, fun j hj => ?_⟩
    · unfold ofC
      rw [if_neg (by omega), if_neg (by omega), show F + s * q - F = s * q by omega, Int.mul_ediv_cancel_left _ (by omega)]
    · rw [num_eq hr (by omega), if_neg (by omega)]
/-- And downwards. -/
theorem rgD {F s q : Int} (hs : 1 ≤ s) (hq : 0 ≤ q) (h1 : F ≤ 1000000) (h2 : -1000000 ≤ F - s * q) :
    Right (F - s * q) F (if q = 0 then 1 else -s) ∧ F - s * q ≤ F ∧ ofC (F - s * q) F (if q = 0 then 1 else -s) = q + 1 ∧ ∀ j : Nat, (j : Int) ≤ q → num (F - s * q) F (if q = 0 then 1 else -s) j = F - s * j := by
  have h0 := mulle (s := s) (x := 0) (y := q) hs hq
  rw [Int.mul_zero] at h0
  by_cases hz : q = 0
  · subst hz
    simp only [if_true, Int.mul_zero, Int.sub_zero]
    have hr : Right F F 1 := ⟨by rw [Int.mul_zero] at h2; omega, .inr (.inl ⟨rfl, rfl⟩)⟩
    refine ⟨hr, Int.le_refl _, ?_, fun j hj => ?_⟩
    · simp [ofC]
    · obtain rfl : j = 0 := by omega
      rw [num_eq hr (Int.le_refl _)]; simp
  · rw [if_neg hz]
    have hsq := mulle (s := s) (x := 1) (y := q) hs (by omega)
    rw [Int.mul_one] at hsq
    have hr : Right (F - s * q) F (-s) := ⟨by omega, .inr (.inr ⟨by omega, by omega, by
      rw [show F - (F - s * q) = (-s) * (-q) by rw [Int.neg_mul_neg]; omega]; exact Int.mul_emod_right (-s) (-q)⟩)⟩
    refine ⟨hr, by omega, ?_, fun j hj => ?_⟩
    · unfold ofC
      rw [if_neg (by omega), if_pos (by omega), show F - (F - s * q) = s * q by omega, Int.neg_neg, Int.mul_ediv_cancel_left _ (by omega)]
    · rw [num_eq hr (by omega), if_pos (by omega), Int.neg_mul]; omega

theorem by_empty {a b c n : Int} (hr : Right a b c) (hab : ¬ a ≤ b) (hn : n ≠ 0) (hl : -1000000 ≤ n ∧ n ≤ 1000000) : byErr a b c n = 0 ∧ byLow a b c n = 1 ∧ byHigh a b c n = 0 ∧ byStr a b c n = 1 := by
  obtain ⟨e1, e2, e3⟩ := empty_of (c := c) hab
  have e0 : byErr0 a b c n = 0 := by unfold byErr0; rw [if_neg (by rw [chk_zero.2 hr]; simp), if_neg hn, if_pos hl]
  have eC : byC a b c n ≤ 0 := by
    unfold byC; rw [e3]
    by_cases h : n < 0
    · rw [if_pos h]
      have : (0 + -n - 1) / -n = 0 := Int.ediv_eq_zero_of_lt (by omega) (by omega)
      omega
    · rw [if_neg h]
      have : (0 + n - 1) / n = 0 := Int.ediv_eq_zero_of_lt (by omega) (by omega)
      omega
  simp only [byErr, byLow, byHigh, byStr, e0, ne_eq, not_true_eq_false, if_false, nErr, nLow, nHigh, nStr, if_pos eC, and_self]
theorem empty_is {a b c : Int} (hr : Right a b c) (hab : ¬ a ≤ b) : a = 1 ∧ b = 0 ∧ c = 1 := by rcases hr.2 with h | h | h <;> omega
/-- By of a right range is a right range. -/
theorem by_right {a b c n : Int} (hr : Right a b c) (hn : n ≠ 0) (hl : -1000000 ≤ n ∧ n ≤ 1000000) : byErr a b c n = 0 ∧ Right (byLow a b c n) (byHigh a b c n) (byStr a b c n) := by
  by_cases hab : a ≤ b
  · obtain ⟨p1, p2, p3, p4, p5, p6, p7, p8, p9, p10⟩ := parts hr hab
    obtain ⟨q1, q2, q3⟩ := by_closed hr hab hn hl
    have hlim := hr.1
    have hm : 1 ≤ absI n := by unfold absI; split <;> omega
    have hd := div_up (C := ofC a b c) (m := absI n) (by omega) (by omega)
    have m0 := mulle (x := 0) (y := absI n * ((ofC a b c - 1) / absI n)) p1 (by omega)
    have m1 := mulle (x := absI n * ((ofC a b c - 1) / absI n)) (y := ofC a b c - 1) p1 (by omega)
    rw [Int.mul_zero] at m0
    have hsm : 1 ≤ absI c * absI n := by have := mulle (x := 1) (y := absI n) p1 hm; rw [Int.mul_one] at this; omega
    refine ⟨q1, ?_⟩
    by_cases hs : (c < 0 ↔ n < 0)
    · obtain ⟨r1, r2, r3⟩ := q2 hs
      rw [r1, r2, r3, ← Int.mul_assoc]
      exact (rgU (F := a) (s := absI c * absI n) (q := (ofC a b c - 1) / absI n) hsm hd.2.1 (by omega) (by rw [Int.mul_assoc]; omega)).1
    · obtain ⟨r1, r2, r3⟩ := q3 hs
      rw [r1, r2, r3, ← Int.mul_assoc]
      exact (rgD (F := b) (s := absI c * absI n) (q := (ofC a b c - 1) / absI n) hsm hd.2.1 (by omega) (by rw [Int.mul_assoc]; omega)).1
  · obtain ⟨e1, e2, e3, e4⟩ := by_empty hr hab hn hl
    rw [e2, e3, e4]
    exact ⟨e1, ⟨by omega, .inl ⟨rfl, rfl, rfl⟩⟩⟩

/-- The opposite of the opposite. -/
theorem by_back {a b c : Int} (hr : Right a b c) : byLow (byLow a b c (-1)) (byHigh a b c (-1)) (byStr a b c (-1)) (-1) = a ∧ byHigh (byLow a b c (-1)) (byHigh a b c (-1)) (byStr a b c (-1)) (-1) = b ∧ byStr (byLow a b c (-1)) (byHigh a b c (-1)) (byStr a b c (-1)) (-1) = c := by
  have ab1 : absI (-1) = 1 := rfl
  by_cases hab : a ≤ b
  · obtain ⟨p1, p2, p3, p4, p5, p6, p7, p8, p9, p10⟩ := parts hr hab
    obtain ⟨q1, q2, q3⟩ := by_closed hr hab (n := -1) (by omega) (by omega)
    have hlim := hr.1
    rw [ab1, Int.ediv_one, Int.one_mul, Int.mul_one, p5] at q2 q3
    by_cases hc : c < 0
    · obtain ⟨r1, r2, r3⟩ := q2 (by omega)
      have hz : ¬ ofC a b c - 1 = 0 := fun h => by rw [h, Int.mul_zero] at p5; have := p9 hc; omega
      rw [if_neg hz] at r3
      rw [r1, r2, r3, show a + (b - a) = b by omega]
      obtain ⟨g1, g2, g3, g4⟩ := rgU (F := a) (s := absI c) (q := ofC a b c - 1) p1 (by omega) (by omega) (by omega)
      rw [if_neg hz, p5, show a + (b - a) = b by omega] at g1 g3
      rw [p5, show a + (b - a) = b by omega] at g2
      obtain ⟨t1, t2, t3⟩ := by_closed g1 g2 (n := -1) (by omega) (by omega)
      have hac : absI (absI c) = absI c := absI_pos (by omega)
      obtain ⟨u1, u2, u3⟩ := t3 (by omega)
      rw [u1, u2, u3, hac, g3, ab1, show ofC a b c - 1 + 1 - 1 = ofC a b c - 1 by omega, Int.ediv_one, Int.one_mul, Int.mul_one, p5, if_neg hz]
      have := absI_neg hc
      omega
    · obtain ⟨r1, r2, r3⟩ := q3 (by omega)
      rw [r1, r2, r3]
      obtain ⟨g1, g2, g3, g4⟩ := rgD (F := b) (s := absI c) (q := ofC a b c - 1) p1 (by omega) (by omega) (by omega)
      rw [p5] at g1 g2 g3
      have hcp := absI_pos hc
      by_cases hz : ofC a b c - 1 = 0
      · rw [if_pos hz] at g1 g3 ⊢
        rw [hz, Int.mul_zero] at p5
        obtain ⟨t1, t2, t3⟩ := by_closed g1 g2 (n := -1) (by omega) (by omega)
        obtain ⟨u1, u2, u3⟩ := t3 (by omega)
        have hz' : ofC (b - (b - a)) b 1 - 1 = 0 := by rw [g3]; omega
        rw [u1, u2, u3, ab1, hz']
        have h1 := p10 (by omega)
        refine ⟨by simp; omega, rfl, by simp; omega⟩
      · rw [if_neg hz] at g1 g3 ⊢
        obtain ⟨t1, t2, t3⟩ := by_closed g1 g2 (n := -1) (by omega) (by omega)
        have hac : absI (-absI c) = absI c := by rw [absI_neg (by omega)]; omega
        obtain ⟨u1, u2, u3⟩ := t2 (by omega)
        rw [u1, u2, u3, hac, g3, ab1, show ofC a b c - 1 + 1 - 1 = ofC a b c - 1 by omega, Int.ediv_one, Int.one_mul, Int.mul_one, p5, if_neg hz]
        omega
  · obtain ⟨e1, e2, e3, e4⟩ := by_empty hr hab (n := -1) (by omega) (by omega)
    obtain ⟨h1, h2, h3⟩ := empty_is hr hab
    subst h1; subst h2; subst h3
    rw [e2, e3, e4]
    exact ⟨e2, e3, e4⟩

/-- By of By is By of the product. -/
theorem by_by {a b c m n : Int} (hr : Right a b c) (hm : 0 < m) (hn : 0 < n) (hl : m ≤ 1000) (hl' : n ≤ 1000) :
    byLow (byLow a b c m) (byHigh a b c m) (byStr a b c m) n = byLow a b c (m * n) ∧ byHigh (byLow a b c m) (byHigh a b c m) (byStr a b c m) n = byHigh a b c (m * n) ∧ byStr (byLow a b c m) (byHigh a b c m) (byStr a b c m) n = byStr a b c (m * n) := by
  have hmn1 : 1 ≤ m * n := by have := mulle (s := m) (x := 1) (y := n) (by omega) (by omega); rw [Int.mul_one] at this; omega
  have hmn2 : m * n ≤ 1000000 := by
    have h1 := mulle (s := m) (x := n) (y := 1000) (by omega) hl'
    omega
  by_cases hab : a ≤ b
  · obtain ⟨p1, p2, p3, p4, p5, p6, p7, p8, p9, p10⟩ := parts hr hab
    obtain ⟨q1, q2, q3⟩ := by_closed hr hab (n := m) (by omega) (by omega)
    obtain ⟨w1, w2, w3⟩ := by_closed hr hab (n := m * n) (by omega) (by omega)
    have hlim := hr.1
    have am : absI m = m := absI_pos (by omega)
    have an : absI n = n := absI_pos (by omega)
    have amn : absI (m * n) = m * n := absI_pos (by omega)
    rw [am] at q2 q3
    rw [amn] at w2 w3
    have hdd : (ofC a b c - 1) / (m * n) = (ofC a b c - 1) / m / n := (Int.ediv_ediv_of_nonneg (by omega)).symm
    rw [hdd] at w2 w3
    obtain ⟨Q, hQ⟩ : ∃ Q, Q = (ofC a b c - 1) / m := ⟨_, rfl⟩
    have hd := div_up (C := ofC a b c) (m := m) (by omega) (by omega)
    rw [← hQ] at q2 q3 w2 w3 hd
    have hQ0 : 0 ≤ Q := hd.2.1
    have m0 := mulle (x := 0) (y := m * Q) p1 (by omega)
    have m1 := mulle (x := m * Q) (y := ofC a b c - 1) p1 (by omega)
    rw [Int.mul_zero] at m0
    have hsm : 1 ≤ absI c * m := by have := mulle (x := 1) (y := m) p1 (by omega); rw [Int.mul_one] at this; omega
    by_cases hc : c < 0
    · obtain ⟨r1, r2, r3⟩ := q3 (by omega)
      obtain ⟨x1, x2, x3⟩ := w3 (by omega)
      rw [r1, r2, r3, x1, x2, x3]
      obtain ⟨g1, g2, g3, g4⟩ := rgD (F := b) (s := absI c * m) (q := Q) hsm hQ0 (by omega) (by rw [Int.mul_assoc]; omega)
      rw [Int.mul_assoc] at g1 g2 g3
      obtain ⟨t1, t2, t3⟩ := by_closed g1 g2 (n := n) (by omega) (by omega)
      rw [an, g3, show Q + 1 - 1 = Q by omega] at t2 t3
      by_cases hz : Q = 0
      · subst hz
        simp only [if_true] at t2 t3 ⊢
        obtain ⟨u1, u2, u3⟩ := t2 (by omega)
        rw [u1, u2, u3]
        simp
      · rw [if_neg hz] at t2 t3 ⊢
        obtain ⟨u1, u2, u3⟩ := t3 (by omega)
        have hac : absI (-(absI c * m)) = absI c * m := by rw [absI_neg (by omega)]; omega
        rw [u1, u2, u3, hac]
        refine ⟨by rw [Int.mul_assoc, Int.mul_assoc m n], rfl, by rw [Int.mul_assoc]⟩
    · obtain ⟨r1, r2, r3⟩ := q2 (by omega)
      obtain ⟨x1, x2, x3⟩ := w2 (by omega)
      rw [r1, r2, r3, x1, x2, x3]
      obtain ⟨g1, g2, g3, g4⟩ := rgU (F := a) (s := absI c * m) (q := Q) hsm hQ0 (by omega) (by rw [Int.mul_assoc]; omega)
      rw [Int.mul_assoc] at g1 g2 g3
      obtain ⟨t1, t2, t3⟩ := by_closed g1 g2 (n := n) (by omega) (by omega)
      rw [an, g3, show Q + 1 - 1 = Q by omega] at t2 t3
      by_cases hz : Q = 0
      · subst hz
        simp only [if_true] at t2 t3 ⊢
        obtain ⟨u1, u2, u3⟩ := t2 (by omega)
        rw [u1, u2, u3]
        simp
      · rw [if_neg hz] at t2 t3 ⊢
        obtain ⟨u1, u2, u3⟩ := t2 (by omega)
        have hac : absI (absI c * m) = absI c * m := absI_pos (by omega)
        rw [u1, u2, u3, hac]
        refine ⟨rfl, by rw [Int.mul_assoc, Int.mul_assoc m n], by rw [Int.mul_assoc]⟩
  · obtain ⟨e1, e2, e3, e4⟩ := by_empty hr hab (n := m) (by omega) (by omega)
    obtain ⟨f1, f2, f3, f4⟩ := by_empty hr hab (n := m * n) (by omega) (by omega)
    rw [e2, e3, e4, f2, f3, f4]
    have h1 : Right 1 0 1 := ⟨by omega, .inl ⟨rfl, rfl, rfl⟩⟩
    exact (by_empty h1 (by omega) (n := n) (by omega) (by omega)).2

theorem cnt_ok {a b c n : Int} (hr : Right a b c) (h1 : n ≤ ofC a b c) (h2 : -ofC a b c ≤ n) : cntE a b c n = 0 := by
  unfold cntE; rw [if_neg (by rw [chk_zero.2 hr]; simp), if_neg (by omega)]
theorem cnt_zero {a b c : Int} (hr : Right a b c) : cntLow a b c 0 = 1 ∧ cntHigh a b c 0 = 0 ∧ cntStr a b c 0 = 1 := by
  have hb := ofC_bnd hr
  have e := cnt_ok (n := 0) hr (by omega) (by omega)
  simp [cntLow, cntHigh, cntStr, e]
/-- A part of a range: from one number to another. -/
theorem cnt_part {a b c n F0 T0 : Int} (hr : Right a b c) (hab : a ≤ b) (h1 : n ≤ ofC a b c) (h2 : -ofC a b c ≤ n) (hn : n ≠ 0) (hF : cntFrom a b c n = F0) (hT : cntTo a b c n = T0) (h0 : 0 ≤ F0) (hFT : F0 ≤ T0) (hTC : T0 < ofC a b c) (hone : (n = 1 ∨ n = -1) ↔ T0 - F0 = 0) :
    Right (cntLow a b c n) (cntHigh a b c n) (cntStr a b c n) ∧ ofC (cntLow a b c n) (cntHigh a b c n) (cntStr a b c n) = T0 - F0 + 1 ∧ ∀ j : Nat, (j : Int) ≤ T0 - F0 → num (cntLow a b c n) (cntHigh a b c n) (cntStr a b c n) j = num a b c (F0.toNat + j) := by
  obtain ⟨p1, p2, p3, p4, p5, p6, p7, p8, p9, p10⟩ := parts hr hab
  have hlim := hr.1
  have e := cnt_ok hr h1 h2
  have m0 := mulle (x := 0) (y := F0) p1 h0
  have m1 := mulle (x := F0) (y := T0) p1 hFT
  have m2 := mulle (x := T0) (y := ofC a b c - 1) p1 (by omega)
  rw [Int.mul_zero] at m0
  have ms : absI c * (T0 - F0) = absI c * T0 - absI c * F0 := Int.mul_sub _ _ _
  have hj : ∀ j : Nat, ((F0.toNat + j : Nat) : Int) = F0 + j := fun j => by omega
  by_cases hc : c < 0
  · have hcs : c = -absI c := by rw [absI_neg hc]; omega
    have eL : cntLow a b c n = (b - absI c * F0) - absI c * (T0 - F0) := by
      unfold cntLow; rw [e, hT]; simp only [ne_eq, not_true_eq_false, if_false, if_neg hn, if_pos hc]; omega
    have eH : cntHigh a b c n = b - absI c * F0 := by
      unfold cntHigh; rw [e, hF]; simp only [ne_eq, not_true_eq_false, if_false, if_neg hn, if_pos hc]
    have eS : cntStr a b c n = if T0 - F0 = 0 then 1 else -absI c := by
      unfold cntStr; rw [e]; simp only [ne_eq, not_true_eq_false, if_false, if_neg hn]
      by_cases h : T0 - F0 = 0
      · rw [if_pos (hone.2 h), if_pos h]
      · rw [if_neg (fun g => h (hone.1 g)), if_neg h]; exact hcs
    rw [eL, eH, eS]
    obtain ⟨g1, g2, g3, g4⟩ := rgD (F := b - absI c * F0) (s := absI c) (q := T0 - F0) p1 (by omega) (by omega) (by omega)
    refine ⟨g1, g3, fun j hjq => ?_⟩
    rw [g4 j hjq, num_eq hr hab, if_pos hc, hj, Int.mul_add]
    have e1 : c * F0 = -(absI c * F0) := by rw [absI_neg hc, Int.neg_mul, Int.neg_neg]
    have e2 : c * (j : Int) = -(absI c * (j : Int)) := by rw [absI_neg hc, Int.neg_mul, Int.neg_neg]
    omega
  · have hcs : absI c = c := absI_pos hc
    have eL : cntLow a b c n = a + absI c * F0 := by
      unfold cntLow; rw [e, hF]; simp only [ne_eq, not_true_eq_false, if_false, if_neg hn, if_neg hc]
    have eH : cntHigh a b c n = (a + absI c * F0) + absI c * (T0 - F0) := by
      unfold cntHigh; rw [e, hT]; simp only [ne_eq, not_true_eq_false, if_false, if_neg hn, if_neg hc]; omega
    have eS : cntStr a b c n = if T0 - F0 = 0 then 1 else absI c := by
      unfold cntStr; rw [e]; simp only [ne_eq, not_true_eq_false, if_false, if_neg hn]
      by_cases h : T0 - F0 = 0
      · rw [if_pos (hone.2 h), if_pos h]
      · rw [if_neg (fun g => h (hone.1 g)), if_neg h]; exact hcs.symm
    rw [eL, eH, eS]
    obtain ⟨g1, g2, g3, g4⟩ := rgU (F := a + absI c * F0) (s := absI c) (q := T0 - F0) p1 (by omega) (by omega) (by omega)
    refine ⟨g1, g3, fun j hjq => ?_⟩
    rw [g4 j hjq, num_eq hr hab, if_neg hc, hj, Int.mul_add, hcs]
    omega

/-- The first numbers of a right range, and the others, are all. -/
theorem count_cat {a b c i : Int} (hr : Right a b c) (h0 : 0 ≤ i) (hi : i ≤ ofC a b c) :
    cntE a b c i = 0 ∧ cntE a b c (i - ofC a b c) = 0 ∧ Right (cntLow a b c i) (cntHigh a b c i) (cntStr a b c i) ∧ Right (cntLow a b c (i - ofC a b c)) (cntHigh a b c (i - ofC a b c)) (cntStr a b c (i - ofC a b c)) ∧
    ofC (cntLow a b c i) (cntHigh a b c i) (cntStr a b c i) = i ∧ ofC (cntLow a b c (i - ofC a b c)) (cntHigh a b c (i - ofC a b c)) (cntStr a b c (i - ofC a b c)) = ofC a b c - i ∧
    (∀ j : Nat, (j : Int) < i → num (cntLow a b c i) (cntHigh a b c i) (cntStr a b c i) j = num a b c j) ∧
    (∀ j : Nat, i + (j : Int) < ofC a b c → num (cntLow a b c (i - ofC a b c)) (cntHigh a b c (i - ofC a b c)) (cntStr a b c (i - ofC a b c)) j = num a b c (i.toNat + j)) := by
  have hb := ofC_bnd hr
  have hR0 : Right 1 0 1 := ⟨by omega, .inl ⟨rfl, rfl, rfl⟩⟩
  have hC0 : ofC 1 0 1 = 0 := rfl
  refine ⟨cnt_ok hr hi (by omega), cnt_ok hr (by omega) (by omega), ?_⟩
  have first : Right (cntLow a b c i) (cntHigh a b c i) (cntStr a b c i) ∧ ofC (cntLow a b c i) (cntHigh a b c i) (cntStr a b c i) = i ∧ (∀ j : Nat, (j : Int) < i → num (cntLow a b c i) (cntHigh a b c i) (cntStr a b c i) j = num a b c j) := by
    by_cases hz : i = 0
    · subst hz
      obtain ⟨z1, z2, z3⟩ := cnt_zero hr
      rw [z1, z2, z3]
      exact ⟨hR0, hC0, fun j hj => by omega⟩
    · have hab : a ≤ b := by
        by_cases hab : a ≤ b
        · exact hab
        · have := empty_of (c := c) hab; omega
      obtain ⟨g1, g2, g3⟩ := cnt_part (n := i) (F0 := 0) (T0 := i - 1) hr hab hi (by omega) hz (by unfold cntFrom; rw [if_neg (by omega)]) (by unfold cntTo; rw [if_neg (by omega)]) (by omega) (by omega) (by omega) (by omega)
      exact ⟨g1, by omega, fun j hj => by rw [g3 j (by omega)]; congr 1; simp⟩
  have last : Right (cntLow a b c (i - ofC a b c)) (cntHigh a b c (i - ofC a b c)) (cntStr a b c (i - ofC a b c)) ∧ ofC (cntLow a b c (i - ofC a b c)) (cntHigh a b c (i - ofC a b c)) (cntStr a b c (i - ofC a b c)) = ofC a b c - i ∧
      (∀ j : Nat, i + (j : Int) < ofC a b c → num (cntLow a b c (i - ofC a b c)) (cntHigh a b c (i - ofC a b c)) (cntStr a b c (i - ofC a b c)) j = num a b c (i.toNat + j)) := by
    by_cases hz : i = ofC a b c
    · rw [show i - ofC a b c = 0 by omega]
      obtain ⟨z1, z2, z3⟩ := cnt_zero hr
      rw [z1, z2, z3]
      exact ⟨hR0, by rw [hC0]; omega, fun j hj => by omega⟩
    · have hab : a ≤ b := by
        by_cases hab : a ≤ b
        · exact hab
        · have := empty_of (c := c) hab; omega
      obtain ⟨g1, g2, g3⟩ := cnt_part (n := i - ofC a b c) (F0 := i) (T0 := ofC a b c - 1) hr hab (by omega) (by omega) (by omega) (by unfold cntFrom; rw [if_pos (by omega)]; omega) (by unfold cntTo; rw [if_pos (by omega)]) (by omega) (by omega) (by omega) (by omega)
      exact ⟨g1, by omega, fun j hj => g3 j (by omega)⟩
  exact ⟨first.1, last.1, first.2.1, last.2.1, first.2.2, last.2.2⟩
end Go.RX.Span
