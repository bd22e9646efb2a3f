/- Ranges: Hull as a set, in plain Lean. -/
import Derived.Test.YtfcafajfllegaaaSRi
set_option linter.unusedVariables false
set_option linter.unusedSimpArgs false
namespace Go.RX.Span
open Go Go.RX

theorem huD_dvd {A B d : Int} : d ∣ huD A B ↔ d ∣ A - B := by
  unfold huD
  rcases Int.le_total (A - B) (B - A) with h | h
  · rw [Int.max_eq_right h, show A - B = -(B - A) by omega]
    exact Int.dvd_neg.symm
  · rw [Int.max_eq_left h]
theorem hu2_spec {A s C B t D : Int} (hs : 1 ≤ s) (ht : 1 ≤ t) : 0 ≤ hu2 A s C B t D ∧ hu2 A s C B t D ∣ A - B ∧ (C > 1 → hu2 A s C B t D ∣ s) ∧ (D > 1 → hu2 A s C B t D ∣ t) ∧
    ∀ d : Int, d ∣ A - B → (C > 1 → d ∣ s) → (D > 1 → d ∣ t) → d ∣ hu2 A s C B t D := by
  have hD0 : 0 ≤ huD A B := by unfold huD; omega
  have h1 : 0 ≤ hu1 A s C B ∧ hu1 A s C B ∣ A - B ∧ (C > 1 → hu1 A s C B ∣ s) ∧ ∀ d : Int, d ∣ A - B → (C > 1 → d ∣ s) → d ∣ hu1 A s C B := by
    unfold hu1
    by_cases hC : C > 1
    · rw [if_pos hC]
      obtain ⟨g1, g2, g3, g4, g5⟩ := eu_le hD0 hs
      exact ⟨by omega, huD_dvd.1 g3, fun _ => g4, fun d h1 h2 => g5 d (huD_dvd.2 h1) (h2 hC)⟩
    · rw [if_neg hC]
      exact ⟨hD0, huD_dvd.1 (Int.dvd_refl _), fun h => absurd h hC, fun d h1 _ => huD_dvd.2 h1⟩
  obtain ⟨a1, a2, a3, a4⟩ := h1
  unfold hu2
  by_cases hD : D > 1
  · rw [if_pos hD]
    obtain ⟨g1, g2, g3, g4, g5⟩ := eu_le a1 ht
    exact ⟨by omega, Int.dvd_trans g3 a2, fun h => Int.dvd_trans g3 (a3 h), fun _ => g4, fun d h1 h2 h3 => g5 d (a4 d h1 h2) (h3 hD)⟩
  · rw [if_neg hD]
    exact ⟨a1, a2, a3, fun h => absurd h hD, fun d h1 h2 _ => a4 d h1 h2⟩

/-- The hull of two series: it has both, and each other series that has both has it. -/
theorem hu_set {A s C B t D : Int} (hA : Ser A s C) (hB : Ser B t D) : Sw (huF A s C B t D) (huB A s C B t D) (huC A s C B t D) ∧
    (∀ n, SIn A s C n → SIn (huF A s C B t D) (huB A s C B t D) (huC A s C B t D) n) ∧ (∀ n, SIn B t D n → SIn (huF A s C B t D) (huB A s C B t D) (huC A s C B t D) n) ∧
    ∀ P u M, (∀ n, SIn A s C n → SIn P u M n) → (∀ n, SIn B t D n → SIn P u M n) → ∀ n, SIn (huF A s C B t D) (huB A s C B t D) (huC A s C B t D) n → SIn P u M n := by
  by_cases hC : C = 0
  · simp only [huF, huB, huC, if_pos hC]
    exact ⟨hB.sw, fun n h => by have := h.2.2.1; omega, fun n h => h, fun P u M _ h => h⟩
  by_cases hD : D = 0
  · simp only [huF, huB, huC, if_neg hC, if_pos hD]
    exact ⟨hA.sw, fun n h => h, fun n h => by have := h.2.2.1; omega, fun P u M h _ => h⟩
  obtain ⟨a1, a2, a3, a4, a5, a6⟩ := hA.resolve_left hC
  obtain ⟨b1, b2, b3, b4, b5, b6⟩ := hB.resolve_left hD
  have hA1 := mulle (x := 0) (y := C - 1) a3 (by omega)
  have hB1 := mulle (x := 0) (y := D - 1) b3 (by omega)
  rw [Int.mul_zero] at hA1 hB1
  obtain ⟨g0, g1, g2, g3, g4⟩ := hu2_spec (A := A) (s := s) (C := C) (B := B) (t := t) (D := D) a3 b3
  simp only [huF, huB, huC, if_neg hC, if_neg hD]
  generalize hu2 A s C B t D = g at *
  by_cases hz : g = 0
  · subst hz
    have hAB : A - B = 0 := Int.zero_dvd.1 g1
    have hC1 : C = 1 := by
      rcases Int.lt_or_le 1 C with h | h
      · have := Int.zero_dvd.1 (g2 h); omega
      · omega
    have hD1 : D = 1 := by
      rcases Int.lt_or_le 1 D with h | h
      · have := Int.zero_dvd.1 (g3 h); omega
      · omega
    subst hC1; subst hD1
    obtain rfl : A = B := by omega
    simp only [if_true, Int.min_self]
    exact ⟨.inr ⟨by omega, by omega, by omega, by omega, by omega⟩, fun n h => sIn_one.1 h, fun n h => sIn_one.1 h, fun P u M h _ n hn => h n (sIn_one.1 hn)⟩
  · simp only [if_neg hz]
    have hg : 1 ≤ g := by omega
    have dA : g ∣ s * (C - 1) := by
      rcases Int.lt_or_le 1 C with h | h
      · exact Int.dvd_trans (g2 h) (Int.dvd_mul_right s _)
      · rw [show C - 1 = 0 by omega, Int.mul_zero]; exact Int.dvd_zero _
    have dB : g ∣ t * (D - 1) := by
      rcases Int.lt_or_le 1 D with h | h
      · exact Int.dvd_trans (g3 h) (Int.dvd_mul_right t _)
      · rw [show D - 1 = 0 by omega, Int.mul_zero]; exact Int.dvd_zero _
    have hX : huX A s C B t D = max (A + s * (C - 1)) (B + t * (D - 1)) := rfl
    obtain ⟨i, hi⟩ := dA
    obtain ⟨j, hj⟩ := dB
    obtain ⟨k, hk⟩ := g1
    have dX : ∃ w, huX A s C B t D - min A B = g * w := by
      rw [hX]
      rcases Int.le_total A B with h | h
      · rw [Int.min_eq_left h]
        rcases Int.le_total (A + s * (C - 1)) (B + t * (D - 1)) with h' | h'
        · rw [Int.max_eq_right h']; exact ⟨j - k, by rw [Int.mul_sub g j k]; omega⟩
        · rw [Int.max_eq_left h']; exact ⟨i, by omega⟩
      · rw [Int.min_eq_right h]
        rcases Int.le_total (A + s * (C - 1)) (B + t * (D - 1)) with h' | h'
        · rw [Int.max_eq_right h']; exact ⟨j, by omega⟩
        · rw [Int.max_eq_left h']; exact ⟨i + k, by rw [Int.mul_add g i k]; omega⟩
    obtain ⟨w, hw⟩ := dX
    have hq : (huX A s C B t D - min A B).tdiv g = w := by rw [hw]; exact Int.mul_tdiv_cancel_left _ (by omega)
    rw [hq]
    have hw0 : 0 ≤ w := by
      rcases Int.lt_or_le w 0 with h | h
      · have := Int.mul_le_mul_of_nonneg_left (show w ≤ -1 by omega) (show (0 : Int) ≤ g by omega); omega
      · exact h
    have hgs : g ≤ 4000000000000 := by
      rcases Int.lt_or_le 1 C with h | h
      · have := Int.le_of_dvd (by omega) (g2 h); omega
      · rcases Int.lt_or_le 1 D with h' | h'
        · have := Int.le_of_dvd (by omega) (g3 h'); omega
        · by_cases hAB : A - B = 0
          · have := g4 0 (by rw [hAB]; exact Int.dvd_refl _) (fun h => by omega) (fun h => by omega)
            exact absurd (Int.zero_dvd.1 this) hz
          · rcases Int.lt_or_le 0 (A - B) with h3 | h3
            · have := Int.le_of_dvd h3 ⟨k, hk⟩; omega
            · have := Int.le_of_dvd (show 0 < B - A by omega) (show g ∣ B - A from ⟨-k, by rw [Int.mul_neg]; omega⟩); omega
    have mA : ∀ n, SIn A s C n → ∃ p, n = min A B + g * p := by
      rintro n ⟨x1, x2, x3, p, hp⟩
      have hd : ∃ v, s * p = g * v := by
        rcases Int.lt_or_le 1 C with h | h
        · obtain ⟨v, hv⟩ := g2 h; exact ⟨v * p, by rw [hv, Int.mul_assoc]⟩
        · have : s * (C - 1) = 0 := by rw [show C - 1 = 0 by omega, Int.mul_zero]
          exact ⟨0, by omega⟩
      obtain ⟨v, hv⟩ := hd
      rcases Int.le_total A B with h | h
      · rw [Int.min_eq_left h]; exact ⟨v, by omega⟩
      · rw [Int.min_eq_right h]; exact ⟨v + k, by rw [Int.mul_add]; omega⟩
    have mB : ∀ n, SIn B t D n → ∃ p, n = min A B + g * p := by
      rintro n ⟨x1, x2, x3, p, hp⟩
      have hd : ∃ v, t * p = g * v := by
        rcases Int.lt_or_le 1 D with h | h
        · obtain ⟨v, hv⟩ := g3 h; exact ⟨v * p, by rw [hv, Int.mul_assoc]⟩
        · have : t * (D - 1) = 0 := by rw [show D - 1 = 0 by omega, Int.mul_zero]
          exact ⟨0, by omega⟩
      obtain ⟨v, hv⟩ := hd
      rcases Int.le_total A B with h | h
      · rw [Int.min_eq_left h]; exact ⟨v - k, by rw [Int.mul_sub]; omega⟩
      · rw [Int.min_eq_right h]; exact ⟨v, by omega⟩
    refine ⟨.inr ⟨by omega, hg, hgs, by omega, by rw [show w + 1 - 1 = w by omega]; omega⟩, fun n hn => ?_, fun n hn => ?_, fun P u M hp hq' n hn => ?_⟩
    · exact ⟨by have := hn.1; omega, by have := hn.2.1; rw [show w + 1 - 1 = w by omega]; omega, by omega, mA n hn⟩
    · exact ⟨by have := hn.1; omega, by have := hn.2.1; rw [show w + 1 - 1 = w by omega]; omega, by omega, mB n hn⟩
    · obtain ⟨x1, x2, x3, p, hpn⟩ := hn
      rw [show w + 1 - 1 = w by omega] at x2
      obtain ⟨y1, y2, y3, i1, e1⟩ := hp A (sIn_first a3 a1)
      obtain ⟨_, y2', _, _⟩ := hp _ (sIn_last a3 a1)
      obtain ⟨z1, z2, z3, j1, e2⟩ := hq' B (sIn_first b3 b1)
      obtain ⟨_, z2', _, _⟩ := hq' _ (sIn_last b3 b1)
      have hu : u ∣ g := by
        refine g4 u ⟨i1 - j1, by rw [Int.mul_sub]; omega⟩ (fun h => ?_) (fun h => ?_)
        · obtain ⟨_, _, _, i2, e3⟩ := hp _ (sIn_second a3 (by omega : 2 ≤ C))
          exact ⟨i2 - i1, by rw [Int.mul_sub]; omega⟩
        · obtain ⟨_, _, _, j2, e4⟩ := hq' _ (sIn_second b3 (by omega : 2 ≤ D))
          exact ⟨j2 - j1, by rw [Int.mul_sub]; omega⟩
      obtain ⟨v, hv⟩ := hu
      refine ⟨by omega, by omega, y3, ?_⟩
      have hvp : g * p = u * (v * p) := by rw [hv, Int.mul_assoc]
      rcases Int.le_total A B with h | h
      · rw [Int.min_eq_left h] at hpn; exact ⟨i1 + v * p, by rw [Int.mul_add]; omega⟩
      · rw [Int.min_eq_right h] at hpn; exact ⟨j1 + v * p, by rw [Int.mul_add]; omega⟩

theorem hl_set {a b c x y z : Int} (h : Right a b c) (h' : Right x y z) : hlE a b c x y z = 0 ∧ Right (hlL a b c x y z) (hlH a b c x y z) (hlS a b c x y z) ∧
    (∀ n, RIn a b c n → RIn (hlL a b c x y z) (hlH a b c x y z) (hlS a b c x y z) n) ∧ (∀ n, RIn x y z n → RIn (hlL a b c x y z) (hlH a b c x y z) (hlS a b c x y z) n) ∧
    ∀ p q r, (∀ n, RIn a b c n → RIn p q r n) → (∀ n, RIn x y z n → RIn p q r n) → ∀ n, RIn (hlL a b c x y z) (hlH a b c x y z) (hlS a b c x y z) n → RIn p q r n := by
  have hn : ¬ ckd a b c x y z ≠ 0 := by simp [ckd_zero h h']
  simp only [hlE, hlL, hlH, hlS, if_neg hn]
  obtain ⟨w1, w2, w3, w4⟩ := hu_set (up_ser h) (up_ser h')
  obtain ⟨m1, m2, m3⟩ := mv_set (c := 0) w1
  simp only [kF, kB, Int.lt_irrefl, if_false] at m1 m2 m3
  exact ⟨m1, m2, fun n hn => (m3 n).2 (w2 n hn), fun n hn => (m3 n).2 (w3 n hn), fun p q r k1 k2 n hn => w4 _ _ _ k1 k2 n ((m3 n).1 hn)⟩
end Go.RX.Span
