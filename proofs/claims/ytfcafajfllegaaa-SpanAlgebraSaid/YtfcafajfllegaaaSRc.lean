/- The numbers that two series have both, in plain Lean: what the program reckons has just these. -/
import Derived.Test.YtfcafajfllegaaaSRa
import Derived.Test.YtfcafajfllegaaaSPb
set_option linter.unusedVariables false
set_option linter.unusedSimpArgs false
namespace Go.RX.Span
open Go Go.RX

def cmM (t g : Int) : Int := t.tdiv g
def cmK (A B g m x : Int) : Int := (((B - A).tdiv g).tmod m * x.tmod m).tmod m
/-- The least number from low on that is f off some steps. -/
def cmUp (f low y : Int) : Int := if f < low then (if (low - f).tmod y > 0 then low + (y - (low - f).tmod y) else low) else f - (f - low).tdiv y * y

theorem cmUp_spec {f low y : Int} (hy : 1 ≤ y) : low ≤ cmUp f low y ∧ cmUp f low y < low + y ∧ ∃ p, cmUp f low y = f + y * p := by
  unfold cmUp
  by_cases h : f < low
  · rw [if_pos h]
    have h1 := Int.tmod_eq_emod_of_nonneg (b := y) (show 0 ≤ low - f by omega)
    have h2 := Int.mul_ediv_add_emod (low - f) y
    have h3 := Int.emod_nonneg (low - f) (show y ≠ 0 by omega)
    have h4 := Int.emod_lt_of_pos (low - f) (show 0 < y by omega)
    rw [h1]
    by_cases hd : (low - f) % y > 0
    · rw [if_pos hd]
      refine ⟨by omega, by omega, (low - f) / y + 1, ?_⟩
      rw [Int.mul_add, Int.mul_one]; omega
    · rw [if_neg hd]
      exact ⟨by omega, by omega, (low - f) / y, by omega⟩
  · rw [if_neg h]
    have h1 := Int.tdiv_eq_ediv_of_nonneg (b := y) (show 0 ≤ f - low by omega)
    have h2 := Int.mul_ediv_add_emod (f - low) y
    have h3 := Int.emod_nonneg (f - low) (show y ≠ 0 by omega)
    have h4 := Int.emod_lt_of_pos (f - low) (show 0 < y by omega)
    rw [h1, Int.mul_comm]
    refine ⟨by omega, by omega, -((f - low) / y), ?_⟩
    rw [Int.mul_neg]; omega

theorem cm_first {s t g x A B s' m Q u : Int} (h1 : s = g * s') (h2 : t = g * m) (h3 : g = s * x + t * u) (h4 : B - A = g * Q) (hg : 1 ≤ g) (hm : 1 ≤ m) :
    ∃ q, A + s * cmK A B g m x = B + t * q := by
  have e1 : (B - A).tdiv g = Q := by rw [h4]; exact Int.mul_tdiv_cancel_left _ (by omega)
  unfold cmK
  rw [e1]
  have d1 := Int.tmod_def Q m
  have d2 := Int.tmod_def x m
  have d3 := Int.tmod_def (Q.tmod m * x.tmod m) m
  generalize Q.tmod m = Q1 at *
  generalize x.tmod m = x1 at *
  generalize (Q1 * x1).tmod m = K at *
  generalize Q.tdiv m = i at *
  generalize x.tdiv m = j at *
  generalize (Q1 * x1).tdiv m = l at *
  exact ⟨s' * (-(Q * j) - i * x + m * i * j - l) - Q * u, by subst d1; subst d2; grind⟩

/-- A number is in both progressions just if it is so many steps off the first one. -/
theorem cm_both {s t g x A B s' m u f n : Int} (h1 : s = g * s') (h2 : t = g * m) (h3 : g = s * x + t * u) (hg : 1 ≤ g) (hfa : ∃ p, f = A + s * p) (hfb : ∃ q, f = B + t * q) :
    ((∃ p, n = A + s * p) ∧ ∃ q, n = B + t * q) ↔ ∃ p, n = f + s * m * p := by
  obtain ⟨p0, hp0⟩ := hfa
  obtain ⟨q0, hq0⟩ := hfb
  constructor
  · rintro ⟨⟨p, hp⟩, q, hq⟩
    have hb : 1 = s' * x + m * u := by
      have : g * 1 = g * (s' * x + m * u) := by rw [Int.mul_one]; grind
      exact Int.eq_of_mul_eq_mul_left (by omega) this
    have hd : s * (p - p0) = t * (q - q0) := by grind
    have hd' : s' * (p - p0) = m * (q - q0) := by
      have : g * (s' * (p - p0)) = g * (m * (q - q0)) := by grind
      exact Int.eq_of_mul_eq_mul_left (by omega) this
    refine ⟨(q - q0) * x + u * (p - p0), ?_⟩
    have : p - p0 = m * ((q - q0) * x + u * (p - p0)) := by grind
    grind
  · rintro ⟨p, hp⟩
    exact ⟨⟨p0 + m * p, by grind⟩, q0 + s' * p, by grind⟩

/-- Where the firsts are no multiple of the divisor apart there is none. -/
theorem cm_none {s t g s' m A B n : Int} (h1 : s = g * s') (h2 : t = g * m) (hn : (B - A).tmod g ≠ 0) : ¬ ((∃ p, n = A + s * p) ∧ ∃ q, n = B + t * q) := by
  rintro ⟨⟨p, hp⟩, q, hq⟩
  apply hn
  have : B - A = g * (s' * p - m * q) := by grind
  rw [this]
  exact Int.mul_tmod_right _ _

/-- What lies in a progression and from low to high: so many steps off the least. -/
theorem cm_clamp {f low high y n : Int} (hy : 1 ≤ y) : ((∃ p, n = f + y * p) ∧ low ≤ n ∧ n ≤ high) ↔ (cmUp f low y ≤ n ∧ n ≤ high ∧ ∃ p, n = cmUp f low y + y * p) := by
  obtain ⟨h1, h2, p0, h3⟩ := cmUp_spec (f := f) (low := low) hy
  constructor
  · rintro ⟨⟨p, hp⟩, hl, hh⟩
    have he : n = cmUp f low y + y * (p - p0) := by rw [h3, Int.mul_sub]; omega
    refine ⟨?_, hh, p - p0, he⟩
    rcases Int.lt_or_le (p - p0) 0 with hneg | hpos
    · have := Int.mul_le_mul_of_nonneg_left (show p - p0 ≤ -1 by omega) (show (0 : Int) ≤ y by omega)
      omega
    · have := Int.mul_le_mul_of_nonneg_left hpos (show (0 : Int) ≤ y by omega)
      omega
  · rintro ⟨hl, hh, p, hp⟩
    exact ⟨⟨p0 + p, by rw [hp, h3, Int.mul_add]; omega⟩, by omega, hh⟩

/-- The divisor and the factor that the program finds. -/
theorem eu_facts {s t : Int} (hs : 1 ≤ s) (ht : 1 ≤ t) : 1 ≤ euG s t ∧ ((euX s t).natAbs : Int) ≤ t ∧ ∃ s' m u, s = euG s t * s' ∧ t = euG s t * m ∧ 1 ≤ s' ∧ 1 ≤ m ∧ m ≤ t ∧ s' ≤ s ∧ euG s t = s * euX s t + t * u ∧ cmM t (euG s t) = m := by
  obtain ⟨h1, ⟨u, hu⟩, h3⟩ := eu_spec (a := s) (b := t) (by omega) (by omega)
  have hpos : 1 ≤ euG s t := by
    rw [h1]
    have : 0 < Int.gcd s t := Int.gcd_pos_of_ne_zero_left t (by omega)
    omega
  obtain ⟨s', hs'⟩ : euG s t ∣ s := by rw [h1]; exact Int.gcd_dvd_left s t
  obtain ⟨m, hm⟩ : euG s t ∣ t := by rw [h1]; exact Int.gcd_dvd_right s t
  generalize euG s t = g at *
  have hs1 : 1 ≤ s' := by
    rcases Int.lt_or_le 0 s' with h | h
    · omega
    · have := Int.mul_le_mul_of_nonneg_left h (show (0 : Int) ≤ g by omega); omega
  have hm1 : 1 ≤ m := by
    rcases Int.lt_or_le 0 m with h | h
    · omega
    · have := Int.mul_le_mul_of_nonneg_left h (show (0 : Int) ≤ g by omega); omega
  have h5 := Int.mul_le_mul_of_nonneg_right hpos (show (0 : Int) ≤ m by omega)
  have h6 := Int.mul_le_mul_of_nonneg_right hpos (show (0 : Int) ≤ s' by omega)
  refine ⟨hpos, by omega, s', m, u, hs', hm, hs1, hm1, by omega, by omega, hu, ?_⟩
  unfold cmM
  have : (g * m).tdiv g = m := Int.mul_tdiv_cancel_left _ (by omega)
  rw [← hm] at this
  exact this

def cmF0 (A s B t : Int) : Int := A + s * cmK A B (euG s t) (cmM t (euG s t)) (euX s t)
def cmY (s t : Int) : Int := s * cmM t (euG s t)
def cmHi (A s C B t D : Int) : Int := min (sLast A s C) (sLast B t D)
def cmV (A s B t : Int) : Int := cmUp (cmF0 A s B t) (max A B) (cmY s t)
def cmE (A s C B t D : Int) : Bool := decide (C = 0 ∨ D = 0 ∨ (B - A).tmod (euG s t) ≠ 0 ∨ cmHi A s C B t D < cmV A s B t)
def cmFst (A s C B t D : Int) : Int := if cmE A s C B t D = true then 0 else cmV A s B t
def cmBy (A s C B t D : Int) : Int := if cmE A s C B t D = true then 0 else cmY s t
def cmCnt (A s C B t D : Int) : Int := if cmE A s C B t D = true then 0 else (cmHi A s C B t D - cmV A s B t).tdiv (cmY s t) + 1
/-- A series upwards that lies in the limits, or nothing. -/
def Ser (A s C : Int) : Prop := C = 0 ∨ (1 ≤ C ∧ C ≤ 2000001 ∧ 1 ≤ s ∧ s ≤ 2000000 ∧ -1000000 ≤ A ∧ A + s * (C - 1) ≤ 1000000)
end Go.RX.Span
