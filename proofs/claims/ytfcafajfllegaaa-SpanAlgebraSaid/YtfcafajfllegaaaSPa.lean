/- Ranges: what the functions of layer 1 return, in plain Lean. -/
import Derived.Test.YtfcafajfllegaaaRXo
set_option linter.unusedVariables false
namespace Go.RX.Span
open Go Go.RX

def lim (n : Int) : Bool := decide (-1000000 ≤ n) && decide (n ≤ 1000000)
theorem lim_t {n : Int} : (lim n = true) = (-1000000 ≤ n ∧ n ≤ 1000000) := by unfold lim; simp
theorem lim_f {n : Int} : (lim n = false) = (n < -1000000 ∨ 1000000 < n) := by unfold lim; simp; omega

/-- The error of a range: none, 2 (its form), 4 (a number out of the limits). -/
def chk (a b c : Int) : Int :=
  if (a = 1 ∧ b = 0 ∧ c = 1) ∨ (a = b ∧ c = 1) ∨ (a < b ∧ c ≠ 0 ∧ (b - a) % c = 0) then
    if (-1000000 ≤ a ∧ a ≤ 1000000) ∧ (-1000000 ≤ b ∧ b ≤ 1000000) then 0 else 4
  else 2

/-- What a right range is. -/
def Right (a b c : Int) : Prop :=
  (-1000000 ≤ a ∧ a ≤ 1000000 ∧ -1000000 ≤ b ∧ b ≤ 1000000) ∧ ((a = 1 ∧ b = 0 ∧ c = 1) ∨ (a = b ∧ c = 1) ∨ (a < b ∧ c ≠ 0 ∧ (b - a) % c = 0))
theorem chk_zero {a b c : Int} : chk a b c = 0 ↔ Right a b c := by
  unfold chk Right
  by_cases h1 : (a = 1 ∧ b = 0 ∧ c = 1) ∨ (a = b ∧ c = 1) ∨ (a < b ∧ c ≠ 0 ∧ (b - a) % c = 0)
  · rw [if_pos h1]
    by_cases h2 : (-1000000 ≤ a ∧ a ≤ 1000000) ∧ (-1000000 ≤ b ∧ b ≤ 1000000)
    · rw [if_pos h2]; exact ⟨fun _ => ⟨⟨h2.1.1, h2.1.2, h2.2.1, h2.2.2⟩, h1⟩, fun _ => rfl⟩
    · rw [if_neg h2]; exact ⟨fun h => by omega, fun h => absurd ⟨⟨h.1.1, h.1.2.1⟩, h.1.2.2⟩ h2⟩
  · rw [if_neg h1]; exact ⟨fun h => by omega, fun h => absurd h.2 h1⟩

def sLast (a b c : Int) : Int := a + b * (c - 1)
def ofF (a b c : Int) : Int := if a > b then 0 else if c < 0 then b else a
def ofB (a b c : Int) : Int := if a > b then 0 else c
def ofC (a b c : Int) : Int := if a > b then 0 else if c < 0 then (b - a) / (-c) + 1 else (b - a) / c + 1

/-- A series made normal. -/
def nErr (a b c : Int) : Int := if c ≤ 0 then 0 else if (-1000000 ≤ a ∧ a ≤ 1000000) ∧ (-1000000 ≤ sLast a b c ∧ sLast a b c ≤ 1000000) then 0 else 4
def nLow (a b c : Int) : Int := if c ≤ 0 then 1 else if nErr a b c = 0 then min a (sLast a b c) else 0
def nHigh (a b c : Int) : Int := if c ≤ 0 then 0 else if nErr a b c = 0 then max a (sLast a b c) else 0
def nStr (a b c : Int) : Int := if c ≤ 0 then 1 else if nErr a b c = 0 then (if c = 1 then 1 else b) else 0

def tF (a b c : Int) : Int := if c = 0 then a else sLast a b c
def tB (a b c : Int) : Int := if c = 0 then b else -b

def size (a b c : Int) : Int := if chk a b c = 0 then ofC a b c else 0
def nthE (a b c k : Int) : Int := if chk a b c ≠ 0 then chk a b c else if k < 0 ∨ k ≥ ofC a b c then 4 else 0
def nth (a b c k : Int) : Int := if nthE a b c k ≠ 0 then 0 else ofF a b c + ofB a b c * k
def has (a b c n : Int) : Bool := decide (chk a b c = 0 ∧ a ≤ n ∧ n ≤ b ∧ (n - a) % c = 0)
def pos (a b c n : Int) : Int := if has a b c n = true then (if c < 0 then (b - n) / (-c) else (n - a) / c) else 0

def ofErr (l h s : Int) : Int := if s = 0 then 1 else if (-1000000 ≤ l ∧ l ≤ 1000000) ∧ (-1000000 ≤ h ∧ h ≤ 1000000) ∧ (-1000000 ≤ s ∧ s ≤ 1000000) then 0 else 4
def ofLow (l h s : Int) : Int := if ofErr l h s ≠ 0 then 0 else if l > h then 1 else if s < 0 then h - (h - l) / (-s) * (-s) else l
def ofHigh (l h s : Int) : Int := if ofErr l h s ≠ 0 then 0 else if l > h then 0 else if s < 0 then h else l + (h - l) / s * s
def ofStr (l h s : Int) : Int := if ofErr l h s ≠ 0 then 0 else if l > h then 1 else if ofLow l h s = ofHigh l h s then 1 else s
def byErr0 (a b c n : Int) : Int := if chk a b c ≠ 0 then chk a b c else if n = 0 then 1 else if -1000000 ≤ n ∧ n ≤ 1000000 then 0 else 4
def byF (a b c n : Int) : Int := if n < 0 then tF (ofF a b c) (ofB a b c) (ofC a b c) else ofF a b c
def byB (a b c n : Int) : Int := if n < 0 then tB (ofF a b c) (ofB a b c) (ofC a b c) * (-n) else ofB a b c * n
def byC (a b c n : Int) : Int := if n < 0 then (ofC a b c + (-n) - 1) / (-n) else (ofC a b c + n - 1) / n
def byErr (a b c n : Int) : Int := if byErr0 a b c n ≠ 0 then byErr0 a b c n else nErr (byF a b c n) (byB a b c n) (byC a b c n)
def byLow (a b c n : Int) : Int := if byErr0 a b c n ≠ 0 then 0 else nLow (byF a b c n) (byB a b c n) (byC a b c n)
def byHigh (a b c n : Int) : Int := if byErr0 a b c n ≠ 0 then 0 else nHigh (byF a b c n) (byB a b c n) (byC a b c n)
def byStr (a b c n : Int) : Int := if byErr0 a b c n ≠ 0 then 0 else nStr (byF a b c n) (byB a b c n) (byC a b c n)
def isE (a b c : Int) : Bool := decide (a = 1 ∧ b = 0 ∧ c = 1)
def absI (c : Int) : Int := if c < 0 then -c else c
/-- The remainder from 0 on. -/
def rmod (a b : Int) : Int := a % b
def rnL (l h s : Int) (d : Bool) : Int := if l > h then 1 else l
def rnH (l h s : Int) (d : Bool) : Int := if l > h then 0 else h
def rnS (l h s : Int) (d : Bool) : Int := if l ≥ h then 1 else if d = true then -s else s

theorem tmod_pos {a m : Int} (ha : 0 ≤ a) : a.tmod m = a % m := Int.tmod_eq_emod_of_nonneg ha
theorem emod_neg_lhs {a m : Int} (hm : 0 < m) (h : (-a) % m ≠ 0) : m - (-a) % m = a % m := by
  have h1 := Int.mul_ediv_add_emod (-a) m
  have h2 := Int.emod_nonneg (-a) (show m ≠ 0 by omega)
  have h3 := Int.emod_lt_of_pos (-a) hm
  have e : a = (m - (-a) % m) + m * (-((-a) / m) - 1) := by
    rw [Int.mul_sub, Int.mul_neg, Int.mul_one]; omega
  have : a % m = ((m - (-a) % m) + m * (-((-a) / m) - 1)) % m := by rw [← e]
  rw [this, Int.add_mul_emod_self_left]
  exact (Int.emod_eq_of_lt (by omega) (by omega)).symm
theorem emod_neg_zero {a m : Int} (h : (-a) % m = 0) : a % m = 0 := by
  have := Int.dvd_of_emod_eq_zero h
  exact Int.emod_eq_zero_of_dvd ((Int.dvd_neg).1 this)
theorem emod_sub_zero {a b m : Int} : (b - a) % m = 0 ↔ b % m = a % m := by
  constructor
  · intro h; exact (Int.emod_eq_emod_iff_emod_sub_eq_zero).2 h
  · intro h; exact (Int.emod_eq_emod_iff_emod_sub_eq_zero).1 h
end Go.RX.Span
