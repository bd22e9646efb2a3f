/- Euclid's algorithm, as the program goes: what it comes to, in plain Lean. -/
import Derived.Test.YtfcafajfllegaaaSPc
import Derived.Test.YtfcafajfllegaaaRXt
set_option linter.unusedVariables false
set_option linter.unusedSimpArgs false
namespace Go.RX.Span
open Go Go.RX

def eg : Nat → Int → Int → Int → Int → Int × Int
  | 0, x0, x1, _, _ => (x0, x1)
  | n + 1, x0, x1, y0, y1 => if y0 = 0 then (x0, x1) else eg n y0 y1 (x0 - x0.tdiv y0 * y0) (x1 - x0.tdiv y0 * y1)
def euG (a b : Int) : Int := (eg (b.toNat + 1) a 1 b 0).1
def euX (a b : Int) : Int := (eg (b.toNat + 1) a 1 b 0).2

/-- What holds ahead of each round. -/
structure EInv (a b B x0 x1 y0 y1 : Int) : Prop where
  hx : 0 ≤ x0
  hy : 0 ≤ y0
  cx : ∃ u, x0 = a * x1 + b * u
  cy : ∃ v, y0 = a * y1 + b * v
  g : Int.gcd x0 y0 = Int.gcd a b
  bx : (x1.natAbs : Int) ≤ B
  b1 : (y1.natAbs : Int) ≤ B
  s : (x1.natAbs : Int) * y0 + (y1.natAbs : Int) * x0 ≤ B

theorem einv_start {a b : Int} (ha : 0 ≤ a) (hb : 0 ≤ b) : EInv a b (max 1 b) a 1 b 0 where
  hx := ha
  hy := hb
  cx := ⟨0, by simp⟩
  cy := ⟨1, by simp⟩
  g := rfl
  bx := by simp; omega
  b1 := by simp; omega
  s := by simp; omega

theorem einv_q {x0 y0 : Int} (hx : 0 ≤ x0) (hy : 0 < y0) : x0.tdiv y0 = x0 / y0 ∧ 0 ≤ x0 / y0 ∧ x0 - x0 / y0 * y0 = x0 % y0 ∧ 0 ≤ x0 % y0 ∧ x0 % y0 < y0 ∧ x0 / y0 ≤ x0 ∧ 0 ≤ x0 / y0 * y0 ∧ x0 / y0 * y0 ≤ x0 := by
  have h1 := Int.tdiv_eq_ediv_of_nonneg hx (b := y0)
  have h2 := Int.ediv_nonneg hx (Int.le_of_lt hy)
  have h3 := Int.mul_ediv_add_emod x0 y0
  have h4 := Int.emod_nonneg x0 (show y0 ≠ 0 by omega)
  have h5 := Int.emod_lt_of_pos x0 hy
  have h6 : x0 / y0 * y0 = y0 * (x0 / y0) := Int.mul_comm _ _
  have h7 : 1 * (x0 / y0) ≤ y0 * (x0 / y0) := Int.mul_le_mul_of_nonneg_right (by omega) h2
  rw [Int.one_mul] at h7
  refine ⟨h1, h2, by omega, h4, h5, by omega, by omega, by omega⟩

theorem einv_step {a b B x0 x1 y0 y1 : Int} (h : EInv a b B x0 x1 y0 y1) (hy : y0 ≠ 0) : EInv a b B y0 y1 (x0 - x0.tdiv y0 * y0) (x1 - x0.tdiv y0 * y1) := by
  have hy' : 0 < y0 := by have := h.hy; omega
  obtain ⟨e1, e2, e3, e4, e5, e6, e7, e8⟩ := einv_q h.hx hy'
  rw [e1]
  obtain ⟨q, hq⟩ : ∃ q, q = x0 / y0 := ⟨_, rfl⟩
  rw [← hq] at e2 e3 e6 e7 e8 ⊢
  have hs : (y1.natAbs : Int) * (x0 - q * y0) + ((x1 - q * y1).natAbs : Int) * y0 ≤ B := by
    have hP : ((x1 - q * y1).natAbs : Int) ≤ (x1.natAbs : Int) + q * (y1.natAbs : Int) := by
      have h1 := Int.natAbs_sub_le x1 (q * y1)
      rw [Int.natAbs_mul] at h1
      have h2 : ((q.natAbs : Nat) : Int) = q := Int.natAbs_of_nonneg e2
      have h3 : (((q.natAbs * y1.natAbs : Nat)) : Int) = q * (y1.natAbs : Int) := by rw [Int.natCast_mul, h2]
      omega
    have hm := Int.mul_le_mul_of_nonneg_right hP (Int.le_of_lt hy')
    rw [Int.add_mul] at hm
    have hc : q * (y1.natAbs : Int) * y0 = (y1.natAbs : Int) * (q * y0) := by rw [Int.mul_comm q, Int.mul_assoc]
    have hs0 := h.s
    rw [Int.mul_sub]
    omega
  refine ⟨Int.le_of_lt hy', by omega, h.cy, ?_, ?_, h.b1, ?_, ?_⟩
  · obtain ⟨u, hu⟩ := h.cx
    obtain ⟨v, hv⟩ := h.cy
    refine ⟨u - q * v, ?_⟩
    have e : q * y0 = a * (q * y1) + b * (q * v) := by
      rw [hv, Int.mul_add]
      congr 1
      · rw [← Int.mul_assoc, ← Int.mul_assoc, Int.mul_comm q a]
      · rw [← Int.mul_assoc, ← Int.mul_assoc, Int.mul_comm q b]
    rw [Int.mul_sub, Int.mul_sub]
    omega
  · rw [← h.g, Int.gcd_comm x0 y0]
    exact Int.gcd_sub_mul_right_right y0 x0 q
  · have h0 : (0 : Int) ≤ (y1.natAbs : Int) * (x0 - q * y0) := Int.mul_nonneg (by omega) (by omega)
    have h1 : ((x1 - q * y1).natAbs : Int) * 1 ≤ ((x1 - q * y1).natAbs : Int) * y0 := Int.mul_le_mul_of_nonneg_left (by omega) (by omega)
    omega
  · rw [Int.add_comm] ; rw [Int.add_comm] at hs; omega

theorem eg_spec {a b B : Int} : ∀ (n : Nat) (x0 x1 y0 y1 : Int), y0.toNat < n → EInv a b B x0 x1 y0 y1 →
    (eg n x0 x1 y0 y1).1 = Int.gcd a b ∧ (∃ u, (eg n x0 x1 y0 y1).1 = a * (eg n x0 x1 y0 y1).2 + b * u) ∧ ((eg n x0 x1 y0 y1).2.natAbs : Int) ≤ B
  | 0, _, _, _, _, h, _ => by omega
  | n + 1, x0, x1, y0, y1, h, hi => by
    rw [eg]
    by_cases hy : y0 = 0
    · rw [if_pos hy]
      refine ⟨?_, hi.cx, hi.bx⟩
      rw [← hi.g, hy, Int.gcd_zero_right]
      exact (Int.natAbs_of_nonneg hi.hx).symm
    · rw [if_neg hy]
      have hy' : 0 < y0 := by have := hi.hy; omega
      obtain ⟨e1, e2, e3, e4, e5, e6, e7, e8⟩ := einv_q hi.hx hy'
      exact eg_spec n _ _ _ _ (by rw [e1]; omega) (einv_step hi hy)

/-- What Euclid's algorithm returns: the divisor; the factor. -/
theorem eu_spec {a b : Int} (ha : 0 ≤ a) (hb : 0 ≤ b) : euG a b = Int.gcd a b ∧ (∃ u, euG a b = a * euX a b + b * u) ∧ ((euX a b).natAbs : Int) ≤ max 1 b :=
  eg_spec (b.toNat + 1) a 1 b 0 (by omega) (einv_start ha hb)

structure XU where
  (a b x0 x1 y0 y1 : Int) (k : Nat)
def PreU (n0 : Nat) (a b : Int) : Prop := n0 ≤ 2 ∧ 0 ≤ a ∧ a ≤ 4000000 ∧ 0 ≤ b ∧ b ≤ 4000000
noncomputable def VU (x : XU) : Few := ([.ptr 0 0, .ptr 1 0], [(0, some (.cells [.lit (.int .i64 x.x0), .lit (.int .i64 x.x1)] 131)), (0, some (.cells [.lit (.int .i64 x.y0), .lit (.int .i64 x.y1)] 131))])
noncomputable def OU (x : XU) : Ex × Few := (.exit 0, ([.ptr 0 0, .ptr 1 0], [(0, some (.cells [.lit (.int .i64 (eg x.k x.x0 x.x1 x.y0 x.y1).1), .lit (.int .i64 (eg x.k x.x0 x.x1 x.y0 x.y1).2)] 131)), (0, some (.cells [.any, .any] 131))]))
def PhiU (n0 : Nat) (x : XU) : Prop := PreU n0 x.a x.b ∧ EInv x.a x.b (max 1 x.b) x.x0 x.x1 x.y0 x.y1 ∧ x.y0.toNat < x.k ∧ x.x0 ≤ 4000000 ∧ x.y0 ≤ 4000000
noncomputable def gU : Nat → Few → T (Ex × Few)
  | n0, ([.ptr 0 0, .ptr 1 0], [(_, some (.cells [.lit (.int .i64 a), .ki .i64 (.ofNat 1)] 131)), (_, some (.cells [.lit (.int .i64 b), .ki .i64 (.ofNat 0)] 131))]) =>
    .ask (PreU n0 a b) (.ret (.exit 0, ([.ptr 0 0, .ptr 1 0], [(0, some (.cells [.lit (.int .i64 (lk euG a b)), .lit (.int .i64 (lk euX a b))] 131)), (0, some (.cells [.any, .any] 131))])))
  | _, _ => .stuck 1
noncomputable abbrev l118 : List (Nat × Loops) := [(118, [(2, .sum (few 41 [6, 7] gU))])]
end Go.RX.Span
