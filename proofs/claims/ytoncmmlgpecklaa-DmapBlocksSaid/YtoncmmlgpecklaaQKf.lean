/- Ranges: the numbers that a range yields. -/
import Derived.RangeFuncNested
import Derived.RangeFuncBound
import Derived.RangeFuncCalls
import Derived.RangeFuncBox
import Derived.RangeFuncLeaves
import Derived.Shelf.Abstract
import Derived.Shelf.RegionOpen
import Derived.WalkKit
import Derived.OwnWalkIn
import Derived.TacticsInMore
import Derived.LoopNIn
import Derived.LoopIn
import Derived.Maps.AppendAt
import Derived.Test.YtoncmmlgpecklaaQKe
import Derived.Test.YtoncmmlgpecklaaQKb
import Derived.Test.YtoncmmlgpecklaaQKc
set_option linter.unusedVariables false
set_option linter.unusedSimpArgs false
namespace Go.RX.Span
open Go Go.RX Go.RowKit Go.Shelf Go.Proofs

attribute [local go_sem] Oper.semAt_some

def num (a b c : Int) (k : Nat) : Int := ofF a b c + ofB a b c * k
theorem size_right {a b c : Int} {k : Nat} (h : (k : Int) < size a b c) : Right a b c ∧ a ≤ b ∧ size a b c = ofC a b c := by
  unfold size at h
  by_cases h0 : chk a b c = 0
  · rw [if_pos h0] at h
    have hr := chk_zero.1 h0
    refine ⟨hr, ?_, size_eq' hr⟩
    by_cases hab : a ≤ b
    · exact hab
    · have := empty_of (c := c) hab; omega
  · rw [if_neg h0] at h; omega
theorem num_bnd {a b c : Int} {k : Nat} (h : (k : Int) < size a b c) : -2000000 ≤ ofB a b c * k ∧ ofB a b c * k ≤ 2000000 ∧ -1000000 ≤ num a b c k ∧ num a b c k ≤ 1000000 := by
  obtain ⟨hr, hab, hs⟩ := size_right h
  obtain ⟨p1, p2, p3, p4, p5, p6, p7, p8, p9, p10⟩ := parts hr hab
  have hl := hr.1
  rw [hs] at h
  have m1 := mulle (s := absI c) (x := 0) (y := (k : Int)) p1 (by omega)
  have m2 := mulle (s := absI c) (x := (k : Int)) (y := ofC a b c - 1) p1 (by omega)
  rw [Int.mul_zero] at m1
  unfold num
  rw [p6, p7]
  by_cases hc : c < 0
  · have e : c = -absI c := by rw [absI_neg hc]; omega
    rw [if_pos hc]
    have : c * k = -(absI c * k) := by rw [e, Int.neg_mul, absI_neg (by omega : -absI c < 0)]; rw [Int.neg_neg]
    rw [this]
    generalize absI c * (k : Int) = z at *
    omega
  · rw [if_neg hc]
    have : c * k = absI c * k := by rw [absI_pos hc]
    rw [this]
    generalize absI c * (k : Int) = z at *
    omega

theorem size_le (a b c : Int) : size a b c ≤ 2000001 := by
  unfold size
  by_cases h0 : chk a b c = 0
  · rw [if_pos h0]
    exact (ofC_bnd (chk_zero.1 h0)).2
  · rw [if_neg h0]; omega
/-- The box of a range. -/
def Box3 (W : World) (B : Nat) (a b c : Int) : Prop := W.heap[B]? = some (.cells #[.int .i64 a, .int .i64 b, .int .i64 c] 23 (0, 0))

theorem Box3.lt {W : World} {B : Nat} {a b c : Int} (h : Box3 W B a b c) : B < W.heap.size := (Array.getElem?_eq_some_iff.1 h).1
theorem Box3.cell {W : World} {B : Nat} {a b c : Int} (h : Box3 W B a b c) : W.cell? ⟨B, 0, none⟩ = some (.int .i64 a) ∧ W.cell? ⟨B, 1, none⟩ = some (.int .i64 b) ∧ W.cell? ⟨B, 2, none⟩ = some (.int .i64 c) := by
  refine ⟨?_, ?_, ?_⟩ <;> simp [World.cell?, show W.heap[B]? = _ from h]
theorem Box3.not_row {W : World} {B : Nat} {a b c : Int} (h : Box3 W B a b c) {base size k : Nat} {v : Value} {xs : List Value} (hr : W.ownsRow base 3 size v k xs) : some B ≠ v.ownBlock := by
  rcases hr.2 with ⟨rfl, _⟩ | ⟨g, cap, cur, rfl, _, hgb, _⟩
  · simp [Value.ownBlock]
  · intro e'
    obtain rfl : B = g := by simpa [Value.ownBlock] using e'
    have := (show W.heap[B]? = _ from h).symm.trans hgb
    simp at this
theorem Box3.appended {W w1 : World} {B B' : Nat} {a b c : Int} (h : Box3 W B a b c) (hne : B ≠ B') {base size k : Nat} {v v' : Value} {xs : List Value} (hr : W.ownsRow base 3 size v k xs) {tmp : Obj} (hgrow : (W.alloc tmp).grownBy w1 v.ownBlock) :
    Box3 (w1.setCell ⟨B', 0, none⟩ v') B a b c := by
  have h1 : Box3 (W.alloc tmp) B a b c := (Below.heap_alloc W tmp B h.lt).trans h
  have h2 : Box3 w1 B a b c := (hgrow.block B h1.lt (h.not_row hr)).trans h1
  exact (Below.heap_setCell _ _ _ B (fun e => hne e)).trans h2

end Go.RX.Span

/- Ranges: By of the reference. -/
set_option linter.unusedVariables false
set_option linter.unusedSimpArgs false
set_option maxRecDepth 100000
namespace Go.RX.Span
open Go Go.RX

end Go.RX.Span

/- Ranges: series upwards and in a range's direction. -/
set_option linter.unusedVariables false
set_option linter.unusedSimpArgs false
set_option maxRecDepth 100000
namespace Go.RX.Span
open Go Go.RX

def uF (a b c : Int) : Int := if b < 0 then tF a b c else a
def uB (a b c : Int) : Int := if b < 0 then tB a b c else b
def kF (a b c r : Int) : Int := if r < 0 then tF a b c else a
def kB (a b c r : Int) : Int := if r < 0 then tB a b c else b
noncomputable def c_up : Con := fun args => match args with
  | [.agg [.lit (.int .i64 a), .lit (.int .i64 b), .lit (.int .i64 c)]] =>
    .ask (b < 0 → c ≠ 0 → I64 (c - 1) ∧ I64 (b * (c - 1)) ∧ I64 (a + b * (c - 1)) ∧ I64 (-b)) (.ret (.agg [.lit (.int .i64 (lk uF a b c)), .lit (.int .i64 (lk uB a b c)), .lit (.int .i64 c)]))
  | _ => .stuck 1
noncomputable def c_like : Con := fun args => match args with
  | [.agg [.lit (.int .i64 a), .lit (.int .i64 b), .lit (.int .i64 c)], .agg [.lit (.int .i64 x), .lit (.int .i64 y), .lit (.int .i64 r)]] =>
    .ask (r < 0 → c ≠ 0 → I64 (c - 1) ∧ I64 (b * (c - 1)) ∧ I64 (a + b * (c - 1)) ∧ I64 (-b)) (.ret (.agg [.lit (.int .i64 (lk kF a b c r)), .lit (.int .i64 (lk kB a b c r)), .lit (.int .i64 c)]))
  | _ => .stuck 1

set_option maxRecDepth 100000 in
theorem t_up (a b c : Int) : conB Go.Proofs.Try.prog (conOf k7) noLoops 10 113 [.agg [.lit (.int .i64 a), .lit (.int .i64 b), .lit (.int .i64 c)]] =
    T.br (U.lt b (0 : Int)) (.ask (c ≠ (0 : Int) → I64 (c - (1 : Int)) ∧ I64 (b * (c - (1 : Int))) ∧ I64 (a + b * (c - (1 : Int))) ∧ I64 (-b)) (.ret (.agg [.lit (.int .i64 (lk tF a b
      c)), .lit (.int .i64 (lk tB a b c)), .lit (.int .i64 c)]))) (.ret (.agg [.lit (.int .i64 a), .lit (.int .i64 b), .lit (.int .i64 c)])) := by kernel_rfl
theorem up_ok : ConOK P 113 c_up := con_of (allOK mixed k7_ok) 10 113 fun args r h => by
  unfold c_up at h
  split at h
  · rename_i a b c
    have hp := (T.is_ask h).1
    have h := (T.is_ask h).2
    obtain rfl := T.is_ret h
    rw [t_up]
    simp only [T.All, U.le_t, U.le_f, U.lt_t, U.lt_f, U.gt_t, U.gt_f, U.ge_t, U.ge_f, U.eq_t, U.eq_f, U.ne_t, U.ne_f, U.not_t, U.not_f, U.andb_t, U.andb_f, SV.lit.injEq, SV.agg.injEq, SV.tup.injEq, List.cons.injEq, Value.int.injEq, Value.bool.injEq, true_and, and_true, lk_eq]
    refine ⟨fun h => ⟨hp h, ?_⟩, fun h => ?_⟩
    · simp [uF, uB, h]
    · have n1 : ¬ b < 0 := by omega
      simp [uF, uB, n1]
  · exact h.elim
set_option maxRecDepth 100000 in
theorem t_like (a b c x y r : Int) : conB Go.Proofs.Try.prog (conOf k7) noLoops 10 114 [.agg [.lit (.int .i64 a), .lit (.int .i64 b), .lit (.int .i64 c)], .agg [.lit (.int .i64 x), .lit (.int .i64 y), .lit (.int .i64 r)]] =
    T.br (U.lt r (0 : Int)) (.ask (c ≠ (0 : Int) → I64 (c - (1 : Int)) ∧ I64 (b * (c - (1 : Int))) ∧ I64 (a + b * (c - (1 : Int))) ∧ I64 (-b)) (.ret (.agg [.lit (.int .i64 (lk tF a b
      c)), .lit (.int .i64 (lk tB a b c)), .lit (.int .i64 c)]))) (.ret (.agg [.lit (.int .i64 a), .lit (.int .i64 b), .lit (.int .i64 c)])) := by kernel_rfl
theorem like_ok : ConOK P 114 c_like := con_of (allOK mixed k7_ok) 10 114 fun args r h => by
  unfold c_like at h
  split at h
  · rename_i a b c x y r
    have hp := (T.is_ask h).1
    have h := (T.is_ask h).2
    obtain rfl := T.is_ret h
    rw [t_like]
    simp only [T.All, U.le_t, U.le_f, U.lt_t, U.lt_f, U.gt_t, U.gt_f, U.ge_t, U.ge_f, U.eq_t, U.eq_f, U.ne_t, U.ne_f, U.not_t, U.not_f, U.andb_t, U.andb_f, SV.lit.injEq, SV.agg.injEq, SV.tup.injEq, List.cons.injEq, Value.int.injEq, Value.bool.injEq, true_and, and_true, lk_eq]
    refine ⟨fun h => ⟨hp h, ?_⟩, fun h => ?_⟩
    · simp [kF, kB, h]
    · have n1 : ¬ r < 0 := by omega
      simp [kF, kB, n1]
  · exact h.elim

noncomputable abbrev k8 : List (Nat × Con) := (113, c_up) :: (114, c_like) :: k7 --%K
theorem k8_ok : ∀ p ∈ k8, ConOK P p.1 p.2 := by
  intro p hp
  simp only [k8, List.mem_cons] at hp
  rcases hp with rfl | rfl | hp
  · exact up_ok
  · exact like_ok
  · exact k7_ok p (by simpa [k7] using hp)
end Go.RX.Span

/- Ranges: Translate of the program and of the reference. -/
set_option linter.unusedVariables false
set_option linter.unusedSimpArgs false
set_option maxRecDepth 100000
namespace Go.RX.Span
open Go Go.RX

theorem up_of {a b c : Int} (hr : Right a b c) (hab : a ≤ b) : uF (ofF a b c) (ofB a b c) (ofC a b c) = a ∧ uB (ofF a b c) (ofB a b c) (ofC a b c) = absI c := by
  obtain ⟨p1, p2, p3, p4, p5, p6, p7, p8, p9, p10⟩ := parts hr hab
  unfold uF uB
  rw [p6, p7]
  by_cases hc : c < 0
  · have e : absI c * (ofC a b c - 1) = -(c * (ofC a b c - 1)) := by rw [absI_neg hc, Int.neg_mul]
    simp only [if_pos hc, tF, tB, sLast, if_neg (show ¬ ofC a b c = 0 by omega), absI_neg hc]
    exact ⟨by omega, trivial⟩
  · simp only [if_neg hc, absI_pos hc, and_self]

/-- A range out of a series upwards, in a direction. -/
def mvE (f s C : Int) : Int := if C ≤ 0 then 0 else if (-1000000 ≤ f ∧ f ≤ 1000000) ∧ (-1000000 ≤ f + s * (C - 1) ∧ f + s * (C - 1) ≤ 1000000) then 0 else 4
def mvLow (f s C : Int) : Int := if C ≤ 0 then 1 else if mvE f s C = 0 then f else 0
def mvHigh (f s C : Int) : Int := if C ≤ 0 then 0 else if mvE f s C = 0 then f + s * (C - 1) else 0
def mvStr (f s C c : Int) : Int := if C ≤ 0 then 1 else if mvE f s C = 0 then (if C = 1 then 1 else if c < 0 then -s else s) else 0

theorem nrm_like {f s C c : Int} (hs : 1 ≤ s) :
    nErr (kF f s C c) (kB f s C c) C = mvE f s C ∧ nLow (kF f s C c) (kB f s C c) C = mvLow f s C ∧ nHigh (kF f s C c) (kB f s C c) C = mvHigh f s C ∧ nStr (kF f s C c) (kB f s C c) C = mvStr f s C c := by
  by_cases hC : C ≤ 0
  · simp [nErr, nLow, nHigh, nStr, mvE, mvLow, mvHigh, mvStr, hC]
  have h0 := mulle (x := 0) (y := C - 1) hs (by omega)
  rw [Int.mul_zero] at h0
  have n0 : ¬ C = 0 := by omega
  by_cases hc : c < 0
  · have eF : kF f s C c = f + s * (C - 1) := by simp only [kF, if_pos hc, tF, sLast, if_neg n0]
    have eB : kB f s C c = -s := by simp only [kB, if_pos hc, tB, if_neg n0]
    rw [eF, eB]
    have el : sLast (f + s * (C - 1)) (-s) C = f := by unfold sLast; rw [Int.neg_mul]; omega
    have e : nErr (f + s * (C - 1)) (-s) C = mvE f s C := by
      unfold nErr mvE
      rw [if_neg hC, if_neg hC, el]
      by_cases h : (-1000000 ≤ f ∧ f ≤ 1000000) ∧ (-1000000 ≤ f + s * (C - 1) ∧ f + s * (C - 1) ≤ 1000000)
      · rw [if_pos h, if_pos (by omega)]
      · rw [if_neg h, if_neg (by omega)]
    refine ⟨e, ?_, ?_, ?_⟩
    · simp only [nLow, mvLow, e, if_neg hC, el]; split <;> omega
    · simp only [nHigh, mvHigh, e, if_neg hC, el]; split <;> omega
    · simp only [nStr, mvStr, e, if_neg hC, if_pos hc]
  · have eF : kF f s C c = f := by simp only [kF, if_neg hc]
    have eB : kB f s C c = s := by simp only [kB, if_neg hc]
    rw [eF, eB]
    have el : sLast f s C = f + s * (C - 1) := rfl
    have e : nErr f s C = mvE f s C := by
      unfold nErr mvE
      rw [if_neg hC, if_neg hC, el]
    refine ⟨e, ?_, ?_, ?_⟩
    · simp only [nLow, mvLow, e, if_neg hC, el]; split <;> omega
    · simp only [nHigh, mvHigh, e, if_neg hC, el]; split <;> omega
    · simp only [nStr, mvStr, e, if_neg hC, if_neg hc]

theorem like_bnd {f s C c : Int} (hC : C ≠ 0) : (kB f s C c * (C - 1) = s * (C - 1) ∨ kB f s C c * (C - 1) = -(s * (C - 1))) ∧ (kF f s C c + kB f s C c * (C - 1) = f ∨ kF f s C c + kB f s C c * (C - 1) = f + s * (C - 1)) := by
  by_cases hc : c < 0
  · have eF : kF f s C c = f + s * (C - 1) := by simp only [kF, if_pos hc, tF, sLast, if_neg hC]
    have eB : kB f s C c = -s := by simp only [kB, if_pos hc, tB, if_neg hC]
    rw [eF, eB, Int.neg_mul]
    exact ⟨.inr rfl, .inl (by omega)⟩
  · have eF : kF f s C c = f := by simp only [kF, if_neg hc]
    have eB : kB f s C c = s := by simp only [kB, if_neg hc]
    rw [eF, eB]
    exact ⟨.inl rfl, .inr rfl⟩

end Go.RX.Span

/- Ranges: Expand of the program and of the reference. -/
set_option linter.unusedVariables false
set_option linter.unusedSimpArgs false
set_option maxRecDepth 100000
namespace Go.RX.Span
open Go Go.RX

end Go.RX.Span

/- Ranges: Exterior of the program and of the reference. -/
set_option linter.unusedVariables false
set_option linter.unusedSimpArgs false
set_option maxRecDepth 100000
namespace Go.RX.Span
open Go Go.RX

end Go.RX.Span

/- Ranges: Interior of the program and of the reference. -/
set_option linter.unusedVariables false
set_option linter.unusedSimpArgs false
set_option maxRecDepth 100000
namespace Go.RX.Span
open Go Go.RX

end Go.RX.Span

/- Ranges: what the law of changes returns. -/
set_option linter.unusedVariables false
set_option linter.unusedSimpArgs false
set_option maxRecDepth 100000
namespace Go.RX.Span
open Go Go.RX

end Go.RX.Span

/- Ranges: the contract of the numbers of a range, and of small ranges. -/
set_option linter.unusedVariables false
set_option linter.unusedSimpArgs false
set_option maxRecDepth 100000
namespace Go.RX.Span
open Go Go.RX Go.RowKit

end Go.RX.Span

/- The library's slices.Equal and slices.Concat of two, of numbers. -/
set_option linter.unusedVariables false
set_option linter.unusedSimpArgs false
set_option maxRecDepth 100000
namespace Go.RX.Span
open Go Go.RX

noncomputable def eqR (n : Nat) (f : Nat → Els [.int .i64]) (n1 : Nat) (f1 : Nat → Els [.int .i64]) : Bool := @decide (n = n1 ∧ ∀ i, i < n → (f i).1 = (f1 i).1) (Classical.propDecidable _)
theorem eqR_t {n n1 : Nat} {f f1 : Nat → Els [.int .i64]} : eqR n f n1 f1 = true ↔ n = n1 ∧ ∀ i, i < n → (f i).1 = (f1 i).1 := by
  unfold eqR
  exact @decide_eq_true_iff _ (Classical.propDecidable _)
noncomputable abbrev E0 : Env := ⟨P, conOf [], scall P (conOf []) noLoops 10⟩
theorem E0_ok : EnvOK E0 := envOK (allOK mixed (fun p hp => absurd hp (by simp))) 10
theorem none_ok : ∀ p ∈ ([] : List (Nat × Con)), ConOK P p.1 p.2 := fun p hp => absurd hp (by simp)
def PreE (n0 n n1 : Nat) (len : Int) : Prop := n0 = 0 ∧ n = n1 ∧ len = n ∧ n ≤ top
structure XE where
  (n n1 : Nat) (f f1 : Nat → Els [.int .i64]) (len : Int) (k : Nat)
noncomputable def VE (x : XE) : Few := ([.row [.int .i64] x.n x.f, .row [.int .i64] x.n1 x.f1, .any, .lit (.int .i64 x.len), .lit (.int .i64 x.k)], [])
noncomputable def OE (x : XE) : Ex × Few := (.exit 0, ([.row [.int .i64] x.n x.f, .row [.int .i64] x.n1 x.f1, .any, .any, .any], []))
noncomputable def OE' : Ex × Few := (.ret, ([.any, .any, .kb false, .any, .any], []))
def PhiE (n0 : Nat) (x : XE) : Prop := (n0 = 0 ∧ x.n = x.n1 ∧ x.len = x.n ∧ x.n ≤ top) ∧ x.k ≤ x.n ∧ ∀ i, i < x.k → (x.f i).1 = (x.f1 i).1
def ZE (x : XE) (o : Ex × Few) : Prop := (eqR x.n x.f x.n1 x.f1 = true → o = OE x) ∧ (eqR x.n x.f x.n1 x.f1 = false → o = OE')
noncomputable def gE : Nat → Few → T (Ex × Few)
  | n0, ([.row [.int .i64] n f, .row [.int .i64] n1 f1, _, .lit (.int .i64 len), .ki .i64 (.ofNat 0)], []) =>
    .ask (PreE n0 n n1 len) (.br (lk eqR n f n1 f1) (.ret (.exit 0, ([.row [.int .i64] n f, .row [.int .i64] n1 f1, .any, .any, .any], []))) (.ret (.ret, ([.any, .any, .kb false, .any, .any], []))))
  | _, _ => .stuck 1
noncomputable abbrev l36 : List (Nat × Loops) := [(30, [(4, .sum (few 26 [0, 1, 4, 12, 13] gE))])]
end Go.RX.Span

/- Iterators: the numbers of a range: the states. -/
set_option linter.unusedVariables false
set_option linter.unusedSimpArgs false
set_option maxRecDepth 100000
namespace Go.RX.Span
open Go Go.RX
attribute [local irreducible] sx conB

/-- All answers are yes. -/
noncomputable def okB (K : Cons) (s c : Nat) : Bool := open Classical in decide (∀ i, i < c → K.ans (s + i) = true)
/-- The first answer from s on that is no. -/
def stopA (K : Cons) : Nat → Nat → Nat
  | _, 0 => 0
  | s, c + 1 => if K.ans s = true then stopA K (s + 1) c + 1 else 0
theorem okB_t {K : Cons} {s c : Nat} : okB K s c = true ↔ ∀ i, i < c → K.ans (s + i) = true := by
  unfold okB; exact decide_eq_true_iff
theorem okB_f {K : Cons} {s c j : Nat} (hj : j < c) (h : K.ans (s + j) = false) : okB K s c = false := by
  cases e : okB K s c
  · rfl
  · rw [okB_t.1 e j hj] at h; cases h
theorem stopA_eq {K : Cons} : ∀ {c s j : Nat}, j < c → K.ans (s + j) = false → (∀ i, i < j → K.ans (s + i) = true) → stopA K s c = j
  | 0, _, _, h, _, _ => by omega
  | c + 1, s, 0, _, h, _ => by
    have h : K.ans s = false := h
    simp only [stopA]; rw [h]; rfl
  | c + 1, s, j + 1, hj, h, hb => by
    have h0 : K.ans s = true := hb 0 (by omega)
    simp only [stopA]
    rw [if_pos h0, stopA_eq (j := j) (by omega) (by rw [show s + 1 + j = s + (j + 1) by omega]; exact h) fun i hi => by rw [show s + 1 + i = s + (i + 1) by omega]; exact hb _ (by omega)]
theorem ren1 : ∀ b, b < 1 → Ren.of [some 0] b = some b := fun b hb => by
  obtain rfl : b = 0 := by omega
  rfl
abbrev R3' := Els [.int .i64, .int .i64, .int .i64]
def ofAsk (a b c : Int) : Prop := a ≤ b → c ≠ 0 ∧ -9223372036854775807 ≤ c ∧ b - a < 9223372036854775807 ∧ I64 a ∧ I64 b ∧ I64 c
def szN (a b c : Int) : Nat := (size a b c).toNat
noncomputable def numE (a b c : Int) (k : Nat) : List Value := [.int .i64 (num a b c k)]
noncomputable abbrev rp3 (f : Nat → R3') : SV := .rptr [.int .i64, .int .i64, .int .i64] 1 f 0 0
structure XI where
  (K : Cons) (f : Nat → R3') (n : Int) (j : Nat)
noncomputable abbrev slI (K : Cons) (f : Nat → R3') (n j : Int) : List SV := [.lit (.func (.yield K.l) #[] #[]), rp3 f, .lit (.int .i64 n), .lit (.int .i64 j)]
noncomputable def VI (q : XI) : Few := (slI q.K q.f q.n (q.j : Int), [(0, some (.seq true q.K q.j))])
def PreI (n0 : Nat) (K : Cons) (f : Nat → R3') (n : Int) : Prop := n0 = 1 ∧ K.P = P ∧ n = size (f 0).1 (f 0).2.1 (f 0).2.2.1 ∧ K.n = szN (f 0).1 (f 0).2.1 (f 0).2.2.1 ∧ K.el = numE (f 0).1 (f 0).2.1 (f 0).2.2.1 ∧ I64 (f 0).1 ∧ I64 (f 0).2.1 ∧ I64 (f 0).2.2.1
def PhiI (n0 : Nat) (q : XI) : Prop := PreI n0 q.K q.f q.n ∧ q.j ≤ q.K.n ∧ ∀ i, i < q.j → q.K.ans i = true
noncomputable abbrev oI1 (K : Cons) : Ex × Few := (.exit 0, ([.any, .any, .any, .any], [(0, some (.seq true K K.n))]))
noncomputable abbrev oI2 (K : Cons) : Ex × Few := (.ret, ([.any, .any, .any, .any], [(0, some (.seq false K (lk stopA K 0 K.n + 1)))]))
def ZI (q : XI) (o : Ex × Few) : Prop := (okB q.K 0 q.K.n = true → o = oI1 q.K) ∧ (okB q.K 0 q.K.n = false → o = oI2 q.K)
noncomputable def gI : Nat → Few → T (Ex × Few)
  | n0, ([.lit (.func (.yield l) ⟨[]⟩ ⟨[]⟩), .rptr [.int .i64, .int .i64, .int .i64] 1 f 0 0, .lit (.int .i64 n), .ki .i64 (.ofNat 0)], [(_, some (.seq true K 0))]) =>
    .ask (PreI n0 K f n ∧ K.l = l) (.br (lk okB K 0 K.n) (.ret (oI1 K)) (.ret (oI2 K)))
  | _, _ => .stuck 1
noncomputable abbrev lI : List (Nat × Loops) := [(176, [(1, .sum (few 23 [0,1,6,7] gI))])]
noncomputable abbrev Ei : Env := ⟨P, conOf k8, scall P (conOf k8) noLoops 10⟩
theorem Ei_ok : EnvOK Ei := envOK (allOK mixed k8_ok) 10
noncomputable def sc176 : SCon := fun args => match args with
  | [.rptr [.int .i64, .int .i64, .int .i64] 1 f 0 0] => .ask (I64 (f 0).1 ∧ I64 (f 0).2.1 ∧ I64 (f 0).2.2.1) (.ret (lk szN (f 0).1 (f 0).2.1 (f 0).2.2.1, lk numE (f 0).1 (f 0).2.1 (f 0).2.2.1))
  | _ => .stuck 1
noncomputable def c_All : Con := fun args => match args with
  | [.agg [.lit (.int .i64 a), .lit (.int .i64 b), .lit (.int .i64 c)]] => .ret (.fn (.func 176) [] [rp3 fun _ => (a, b, c, ())])
  | _ => .stuck 1
end Go.RX.Span

/- Iterators: the numbers of a range: the walk. -/
set_option linter.unusedVariables false
set_option linter.unusedSimpArgs false
set_option maxRecDepth 100000
namespace Go.RX.Span
open Go Go.RX
attribute [local irreducible] sx conB

set_option maxRecDepth 100000 in
theorem t_All (a b c : Int) : conB Go.Proofs.Try.prog (conOf []) noLoops 10 119 [.agg [.lit (.int .i64 a), .lit (.int .i64 b), .lit (.int .i64 c)]] =
    T.ret (SV.fn (Fn.func (nat_lit 176)) [] [SV.rptr [.int .i64, .int .i64, .int .i64] (nat_lit 1) (fun x => (a, b, c, PUnit.unit)) (nat_lit 0) (nat_lit 0)]) := by kernel_rfl
--%R \(\(f \(0 : Nat\)\)\.1 ≤ \(f \(0 : Nat\)\)\.snd\.1 →[\s\S]*?I64 \(f \(0 : Nat\)\)\.snd\.snd\.1\) => (ofAsk (f 0).1 (f 0).2.1 (f 0).2.2.1)
set_option maxRecDepth 100000 in
theorem t_I (n0 : Nat) (K : Cons) (f : Nat → R3') (n : Int) (i : Nat) (j : Int) : (sx Ei [] n0 (loopOf P 176 1) (mkS 23 [0,1,6,7] (slI K f n j), [(0, some (.seq true K i))])).bind (proj 23 [0,1,6,7]) =
    T.br (U.lt j n) (.ask (ofAsk (f 0).1 (f 0).2.1 (f 0).2.2.1) (.ask (YldAsk Ei.P K.5 K i [.int .i64 (U.add .i64 (lk ofF (f (0 : Nat)).1 (f (0 : Nat)).2.1 (f (0 : Nat)).2.2.1) (U.mul
      .i64 (lk ofB (f (0 : Nat)).1 (f (0 : Nat)).2.1 (f (0 : Nat)).2.2.1) j))]) (.br (K.4 i) (.ret (Ex.normal, [.lit (Value.func (Fn.yield K.5) { toList := [] } { toList := [] }), SV.rptr
      [.int .i64, .int .i64, .int .i64] (nat_lit 1) f (nat_lit 0) (nat_lit 0), .lit (.int .i64 n), .lit (.int .i64 (U.add .i64 j (1 : Int)))], [(nat_lit 1, some (Blk.seq true K (i.add
      (nat_lit 1)))), (nat_lit 1, some (Blk.cells [.lit (.int .i64 (lk ofF (f (0 : Nat)).1 (f (0 : Nat)).2.1 (f (0 : Nat)).2.2.1)), .lit (.int .i64 (lk ofB (f (0 : Nat)).1 (f (0 :
      Nat)).2.1 (f (0 : Nat)).2.2.1)), .lit (.int .i64 (lk ofC (f (0 : Nat)).1 (f (0 : Nat)).2.1 (f (0 : Nat)).2.2.1))] (nat_lit 114)))])) (.ret (Ex.ret, [.lit (Value.func (Fn.yield K.5)
      { toList := [] } { toList := [] }), SV.rptr [.int .i64, .int .i64, .int .i64] (nat_lit 1) f (nat_lit 0) (nat_lit 0), .lit (.int .i64 n), .lit (.int .i64 j)], [(nat_lit 1, some
      (Blk.seq false K (i.add (nat_lit 1)))), (nat_lit 1, some (Blk.cells [.lit (.int .i64 (lk ofF (f (0 : Nat)).1 (f (0 : Nat)).2.1 (f (0 : Nat)).2.2.1)), .lit (.int .i64 (lk ofB (f (0 :
      Nat)).1 (f (0 : Nat)).2.1 (f (0 : Nat)).2.2.1)), .lit (.int .i64 (lk ofC (f (0 : Nat)).1 (f (0 : Nat)).2.1 (f (0 : Nat)).2.2.1))] (nat_lit 114)))]))))) (.ret (Ex.exit (nat_lit 0),
      [.lit (Value.func (Fn.yield K.5) { toList := [] } { toList := [] }), SV.rptr [.int .i64, .int .i64, .int .i64] (nat_lit 1) f (nat_lit 0) (nat_lit 0), .lit (.int .i64 n), .lit (.int
      .i64 j)], [(nat_lit 0, some (Blk.seq true K i))])) := by kernel_rfl
set_option maxRecDepth 100000 in
theorem t_176 (K : Cons) (f : Nat → R3') : scall Go.Proofs.Try.prog (conOf k8) (loopsOf lI) 10 176 [yieldV K, rp3 f] [(0, some (.seq true K 0))] =
    T.ask (I64 (f (0 : Nat)).1 ∧ I64 (f (0 : Nat)).2.1 ∧ I64 (f (0 : Nat)).2.2.1) (.ask (PreI (nat_lit 1) K f (lk size (f (0 : Nat)).1 (f (0 : Nat)).2.1 (f (0 : Nat)).2.2.1) ∧ K.5 =
      K.5) (.br (lk okB K (nat_lit 0) K.2) (.ret (.tup [], [(nat_lit 1, some (Blk.seq true K K.2))])) (.ret (.tup [], [(nat_lit 1, some (Blk.seq false K ((lk stopA K (nat_lit 0) K.2).add
      (nat_lit 1))))])))) := by kernel_rfl
theorem All_ok : ConOK P 119 c_All := con_of (allOK mixed none_ok) 10 119 fun args r h => by
  unfold c_All at h
  split at h
  · rename_i a b c
    obtain rfl := T.is_ret h
    rw [t_All]
    rfl
  · exact h.elim
theorem roundI (n0 : Nat) (q : XI) (hq : PhiI n0 q) : ((sx Ei [] n0 (loopOf P 176 1) (mkS 23 [0,1,6,7] (VI q).1, (VI q).2)).bind (proj 23 [0,1,6,7])).All fun r => match r.1 with
      | .normal => ∃ q', PhiI n0 q' ∧ q'.K.n - q'.j < q.K.n - q.j ∧ Wk 23 [0,1,6,7] n0 r.2 (VI q') ∧ ∀ o, ZI q' o → ZI q o
      | e => ∃ s, ZI q (e, s) ∧ Wk 23 [0,1,6,7] n0 r.2 s := by
  obtain ⟨K, f, n, j⟩ := q
  obtain ⟨⟨h0, hP, hn, hK, hel, ha, hb, hc⟩, hj, hans⟩ := hq
  simp only [] at h0 hP hn hK hel ha hb hc hj hans
  subst h0
  show ((sx Ei [] 1 (loopOf P 176 1) (mkS 23 [0,1,6,7] (slI K f n (j : Int)), [(0, some (.seq true K j))])).bind (proj 23 [0,1,6,7])).All _
  rw [t_I]
  obtain ⟨A, hA⟩ : ∃ A : Int, A = (f 0).1 := ⟨_, rfl⟩
  obtain ⟨B, hB⟩ : ∃ B : Int, B = (f 0).2.1 := ⟨_, rfl⟩
  obtain ⟨C, hC⟩ : ∃ C : Int, C = (f 0).2.2.1 := ⟨_, rfl⟩
  simp only [← hA, ← hB, ← hC] at hn hK hel ha hb hc ⊢
  simp only [lk_eq]
  have hsz := size_le A B C
  have hnn : n = (szN A B C : Int) ∨ n < 0 := by unfold szN; omega
  by_cases hlt : (j : Int) < n
  · have hlt' : (j : Int) < size A B C := by omega
    have hr := (size_right hlt').1
    obtain ⟨b1, b2, b3, b4⟩ := num_bnd hlt'
    have hjn : j < K.n := by rw [hK]; unfold szN; omega
    have eN : U.add .i64 (ofF A B C) (U.mul .i64 (ofB A B C) (j : Int)) = num A B C j := by
      unfold num at b3 b4 ⊢
      rw [U.mul64 (by unfold I64; omega), U.add64 (by unfold I64; omega)]
    have e2 : U.add .i64 (j : Int) 1 = ((j + 1 : Nat) : Int) := by rw [U.add64 (by unfold I64; omega)]; omega
    rw [eN, e2]
    refine ⟨fun _ => ⟨of_ask hr ha hb hc, ⟨hP, rfl, hjn, by rw [hel]; rfl⟩, fun hy => ?_, fun hy => ?_⟩, fun h => absurd (U.lt_f.mp h) (by omega)⟩
    · refine ⟨⟨K, f, n, j + 1⟩, ⟨⟨rfl, hP, by rw [← hA, ← hB, ← hC]; exact hn, by rw [← hA, ← hB, ← hC]; exact hK, by rw [← hA, ← hB, ← hC]; exact hel, by rw [← hA]; exact ha, by rw [← hB]; exact hb, by rw [← hC]; exact hc⟩, hjn, fun i hi => ?_⟩, by simp only []; omega, ?_, fun o ho => ho⟩
      · by_cases e : i = j
        · subst e; exact hy
        · have hi' : i < j + 1 := hi
          exact hans i (by omega)
      · exact wk_of [some 0] rfl (Nat.le_refl _) ren1 ⟨rfl, ⟨rfl, rfl, rfl, sameRow_refl _ _⟩, rfl, rfl, trivial⟩ ⟨⟨rfl, rfl, rfl, rfl, rfl⟩, trivial⟩
    · have hs0 : stopA K 0 K.n = j := stopA_eq hjn (by rw [Nat.zero_add]; exact hy) (fun i hi => by rw [Nat.zero_add]; exact hans i hi)
      refine ⟨(oI2 K).2, ⟨fun h => ?_, fun _ => rfl⟩, ?_⟩
      · rw [okB_f hjn (by rw [Nat.zero_add]; exact hy)] at h; cases h
      · exact wk_of [some 0] rfl (Nat.le_refl _) ren1 ⟨trivial, trivial, trivial, trivial, trivial⟩ ⟨⟨rfl, rfl, rfl, rfl, by rw [lk_eq, hs0]⟩, trivial⟩
  · have hjn : j = K.n := by
      have h1 : K.n = szN A B C := hK
      unfold szN at h1
      omega
    refine ⟨fun h => absurd (U.lt_t.mp h) hlt, fun _ => ⟨(oI1 K).2, ⟨fun _ => rfl, fun h => ?_⟩, ?_⟩⟩
    · have hall : okB K 0 K.n = true := okB_t.2 fun i hi => by rw [Nat.zero_add]; exact hans i (hjn ▸ hi)
      exact absurd (hall.symm.trans h) (by decide)
    · exact wk_of [some 0] rfl (Nat.le_refl _) ren1 ⟨trivial, trivial, trivial, trivial, trivial⟩ ⟨⟨rfl, rfl, rfl, rfl, hjn⟩, trivial⟩
theorem loopI : LoopOK P (loopOf P 176 1) (few 23 [0,1,6,7] gI) :=
  loop_few (E := Ei) mixed Ei_ok loopsOK_none 23 [0,1,6,7] (X := XI) gI (fun _ x => VI x) PhiI (fun q => q.K.n - q.j) (fun _ x o => ZI x o)
    (fun n0 st r h => by
      unfold gI at h
      split at h
      · rename_i n0 l f n x3 K
        obtain ⟨hp, rfl⟩ := (T.is_ask h).1
        have hh := (T.is_ask h).2
        have hp' := hp
        obtain ⟨h0, _⟩ := hp'
        subst h0
        have w : Wk 23 [0,1,6,7] 1 ([.lit (.func (.yield K.l) #[] #[]), .rptr [.int .i64, .int .i64, .int .i64] 1 f 0 0, .lit (.int .i64 n), .ki .i64 (.ofNat 0)], [(x3, some (.seq true K 0))]) (VI ⟨K, f, n, 0⟩) := wk_of [some 0] rfl (Nat.le_refl _) ren1 ⟨rfl, ⟨rfl, rfl, rfl, sameRow_refl _ _⟩, rfl, rfl, trivial⟩ ⟨⟨rfl, rfl, rfl, rfl, rfl⟩, trivial⟩
        rcases hh with ⟨he, h⟩ | ⟨he, h⟩ <;> rw [lk_eq] at he <;> obtain rfl := T.is_ret h
        · exact ⟨⟨K, f, n, 0⟩, ⟨hp, Nat.zero_le _, fun i hi => absurd hi (Nat.not_lt_zero i)⟩, w, fun o ho => ho.1 he⟩
        · exact ⟨⟨K, f, n, 0⟩, ⟨hp, Nat.zero_le _, fun i hi => absurd hi (Nat.not_lt_zero i)⟩, w, fun o ho => ho.2 he⟩
      · exact h.elim)
    roundI
theorem lI_ok : ∀ p ∈ lI, LoopsOK P p.2 (bodyOf P p.1) := by
  intro p hp
  simp only [lI, List.mem_singleton] at hp
  subst hp
  refine loopsOK_of (by kernel_rfl) fun k g hk => ?_
  simp only [List.mem_singleton, Prod.mk.injEq, LoopC.sum.injEq] at hk
  obtain ⟨rfl, rfl⟩ := hk
  exact loopI
theorem sc176_ok : SConOK P 176 sc176 := scon_of (allOKL mixed k8_ok lI_ok) 10 176 fun args q h K hK hn hel => by
  unfold sc176 at h
  split at h
  · rename_i f
    obtain ⟨ha, hb, hc⟩ := (T.is_ask h).1
    obtain rfl := T.is_ret (T.is_ask h).2
    simp only [lk_eq] at hn hel
    rw [t_176]
    simp only [lk_eq]
    exact ⟨⟨ha, hb, hc⟩, ⟨⟨rfl, hK, rfl, hn, hel, ha, hb, hc⟩, trivial⟩, fun _ => .inl rfl, fun _ => .inr ⟨_, rfl⟩⟩
  · exact h.elim
end Go.RX.Span

/- Euclid's algorithm, as the program goes: what it comes to, in plain Lean. -/
set_option linter.unusedVariables false
set_option linter.unusedSimpArgs false
namespace Go.RX.Span
open Go Go.RX

def eg : Nat → Int → Int → Int → Int → Int × Int
  | 0, x0, x1, _, _ => (x0, x1)
  | n + 1, x0, x1, y0, y1 => if y0 = 0 then (x0, x1) else eg n y0 y1 (x0 - x0.tdiv y0 * y0) (x1 - x0.tdiv y0 * y1)
def euG (a b : Int) : Int := (eg (b.toNat + 1) a 1 b 0).1
def euX (a b : Int) : Int := (eg (b.toNat + 1) a 1 b 0).2

/-- What holds ahead of each round. -/
structure EInv (a b B x0 x1 y0 y1 : Int) : Prop where
  hx : 0 ≤ x0
  hy : 0 ≤ y0
  cx : ∃ u, x0 = a * x1 + b * u
  cy : ∃ v, y0 = a * y1 + b * v
  g : Int.gcd x0 y0 = Int.gcd a b
  bx : (x1.natAbs : Int) ≤ B
  b1 : (y1.natAbs : Int) ≤ B
  s : (x1.natAbs : Int) * y0 + (y1.natAbs : Int) * x0 ≤ B

theorem einv_start {a b : Int} (ha : 0 ≤ a) (hb : 0 ≤ b) : EInv a b (max 1 b) a 1 b 0 where
  hx := ha
  hy := hb
  cx := ⟨0, by simp⟩
  cy := ⟨1, by simp⟩
  g := rfl
  bx := by simp; omega
  b1 := by simp; omega
  s := by simp; omega

theorem einv_q {x0 y0 : Int} (hx : 0 ≤ x0) (hy : 0 < y0) : x0.tdiv y0 = x0 / y0 ∧ 0 ≤ x0 / y0 ∧ x0 - x0 / y0 * y0 = x0 % y0 ∧ 0 ≤ x0 % y0 ∧ x0 % y0 < y0 ∧ x0 / y0 ≤ x0 ∧ 0 ≤ x0 / y0 * y0 ∧ x0 / y0 * y0 ≤ x0 := by
  have h1 := Int.tdiv_eq_ediv_of_nonneg hx (b := y0)
  have h2 := Int.ediv_nonneg hx (Int.le_of_lt hy)
  have h3 := Int.mul_ediv_add_emod x0 y0
  have h4 := Int.emod_nonneg x0 (show y0 ≠ 0 by omega)
  have h5 := Int.emod_lt_of_pos x0 hy
  have h6 : x0 / y0 * y0 = y0 * (x0 / y0) := Int.mul_comm _ _
  have h7 : 1 * (x0 / y0) ≤ y0 * (x0 / y0) := Int.mul_le_mul_of_nonneg_right (by omega) h2
  rw [Int.one_mul] at h7
  refine ⟨h1, h2, by omega, h4, h5, by omega, by omega, by omega⟩

theorem einv_step {a b B x0 x1 y0 y1 : Int} (h : EInv a b B x0 x1 y0 y1) (hy : y0 ≠ 0) : EInv a b B y0 y1 (x0 - x0.tdiv y0 * y0) (x1 - x0.tdiv y0 * y1) := by
  have hy' : 0 < y0 := by have := h.hy; omega
  obtain ⟨e1, e2, e3, e4, e5, e6, e7, e8⟩ := einv_q h.hx hy'
  rw [e1]
  obtain ⟨q, hq⟩ : ∃ q, q = x0 / y0 := ⟨_, rfl⟩
  rw [← hq] at e2 e3 e6 e7 e8 ⊢
  have hs : (y1.natAbs : Int) * (x0 - q * y0) + ((x1 - q * y1).natAbs : Int) * y0 ≤ B := by
    have hP : ((x1 - q * y1).natAbs : Int) ≤ (x1.natAbs : Int) + q * (y1.natAbs : Int) := by
      have h1 := Int.natAbs_sub_le x1 (q * y1)
      rw [Int.natAbs_mul] at h1
      have h2 : ((q.natAbs : Nat) : Int) = q := Int.natAbs_of_nonneg e2
      have h3 : (((q.natAbs * y1.natAbs : Nat)) : Int) = q * (y1.natAbs : Int) := by rw [Int.natCast_mul, h2]
      omega
    have hm := Int.mul_le_mul_of_nonneg_right hP (Int.le_of_lt hy')
    rw [Int.add_mul] at hm
    have hc : q * (y1.natAbs : Int) * y0 = (y1.natAbs : Int) * (q * y0) := by rw [Int.mul_comm q, Int.mul_assoc]
    have hs0 := h.s
    rw [Int.mul_sub]
    omega
  refine ⟨Int.le_of_lt hy', by omega, h.cy, ?_, ?_, h.b1, ?_, ?_⟩
  · obtain ⟨u, hu⟩ := h.cx
    obtain ⟨v, hv⟩ := h.cy
    refine ⟨u - q * v, ?_⟩
    have e : q * y0 = a * (q * y1) + b * (q * v) := by
      rw [hv, Int.mul_add]
      congr 1
      · rw [← Int.mul_assoc, ← Int.mul_assoc, Int.mul_comm q a]
      · rw [← Int.mul_assoc, ← Int.mul_assoc, Int.mul_comm q b]
    rw [Int.mul_sub, Int.mul_sub]
    omega
  · rw [← h.g, Int.gcd_comm x0 y0]
    exact Int.gcd_sub_mul_right_right y0 x0 q
  · have h0 : (0 : Int) ≤ (y1.natAbs : Int) * (x0 - q * y0) := Int.mul_nonneg (by omega) (by omega)
    have h1 : ((x1 - q * y1).natAbs : Int) * 1 ≤ ((x1 - q * y1).natAbs : Int) * y0 := Int.mul_le_mul_of_nonneg_left (by omega) (by omega)
    omega
  · rw [Int.add_comm] ; rw [Int.add_comm] at hs; omega

theorem eg_spec {a b B : Int} : ∀ (n : Nat) (x0 x1 y0 y1 : Int), y0.toNat < n → EInv a b B x0 x1 y0 y1 →
    (eg n x0 x1 y0 y1).1 = Int.gcd a b ∧ (∃ u, (eg n x0 x1 y0 y1).1 = a * (eg n x0 x1 y0 y1).2 + b * u) ∧ ((eg n x0 x1 y0 y1).2.natAbs : Int) ≤ B
  | 0, _, _, _, _, h, _ => by omega
  | n + 1, x0, x1, y0, y1, h, hi => by
    rw [eg]
    by_cases hy : y0 = 0
    · rw [if_pos hy]
      refine ⟨?_, hi.cx, hi.bx⟩
      rw [← hi.g, hy, Int.gcd_zero_right]
      exact (Int.natAbs_of_nonneg hi.hx).symm
    · rw [if_neg hy]
      have hy' : 0 < y0 := by have := hi.hy; omega
      obtain ⟨e1, e2, e3, e4, e5, e6, e7, e8⟩ := einv_q hi.hx hy'
      exact eg_spec n _ _ _ _ (by rw [e1]; omega) (einv_step hi hy)

/-- What Euclid's algorithm returns: the divisor; the factor. -/
theorem eu_spec {a b : Int} (ha : 0 ≤ a) (hb : 0 ≤ b) : euG a b = Int.gcd a b ∧ (∃ u, euG a b = a * euX a b + b * u) ∧ ((euX a b).natAbs : Int) ≤ max 1 b :=
  eg_spec (b.toNat + 1) a 1 b 0 (by omega) (einv_start ha hb)

structure XU where
  (a b x0 x1 y0 y1 : Int) (k : Nat)
def PreU (n0 : Nat) (a b : Int) : Prop := n0 ≤ 2 ∧ 0 ≤ a ∧ a ≤ 4000000 ∧ 0 ≤ b ∧ b ≤ 4000000
noncomputable def VU (x : XU) : Few := ([.ptr 0 0, .ptr 1 0], [(0, some (.cells [.lit (.int .i64 x.x0), .lit (.int .i64 x.x1)] 103)), (0, some (.cells [.lit (.int .i64 x.y0), .lit (.int .i64 x.y1)] 103))])
noncomputable def OU (x : XU) : Ex × Few := (.exit 0, ([.ptr 0 0, .ptr 1 0], [(0, some (.cells [.lit (.int .i64 (eg x.k x.x0 x.x1 x.y0 x.y1).1), .lit (.int .i64 (eg x.k x.x0 x.x1 x.y0 x.y1).2)] 103)), (0, some (.cells [.any, .any] 103))]))
def PhiU (n0 : Nat) (x : XU) : Prop := PreU n0 x.a x.b ∧ EInv x.a x.b (max 1 x.b) x.x0 x.x1 x.y0 x.y1 ∧ x.y0.toNat < x.k ∧ x.x0 ≤ 4000000 ∧ x.y0 ≤ 4000000
noncomputable def gU : Nat → Few → T (Ex × Few)
  | n0, ([.ptr 0 0, .ptr 1 0], [(_, some (.cells [.lit (.int .i64 a), .ki .i64 (.ofNat 1)] 103)), (_, some (.cells [.lit (.int .i64 b), .ki .i64 (.ofNat 0)] 103))]) =>
    .ask (PreU n0 a b) (.ret (.exit 0, ([.ptr 0 0, .ptr 1 0], [(0, some (.cells [.lit (.int .i64 (lk euG a b)), .lit (.int .i64 (lk euX a b))] 103)), (0, some (.cells [.any, .any] 103))])))
  | _, _ => .stuck 1
noncomputable abbrev l118 : List (Nat × Loops) := [(127, [(2, .sum (few 41 [6, 7] gU))])]
end Go.RX.Span

/- The numbers that two series have both, in plain Lean: what the program reckons has just these. -/
set_option linter.unusedVariables false
set_option linter.unusedSimpArgs false
namespace Go.RX.Span
open Go Go.RX

def cmM (t g : Int) : Int := t.tdiv g
def cmK (A B g m x : Int) : Int := (((B - A).tdiv g).tmod m * x.tmod m).tmod m
/-- The least number from low on that is f off some steps. -/
def cmUp (f low y : Int) : Int := if f < low then (if (low - f).tmod y > 0 then low + (y - (low - f).tmod y) else low) else f - (f - low).tdiv y * y

theorem cmUp_spec {f low y : Int} (hy : 1 ≤ y) : low ≤ cmUp f low y ∧ cmUp f low y < low + y ∧ ∃ p, cmUp f low y = f + y * p := by
  unfold cmUp
  by_cases h : f < low
  · rw [if_pos h]
    have h1 := Int.tmod_eq_emod_of_nonneg (b := y) (show 0 ≤ low - f by omega)
    have h2 := Int.mul_ediv_add_emod (low - f) y
    have h3 := Int.emod_nonneg (low - f) (show y ≠ 0 by omega)
    have h4 := Int.emod_lt_of_pos (low - f) (show 0 < y by omega)
    rw [h1]
    by_cases hd : (low - f) % y > 0
    · rw [if_pos hd]
      refine ⟨by omega, by omega, (low - f) / y + 1, ?_⟩
      rw [Int.mul_add, Int.mul_one]; omega
    · rw [if_neg hd]
      exact ⟨by omega, by omega, (low - f) / y, by omega⟩
  · rw [if_neg h]
    have h1 := Int.tdiv_eq_ediv_of_nonneg (b := y) (show 0 ≤ f - low by omega)
    have h2 := Int.mul_ediv_add_emod (f - low) y
    have h3 := Int.emod_nonneg (f - low) (show y ≠ 0 by omega)
    have h4 := Int.emod_lt_of_pos (f - low) (show 0 < y by omega)
    rw [h1, Int.mul_comm]
    refine ⟨by omega, by omega, -((f - low) / y), ?_⟩
    rw [Int.mul_neg]; omega

theorem cm_first {s t g x A B s' m Q u : Int} (h1 : s = g * s') (h2 : t = g * m) (h3 : g = s * x + t * u) (h4 : B - A = g * Q) (hg : 1 ≤ g) (hm : 1 ≤ m) :
    ∃ q, A + s * cmK A B g m x = B + t * q := by
  have e1 : (B - A).tdiv g = Q := by rw [h4]; exact Int.mul_tdiv_cancel_left _ (by omega)
  unfold cmK
  rw [e1]
  have d1 := Int.tmod_def Q m
  have d2 := Int.tmod_def x m
  have d3 := Int.tmod_def (Q.tmod m * x.tmod m) m
  generalize Q.tmod m = Q1 at *
  generalize x.tmod m = x1 at *
  generalize (Q1 * x1).tmod m = K at *
  generalize Q.tdiv m = i at *
  generalize x.tdiv m = j at *
  generalize (Q1 * x1).tdiv m = l at *
  exact ⟨s' * (-(Q * j) - i * x + m * i * j - l) - Q * u, by subst d1; subst d2; grind⟩

/-- A number is in both progressions just if it is so many steps off the first one. -/
theorem cm_both {s t g x A B s' m u f n : Int} (h1 : s = g * s') (h2 : t = g * m) (h3 : g = s * x + t * u) (hg : 1 ≤ g) (hfa : ∃ p, f = A + s * p) (hfb : ∃ q, f = B + t * q) :
    ((∃ p, n = A + s * p) ∧ ∃ q, n = B + t * q) ↔ ∃ p, n = f + s * m * p := by
  obtain ⟨p0, hp0⟩ := hfa
  obtain ⟨q0, hq0⟩ := hfb
  constructor
  · rintro ⟨⟨p, hp⟩, q, hq⟩
    have hb : 1 = s' * x + m * u := by
      have : g * 1 = g * (s' * x + m * u) := by rw [Int.mul_one]; grind
      exact Int.eq_of_mul_eq_mul_left (by omega) this
    have hd : s * (p - p0) = t * (q - q0) := by grind
    have hd' : s' * (p - p0) = m * (q - q0) := by
      have : g * (s' * (p - p0)) = g * (m * (q - q0)) := by grind
      exact Int.eq_of_mul_eq_mul_left (by omega) this
    refine ⟨(q - q0) * x + u * (p - p0), ?_⟩
    have : p - p0 = m * ((q - q0) * x + u * (p - p0)) := by grind
    grind
  · rintro ⟨p, hp⟩
    exact ⟨⟨p0 + m * p, by grind⟩, q0 + s' * p, by grind⟩

/-- Where the firsts are no multiple of the divisor apart there is none. -/
theorem cm_none {s t g s' m A B n : Int} (h1 : s = g * s') (h2 : t = g * m) (hn : (B - A).tmod g ≠ 0) : ¬ ((∃ p, n = A + s * p) ∧ ∃ q, n = B + t * q) := by
  rintro ⟨⟨p, hp⟩, q, hq⟩
  apply hn
  have : B - A = g * (s' * p - m * q) := by grind
  rw [this]
  exact Int.mul_tmod_right _ _

/-- What lies in a progression and from low to high: so many steps off the least. -/
theorem cm_clamp {f low high y n : Int} (hy : 1 ≤ y) : ((∃ p, n = f + y * p) ∧ low ≤ n ∧ n ≤ high) ↔ (cmUp f low y ≤ n ∧ n ≤ high ∧ ∃ p, n = cmUp f low y + y * p) := by
  obtain ⟨h1, h2, p0, h3⟩ := cmUp_spec (f := f) (low := low) hy
  constructor
  · rintro ⟨⟨p, hp⟩, hl, hh⟩
    have he : n = cmUp f low y + y * (p - p0) := by rw [h3, Int.mul_sub]; omega
    refine ⟨?_, hh, p - p0, he⟩
    rcases Int.lt_or_le (p - p0) 0 with hneg | hpos
    · have := Int.mul_le_mul_of_nonneg_left (show p - p0 ≤ -1 by omega) (show (0 : Int) ≤ y by omega)
      omega
    · have := Int.mul_le_mul_of_nonneg_left hpos (show (0 : Int) ≤ y by omega)
      omega
  · rintro ⟨hl, hh, p, hp⟩
    exact ⟨⟨p0 + p, by rw [hp, h3, Int.mul_add]; omega⟩, by omega, hh⟩

/-- The divisor and the factor that the program finds. -/
theorem eu_facts {s t : Int} (hs : 1 ≤ s) (ht : 1 ≤ t) : 1 ≤ euG s t ∧ ((euX s t).natAbs : Int) ≤ t ∧ ∃ s' m u, s = euG s t * s' ∧ t = euG s t * m ∧ 1 ≤ s' ∧ 1 ≤ m ∧ m ≤ t ∧ s' ≤ s ∧ euG s t = s * euX s t + t * u ∧ cmM t (euG s t) = m := by
  obtain ⟨h1, ⟨u, hu⟩, h3⟩ := eu_spec (a := s) (b := t) (by omega) (by omega)
  have hpos : 1 ≤ euG s t := by
    rw [h1]
    have : 0 < Int.gcd s t := Int.gcd_pos_of_ne_zero_left t (by omega)
    omega
  obtain ⟨s', hs'⟩ : euG s t ∣ s := by rw [h1]; exact Int.gcd_dvd_left s t
  obtain ⟨m, hm⟩ : euG s t ∣ t := by rw [h1]; exact Int.gcd_dvd_right s t
  generalize euG s t = g at *
  have hs1 : 1 ≤ s' := by
    rcases Int.lt_or_le 0 s' with h | h
    · omega
    · have := Int.mul_le_mul_of_nonneg_left h (show (0 : Int) ≤ g by omega); omega
  have hm1 : 1 ≤ m := by
    rcases Int.lt_or_le 0 m with h | h
    · omega
    · have := Int.mul_le_mul_of_nonneg_left h (show (0 : Int) ≤ g by omega); omega
  have h5 := Int.mul_le_mul_of_nonneg_right hpos (show (0 : Int) ≤ m by omega)
  have h6 := Int.mul_le_mul_of_nonneg_right hpos (show (0 : Int) ≤ s' by omega)
  refine ⟨hpos, by omega, s', m, u, hs', hm, hs1, hm1, by omega, by omega, hu, ?_⟩
  unfold cmM
  have : (g * m).tdiv g = m := Int.mul_tdiv_cancel_left _ (by omega)
  rw [← hm] at this
  exact this

def cmF0 (A s B t : Int) : Int := A + s * cmK A B (euG s t) (cmM t (euG s t)) (euX s t)
def cmY (s t : Int) : Int := s * cmM t (euG s t)
def cmHi (A s C B t D : Int) : Int := min (sLast A s C) (sLast B t D)
def cmV (A s B t : Int) : Int := cmUp (cmF0 A s B t) (max A B) (cmY s t)
def cmE (A s C B t D : Int) : Bool := decide (C = 0 ∨ D = 0 ∨ (B - A).tmod (euG s t) ≠ 0 ∨ cmHi A s C B t D < cmV A s B t)
def cmFst (A s C B t D : Int) : Int := if cmE A s C B t D = true then 0 else cmV A s B t
def cmBy (A s C B t D : Int) : Int := if cmE A s C B t D = true then 0 else cmY s t
def cmCnt (A s C B t D : Int) : Int := if cmE A s C B t D = true then 0 else (cmHi A s C B t D - cmV A s B t).tdiv (cmY s t) + 1
/-- A series upwards that lies in the limits, or nothing. -/
def Ser (A s C : Int) : Prop := C = 0 ∨ (1 ≤ C ∧ C ≤ 2000001 ∧ 1 ≤ s ∧ s ≤ 2000000 ∧ -1000000 ≤ A ∧ A + s * (C - 1) ≤ 1000000)
end Go.RX.Span

/- Euclid's algorithm: the walk. -/
set_option linter.unusedVariables false
set_option linter.unusedSimpArgs false
set_option maxRecDepth 100000
namespace Go.RX.Span
open Go Go.RX

set_option maxRecDepth 100000 in
theorem t_U (n0 : Nat) (x0 x1 y0 y1 : Int) : (sx E0 [] n0 (loopOf P 127 2) (mkS 41 [6, 7] [.ptr 0 0, .ptr 1 0], [(0, some (.cells [.lit (.int .i64 x0), .lit (.int .i64 x1)] 103)), (0, some (.cells [.lit (.int .i64 y0), .lit (.int .i64 y1)] 103))])).bind (proj 41 [6, 7]) =
    T.br (U.ne y0 (0 : Int)) (.ask (y0 ≠ (0 : Int)) (.ret (Ex.normal, [SV.ptr (nat_lit 0) (nat_lit 0), SV.ptr (nat_lit 1) (nat_lit 0)], [(nat_lit 1, some (Blk.cells [.lit (.int .i64
      y0), .lit (.int .i64 y1)] (nat_lit 103))), (nat_lit 1, some (Blk.cells [.lit (.int .i64 (U.sub .i64 x0 (U.mul .i64 (U.quo .i64 x0 y0) y0))), .lit (.int .i64 (U.sub .i64 x1 (U.mul
      .i64 (U.quo .i64 x0 y0) y1)))] (nat_lit 103)))]))) (.ret (Ex.exit (nat_lit 0), [SV.ptr (nat_lit 0) (nat_lit 0), SV.ptr (nat_lit 1) (nat_lit 0)], [(nat_lit 0, some (Blk.cells [.lit
      (.int .i64 x0), .lit (.int .i64 x1)] (nat_lit 103))), (nat_lit 0, some (Blk.cells [.lit (.int .i64 y0), .lit (.int .i64 y1)] (nat_lit 103)))])) := by kernel_rfl
theorem roundU (n0 : Nat) (x : XU) (hx : PhiU n0 x) : ((sx E0 [] n0 (loopOf P 127 2) (mkS 41 [6, 7] (VU x).1, (VU x).2)).bind (proj 41 [6, 7])).All fun r => match r.1 with
      | .normal => ∃ x', PhiU n0 x' ∧ x'.k < x.k ∧ Wk 41 [6, 7] n0 r.2 (VU x') ∧ ∀ o, o = OU x' → o = OU x
      | e => ∃ s, (e, s) = OU x ∧ Wk 41 [6, 7] n0 r.2 s := by
  obtain ⟨a, b, x0, x1, y0, y1, k⟩ := x
  unfold VU
  dsimp only
  refine T.all_of_eq (t_U n0 x0 x1 y0 y1) ?_
  obtain ⟨⟨h0, ha0, ha1, hb0, hb1⟩, hi, hk, hx4, hy4⟩ := hx
  simp only [] at h0 ha0 ha1 hb0 hb1 hi hk hx4 hy4
  by_cases hy : y0 = 0
  · subst hy
    simp only [T.All, U.le_t, U.le_f, U.lt_t, U.lt_f, U.gt_t, U.gt_f, U.ge_t, U.ge_f, U.eq_t, U.eq_f, U.ne_t, U.ne_f, U.not_t, U.not_f, U.andb_t, U.andb_f, SV.lit.injEq, SV.agg.injEq, SV.tup.injEq, List.cons.injEq, Value.int.injEq, Value.bool.injEq, true_and, and_true, lk_eq]
    refine ⟨fun h => absurd rfl h, fun _ => ⟨(OU ⟨a, b, x0, x1, 0, y1, k⟩).2, rfl, ?_⟩⟩
    have e : eg k x0 x1 0 y1 = (x0, x1) := by cases k <;> simp [eg]
    refine wk_of (idR 2) rfl h0 (fun b hb => idR_of (by omega)) ⟨⟨rfl, rfl⟩, ⟨rfl, rfl⟩, trivial⟩ ⟨⟨rfl, ⟨?_, ?_, trivial⟩⟩, ⟨rfl, ⟨rl_any _, rl_any _, trivial⟩⟩, trivial⟩
    · show Value.int .i64 x0 = Value.int .i64 (eg k x0 x1 0 y1).1
      rw [e]
    · show Value.int .i64 x1 = Value.int .i64 (eg k x0 x1 0 y1).2
      rw [e]
  · obtain ⟨k', rfl⟩ : ∃ k', k = k' + 1 := ⟨k - 1, by omega⟩
    have hy' : 0 < y0 := by have := hi.hy; omega
    obtain ⟨q1, q2, q3, q4, q5, q6, q7, q8⟩ := einv_q hi.hx hy'
    have hi' := einv_step hi hy
    have hbx := hi.bx
    have hb1' := hi.b1
    have hbs := hi'.b1
    have hx0 := hi.hx
    have e1 : U.quo .i64 x0 y0 = x0.tdiv y0 := U.quo64 (by rw [q1]; unfold I64; omega)
    have e2 : U.mul .i64 (x0.tdiv y0) y0 = x0.tdiv y0 * y0 := U.mul64 (by rw [q1]; unfold I64; omega)
    have e3 : U.sub .i64 x0 (x0.tdiv y0 * y0) = x0 - x0.tdiv y0 * y0 := U.sub64 (by rw [q1]; unfold I64; omega)
    have e4 : U.mul .i64 (x0.tdiv y0) y1 = x0.tdiv y0 * y1 := U.mul64 (by unfold I64; omega)
    have e5 : U.sub .i64 x1 (x0.tdiv y0 * y1) = x1 - x0.tdiv y0 * y1 := U.sub64 (by unfold I64; omega)
    simp only [T.All, U.le_t, U.le_f, U.lt_t, U.lt_f, U.gt_t, U.gt_f, U.ge_t, U.ge_f, U.eq_t, U.eq_f, U.ne_t, U.ne_f, U.not_t, U.not_f, U.andb_t, U.andb_f, SV.lit.injEq, SV.agg.injEq, SV.tup.injEq, List.cons.injEq, Value.int.injEq, Value.bool.injEq, true_and, and_true, lk_eq, e1, e2, e3, e4, e5]
    refine ⟨fun _ => ⟨hy, ⟨a, b, y0, y1, x0 - x0.tdiv y0 * y0, x1 - x0.tdiv y0 * y1, k'⟩, ⟨⟨h0, ha0, ha1, hb0, hb1⟩, hi', ?_, hy4, ?_⟩, Nat.lt_succ_self _, ?_, fun o ho => ?_⟩, fun h => absurd h hy⟩
    · show (x0 - x0.tdiv y0 * y0).toNat < k'
      rw [q1]; omega
    · show x0 - x0.tdiv y0 * y0 ≤ 4000000
      rw [q1]; omega
    · exact wk_of (idR 2) rfl h0 (fun b hb => idR_of (by omega)) ⟨⟨rfl, rfl⟩, ⟨rfl, rfl⟩, trivial⟩ ⟨⟨rfl, ⟨rfl, rfl, trivial⟩⟩, ⟨rfl, ⟨rfl, rfl, trivial⟩⟩, trivial⟩
    · rw [ho]
      have e : eg (k' + 1) x0 x1 y0 y1 = eg k' y0 y1 (x0 - x0.tdiv y0 * y0) (x1 - x0.tdiv y0 * y1) := by rw [eg, if_neg hy]
      simp only [OU, e]
theorem loopU : LoopOK P (loopOf P 127 2) (few 41 [6, 7] gU) :=
  loop_few (E := E0) mixed E0_ok loopsOK_none 41 [6, 7] (X := XU) gU (fun _ x => VU x) PhiU (fun x => x.k) (fun _ x o => o = OU x)
    (fun n0 s r h => by
      unfold gU at h
      split at h
      · rename_i n0 g1 a g2 b
        obtain ⟨h0, ha0, ha1, hb0, hb1⟩ := (T.is_ask h).1
        obtain rfl := T.is_ret (T.is_ask h).2
        refine ⟨⟨a, b, a, 1, b, 0, b.toNat + 1⟩, ⟨⟨h0, ha0, ha1, hb0, hb1⟩, einv_start ha0 hb0, Nat.lt_succ_self _, ha1, hb1⟩, ?_, fun o ho => ?_⟩
        · exact wk_of (idR 2) rfl h0 (fun b hb => idR_of (by omega)) ⟨⟨rfl, rfl⟩, ⟨rfl, rfl⟩, trivial⟩ ⟨⟨rfl, ⟨rfl, rfl, trivial⟩⟩, ⟨rfl, ⟨rfl, rfl, trivial⟩⟩, trivial⟩
        · rw [ho]
          simp only [OU, lk_eq, euG, euX]
      · exact h.elim)
    roundU
theorem l118_ok : ∀ p ∈ l118, LoopsOK P p.2 (bodyOf P p.1) := by
  intro p hp
  simp only [l118, List.mem_singleton] at hp
  subst hp
  refine loopsOK_of (by kernel_rfl) fun k g hk => ?_
  simp only [List.mem_singleton, Prod.mk.injEq, LoopC.sum.injEq] at hk
  obtain ⟨rfl, rfl⟩ := hk
  exact loopU
noncomputable def c_euclid : Con := fun args => match args with
  | [.lit (.int .i64 a), .lit (.int .i64 b)] => .ask (0 ≤ a ∧ a ≤ 4000000 ∧ 0 ≤ b ∧ b ≤ 4000000) (.ret (.tup [.lit (.int .i64 (lk euG a b)), .lit (.int .i64 (lk euX a b))]))
  | _ => .stuck 1
set_option maxRecDepth 100000 in
theorem t_euclid (a b : Int) : conB Go.Proofs.Try.prog (conOf []) (loopsOf l118) 10 127 [.lit (.int .i64 a), .lit (.int .i64 b)] =
    T.ask (PreU (nat_lit 0) a b) (.ret (.tup [.lit (.int .i64 (lk euG a b)), .lit (.int .i64 (lk euX a b))])) := by kernel_rfl
theorem euclid_ok : ConOK P 127 c_euclid := con_of (allOKL mixed none_ok l118_ok) 10 127 fun args r h => by
  unfold c_euclid at h
  split at h
  · rename_i a b
    have hp := (T.is_ask h).1
    have h := (T.is_ask h).2
    obtain rfl := T.is_ret h
    rw [t_euclid]
    have hpre : PreU 0 a b := ⟨by omega, hp⟩
    simp only [T.All, hpre, lk_eq, true_and]
    try simp
  · exact h.elim
end Go.RX.Span

/- What two series have both: the walk. -/
set_option linter.unusedVariables false
set_option linter.unusedSimpArgs false
set_option maxRecDepth 100000
namespace Go.RX.Span
open Go Go.RX

noncomputable abbrev kc : List (Nat × Con) := [(127, c_euclid), (117, c_last)] --%K
theorem kc_ok : ∀ p ∈ kc, ConOK P p.1 p.2 := by
  intro p hp
  simp only [kc, List.mem_cons, List.not_mem_nil, or_false] at hp
  rcases hp with rfl | rfl
  · exact euclid_ok
  · exact k7_ok (117, c_last) (by simp [k7, k6, k5, k4, k3, k2, k1])
theorem tmod_bnd {x m : Int} (hm : 1 ≤ m) : -m < x.tmod m ∧ x.tmod m < m := by
  have h1 := Int.tmod_lt_of_pos x (show 0 < m by omega)
  have h2 := Int.tmod_lt_of_pos (-x) (show 0 < m by omega)
  rw [Int.neg_tmod] at h2
  omega
theorem tdiv_bnd {x g N : Int} (hg : 1 ≤ g) (h : -N ≤ x ∧ x ≤ N) : -N ≤ x.tdiv g ∧ x.tdiv g ≤ N := by
  have h1 : (x.tdiv g).natAbs ≤ x.natAbs := by rw [Int.natAbs_tdiv]; exact Nat.div_le_self _ _
  omega
noncomputable def c_common : Con := fun args => match args with
  | [.agg [.lit (.int .i64 A), .lit (.int .i64 s), .lit (.int .i64 C)], .agg [.lit (.int .i64 B), .lit (.int .i64 t), .lit (.int .i64 D)]] =>
    .ask (Ser A s C ∧ Ser B t D) (.ret (.agg [.lit (.int .i64 (lk cmFst A s C B t D)), .lit (.int .i64 (lk cmBy A s C B t D)), .lit (.int .i64 (lk cmCnt A s C B t D))]))
  | _ => .stuck 1
set_option maxRecDepth 100000 in
theorem t_common (A s C B t D : Int) : conB Go.Proofs.Try.prog (conOf kc) noLoops 10 111 [.agg [.lit (.int .i64 A), .lit (.int .i64 s), .lit (.int .i64 C)], .agg [.lit (.int .i64 B), .lit (.int .i64 t), .lit (.int .i64 D)]] =
    T.br (U.eq C (0 : Int)) (.ret (.agg [.lit (.int .i64 0), .lit (.int .i64 0), .lit (.int .i64 0)])) (.br (U.eq D (0 : Int)) (.ret (.agg [.lit (.int .i64 0), .lit (.int .i64 0), .lit
      (.int .i64 0)])) (.ask ((0 : Int) ≤ s ∧ s ≤ (4000000 : Int) ∧ (0 : Int) ≤ t ∧ t ≤ (4000000 : Int)) (.ask (lk euG s t ≠ (0 : Int)) (.br (U.ne (U.rem (U.sub .i64 B A) (lk euG s t)) (0
      : Int)) (.ret (.agg [.lit (.int .i64 0), .lit (.int .i64 0), .lit (.int .i64 0)])) (.ask (lk euG s t ≠ (0 : Int)) (.ask (lk euG s t ≠ (0 : Int)) (.ask (U.quo .i64 t (lk euG s t) ≠
      (0 : Int)) (.ask (U.quo .i64 t (lk euG s t) ≠ (0 : Int)) (.ask (U.quo .i64 t (lk euG s t) ≠ (0 : Int)) (.ask (I64 (C - (1 : Int)) ∧ I64 (s * (C - (1 : Int))) ∧ I64 (A + s * (C - (1
      : Int)))) (.ask (I64 (D - (1 : Int)) ∧ I64 (t * (D - (1 : Int))) ∧ I64 (B + t * (D - (1 : Int)))) (.ask (U.mul .i64 s (U.quo .i64 t (lk euG s t)) ≠ (0 : Int)) (.br (U.lt (U.add .i64
      A (U.mul .i64 s (U.rem (U.mul .i64 (U.rem (U.quo .i64 (U.sub .i64 B A) (lk euG s t)) (U.quo .i64 t (lk euG s t))) (U.rem (lk euX s t) (U.quo .i64 t (lk euG s t)))) (U.quo .i64 t (lk
      euG s t))))) (U.mm true A B)) (.br (U.gt (U.rem (U.sub .i64 (U.mm true A B) (U.add .i64 A (U.mul .i64 s (U.rem (U.mul .i64 (U.rem (U.quo .i64 (U.sub .i64 B A) (lk euG s t)) (U.quo
      .i64 t (lk euG s t))) (U.rem (lk euX s t) (U.quo .i64 t (lk euG s t)))) (U.quo .i64 t (lk euG s t)))))) (U.mul .i64 s (U.quo .i64 t (lk euG s t)))) (0 : Int)) (.br (U.gt (U.add .i64
      (U.mm true A B) (U.sub .i64 (U.mul .i64 s (U.quo .i64 t (lk euG s t))) (U.rem (U.sub .i64 (U.mm true A B) (U.add .i64 A (U.mul .i64 s (U.rem (U.mul .i64 (U.rem (U.quo .i64 (U.sub
      .i64 B A) (lk euG s t)) (U.quo .i64 t (lk euG s t))) (U.rem (lk euX s t) (U.quo .i64 t (lk euG s t)))) (U.quo .i64 t (lk euG s t)))))) (U.mul .i64 s (U.quo .i64 t (lk euG s t))))))
      (U.mm false (lk sLast A s C) (lk sLast B t D))) (.ret (.agg [.lit (.int .i64 0), .lit (.int .i64 0), .lit (.int .i64 0)])) (.ask (U.mul .i64 s (U.quo .i64 t (lk euG s t)) ≠ (0 :
      Int)) (.ret (.agg [.lit (.int .i64 (U.add .i64 (U.mm true A B) (U.sub .i64 (U.mul .i64 s (U.quo .i64 t (lk euG s t))) (U.rem (U.sub .i64 (U.mm true A B) (U.add .i64 A (U.mul .i64 s
      (U.rem (U.mul .i64 (U.rem (U.quo .i64 (U.sub .i64 B A) (lk euG s t)) (U.quo .i64 t (lk euG s t))) (U.rem (lk euX s t) (U.quo .i64 t (lk euG s t)))) (U.quo .i64 t (lk euG s t))))))
      (U.mul .i64 s (U.quo .i64 t (lk euG s t))))))), .lit (.int .i64 (U.mul .i64 s (U.quo .i64 t (lk euG s t)))), .lit (.int .i64 (U.add .i64 (U.quo .i64 (U.sub .i64 (U.mm false (lk
      sLast A s C) (lk sLast B t D)) (U.add .i64 (U.mm true A B) (U.sub .i64 (U.mul .i64 s (U.quo .i64 t (lk euG s t))) (U.rem (U.sub .i64 (U.mm true A B) (U.add .i64 A (U.mul .i64 s
      (U.rem (U.mul .i64 (U.rem (U.quo .i64 (U.sub .i64 B A) (lk euG s t)) (U.quo .i64 t (lk euG s t))) (U.rem (lk euX s t) (U.quo .i64 t (lk euG s t)))) (U.quo .i64 t (lk euG s t))))))
      (U.mul .i64 s (U.quo .i64 t (lk euG s t))))))) (U.mul .i64 s (U.quo .i64 t (lk euG s t)))) (1 : Int)))])))) (.br (U.gt (U.mm true A B) (U.mm false (lk sLast A s C) (lk sLast B t
      D))) (.ret (.agg [.lit (.int .i64 0), .lit (.int .i64 0), .lit (.int .i64 0)])) (.ask (U.mul .i64 s (U.quo .i64 t (lk euG s t)) ≠ (0 : Int)) (.ret (.agg [.lit (.int .i64 (U.mm true
      A B)), .lit (.int .i64 (U.mul .i64 s (U.quo .i64 t (lk euG s t)))), .lit (.int .i64 (U.add .i64 (U.quo .i64 (U.sub .i64 (U.mm false (lk sLast A s C) (lk sLast B t D)) (U.mm true A
      B)) (U.mul .i64 s (U.quo .i64 t (lk euG s t)))) (1 : Int)))]))))) (.ask (U.mul .i64 s (U.quo .i64 t (lk euG s t)) ≠ (0 : Int)) (.br (U.gt (U.sub .i64 (U.add .i64 A (U.mul .i64 s
      (U.rem (U.mul .i64 (U.rem (U.quo .i64 (U.sub .i64 B A) (lk euG s t)) (U.quo .i64 t (lk euG s t))) (U.rem (lk euX s t) (U.quo .i64 t (lk euG s t)))) (U.quo .i64 t (lk euG s t)))))
      (U.mul .i64 (U.quo .i64 (U.sub .i64 (U.add .i64 A (U.mul .i64 s (U.rem (U.mul .i64 (U.rem (U.quo .i64 (U.sub .i64 B A) (lk euG s t)) (U.quo .i64 t (lk euG s t))) (U.rem (lk euX s t)
      (U.quo .i64 t (lk euG s t)))) (U.quo .i64 t (lk euG s t))))) (U.mm true A B)) (U.mul .i64 s (U.quo .i64 t (lk euG s t)))) (U.mul .i64 s (U.quo .i64 t (lk euG s t))))) (U.mm false
      (lk sLast A s C) (lk sLast B t D))) (.ret (.agg [.lit (.int .i64 0), .lit (.int .i64 0), .lit (.int .i64 0)])) (.ask (U.mul .i64 s (U.quo .i64 t (lk euG s t)) ≠ (0 : Int)) (.ret
      (.agg [.lit (.int .i64 (U.sub .i64 (U.add .i64 A (U.mul .i64 s (U.rem (U.mul .i64 (U.rem (U.quo .i64 (U.sub .i64 B A) (lk euG s t)) (U.quo .i64 t (lk euG s t))) (U.rem (lk euX s t)
      (U.quo .i64 t (lk euG s t)))) (U.quo .i64 t (lk euG s t))))) (U.mul .i64 (U.quo .i64 (U.sub .i64 (U.add .i64 A (U.mul .i64 s (U.rem (U.mul .i64 (U.rem (U.quo .i64 (U.sub .i64 B A)
      (lk euG s t)) (U.quo .i64 t (lk euG s t))) (U.rem (lk euX s t) (U.quo .i64 t (lk euG s t)))) (U.quo .i64 t (lk euG s t))))) (U.mm true A B)) (U.mul .i64 s (U.quo .i64 t (lk euG s
      t)))) (U.mul .i64 s (U.quo .i64 t (lk euG s t)))))), .lit (.int .i64 (U.mul .i64 s (U.quo .i64 t (lk euG s t)))), .lit (.int .i64 (U.add .i64 (U.quo .i64 (U.sub .i64 (U.mm false (lk
      sLast A s C) (lk sLast B t D)) (U.sub .i64 (U.add .i64 A (U.mul .i64 s (U.rem (U.mul .i64 (U.rem (U.quo .i64 (U.sub .i64 B A) (lk euG s t)) (U.quo .i64 t (lk euG s t))) (U.rem (lk
      euX s t) (U.quo .i64 t (lk euG s t)))) (U.quo .i64 t (lk euG s t))))) (U.mul .i64 (U.quo .i64 (U.sub .i64 (U.add .i64 A (U.mul .i64 s (U.rem (U.mul .i64 (U.rem (U.quo .i64 (U.sub
      .i64 B A) (lk euG s t)) (U.quo .i64 t (lk euG s t))) (U.rem (lk euX s t) (U.quo .i64 t (lk euG s t)))) (U.quo .i64 t (lk euG s t))))) (U.mm true A B)) (U.mul .i64 s (U.quo .i64 t
      (lk euG s t)))) (U.mul .i64 s (U.quo .i64 t (lk euG s t)))))) (U.mul .i64 s (U.quo .i64 t (lk euG s t)))) (1 : Int)))])))))))))))))))))) := by kernel_rfl
set_option maxHeartbeats 1000000 in
theorem common_ok : ConOK P 111 c_common := con_of (allOK mixed kc_ok) 10 111 fun args r h => by
  unfold c_common at h
  split at h
  · rename_i A s C B t D
    have hp := (T.is_ask h).1
    have h := (T.is_ask h).2
    obtain rfl := T.is_ret h
    rw [t_common]
    obtain ⟨hA, hB⟩ := hp
    by_cases hC : C = 0
    · have e : cmE A s C B t D = true := decide_eq_true (.inl hC)
      refine ⟨fun _ => ?_, fun h => absurd hC (by rwa [U.eq_f] at h)⟩
      simp only [lk_eq, cmFst, cmBy, cmCnt, e, if_true]
      exact rfl
    by_cases hD : D = 0
    · have e : cmE A s C B t D = true := decide_eq_true (.inr (.inl hD))
      refine ⟨fun h => absurd (by rwa [U.eq_t] at h) hC, fun _ => ⟨fun _ => ?_, fun h => absurd hD (by rwa [U.eq_f] at h)⟩⟩
      simp only [lk_eq, cmFst, cmBy, cmCnt, e, if_true]
      exact rfl
    obtain ⟨a1, a2, a3, a4, a5, a6⟩ : 1 ≤ C ∧ C ≤ 2000001 ∧ 1 ≤ s ∧ s ≤ 2000000 ∧ -1000000 ≤ A ∧ A + s * (C - 1) ≤ 1000000 := by rcases hA with h | h; exact absurd h hC; exact h
    obtain ⟨b1, b2, b3, b4, b5, b6⟩ : 1 ≤ D ∧ D ≤ 2000001 ∧ 1 ≤ t ∧ t ≤ 2000000 ∧ -1000000 ≤ B ∧ B + t * (D - 1) ≤ 1000000 := by rcases hB with h | h; exact absurd h hD; exact h
    obtain ⟨g1, g2, s', m, u, g3, g4, g5, g6, g7, g8, g9, g10⟩ := eu_facts a3 b3
    have hA1 := mulle (x := 0) (y := C - 1) a3 (by omega)
    have hB1 := mulle (x := 0) (y := D - 1) b3 (by omega)
    rw [Int.mul_zero] at hA1 hB1
    have e1 : U.sub .i64 B A = B - A := U.sub64 (by unfold I64; omega)
    have hQ := tdiv_bnd (x := B - A) (N := 2000000) g1 (by omega)
    have e2 : U.quo .i64 (B - A) (euG s t) = (B - A).tdiv (euG s t) := U.quo64 (by unfold I64; omega)
    have e3 : U.quo .i64 t (euG s t) = m := by rw [← g10]; exact U.quo64 (by show I64 (cmM t (euG s t)); rw [g10]; unfold I64; omega)
    have hQ1 := tmod_bnd (x := (B - A).tdiv (euG s t)) g6
    have hX1 := tmod_bnd (x := euX s t) g6
    have hP := mul_bnd (x := ((B - A).tdiv (euG s t)).tmod m) (y := (euX s t).tmod m) (X := 2000000) (Y := 2000000) (by omega) (by omega)
    have e4 : U.mul .i64 (((B - A).tdiv (euG s t)).tmod m) ((euX s t).tmod m) = ((B - A).tdiv (euG s t)).tmod m * (euX s t).tmod m := U.mul64 (by unfold I64; omega)
    have hK := tmod_bnd (x := ((B - A).tdiv (euG s t)).tmod m * (euX s t).tmod m) g6
    have hKe : cmK A B (euG s t) (cmM t (euG s t)) (euX s t) = (((B - A).tdiv (euG s t)).tmod m * (euX s t).tmod m).tmod m := by rw [g10]; rfl
    have hF0 : cmF0 A s B t = A + s * (((B - A).tdiv (euG s t)).tmod m * (euX s t).tmod m).tmod m := by unfold cmF0; rw [hKe]
    have hY : cmY s t = s * m := by unfold cmY; rw [g10]
    have hSK := mul_bnd (x := s) (y := (((B - A).tdiv (euG s t)).tmod m * (euX s t).tmod m).tmod m) (X := 2000000) (Y := 2000000) (by omega) (by omega)
    have hSM := mul_bnd (x := s) (y := m) (X := 2000000) (Y := 2000000) (by omega) (by omega)
    have hSM1 := mulle (s := s) (x := 1) (y := m) a3 g6
    rw [Int.mul_one] at hSM1
    have e5 : U.mul .i64 s (((((B - A).tdiv (euG s t)).tmod m * (euX s t).tmod m)).tmod m) = s * (((B - A).tdiv (euG s t)).tmod m * (euX s t).tmod m).tmod m := U.mul64 (by unfold I64; omega)
    have e6 : U.add .i64 A (s * (((B - A).tdiv (euG s t)).tmod m * (euX s t).tmod m).tmod m) = cmF0 A s B t := by rw [hF0]; exact U.add64 (by unfold I64; omega)
    have e7 : U.mul .i64 s m = cmY s t := by rw [hY]; exact U.mul64 (by unfold I64; omega)
    have hF0b : -4000001000000 ≤ cmF0 A s B t ∧ cmF0 A s B t ≤ 4000001000000 := by rw [hF0]; omega
    have hYb : 1 ≤ cmY s t ∧ cmY s t ≤ 4000000000000 := by rw [hY]; omega
    obtain ⟨v1, v2, _⟩ := cmUp_spec (f := cmF0 A s B t) (low := max A B) hYb.1
    have hHi : min (sLast A s C) (sLast B t D) = cmHi A s C B t D := rfl
    have hHb : -1000000 ≤ cmHi A s C B t D ∧ cmHi A s C B t D ≤ 1000000 := by unfold cmHi sLast; omega
    obtain ⟨L, hL⟩ : ∃ L, L = max A B := ⟨_, rfl⟩
    have hLb : -1000000 ≤ L ∧ L ≤ 1000000 := by
      have : A ≤ 1000000 := by omega
      omega
    have e8 : U.sub .i64 L (cmF0 A s B t) = L - cmF0 A s B t := U.sub64 (by unfold I64; omega)
    have e9 : U.sub .i64 (cmF0 A s B t) L = cmF0 A s B t - L := U.sub64 (by unfold I64; omega)
    have hqb := tdiv_bnd (x := cmF0 A s B t - L) (g := cmY s t) (N := 8000000000000) hYb.1 (by omega)
    have e10 : U.quo .i64 (cmF0 A s B t - L) (cmY s t) = (cmF0 A s B t - L).tdiv (cmY s t) := U.quo64 (by unfold I64; omega)
    simp only [lk_eq, mm_max, mm_min, U.rem_eq, e1, e2, e3, e4, e5, e6, e7, hHi, ← hL, e8, e9, e10]
    have hV : cmV A s B t = cmUp (cmF0 A s B t) L (cmY s t) := by rw [hL]; rfl
    rw [← hL, ← hV] at v1 v2
    have fin : ∀ v, cmV A s B t = v → (B - A).tmod (euG s t) = 0 → T.All (fun x => x = SV.agg [SV.lit (.int .i64 (cmFst A s C B t D)), SV.lit (.int .i64 (cmBy A s C B t D)), SV.lit (.int .i64 (cmCnt A s C B t D))])
        (T.br (U.gt v (cmHi A s C B t D)) (T.ret (SV.agg [SV.lit (.int .i64 0), SV.lit (.int .i64 0), SV.lit (.int .i64 0)]))
          (T.ask (cmY s t ≠ 0) (T.ret (SV.agg [SV.lit (.int .i64 v), SV.lit (.int .i64 (cmY s t)), SV.lit (.int .i64 (U.add .i64 (U.quo .i64 (U.sub .i64 (cmHi A s C B t D) v) (cmY s t)) 1))])))) := fun v hv hz => by
      by_cases hgt : cmHi A s C B t D < v
      · have e : cmE A s C B t D = true := decide_eq_true (.inr (.inr (.inr (by rw [hv]; exact hgt))))
        refine ⟨fun _ => ?_, fun h => absurd hgt (by rw [U.gt_f] at h; omega)⟩
        simp only [cmFst, cmBy, cmCnt, e, if_true]
        exact rfl
      · have e : cmE A s C B t D = false := decide_eq_false (by
          rintro (h | h | h | h)
          · exact hC h
          · exact hD h
          · exact h hz
          · rw [hv] at h; exact hgt h)
        refine ⟨fun h => absurd (by rw [U.gt_t] at h; omega) hgt, fun _ => ⟨by omega, ?_⟩⟩
        have f1 : U.sub .i64 (cmHi A s C B t D) v = cmHi A s C B t D - v := U.sub64 (by unfold I64; omega)
        have hqv := tdiv_bnd (x := cmHi A s C B t D - v) (g := cmY s t) (N := 8000000000000) hYb.1 (by omega)
        have f2 : U.quo .i64 (cmHi A s C B t D - v) (cmY s t) = (cmHi A s C B t D - v).tdiv (cmY s t) := U.quo64 (by unfold I64; omega)
        have f3 : U.add .i64 ((cmHi A s C B t D - v).tdiv (cmY s t)) 1 = (cmHi A s C B t D - v).tdiv (cmY s t) + 1 := U.add64 (by unfold I64; omega)
        rw [f1, f2, f3]
        simp only [cmFst, cmBy, cmCnt, e, hv]
        exact rfl
    have hAC : I64 (C - 1) ∧ I64 (s * (C - 1)) ∧ I64 (A + s * (C - 1)) := by unfold I64; omega
    have hBD : I64 (D - 1) ∧ I64 (t * (D - 1)) ∧ I64 (B + t * (D - 1)) := by unfold I64; omega
    refine ⟨fun h => absurd (by rwa [U.eq_t] at h) hC, fun _ => ⟨fun h => absurd (by rwa [U.eq_t] at h) hD, fun _ => ⟨by omega, by omega, fun h => ?_, fun h => ⟨by omega, by omega, by omega, by omega, by omega, hAC, hBD, by omega, fun hlt => ⟨fun hd => ?_, fun hd => ?_⟩, fun hge => ⟨by omega, ?_⟩⟩⟩⟩⟩
    · rw [U.ne_t] at h
      have e : cmE A s C B t D = true := decide_eq_true (.inr (.inr (.inl h)))
      simp only [cmFst, cmBy, cmCnt, e, if_true]
      exact rfl
    · rw [U.lt_t] at hlt
      rw [U.gt_t] at hd
      rw [U.ne_f] at h
      have hdb := tmod_bnd (x := L - cmF0 A s B t) hYb.1
      have f1 : U.sub .i64 (cmY s t) ((L - cmF0 A s B t).tmod (cmY s t)) = cmY s t - (L - cmF0 A s B t).tmod (cmY s t) := U.sub64 (by unfold I64; omega)
      have f2 : U.add .i64 L (cmY s t - (L - cmF0 A s B t).tmod (cmY s t)) = L + (cmY s t - (L - cmF0 A s B t).tmod (cmY s t)) := U.add64 (by unfold I64; omega)
      rw [f1, f2]
      exact fin _ (by rw [hV]; unfold cmUp; rw [if_pos hlt, if_pos hd]) h
    · rw [U.lt_t] at hlt
      rw [U.gt_f] at hd
      rw [U.ne_f] at h
      exact fin _ (by rw [hV]; unfold cmUp; rw [if_pos hlt, if_neg (by omega)]) h
    · rw [U.lt_f] at hge
      rw [U.ne_f] at h
      have t1 := Int.tdiv_eq_ediv_of_nonneg (b := cmY s t) (show 0 ≤ cmF0 A s B t - L by omega)
      have t2 := Int.mul_ediv_add_emod (cmF0 A s B t - L) (cmY s t)
      have t3 := Int.emod_nonneg (cmF0 A s B t - L) (show cmY s t ≠ 0 by omega)
      have t4 := Int.emod_lt_of_pos (cmF0 A s B t - L) (show 0 < cmY s t by omega)
      have t5 : (cmF0 A s B t - L).tdiv (cmY s t) * cmY s t = cmY s t * ((cmF0 A s B t - L) / cmY s t) := by rw [t1, Int.mul_comm]
      have f1 : U.mul .i64 ((cmF0 A s B t - L).tdiv (cmY s t)) (cmY s t) = (cmF0 A s B t - L).tdiv (cmY s t) * cmY s t := U.mul64 (by rw [t5]; unfold I64; omega)
      have f2 : U.sub .i64 (cmF0 A s B t) ((cmF0 A s B t - L).tdiv (cmY s t) * cmY s t) = cmF0 A s B t - (cmF0 A s B t - L).tdiv (cmY s t) * cmY s t := U.sub64 (by rw [t5]; unfold I64; omega)
      rw [f1, f2]
      exact fin _ (by rw [hV]; unfold cmUp; rw [if_neg (by omega)]) h
  · exact h.elim
end Go.RX.Span

/- Ranges: the order of their numbers, in plain Lean. -/
set_option linter.unusedVariables false
set_option linter.unusedSimpArgs false
namespace Go.RX.Span
open Go Go.RX

section
variable {a b c : Int}
/-- The k-th number of a right range, by the sign of its stride. -/
theorem num_eq {k : Nat} (hr : Right a b c) (hab : a ≤ b) : num a b c k = (if c < 0 then b else a) + c * k := by
  obtain ⟨_, _, _, _, _, p6, p7, _⟩ := parts hr hab
  unfold num; rw [p6, p7]
theorem right_dvd' (hr : Right a b c) (hab : a ≤ b) : c ∣ b - a := by
  rcases hr.2 with h | h | h
  · omega
  · rw [show b - a = 0 by omega]; exact Int.dvd_zero _
  · exact Int.dvd_of_emod_eq_zero h.2.2
theorem num_between {k : Nat} (hr : Right a b c) (hab : a ≤ b) (hk : (k : Int) < ofC a b c) : a ≤ num a b c k ∧ num a b c k ≤ b := by
  obtain ⟨p1, p2, p3, p4, p5, p6, p7, p8, p9, p10⟩ := parts hr hab
  have m1 := mulle (s := absI c) (x := 0) (y := (k : Int)) p1 (by omega)
  have m2 := mulle (s := absI c) (x := (k : Int)) (y := ofC a b c - 1) p1 (by omega)
  rw [Int.mul_zero] at m1
  rw [num_eq hr hab]
  by_cases hc : c < 0
  · rw [if_pos hc]
    have e : c * k = -(absI c * k) := by rw [absI_neg hc, Int.neg_mul, Int.neg_neg]
    rw [e]
    generalize absI c * (k : Int) = z at *
    omega
  · rw [if_neg hc]
    have e : c * k = absI c * k := by rw [absI_pos hc]
    rw [e]
    generalize absI c * (k : Int) = z at *
    omega
theorem num_mod {k : Nat} (hr : Right a b c) (hab : a ≤ b) : (num a b c k - a) % c = 0 := by
  rw [num_eq hr hab]
  have hd := right_dvd' hr hab
  apply Int.emod_eq_zero_of_dvd
  by_cases hc : c < 0
  · rw [if_pos hc, show b + c * k - a = (b - a) + c * k by omega]
    exact Int.dvd_add hd (Int.dvd_mul_right c k)
  · rw [if_neg hc, show a + c * k - a = c * k by omega]
    exact Int.dvd_mul_right c k
theorem num_has {k : Nat} (hr : Right a b c) (hab : a ≤ b) (hk : (k : Int) < ofC a b c) : has a b c (num a b c k) = true := by
  have h1 := num_between hr hab hk
  unfold has
  exact decide_eq_true ⟨chk_zero.2 hr, h1.1, h1.2, num_mod hr hab⟩
theorem num_pos {k : Nat} (hr : Right a b c) (hab : a ≤ b) (hk : (k : Int) < ofC a b c) : pos a b c (num a b c k) = k := by
  have hc := right_c hr
  unfold pos
  rw [num_has hr hab hk, num_eq hr hab]
  simp only [if_true]
  by_cases h : c < 0
  · rw [if_pos h, if_pos h, show b - (b + c * (k : Int)) = (-c) * k by rw [Int.neg_mul]; omega]
    exact Int.mul_ediv_cancel_left _ (by omega)
  · rw [if_neg h, if_neg h, show a + c * (k : Int) - a = c * k by omega]
    exact Int.mul_ediv_cancel_left _ (by omega)
theorem num_nth {k : Nat} (hr : Right a b c) (hk : (k : Int) < ofC a b c) : nthE a b c k = 0 ∧ nth a b c k = num a b c k := by
  have e : nthE a b c k = 0 := by
    unfold nthE; rw [if_neg (by rw [chk_zero.2 hr]; simp), if_neg (by omega)]
  exact ⟨e, by unfold nth num; rw [e]; simp⟩
end
end Go.RX.Span

/- Ranges: what By of By, and Count twice, come to, in plain Lean. -/
set_option linter.unusedVariables false
set_option linter.unusedSimpArgs false
namespace Go.RX.Span
open Go Go.RX

/-- A range upwards, out of its first number, its step and how many steps it has. -/
theorem rgU {F s q : Int} (hs : 1 ≤ s) (hq : 0 ≤ q) (h1 : -1000000 ≤ F) (h2 : F + s * q ≤ 1000000) :
    Right F (F + s * q) (if q = 0 then 1 else s) ∧ F ≤ F + s * q ∧ ofC F (F + s * q) (if q = 0 then 1 else s) = q + 1 ∧ ∀ j : Nat, (j : Int) ≤ q → num F (F + s * q) (if q = 0 then 1 else s) j = F + s * j := by
  have h0 := mulle (s := s) (x := 0) (y := q) hs hq
  rw [Int.mul_zero] at h0
  by_cases hz : q = 0
  · subst hz
    simp only [if_true, Int.mul_zero, Int.add_zero]
    have hr : Right F F 1 := ⟨by rw [Int.mul_zero] at h2; omega, .inr (.inl ⟨rfl, rfl⟩)⟩
    refine ⟨hr, Int.le_refl _, ?_, fun j hj => ?_⟩
    · simp [ofC]
    · obtain rfl : j = 0 := by omega
      rw [num_eq hr (Int.le_refl _)]; simp
  · rw [if_neg hz]
    have hsq := mulle (s := s) (x := 1) (y := q) hs (by omega)
    rw [Int.mul_one] at hsq
    have hr : Right F (F + s * q) s := ⟨by omega, .inr (.inr ⟨by omega, by omega, by rw [show F + s * q - F = s * q by omega]; exact Int.mul_emod_right s q⟩)⟩
    refine ⟨hr, by omega, ?_, fun j hj => ?_⟩
    · unfold ofC
      rw [if_neg (by omega), if_neg (by omega), show F + s * q - F = s * q by omega, Int.mul_ediv_cancel_left _ (by omega)]
    · rw [num_eq hr (by omega), if_neg (by omega)]
/-- And downwards. -/
theorem rgD {F s q : Int} (hs : 1 ≤ s) (hq : 0 ≤ q) (h1 : F ≤ 1000000) (h2 : -1000000 ≤ F - s * q) :
    Right (F - s * q) F (if q = 0 then 1 else -s) ∧ F - s * q ≤ F ∧ ofC (F - s * q) F (if q = 0 then 1 else -s) = q + 1 ∧ ∀ j : Nat, (j : Int) ≤ q → num (F - s * q) F (if q = 0 then 1 else -s) j = F - s * j := by
  have h0 := mulle (s := s) (x := 0) (y := q) hs hq
  rw [Int.mul_zero] at h0
  by_cases hz : q = 0
  · subst hz
    simp only [if_true, Int.mul_zero, Int.sub_zero]
    have hr : Right F F 1 := ⟨by rw [Int.mul_zero] at h2; omega, .inr (.inl ⟨rfl, rfl⟩)⟩
    refine ⟨hr, Int.le_refl _, ?_, fun j hj => ?_⟩
    · simp [ofC]
    · obtain rfl : j = 0 := by omega
      rw [num_eq hr (Int.le_refl _)]; simp
  · rw [if_neg hz]
    have hsq := mulle (s := s) (x := 1) (y := q) hs (by omega)
    rw [Int.mul_one] at hsq
    have hr : Right (F - s * q) F (-s) := ⟨by omega, .inr (.inr ⟨by omega, by omega, by
      rw [show F - (F - s * q) = (-s) * (-q) by rw [Int.neg_mul_neg]; omega]; exact Int.mul_emod_right (-s) (-q)⟩)⟩
    refine ⟨hr, by omega, ?_, fun j hj => ?_⟩
    · unfold ofC
      rw [if_neg (by omega), if_pos (by omega), show F - (F - s * q) = s * q by omega, Int.neg_neg, Int.mul_ediv_cancel_left _ (by omega)]
    · rw [num_eq hr (by omega), if_pos (by omega), Int.neg_mul]; omega

end Go.RX.Span

/- Ranges as sets of numbers, in plain Lean. -/
set_option linter.unusedVariables false
set_option linter.unusedSimpArgs false
namespace Go.RX.Span
open Go Go.RX

/-- The numbers of a series upwards. -/
def SIn (F s C n : Int) : Prop := F ≤ n ∧ n ≤ F + s * (C - 1) ∧ 0 < C ∧ ∃ p, n = F + s * p
/-- A series upwards in the limits, of whatever step, or nothing. -/
def Sw (F s C : Int) : Prop := C = 0 ∨ (1 ≤ C ∧ 1 ≤ s ∧ s ≤ 4000000000000 ∧ -1000000 ≤ F ∧ F + s * (C - 1) ≤ 1000000)
theorem sIn_first {F s C : Int} (hs : 1 ≤ s) (hC : 1 ≤ C) : SIn F s C F := by
  have := mulle (x := 0) (y := C - 1) hs (by omega)
  rw [Int.mul_zero] at this
  exact ⟨by omega, by omega, by omega, 0, by omega⟩
theorem sIn_last {F s C : Int} (hs : 1 ≤ s) (hC : 1 ≤ C) : SIn F s C (F + s * (C - 1)) := by
  have := mulle (x := 0) (y := C - 1) hs (by omega)
  rw [Int.mul_zero] at this
  exact ⟨by omega, by omega, by omega, C - 1, rfl⟩
theorem sIn_second {F s C : Int} (hs : 1 ≤ s) (hC : 2 ≤ C) : SIn F s C (F + s) := by
  have := mulle (x := 1) (y := C - 1) hs (by omega)
  rw [Int.mul_one] at this
  exact ⟨by omega, by omega, by omega, 1, by omega⟩

/-- What the program reckons for two series has just the numbers of both. -/
theorem cm_set {A s C B t D : Int} (hA : Ser A s C) (hB : Ser B t D) : Sw (cmFst A s C B t D) (cmBy A s C B t D) (cmCnt A s C B t D) ∧ ∀ n, SIn (cmFst A s C B t D) (cmBy A s C B t D) (cmCnt A s C B t D) n ↔ SIn A s C n ∧ SIn B t D n := by
  by_cases hC : C = 0
  · have e : cmE A s C B t D = true := decide_eq_true (.inl hC)
    simp only [cmFst, cmBy, cmCnt, e, if_true]
    exact ⟨.inl rfl, fun n => ⟨fun h => by have := h.2.2.1; omega, fun h => by have := h.1.2.2.1; omega⟩⟩
  by_cases hD : D = 0
  · have e : cmE A s C B t D = true := decide_eq_true (.inr (.inl hD))
    simp only [cmFst, cmBy, cmCnt, e, if_true]
    exact ⟨.inl rfl, fun n => ⟨fun h => by have := h.2.2.1; omega, fun h => by have := h.2.2.2.1; omega⟩⟩
  obtain ⟨a1, a2, a3, a4, a5, a6⟩ := hA.resolve_left hC
  obtain ⟨b1, b2, b3, b4, b5, b6⟩ := hB.resolve_left hD
  obtain ⟨g1, g2, s', m, u, g3, g4, g5, g6, g7, g8, g9, g10⟩ := eu_facts a3 b3
  have hA1 := mulle (x := 0) (y := C - 1) a3 (by omega)
  have hB1 := mulle (x := 0) (y := D - 1) b3 (by omega)
  rw [Int.mul_zero] at hA1 hB1
  by_cases hz : (B - A).tmod (euG s t) = 0
  · obtain ⟨Q, hQ⟩ := Int.dvd_of_tmod_eq_zero hz
    have hY : cmY s t = s * m := by unfold cmY; rw [g10]
    have hSM1 := mulle (s := s) (x := 1) (y := m) a3 g6
    rw [Int.mul_one] at hSM1
    have hYb : 1 ≤ cmY s t := by rw [hY]; omega
    have hYt : cmY s t ≤ 4000000000000 := by
      rw [hY]
      have := mulle (s := s) (x := m) (y := 2000000) a3 (by omega)
      omega
    have hfa : ∃ p, cmF0 A s B t = A + s * p := ⟨_, rfl⟩
    have hfb : ∃ q, cmF0 A s B t = B + t * q := by unfold cmF0; rw [g10]; exact cm_first g3 g4 g9 hQ g1 g6
    have both := fun n => cm_both (n := n) g3 g4 g9 g1 hfa hfb
    have clamp := fun n => cm_clamp (f := cmF0 A s B t) (low := max A B) (high := cmHi A s C B t D) (n := n) hYb
    have hHi : cmHi A s C B t D = min (A + s * (C - 1)) (B + t * (D - 1)) := rfl
    have key : ∀ n, (SIn A s C n ∧ SIn B t D n) ↔ (cmV A s B t ≤ n ∧ n ≤ cmHi A s C B t D ∧ ∃ p, n = cmV A s B t + cmY s t * p) := fun n => by
      rw [show cmV A s B t = cmUp (cmF0 A s B t) (max A B) (cmY s t) from rfl, ← clamp n, hY, ← both n, hHi]
      constructor
      · rintro ⟨⟨x1, x2, _, x3⟩, ⟨y1, y2, _, y3⟩⟩
        exact ⟨⟨x3, y3⟩, by omega, by omega⟩
      · rintro ⟨⟨x3, y3⟩, z1, z2⟩
        exact ⟨⟨by omega, by omega, by omega, x3⟩, ⟨by omega, by omega, by omega, y3⟩⟩
    obtain ⟨v1, v2, _⟩ := cmUp_spec (f := cmF0 A s B t) (low := max A B) hYb
    have v1' : max A B ≤ cmV A s B t := v1
    by_cases hgt : cmHi A s C B t D < cmV A s B t
    · have e : cmE A s C B t D = true := decide_eq_true (.inr (.inr (.inr hgt)))
      simp only [cmFst, cmBy, cmCnt, e, if_true]
      refine ⟨.inl rfl, fun n => ⟨fun h => by have := h.2.2.1; omega, fun h => ?_⟩⟩
      have := (key n).1 h
      omega
    · have e : cmE A s C B t D = false := decide_eq_false (by
        rintro (h | h | h | h)
        · exact hC h
        · exact hD h
        · exact h hz
        · exact hgt h)
      simp only [cmFst, cmBy, cmCnt, e, Bool.false_eq_true, if_false]
      have t1 := Int.tdiv_eq_ediv_of_nonneg (b := cmY s t) (show 0 ≤ cmHi A s C B t D - cmV A s B t by omega)
      have t2 := Int.mul_ediv_add_emod (cmHi A s C B t D - cmV A s B t) (cmY s t)
      have t3 := Int.emod_nonneg (cmHi A s C B t D - cmV A s B t) (show cmY s t ≠ 0 by omega)
      have t4 := Int.emod_lt_of_pos (cmHi A s C B t D - cmV A s B t) (show 0 < cmY s t by omega)
      have t5 := Int.ediv_nonneg (show 0 ≤ cmHi A s C B t D - cmV A s B t by omega) (show 0 ≤ cmY s t by omega)
      rw [t1]
      obtain ⟨q, hq⟩ : ∃ q, q = (cmHi A s C B t D - cmV A s B t) / cmY s t := ⟨_, rfl⟩
      rw [← hq] at t2 t5 ⊢
      refine ⟨.inr ⟨by omega, hYb, hYt, by omega, by rw [show q + 1 - 1 = q by omega]; omega⟩, fun n => ?_⟩
      rw [key n]
      unfold SIn
      rw [show q + 1 - 1 = q by omega]
      constructor
      · rintro ⟨x1, x2, x3, x4⟩
        exact ⟨x1, by omega, x4⟩
      · rintro ⟨x1, x2, p, hp⟩
        refine ⟨x1, ?_, by omega, p, hp⟩
        rcases Int.lt_or_le q p with h | h
        · have := mulle (s := cmY s t) (x := q + 1) (y := p) hYb (by omega)
          rw [Int.mul_add, Int.mul_one] at this
          omega
        · have := mulle (s := cmY s t) (x := p) (y := q) hYb h
          omega
  · have e : cmE A s C B t D = true := decide_eq_true (.inr (.inr (.inl hz)))
    simp only [cmFst, cmBy, cmCnt, e, if_true]
    exact ⟨.inl rfl, fun n => ⟨fun h => by have := h.2.2.1; omega, fun h => absurd ⟨h.1.2.2.2, h.2.2.2.2⟩ (cm_none g3 g4 hz)⟩⟩

/-- A right range as a series upwards. -/
def sA (a b c : Int) : Int := uF (ofF a b c) (ofB a b c) (ofC a b c)
def sS (a b c : Int) : Int := uB (ofF a b c) (ofB a b c) (ofC a b c)
theorem up_ser {a b c : Int} (hr : Right a b c) : Ser (sA a b c) (sS a b c) (ofC a b c) := by
  by_cases hab : a ≤ b
  · obtain ⟨p1, p2, p3, p4, p5, _⟩ := parts hr hab
    obtain ⟨u1, u2⟩ := up_of hr hab
    have hl := hr.1
    exact .inr (by unfold sA sS; rw [u1, u2]; omega)
  · exact .inl (empty_of (c := c) hab).2.2
theorem up_ask {a b c : Int} (hr : Right a b c) : ofB a b c < 0 → ofC a b c ≠ 0 → I64 (ofC a b c - 1) ∧ I64 (ofB a b c * (ofC a b c - 1)) ∧ I64 (ofF a b c + ofB a b c * (ofC a b c - 1)) ∧ I64 (-ofB a b c) := fun h1 h2 => by
  have hab : a ≤ b := by
    by_cases hab : a ≤ b
    · exact hab
    · exact absurd (empty_of (c := c) hab).2.2 h2
  obtain ⟨p1, p2, p3, p4, p5, p6, p7, _⟩ := parts hr hab
  have hl := hr.1
  rw [p6] at h1 ⊢
  rw [p7, if_pos h1]
  have e : c * (ofC a b c - 1) = -(absI c * (ofC a b c - 1)) := by rw [absI_neg h1, Int.neg_mul, Int.neg_neg]
  have e2 := absI_neg h1
  rw [e]
  unfold I64
  omega
/-- The numbers of a right range. -/
def RIn (a b c n : Int) : Prop := SIn (sA a b c) (sS a b c) (ofC a b c) n
end Go.RX.Span

/- Intersect and Within of the program: the walks. -/
set_option linter.unusedVariables false
set_option linter.unusedSimpArgs false
set_option maxRecDepth 100000
namespace Go.RX.Span
open Go Go.RX

def ckd (a b c x y z : Int) : Int := if chk a b c ≠ 0 then chk a b c else chk x y z
noncomputable def c_checked : Con := fun args => match args with
  | [.agg [.lit (.int .i64 a), .lit (.int .i64 b), .lit (.int .i64 c)], .agg [.lit (.int .i64 x), .lit (.int .i64 y), .lit (.int .i64 z)]] =>
    .ask (I64 a ∧ I64 b ∧ I64 c ∧ I64 x ∧ I64 y ∧ I64 z) (.ret (.lit (.int .i64 (lk ckd a b c x y z))))
  | _ => .stuck 1
set_option maxRecDepth 100000 in
theorem t_checked (a b c x y z : Int) : conB Go.Proofs.Try.prog (conOf k8) noLoops 10 110 [.agg [.lit (.int .i64 a), .lit (.int .i64 b), .lit (.int .i64 c)], .agg [.lit (.int .i64 x), .lit (.int .i64 y), .lit (.int .i64 z)]] =
    T.ask (I64 a ∧ I64 b ∧ I64 c) (.br (U.ne (lk chk a b c) (0 : Int)) (.ret (.lit (.int .i64 (lk chk a b c)))) (.ask (I64 x ∧ I64 y ∧ I64 z) (.ret (.lit (.int .i64 (lk chk x y z)))))) := by kernel_rfl
theorem checked_ok : ConOK P 110 c_checked := con_of (allOK mixed k8_ok) 10 110 fun args r h => by
  unfold c_checked at h
  split at h
  · rename_i a b c x y z
    have hp := (T.is_ask h).1
    have h := (T.is_ask h).2
    obtain rfl := T.is_ret h
    rw [t_checked]
    obtain ⟨ha, hb, hc, hx, hy, hz⟩ := hp
    by_cases h1 : chk a b c = 0 <;> simp [T.All, U.ne_eq, lk_eq, ckd, h1, ha, hb, hc, hx, hy, hz]
  · exact h.elim

noncomputable abbrev ke : List (Nat × Con) := (110, c_checked) :: (111, c_common) :: (127, c_euclid) :: k8
theorem ke_ok : ∀ p ∈ ke, ConOK P p.1 p.2 := by
  intro p hp
  simp only [ke, List.mem_cons] at hp
  rcases hp with rfl | rfl | rfl | hp
  · exact checked_ok
  · exact common_ok
  · exact euclid_ok
  · exact k8_ok p (by simpa [k8] using hp)
theorem ckd_right {a b c x y z : Int} (h : ckd a b c x y z = 0) : Right a b c ∧ Right x y z := by
  unfold ckd at h
  by_cases h1 : chk a b c = 0
  · rw [if_neg (by simp [h1])] at h
    exact ⟨chk_zero.1 h1, chk_zero.1 h⟩
  · rw [if_pos h1] at h
    exact absurd h h1
end Go.RX.Span

/- Intersect and Within of the program: the walks. -/
set_option linter.unusedVariables false
set_option linter.unusedSimpArgs false
set_option maxRecDepth 100000
namespace Go.RX.Span
open Go Go.RX

def isF (a b c x y z : Int) : Int := cmFst (sA a b c) (sS a b c) (ofC a b c) (sA x y z) (sS x y z) (ofC x y z)
def isB (a b c x y z : Int) : Int := cmBy (sA a b c) (sS a b c) (ofC a b c) (sA x y z) (sS x y z) (ofC x y z)
def isC (a b c x y z : Int) : Int := cmCnt (sA a b c) (sS a b c) (ofC a b c) (sA x y z) (sS x y z) (ofC x y z)
def isL (a b c x y z : Int) : Int := if ckd a b c x y z ≠ 0 then 0 else nLow (kF (isF a b c x y z) (isB a b c x y z) (isC a b c x y z) c) (kB (isF a b c x y z) (isB a b c x y z) (isC a b c x y z) c) (isC a b c x y z)
def isH (a b c x y z : Int) : Int := if ckd a b c x y z ≠ 0 then 0 else nHigh (kF (isF a b c x y z) (isB a b c x y z) (isC a b c x y z) c) (kB (isF a b c x y z) (isB a b c x y z) (isC a b c x y z) c) (isC a b c x y z)
def isS (a b c x y z : Int) : Int := if ckd a b c x y z ≠ 0 then 0 else nStr (kF (isF a b c x y z) (isB a b c x y z) (isC a b c x y z) c) (kB (isF a b c x y z) (isB a b c x y z) (isC a b c x y z) c) (isC a b c x y z)
def isEr (a b c x y z : Int) : Int := if ckd a b c x y z ≠ 0 then ckd a b c x y z else nErr (kF (isF a b c x y z) (isB a b c x y z) (isC a b c x y z) c) (kB (isF a b c x y z) (isB a b c x y z) (isC a b c x y z) c) (isC a b c x y z)
theorem is_sw {a b c x y z : Int} (h : Right a b c) (h' : Right x y z) : Sw (isF a b c x y z) (isB a b c x y z) (isC a b c x y z) ∧ ∀ n, SIn (isF a b c x y z) (isB a b c x y z) (isC a b c x y z) n ↔ RIn a b c n ∧ RIn x y z n :=
  cm_set (up_ser h) (up_ser h')

theorem like_ask {F B C c : Int} (h : Sw F B C) : c < 0 → C ≠ 0 → I64 (C - 1) ∧ I64 (B * (C - 1)) ∧ I64 (F + B * (C - 1)) ∧ I64 (-B) := fun _ hC => by
  obtain ⟨h1, h2, h3, h4, h5⟩ := h.resolve_left hC
  have m0 := mulle (s := B) (x := 0) (y := C - 1) h2 (by omega)
  have m1 : 1 * (C - 1) ≤ B * (C - 1) := Int.mul_le_mul_of_nonneg_right h2 (by omega)
  rw [Int.mul_zero] at m0
  unfold I64
  omega
theorem norm_ask {F B C c : Int} (h : Sw F B C) : 0 < C → I64 (C - 1) ∧ I64 (kB F B C c * (C - 1)) ∧ I64 (kF F B C c + kB F B C c * (C - 1)) := fun hC => by
  obtain ⟨h1, h2, h3, h4, h5⟩ := h.resolve_left (by omega)
  have m0 := mulle (s := B) (x := 0) (y := C - 1) h2 (by omega)
  have m1 : 1 * (C - 1) ≤ B * (C - 1) := Int.mul_le_mul_of_nonneg_right h2 (by omega)
  rw [Int.mul_zero] at m0
  obtain ⟨k1, k2⟩ := like_bnd (f := F) (s := B) (C := C) (c := c) (by omega)
  unfold I64
  rcases k1 with k1 | k1 <;> rcases k2 with k2 | k2 <;> rw [k2, k1] <;> omega
noncomputable def c_Intersect : Con := fun args => match args with
  | [.agg [.lit (.int .i64 a), .lit (.int .i64 b), .lit (.int .i64 c)], .agg [.lit (.int .i64 x), .lit (.int .i64 y), .lit (.int .i64 z)]] =>
    .ask (I64 a ∧ I64 b ∧ I64 c ∧ I64 x ∧ I64 y ∧ I64 z) (.ret (.tup [.agg [.lit (.int .i64 (lk isL a b c x y z)), .lit (.int .i64 (lk isH a b c x y z)), .lit (.int .i64 (lk isS a b c x y z))], .lit (.int .i64 (lk isEr a b c x y z))]))
  | _ => .stuck 1
set_option maxRecDepth 100000 in
theorem t_Intersect (a b c x y z : Int) : conB Go.Proofs.Try.prog (conOf ke) noLoops 10 22 [.agg [.lit (.int .i64 a), .lit (.int .i64 b), .lit (.int .i64 c)], .agg [.lit (.int .i64 x), .lit (.int .i64 y), .lit (.int .i64 z)]] =
    T.ask (I64 a ∧ I64 b ∧ I64 c ∧ I64 x ∧ I64 y ∧ I64 z) (.br (U.ne (lk ckd a b c x y z) (0 : Int)) (.ret (.tup [.agg [.lit (.int .i64 0), .lit (.int .i64 0), .lit (.int .i64 0)], .lit
      (.int .i64 (lk ckd a b c x y z))])) (.ask (a ≤ b → c ≠ (0 : Int) ∧ (-9223372036854775807 : Int) ≤ c ∧ b - a < (9223372036854775807 : Int) ∧ I64 a ∧ I64 b ∧ I64 c) (.ask (lk ofB a b
      c < (0 : Int) → lk ofC a b c ≠ (0 : Int) → I64 (lk ofC a b c - (1 : Int)) ∧ I64 (lk ofB a b c * (lk ofC a b c - (1 : Int))) ∧ I64 (lk ofF a b c + lk ofB a b c * (lk ofC a b c - (1 :
      Int))) ∧ I64 (-lk ofB a b c)) (.ask (x ≤ y → z ≠ (0 : Int) ∧ (-9223372036854775807 : Int) ≤ z ∧ y - x < (9223372036854775807 : Int) ∧ I64 x ∧ I64 y ∧ I64 z) (.ask (lk ofB x y z < (0
      : Int) → lk ofC x y z ≠ (0 : Int) → I64 (lk ofC x y z - (1 : Int)) ∧ I64 (lk ofB x y z * (lk ofC x y z - (1 : Int))) ∧ I64 (lk ofF x y z + lk ofB x y z * (lk ofC x y z - (1 : Int)))
      ∧ I64 (-lk ofB x y z)) (.ask (Ser (lk uF (lk ofF a b c) (lk ofB a b c) (lk ofC a b c)) (lk uB (lk ofF a b c) (lk ofB a b c) (lk ofC a b c)) (lk ofC a b c) ∧ Ser (lk uF (lk ofF x y
      z) (lk ofB x y z) (lk ofC x y z)) (lk uB (lk ofF x y z) (lk ofB x y z) (lk ofC x y z)) (lk ofC x y z)) (.ask (c < (0 : Int) → lk cmCnt (lk uF (lk ofF a b c) (lk ofB a b c) (lk ofC a
      b c)) (lk uB (lk ofF a b c) (lk ofB a b c) (lk ofC a b c)) (lk ofC a b c) (lk uF (lk ofF x y z) (lk ofB x y z) (lk ofC x y z)) (lk uB (lk ofF x y z) (lk ofB x y z) (lk ofC x y z))
      (lk ofC x y z) ≠ (0 : Int) → I64 (lk cmCnt (lk uF (lk ofF a b c) (lk ofB a b c) (lk ofC a b c)) (lk uB (lk ofF a b c) (lk ofB a b c) (lk ofC a b c)) (lk ofC a b c) (lk uF (lk ofF x
      y z) (lk ofB x y z) (lk ofC x y z)) (lk uB (lk ofF x y z) (lk ofB x y z) (lk ofC x y z)) (lk ofC x y z) - (1 : Int)) ∧ I64 (lk cmBy (lk uF (lk ofF a b c) (lk ofB a b c) (lk ofC a b
      c)) (lk uB (lk ofF a b c) (lk ofB a b c) (lk ofC a b c)) (lk ofC a b c) (lk uF (lk ofF x y z) (lk ofB x y z) (lk ofC x y z)) (lk uB (lk ofF x y z) (lk ofB x y z) (lk ofC x y z)) (lk
      ofC x y z) * (lk cmCnt (lk uF (lk ofF a b c) (lk ofB a b c) (lk ofC a b c)) (lk uB (lk ofF a b c) (lk ofB a b c) (lk ofC a b c)) (lk ofC a b c) (lk uF (lk ofF x y z) (lk ofB x y z)
      (lk ofC x y z)) (lk uB (lk ofF x y z) (lk ofB x y z) (lk ofC x y z)) (lk ofC x y z) - (1 : Int))) ∧ I64 (lk cmFst (lk uF (lk ofF a b c) (lk ofB a b c) (lk ofC a b c)) (lk uB (lk ofF
      a b c) (lk ofB a b c) (lk ofC a b c)) (lk ofC a b c) (lk uF (lk ofF x y z) (lk ofB x y z) (lk ofC x y z)) (lk uB (lk ofF x y z) (lk ofB x y z) (lk ofC x y z)) (lk ofC x y z) + lk
      cmBy (lk uF (lk ofF a b c) (lk ofB a b c) (lk ofC a b c)) (lk uB (lk ofF a b c) (lk ofB a b c) (lk ofC a b c)) (lk ofC a b c) (lk uF (lk ofF x y z) (lk ofB x y z) (lk ofC x y z))
      (lk uB (lk ofF x y z) (lk ofB x y z) (lk ofC x y z)) (lk ofC x y z) * (lk cmCnt (lk uF (lk ofF a b c) (lk ofB a b c) (lk ofC a b c)) (lk uB (lk ofF a b c) (lk ofB a b c) (lk ofC a b
      c)) (lk ofC a b c) (lk uF (lk ofF x y z) (lk ofB x y z) (lk ofC x y z)) (lk uB (lk ofF x y z) (lk ofB x y z) (lk ofC x y z)) (lk ofC x y z) - (1 : Int))) ∧ I64 (-lk cmBy (lk uF (lk
      ofF a b c) (lk ofB a b c) (lk ofC a b c)) (lk uB (lk ofF a b c) (lk ofB a b c) (lk ofC a b c)) (lk ofC a b c) (lk uF (lk ofF x y z) (lk ofB x y z) (lk ofC x y z)) (lk uB (lk ofF x y
      z) (lk ofB x y z) (lk ofC x y z)) (lk ofC x y z))) (.ask ((0 : Int) < lk cmCnt (lk uF (lk ofF a b c) (lk ofB a b c) (lk ofC a b c)) (lk uB (lk ofF a b c) (lk ofB a b c) (lk ofC a b
      c)) (lk ofC a b c) (lk uF (lk ofF x y z) (lk ofB x y z) (lk ofC x y z)) (lk uB (lk ofF x y z) (lk ofB x y z) (lk ofC x y z)) (lk ofC x y z) → I64 (lk cmCnt (lk uF (lk ofF a b c) (lk
      ofB a b c) (lk ofC a b c)) (lk uB (lk ofF a b c) (lk ofB a b c) (lk ofC a b c)) (lk ofC a b c) (lk uF (lk ofF x y z) (lk ofB x y z) (lk ofC x y z)) (lk uB (lk ofF x y z) (lk ofB x y
      z) (lk ofC x y z)) (lk ofC x y z) - (1 : Int)) ∧ I64 (lk kB (lk cmFst (lk uF (lk ofF a b c) (lk ofB a b c) (lk ofC a b c)) (lk uB (lk ofF a b c) (lk ofB a b c) (lk ofC a b c)) (lk
      ofC a b c) (lk uF (lk ofF x y z) (lk ofB x y z) (lk ofC x y z)) (lk uB (lk ofF x y z) (lk ofB x y z) (lk ofC x y z)) (lk ofC x y z)) (lk cmBy (lk uF (lk ofF a b c) (lk ofB a b c)
      (lk ofC a b c)) (lk uB (lk ofF a b c) (lk ofB a b c) (lk ofC a b c)) (lk ofC a b c) (lk uF (lk ofF x y z) (lk ofB x y z) (lk ofC x y z)) (lk uB (lk ofF x y z) (lk ofB x y z) (lk ofC
      x y z)) (lk ofC x y z)) (lk cmCnt (lk uF (lk ofF a b c) (lk ofB a b c) (lk ofC a b c)) (lk uB (lk ofF a b c) (lk ofB a b c) (lk ofC a b c)) (lk ofC a b c) (lk uF (lk ofF x y z) (lk
      ofB x y z) (lk ofC x y z)) (lk uB (lk ofF x y z) (lk ofB x y z) (lk ofC x y z)) (lk ofC x y z)) c * (lk cmCnt (lk uF (lk ofF a b c) (lk ofB a b c) (lk ofC a b c)) (lk uB (lk ofF a b
      c) (lk ofB a b c) (lk ofC a b c)) (lk ofC a b c) (lk uF (lk ofF x y z) (lk ofB x y z) (lk ofC x y z)) (lk uB (lk ofF x y z) (lk ofB x y z) (lk ofC x y z)) (lk ofC x y z) - (1 :
      Int))) ∧ I64 (lk kF (lk cmFst (lk uF (lk ofF a b c) (lk ofB a b c) (lk ofC a b c)) (lk uB (lk ofF a b c) (lk ofB a b c) (lk ofC a b c)) (lk ofC a b c) (lk uF (lk ofF x y z) (lk ofB
      x y z) (lk ofC x y z)) (lk uB (lk ofF x y z) (lk ofB x y z) (lk ofC x y z)) (lk ofC x y z)) (lk cmBy (lk uF (lk ofF a b c) (lk ofB a b c) (lk ofC a b c)) (lk uB (lk ofF a b c) (lk
      ofB a b c) (lk ofC a b c)) (lk ofC a b c) (lk uF (lk ofF x y z) (lk ofB x y z) (lk ofC x y z)) (lk uB (lk ofF x y z) (lk ofB x y z) (lk ofC x y z)) (lk ofC x y z)) (lk cmCnt (lk uF
      (lk ofF a b c) (lk ofB a b c) (lk ofC a b c)) (lk uB (lk ofF a b c) (lk ofB a b c) (lk ofC a b c)) (lk ofC a b c) (lk uF (lk ofF x y z) (lk ofB x y z) (lk ofC x y z)) (lk uB (lk ofF
      x y z) (lk ofB x y z) (lk ofC x y z)) (lk ofC x y z)) c + lk kB (lk cmFst (lk uF (lk ofF a b c) (lk ofB a b c) (lk ofC a b c)) (lk uB (lk ofF a b c) (lk ofB a b c) (lk ofC a b c))
      (lk ofC a b c) (lk uF (lk ofF x y z) (lk ofB x y z) (lk ofC x y z)) (lk uB (lk ofF x y z) (lk ofB x y z) (lk ofC x y z)) (lk ofC x y z)) (lk cmBy (lk uF (lk ofF a b c) (lk ofB a b
      c) (lk ofC a b c)) (lk uB (lk ofF a b c) (lk ofB a b c) (lk ofC a b c)) (lk ofC a b c) (lk uF (lk ofF x y z) (lk ofB x y z) (lk ofC x y z)) (lk uB (lk ofF x y z) (lk ofB x y z) (lk
      ofC x y z)) (lk ofC x y z)) (lk cmCnt (lk uF (lk ofF a b c) (lk ofB a b c) (lk ofC a b c)) (lk uB (lk ofF a b c) (lk ofB a b c) (lk ofC a b c)) (lk ofC a b c) (lk uF (lk ofF x y z)
      (lk ofB x y z) (lk ofC x y z)) (lk uB (lk ofF x y z) (lk ofB x y z) (lk ofC x y z)) (lk ofC x y z)) c * (lk cmCnt (lk uF (lk ofF a b c) (lk ofB a b c) (lk ofC a b c)) (lk uB (lk ofF
      a b c) (lk ofB a b c) (lk ofC a b c)) (lk ofC a b c) (lk uF (lk ofF x y z) (lk ofB x y z) (lk ofC x y z)) (lk uB (lk ofF x y z) (lk ofB x y z) (lk ofC x y z)) (lk ofC x y z) - (1 :
      Int)))) (.ret (.tup [.agg [.lit (.int .i64 (lk nLow (lk kF (lk cmFst (lk uF (lk ofF a b c) (lk ofB a b c) (lk ofC a b c)) (lk uB (lk ofF a b c) (lk ofB a b c) (lk ofC a b c)) (lk
      ofC a b c) (lk uF (lk ofF x y z) (lk ofB x y z) (lk ofC x y z)) (lk uB (lk ofF x y z) (lk ofB x y z) (lk ofC x y z)) (lk ofC x y z)) (lk cmBy (lk uF (lk ofF a b c) (lk ofB a b c)
      (lk ofC a b c)) (lk uB (lk ofF a b c) (lk ofB a b c) (lk ofC a b c)) (lk ofC a b c) (lk uF (lk ofF x y z) (lk ofB x y z) (lk ofC x y z)) (lk uB (lk ofF x y z) (lk ofB x y z) (lk ofC
      x y z)) (lk ofC x y z)) (lk cmCnt (lk uF (lk ofF a b c) (lk ofB a b c) (lk ofC a b c)) (lk uB (lk ofF a b c) (lk ofB a b c) (lk ofC a b c)) (lk ofC a b c) (lk uF (lk ofF x y z) (lk
      ofB x y z) (lk ofC x y z)) (lk uB (lk ofF x y z) (lk ofB x y z) (lk ofC x y z)) (lk ofC x y z)) c) (lk kB (lk cmFst (lk uF (lk ofF a b c) (lk ofB a b c) (lk ofC a b c)) (lk uB (lk
      ofF a b c) (lk ofB a b c) (lk ofC a b c)) (lk ofC a b c) (lk uF (lk ofF x y z) (lk ofB x y z) (lk ofC x y z)) (lk uB (lk ofF x y z) (lk ofB x y z) (lk ofC x y z)) (lk ofC x y z))
      (lk cmBy (lk uF (lk ofF a b c) (lk ofB a b c) (lk ofC a b c)) (lk uB (lk ofF a b c) (lk ofB a b c) (lk ofC a b c)) (lk ofC a b c) (lk uF (lk ofF x y z) (lk ofB x y z) (lk ofC x y
      z)) (lk uB (lk ofF x y z) (lk ofB x y z) (lk ofC x y z)) (lk ofC x y z)) (lk cmCnt (lk uF (lk ofF a b c) (lk ofB a b c) (lk ofC a b c)) (lk uB (lk ofF a b c) (lk ofB a b c) (lk ofC
      a b c)) (lk ofC a b c) (lk uF (lk ofF x y z) (lk ofB x y z) (lk ofC x y z)) (lk uB (lk ofF x y z) (lk ofB x y z) (lk ofC x y z)) (lk ofC x y z)) c) (lk cmCnt (lk uF (lk ofF a b c)
      (lk ofB a b c) (lk ofC a b c)) (lk uB (lk ofF a b c) (lk ofB a b c) (lk ofC a b c)) (lk ofC a b c) (lk uF (lk ofF x y z) (lk ofB x y z) (lk ofC x y z)) (lk uB (lk ofF x y z) (lk ofB
      x y z) (lk ofC x y z)) (lk ofC x y z)))), .lit (.int .i64 (lk nHigh (lk kF (lk cmFst (lk uF (lk ofF a b c) (lk ofB a b c) (lk ofC a b c)) (lk uB (lk ofF a b c) (lk ofB a b c) (lk
      ofC a b c)) (lk ofC a b c) (lk uF (lk ofF x y z) (lk ofB x y z) (lk ofC x y z)) (lk uB (lk ofF x y z) (lk ofB x y z) (lk ofC x y z)) (lk ofC x y z)) (lk cmBy (lk uF (lk ofF a b c)
      (lk ofB a b c) (lk ofC a b c)) (lk uB (lk ofF a b c) (lk ofB a b c) (lk ofC a b c)) (lk ofC a b c) (lk uF (lk ofF x y z) (lk ofB x y z) (lk ofC x y z)) (lk uB (lk ofF x y z) (lk ofB
      x y z) (lk ofC x y z)) (lk ofC x y z)) (lk cmCnt (lk uF (lk ofF a b c) (lk ofB a b c) (lk ofC a b c)) (lk uB (lk ofF a b c) (lk ofB a b c) (lk ofC a b c)) (lk ofC a b c) (lk uF (lk
      ofF x y z) (lk ofB x y z) (lk ofC x y z)) (lk uB (lk ofF x y z) (lk ofB x y z) (lk ofC x y z)) (lk ofC x y z)) c) (lk kB (lk cmFst (lk uF (lk ofF a b c) (lk ofB a b c) (lk ofC a b
      c)) (lk uB (lk ofF a b c) (lk ofB a b c) (lk ofC a b c)) (lk ofC a b c) (lk uF (lk ofF x y z) (lk ofB x y z) (lk ofC x y z)) (lk uB (lk ofF x y z) (lk ofB x y z) (lk ofC x y z)) (lk
      ofC x y z)) (lk cmBy (lk uF (lk ofF a b c) (lk ofB a b c) (lk ofC a b c)) (lk uB (lk ofF a b c) (lk ofB a b c) (lk ofC a b c)) (lk ofC a b c) (lk uF (lk ofF x y z) (lk ofB x y z)
      (lk ofC x y z)) (lk uB (lk ofF x y z) (lk ofB x y z) (lk ofC x y z)) (lk ofC x y z)) (lk cmCnt (lk uF (lk ofF a b c) (lk ofB a b c) (lk ofC a b c)) (lk uB (lk ofF a b c) (lk ofB a b
      c) (lk ofC a b c)) (lk ofC a b c) (lk uF (lk ofF x y z) (lk ofB x y z) (lk ofC x y z)) (lk uB (lk ofF x y z) (lk ofB x y z) (lk ofC x y z)) (lk ofC x y z)) c) (lk cmCnt (lk uF (lk
      ofF a b c) (lk ofB a b c) (lk ofC a b c)) (lk uB (lk ofF a b c) (lk ofB a b c) (lk ofC a b c)) (lk ofC a b c) (lk uF (lk ofF x y z) (lk ofB x y z) (lk ofC x y z)) (lk uB (lk ofF x y
      z) (lk ofB x y z) (lk ofC x y z)) (lk ofC x y z)))), .lit (.int .i64 (lk nStr (lk kF (lk cmFst (lk uF (lk ofF a b c) (lk ofB a b c) (lk ofC a b c)) (lk uB (lk ofF a b c) (lk ofB a b
      c) (lk ofC a b c)) (lk ofC a b c) (lk uF (lk ofF x y z) (lk ofB x y z) (lk ofC x y z)) (lk uB (lk ofF x y z) (lk ofB x y z) (lk ofC x y z)) (lk ofC x y z)) (lk cmBy (lk uF (lk ofF a
      b c) (lk ofB a b c) (lk ofC a b c)) (lk uB (lk ofF a b c) (lk ofB a b c) (lk ofC a b c)) (lk ofC a b c) (lk uF (lk ofF x y z) (lk ofB x y z) (lk ofC x y z)) (lk uB (lk ofF x y z)
      (lk ofB x y z) (lk ofC x y z)) (lk ofC x y z)) (lk cmCnt (lk uF (lk ofF a b c) (lk ofB a b c) (lk ofC a b c)) (lk uB (lk ofF a b c) (lk ofB a b c) (lk ofC a b c)) (lk ofC a b c) (lk
      uF (lk ofF x y z) (lk ofB x y z) (lk ofC x y z)) (lk uB (lk ofF x y z) (lk ofB x y z) (lk ofC x y z)) (lk ofC x y z)) c) (lk kB (lk cmFst (lk uF (lk ofF a b c) (lk ofB a b c) (lk
      ofC a b c)) (lk uB (lk ofF a b c) (lk ofB a b c) (lk ofC a b c)) (lk ofC a b c) (lk uF (lk ofF x y z) (lk ofB x y z) (lk ofC x y z)) (lk uB (lk ofF x y z) (lk ofB x y z) (lk ofC x y
      z)) (lk ofC x y z)) (lk cmBy (lk uF (lk ofF a b c) (lk ofB a b c) (lk ofC a b c)) (lk uB (lk ofF a b c) (lk ofB a b c) (lk ofC a b c)) (lk ofC a b c) (lk uF (lk ofF x y z) (lk ofB x
      y z) (lk ofC x y z)) (lk uB (lk ofF x y z) (lk ofB x y z) (lk ofC x y z)) (lk ofC x y z)) (lk cmCnt (lk uF (lk ofF a b c) (lk ofB a b c) (lk ofC a b c)) (lk uB (lk ofF a b c) (lk
      ofB a b c) (lk ofC a b c)) (lk ofC a b c) (lk uF (lk ofF x y z) (lk ofB x y z) (lk ofC x y z)) (lk uB (lk ofF x y z) (lk ofB x y z) (lk ofC x y z)) (lk ofC x y z)) c) (lk cmCnt (lk
      uF (lk ofF a b c) (lk ofB a b c) (lk ofC a b c)) (lk uB (lk ofF a b c) (lk ofB a b c) (lk ofC a b c)) (lk ofC a b c) (lk uF (lk ofF x y z) (lk ofB x y z) (lk ofC x y z)) (lk uB (lk
      ofF x y z) (lk ofB x y z) (lk ofC x y z)) (lk ofC x y z))))], .lit (.int .i64 (lk nErr (lk kF (lk cmFst (lk uF (lk ofF a b c) (lk ofB a b c) (lk ofC a b c)) (lk uB (lk ofF a b c)
      (lk ofB a b c) (lk ofC a b c)) (lk ofC a b c) (lk uF (lk ofF x y z) (lk ofB x y z) (lk ofC x y z)) (lk uB (lk ofF x y z) (lk ofB x y z) (lk ofC x y z)) (lk ofC x y z)) (lk cmBy (lk
      uF (lk ofF a b c) (lk ofB a b c) (lk ofC a b c)) (lk uB (lk ofF a b c) (lk ofB a b c) (lk ofC a b c)) (lk ofC a b c) (lk uF (lk ofF x y z) (lk ofB x y z) (lk ofC x y z)) (lk uB (lk
      ofF x y z) (lk ofB x y z) (lk ofC x y z)) (lk ofC x y z)) (lk cmCnt (lk uF (lk ofF a b c) (lk ofB a b c) (lk ofC a b c)) (lk uB (lk ofF a b c) (lk ofB a b c) (lk ofC a b c)) (lk ofC
      a b c) (lk uF (lk ofF x y z) (lk ofB x y z) (lk ofC x y z)) (lk uB (lk ofF x y z) (lk ofB x y z) (lk ofC x y z)) (lk ofC x y z)) c) (lk kB (lk cmFst (lk uF (lk ofF a b c) (lk ofB a
      b c) (lk ofC a b c)) (lk uB (lk ofF a b c) (lk ofB a b c) (lk ofC a b c)) (lk ofC a b c) (lk uF (lk ofF x y z) (lk ofB x y z) (lk ofC x y z)) (lk uB (lk ofF x y z) (lk ofB x y z)
      (lk ofC x y z)) (lk ofC x y z)) (lk cmBy (lk uF (lk ofF a b c) (lk ofB a b c) (lk ofC a b c)) (lk uB (lk ofF a b c) (lk ofB a b c) (lk ofC a b c)) (lk ofC a b c) (lk uF (lk ofF x y
      z) (lk ofB x y z) (lk ofC x y z)) (lk uB (lk ofF x y z) (lk ofB x y z) (lk ofC x y z)) (lk ofC x y z)) (lk cmCnt (lk uF (lk ofF a b c) (lk ofB a b c) (lk ofC a b c)) (lk uB (lk ofF
      a b c) (lk ofB a b c) (lk ofC a b c)) (lk ofC a b c) (lk uF (lk ofF x y z) (lk ofB x y z) (lk ofC x y z)) (lk uB (lk ofF x y z) (lk ofB x y z) (lk ofC x y z)) (lk ofC x y z)) c) (lk
      cmCnt (lk uF (lk ofF a b c) (lk ofB a b c) (lk ofC a b c)) (lk uB (lk ofF a b c) (lk ofB a b c) (lk ofC a b c)) (lk ofC a b c) (lk uF (lk ofF x y z) (lk ofB x y z) (lk ofC x y z))
      (lk uB (lk ofF x y z) (lk ofB x y z) (lk ofC x y z)) (lk ofC x y z))))])))))))))) := by kernel_rfl
theorem Intersect_ok : ConOK P 22 c_Intersect := con_of (allOK mixed ke_ok) 10 22 fun args r h => by
  unfold c_Intersect at h
  split at h
  · rename_i a b c x y z
    have hp := (T.is_ask h).1
    have h := (T.is_ask h).2
    obtain rfl := T.is_ret h
    rw [t_Intersect]
    obtain ⟨ha, hb, hc, hx, hy, hz⟩ := hp
    simp only [lk_eq]
    refine ⟨⟨ha, hb, hc, hx, hy, hz⟩, fun h => ?_, fun h => ?_⟩
    · rw [U.ne_t] at h
      simp only [isL, isH, isS, isEr, if_pos h]
      exact rfl
    · rw [U.ne_f] at h
      obtain ⟨r1, r2⟩ := ckd_right h
      have hn : ¬ ckd a b c x y z ≠ 0 := by simp [h]
      have hsw := (is_sw r1 r2).1
      refine ⟨of_ask r1 ha hb hc, up_ask r1, of_ask r2 hx hy hz, up_ask r2, ⟨up_ser r1, up_ser r2⟩, ?_⟩
      refine ⟨like_ask hsw, norm_ask hsw, ?_⟩
      simp only [isL, isH, isS, isEr, if_neg hn]
      exact rfl
  · exact h.elim
end Go.RX.Span

/- Hull of the program: the walk. -/
set_option linter.unusedVariables false
set_option linter.unusedSimpArgs false
set_option maxRecDepth 100000
namespace Go.RX.Span
open Go Go.RX

end Go.RX.Span

/- Ranges: Intersect, Hull and Within as sets, in plain Lean. -/
set_option linter.unusedVariables false
set_option linter.unusedSimpArgs false
namespace Go.RX.Span
open Go Go.RX

theorem sIn_one {F s t n : Int} : SIn F s 1 n ↔ SIn F t 1 n := by
  unfold SIn
  simp only [Int.sub_self, Int.mul_zero, Int.add_zero]
  constructor <;> rintro ⟨h1, h2, h3, _⟩ <;> exact ⟨h1, h2, h3, 0, by omega⟩
/-- A right range out of a series: the same numbers. -/
theorem rin_of {L H S F B C : Int} (hC : 1 ≤ C) (hr : Right L H S) (hLH : L ≤ H) (h1 : L = F) (hc : ofC L H S = C) (hS : C ≠ 1 → absI S = B) (n : Int) : RIn L H S n ↔ SIn F B C n := by
  obtain ⟨u1, u2⟩ := up_of hr hLH
  unfold RIn sA sS
  rw [u1, u2, hc, h1]
  by_cases h : C = 1
  · subst h; exact sIn_one
  · rw [hS h]
theorem rin_empty (n : Int) : ¬ RIn 1 0 1 n := fun h => by
  have := h.2.2.1
  have e : ofC 1 0 1 = 0 := rfl
  rw [e] at this
  omega
theorem right_empty : Right 1 0 1 := ⟨by omega, .inl ⟨rfl, rfl, rfl⟩⟩

/-- A series made a range in a direction. -/
theorem mv_set {F B C c : Int} (h : Sw F B C) : nErr (kF F B C c) (kB F B C c) C = 0 ∧ Right (nLow (kF F B C c) (kB F B C c) C) (nHigh (kF F B C c) (kB F B C c) C) (nStr (kF F B C c) (kB F B C c) C) ∧
    ∀ n, RIn (nLow (kF F B C c) (kB F B C c) C) (nHigh (kF F B C c) (kB F B C c) C) (nStr (kF F B C c) (kB F B C c) C) n ↔ SIn F B C n := by
  by_cases hC : C = 0
  · subst hC
    simp only [nErr, nLow, nHigh, nStr, Int.le_refl, if_true]
    exact ⟨trivial, right_empty, fun n => ⟨fun h => absurd h (rin_empty n), fun h => by have := h.2.2.1; omega⟩⟩
  · obtain ⟨h1, h2, h3, h4, h5⟩ := h.resolve_left hC
    obtain ⟨q1, q2, q3, q4⟩ := nrm_like (f := F) (s := B) (C := C) (c := c) h2
    have m0 := mulle (x := 0) (y := C - 1) h2 (by omega)
    rw [Int.mul_zero] at m0
    have n1 : ¬ C ≤ 0 := by omega
    have e0 : mvE F B C = 0 := by unfold mvE; rw [if_neg n1, if_pos (by omega)]
    rw [q1, q2, q3, q4, e0]
    simp only [mvLow, mvHigh, mvStr, e0, if_neg n1, if_true]
    refine ⟨trivial, ?_⟩
    by_cases hc : c < 0
    · obtain ⟨g1, g2, g3, g4⟩ := rgD (F := F + B * (C - 1)) (s := B) (q := C - 1) h2 (by omega) (by omega) (by omega)
      rw [show F + B * (C - 1) - B * (C - 1) = F by omega] at g1 g2 g3
      have e : (if C - 1 = 0 then (1 : Int) else -B) = if C = 1 then 1 else if c < 0 then -B else B := by
        by_cases h : C = 1
        · rw [if_pos (by omega), if_pos h]
        · rw [if_neg (by omega), if_neg h, if_pos hc]
      rw [e] at g1 g3
      refine ⟨g1, fun n => rin_of h1 g1 g2 rfl (by omega) (fun h => ?_) n⟩
      rw [if_neg h, if_pos hc, absI_neg (by omega)]; omega
    · obtain ⟨g1, g2, g3, g4⟩ := rgU (F := F) (s := B) (q := C - 1) h2 (by omega) (by omega) (by omega)
      have e : (if C - 1 = 0 then (1 : Int) else B) = if C = 1 then 1 else if c < 0 then -B else B := by
        by_cases h : C = 1
        · rw [if_pos (by omega), if_pos h]
        · rw [if_neg (by omega), if_neg h, if_neg hc]
      rw [e] at g1 g3
      refine ⟨g1, fun n => rin_of h1 g1 g2 rfl (by omega) (fun h => ?_) n⟩
      rw [if_neg h, if_neg hc, absI_pos (by omega)]

theorem ckd_zero {a b c x y z : Int} (h : Right a b c) (h' : Right x y z) : ckd a b c x y z = 0 := by
  unfold ckd; rw [if_neg (by simp [chk_zero.2 h])]; exact chk_zero.2 h'
/-- Intersect of right ranges has the numbers of both. -/
theorem is_set {a b c x y z : Int} (h : Right a b c) (h' : Right x y z) : isEr a b c x y z = 0 ∧ Right (isL a b c x y z) (isH a b c x y z) (isS a b c x y z) ∧ ∀ n, RIn (isL a b c x y z) (isH a b c x y z) (isS a b c x y z) n ↔ RIn a b c n ∧ RIn x y z n := by
  have hn : ¬ ckd a b c x y z ≠ 0 := by simp [ckd_zero h h']
  simp only [isEr, isL, isH, isS, if_neg hn]
  obtain ⟨w1, w2⟩ := is_sw h h'
  obtain ⟨m1, m2, m3⟩ := mv_set (c := c) w1
  exact ⟨m1, m2, fun n => (m3 n).trans (w2 n)⟩
end Go.RX.Span

/- Ranges: Hull as a set, in plain Lean. -/
set_option linter.unusedVariables false
set_option linter.unusedSimpArgs false
namespace Go.RX.Span
open Go Go.RX

end Go.RX.Span

/- The library's slices.Equal of ranges. -/
set_option linter.unusedVariables false
set_option linter.unusedSimpArgs false
namespace Go.RX.Span
open Go Go.RX

/-- Three numbers are the same. -/
def same3 (d e : Els [.int .i64, .int .i64, .int .i64]) : Prop := d.1 = e.1 ∧ d.2.1 = e.2.1 ∧ d.2.2.1 = e.2.2.1
noncomputable def eqR3 (n : Nat) (f : Nat → Els [.int .i64, .int .i64, .int .i64]) (n1 : Nat) (f1 : Nat → Els [.int .i64, .int .i64, .int .i64]) : Bool := @decide (n = n1 ∧ ∀ i, i < n → same3 (f i) (f1 i)) (Classical.propDecidable _)
theorem eqR3_t {n n1 : Nat} {f f1 : Nat → Els [.int .i64, .int .i64, .int .i64]} : eqR3 n f n1 f1 = true ↔ n = n1 ∧ ∀ i, i < n → same3 (f i) (f1 i) := by
  unfold eqR3
  exact @decide_eq_true_iff _ (Classical.propDecidable _)
structure XG where
  (n n1 : Nat) (f f1 : Nat → Els [.int .i64, .int .i64, .int .i64]) (len : Int) (k : Nat)
noncomputable def VG (x : XG) : Few := ([.row [.int .i64, .int .i64, .int .i64] x.n x.f, .row [.int .i64, .int .i64, .int .i64] x.n1 x.f1, .any, .lit (.int .i64 x.len), .lit (.int .i64 x.k)], [])
noncomputable def OG (x : XG) : Ex × Few := (.exit 0, ([.row [.int .i64, .int .i64, .int .i64] x.n x.f, .row [.int .i64, .int .i64, .int .i64] x.n1 x.f1, .any, .any, .any], []))
noncomputable def OG' : Ex × Few := (.ret, ([.any, .any, .kb false, .any, .any], []))
def PhiG (n0 : Nat) (x : XG) : Prop := (n0 = 0 ∧ x.n = x.n1 ∧ x.len = x.n ∧ x.n ≤ top) ∧ x.k ≤ x.n ∧ ∀ i, i < x.k → same3 (x.f i) (x.f1 i)
def ZG (x : XG) (o : Ex × Few) : Prop := (eqR3 x.n x.f x.n1 x.f1 = true → o = OG x) ∧ (eqR3 x.n x.f x.n1 x.f1 = false → o = OG')
noncomputable def gG : Nat → Few → T (Ex × Few)
  | n0, ([.row [.int .i64, .int .i64, .int .i64] n f, .row [.int .i64, .int .i64, .int .i64] n1 f1, _, .lit (.int .i64 len), .ki .i64 (.ofNat 0)], []) =>
    .ask (PreE n0 n n1 len) (.br (lk eqR3 n f n1 f1) (.ret (.exit 0, ([.row [.int .i64, .int .i64, .int .i64] n f, .row [.int .i64, .int .i64, .int .i64] n1 f1, .any, .any, .any], []))) (.ret (.ret, ([.any, .any, .kb false, .any, .any], []))))
  | _, _ => .stuck 1
noncomputable abbrev l56 : List (Nat × Loops) := [(145, [(4, .sum (few 26 [0, 1, 4, 12, 13] gG))])]
end Go.RX.Span

/- The divisor of the reference: the loop's states. -/
set_option linter.unusedVariables false
set_option linter.unusedSimpArgs false
namespace Go.RX.Span
open Go Go.RX

def gcdI (a b : Int) : Int := Int.gcd a b
end Go.RX.Span

/- The divisor of the reference: the walk. -/
set_option linter.unusedVariables false
set_option linter.unusedSimpArgs false
set_option maxRecDepth 100000
namespace Go.RX.Span
open Go Go.RX

noncomputable def c_Gcd : Con := fun args => match args with
  | [.lit (.int .i64 a), .lit (.int .i64 b)] => .ask (0 ≤ a ∧ 0 ≤ b) (.ret (.lit (.int .i64 (lk gcdI a b))))
  | _ => .stuck 1
end Go.RX.Span

/- Ranges: the reference's search for a common number, in plain Lean. -/
set_option linter.unusedVariables false
set_option linter.unusedSimpArgs false
namespace Go.RX.Span
open Go Go.RX

theorem rin_iff {a b c n : Int} (hr : Right a b c) (hab : a ≤ b) : RIn a b c n ↔ a ≤ n ∧ n ≤ b ∧ ∃ p, n = a + absI c * p := by
  obtain ⟨p1, p2, p3, p4, p5, p6, p7, p8, p9, p10⟩ := parts hr hab
  obtain ⟨u1, u2⟩ := up_of hr hab
  unfold RIn sA sS SIn
  rw [u1, u2]
  constructor
  · rintro ⟨h1, h2, h3, h4⟩; exact ⟨h1, by omega, h4⟩
  · rintro ⟨h1, h2, h4⟩; exact ⟨h1, by omega, by omega, h4⟩

end Go.RX.Span

/- Ranges: what Subtract returns, in plain Lean. -/
set_option linter.unusedVariables false
set_option linter.unusedSimpArgs false
namespace Go.RX.Span
open Go Go.RX

abbrev R3 := Els [.int .i64, .int .i64, .int .i64]
/-- A series upwards as a range in a direction. -/
def pc (f s n c : Int) : R3 := (mvLow f s n, mvHigh f s n, mvStr f s n c, ())
section
variable (a b c x y z : Int)
/-- The last number of both. -/
def sbL : Int := isF a b c x y z + isB a b c x y z * (isC a b c x y z - 1)
def sbT : Int := sA a b c + sS a b c * (ofC a b c - 1)
def sbN0 : Nat := if sA a b c < isF a b c x y z then 1 else 0
def sbM : Nat := if 1 < isC a b c x y z then ((isB a b c x y z).tdiv (sS a b c) - 1).toNat else 0
def sbN1 : Nat := if sbL a b c x y z < sbT a b c then 1 else 0
def sbAll : Nat := sbN0 a b c x y z + sbM a b c x y z + sbN1 a b c x y z
def sbN : Nat := if ckd a b c x y z ≠ 0 then 0 else if isC a b c x y z = 0 then (if 0 < ofC a b c then 1 else 0) else if 1000 < sbAll a b c x y z then 0 else sbAll a b c x y z
def sbE : Int := if ckd a b c x y z ≠ 0 then ckd a b c x y z else if isC a b c x y z = 0 then 0 else if 1000 < sbAll a b c x y z then 7 else 0
def sbIn (i : Nat) : R3 := pc (isF a b c x y z + sS a b c * (i + 1)) (isB a b c x y z) (isC a b c x y z - 1) c
def sbF (i : Nat) : R3 := if isC a b c x y z = 0 then pc (sA a b c) (sS a b c) (ofC a b c) c
  else if i < sbN0 a b c x y z then pc (sA a b c) (sS a b c) ((isF a b c x y z - sA a b c).tdiv (sS a b c)) c
  else if i < sbN0 a b c x y z + sbM a b c x y z then sbIn a b c x y z (i - sbN0 a b c x y z)
  else pc (sbL a b c x y z + sS a b c) (sS a b c) ((sbT a b c - sbL a b c x y z).tdiv (sS a b c)) c
end

/-- What both have, seen from the first range. -/
theorem sb_facts {a b c x y z : Int} (h : Right a b c) (h' : Right x y z) (hn : isC a b c x y z ≠ 0) :
    a ≤ b ∧ x ≤ y ∧ sA a b c = a ∧ sS a b c = absI c ∧ 1 ≤ absI c ∧ absI c ≤ 2000000 ∧ sbT a b c = b ∧ 1 ≤ isC a b c x y z ∧ isC a b c x y z ≤ 2000001 ∧ 1 ≤ isB a b c x y z ∧ isB a b c x y z ≤ 4000000000000 ∧
    -1000000 ≤ a ∧ b ≤ 1000000 ∧ isF a b c x y z ≤ sbL a b c x y z ∧
    ∃ k0 k1 : Int, 0 ≤ k0 ∧ 0 ≤ k1 ∧ k0 ≤ 2000000 ∧ k1 ≤ 2000000 ∧ isF a b c x y z = a + absI c * k0 ∧ b = sbL a b c x y z + absI c * k1 ∧
      (isF a b c x y z - sA a b c).tdiv (sS a b c) = k0 ∧ (sbT a b c - sbL a b c x y z).tdiv (sS a b c) = k1 ∧
      (1 < isC a b c x y z → ∃ m : Int, 1 ≤ m ∧ m ≤ 2000000 ∧ isB a b c x y z = absI c * m ∧ (isB a b c x y z).tdiv (sS a b c) = m ∧ isB a b c x y z ≤ 2000000) := by
  obtain ⟨w1, w2⟩ := is_sw h h'
  obtain ⟨c1, c2, c3, c4, c5⟩ := w1.resolve_left hn
  have f1 := (w2 _).1 (sIn_first c2 c1)
  have f2 := (w2 _).1 (sIn_last c2 c1)
  have hab : a ≤ b := by
    by_cases hab : a ≤ b
    · exact hab
    · have e := (empty_of (c := c) hab).2.2
      have := f1.1.2.2.1
      omega
  have hxy : x ≤ y := by
    by_cases hxy : x ≤ y
    · exact hxy
    · have e := (empty_of (c := z) hxy).2.2
      have := f1.2.2.2.1
      omega
  obtain ⟨p1, p2, p3, p4, p5, _⟩ := parts h hab
  obtain ⟨u1, u2⟩ := up_of h hab
  have eA : sA a b c = a := u1
  have eS : sS a b c = absI c := u2
  have eT : sbT a b c = b := by unfold sbT; rw [eA, eS]; omega
  obtain ⟨g1, g2, k0, g3⟩ := (rin_iff h hab).1 f1.1
  obtain ⟨g4, g5, k2, g6⟩ := (rin_iff h hab).1 f2.1
  have hl := h.1
  have hpos : ∀ {k : Int}, 0 ≤ absI c * k → 0 ≤ k := fun {k} hk => by
    rcases Int.lt_or_le k 0 with hneg | hp
    · have := Int.mul_le_mul_of_nonneg_left (show k ≤ -1 by omega) (show (0 : Int) ≤ absI c by omega)
      omega
    · exact hp
  have hk0 : 0 ≤ k0 := hpos (by omega)
  have e5 : absI c * (ofC a b c - 1 - k2) = b - sbL a b c x y z := by
    unfold sbL
    rw [Int.mul_sub, p5]; omega
  have hk1 : 0 ≤ ofC a b c - 1 - k2 := hpos (by rw [e5]; unfold sbL; omega)
  have hle : ∀ {k : Int}, 0 ≤ k → k ≤ absI c * k := fun {k} hk => by
    have := Int.mul_le_mul_of_nonneg_right p1 hk
    omega
  have m0 := hle hk0
  have m1 := hle hk1
  have hFL : isF a b c x y z ≤ sbL a b c x y z := by
    unfold sbL
    have := mulle (s := isB a b c x y z) (x := 0) (y := isC a b c x y z - 1) c2 (by omega)
    omega
  have hCC : isC a b c x y z ≤ 2000001 := by
    have := Int.mul_le_mul_of_nonneg_right c2 (show 0 ≤ isC a b c x y z - 1 by omega)
    omega
  refine ⟨hab, hxy, eA, eS, p1, p2, eT, c1, hCC, c2, c3, by omega, by omega, hFL, k0, ofC a b c - 1 - k2, hk0, hk1, by omega, ?_, g3, by omega, ?_, ?_, fun hC => ?_⟩
  · have : sbL a b c x y z = isF a b c x y z + isB a b c x y z * (isC a b c x y z - 1) := rfl
    omega
  · rw [eA, eS, g3, show a + absI c * k0 - a = absI c * k0 by omega]
    exact Int.mul_tdiv_cancel_left _ (by omega)
  · rw [eT, eS, ← e5]
    exact Int.mul_tdiv_cancel_left _ (by omega)
  · obtain ⟨_, g8, k3, g9⟩ := (rin_iff h hab).1 ((w2 _).1 (sIn_second c2 (by omega : 2 ≤ isC a b c x y z))).1
    have e : isB a b c x y z = absI c * (k3 - k0) := by rw [Int.mul_sub]; omega
    have hm : 1 ≤ k3 - k0 := by
      have := hpos (k := k3 - k0) (by omega)
      by_cases hz : k3 - k0 = 0
      · rw [hz, Int.mul_zero] at e; omega
      · omega
    have m3 := hle (k := k3 - k0) (by omega)
    exact ⟨k3 - k0, hm, by omega, e, by rw [eS, e]; exact Int.mul_tdiv_cancel_left _ (by omega), by omega⟩
end Go.RX.Span

/- Domains: plain specifications. -/
set_option linter.unusedVariables false
set_option linter.unusedSimpArgs false
namespace Go.RX.Span
open Go Go.RX

def rA (r : R3) : Int := r.1
def rB (r : R3) : Int := r.2.1
def rC (r : R3) : Int := r.2.2.1
/-- The error of one range of a domain. -/
def ck1 (r : R3) : Int := if chk (rA r) (rB r) (rC r) ≠ 0 then chk (rA r) (rB r) (rC r) else if rC r < 0 then 2 else 0
/-- Whether a map is right. -/
def fitB (k s h : Int) : Bool := decide ((k = 0 ∧ s = 0 ∧ 0 ≤ h ∧ h < 8) ∨ ((k = 1 ∨ k = 2 ∨ k = 4) ∧ s = 0 ∧ h = 0) ∨ (k = 3 ∧ 1 ≤ s ∧ s ≤ 1000 ∧ h = 0))
/-- The error of a domain. -/
def chD (n : Nat) (f : Nat → R3) (k s h : Int) : Int := if n < 1 ∨ 2 < n then 5 else if ck1 (f 0) ≠ 0 then ck1 (f 0) else if n = 2 ∧ ck1 (f 1) ≠ 0 then ck1 (f 1) else if fitB k s h = true then 0 else 2
def szR (r : R3) : Int := size (rA r) (rB r) (rC r)
def colD (n : Nat) (f : Nat → R3) : Int := if n = 1 then 1 else szR (f 1)
def szD (n : Nat) (f : Nat → R3) (k s h : Int) : Int := if chD n f k s h ≠ 0 then 0 else szR (f 0) * colD n f
def Row64 (n : Nat) (f : Nat → R3) : Prop := ∀ i, i < n → I64 (rA (f i)) ∧ I64 (rB (f i)) ∧ I64 (rC (f i))
def RR (r : R3) : Prop := Right (rA r) (rB r) (rC r) ∧ 0 < rC r
def DR (n : Nat) (f : Nat → R3) : Prop := (n = 1 ∨ n = 2) ∧ ∀ i, i < n → RR (f i)
theorem ck1_zero {r : R3} : ck1 r = 0 ↔ RR r := by
  unfold ck1 RR
  by_cases h : chk (rA r) (rB r) (rC r) = 0
  · rw [if_neg (by simp [h])]
    have hr := chk_zero.1 h
    have hc := right_c hr
    by_cases hn : rC r < 0
    · rw [if_pos hn]
      constructor
      · intro h; omega
      · rintro ⟨_, h⟩; omega
    · rw [if_neg hn]
      exact ⟨fun _ => ⟨hr, by omega⟩, fun _ => rfl⟩
  · rw [if_pos h]
    exact ⟨fun h' => absurd h' h, fun h' => absurd (chk_zero.2 h'.1) h⟩
theorem chD_zero {n : Nat} {f : Nat → R3} {k s h : Int} : chD n f k s h = 0 ↔ DR n f ∧ fitB k s h = true := by
  unfold chD DR
  by_cases h1 : n < 1 ∨ 2 < n
  · rw [if_pos h1]
    exact ⟨fun h => by omega, fun h => by omega⟩
  rw [if_neg h1]
  by_cases h2 : ck1 (f 0) = 0
  · rw [if_neg (by simp [h2])]
    by_cases h3 : n = 2 ∧ ck1 (f 1) ≠ 0
    · rw [if_pos h3]
      exact ⟨fun h => absurd h h3.2, fun h => absurd (ck1_zero.2 (h.1.2 1 (by omega))) h3.2⟩
    · rw [if_neg h3]
      have hall : ∀ i, i < n → RR (f i) := fun i hi => by
        rcases (show i = 0 ∨ i = 1 by omega) with rfl | rfl
        · exact ck1_zero.1 h2
        · exact ck1_zero.1 (Classical.byContradiction fun h => h3 ⟨by omega, h⟩)
      by_cases h4 : fitB k s h = true
      · rw [if_pos h4]
        exact ⟨fun _ => ⟨⟨by omega, hall⟩, h4⟩, fun _ => rfl⟩
      · rw [if_neg h4]
        exact ⟨fun h => by omega, fun h => absurd h.2 h4⟩
  · rw [if_pos h2]
    exact ⟨fun h => absurd h h2, fun h => absurd (ck1_zero.2 (h.1.2 0 (by omega))) h2⟩
theorem rr_size {r : R3} (h : RR r) : szR r = ofC (rA r) (rB r) (rC r) ∧ 0 ≤ szR r ∧ szR r ≤ 2000001 := by
  have e : szR r = ofC (rA r) (rB r) (rC r) := size_eq' h.1
  have := ofC_bnd h.1
  exact ⟨e, by omega, by omega⟩
theorem dr_col {n : Nat} {f : Nat → R3} (h : DR n f) : 0 ≤ colD n f ∧ colD n f ≤ 2000001 := by
  unfold colD
  by_cases h1 : n = 1
  · rw [if_pos h1]; omega
  · rw [if_neg h1]
    have hn := h.1
    have := rr_size (h.2 1 (by omega))
    omega
theorem szD_right {n : Nat} {f : Nat → R3} {k s h : Int} (hr : chD n f k s h = 0) : szD n f k s h = szR (f 0) * colD n f := by unfold szD; rw [if_neg (by simp [hr])]
theorem dr_prod {n : Nat} {f : Nat → R3} (h : DR n f) : 0 ≤ szR (f 0) * colD n f ∧ szR (f 0) * colD n f ≤ 5000000000000 := by
  have hn := h.1
  have h0 := rr_size (h.2 0 (by omega))
  have h1 := dr_col h
  refine ⟨Int.mul_nonneg h0.2.1 h1.1, ?_⟩
  have := Int.mul_le_mul h0.2.2 h1.2 h1.1 (by omega)
  omega
/-- Right ranges as numbers of 64 bits. -/
theorem rr_64 {r : R3} (h : RR r) : I64 (rA r) ∧ I64 (rB r) ∧ I64 (rC r) := by
  have h1 := h.1.1
  have h2 := right_c h.1
  unfold I64
  omega
theorem dr_64 {n : Nat} {f : Nat → R3} (h : DR n f) : Row64 n f := fun i hi => rr_64 (h.2 i hi)

/-- What two ranges have both. -/
def isR (r q : R3) : R3 := (isL (rA r) (rB r) (rC r) (rA q) (rB q) (rC q), isH (rA r) (rB r) (rC r) (rA q) (rB q) (rC q), isS (rA r) (rB r) (rC r) (rA q) (rB q) (rC q), ())
section
variable (n : Nat) (f : Nat → R3) (k s h : Int) (m : Nat) (g : Nat → R3) (k' s' h' : Int)
def boE : Int := if chD n f k s h ≠ 0 then chD n f k s h else if chD m g k' s' h' ≠ 0 then chD m g k' s' h' else if n ≠ m then 5 else 0
def diN : Nat := if boE n f k s h m g k' s' h' ≠ 0 then 0 else n
def diX (x : Int) : Int := if boE n f k s h m g k' s' h' ≠ 0 then 0 else x
def wiD : Bool := if boE n f k s h m g k' s' h' ≠ 0 then false else decide (szD n (fun i => isR (f i) (g i)) k s h = szD n f k s h)
noncomputable def saD : Bool := if boE n f k s h m g k' s' h' ≠ 0 then false else if szD n f k s h = 0 ∨ szD m g k' s' h' = 0 then decide (szD n f k s h = szD m g k' s' h') else eqR3 n f m g
end
def diF (f g : Nat → R3) : Nat → R3 := fun i => isR (f i) (g i)

section
variable {n : Nat} {f : Nat → R3} {k s h : Int} {m : Nat} {g : Nat → R3} {k' s' h' : Int}
theorem boE_zero : boE n f k s h m g k' s' h' = 0 ↔ chD n f k s h = 0 ∧ chD m g k' s' h' = 0 ∧ n = m := by
  unfold boE
  by_cases h1 : chD n f k s h = 0
  · rw [if_neg (by simp [h1])]
    by_cases h2 : chD m g k' s' h' = 0
    · rw [if_neg (by simp [h2])]
      by_cases h3 : n = m
      · rw [if_neg (by simp [h3])]; exact ⟨fun _ => ⟨h1, h2, h3⟩, fun _ => rfl⟩
      · rw [if_pos h3]; exact ⟨fun h => by omega, fun h => absurd h.2.2 h3⟩
    · rw [if_pos h2]; exact ⟨fun h => absurd h h2, fun h => absurd h.2.1 h2⟩
  · rw [if_pos h1]; exact ⟨fun h => absurd h h1, fun h => absurd h.1 h1⟩
end
end Go.RX.Span

/- Domains: the contracts of layer 2's functions. -/
set_option linter.unusedVariables false
namespace Go.RX.Span
open Go Go.RX

noncomputable def c_fits : Con := fun args => match args with
  | [.agg [.lit (.int .i64 k), .lit (.int .i64 s), .lit (.int .i64 h)]] => .ret (.lit (.bool (lk fitB k s h)))
  | _ => .stuck 1
noncomputable def c_DCheck : Con := fun args => match args with
  | [.agg [.row [.int .i64, .int .i64, .int .i64] n f, .lit (.int .i64 k), .lit (.int .i64 s), .lit (.int .i64 h)]] => .ask (Row64 n f) (.ret (.lit (.int .i64 (lk chD n f k s h))))
  | _ => .stuck 1
noncomputable def c_columns : Con := fun args => match args with
  | [.agg [.row [.int .i64, .int .i64, .int .i64] n f, .lit (.int .i64 k), .lit (.int .i64 s), .lit (.int .i64 h)]] => .ask (Row64 n f ∧ (n = 1 ∨ n = 2)) (.ret (.lit (.int .i64 (lk colD n f))))
  | _ => .stuck 1
noncomputable def c_DSize : Con := fun args => match args with
  | [.agg [.row [.int .i64, .int .i64, .int .i64] n f, .lit (.int .i64 k), .lit (.int .i64 s), .lit (.int .i64 h)]] => .ask (Row64 n f) (.ret (.lit (.int .i64 (lk szD n f k s h))))
  | _ => .stuck 1
noncomputable def c_both : Con := fun args => match args with
  | [.agg [.row [.int .i64, .int .i64, .int .i64] n f, .lit (.int .i64 k), .lit (.int .i64 s), .lit (.int .i64 h)], .agg [.row [.int .i64, .int .i64, .int .i64] m g, .lit (.int .i64 k'), .lit (.int .i64 s'), .lit (.int .i64 h')]] =>
    .ask (Row64 n f ∧ Row64 m g) (.ret (.lit (.int .i64 (lk boE n f k s h m g k' s' h'))))
  | _ => .stuck 1
noncomputable def c_DIntersect : Con := fun args => match args with
  | [.agg [.row [.int .i64, .int .i64, .int .i64] n f, .lit (.int .i64 k), .lit (.int .i64 s), .lit (.int .i64 h)], .agg [.row [.int .i64, .int .i64, .int .i64] m g, .lit (.int .i64 k'), .lit (.int .i64 s'), .lit (.int .i64 h')]] =>
    .ask (Row64 n f ∧ Row64 m g) (.ret (.tup [.agg [.row [.int .i64, .int .i64, .int .i64] (lk diN n f k s h m g k' s' h') (lk diF f g), .lit (.int .i64 (lk diX n f k s h m g k' s' h' k)), .lit (.int .i64 (lk diX n f k s h m g k' s' h' s)), .lit (.int .i64 (lk diX n f k s h m g k' s' h' h))], .lit (.int .i64 (lk boE n f k s h m g k' s' h'))]))
  | _ => .stuck 1
noncomputable def c_DWithin : Con := fun args => match args with
  | [.agg [.row [.int .i64, .int .i64, .int .i64] n f, .lit (.int .i64 k), .lit (.int .i64 s), .lit (.int .i64 h)], .agg [.row [.int .i64, .int .i64, .int .i64] m g, .lit (.int .i64 k'), .lit (.int .i64 s'), .lit (.int .i64 h')]] =>
    .ask (Row64 n f ∧ Row64 m g) (.ret (.tup [.lit (.bool (lk wiD n f k s h m g k' s' h')), .lit (.int .i64 (lk boE n f k s h m g k' s' h'))]))
  | _ => .stuck 1
noncomputable def c_DSame : Con := fun args => match args with
  | [.agg [.row [.int .i64, .int .i64, .int .i64] n f, .lit (.int .i64 k), .lit (.int .i64 s), .lit (.int .i64 h)], .agg [.row [.int .i64, .int .i64, .int .i64] m g, .lit (.int .i64 k'), .lit (.int .i64 s'), .lit (.int .i64 h')]] =>
    .ask (Row64 n f ∧ Row64 m g) (.ret (.lit (.bool (lk saD n f k s h m g k' s' h'))))
  | _ => .stuck 1
end Go.RX.Span

/- Domains: Check, Size: the walks. -/
set_option linter.unusedVariables false
set_option linter.unusedSimpArgs false
set_option maxRecDepth 100000
namespace Go.RX.Span
open Go Go.RX
attribute [local irreducible] sx conB

set_option maxRecDepth 100000 in
theorem t_fits (k s h : Int) : conB Go.Proofs.Try.prog (conOf []) noLoops 10 147 [.agg [.lit (.int .i64 k), .lit (.int .i64 s), .lit (.int .i64 h)]] =
    T.br (U.eq k (0 : Int)) (.br (U.ge s (0 : Int)) (.br (U.le s (0 : Int)) (.br (U.ge h (0 : Int)) (.ret (.lit (.bool (U.lt h (8 : Int))))) (.ret (.lit (.bool false)))) (.ret (.lit
      (.bool false)))) (.ret (.lit (.bool false)))) (.br (U.eq k (3 : Int)) (.br (U.ge s (1 : Int)) (.br (U.le s (1000 : Int)) (.br (U.ge h (0 : Int)) (.ret (.lit (.bool (U.lt h (1 :
      Int))))) (.ret (.lit (.bool false)))) (.ret (.lit (.bool false)))) (.ret (.lit (.bool false)))) (.br (U.eq k (1 : Int)) (.br (U.ge s (0 : Int)) (.br (U.le s (0 : Int)) (.br (U.ge h
      (0 : Int)) (.ret (.lit (.bool (U.lt h (1 : Int))))) (.ret (.lit (.bool false)))) (.ret (.lit (.bool false)))) (.ret (.lit (.bool false)))) (.br (U.eq k (2 : Int)) (.br (U.ge s (0 :
      Int)) (.br (U.le s (0 : Int)) (.br (U.ge h (0 : Int)) (.ret (.lit (.bool (U.lt h (1 : Int))))) (.ret (.lit (.bool false)))) (.ret (.lit (.bool false)))) (.ret (.lit (.bool false))))
      (.br (U.eq k (4 : Int)) (.br (U.ge s (0 : Int)) (.br (U.le s (0 : Int)) (.br (U.ge h (0 : Int)) (.ret (.lit (.bool (U.lt h (1 : Int))))) (.ret (.lit (.bool false)))) (.ret (.lit
      (.bool false)))) (.ret (.lit (.bool false)))) (.ret (.lit (.bool false))))))) := by kernel_rfl
theorem fits_ok : ConOK P 147 c_fits := con_of (allOK mixed none_ok) 10 147 fun args r h => by
  unfold c_fits at h
  split at h
  · rename_i k s h'
    obtain rfl := T.is_ret h
    rw [t_fits]
    simp only [T.All, U.le_t, U.le_f, U.lt_t, U.lt_f, U.gt_t, U.gt_f, U.ge_t, U.ge_f, U.eq_t, U.eq_f, U.ne_t, U.ne_f, U.not_t, U.not_f, U.andb_t, U.andb_f, SV.lit.injEq, SV.agg.injEq, SV.tup.injEq, List.cons.injEq, Value.int.injEq, Value.bool.injEq, true_and, and_true, lk_eq, fitB]
    repeat' (first | apply And.intro | intro _)
    all_goals first | exact (decide_eq_false (by omega)).symm | (rw [U.lt_eq]; exact decide_eq_decide.2 (by constructor <;> intro _ <;> omega))
  · exact h.elim
noncomputable abbrev d0 : List (Nat × Con) := (147, c_fits) :: (22, c_Intersect) :: k8 --%K
theorem d0_ok : ∀ p ∈ d0, ConOK P p.1 p.2 := by
  intro p hp
  simp only [d0, List.mem_cons] at hp
  rcases hp with rfl | rfl | hp
  · exact fits_ok
  · exact Intersect_ok
  · exact k8_ok p (by simpa [k8] using hp)
noncomputable abbrev lDC : List (Nat × Loops) := [(63, [(4, .un 3)])] --%K
set_option maxRecDepth 100000 in
theorem t_DCheck (n : Nat) (f : Nat → R3) (k s h : Int) : conB Go.Proofs.Try.prog (conOf d0) (loopsOf lDC) 10 63 [.agg [.row [.int .i64, .int .i64, .int .i64] n f, .lit (.int .i64 k), .lit (.int .i64 s), .lit (.int .i64 h)]] =
    T.br (U.lt (Int.ofNat n) (1 : Int)) (.ret (.lit (.int .i64 5))) (.br (U.gt (Int.ofNat n) (2 : Int)) (.ret (.lit (.int .i64 5))) (.br (U.lt (0 : Int) (Int.ofNat n)) (.ask ((0 : Int)
      ≤ (0 : Int) ∧ (0 : Int) < ↑n) (.ask (I64 (f (U.toNat (Int.ofNat 0))).1 ∧ I64 (f (U.toNat (Int.ofNat 0))).2.1 ∧ I64 (f (U.toNat (Int.ofNat 0))).2.2.1) (.br (U.ne (lk chk (f (U.toNat
      (Int.ofNat 0))).1 (f (U.toNat (Int.ofNat 0))).2.1 (f (U.toNat (Int.ofNat 0))).2.2.1) (0 : Int)) (.ret (.lit (.int .i64 (lk chk (f (U.toNat (Int.ofNat 0))).1 (f (U.toNat (Int.ofNat
      0))).2.1 (f (U.toNat (Int.ofNat 0))).2.2.1)))) (.br (U.lt (f (U.toNat (Int.ofNat 0))).2.2.1 (0 : Int)) (.ret (.lit (.int .i64 2))) (.br (U.lt (1 : Int) (Int.ofNat n)) (.ask ((0 :
      Int) ≤ (1 : Int) ∧ (1 : Int) < ↑n) (.ask (I64 (f (U.toNat (Int.ofNat 1))).1 ∧ I64 (f (U.toNat (Int.ofNat 1))).2.1 ∧ I64 (f (U.toNat (Int.ofNat 1))).2.2.1) (.br (U.ne (lk chk (f
      (U.toNat (Int.ofNat 1))).1 (f (U.toNat (Int.ofNat 1))).2.1 (f (U.toNat (Int.ofNat 1))).2.2.1) (0 : Int)) (.ret (.lit (.int .i64 (lk chk (f (U.toNat (Int.ofNat 1))).1 (f (U.toNat
      (Int.ofNat 1))).2.1 (f (U.toNat (Int.ofNat 1))).2.2.1)))) (.br (U.lt (f (U.toNat (Int.ofNat 1))).2.2.1 (0 : Int)) (.ret (.lit (.int .i64 2))) (.br (U.lt (2 : Int) (Int.ofNat n))
      (.ask ((0 : Int) ≤ (2 : Int) ∧ (2 : Int) < ↑n) (.ask (I64 (f (U.toNat (Int.ofNat 2))).1 ∧ I64 (f (U.toNat (Int.ofNat 2))).2.1 ∧ I64 (f (U.toNat (Int.ofNat 2))).2.2.1) (.br (U.ne (lk
      chk (f (U.toNat (Int.ofNat 2))).1 (f (U.toNat (Int.ofNat 2))).2.1 (f (U.toNat (Int.ofNat 2))).2.2.1) (0 : Int)) (.ret (.lit (.int .i64 (lk chk (f (U.toNat (Int.ofNat 2))).1 (f
      (U.toNat (Int.ofNat 2))).2.1 (f (U.toNat (Int.ofNat 2))).2.2.1)))) (.br (U.lt (f (U.toNat (Int.ofNat 2))).2.2.1 (0 : Int)) (.ret (.lit (.int .i64 2))) (.stuck (nat_lit 105))))))
      (.br (U.not (lk fitB k s h)) (.ret (.lit (.int .i64 2))) (.ret (.lit (.int .i64 0))))))))) (.br (U.not (lk fitB k s h)) (.ret (.lit (.int .i64 2))) (.ret (.lit (.int .i64 0)))))))))
      (.br (U.not (lk fitB k s h)) (.ret (.lit (.int .i64 2))) (.ret (.lit (.int .i64 0)))))) := by kernel_rfl
theorem lDC_ok : ∀ p ∈ lDC, LoopsOK P p.2 (bodyOf P p.1) := by
  intro p hp
  simp only [lDC, List.mem_singleton] at hp
  subst hp
  exact loopsOK_un fun q hq => by simp only [List.mem_singleton] at hq; subst hq; exact ⟨3, rfl⟩
theorem tn (j : Nat) : U.toNat (Int.ofNat j) = j := by rw [U.toNat_eq]; rfl
theorem r3 (r : R3) : ∃ a b c : Int, r = (a, b, c, ()) := ⟨r.1, r.2.1, r.2.2.1, rfl⟩
theorem DCheck_ok : ConOK P 63 c_DCheck := con_of (allOKL mixed d0_ok lDC_ok) 10 63 fun args r h => by
  unfold c_DCheck at h
  split at h
  · rename_i n f k s h'
    have hp : Row64 n f := (T.is_ask h).1
    have h := (T.is_ask h).2
    obtain rfl := T.is_ret h
    rw [t_DCheck]
    obtain ⟨a0, b0, c0, hf0⟩ := r3 (f 0)
    obtain ⟨a1, b1, c1, hf1⟩ := r3 (f 1)
    have hI0 : 0 < n → I64 a0 ∧ I64 b0 ∧ I64 c0 := fun hn => by have := hp 0 hn; rw [hf0] at this; exact this
    have hI1 : 1 < n → I64 a1 ∧ I64 b1 ∧ I64 c1 := fun hn => by have := hp 1 hn; rw [hf1] at this; exact this
    have k0 : ck1 (f 0) = if chk a0 b0 c0 ≠ 0 then chk a0 b0 c0 else if c0 < 0 then 2 else 0 := by rw [hf0]; rfl
    have k1 : ck1 (f 1) = if chk a1 b1 c1 ≠ 0 then chk a1 b1 c1 else if c1 < 0 then 2 else 0 := by rw [hf1]; rfl
    simp only [tn, lk_eq, hf0, hf1]
    simp only [Int.ofNat_eq_natCast]
    by_cases h1 : n < 1
    · have : n = 0 := by omega
      subst this
      simp [T.All, U.lt_eq, chD]
    by_cases h2 : 2 < n
    · have e : chD n f k s h' = 5 := by unfold chD; rw [if_pos (.inr h2)]
      have g1 : U.lt (n : Int) 1 = false := by rw [U.lt_eq]; exact decide_eq_false (by omega)
      have g2 : U.gt (n : Int) 2 = true := by rw [U.gt_eq]; exact decide_eq_true (by omega)
      simp only [T.All, g1, g2, e]
      simp
    have hn : n = 1 ∨ n = 2 := by omega
    by_cases z0 : chk a0 b0 c0 = 0
    · by_cases m0 : c0 < 0
      · rw [if_neg (by simp [z0]), if_pos m0] at k0
        have e2 : chD n f k s h' = 2 := by unfold chD; rw [if_neg (by omega), if_pos (by omega), k0]
        rcases hn with rfl | rfl <;> simp [T.All, U.lt_eq, U.gt_eq, U.ne_eq, hI0, z0, m0, e2]
      · rw [if_neg (by simp [z0]), if_neg m0] at k0
        rcases hn with rfl | rfl
        · have e2 : chD 1 f k s h' = if fitB k s h' = true then 0 else 2 := by unfold chD; rw [if_neg (by omega), if_neg (by omega), if_neg (by omega)]
          cases hf : fitB k s h' <;> simp [T.All, U.lt_eq, U.gt_eq, U.ne_eq, U.not_eq, hI0, z0, m0, e2, hf]
        · by_cases z1 : chk a1 b1 c1 = 0
          · by_cases m1 : c1 < 0
            · rw [if_neg (by simp [z1]), if_pos m1] at k1
              have e2 : chD 2 f k s h' = 2 := by unfold chD; rw [if_neg (by omega), if_neg (by omega), if_pos ⟨rfl, by omega⟩, k1]
              simp [T.All, U.lt_eq, U.gt_eq, U.ne_eq, hI0, hI1, z0, m0, z1, m1, e2]
            · rw [if_neg (by simp [z1]), if_neg m1] at k1
              have e2 : chD 2 f k s h' = if fitB k s h' = true then 0 else 2 := by unfold chD; rw [if_neg (by omega), if_neg (by omega), if_neg (fun h => h.2 k1)]
              cases hf : fitB k s h' <;> simp [T.All, U.lt_eq, U.gt_eq, U.ne_eq, U.not_eq, hI0, hI1, z0, m0, z1, m1, e2, hf]
          · rw [if_pos z1] at k1
            have e2 : chD 2 f k s h' = chk a1 b1 c1 := by unfold chD; rw [if_neg (by omega), if_neg (by omega), if_pos ⟨rfl, by rw [k1]; exact z1⟩, k1]
            simp [T.All, U.lt_eq, U.gt_eq, U.ne_eq, hI0, hI1, z0, m0, z1, e2]
    · rw [if_pos z0] at k0
      have e2 : chD n f k s h' = chk a0 b0 c0 := by unfold chD; rw [if_neg (by omega), if_pos (by rw [k0]; exact z0), k0]
      rcases hn with rfl | rfl <;> simp [T.All, U.lt_eq, U.gt_eq, U.ne_eq, hI0, z0, e2]
  · exact h.elim
end Go.RX.Span

/- The library's slices.Equal of ranges: the walks. -/
set_option linter.unusedVariables false
set_option linter.unusedSimpArgs false
set_option maxRecDepth 100000
namespace Go.RX.Span
open Go Go.RX

set_option maxRecDepth 100000 in
theorem t_G (n0 n n1 : Nat) (f f1 : Nat → Els [.int .i64, .int .i64, .int .i64]) (len i : Int) : (sx E0 [] n0 (loopOf P 145 4) (mkS 26 [0, 1, 4, 12, 13] [.row [.int .i64, .int .i64, .int .i64] n f, .row [.int .i64, .int .i64, .int .i64] n1 f1, .any, .lit (.int .i64 len), .lit (.int .i64 i)], [])).bind (proj 26 [0, 1, 4, 12, 13]) =
    T.br (U.lt i len) (.ask ((0 : Int) ≤ i ∧ i < ↑n) (.ask ((0 : Int) ≤ i ∧ i < ↑n1) (.br (U.not (U.andb (U.eq (f (U.toNat i)).1 (f1 (U.toNat i)).1) (U.andb (U.eq (f (U.toNat i)).2.1
      (f1 (U.toNat i)).2.1) (U.eq (f (U.toNat i)).2.2.1 (f1 (U.toNat i)).2.2.1)))) (.ret (Ex.ret, [.row [.int .i64, .int .i64, .int .i64] n f, .row [.int .i64, .int .i64, .int .i64] n1
      f1, SV.kb false, .lit (.int .i64 len), .lit (.int .i64 i)], [])) (.ret (Ex.normal, [.row [.int .i64, .int .i64, .int .i64] n f, .row [.int .i64, .int .i64, .int .i64] n1 f1, SV.any,
      .lit (.int .i64 len), .lit (.int .i64 (U.add .i64 i (1 : Int)))], []))))) (.ret (Ex.exit (nat_lit 0), [.row [.int .i64, .int .i64, .int .i64] n f, .row [.int .i64, .int .i64, .int
      .i64] n1 f1, SV.any, .lit (.int .i64 len), .lit (.int .i64 i)], [])) := by kernel_rfl
theorem roundG (n0 : Nat) (x : XG) (hx : PhiG n0 x) : ((sx E0 [] n0 (loopOf P 145 4) (mkS 26 [0, 1, 4, 12, 13] (VG x).1, (VG x).2)).bind (proj 26 [0, 1, 4, 12, 13])).All fun r => match r.1 with
      | .normal => ∃ x', PhiG n0 x' ∧ x'.n - x'.k < x.n - x.k ∧ Wk 26 [0, 1, 4, 12, 13] n0 r.2 (VG x') ∧ ∀ o, ZG x' o → ZG x o
      | e => ∃ s, ZG x (e, s) ∧ Wk 26 [0, 1, 4, 12, 13] n0 r.2 s := by
  obtain ⟨n, n1, f, f1, len, k⟩ := x
  unfold VG
  dsimp only
  refine T.all_of_eq (t_G n0 n n1 f f1 len k) ?_
  obtain ⟨⟨h0, e1, e2, ht⟩, hk, hall⟩ := hx
  simp only [] at h0 e1 e2 ht hk hall
  subst h0; subst e1
  simp only [top] at ht
  have w0 : ∀ {vs vs' : List SV}, RlL (idR 0) vs vs' → Wk 26 [0, 1, 4, 12, 13] 0 (vs, []) (vs', []) := fun h => wk_of (idR 0) rfl (Nat.zero_le _) (fun b hb => by omega) h trivial
  by_cases hlt : k < n
  · have hadd : U.add .i64 (k : Int) 1 = ((k + 1 : Nat) : Int) := by rw [U.add64 (by unfold I64; omega)]; omega
    simp only [T.All, U.le_t, U.le_f, U.lt_t, U.lt_f, U.gt_t, U.gt_f, U.ge_t, U.ge_f, U.eq_t, U.eq_f, U.ne_t, U.ne_f, U.not_t, U.not_f, U.andb_t, U.andb_f, SV.lit.injEq, SV.agg.injEq, SV.tup.injEq, List.cons.injEq, Value.int.injEq, Value.bool.injEq, true_and, and_true, lk_eq, U.toNat_eq, Int.toNat_natCast]
    refine ⟨fun _ => ⟨⟨by omega, by omega⟩, ⟨by omega, by omega⟩, fun hne => ⟨OG'.2, ⟨fun he => absurd ((eqR3_t.1 he).2 k hlt) (fun s => Bool.noConfusion ((hne (Eq.mpr U.eq_t s.1) (Eq.mpr U.eq_t s.2.1)).symm.trans (Eq.mpr U.eq_t s.2.2))), fun _ => rfl⟩, w0 ⟨trivial, trivial, rfl, trivial, trivial, trivial⟩⟩, fun heq => ?_⟩, fun h => absurd h (by omega)⟩
    refine ⟨⟨n, n, f, f1, len, k + 1⟩, ⟨⟨rfl, rfl, e2, ht⟩, hlt, fun i hi => ?_⟩, by simp only []; omega, w0 ⟨⟨rfl, sameRow_refl _ _⟩, ⟨rfl, sameRow_refl _ _⟩, trivial, rfl, by rw [hadd]; rfl, trivial⟩, fun o ho => ho⟩
    by_cases h : i = k
    · subst h; exact ⟨Eq.mp U.eq_t heq.1, Eq.mp U.eq_t heq.2.1, Eq.mp U.eq_t heq.2.2⟩
    · have hi' : i < k + 1 := hi
      exact hall i (by omega)
  · have : (k : Int) = n := by omega
    have hkn : k = n := by omega
    simp only [T.All, U.le_t, U.le_f, U.lt_t, U.lt_f, U.gt_t, U.gt_f, U.ge_t, U.ge_f, U.eq_t, U.eq_f, U.ne_t, U.ne_f, U.not_t, U.not_f, U.andb_t, U.andb_f, SV.lit.injEq, SV.agg.injEq, SV.tup.injEq, List.cons.injEq, Value.int.injEq, Value.bool.injEq, true_and, and_true, lk_eq]
    refine ⟨fun h => absurd h (by omega), fun _ => ⟨(OG ⟨n, n, f, f1, len, k⟩).2, ⟨fun _ => rfl, fun he => ?_⟩, w0 ⟨⟨rfl, sameRow_refl _ _⟩, ⟨rfl, sameRow_refl _ _⟩, trivial, trivial, trivial, trivial⟩⟩⟩
    rw [eqR3_t.2 ⟨rfl, fun i hi => hall i (by have hi' : i < n := hi; omega)⟩] at he
    cases he
theorem loopG : LoopOK P (loopOf P 145 4) (few 26 [0, 1, 4, 12, 13] gG) :=
  loop_few (E := E0) mixed E0_ok loopsOK_none 26 [0, 1, 4, 12, 13] (X := XG) gG (fun _ x => VG x) PhiG (fun x => x.n - x.k) (fun _ x o => ZG x o)
    (fun n0 s r h => by
      unfold gG at h
      split at h
      · rename_i n0 n f n1 f1 s4 len
        obtain ⟨h0, e1, e2, ht⟩ := (T.is_ask h).1
        have h := (T.is_ask h).2
        rcases h with ⟨he, h⟩ | ⟨he, h⟩ <;> rw [lk_eq] at he <;> obtain rfl := T.is_ret h
        all_goals
          refine ⟨⟨n, n1, f, f1, len, 0⟩, ⟨⟨h0, e1, e2, ht⟩, Nat.zero_le _, fun i hi => by simp only [] at hi; omega⟩, wk_of (idR 0) rfl (by rw [h0]; exact Nat.zero_le _) (fun b hb => by omega) ⟨⟨rfl, sameRow_refl _ _⟩, ⟨rfl, sameRow_refl _ _⟩, rl_any _, rfl, rfl, trivial⟩ trivial, fun o ho => ?_⟩
          first | exact ho.1 he | exact ho.2 he
      · exact h.elim)
    roundG
theorem l56_ok : ∀ p ∈ l56, LoopsOK P p.2 (bodyOf P p.1) := by
  intro p hp
  simp only [l56, List.mem_singleton] at hp
  subst hp
  refine loopsOK_of (by kernel_rfl) fun k g hk => ?_
  simp only [List.mem_singleton, Prod.mk.injEq, LoopC.sum.injEq] at hk
  obtain ⟨rfl, rfl⟩ := hk
  exact loopG

noncomputable def c_Equal3 : Con := fun args => match args with
  | [.row [.int .i64, .int .i64, .int .i64] n f, .row [.int .i64, .int .i64, .int .i64] n1 f1] => .ask (n ≤ top) (.ret (.lit (.bool (lk eqR3 n f n1 f1))))
  | _ => .stuck 1
set_option maxRecDepth 100000 in
theorem t_Equal3 (n n1 : Nat) (f f1 : Nat → Els [.int .i64, .int .i64, .int .i64]) : conB Go.Proofs.Try.prog (conOf []) (loopsOf l56) 10 145 [.row [.int .i64, .int .i64, .int .i64] n f, .row [.int .i64, .int .i64, .int .i64] n1 f1] =
    T.br (U.ne (Int.ofNat n) (Int.ofNat n1)) (.ret (.lit (.bool false))) (.ask (PreE (nat_lit 0) n n1 ↑n) (.br (lk eqR3 n f n1 f1) (.ret (.lit (.bool true))) (.ret (.lit (.bool
      false))))) := by kernel_rfl
theorem Equal3_ok : ConOK P 145 c_Equal3 := con_of (allOKL mixed none_ok l56_ok) 10 145 fun args r h => by
  unfold c_Equal3 at h
  split at h
  · rename_i n f n1 f1
    have hp := (T.is_ask h).1
    have h := (T.is_ask h).2
    obtain rfl := T.is_ret h
    rw [t_Equal3]
    by_cases hn : n = n1
    · subst hn
      have hpre : PreE 0 n n n := ⟨rfl, rfl, rfl, hp⟩
      have hne : U.ne (Int.ofNat n) (Int.ofNat n) = false := by rw [U.ne_eq]; simp
      simp only [T.All, hne, hpre, lk_eq]
      cases eqR3 n f n f1 <;> simp
    · have he : eqR3 n f n1 f1 = false := by
        cases h : eqR3 n f n1 f1
        · rfl
        · exact absurd (eqR3_t.1 h).1 hn
      have hne : U.ne (Int.ofNat n) (Int.ofNat n1) = true := by rw [U.ne_eq]; simp only [Int.ofNat_eq_natCast]; simp; omega
      simp only [T.All, hne, lk_eq, he]
      simp
  · exact h.elim
end Go.RX.Span

/- The reference's Intersect: the search loop's states. -/
set_option linter.unusedVariables false
set_option linter.unusedSimpArgs false
namespace Go.RX.Span
open Go Go.RX

noncomputable abbrev kr : List (Nat × Con) := (197, c_Gcd) :: k8
end Go.RX.Span

/- The reference's Intersect: the walks. -/
set_option linter.unusedVariables false
set_option linter.unusedSimpArgs false
set_option maxRecDepth 100000
namespace Go.RX.Span
open Go Go.RX
attribute [local irreducible] sx conB

end Go.RX.Span

/- The reference's Hull and Within: the walks. -/
set_option linter.unusedVariables false
set_option linter.unusedSimpArgs false
set_option maxRecDepth 100000
namespace Go.RX.Span
open Go Go.RX
attribute [local irreducible] sx conB

noncomputable abbrev ks : List (Nat × Con) := (22, c_Intersect) :: (158, c_Intersect) :: (110, c_checked) :: (111, c_common) :: kr --%K
end Go.RX.Span

/- The reference's Subtract: the loop's states. -/
set_option linter.unusedVariables false
set_option linter.unusedSimpArgs false
namespace Go.RX.Span
open Go Go.RX

theorem cat_l {n i : Nat} {f g : Nat → R3} (h : i < n) : U.cat n f g i = f i := (U.cat_eq _ _ _ _).trans (if_pos h)
theorem cat_r {n i : Nat} {f g : Nat → R3} (h : n ≤ i) : U.cat n f g i = g (i - n) := (U.cat_eq _ _ _ _).trans (if_neg (by omega))
def rM (s t : Int) : Nat := (t.tdiv s - 1).toNat
end Go.RX.Span

/- The reference's Subtract: the walks. -/
set_option linter.unusedVariables false
set_option linter.unusedSimpArgs false
set_option maxRecDepth 100000
namespace Go.RX.Span
open Go Go.RX
attribute [local irreducible] sx conB

theorem sameR {n : Nat} {f g : Nat → R3} (h : ∀ i, i < n → f i = g i) : sameRow n f g := ⟨eqShs_refl _, fun i hi => h i hi⟩
theorem rM_spec {s t : Int} (hs : 1 ≤ s) (ht : 1 ≤ t) (h : ∃ m : Int, t = s * m) : s * ((rM s t : Int) + 1) = t := by
  obtain ⟨m, rfl⟩ := h
  have e : (s * m).tdiv s = m := Int.mul_tdiv_cancel_left _ (by omega)
  have hm : 1 ≤ m := by
    rcases Int.lt_or_le 0 m with h | h
    · omega
    · have := Int.mul_le_mul_of_nonneg_left h (show (0 : Int) ≤ s by omega); omega
  unfold rM
  rw [e, Int.toNat_of_nonneg (by omega), show m - 1 + 1 = m by omega]
end Go.RX.Span

/- The program's Subtract: the loop's states. -/
set_option linter.unusedVariables false
set_option linter.unusedSimpArgs false
namespace Go.RX.Span
open Go Go.RX

noncomputable abbrev ku : List (Nat × Con) := (110, c_checked) :: (111, c_common) :: k8
theorem ku_ok : ∀ p ∈ ku, ConOK P p.1 p.2 := by
  intro p hp
  simp only [ku, List.mem_cons] at hp
  rcases hp with rfl | rfl | hp
  · exact checked_ok
  · exact common_ok
  · exact k8_ok p (by simpa [k8] using hp)
noncomputable abbrev Eu : Env := ⟨P, conOf ku, scall P (conOf ku) noLoops 10⟩
theorem Eu_ok : EnvOK Eu := envOK (allOK mixed ku_ok) 10
structure XP where
  (a b c x y z F S C G B D : Int) (u : Bool) (n : Nat) (f : Nat → R3) (j : Nat)
/-- The program's i-th inner piece. -/
def ppc (c S G B D : Int) (i : Nat) : R3 := pc (G + S * (i + 1)) B (D - 1) c
def pM (S B D : Int) (n : Nat) : Nat := if 1 < D then min (rM S B) (1001 - n) else 0
noncomputable def ppF (c S G B D : Int) (n : Nat) (f : Nat → R3) : Nat → R3 := U.cat n f (ppc c S G B D)
def Dv (s t : Int) : Prop := ∃ m : Int, t = s * m
def PreP (n0 : Nat) (S G B D : Int) (u : Bool) (n : Nat) : Prop := n0 = 0 ∧ (1 ≤ S ∧ S ≤ 2000000) ∧ (1 ≤ B ∧ B ≤ 4000000000000) ∧ (1 ≤ D ∧ D ≤ 2000001) ∧ (-1000000 ≤ G ∧ G + B * (D - 1) ≤ 1000000) ∧ (1 < D → Dv S B) ∧ n ≤ 1
noncomputable def memP (a b c x y z F S C G B D : Int) (u : Bool) (n : Nat) (f : Nat → R3) : Mem := [(0, some (.cells [.lit (.int .i64 a), .lit (.int .i64 b), .lit (.int .i64 c)] 23)), (0, some (.cells [.lit (.int .i64 x), .lit (.int .i64 y), .lit (.int .i64 z)] 23)), (0, some (.cells [.lit (.int .i64 F), .lit (.int .i64 S), .lit (.int .i64 C)] 114)), (0, some (.cells [.lit (.int .i64 G), .lit (.int .i64 B), .lit (.int .i64 D)] 114)), (0, some (.cells [.own u 8 n] 29)), (0, none), (0, none), (0, none), (0, some (.row u n [.int .i64, .int .i64, .int .i64] f 23))]
def pU (u : Bool) (j : Nat) : Bool := u && decide (j = 0)
noncomputable def VP (q : XP) : Few := ([.ptr 0 0, .ptr 2 0, .ptr 3 0, .ptr 4 0, .fn (.func 116) [] [.ptr 4 0, .ptr 0 0], .lit (.int .i64 (q.S * ((q.j + 1 : Nat) : Int)))], memP q.a q.b q.c q.x q.y q.z q.F q.S q.C q.G q.B q.D (pU q.u q.j) (q.n + q.j) (ppF q.c q.S q.G q.B q.D q.n q.f))
noncomputable def OP (q : XP) : Ex × Few := (.exit 0, ([.ptr 0 0, .ptr 2 0, .ptr 3 0, .ptr 4 0, .fn (.func 116) [] [.ptr 4 0, .ptr 0 0], .any], memP q.a q.b q.c q.x q.y q.z q.F q.S q.C q.G q.B q.D (pU q.u (pM q.S q.B q.D q.n)) (q.n + pM q.S q.B q.D q.n) (ppF q.c q.S q.G q.B q.D q.n q.f)))
def PhiP (n0 : Nat) (q : XP) : Prop := PreP n0 q.S q.G q.B q.D q.u q.n ∧ q.j ≤ pM q.S q.B q.D q.n
noncomputable def oP (a b c x y z F S C G B D : Int) (u : Bool) (n : Nat) (f : Nat → R3) : Ex × Few := (.exit 0, ([.ptr 0 0, .ptr 2 0, .ptr 3 0, .ptr 4 0, .fn (.func 116) [] [.ptr 4 0, .ptr 0 0], .any],
  [(0, some (.cells [.lit (.int .i64 a), .lit (.int .i64 b), .lit (.int .i64 c)] 23)), (0, some (.cells [.lit (.int .i64 x), .lit (.int .i64 y), .lit (.int .i64 z)] 23)), (0, some (.cells [.lit (.int .i64 F), .lit (.int .i64 S), .lit (.int .i64 C)] 114)), (0, some (.cells [.lit (.int .i64 G), .lit (.int .i64 B), .lit (.int .i64 D)] 114)), (0, some (.cells [.own (lk pU u (pM S B D n)) 8 (n + lk pM S B D n)] 29)), (0, none), (0, none), (0, none), (0, some (.row (lk pU u (pM S B D n)) (n + lk pM S B D n) [.int .i64, .int .i64, .int .i64] (lk ppF c S G B D n f) 23))]))
noncomputable def gP : Nat → Few → T (Ex × Few)
  | n0, ([.ptr 0 0, .ptr 2 0, .ptr 3 0, .ptr 4 0, .fn (.func 116) [] [.ptr 4 0, .ptr 0 0], .lit (.int .i64 k)], [(_, some (.cells [.lit (.int .i64 a), .lit (.int .i64 b), .lit (.int .i64 c)] 23)), (_, some (.cells [.lit (.int .i64 x), .lit (.int .i64 y), .lit (.int .i64 z)] 23)), (_, some (.cells [.lit (.int .i64 F), .lit (.int .i64 S), .lit (.int .i64 C)] 114)), (_, some (.cells [.lit (.int .i64 G), .lit (.int .i64 B), .lit (.int .i64 D)] 114)), (_, some (.cells [.lit (.slice none 0 0)] 29)), _]) =>
    .ask (PreP n0 S G B D true 0 ∧ k = S) (.ret (oP a b c x y z F S C G B D true 0 fun _ => ((0 : Int), (0 : Int), (0 : Int), ())))
  | n0, ([.ptr 0 0, .ptr 2 0, .ptr 3 0, .ptr 4 0, .fn (.func 116) [] [.ptr 4 0, .ptr 0 0], .lit (.int .i64 k)], [(_, some (.cells [.lit (.int .i64 a), .lit (.int .i64 b), .lit (.int .i64 c)] 23)), (_, some (.cells [.lit (.int .i64 x), .lit (.int .i64 y), .lit (.int .i64 z)] 23)), (_, some (.cells [.lit (.int .i64 F), .lit (.int .i64 S), .lit (.int .i64 C)] 114)), (_, some (.cells [.lit (.int .i64 G), .lit (.int .i64 B), .lit (.int .i64 D)] 114)), (_, some (.cells [.own false 8 n'] 29)), _, _, _, (_, some (.row false n [.int .i64, .int .i64, .int .i64] f 23))]) =>
    .ask (PreP n0 S G B D false n ∧ k = S ∧ n' = n) (.ret (oP a b c x y z F S C G B D false n f))
  | _, _ => .stuck 1
noncomputable abbrev l52 : List (Nat × Loops) := [(23, [(13, .sum (few 103 [2, 7, 8, 9, 10, 11] gP))])]
theorem pc_asks {f s C c : Int} (hs : 1 ≤ s) (hs2 : s ≤ 4000000000000) (hC : 1 ≤ C) (hC2 : C ≤ 2000001) (h1 : -1000000 ≤ f) (h2 : f + s * (C - 1) ≤ 1000000) :
    (c < 0 → C ≠ 0 → I64 (C - 1) ∧ I64 (s * (C - 1)) ∧ I64 (f + s * (C - 1)) ∧ I64 (-s)) ∧ (0 < C → I64 (C - 1) ∧ I64 (kB f s C c * (C - 1)) ∧ I64 (kF f s C c + kB f s C c * (C - 1))) := by
  have m0 := mulle (x := 0) (y := C - 1) hs (by omega)
  rw [Int.mul_zero] at m0
  obtain ⟨q1, q2⟩ := like_bnd (f := f) (s := s) (C := C) (c := c) (by omega)
  unfold I64
  refine ⟨fun _ _ => by omega, fun _ => ⟨by omega, ?_, ?_⟩⟩
  · rcases q1 with h | h <;> omega
  · rcases q2 with h | h <;> omega
theorem pc_eq {f s C c : Int} (hs : 1 ≤ s) : (nLow (kF f s C c) (kB f s C c) C, nHigh (kF f s C c) (kB f s C c) C, nStr (kF f s C c) (kB f s C c) C, ()) = pc f s C c := by
  obtain ⟨q1, q2, q3, q4⟩ := nrm_like (f := f) (s := s) (C := C) (c := c) hs
  unfold pc
  rw [q2, q3, q4]
  rfl
end Go.RX.Span

/- The program's Subtract: the walks. -/
set_option linter.unusedVariables false
set_option linter.unusedSimpArgs false
set_option maxRecDepth 100000
namespace Go.RX.Span
open Go Go.RX
attribute [local irreducible] sx conB

set_option maxRecDepth 100000 in
theorem t_P (n0 : Nat) (a b c x y z F S C G B D k : Int) (u : Bool) (n : Nat) (f : Nat → R3) : (sx Eu [] n0 (loopOf P 23 13) (mkS 103 [2, 7, 8, 9, 10, 11] [.ptr 0 0, .ptr 2 0, .ptr 3 0, .ptr 4 0, .fn (.func 116) [] [.ptr 4 0, .ptr 0 0], .lit (.int .i64 k)], memP a b c x y z F S C G B D u n f)).bind (proj 103 [2, 7, 8, 9, 10, 11]) =
    T.br (U.gt D (1 : Int)) (.br (U.lt k B) (.br (U.le (Int.ofNat n) (1000 : Int)) (.br (U.gt (U.sub .i64 D (1 : Int)) (0 : Int)) (.br (U.le (Int.ofNat n) (1000 : Int)) (.ask (c < (0 :
      Int) → U.sub .i64 D (1 : Int) ≠ (0 : Int) → I64 (U.sub .i64 D (1 : Int) - (1 : Int)) ∧ I64 (B * (U.sub .i64 D (1 : Int) - (1 : Int))) ∧ I64 (U.add .i64 G k + B * (U.sub .i64 D (1 :
      Int) - (1 : Int))) ∧ I64 (-B)) (.ask ((0 : Int) < U.sub .i64 D (1 : Int) → I64 (U.sub .i64 D (1 : Int) - (1 : Int)) ∧ I64 (lk kB (U.add .i64 G k) B (U.sub .i64 D (1 : Int)) c *
      (U.sub .i64 D (1 : Int) - (1 : Int))) ∧ I64 (lk kF (U.add .i64 G k) B (U.sub .i64 D (1 : Int)) c + lk kB (U.add .i64 G k) B (U.sub .i64 D (1 : Int)) c * (U.sub .i64 D (1 : Int) - (1
      : Int)))) (.ask ((n + (1 : Nat)) * nat_lit 24 ≤ nat_lit 140737488351232) (.ret (Ex.normal, [SV.ptr (nat_lit 0) (nat_lit 0), SV.ptr (nat_lit 2) (nat_lit 0), SV.ptr (nat_lit 3)
      (nat_lit 0), SV.ptr (nat_lit 4) (nat_lit 0), SV.fn (Fn.func (nat_lit 116)) [] [SV.ptr (nat_lit 4) (nat_lit 0), SV.ptr (nat_lit 0) (nat_lit 0)], .lit (.int .i64 (U.add .i64 k S))],
      [(nat_lit 0, some (Blk.cells [.lit (.int .i64 a), .lit (.int .i64 b), .lit (.int .i64 c)] (nat_lit 23))), (nat_lit 0, some (Blk.cells [.lit (.int .i64 x), .lit (.int .i64 y), .lit
      (.int .i64 z)] (nat_lit 23))), (nat_lit 0, some (Blk.cells [.lit (.int .i64 F), .lit (.int .i64 S), .lit (.int .i64 C)] (nat_lit 114))), (nat_lit 0, some (Blk.cells [.lit (.int .i64
      G), .lit (.int .i64 B), .lit (.int .i64 D)] (nat_lit 114))), (nat_lit 1, some (Blk.cells [SV.own false (nat_lit 12) (n.add (nat_lit 1))] (nat_lit 29))), (nat_lit 0, none), (nat_lit
      0, none), (nat_lit 0, none), (nat_lit 1, none), (nat_lit 0, some (Blk.cells [.lit (.int .i64 (U.add .i64 G k)), .lit (.int .i64 B), .lit (.int .i64 (U.sub .i64 D (1 : Int)))]
      (nat_lit 114))), (nat_lit 0, some (Blk.cells [.lit (.int .i64 (lk nLow (lk kF (U.add .i64 G k) B (U.sub .i64 D (1 : Int)) c) (lk kB (U.add .i64 G k) B (U.sub .i64 D (1 : Int)) c)
      (U.sub .i64 D (1 : Int)))), .lit (.int .i64 (lk nHigh (lk kF (U.add .i64 G k) B (U.sub .i64 D (1 : Int)) c) (lk kB (U.add .i64 G k) B (U.sub .i64 D (1 : Int)) c) (U.sub .i64 D (1 :
      Int)))), .lit (.int .i64 (lk nStr (lk kF (U.add .i64 G k) B (U.sub .i64 D (1 : Int)) c) (lk kB (U.add .i64 G k) B (U.sub .i64 D (1 : Int)) c) (U.sub .i64 D (1 : Int))))] (nat_lit
      23))), (nat_lit 0, some (Blk.cells [.lit (.int .i64 (lk nLow (lk kF (U.add .i64 G k) B (U.sub .i64 D (1 : Int)) c) (lk kB (U.add .i64 G k) B (U.sub .i64 D (1 : Int)) c) (U.sub .i64
      D (1 : Int)))), .lit (.int .i64 (lk nHigh (lk kF (U.add .i64 G k) B (U.sub .i64 D (1 : Int)) c) (lk kB (U.add .i64 G k) B (U.sub .i64 D (1 : Int)) c) (U.sub .i64 D (1 : Int)))),
      .lit (.int .i64 (lk nStr (lk kF (U.add .i64 G k) B (U.sub .i64 D (1 : Int)) c) (lk kB (U.add .i64 G k) B (U.sub .i64 D (1 : Int)) c) (U.sub .i64 D (1 : Int))))] (nat_lit 23))),
      (nat_lit 0, some (Blk.row false (n.add (nat_lit 1)) [.int .i64, .int .i64, .int .i64] (U.cat n f fun x => (lk nLow (lk kF (U.add .i64 G k) B (U.sub .i64 D (1 : Int)) c) (lk kB
      (U.add .i64 G k) B (U.sub .i64 D (1 : Int)) c) (U.sub .i64 D (1 : Int)), lk nHigh (lk kF (U.add .i64 G k) B (U.sub .i64 D (1 : Int)) c) (lk kB (U.add .i64 G k) B (U.sub .i64 D (1 :
      Int)) c) (U.sub .i64 D (1 : Int)), lk nStr (lk kF (U.add .i64 G k) B (U.sub .i64 D (1 : Int)) c) (lk kB (U.add .i64 G k) B (U.sub .i64 D (1 : Int)) c) (U.sub .i64 D (1 : Int)),
      PUnit.unit)) (nat_lit 23)))]))))) (.ret (Ex.normal, [SV.ptr (nat_lit 0) (nat_lit 0), SV.ptr (nat_lit 2) (nat_lit 0), SV.ptr (nat_lit 3) (nat_lit 0), SV.ptr (nat_lit 4) (nat_lit 0),
      SV.fn (Fn.func (nat_lit 116)) [] [SV.ptr (nat_lit 4) (nat_lit 0), SV.ptr (nat_lit 0) (nat_lit 0)], .lit (.int .i64 (U.add .i64 k S))], [(nat_lit 0, some (Blk.cells [.lit (.int .i64
      a), .lit (.int .i64 b), .lit (.int .i64 c)] (nat_lit 23))), (nat_lit 0, some (Blk.cells [.lit (.int .i64 x), .lit (.int .i64 y), .lit (.int .i64 z)] (nat_lit 23))), (nat_lit 0, some
      (Blk.cells [.lit (.int .i64 F), .lit (.int .i64 S), .lit (.int .i64 C)] (nat_lit 114))), (nat_lit 0, some (Blk.cells [.lit (.int .i64 G), .lit (.int .i64 B), .lit (.int .i64 D)]
      (nat_lit 114))), (nat_lit 0, some (Blk.cells [SV.own u (nat_lit 8) n] (nat_lit 29))), (nat_lit 0, none), (nat_lit 0, none), (nat_lit 0, none), (nat_lit 0, some (Blk.row u n [.int
      .i64, .int .i64, .int .i64] f (nat_lit 23))), (nat_lit 0, some (Blk.cells [.lit (.int .i64 (U.add .i64 G k)), .lit (.int .i64 B), .lit (.int .i64 (U.sub .i64 D (1 : Int)))] (nat_lit
      114)))]))) (.ret (Ex.normal, [SV.ptr (nat_lit 0) (nat_lit 0), SV.ptr (nat_lit 2) (nat_lit 0), SV.ptr (nat_lit 3) (nat_lit 0), SV.ptr (nat_lit 4) (nat_lit 0), SV.fn (Fn.func (nat_lit
      116)) [] [SV.ptr (nat_lit 4) (nat_lit 0), SV.ptr (nat_lit 0) (nat_lit 0)], .lit (.int .i64 (U.add .i64 k S))], [(nat_lit 0, some (Blk.cells [.lit (.int .i64 a), .lit (.int .i64 b),
      .lit (.int .i64 c)] (nat_lit 23))), (nat_lit 0, some (Blk.cells [.lit (.int .i64 x), .lit (.int .i64 y), .lit (.int .i64 z)] (nat_lit 23))), (nat_lit 0, some (Blk.cells [.lit (.int
      .i64 F), .lit (.int .i64 S), .lit (.int .i64 C)] (nat_lit 114))), (nat_lit 0, some (Blk.cells [.lit (.int .i64 G), .lit (.int .i64 B), .lit (.int .i64 D)] (nat_lit 114))), (nat_lit
      0, some (Blk.cells [SV.own u (nat_lit 8) n] (nat_lit 29))), (nat_lit 0, none), (nat_lit 0, none), (nat_lit 0, none), (nat_lit 0, some (Blk.row u n [.int .i64, .int .i64, .int .i64]
      f (nat_lit 23))), (nat_lit 0, some (Blk.cells [.lit (.int .i64 (U.add .i64 G k)), .lit (.int .i64 B), .lit (.int .i64 (U.sub .i64 D (1 : Int)))] (nat_lit 114)))]))) (.ret (Ex.exit
      (nat_lit 0), [SV.ptr (nat_lit 0) (nat_lit 0), SV.ptr (nat_lit 2) (nat_lit 0), SV.ptr (nat_lit 3) (nat_lit 0), SV.ptr (nat_lit 4) (nat_lit 0), SV.fn (Fn.func (nat_lit 116)) []
      [SV.ptr (nat_lit 4) (nat_lit 0), SV.ptr (nat_lit 0) (nat_lit 0)], .lit (.int .i64 k)], [(nat_lit 0, some (Blk.cells [.lit (.int .i64 a), .lit (.int .i64 b), .lit (.int .i64 c)]
      (nat_lit 23))), (nat_lit 0, some (Blk.cells [.lit (.int .i64 x), .lit (.int .i64 y), .lit (.int .i64 z)] (nat_lit 23))), (nat_lit 0, some (Blk.cells [.lit (.int .i64 F), .lit (.int
      .i64 S), .lit (.int .i64 C)] (nat_lit 114))), (nat_lit 0, some (Blk.cells [.lit (.int .i64 G), .lit (.int .i64 B), .lit (.int .i64 D)] (nat_lit 114))), (nat_lit 0, some (Blk.cells
      [SV.own u (nat_lit 8) n] (nat_lit 29))), (nat_lit 0, none), (nat_lit 0, none), (nat_lit 0, none), (nat_lit 0, some (Blk.row u n [.int .i64, .int .i64, .int .i64] f (nat_lit
      23)))]))) (.ret (Ex.exit (nat_lit 0), [SV.ptr (nat_lit 0) (nat_lit 0), SV.ptr (nat_lit 2) (nat_lit 0), SV.ptr (nat_lit 3) (nat_lit 0), SV.ptr (nat_lit 4) (nat_lit 0), SV.fn (Fn.func
      (nat_lit 116)) [] [SV.ptr (nat_lit 4) (nat_lit 0), SV.ptr (nat_lit 0) (nat_lit 0)], .lit (.int .i64 k)], [(nat_lit 0, some (Blk.cells [.lit (.int .i64 a), .lit (.int .i64 b), .lit
      (.int .i64 c)] (nat_lit 23))), (nat_lit 0, some (Blk.cells [.lit (.int .i64 x), .lit (.int .i64 y), .lit (.int .i64 z)] (nat_lit 23))), (nat_lit 0, some (Blk.cells [.lit (.int .i64
      F), .lit (.int .i64 S), .lit (.int .i64 C)] (nat_lit 114))), (nat_lit 0, some (Blk.cells [.lit (.int .i64 G), .lit (.int .i64 B), .lit (.int .i64 D)] (nat_lit 114))), (nat_lit 0,
      some (Blk.cells [SV.own u (nat_lit 8) n] (nat_lit 29))), (nat_lit 0, none), (nat_lit 0, none), (nat_lit 0, none), (nat_lit 0, some (Blk.row u n [.int .i64, .int .i64, .int .i64] f
      (nat_lit 23)))]))) (.ret (Ex.exit (nat_lit 0), [SV.ptr (nat_lit 0) (nat_lit 0), SV.ptr (nat_lit 2) (nat_lit 0), SV.ptr (nat_lit 3) (nat_lit 0), SV.ptr (nat_lit 4) (nat_lit 0), SV.fn
      (Fn.func (nat_lit 116)) [] [SV.ptr (nat_lit 4) (nat_lit 0), SV.ptr (nat_lit 0) (nat_lit 0)], .lit (.int .i64 k)], [(nat_lit 0, some (Blk.cells [.lit (.int .i64 a), .lit (.int .i64
      b), .lit (.int .i64 c)] (nat_lit 23))), (nat_lit 0, some (Blk.cells [.lit (.int .i64 x), .lit (.int .i64 y), .lit (.int .i64 z)] (nat_lit 23))), (nat_lit 0, some (Blk.cells [.lit
      (.int .i64 F), .lit (.int .i64 S), .lit (.int .i64 C)] (nat_lit 114))), (nat_lit 0, some (Blk.cells [.lit (.int .i64 G), .lit (.int .i64 B), .lit (.int .i64 D)] (nat_lit 114))),
      (nat_lit 0, some (Blk.cells [SV.own u (nat_lit 8) n] (nat_lit 29))), (nat_lit 0, none), (nat_lit 0, none), (nat_lit 0, none), (nat_lit 0, some (Blk.row u n [.int .i64, .int .i64,
      .int .i64] f (nat_lit 23)))])) := by kernel_rfl
theorem roundP (n0 : Nat) (q : XP) (hq : PhiP n0 q) : ((sx Eu [] n0 (loopOf P 23 13) (mkS 103 [2, 7, 8, 9, 10, 11] (VP q).1, (VP q).2)).bind (proj 103 [2, 7, 8, 9, 10, 11])).All fun r => match r.1 with
      | .normal => ∃ q', PhiP n0 q' ∧ pM q'.S q'.B q'.D q'.n - q'.j < pM q.S q.B q.D q.n - q.j ∧ Wk 103 [2, 7, 8, 9, 10, 11] n0 r.2 (VP q') ∧ ∀ o, o = OP q' → o = OP q
      | e => ∃ s, (e, s) = OP q ∧ Wk 103 [2, 7, 8, 9, 10, 11] n0 r.2 s := by
  unfold VP
  dsimp only
  rw [t_P]
  obtain ⟨a, b, c, x, y, z, F, S, C, G, B, D, u, n, f, j⟩ := q
  obtain ⟨⟨h0, ⟨s1, s2⟩, ⟨b1, b2⟩, ⟨d1, d2⟩, ⟨g1, g2⟩, hm, hn⟩, hj⟩ := hq
  simp only [] at h0 s1 s2 b1 b2 d1 d2 g1 g2 hm hn hj
  subst h0
  dsimp only
  have hu : pU u (j + 1) = false := by unfold pU; simp
  have fin : j = pM S B D n → ∃ s, ((Ex.exit 0, s) : Ex × Few) = OP ⟨a, b, c, x, y, z, F, S, C, G, B, D, u, n, f, j⟩ ∧ Wk 103 [2, 7, 8, 9, 10, 11] 0 ([.ptr 0 0, .ptr 2 0, .ptr 3 0, .ptr 4 0, .fn (.func 116) [] [.ptr 4 0, .ptr 0 0], .lit (.int .i64 (S * ((j + 1 : Nat) : Int)))], memP a b c x y z F S C G B D (pU u j) (n + j) (ppF c S G B D n f)) s := fun hj => by
    refine ⟨_, rfl, ?_⟩
    subst hj
    exact wk_of (idR 9) rfl (Nat.zero_le _) (fun b hb => by omega) ⟨⟨rfl, rfl⟩, ⟨rfl, rfl⟩, ⟨rfl, rfl⟩, ⟨rfl, rfl⟩, ⟨rfl, trivial, ⟨rfl, rfl⟩, ⟨rfl, rfl⟩, trivial⟩, trivial, trivial⟩ ⟨⟨rfl, rfl, rfl, rfl, trivial⟩, ⟨rfl, rfl, rfl, rfl, trivial⟩, ⟨rfl, rfl, rfl, rfl, trivial⟩, ⟨rfl, rfl, rfl, rfl, trivial⟩, ⟨rfl, ⟨rfl, rfl, rfl⟩, trivial⟩, ⟨rfl, rfl, rfl, sameRow_refl _ _⟩, trivial⟩
  by_cases hD : 1 < D
  · have hMs := rM_spec s1 b1 (hm hD)
    have hp : pM S B D n = min (rM S B) (1001 - n) := by unfold pM; rw [if_pos hD]
    rw [hp] at hj fin
    have m0 := mulle (s := S) (x := 0) (y := ((j + 1 : Nat) : Int)) s1 (by omega)
    have m1 := mulle (s := S) (x := ((j + 1 : Nat) : Int)) (y := (rM S B : Int) + 1) s1 (by omega)
    have hBD := mulle (s := B) (x := 1) (y := D - 1) b1 (by omega)
    have hB2 : B ≤ 2000000 := by omega
    by_cases hlt : j < rM S B
    · have m2 := mulle (s := S) (x := ((j + 1 : Nat) : Int) + 1) (y := (rM S B : Int) + 1) s1 (by omega)
      rw [Int.mul_add, Int.mul_one] at m2
      by_cases hle : n + j ≤ 1000
      · have e1 : U.sub .i64 D 1 = D - 1 := U.sub64 (by unfold I64; omega)
        have e2 : U.add .i64 G (S * ((j + 1 : Nat) : Int)) = G + S * ((j + 1 : Nat) : Int) := U.add64 (by unfold I64; omega)
        have e4 : S * ((j + 1 + 1 : Nat) : Int) = S * ((j + 1 : Nat) : Int) + S := by
          have : ((j + 1 + 1 : Nat) : Int) = ((j + 1 : Nat) : Int) + 1 := rfl
          rw [this, Int.mul_add, Int.mul_one]
        have e3 : U.add .i64 (S * ((j + 1 : Nat) : Int)) S = S * ((j + 1 + 1 : Nat) : Int) := by rw [U.add64 (by unfold I64; omega), e4]
        have hlast : B * (D - 1 - 1) = B * (D - 1) - B := by rw [Int.mul_sub B (D - 1) 1, Int.mul_one]
        obtain ⟨a1, a2⟩ := pc_asks (f := G + S * ((j + 1 : Nat) : Int)) (s := B) (C := D - 1) (c := c) b1 b2 (by omega) (by omega) (by omega) (by omega)
        have ep := pc_eq (f := G + S * ((j + 1 : Nat) : Int)) (s := B) (C := D - 1) (c := c) b1
        simp only [e1, e2, e3]
        simp only [T.All, U.le_t, U.le_f, U.lt_t, U.lt_f, U.gt_t, U.gt_f, U.ge_t, U.ge_f, U.eq_t, U.eq_f, U.ne_t, U.ne_f, U.not_t, U.not_f, U.andb_t, U.andb_f, SV.lit.injEq, SV.agg.injEq, SV.tup.injEq, List.cons.injEq, Value.int.injEq, Value.bool.injEq, true_and, and_true, lk_eq, Int.ofNat_eq_natCast]
        refine ⟨fun _ => ⟨fun _ => ⟨fun _ => ⟨fun _ => ⟨fun _ => ⟨a1, a2, by omega, ?_⟩, fun h => by omega⟩, fun h => by omega⟩, fun h => by omega⟩, fun h => by omega⟩, fun h => by omega⟩
        refine ⟨⟨a, b, c, x, y, z, F, S, C, G, B, D, u, n, f, j + 1⟩, ⟨⟨rfl, ⟨s1, s2⟩, ⟨b1, b2⟩, ⟨d1, d2⟩, ⟨g1, g2⟩, hm, hn⟩, ?_⟩, ?_, ?_, fun o ho => ho⟩
        · show j + 1 ≤ pM S B D n
          rw [hp]; omega
        · show pM S B D n - (j + 1) < pM S B D n - j
          rw [hp]; omega
        refine wk_of [some 0, some 1, some 2, some 3, some 4, none, none, none, some 12] rfl (Nat.zero_le _) (fun b hb => by omega) ⟨⟨rfl, rfl⟩, ⟨rfl, rfl⟩, ⟨rfl, rfl⟩, ⟨rfl, rfl⟩, ⟨rfl, trivial, ⟨rfl, rfl⟩, ⟨rfl, rfl⟩, trivial⟩, rfl, trivial⟩ ⟨⟨rfl, rfl, rfl, rfl, trivial⟩, ⟨rfl, rfl, rfl, rfl, trivial⟩, ⟨rfl, rfl, rfl, rfl, trivial⟩, ⟨rfl, rfl, rfl, rfl, trivial⟩, ⟨rfl, ⟨hu.symm, rfl, rfl⟩, trivial⟩, ⟨rfl, hu.symm, rfl, sameR fun i hi => ?_⟩, trivial⟩
        by_cases hi' : i < n + j
        · exact cat_l hi'
        · have : i = n + j := by have hi2 : i < n + j + 1 := hi; omega
          subst this
          refine (cat_r (Nat.le_refl _)).trans ?_
          show _ = ppF c S G B D n f (n + j)
          unfold ppF
          refine Eq.trans ?_ (cat_r (by omega)).symm
          rw [show n + j - n = j by omega]
          exact ep
      · simp only [T.All, U.le_t, U.le_f, U.lt_t, U.lt_f, U.gt_t, U.gt_f, U.ge_t, U.ge_f, U.eq_t, U.eq_f, U.ne_t, U.ne_f, U.not_t, U.not_f, U.andb_t, U.andb_f, SV.lit.injEq, SV.agg.injEq, SV.tup.injEq, List.cons.injEq, Value.int.injEq, Value.bool.injEq, true_and, and_true, lk_eq, Int.ofNat_eq_natCast]
        refine ⟨fun _ => ⟨fun _ => ⟨fun h => by omega, fun _ => fin (by omega)⟩, fun _ => fin (by omega)⟩, fun _ => fin (by omega)⟩
    · have hjM : j = rM S B := by omega
      have hnot : ¬ S * ((j + 1 : Nat) : Int) < B := by
        have : ((j + 1 : Nat) : Int) = (rM S B : Int) + 1 := by omega
        rw [this]; omega
      simp only [T.All, U.le_t, U.le_f, U.lt_t, U.lt_f, U.gt_t, U.gt_f, U.ge_t, U.ge_f, U.eq_t, U.eq_f, U.ne_t, U.ne_f, U.not_t, U.not_f, U.andb_t, U.andb_f, SV.lit.injEq, SV.agg.injEq, SV.tup.injEq, List.cons.injEq, Value.int.injEq, Value.bool.injEq, true_and, and_true, lk_eq]
      refine ⟨fun _ => ⟨fun h => absurd h hnot, fun _ => fin (by omega)⟩, fun _ => fin (by omega)⟩
  · have hp : pM S B D n = 0 := by unfold pM; rw [if_neg hD]
    rw [hp] at hj fin
    simp only [T.All, U.le_t, U.le_f, U.lt_t, U.lt_f, U.gt_t, U.gt_f, U.ge_t, U.ge_f, U.eq_t, U.eq_f, U.ne_t, U.ne_f, U.not_t, U.not_f, U.andb_t, U.andb_f, SV.lit.injEq, SV.agg.injEq, SV.tup.injEq, List.cons.injEq, Value.int.injEq, Value.bool.injEq, true_and, and_true, lk_eq]
    exact ⟨fun h => absurd h hD, fun _ => fin (by omega)⟩
theorem loopP : LoopOK P (loopOf P 23 13) (few 103 [2, 7, 8, 9, 10, 11] gP) :=
  loop_few (E := Eu) mixed Eu_ok loopsOK_none 103 [2, 7, 8, 9, 10, 11] (X := XP) gP (fun _ x => VP x) PhiP (fun q => pM q.S q.B q.D q.n - q.j) (fun _ x o => o = OP x)
    (fun n0 st r h => by
      have key : ∀ (a b c x y z F S C G B D : Int) (u : Bool) (n : Nat) (f : Nat → R3) (o : Ex × Few), o = OP ⟨a, b, c, x, y, z, F, S, C, G, B, D, u, n, f, 0⟩ → o = oP a b c x y z F S C G B D u n f := fun a b c x y z F S C G B D u n f o ho => by
        rw [ho]; simp only [OP, oP, lk_eq, memP]
      have same0 : ∀ (c S G B D : Int) (n : Nat) (f : Nat → R3) (i : Nat), i < n → f i = ppF c S G B D n f i := fun c S G B D n f i hi => (cat_l hi).symm
      unfold gP at h
      split at h
      · rename_i n0 k g0 a b c g1 x y z g2 F S C g3 G B D g4 g5
        obtain ⟨hp, hk⟩ := (T.is_ask h).1
        obtain rfl := T.is_ret (T.is_ask h).2
        have hp' := hp
        obtain ⟨h0, _⟩ := hp'
        subst h0; subst hk
        refine ⟨⟨a, b, c, x, y, z, F, k, C, G, B, D, true, 0, fun _ => ((0 : Int), (0 : Int), (0 : Int), ()), 0⟩, ⟨hp, Nat.zero_le _⟩, ?_, fun o ho => key _ _ _ _ _ _ _ _ _ _ _ _ _ _ _ o ho⟩
        exact wk_of [some 0, some 1, some 2, some 3, some 4, none, none, none, none] rfl (Nat.zero_le _) (fun b hb => by omega) ⟨⟨rfl, rfl⟩, ⟨rfl, rfl⟩, ⟨rfl, rfl⟩, ⟨rfl, rfl⟩, ⟨rfl, trivial, ⟨rfl, rfl⟩, ⟨rfl, rfl⟩, trivial⟩, by show Value.int .i64 k = Value.int .i64 (k * 1); rw [Int.mul_one], trivial⟩ ⟨⟨rfl, rfl, rfl, rfl, trivial⟩, ⟨rfl, rfl, rfl, rfl, trivial⟩, ⟨rfl, rfl, rfl, rfl, trivial⟩, ⟨rfl, rfl, rfl, rfl, trivial⟩, ⟨rfl, ⟨rfl, rfl, rfl⟩, trivial⟩, ⟨rfl, rfl⟩, trivial⟩
      · rename_i n0 k g0 a b c g1 x y z g2 F S C g3 G B D g4 n' m1 m2 m3 g5 n f
        obtain ⟨hp, hk, hnn⟩ := (T.is_ask h).1
        obtain rfl := T.is_ret (T.is_ask h).2
        have hp' := hp
        obtain ⟨h0, _⟩ := hp'
        subst h0; subst hk; subst hnn
        refine ⟨⟨a, b, c, x, y, z, F, k, C, G, B, D, false, n', f, 0⟩, ⟨hp, Nat.zero_le _⟩, ?_, fun o ho => key _ _ _ _ _ _ _ _ _ _ _ _ _ _ _ o ho⟩
        exact wk_of (idR 9) rfl (Nat.zero_le _) (fun b hb => by omega) ⟨⟨rfl, rfl⟩, ⟨rfl, rfl⟩, ⟨rfl, rfl⟩, ⟨rfl, rfl⟩, ⟨rfl, trivial, ⟨rfl, rfl⟩, ⟨rfl, rfl⟩, trivial⟩, by show Value.int .i64 k = Value.int .i64 (k * 1); rw [Int.mul_one], trivial⟩ ⟨⟨rfl, rfl, rfl, rfl, trivial⟩, ⟨rfl, rfl, rfl, rfl, trivial⟩, ⟨rfl, rfl, rfl, rfl, trivial⟩, ⟨rfl, rfl, rfl, rfl, trivial⟩, ⟨rfl, ⟨rfl, rfl, rfl⟩, trivial⟩, ⟨rfl, rfl, rfl, sameR fun i hi => same0 _ _ _ _ _ _ _ i hi⟩, trivial⟩
      · exact h.elim)
    roundP
theorem l52_ok : ∀ p ∈ l52, LoopsOK P p.2 (bodyOf P p.1) := by
  intro p hp
  simp only [l52, List.mem_singleton] at hp
  subst hp
  refine loopsOK_of (by kernel_rfl) fun k g hk => ?_
  simp only [List.mem_singleton, Prod.mk.injEq, LoopC.sum.injEq] at hk
  obtain ⟨rfl, rfl⟩ := hk
  exact loopP
end Go.RX.Span

