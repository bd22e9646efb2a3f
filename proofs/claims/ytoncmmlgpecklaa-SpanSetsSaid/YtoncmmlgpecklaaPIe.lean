/- Ranges: the numbers that a range yields. -/
import Derived.RangeFuncNested
import Derived.RangeFuncBound
import Derived.RangeFuncCalls
import Derived.RangeFuncBox
import Derived.RangeFuncLeaves
import Derived.Shelf.Abstract
import Derived.Shelf.RegionOpen
import Derived.WalkKit
import Derived.OwnWalkIn
import Derived.TacticsInMore
import Derived.LoopNIn
import Derived.LoopIn
import Derived.Maps.AppendAt
import Derived.Test.YtoncmmlgpecklaaPId
import Derived.Test.YtoncmmlgpecklaaPIb
set_option linter.unusedVariables false
set_option linter.unusedSimpArgs false
namespace Go.RX.Span
open Go Go.RX Go.RowKit Go.Shelf Go.Proofs

attribute [local go_sem] Oper.semAt_some

def num (a b c : Int) (k : Nat) : Int := ofF a b c + ofB a b c * k
def nums (a b c : Int) (k : Nat) : List Int := (List.range k).map (num a b c)
theorem nums_succ (a b c : Int) (k : Nat) : nums a b c (k + 1) = nums a b c k ++ [num a b c k] := by simp [nums, List.range_succ]
theorem nums_length (a b c : Int) (k : Nat) : (nums a b c k).length = k := by simp [nums]

theorem size_right {a b c : Int} {k : Nat} (h : (k : Int) < size a b c) : Right a b c ∧ a ≤ b ∧ size a b c = ofC a b c := by
  unfold size at h
  by_cases h0 : chk a b c = 0
  · rw [if_pos h0] at h
    have hr := chk_zero.1 h0
    refine ⟨hr, ?_, size_eq' hr⟩
    by_cases hab : a ≤ b
    · exact hab
    · have := empty_of (c := c) hab; omega
  · rw [if_neg h0] at h; omega
theorem num_bnd {a b c : Int} {k : Nat} (h : (k : Int) < size a b c) : -2000000 ≤ ofB a b c * k ∧ ofB a b c * k ≤ 2000000 ∧ -1000000 ≤ num a b c k ∧ num a b c k ≤ 1000000 := by
  obtain ⟨hr, hab, hs⟩ := size_right h
  obtain ⟨p1, p2, p3, p4, p5, p6, p7, p8, p9, p10⟩ := parts hr hab
  have hl := hr.1
  rw [hs] at h
  have m1 := mulle (s := absI c) (x := 0) (y := (k : Int)) p1 (by omega)
  have m2 := mulle (s := absI c) (x := (k : Int)) (y := ofC a b c - 1) p1 (by omega)
  rw [Int.mul_zero] at m1
  unfold num
  rw [p6, p7]
  by_cases hc : c < 0
  · have e : c = -absI c := by rw [absI_neg hc]; omega
    rw [if_pos hc]
    have : c * k = -(absI c * k) := by rw [e, Int.neg_mul, absI_neg (by omega : -absI c < 0)]; rw [Int.neg_neg]
    rw [this]
    generalize absI c * (k : Int) = z at *
    omega
  · rw [if_neg hc]
    have : c * k = absI c * k := by rw [absI_pos hc]
    rw [this]
    generalize absI c * (k : Int) = z at *
    omega

theorem size_nonneg (a b c : Int) : 0 ≤ size a b c := by
  unfold size
  by_cases h0 : chk a b c = 0
  · rw [if_pos h0]
    exact (ofC_bnd (chk_zero.1 h0)).1
  · rw [if_neg h0]; omega
theorem size_le (a b c : Int) : size a b c ≤ 2000001 := by
  unfold size
  by_cases h0 : chk a b c = 0
  · rw [if_pos h0]
    exact (ofC_bnd (chk_zero.1 h0)).2
  · rw [if_neg h0]; omega
/-- What a call leaves as it was. -/
theorem grown_of_below {w w' : World} (h : Below w.heap.size w w') : w.grownBy w' none := ⟨h.os, h.tape, h.output, h.size, fun k hk _ => h.block k hk⟩

theorem size_in {n : Nat} (a b c : Int) (ha : I64 a) (hb : I64 b) (hc : I64 c) (w : World) :
    CallsIn Fence.wide n P 28 #[.agg #[.int .i64 a, .int .i64 b, .int .i64 c]] w fun e w' => e = .returned (.int .i64 (size a b c)) ∧ Below w.heap.size w w' :=
  callsIn_wide.2 ((k7_ok (28, c_Size) (by simp [k7, k6, k5, k4, k3, k2, k1, k0]) [.agg [.lit (.int .i64 a), .lit (.int .i64 b), .lit (.int .i64 c)]] (.lit (.int .i64 (lk size a b c))) ⟨⟨ha, hb, hc⟩, rfl⟩ (fun _ => False) w
    [.agg #[.int .i64 a, .int .i64 b, .int .i64 c]] (fun _ h => h.elim) ⟨_, _, rfl, ⟨[_, _, _], rfl, _, _, rfl, rfl, _, _, rfl, rfl, _, _, rfl, rfl, rfl⟩, rfl⟩).mono
    fun e w' ⟨v, h1, h2, h3⟩ => ⟨by rw [h1, show v = .int .i64 (lk size a b c) from h3, lk_eq], h2⟩)
theorem of_in {n : Nat} (a b c : Int) (h : a ≤ b → c ≠ 0 ∧ -9223372036854775807 ≤ c ∧ b - a < 9223372036854775807 ∧ I64 a ∧ I64 b ∧ I64 c) (w : World) :
    CallsIn Fence.wide n P 112 #[.agg #[.int .i64 a, .int .i64 b, .int .i64 c]] w fun e w' => e = .returned (.agg #[.int .i64 (ofF a b c), .int .i64 (ofB a b c), .int .i64 (ofC a b c)]) ∧ Below w.heap.size w w' :=
  callsIn_wide.2 ((k7_ok (112, c_of) (by simp [k7, k6, k5, k4, k3, k2, k1, k0]) [.agg [.lit (.int .i64 a), .lit (.int .i64 b), .lit (.int .i64 c)]] (.agg [.lit (.int .i64 (lk ofF a b c)), .lit (.int .i64 (lk ofB a b c)), .lit (.int .i64 (lk ofC a b c))]) ⟨h, rfl⟩ (fun _ => False) w
    [.agg #[.int .i64 a, .int .i64 b, .int .i64 c]] (fun _ h => h.elim) ⟨_, _, rfl, ⟨[_, _, _], rfl, _, _, rfl, rfl, _, _, rfl, rfl, _, _, rfl, rfl, rfl⟩, rfl⟩).mono
    fun e w' ⟨v, h1, h2, us, h3, u1, u1', g1, g2, u2, u2', g3, g4, u3, u3', g5, g6, g7⟩ => ⟨by
      rw [h1, h3]
      subst g1; subst g3; subst g5; subst g7
      rw [show u1 = .int .i64 (lk ofF a b c) from g2, show u2 = .int .i64 (lk ofB a b c) from g4, show u3 = .int .i64 (lk ofC a b c) from g6]
      simp only [lk_eq], h2⟩)

theorem meas (z k : Nat) (x : Int) (hx : x = (k : Int) + 1) (h : k + 1 ≤ z) : z - (intOf (.int .i64 x)).toNat < z - (intOf (.int .i64 k)).toNat := by
  subst hx
  simp only [intOf]
  omega
/-- The box of a range. -/
def Box3 (W : World) (B : Nat) (a b c : Int) : Prop := W.heap[B]? = some (.cells #[.int .i64 a, .int .i64 b, .int .i64 c] 23 (0, 0))

theorem Box3.lt {W : World} {B : Nat} {a b c : Int} (h : Box3 W B a b c) : B < W.heap.size := (Array.getElem?_eq_some_iff.1 h).1
theorem Box3.cell {W : World} {B : Nat} {a b c : Int} (h : Box3 W B a b c) : W.cell? ⟨B, 0, none⟩ = some (.int .i64 a) ∧ W.cell? ⟨B, 1, none⟩ = some (.int .i64 b) ∧ W.cell? ⟨B, 2, none⟩ = some (.int .i64 c) := by
  refine ⟨?_, ?_, ?_⟩ <;> simp [World.cell?, show W.heap[B]? = _ from h]
theorem own_box3 {β : Type} (B : Nat) (a b c : Int) : Own (fun (_ : β) W => Box3 W B a b c) := fun s X Y row h hg hr =>
  (hg.block B h.lt (fun e => by
    obtain ⟨o, ho, hc⟩ := hr B e.symm
    rw [show X.heap[B]? = _ from h] at ho; cases ho; cases hc)).trans h

set_option maxRecDepth 100000 in
set_option maxHeartbeats 4000000 in
theorem all1_in (n : Nat) (hn : 1 ≤ n) (l Bs : Nat) (a b c : Int) (ha : I64 a) (hb : I64 b) (hc : I64 c) (J Jx : List Int → World → Prop) (W : World) (hJ : AbidesFrom W.heap.size J)
    (hY : ∀ pre x W, J pre W → pre.length < (size a b c).toNat → YieldAt Fence.wide (n - 1) P l #[.int .i64 x] W fun e W' =>
      (e = .returned (.bool true) ∧ J (pre ++ [x]) W' ∧ W'.heap[Bs]? = W.heap[Bs]?) ∨ (e = .returned (.bool false) ∧ Jx (pre ++ [x]) W'))
    (hBs : Box3 W Bs a b c) (h0 : J [] W) :
    CallsIn Fence.wide n P 176 #[.func (.yield l) #[] #[], .pointer (some ⟨Bs, 0, none⟩)] W fun e W' => (∃ v, e = .returned v) ∧
      ((∃ ys, ys = nums a b c (size a b c).toNat ∧ J ys W') ∨ (∃ pre, (∃ k, k ≤ (size a b c).toNat ∧ pre = nums a b c k) ∧ Jx pre W')) := by
  refine callsIn_of_wp Go.Proofs.Try.func176 rfl trivial ?_ rfl
  simp only [Go.Proofs.Try.ntmps176, List.size_toArray, List.length_cons, List.length_nil, Nat.reduceAdd, Nat.reduceSub, Array.replicate_succ, Array.replicate_zero, List.push_toArray, List.append_toArray, List.nil_append, List.cons_append]
  obtain ⟨c0, c1, c2⟩ := hBs.cell
  gi_wp2_with (refine ⟨trivial, ?_⟩; gi_at_call 28; refine (size_in a b c ha hb hc _).mono ?_; rintro e w' ⟨rfl, bw⟩)
  have hB0 : Box3 w' Bs a b c := (bw.block Bs hBs.lt).trans hBs
  have hJw : J [] w' := hJ [] W w' none h0 (grown_of_below bw) (fun r e => by cases e)
  gi_loopw [7] (fun i wr => ∃ k : Nat, k ≤ (size a b c).toNat ∧ i = .int .i64 k ∧ J (nums a b c k) wr ∧ Box3 wr Bs a b c)
    (fun i _ => (size a b c).toNat - (intOf i).toNat)
  case atStart => exact ⟨0, Nat.zero_le _, rfl, hJw, hB0⟩
  case round =>
    obtain ⟨k, hk, rfl, hJs, hnx⟩ := hrel
    obtain ⟨d0, d1, d2⟩ := hnx.cell
    by_cases hlt : (k : Int) < size a b c
    · have hr := (size_right hlt).1
      obtain ⟨b1, b2, b3, b4⟩ := num_bnd hlt
      have hlen : (nums a b c k).length < (size a b c).toNat := by rw [nums_length]; omega
      have hk' : k + 1 ≤ (size a b c).toNat := by omega
      have hk1 : wrap64 ((k : Int) + 1) = (k : Int) + 1 := IntWalk.wrap64_in _ (by have := size_le a b c; omega)
      have hwr : wrap64 (ofF a b c + ofB a b c * (k : Int)) = num a b c k := by
        unfold num at b3 b4 ⊢
        exact IntWalk.wrap64_in (ofF a b c + ofB a b c * (k : Int)) ⟨by omega, by omega⟩
      gi_wp2_with (refine ⟨trivial, ?_⟩; gi_at_call 112; refine (of_in a b c (of_ask hr ha hb hc) _).mono ?_; rintro e w1 ⟨rfl, bw1⟩; have hB1 : Below wr.heap.size wr (w1.alloc (.cells #[.int .i64 (ofF a b c), .int .i64 (ofB a b c), .int .i64 (ofC a b c)] 114)) := bw1.alloc bw1.size _; have hJ1 : J (nums a b c k) (w1.alloc (.cells #[.int .i64 (ofF a b c), .int .i64 (ofB a b c), .int .i64 (ofC a b c)] 114)) := hJ _ wr _ none hJs (grown_of_below hB1) (fun r e => by cases e); obtain ⟨fn, tmps, assign, body, hy, hR⟩ := hY _ (num a b c k) _ hJ1 hlen)
      refine hR.mono ?_
      rintro e W3 (⟨rfl, hJ3, hk3⟩ | ⟨rfl, hJx3⟩)
      · gi_wp2
        go_roundw
        case rel => exact ⟨k + 1, hk', by simp [hk1], by rw [nums_succ]; exact hJ3, hk3.trans ((hB1.block Bs hnx.lt).trans hnx)⟩
        case measure => exact meas _ k _ hk1 hk'
      · gi_wp2
        refine bodyPost_ret (results_none rfl _ _ _) rfl ?_
        exact ⟨⟨_, rfl⟩, .inr ⟨_, ⟨k + 1, hk', (nums_succ _ _ _ _).symm⟩, hJx3⟩⟩
    · have hsz := size_nonneg a b c
      obtain rfl : k = (size a b c).toNat := by omega
      gi_wp2
      go_end0
      exact ⟨⟨_, rfl⟩, .inl hJs⟩

theorem all_stops (n : Nat) (hn : 1 ≤ n) (Bs : Nat) (a b c : Int) (ha : I64 a) (hb : I64 b) (hc : I64 c) (w : World) (hx : Box3 w Bs a b c) :
    SeqStopsK Fence.wide n P 176 #[.pointer (some ⟨Bs, 0, none⟩)] (fun x : Int => #[Value.int .i64 x]) (fun W W' => W'.heap[Bs]? = W.heap[Bs]?) (fun ys => ys = nums a b c (size a b c).toNat) (fun pre => ∃ k, k ≤ (size a b c).toNat ∧ pre = nums a b c k) (size a b c).toNat w := fun l J Jx W hW hJ _ hY h0 =>
  all1_in n hn l Bs a b c ha hb hc J Jx W hJ hY ((hW.block Bs hx.lt).trans hx) h0

set_option maxHeartbeats 1000000 in
theorem all_in (n : Nat) (a b c : Int) (w : World) :
    CallsIn Fence.wide n P 119 #[.agg #[.int .i64 a, .int .i64 b, .int .i64 c]] w fun e w' => e = .returned (.func (.func 176) #[] #[.pointer (some ⟨w.heap.size, 0, none⟩)]) ∧ w' = w.alloc (.cells #[.int .i64 a, .int .i64 b, .int .i64 c] 23) := by
  refine callsIn_of_wp Go.Proofs.Try.func119 rfl trivial ?_ rfl
  simp only [Go.Proofs.Try.ntmps119, List.size_toArray, List.length_cons, List.length_nil, Nat.reduceAdd, Nat.reduceSub, Array.replicate_succ, Array.replicate_zero, List.push_toArray, List.append_toArray, List.nil_append, List.cons_append]
  gi_wp2
  go_ret
  exact ⟨rfl, rfl⟩

theorem info3 : (Go.Proofs.Try.prog.info? 3).map (fun i => (i.zero, i.size, i.bytes)) = some (some (.int .i64 0), 1, 8) := by kernel_rfl

theorem Box3.not_row {W : World} {B : Nat} {a b c : Int} (h : Box3 W B a b c) {base size k : Nat} {v : Value} {xs : List Value} (hr : W.ownsRow base 3 size v k xs) : some B ≠ v.ownBlock := by
  rcases hr.2 with ⟨rfl, _⟩ | ⟨g, cap, cur, rfl, _, hgb, _⟩
  · simp [Value.ownBlock]
  · intro e'
    obtain rfl : B = g := by simpa [Value.ownBlock] using e'
    have := (show W.heap[B]? = _ from h).symm.trans hgb
    simp at this
theorem Box3.appended {W w1 : World} {B B' : Nat} {a b c : Int} (h : Box3 W B a b c) (hne : B ≠ B') {base size k : Nat} {v v' : Value} {xs : List Value} (hr : W.ownsRow base 3 size v k xs) {tmp : Obj} (hgrow : (W.alloc tmp).grownBy w1 v.ownBlock) :
    Box3 (w1.setCell ⟨B', 0, none⟩ v') B a b c := by
  have h1 : Box3 (W.alloc tmp) B a b c := (Below.heap_alloc W tmp B h.lt).trans h
  have h2 : Box3 w1 B a b c := (hgrow.block B h1.lt (h.not_row hr)).trans h1
  exact (Below.heap_setCell _ _ _ B (fun e => hne e)).trans h2

set_option maxRecDepth 100000 in
set_option maxHeartbeats 4000000 in
theorem numbers_in (n : Nat) (hn : 3 ≤ n) (a b c m : Int) (ha : I64 a) (hb : I64 b) (hc : I64 c) (hm0 : 0 ≤ m) (hm1 : m ≤ 1000000) (w : World) :
    CallsIn Fence.wide n P 26 #[.agg #[.int .i64 a, .int .i64 b, .int .i64 c], .int .i64 m] w fun e W' => ∃ v k q, e = .returned v ∧ k = min (size a b c).toNat (m + 1).toNat ∧ w.heap.size ≤ q ∧
      W'.ownsRow q 3 1 v k ((nums a b c k).map (Value.int .i64)) ∧ Below w.heap.size w W' := by
  have h1 : 1 ≤ n := by omega
  obtain ⟨i0, hi, hz0, hz1, hz2⟩ := info_parts info3
  refine callsIn_of_wp_marks Go.Proofs.Try.func26 rfl trivial ?_ rfl
  simp only [Go.Proofs.Try.ntmps26, List.size_toArray, List.length_cons, List.length_nil, Nat.reduceAdd, Nat.reduceSub, Array.replicate_succ, Array.replicate_zero, List.push_toArray, List.append_toArray, List.nil_append, List.cons_append]
  have hne : ∀ (f : Fn) (xs cs : Array Value) (w : World), (binOp .neq 123 (.func f xs cs) .nilFunc).run P w = .ok (.bool true) w := by
    intro f xs cs w
    have he : (Op.equal 123 (.func f xs cs) .nilFunc).run P w = .ok false w := eqrun fun d => by simp [Op.equalIn, run_underlying Go.Proofs.Try.underlying123]
    show (do pure (.bool (!(← Op.equal 123 (.func f xs cs) .nilFunc))) : Sem Value).run P w = _
    rw [Sem.run_bind, he]; rfl
  gi_wp2_with (refine ⟨trivial, ?_⟩; gi_at_call 119; refine (all_in (n - 1) a b c _).mono ?_; rintro e w' ⟨rfl, rfl⟩)
  obtain ⟨W0, hW0⟩ : ∃ W0, (w.alloc (.cells #[.int .i64 a, .int .i64 b, .int .i64 c] 23)).alloc (.cells #[.int .i64 m] 3) = W0 := ⟨_, rfl⟩
  have hs0 : W0.heap.size = w.heap.size + 2 := by rw [← hW0]; simp
  have hb0 : Below w.heap.size w W0 := by rw [← hW0]; exact ((Below.refl _ w).alloc (Nat.le_refl _) _).alloc (by simp) _
  have bM : Boxed W0 (w.heap.size + 1) 3 (.int .i64 m) := by
    rw [← hW0]; have := Boxed.new (w.alloc (.cells #[.int .i64 a, .int .i64 b, .int .i64 c] 23)) 3 (.int .i64 m); rwa [World.size_alloc] at this
  rw [hW0]
  have e2 : w.heap.size + 1 + 1 = W0.heap.size := by omega
  have e3 : w.heap.size + 1 + 1 + 1 = W0.heap.size + 1 := by omega
  rw [e3, e2]
  have hs1 : w.heap.size + 1 < W0.heap.size := by omega
  clear e2 e3 hW0 hs0
  have bO := Boxed.new W0 35 (.slice none 0 0)
  have bR : Box3 ((W0.alloc (.cells #[.slice none 0 0] 35)).alloc (.cells #[.int .i64 a, .int .i64 b, .int .i64 c] 23)) (W0.heap.size + 1) a b c := by
    have := World.alloc_heap_new (W0.alloc (.cells #[.slice none 0 0] 35)) (.cells #[.int .i64 a, .int .i64 b, .int .i64 c] 23)
    rw [World.size_alloc] at this
    exact this
  have hBW : Below W0.heap.size W0 ((W0.alloc (.cells #[.slice none 0 0] 35)).alloc (.cells #[.int .i64 a, .int .i64 b, .int .i64 c] 23)) := ((Below.refl _ W0).alloc (Nat.le_refl _) _).alloc (by simp) _
  refine wpIn_rangeFunc_ownG rfl h1 (gf := 176) (lb := #[.pointer (some ⟨W0.heap.size + 1, 0, none⟩)]) rfl trivial (Go.Proofs.enters_of Go.Proofs.Try.func176 (by kernel_rfl) rfl)
    (all_stops (n - 1) (by omega) (W0.heap.size + 1) a b c ha hb hc _ bR) (fun h h' => h'.trans h) (fun W l o o' hl ho _ _ => World.putObj_heap_other (fun e => by simp at hl; omega)) (Below.refl _ _) (fun _ => rfl)
    (fun pre W => (∃ v, Boxed W W0.heap.size 35 v ∧ W.ownsRow W0.heap.size 3 1 v pre.length (pre.map (Value.int .i64)) ∧ True) ∧ (Box3 W (W0.heap.size + 1) a b c ∧ (Below W0.heap.size W0 W ∧ (pre.length : Int) ≤ m)))
    (fun cd pre W => cd = .exit 0 ∧ ((∃ v, Boxed W W0.heap.size 35 v ∧ W.ownsRow W0.heap.size 3 1 v pre.length (pre.map (Value.int .i64)) ∧ True) ∧ (Below W0.heap.size W0 W ∧ (pre.length : Int) = m + 1)))
    ?oI ?oIx ⟨⟨_, bO.alloc _, World.ownsRow_nil _ _ _ _, trivial⟩, bR, hBW, by simpa using hm0⟩
    (fun x => { tmps := #[.agg #[.int .i64 a, .int .i64 b, .int .i64 c], .int .i64 m, .pointer (some ⟨w.heap.size, 0, none⟩), .pointer (some ⟨w.heap.size + 1, 0, none⟩), .slice none 0 0, .pointer (some ⟨W0.heap.size, 0, none⟩), .func (.func 176) #[] #[.pointer (some ⟨W0.heap.size + 1, 0, none⟩)], .int .i64 x, .agg #[.int .i64 a, .int .i64 b, .int .i64 c], .func (.func 176) #[] #[.pointer (some ⟨W0.heap.size + 1, 0, none⟩)], .func (.func 176) #[] #[.pointer (some ⟨W0.heap.size + 1, 0, none⟩)], .bool true, .func (.func 176) #[] #[.pointer (some ⟨W0.heap.size + 1, 0, none⟩)], .int .i64 x, undef, undef, undef, undef, undef, undef, undef, undef, undef], defers := [] }) ?assign ?body ?done ?stop
  case oI =>
    exact OwnFrom.and (Own.from (holdsRow_own W0.heap.size W0.heap.size 35 3 1 (fun pre : List Int => pre.length) (fun pre => pre.map (Value.int .i64)) (fun _ _ => True)) _) (OwnFrom.and (Own.from (own_box3 _ a b c) _) (OwnFrom.and (ownFrom_below (Nat.le_refl _) (by simp; omega)) (ownFrom_pure _ _)))
  case oIx =>
    intro cd
    exact OwnFrom.and (ownFrom_pure _ _) (OwnFrom.and (Own.from (holdsRow_own W0.heap.size W0.heap.size 35 3 1 (fun pre : List Int => pre.length) (fun pre => pre.map (Value.int .i64)) (fun _ _ => True)) _) (OwnFrom.and (ownFrom_below (Nat.le_refl _) (by simp; omega)) (ownFrom_pure _ _)))
  case assign =>
    intro l x W K hK
    simp only [List.zip_toArray, List.zip_cons_cons, List.zip_nil_right, List.foldl_toArray', List.foldl_cons, List.foldl_nil, List.setIfInBounds_toArray]
    gi_wp2
    exact hK
  case body =>
    rintro l pre x W ⟨⟨v, hv, hrow, -⟩, hbx, hB, hlen⟩ hlt
    have hc := hv.cell
    have hM : Boxed W (w.heap.size + 1) 3 (.int .i64 m) := (hB.block (w.heap.size + 1) (by omega)).trans bM
    have hb1 : pre.length + 1 ≤ Go.maxLen := by have : pre.length ≤ 1000000 := by omega
                                                simp only [Go.maxLen]; omega
    have hb2 : (pre.length + 1) * 8 ≤ 140737488355328 := by omega
    have hb3 : W0.heap.size ≤ (W.alloc (.cells #[.int .i64 x] 3)).heap.size := by have := hB.size; simp; omega
    gi_wp2_with (gi_at_builtin; refine wpListIn_append_own _ rfl _ _ 35 rfl W0.heap.size 3 i0 (.int .i64 0) 1 8 Go.Proofs.Try.underlying35 hi hz0 hz1 hz2 rfl (by decide) _ _ _ rfl (hrow.alloc _) ⟨W.heap.size, 0, none⟩ 1 1 [.int .i64 x] rfl rfl (cell_one_new _ _ _) (by simp [Value.oneCell']) hb1 hb2 hb3 ?_; intro v' w1 hown' hgrow _; obtain ⟨g', cap', rfl⟩ := ownsRow_succ hown'; obtain ⟨hv1, hv2, hr2, hk2, hb2'⟩ := hv.appended (by decide) hrow hB.size (Nat.le_refl _) hown' hgrow; have hc1 := hv1.cell; have hf1 := hv1.frozen; have hbx2 := hbx.appended (v' := .slice (some ⟨g', 0, none⟩) (pre.length + 1) cap') (show W0.heap.size + 1 ≠ W0.heap.size by omega) hrow hgrow; have hc2 := hv2.cell; have hM2 := (show Boxed _ (w.heap.size + 1) 3 (.int .i64 m) from (hb2'.block (w.heap.size + 1) (by omega)).trans hM).cell)
    · have hx : m < (pre.length : Int) + 1 := by assumption
      have hl1 : (((pre ++ [x]).length : Nat) : Int) = m + 1 := by rw [List.length_append, List.length_singleton]; omega
      exact ⟨hk2.from _, rfl, ⟨_, hv2, by simpa using hr2, trivial⟩, hB.trans hb2', hl1⟩
    · have hx : (pre.length : Int) + 1 ≤ m := by assumption
      have hl1 : (((pre ++ [x]).length : Nat) : Int) ≤ m := by rw [List.length_append, List.length_singleton]; omega
      exact ⟨hk2.from _, hbx2.trans hbx.symm, ⟨_, hv2, by simpa using hr2, trivial⟩, hbx2, hB.trans hb2', hl1⟩
  case done =>
    rintro D ys W hD rfl ⟨⟨v, hv, hrow, -⟩, hbx, hB, hlen⟩ hK
    have hc := hv.cell
    have hD' : W0.heap.size ≤ D := by simp at hD; omega
    rw [nums_length] at hlen hrow
    have hkk : (size a b c).toNat = min (size a b c).toNat (m + 1).toNat := by omega
    gi_wp2
    refine ⟨by simp, .inl ⟨_, _, rfl, run_takeDeferred hK, ?_⟩⟩
    exact ⟨_, results_tmp rfl _ _ _, v, (size a b c).toNat, W0.heap.size, rfl, hkk, by omega, ownsRow_putObj hrow _ hK rfl, hb0.trans ((hB.trans (belowK_b (w := W0) (Nat.le_refl _) W D _ _ hD' hK rfl rfl)).mono (by omega))⟩
  case stop =>
    rintro D cd pre W hD ⟨k, hk, rfl⟩ ⟨rfl, ⟨v, hv, hrow, -⟩, hB, hlen⟩ hK
    have hc := hv.cell
    have hD' : W0.heap.size ≤ D := by simp at hD; omega
    rw [nums_length] at hlen hrow
    have hkk : k = min (size a b c).toNat (m + 1).toNat := by omega
    gi_wp2
    refine ⟨by simp, .inl ⟨_, _, rfl, run_takeDeferred hK, ?_⟩⟩
    exact ⟨_, results_tmp rfl _ _ _, v, k, W0.heap.size, rfl, hkk, by omega, ownsRow_putObj hrow _ hK rfl, hb0.trans ((hB.trans (belowK_b (w := W0) (Nat.le_refl _) W D _ _ hD' hK rfl rfl)).mono (by omega))⟩
end Go.RX.Span

/- Ranges: By of the reference. -/
set_option linter.unusedVariables false
set_option linter.unusedSimpArgs false
set_option maxRecDepth 100000
namespace Go.RX.Span
open Go Go.RX

end Go.RX.Span

/- Ranges: series upwards and in a range's direction. -/
set_option linter.unusedVariables false
set_option linter.unusedSimpArgs false
set_option maxRecDepth 100000
namespace Go.RX.Span
open Go Go.RX

def uF (a b c : Int) : Int := if b < 0 then tF a b c else a
def uB (a b c : Int) : Int := if b < 0 then tB a b c else b
def kF (a b c r : Int) : Int := if r < 0 then tF a b c else a
def kB (a b c r : Int) : Int := if r < 0 then tB a b c else b
noncomputable def c_up : Con := fun args => match args with
  | [.agg [.lit (.int .i64 a), .lit (.int .i64 b), .lit (.int .i64 c)]] =>
    .ask (b < 0 → c ≠ 0 → I64 (c - 1) ∧ I64 (b * (c - 1)) ∧ I64 (a + b * (c - 1)) ∧ I64 (-b)) (.ret (.agg [.lit (.int .i64 (lk uF a b c)), .lit (.int .i64 (lk uB a b c)), .lit (.int .i64 c)]))
  | _ => .stuck 1
noncomputable def c_like : Con := fun args => match args with
  | [.agg [.lit (.int .i64 a), .lit (.int .i64 b), .lit (.int .i64 c)], .agg [.lit (.int .i64 x), .lit (.int .i64 y), .lit (.int .i64 r)]] =>
    .ask (r < 0 → c ≠ 0 → I64 (c - 1) ∧ I64 (b * (c - 1)) ∧ I64 (a + b * (c - 1)) ∧ I64 (-b)) (.ret (.agg [.lit (.int .i64 (lk kF a b c r)), .lit (.int .i64 (lk kB a b c r)), .lit (.int .i64 c)]))
  | _ => .stuck 1

set_option maxRecDepth 100000 in
theorem t_up (a b c : Int) : conB Go.Proofs.Try.prog (conOf k7) noLoops 10 113 [.agg [.lit (.int .i64 a), .lit (.int .i64 b), .lit (.int .i64 c)]] =
    T.br (U.lt b (0 : Int)) (.ask (c ≠ (0 : Int) → I64 (c - (1 : Int)) ∧ I64 (b * (c - (1 : Int))) ∧ I64 (a + b * (c - (1 : Int))) ∧ I64 (-b)) (.ret (.agg [.lit (.int .i64 (lk tF a b
      c)), .lit (.int .i64 (lk tB a b c)), .lit (.int .i64 c)]))) (.ret (.agg [.lit (.int .i64 a), .lit (.int .i64 b), .lit (.int .i64 c)])) := by kernel_rfl
theorem up_ok : ConOK P 113 c_up := con_of (allOK mixed k7_ok) 10 113 fun args r h => by
  unfold c_up at h
  split at h
  · rename_i a b c
    have hp := (T.is_ask h).1
    have h := (T.is_ask h).2
    obtain rfl := T.is_ret h
    rw [t_up]
    simp only [T.All, U.le_t, U.le_f, U.lt_t, U.lt_f, U.gt_t, U.gt_f, U.ge_t, U.ge_f, U.eq_t, U.eq_f, U.ne_t, U.ne_f, U.not_t, U.not_f, U.andb_t, U.andb_f, SV.lit.injEq, SV.agg.injEq, SV.tup.injEq, List.cons.injEq, Value.int.injEq, Value.bool.injEq, true_and, and_true, lk_eq]
    refine ⟨fun h => ⟨hp h, ?_⟩, fun h => ?_⟩
    · simp [uF, uB, h]
    · have n1 : ¬ b < 0 := by omega
      simp [uF, uB, n1]
  · exact h.elim
set_option maxRecDepth 100000 in
theorem t_like (a b c x y r : Int) : conB Go.Proofs.Try.prog (conOf k7) noLoops 10 114 [.agg [.lit (.int .i64 a), .lit (.int .i64 b), .lit (.int .i64 c)], .agg [.lit (.int .i64 x), .lit (.int .i64 y), .lit (.int .i64 r)]] =
    T.br (U.lt r (0 : Int)) (.ask (c ≠ (0 : Int) → I64 (c - (1 : Int)) ∧ I64 (b * (c - (1 : Int))) ∧ I64 (a + b * (c - (1 : Int))) ∧ I64 (-b)) (.ret (.agg [.lit (.int .i64 (lk tF a b
      c)), .lit (.int .i64 (lk tB a b c)), .lit (.int .i64 c)]))) (.ret (.agg [.lit (.int .i64 a), .lit (.int .i64 b), .lit (.int .i64 c)])) := by kernel_rfl
theorem like_ok : ConOK P 114 c_like := con_of (allOK mixed k7_ok) 10 114 fun args r h => by
  unfold c_like at h
  split at h
  · rename_i a b c x y r
    have hp := (T.is_ask h).1
    have h := (T.is_ask h).2
    obtain rfl := T.is_ret h
    rw [t_like]
    simp only [T.All, U.le_t, U.le_f, U.lt_t, U.lt_f, U.gt_t, U.gt_f, U.ge_t, U.ge_f, U.eq_t, U.eq_f, U.ne_t, U.ne_f, U.not_t, U.not_f, U.andb_t, U.andb_f, SV.lit.injEq, SV.agg.injEq, SV.tup.injEq, List.cons.injEq, Value.int.injEq, Value.bool.injEq, true_and, and_true, lk_eq]
    refine ⟨fun h => ⟨hp h, ?_⟩, fun h => ?_⟩
    · simp [kF, kB, h]
    · have n1 : ¬ r < 0 := by omega
      simp [kF, kB, n1]
  · exact h.elim

noncomputable abbrev k8 : List (Nat × Con) := (113, c_up) :: (114, c_like) :: k7 --%K
theorem k8_ok : ∀ p ∈ k8, ConOK P p.1 p.2 := by
  intro p hp
  simp only [k8, List.mem_cons] at hp
  rcases hp with rfl | rfl | hp
  · exact up_ok
  · exact like_ok
  · exact k7_ok p (by simpa [k7] using hp)
end Go.RX.Span

/- Ranges: Translate of the program and of the reference. -/
set_option linter.unusedVariables false
set_option linter.unusedSimpArgs false
set_option maxRecDepth 100000
namespace Go.RX.Span
open Go Go.RX

theorem up_of {a b c : Int} (hr : Right a b c) (hab : a ≤ b) : uF (ofF a b c) (ofB a b c) (ofC a b c) = a ∧ uB (ofF a b c) (ofB a b c) (ofC a b c) = absI c := by
  obtain ⟨p1, p2, p3, p4, p5, p6, p7, p8, p9, p10⟩ := parts hr hab
  unfold uF uB
  rw [p6, p7]
  by_cases hc : c < 0
  · have e : absI c * (ofC a b c - 1) = -(c * (ofC a b c - 1)) := by rw [absI_neg hc, Int.neg_mul]
    simp only [if_pos hc, tF, tB, sLast, if_neg (show ¬ ofC a b c = 0 by omega), absI_neg hc]
    exact ⟨by omega, trivial⟩
  · simp only [if_neg hc, absI_pos hc, and_self]

/-- A range out of a series upwards, in a direction. -/
def mvE (f s C : Int) : Int := if C ≤ 0 then 0 else if (-1000000 ≤ f ∧ f ≤ 1000000) ∧ (-1000000 ≤ f + s * (C - 1) ∧ f + s * (C - 1) ≤ 1000000) then 0 else 4
def mvLow (f s C : Int) : Int := if C ≤ 0 then 1 else if mvE f s C = 0 then f else 0
def mvHigh (f s C : Int) : Int := if C ≤ 0 then 0 else if mvE f s C = 0 then f + s * (C - 1) else 0
def mvStr (f s C c : Int) : Int := if C ≤ 0 then 1 else if mvE f s C = 0 then (if C = 1 then 1 else if c < 0 then -s else s) else 0

theorem nrm_like {f s C c : Int} (hs : 1 ≤ s) :
    nErr (kF f s C c) (kB f s C c) C = mvE f s C ∧ nLow (kF f s C c) (kB f s C c) C = mvLow f s C ∧ nHigh (kF f s C c) (kB f s C c) C = mvHigh f s C ∧ nStr (kF f s C c) (kB f s C c) C = mvStr f s C c := by
  by_cases hC : C ≤ 0
  · simp [nErr, nLow, nHigh, nStr, mvE, mvLow, mvHigh, mvStr, hC]
  have h0 := mulle (x := 0) (y := C - 1) hs (by omega)
  rw [Int.mul_zero] at h0
  have n0 : ¬ C = 0 := by omega
  by_cases hc : c < 0
  · have eF : kF f s C c = f + s * (C - 1) := by simp only [kF, if_pos hc, tF, sLast, if_neg n0]
    have eB : kB f s C c = -s := by simp only [kB, if_pos hc, tB, if_neg n0]
    rw [eF, eB]
    have el : sLast (f + s * (C - 1)) (-s) C = f := by unfold sLast; rw [Int.neg_mul]; omega
    have e : nErr (f + s * (C - 1)) (-s) C = mvE f s C := by
      unfold nErr mvE
      rw [if_neg hC, if_neg hC, el]
      by_cases h : (-1000000 ≤ f ∧ f ≤ 1000000) ∧ (-1000000 ≤ f + s * (C - 1) ∧ f + s * (C - 1) ≤ 1000000)
      · rw [if_pos h, if_pos (by omega)]
      · rw [if_neg h, if_neg (by omega)]
    refine ⟨e, ?_, ?_, ?_⟩
    · simp only [nLow, mvLow, e, if_neg hC, el]; split <;> omega
    · simp only [nHigh, mvHigh, e, if_neg hC, el]; split <;> omega
    · simp only [nStr, mvStr, e, if_neg hC, if_pos hc]
  · have eF : kF f s C c = f := by simp only [kF, if_neg hc]
    have eB : kB f s C c = s := by simp only [kB, if_neg hc]
    rw [eF, eB]
    have el : sLast f s C = f + s * (C - 1) := rfl
    have e : nErr f s C = mvE f s C := by
      unfold nErr mvE
      rw [if_neg hC, if_neg hC, el]
    refine ⟨e, ?_, ?_, ?_⟩
    · simp only [nLow, mvLow, e, if_neg hC, el]; split <;> omega
    · simp only [nHigh, mvHigh, e, if_neg hC, el]; split <;> omega
    · simp only [nStr, mvStr, e, if_neg hC, if_neg hc]

theorem like_bnd {f s C c : Int} (hC : C ≠ 0) : (kB f s C c * (C - 1) = s * (C - 1) ∨ kB f s C c * (C - 1) = -(s * (C - 1))) ∧ (kF f s C c + kB f s C c * (C - 1) = f ∨ kF f s C c + kB f s C c * (C - 1) = f + s * (C - 1)) := by
  by_cases hc : c < 0
  · have eF : kF f s C c = f + s * (C - 1) := by simp only [kF, if_pos hc, tF, sLast, if_neg hC]
    have eB : kB f s C c = -s := by simp only [kB, if_pos hc, tB, if_neg hC]
    rw [eF, eB, Int.neg_mul]
    exact ⟨.inr rfl, .inl (by omega)⟩
  · have eF : kF f s C c = f := by simp only [kF, if_neg hc]
    have eB : kB f s C c = s := by simp only [kB, if_neg hc]
    rw [eF, eB]
    exact ⟨.inl rfl, .inr rfl⟩

def trE (a b c n : Int) : Int := if chk a b c ≠ 0 then chk a b c else if a > b then 0 else if n > 2000000 then 4 else mvE (a + max n (-3000000)) (absI c) (ofC a b c)
def trLow (a b c n : Int) : Int := if chk a b c ≠ 0 then 0 else if a > b then 1 else if n > 2000000 then 0 else mvLow (a + max n (-3000000)) (absI c) (ofC a b c)
def trHigh (a b c n : Int) : Int := if chk a b c ≠ 0 then 0 else if a > b then 0 else if n > 2000000 then 0 else mvHigh (a + max n (-3000000)) (absI c) (ofC a b c)
def trStr (a b c n : Int) : Int := if chk a b c ≠ 0 then 0 else if a > b then 1 else if n > 2000000 then 0 else mvStr (a + max n (-3000000)) (absI c) (ofC a b c) c
noncomputable def c_Translate : Con := fun args => match args with
  | [.agg [.lit (.int .i64 a), .lit (.int .i64 b), .lit (.int .i64 c)], .lit (.int .i64 n)] =>
    .ask (I64 a ∧ I64 b ∧ I64 c ∧ I64 n) (.ret (.tup [.agg [.lit (.int .i64 (lk trLow a b c n)), .lit (.int .i64 (lk trHigh a b c n)), .lit (.int .i64 (lk trStr a b c n))], .lit (.int .i64 (lk trE a b c n))]))
  | _ => .stuck 1

set_option maxRecDepth 100000 in
theorem t_Translate (a b c n : Int) : conB Go.Proofs.Try.prog (conOf k8) noLoops 10 31 [.agg [.lit (.int .i64 a), .lit (.int .i64 b), .lit (.int .i64 c)], .lit (.int .i64 n)] =
    T.ask (I64 a ∧ I64 b ∧ I64 c) (.br (U.ne (lk chk a b c) (0 : Int)) (.ret (.tup [.agg [.lit (.int .i64 0), .lit (.int .i64 0), .lit (.int .i64 0)], .lit (.int .i64 (lk chk a b c))]))
      (.ask (a ≤ b → c ≠ (0 : Int) ∧ (-9223372036854775807 : Int) ≤ c ∧ b - a < (9223372036854775807 : Int) ∧ I64 a ∧ I64 b ∧ I64 c) (.ask (lk ofB a b c < (0 : Int) → lk ofC a b c ≠ (0 :
      Int) → I64 (lk ofC a b c - (1 : Int)) ∧ I64 (lk ofB a b c * (lk ofC a b c - (1 : Int))) ∧ I64 (lk ofF a b c + lk ofB a b c * (lk ofC a b c - (1 : Int))) ∧ I64 (-lk ofB a b c)) (.br
      (U.eq (lk ofC a b c) (0 : Int)) (.ask ((0 : Int) < lk ofC a b c → I64 (lk ofC a b c - (1 : Int)) ∧ I64 (lk uB (lk ofF a b c) (lk ofB a b c) (lk ofC a b c) * (lk ofC a b c - (1 :
      Int))) ∧ I64 (lk uF (lk ofF a b c) (lk ofB a b c) (lk ofC a b c) + lk uB (lk ofF a b c) (lk ofB a b c) (lk ofC a b c) * (lk ofC a b c - (1 : Int)))) (.ret (.tup [.agg [.lit (.int
      .i64 (lk nLow (lk uF (lk ofF a b c) (lk ofB a b c) (lk ofC a b c)) (lk uB (lk ofF a b c) (lk ofB a b c) (lk ofC a b c)) (lk ofC a b c))), .lit (.int .i64 (lk nHigh (lk uF (lk ofF a
      b c) (lk ofB a b c) (lk ofC a b c)) (lk uB (lk ofF a b c) (lk ofB a b c) (lk ofC a b c)) (lk ofC a b c))), .lit (.int .i64 (lk nStr (lk uF (lk ofF a b c) (lk ofB a b c) (lk ofC a b
      c)) (lk uB (lk ofF a b c) (lk ofB a b c) (lk ofC a b c)) (lk ofC a b c)))], .lit (.int .i64 (lk nErr (lk uF (lk ofF a b c) (lk ofB a b c) (lk ofC a b c)) (lk uB (lk ofF a b c) (lk
      ofB a b c) (lk ofC a b c)) (lk ofC a b c)))]))) (.br (U.gt n (2000000 : Int)) (.ret (.tup [.agg [.lit (.int .i64 0), .lit (.int .i64 0), .lit (.int .i64 0)], .lit (.int .i64 4)]))
      (.ask (c < (0 : Int) → lk ofC a b c ≠ (0 : Int) → I64 (lk ofC a b c - (1 : Int)) ∧ I64 (lk uB (lk ofF a b c) (lk ofB a b c) (lk ofC a b c) * (lk ofC a b c - (1 : Int))) ∧ I64 (U.add
      .i64 (lk uF (lk ofF a b c) (lk ofB a b c) (lk ofC a b c)) (U.mm true n (-3000000 : Int)) + lk uB (lk ofF a b c) (lk ofB a b c) (lk ofC a b c) * (lk ofC a b c - (1 : Int))) ∧ I64
      (-lk uB (lk ofF a b c) (lk ofB a b c) (lk ofC a b c))) (.ask ((0 : Int) < lk ofC a b c → I64 (lk ofC a b c - (1 : Int)) ∧ I64 (lk kB (U.add .i64 (lk uF (lk ofF a b c) (lk ofB a b c)
      (lk ofC a b c)) (U.mm true n (-3000000 : Int))) (lk uB (lk ofF a b c) (lk ofB a b c) (lk ofC a b c)) (lk ofC a b c) c * (lk ofC a b c - (1 : Int))) ∧ I64 (lk kF (U.add .i64 (lk uF
      (lk ofF a b c) (lk ofB a b c) (lk ofC a b c)) (U.mm true n (-3000000 : Int))) (lk uB (lk ofF a b c) (lk ofB a b c) (lk ofC a b c)) (lk ofC a b c) c + lk kB (U.add .i64 (lk uF (lk
      ofF a b c) (lk ofB a b c) (lk ofC a b c)) (U.mm true n (-3000000 : Int))) (lk uB (lk ofF a b c) (lk ofB a b c) (lk ofC a b c)) (lk ofC a b c) c * (lk ofC a b c - (1 : Int)))) (.ret
      (.tup [.agg [.lit (.int .i64 (lk nLow (lk kF (U.add .i64 (lk uF (lk ofF a b c) (lk ofB a b c) (lk ofC a b c)) (U.mm true n (-3000000 : Int))) (lk uB (lk ofF a b c) (lk ofB a b c)
      (lk ofC a b c)) (lk ofC a b c) c) (lk kB (U.add .i64 (lk uF (lk ofF a b c) (lk ofB a b c) (lk ofC a b c)) (U.mm true n (-3000000 : Int))) (lk uB (lk ofF a b c) (lk ofB a b c) (lk
      ofC a b c)) (lk ofC a b c) c) (lk ofC a b c))), .lit (.int .i64 (lk nHigh (lk kF (U.add .i64 (lk uF (lk ofF a b c) (lk ofB a b c) (lk ofC a b c)) (U.mm true n (-3000000 : Int))) (lk
      uB (lk ofF a b c) (lk ofB a b c) (lk ofC a b c)) (lk ofC a b c) c) (lk kB (U.add .i64 (lk uF (lk ofF a b c) (lk ofB a b c) (lk ofC a b c)) (U.mm true n (-3000000 : Int))) (lk uB (lk
      ofF a b c) (lk ofB a b c) (lk ofC a b c)) (lk ofC a b c) c) (lk ofC a b c))), .lit (.int .i64 (lk nStr (lk kF (U.add .i64 (lk uF (lk ofF a b c) (lk ofB a b c) (lk ofC a b c)) (U.mm
      true n (-3000000 : Int))) (lk uB (lk ofF a b c) (lk ofB a b c) (lk ofC a b c)) (lk ofC a b c) c) (lk kB (U.add .i64 (lk uF (lk ofF a b c) (lk ofB a b c) (lk ofC a b c)) (U.mm true n
      (-3000000 : Int))) (lk uB (lk ofF a b c) (lk ofB a b c) (lk ofC a b c)) (lk ofC a b c) c) (lk ofC a b c)))], .lit (.int .i64 (lk nErr (lk kF (U.add .i64 (lk uF (lk ofF a b c) (lk
      ofB a b c) (lk ofC a b c)) (U.mm true n (-3000000 : Int))) (lk uB (lk ofF a b c) (lk ofB a b c) (lk ofC a b c)) (lk ofC a b c) c) (lk kB (U.add .i64 (lk uF (lk ofF a b c) (lk ofB a
      b c) (lk ofC a b c)) (U.mm true n (-3000000 : Int))) (lk uB (lk ofF a b c) (lk ofB a b c) (lk ofC a b c)) (lk ofC a b c) c) (lk ofC a b c)))]))))))))) := by kernel_rfl
theorem Translate_ok : ConOK P 31 c_Translate := con_of (allOK mixed k8_ok) 10 31 fun args r h => by
  unfold c_Translate at h
  split at h
  · rename_i a b c n
    have hp := (T.is_ask h).1
    have h := (T.is_ask h).2
    obtain rfl := T.is_ret h
    rw [t_Translate]
    simp only [T.All, U.le_t, U.le_f, U.lt_t, U.lt_f, U.gt_t, U.gt_f, U.ge_t, U.ge_f, U.eq_t, U.eq_f, U.ne_t, U.ne_f, U.not_t, U.not_f, U.andb_t, U.andb_f, SV.lit.injEq, SV.agg.injEq, SV.tup.injEq, List.cons.injEq, Value.int.injEq, Value.bool.injEq, true_and, and_true, lk_eq, lim_t, lim_f, mm_min, mm_max]
    refine ⟨⟨hp.1, hp.2.1, hp.2.2.1⟩, fun h => ?_, fun h => ⟨of_ask (chk_zero.1 h) hp.1 hp.2.1 hp.2.2.1, ?_⟩⟩
    · simp [trE, trLow, trHigh, trStr, h]
    have hr := chk_zero.1 h
    have hl := hr.1
    by_cases hab : a ≤ b
    · obtain ⟨p1, p2, p3, p4, p5, p6, p7, p8, p9, p10⟩ := parts hr hab
      obtain ⟨u1, u2⟩ := up_of hr hab
      obtain ⟨s1, s2, s3, s4, s5⟩ := series_of hr hab
      have sl := s5 (ofC a b c - 1) (by omega) (by omega)
      rw [u1, u2]
      have m1 : I64 (ofB a b c * (ofC a b c - 1)) := by unfold I64; omega
      refine ⟨fun _ _ => ⟨by unfold I64; omega, m1, by unfold I64; omega, by unfold I64; omega⟩, fun g => by omega, fun _ => ⟨fun g => ?_, fun g => ?_⟩⟩
      · have n1 : ¬ a > b := by omega
        simp [trE, trLow, trHigh, trStr, h, n1, g]
      · have n1 : ¬ a > b := by omega
        have n2 : ¬ n > 2000000 := by omega
        rw [U.add64 (by unfold I64; omega)]
        obtain ⟨q1, q2, q3, q4⟩ := nrm_like (f := a + max n (-3000000)) (s := absI c) (C := ofC a b c) (c := c) p1
        rw [q1, q2, q3, q4]
        simp only [trE, trLow, trHigh, trStr, h, ne_eq, not_true_eq_false, if_false, if_neg n1, if_neg n2, and_self, and_true]
        obtain ⟨l1, l2⟩ := like_bnd (f := a + max n (-3000000)) (s := absI c) (C := ofC a b c) (c := c) (by omega)
        refine ⟨fun _ _ => ⟨by unfold I64; omega, by unfold I64; omega, by unfold I64; omega, by unfold I64; omega⟩, fun _ => ⟨by unfold I64; omega, ?_, ?_⟩⟩
        · unfold I64; omega
        · unfold I64; omega
    · obtain ⟨f1, f2, f3⟩ := empty_of (c := c) hab
      rw [f1, f2, f3]
      refine ⟨fun g => absurd g (by omega), fun _ => ⟨fun g => absurd g (by omega), ?_⟩, fun g => absurd rfl g⟩
      have n1 : a > b := by omega
      simp [nLow, nHigh, nStr, nErr, trE, trLow, trHigh, trStr, h, n1]
  · exact h.elim

theorem isE_t {a b c : Int} : (isE a b c = true) = (a = 1 ∧ b = 0 ∧ c = 1) := by unfold isE; simp
theorem isE_f {a b c : Int} : (isE a b c = false) = ¬ (a = 1 ∧ b = 0 ∧ c = 1) := by unfold isE; simp
theorem right_le {a b c : Int} (hr : Right a b c) (h : ¬ (a = 1 ∧ b = 0 ∧ c = 1)) : a ≤ b := by rcases hr.2 with h' | h' | h' <;> omega
/-- The reference's way to the same. -/
theorem rn_mv {f s C c : Int} (hs : 1 ≤ s) (hC : 1 ≤ C) (h : mvE f s C = 0) (d : Bool) (hd : d = decide (c < 0)) :
    rnL f (f + s * (C - 1)) s d = mvLow f s C ∧ rnH f (f + s * (C - 1)) s d = mvHigh f s C ∧ rnS f (f + s * (C - 1)) s d = mvStr f s C c := by
  have h0 := mulle (x := 0) (y := C - 1) hs (by omega)
  have hz := mul0 (s := s) (k := C - 1) hs
  rw [Int.mul_zero] at h0
  have n1 : ¬ C ≤ 0 := by omega
  simp only [mvLow, mvHigh, mvStr, h, if_neg n1, if_true]
  by_cases hc : c < 0
  · have : d = true := by rw [hd]; simp [hc]
    subst this
    obtain ⟨q1, q2, q3⟩ := rn_dn (l := f) (h := f + s * (C - 1)) (s := s) (by omega)
    rw [q1, q2, q3, if_pos hc]
    refine ⟨rfl, rfl, ?_⟩
    by_cases h : C = 1
    · rw [if_pos (by omega), if_pos h]
    · rw [if_neg (by omega), if_neg h]
  · have : d = false := by rw [hd]; simp; omega
    subst this
    obtain ⟨q1, q2, q3⟩ := rn_up (l := f) (h := f + s * (C - 1)) (s := s) (by omega)
    rw [q1, q2, q3, if_neg hc]
    refine ⟨rfl, rfl, ?_⟩
    by_cases h : C = 1
    · rw [if_pos (by omega), if_pos h]
    · rw [if_neg (by omega), if_neg h]

set_option maxRecDepth 100000 in
theorem t_rTranslate (a b c n : Int) : conB Go.Proofs.Try.prog (conOf k8) noLoops 10 204 [.agg [.lit (.int .i64 a), .lit (.int .i64 b), .lit (.int .i64 c)], .lit (.int .i64 n)] =
    T.ask (I64 a ∧ I64 b ∧ I64 c) (.br (U.ne (lk chk a b c) (0 : Int)) (.ret (.tup [.agg [.lit (.int .i64 0), .lit (.int .i64 0), .lit (.int .i64 0)], .lit (.int .i64 (lk chk a b c))]))
      (.br (lk isE a b c) (.ret (.tup [.agg [.lit (.int .i64 a), .lit (.int .i64 b), .lit (.int .i64 c)], .lit (.int .i64 0)])) (.br (U.gt n (2000000 : Int)) (.ret (.tup [.agg [.lit (.int
      .i64 0), .lit (.int .i64 0), .lit (.int .i64 0)], .lit (.int .i64 4)])) (.br (U.lt n (-2000000 : Int)) (.ret (.tup [.agg [.lit (.int .i64 0), .lit (.int .i64 0), .lit (.int .i64
      0)], .lit (.int .i64 4)])) (.ask (I64 (-c)) (.br (U.le (U.add .i64 a n) (U.add .i64 b n)) (.br (U.not (lk lim (U.add .i64 a n))) (.ret (.tup [.agg [.lit (.int .i64 0), .lit (.int
      .i64 0), .lit (.int .i64 0)], .lit (.int .i64 4)])) (.br (U.not (lk lim (U.add .i64 b n))) (.ret (.tup [.agg [.lit (.int .i64 0), .lit (.int .i64 0), .lit (.int .i64 0)], .lit (.int
      .i64 4)])) (.ask (U.add .i64 a n < U.add .i64 b n → U.lt c (0 : Int) = true → I64 (-lk absI c)) (.ret (.tup [.agg [.lit (.int .i64 (lk rnL (U.add .i64 a n) (U.add .i64 b n) (lk absI
      c) (U.lt c (0 : Int)))), .lit (.int .i64 (lk rnH (U.add .i64 a n) (U.add .i64 b n) (lk absI c) (U.lt c (0 : Int)))), .lit (.int .i64 (lk rnS (U.add .i64 a n) (U.add .i64 b n) (lk
      absI c) (U.lt c (0 : Int))))], .lit (.int .i64 0)]))))) (.ask (U.add .i64 a n < U.add .i64 b n → U.lt c (0 : Int) = true → I64 (-lk absI c)) (.ret (.tup [.agg [.lit (.int .i64 (lk
      rnL (U.add .i64 a n) (U.add .i64 b n) (lk absI c) (U.lt c (0 : Int)))), .lit (.int .i64 (lk rnH (U.add .i64 a n) (U.add .i64 b n) (lk absI c) (U.lt c (0 : Int)))), .lit (.int .i64
      (lk rnS (U.add .i64 a n) (U.add .i64 b n) (lk absI c) (U.lt c (0 : Int))))], .lit (.int .i64 0)]))))))))) := by kernel_rfl
theorem rTranslate_ok : ConOK P 204 c_Translate := con_of (allOK mixed k8_ok) 10 204 fun args r h => by
  unfold c_Translate at h
  split at h
  · rename_i a b c n
    have hp := (T.is_ask h).1
    have h := (T.is_ask h).2
    obtain rfl := T.is_ret h
    rw [t_rTranslate]
    simp only [T.All, U.le_t, U.le_f, U.lt_t, U.lt_f, U.gt_t, U.gt_f, U.ge_t, U.ge_f, U.eq_t, U.eq_f, U.ne_t, U.ne_f, U.not_t, U.not_f, U.andb_t, U.andb_f, SV.lit.injEq, SV.agg.injEq, SV.tup.injEq, List.cons.injEq, Value.int.injEq, Value.bool.injEq, true_and, and_true, lk_eq, lim_t, lim_f, isE_t, isE_f, U.lt_t]
    refine ⟨⟨hp.1, hp.2.1, hp.2.2.1⟩, fun h => ?_, fun h => ⟨fun he => ?_, fun he => ⟨fun hn => ?_, fun hn => ⟨fun hn2 => ?_, fun hn2 => ?_⟩⟩⟩⟩
    · simp [trE, trLow, trHigh, trStr, h]
    · obtain ⟨rfl, rfl, rfl⟩ := he
      simp [trE, trLow, trHigh, trStr, h]
    all_goals
      have hr := chk_zero.1 h
      have hl := hr.1
      have hab := right_le hr he
      obtain ⟨p1, p2, p3, p4, p5, p6, p7, p8, p9, p10⟩ := parts hr hab
      have n1 : ¬ a > b := by omega
    · simp [trE, trLow, trHigh, trStr, h, n1, hn]
    all_goals
      have n2 : ¬ n > 2000000 := by omega
    · have e : mvE (a + max n (-3000000)) (absI c) (ofC a b c) = 4 := by
        unfold mvE; rw [if_neg (by omega), if_neg (by omega)]
      simp only [trE, trLow, trHigh, trStr, h, ne_eq, not_true_eq_false, if_false, if_neg n1, if_neg n2, mvLow, mvHigh, mvStr, e, if_neg (show ¬ ofC a b c ≤ 0 by omega)]
      simp
    have e1 : U.add .i64 a n = a + n := U.add64 (by unfold I64; omega)
    have e2 : U.add .i64 b n = b + n := U.add64 (by unfold I64; omega)
    have em : max n (-3000000) = n := by omega
    rw [e1, e2]
    have ed : U.lt c 0 = decide (c < 0) := U.lt_eq c 0
    have eb : a + n + absI c * (ofC a b c - 1) = b + n := by omega
    have n3 : ¬ ofC a b c ≤ 0 := by omega
    simp only [trE, trLow, trHigh, trStr, h, ne_eq, not_true_eq_false, if_false, if_neg n1, if_neg n2, em]
    have bad : ∀ x : Int, x = mvE (a + n) (absI c) (ofC a b c) → x = 4 → (0 = mvLow (a + n) (absI c) (ofC a b c) ∧ 0 = mvHigh (a + n) (absI c) (ofC a b c) ∧ 0 = mvStr (a + n) (absI c) (ofC a b c) c) ∧ 4 = mvE (a + n) (absI c) (ofC a b c) := fun x hx hx4 => by
      have e : mvE (a + n) (absI c) (ofC a b c) = 4 := by omega
      simp [mvLow, mvHigh, mvStr, e, n3]
    refine ⟨by unfold I64; omega, fun _ => ⟨fun g => bad _ rfl ?_, fun g1 => ⟨fun g => bad _ rfl ?_, fun g2 => ⟨fun _ _ => by unfold I64; omega, ?_, ?_⟩⟩⟩, fun g => by omega⟩
    · unfold mvE; rw [if_neg n3, if_neg (by omega)]
    · unfold mvE; rw [if_neg n3, if_neg (by omega)]
    all_goals
      have e : mvE (a + n) (absI c) (ofC a b c) = 0 := by unfold mvE; rw [if_neg n3, if_pos (by omega)]
    · rw [← eb]
      exact rn_mv p1 p3 e _ ed
    · exact e.symm
  · exact h.elim
end Go.RX.Span

/- Ranges: Expand of the program and of the reference. -/
set_option linter.unusedVariables false
set_option linter.unusedSimpArgs false
set_option maxRecDepth 100000
namespace Go.RX.Span
open Go Go.RX

def exC (a b c n : Int) : Int := if n < -ofC a b c then 0 else max (ofC a b c + 2 * n) 0
def exE (a b c n : Int) : Int := if chk a b c ≠ 0 then chk a b c else if a > b then 0 else if n > 2000000 then 4 else mvE (a - n * absI c) (absI c) (exC a b c n)
def exLow (a b c n : Int) : Int := if chk a b c ≠ 0 then 0 else if a > b then 1 else if n > 2000000 then 0 else mvLow (a - n * absI c) (absI c) (exC a b c n)
def exHigh (a b c n : Int) : Int := if chk a b c ≠ 0 then 0 else if a > b then 0 else if n > 2000000 then 0 else mvHigh (a - n * absI c) (absI c) (exC a b c n)
def exStr (a b c n : Int) : Int := if chk a b c ≠ 0 then 0 else if a > b then 1 else if n > 2000000 then 0 else mvStr (a - n * absI c) (absI c) (exC a b c n) c
noncomputable def c_Expand : Con := fun args => match args with
  | [.agg [.lit (.int .i64 a), .lit (.int .i64 b), .lit (.int .i64 c)], .lit (.int .i64 n)] =>
    .ask (I64 a ∧ I64 b ∧ I64 c ∧ I64 n) (.ret (.tup [.agg [.lit (.int .i64 (lk exLow a b c n)), .lit (.int .i64 (lk exHigh a b c n)), .lit (.int .i64 (lk exStr a b c n))], .lit (.int .i64 (lk exE a b c n))]))
  | _ => .stuck 1

set_option maxRecDepth 100000 in
theorem t_Expand (a b c n : Int) : conB Go.Proofs.Try.prog (conOf k8) noLoops 10 34 [.agg [.lit (.int .i64 a), .lit (.int .i64 b), .lit (.int .i64 c)], .lit (.int .i64 n)] =
    T.ask (I64 a ∧ I64 b ∧ I64 c) (.br (U.ne (lk chk a b c) (0 : Int)) (.ret (.tup [.agg [.lit (.int .i64 0), .lit (.int .i64 0), .lit (.int .i64 0)], .lit (.int .i64 (lk chk a b c))]))
      (.ask (a ≤ b → c ≠ (0 : Int) ∧ (-9223372036854775807 : Int) ≤ c ∧ b - a < (9223372036854775807 : Int) ∧ I64 a ∧ I64 b ∧ I64 c) (.ask (lk ofB a b c < (0 : Int) → lk ofC a b c ≠ (0 :
      Int) → I64 (lk ofC a b c - (1 : Int)) ∧ I64 (lk ofB a b c * (lk ofC a b c - (1 : Int))) ∧ I64 (lk ofF a b c + lk ofB a b c * (lk ofC a b c - (1 : Int))) ∧ I64 (-lk ofB a b c)) (.br
      (U.eq (lk ofC a b c) (0 : Int)) (.ask ((0 : Int) < lk ofC a b c → I64 (lk ofC a b c - (1 : Int)) ∧ I64 (lk uB (lk ofF a b c) (lk ofB a b c) (lk ofC a b c) * (lk ofC a b c - (1 :
      Int))) ∧ I64 (lk uF (lk ofF a b c) (lk ofB a b c) (lk ofC a b c) + lk uB (lk ofF a b c) (lk ofB a b c) (lk ofC a b c) * (lk ofC a b c - (1 : Int)))) (.ret (.tup [.agg [.lit (.int
      .i64 (lk nLow (lk uF (lk ofF a b c) (lk ofB a b c) (lk ofC a b c)) (lk uB (lk ofF a b c) (lk ofB a b c) (lk ofC a b c)) (lk ofC a b c))), .lit (.int .i64 (lk nHigh (lk uF (lk ofF a
      b c) (lk ofB a b c) (lk ofC a b c)) (lk uB (lk ofF a b c) (lk ofB a b c) (lk ofC a b c)) (lk ofC a b c))), .lit (.int .i64 (lk nStr (lk uF (lk ofF a b c) (lk ofB a b c) (lk ofC a b
      c)) (lk uB (lk ofF a b c) (lk ofB a b c) (lk ofC a b c)) (lk ofC a b c)))], .lit (.int .i64 (lk nErr (lk uF (lk ofF a b c) (lk ofB a b c) (lk ofC a b c)) (lk uB (lk ofF a b c) (lk
      ofB a b c) (lk ofC a b c)) (lk ofC a b c)))]))) (.br (U.gt n (2000000 : Int)) (.ret (.tup [.agg [.lit (.int .i64 0), .lit (.int .i64 0), .lit (.int .i64 0)], .lit (.int .i64 4)]))
      (.br (U.lt n (U.sub .i64 0 (lk ofC a b c))) (.ask (c < (0 : Int) → (0 : Int) ≠ (0 : Int) → I64 ((0 : Int) - (1 : Int)) ∧ I64 ((0 : Int) * ((0 : Int) - (1 : Int))) ∧ I64 ((0 : Int) +
      (0 : Int) * ((0 : Int) - (1 : Int))) ∧ I64 (-0 : Int)) (.ask ((0 : Int) < (0 : Int) → I64 ((0 : Int) - (1 : Int)) ∧ I64 (lk kB (0 : Int) (0 : Int) (0 : Int) c * ((0 : Int) - (1 :
      Int))) ∧ I64 (lk kF (0 : Int) (0 : Int) (0 : Int) c + lk kB (0 : Int) (0 : Int) (0 : Int) c * ((0 : Int) - (1 : Int)))) (.ret (.tup [.agg [.lit (.int .i64 (lk nLow (lk kF (0 : Int)
      (0 : Int) (0 : Int) c) (lk kB (0 : Int) (0 : Int) (0 : Int) c) (0 : Int))), .lit (.int .i64 (lk nHigh (lk kF (0 : Int) (0 : Int) (0 : Int) c) (lk kB (0 : Int) (0 : Int) (0 : Int) c)
      (0 : Int))), .lit (.int .i64 (lk nStr (lk kF (0 : Int) (0 : Int) (0 : Int) c) (lk kB (0 : Int) (0 : Int) (0 : Int) c) (0 : Int)))], .lit (.int .i64 (lk nErr (lk kF (0 : Int) (0 :
      Int) (0 : Int) c) (lk kB (0 : Int) (0 : Int) (0 : Int) c) (0 : Int)))])))) (.ask (c < (0 : Int) → U.mm true (U.add .i64 (lk ofC a b c) (U.mul .i64 2 n)) (0 : Int) ≠ (0 : Int) → I64
      (U.mm true (U.add .i64 (lk ofC a b c) (U.mul .i64 2 n)) (0 : Int) - (1 : Int)) ∧ I64 (lk uB (lk ofF a b c) (lk ofB a b c) (lk ofC a b c) * (U.mm true (U.add .i64 (lk ofC a b c)
      (U.mul .i64 2 n)) (0 : Int) - (1 : Int))) ∧ I64 (U.sub .i64 (lk uF (lk ofF a b c) (lk ofB a b c) (lk ofC a b c)) (U.mul .i64 n (lk uB (lk ofF a b c) (lk ofB a b c) (lk ofC a b c)))
      + lk uB (lk ofF a b c) (lk ofB a b c) (lk ofC a b c) * (U.mm true (U.add .i64 (lk ofC a b c) (U.mul .i64 2 n)) (0 : Int) - (1 : Int))) ∧ I64 (-lk uB (lk ofF a b c) (lk ofB a b c)
      (lk ofC a b c))) (.ask ((0 : Int) < U.mm true (U.add .i64 (lk ofC a b c) (U.mul .i64 2 n)) (0 : Int) → I64 (U.mm true (U.add .i64 (lk ofC a b c) (U.mul .i64 2 n)) (0 : Int) - (1 :
      Int)) ∧ I64 (lk kB (U.sub .i64 (lk uF (lk ofF a b c) (lk ofB a b c) (lk ofC a b c)) (U.mul .i64 n (lk uB (lk ofF a b c) (lk ofB a b c) (lk ofC a b c)))) (lk uB (lk ofF a b c) (lk
      ofB a b c) (lk ofC a b c)) (U.mm true (U.add .i64 (lk ofC a b c) (U.mul .i64 2 n)) (0 : Int)) c * (U.mm true (U.add .i64 (lk ofC a b c) (U.mul .i64 2 n)) (0 : Int) - (1 : Int))) ∧
      I64 (lk kF (U.sub .i64 (lk uF (lk ofF a b c) (lk ofB a b c) (lk ofC a b c)) (U.mul .i64 n (lk uB (lk ofF a b c) (lk ofB a b c) (lk ofC a b c)))) (lk uB (lk ofF a b c) (lk ofB a b c)
      (lk ofC a b c)) (U.mm true (U.add .i64 (lk ofC a b c) (U.mul .i64 2 n)) (0 : Int)) c + lk kB (U.sub .i64 (lk uF (lk ofF a b c) (lk ofB a b c) (lk ofC a b c)) (U.mul .i64 n (lk uB
      (lk ofF a b c) (lk ofB a b c) (lk ofC a b c)))) (lk uB (lk ofF a b c) (lk ofB a b c) (lk ofC a b c)) (U.mm true (U.add .i64 (lk ofC a b c) (U.mul .i64 2 n)) (0 : Int)) c * (U.mm
      true (U.add .i64 (lk ofC a b c) (U.mul .i64 2 n)) (0 : Int) - (1 : Int)))) (.ret (.tup [.agg [.lit (.int .i64 (lk nLow (lk kF (U.sub .i64 (lk uF (lk ofF a b c) (lk ofB a b c) (lk
      ofC a b c)) (U.mul .i64 n (lk uB (lk ofF a b c) (lk ofB a b c) (lk ofC a b c)))) (lk uB (lk ofF a b c) (lk ofB a b c) (lk ofC a b c)) (U.mm true (U.add .i64 (lk ofC a b c) (U.mul
      .i64 2 n)) (0 : Int)) c) (lk kB (U.sub .i64 (lk uF (lk ofF a b c) (lk ofB a b c) (lk ofC a b c)) (U.mul .i64 n (lk uB (lk ofF a b c) (lk ofB a b c) (lk ofC a b c)))) (lk uB (lk ofF
      a b c) (lk ofB a b c) (lk ofC a b c)) (U.mm true (U.add .i64 (lk ofC a b c) (U.mul .i64 2 n)) (0 : Int)) c) (U.mm true (U.add .i64 (lk ofC a b c) (U.mul .i64 2 n)) (0 : Int)))),
      .lit (.int .i64 (lk nHigh (lk kF (U.sub .i64 (lk uF (lk ofF a b c) (lk ofB a b c) (lk ofC a b c)) (U.mul .i64 n (lk uB (lk ofF a b c) (lk ofB a b c) (lk ofC a b c)))) (lk uB (lk ofF
      a b c) (lk ofB a b c) (lk ofC a b c)) (U.mm true (U.add .i64 (lk ofC a b c) (U.mul .i64 2 n)) (0 : Int)) c) (lk kB (U.sub .i64 (lk uF (lk ofF a b c) (lk ofB a b c) (lk ofC a b c))
      (U.mul .i64 n (lk uB (lk ofF a b c) (lk ofB a b c) (lk ofC a b c)))) (lk uB (lk ofF a b c) (lk ofB a b c) (lk ofC a b c)) (U.mm true (U.add .i64 (lk ofC a b c) (U.mul .i64 2 n)) (0
      : Int)) c) (U.mm true (U.add .i64 (lk ofC a b c) (U.mul .i64 2 n)) (0 : Int)))), .lit (.int .i64 (lk nStr (lk kF (U.sub .i64 (lk uF (lk ofF a b c) (lk ofB a b c) (lk ofC a b c))
      (U.mul .i64 n (lk uB (lk ofF a b c) (lk ofB a b c) (lk ofC a b c)))) (lk uB (lk ofF a b c) (lk ofB a b c) (lk ofC a b c)) (U.mm true (U.add .i64 (lk ofC a b c) (U.mul .i64 2 n)) (0
      : Int)) c) (lk kB (U.sub .i64 (lk uF (lk ofF a b c) (lk ofB a b c) (lk ofC a b c)) (U.mul .i64 n (lk uB (lk ofF a b c) (lk ofB a b c) (lk ofC a b c)))) (lk uB (lk ofF a b c) (lk ofB
      a b c) (lk ofC a b c)) (U.mm true (U.add .i64 (lk ofC a b c) (U.mul .i64 2 n)) (0 : Int)) c) (U.mm true (U.add .i64 (lk ofC a b c) (U.mul .i64 2 n)) (0 : Int))))], .lit (.int .i64
      (lk nErr (lk kF (U.sub .i64 (lk uF (lk ofF a b c) (lk ofB a b c) (lk ofC a b c)) (U.mul .i64 n (lk uB (lk ofF a b c) (lk ofB a b c) (lk ofC a b c)))) (lk uB (lk ofF a b c) (lk ofB a
      b c) (lk ofC a b c)) (U.mm true (U.add .i64 (lk ofC a b c) (U.mul .i64 2 n)) (0 : Int)) c) (lk kB (U.sub .i64 (lk uF (lk ofF a b c) (lk ofB a b c) (lk ofC a b c)) (U.mul .i64 n (lk
      uB (lk ofF a b c) (lk ofB a b c) (lk ofC a b c)))) (lk uB (lk ofF a b c) (lk ofB a b c) (lk ofC a b c)) (U.mm true (U.add .i64 (lk ofC a b c) (U.mul .i64 2 n)) (0 : Int)) c) (U.mm
      true (U.add .i64 (lk ofC a b c) (U.mul .i64 2 n)) (0 : Int))))])))))))))) := by kernel_rfl
set_option maxHeartbeats 1000000 in
theorem Expand_ok : ConOK P 34 c_Expand := con_of (allOK mixed k8_ok) 10 34 fun args r h => by
  unfold c_Expand at h
  split at h
  · rename_i a b c n
    have hp := (T.is_ask h).1
    have h := (T.is_ask h).2
    obtain rfl := T.is_ret h
    rw [t_Expand]
    simp only [T.All, U.le_t, U.le_f, U.lt_t, U.lt_f, U.gt_t, U.gt_f, U.ge_t, U.ge_f, U.eq_t, U.eq_f, U.ne_t, U.ne_f, U.not_t, U.not_f, U.andb_t, U.andb_f, SV.lit.injEq, SV.agg.injEq, SV.tup.injEq, List.cons.injEq, Value.int.injEq, Value.bool.injEq, true_and, and_true, lk_eq, lim_t, lim_f, mm_min, mm_max]
    refine ⟨⟨hp.1, hp.2.1, hp.2.2.1⟩, fun h => ?_, fun h => ⟨of_ask (chk_zero.1 h) hp.1 hp.2.1 hp.2.2.1, ?_⟩⟩
    · simp [exE, exLow, exHigh, exStr, h]
    have hr := chk_zero.1 h
    have hl := hr.1
    by_cases hab : a ≤ b
    · obtain ⟨p1, p2, p3, p4, p5, p6, p7, p8, p9, p10⟩ := parts hr hab
      obtain ⟨u1, u2⟩ := up_of hr hab
      obtain ⟨s1, s2, s3, s4, s5⟩ := series_of hr hab
      have sl := s5 (ofC a b c - 1) (by omega) (by omega)
      rw [u1, u2]
      have m1 : I64 (ofB a b c * (ofC a b c - 1)) := by unfold I64; omega
      have n1 : ¬ a > b := by omega
      have e0 : U.sub .i64 0 (ofC a b c) = -ofC a b c := by rw [U.sub64 (by unfold I64; omega)]; omega
      rw [e0]
      refine ⟨fun _ _ => ⟨by unfold I64; omega, m1, by unfold I64; omega, by unfold I64; omega⟩, fun g => by omega, fun _ => ⟨fun g => ?_, fun g => ⟨fun g2 => ?_, fun g2 => ?_⟩⟩⟩
      · simp [exE, exLow, exHigh, exStr, h, n1, g]
      all_goals
        have n2 : ¬ n > 2000000 := by omega
      · refine ⟨fun _ g => absurd rfl g, fun g => by omega, ?_⟩
        have eC : exC a b c n = 0 := by unfold exC; rw [if_pos g2]
        simp [exE, exLow, exHigh, exStr, h, n1, n2, eC, mvE, mvLow, mvHigh, mvStr, nLow, nHigh, nStr, nErr]
      · have eC : exC a b c n = max (ofC a b c + 2 * n) 0 := by unfold exC; rw [if_neg (by omega)]
        have mb := mul_bnd (x := n) (y := absI c) (X := 2000001) (Y := 2000000) (by omega) (by omega)
        have ed : absI c * (ofC a b c + 2 * n - 1) = absI c * (ofC a b c - 1) + 2 * (n * absI c) := by
          rw [show ofC a b c + 2 * n - 1 = (ofC a b c - 1) + 2 * n by omega, Int.mul_add, Int.mul_comm (absI c) (2 * n), Int.mul_assoc]
        rw [U.mul64 (a := 2) (b := n) (by unfold I64; omega), U.add64 (a := ofC a b c) (b := 2 * n) (by unfold I64; omega), U.mul64 (a := n) (b := absI c) (by unfold I64; omega), U.sub64 (by unfold I64; omega)]
        obtain ⟨q1, q2, q3, q4⟩ := nrm_like (f := a - n * absI c) (s := absI c) (C := max (ofC a b c + 2 * n) 0) (c := c) p1
        rw [q1, q2, q3, q4]
        simp only [exE, exLow, exHigh, exStr, h, ne_eq, not_true_eq_false, if_false, if_neg n1, if_neg n2, eC, and_self, and_true]
        have em : max (ofC a b c + 2 * n) 0 ≠ 0 → max (ofC a b c + 2 * n) 0 = ofC a b c + 2 * n := fun g => by omega
        refine ⟨fun _ g => ?_, fun g => ?_⟩
        · rw [em g, ed]
          exact ⟨by unfold I64; omega, by unfold I64; omega, by unfold I64; omega, by unfold I64; omega⟩
        · obtain ⟨l1, l2⟩ := like_bnd (f := a - n * absI c) (s := absI c) (C := max (ofC a b c + 2 * n) 0) (c := c) (by omega)
          rw [em (by omega)] at l1 l2 ⊢
          rw [ed] at l1 l2
          exact ⟨by unfold I64; omega, by unfold I64; omega, by unfold I64; omega⟩
    · obtain ⟨f1, f2, f3⟩ := empty_of (c := c) hab
      rw [f1, f2, f3]
      refine ⟨fun g => absurd g (by omega), fun _ => ⟨fun g => absurd g (by omega), ?_⟩, fun g => absurd rfl g⟩
      have n1 : a > b := by omega
      simp [nLow, nHigh, nStr, nErr, exE, exLow, exHigh, exStr, h, n1]
  · exact h.elim

/-- The reference's last step: a range, if its numbers are in the limits. -/
theorem lim_tail {f hi s C c : Int} (hs : 1 ≤ s) (hs2 : s ≤ 2000000) (hC : 1 ≤ C) (hh : hi = f + s * (C - 1)) :
    (f ≤ hi → (f < -1000000 ∨ 1000000 < f → (0 = mvLow f s C ∧ 0 = mvHigh f s C ∧ 0 = mvStr f s C c) ∧ 4 = mvE f s C) ∧
      (-1000000 ≤ f ∧ f ≤ 1000000 → (hi < -1000000 ∨ 1000000 < hi → (0 = mvLow f s C ∧ 0 = mvHigh f s C ∧ 0 = mvStr f s C c) ∧ 4 = mvE f s C) ∧
        (-1000000 ≤ hi ∧ hi ≤ 1000000 → (f < hi → c < 0 → I64 (-s)) ∧ (rnL f hi s (U.lt c 0) = mvLow f s C ∧ rnH f hi s (U.lt c 0) = mvHigh f s C ∧ rnS f hi s (U.lt c 0) = mvStr f s C c) ∧ 0 = mvE f s C))) ∧
    (hi < f → (f < hi → c < 0 → I64 (-s)) ∧ (rnL f hi s (U.lt c 0) = mvLow f s C ∧ rnH f hi s (U.lt c 0) = mvHigh f s C ∧ rnS f hi s (U.lt c 0) = mvStr f s C c) ∧ 0 = mvE f s C) := by
  have h0 := mulle (x := 0) (y := C - 1) hs (by omega)
  rw [Int.mul_zero] at h0
  have n3 : ¬ C ≤ 0 := by omega
  have bad : mvE f s C = 4 → (0 = mvLow f s C ∧ 0 = mvHigh f s C ∧ 0 = mvStr f s C c) ∧ 4 = mvE f s C := fun e => by
    simp [mvLow, mvHigh, mvStr, e, n3]
  refine ⟨fun _ => ⟨fun g => bad ?_, fun g1 => ⟨fun g => bad ?_, fun g2 => ⟨fun _ _ => by unfold I64; omega, ?_, ?_⟩⟩⟩, fun g => by omega⟩
  · unfold mvE; rw [if_neg n3, if_neg (by omega)]
  · unfold mvE; rw [if_neg n3, if_neg (by omega)]
  all_goals
    have e : mvE f s C = 0 := by unfold mvE; rw [if_neg n3, if_pos (by omega)]
  · rw [hh]
    exact rn_mv hs hC e _ (U.lt_eq c 0)
  · exact e.symm

set_option maxRecDepth 100000 in
theorem t_rExpand (a b c n : Int) : conB Go.Proofs.Try.prog (conOf k8) noLoops 10 205 [.agg [.lit (.int .i64 a), .lit (.int .i64 b), .lit (.int .i64 c)], .lit (.int .i64 n)] =
    T.ask (I64 a ∧ I64 b ∧ I64 c) (.br (U.ne (lk chk a b c) (0 : Int)) (.ret (.tup [.agg [.lit (.int .i64 0), .lit (.int .i64 0), .lit (.int .i64 0)], .lit (.int .i64 (lk chk a b c))]))
      (.br (lk isE a b c) (.ret (.tup [.agg [.lit (.int .i64 1), .lit (.int .i64 0), .lit (.int .i64 1)], .lit (.int .i64 0)])) (.br (U.lt n (0 : Int)) (.ask (I64 a ∧ I64 b ∧ I64 c) (.ask
      ((2 : Int) ≠ (0 : Int)) (.br (U.le n (U.quo .i64 (U.sub .i64 0 (U.add .i64 (lk size a b c) (1 : Int))) (2 : Int))) (.ret (.tup [.agg [.lit (.int .i64 1), .lit (.int .i64 0), .lit
      (.int .i64 1)], .lit (.int .i64 0)])) (.br (U.gt n (2000000 : Int)) (.ret (.tup [.agg [.lit (.int .i64 0), .lit (.int .i64 0), .lit (.int .i64 0)], .lit (.int .i64 4)])) (.br (U.lt
      n (-2000000 : Int)) (.ret (.tup [.agg [.lit (.int .i64 0), .lit (.int .i64 0), .lit (.int .i64 0)], .lit (.int .i64 4)])) (.ask (I64 (-c)) (.ask (I64 (-c)) (.ask (I64 (-c)) (.br
      (U.le (U.sub .i64 a (U.mul .i64 n (lk absI c))) (U.add .i64 b (U.mul .i64 n (lk absI c)))) (.br (U.not (lk lim (U.sub .i64 a (U.mul .i64 n (lk absI c))))) (.ret (.tup [.agg [.lit
      (.int .i64 0), .lit (.int .i64 0), .lit (.int .i64 0)], .lit (.int .i64 4)])) (.br (U.not (lk lim (U.add .i64 b (U.mul .i64 n (lk absI c))))) (.ret (.tup [.agg [.lit (.int .i64 0),
      .lit (.int .i64 0), .lit (.int .i64 0)], .lit (.int .i64 4)])) (.ask (U.sub .i64 a (U.mul .i64 n (lk absI c)) < U.add .i64 b (U.mul .i64 n (lk absI c)) → U.lt c (0 : Int) = true →
      I64 (-lk absI c)) (.ret (.tup [.agg [.lit (.int .i64 (lk rnL (U.sub .i64 a (U.mul .i64 n (lk absI c))) (U.add .i64 b (U.mul .i64 n (lk absI c))) (lk absI c) (U.lt c (0 : Int)))),
      .lit (.int .i64 (lk rnH (U.sub .i64 a (U.mul .i64 n (lk absI c))) (U.add .i64 b (U.mul .i64 n (lk absI c))) (lk absI c) (U.lt c (0 : Int)))), .lit (.int .i64 (lk rnS (U.sub .i64 a
      (U.mul .i64 n (lk absI c))) (U.add .i64 b (U.mul .i64 n (lk absI c))) (lk absI c) (U.lt c (0 : Int))))], .lit (.int .i64 0)]))))) (.ask (U.sub .i64 a (U.mul .i64 n (lk absI c)) <
      U.add .i64 b (U.mul .i64 n (lk absI c)) → U.lt c (0 : Int) = true → I64 (-lk absI c)) (.ret (.tup [.agg [.lit (.int .i64 (lk rnL (U.sub .i64 a (U.mul .i64 n (lk absI c))) (U.add
      .i64 b (U.mul .i64 n (lk absI c))) (lk absI c) (U.lt c (0 : Int)))), .lit (.int .i64 (lk rnH (U.sub .i64 a (U.mul .i64 n (lk absI c))) (U.add .i64 b (U.mul .i64 n (lk absI c))) (lk
      absI c) (U.lt c (0 : Int)))), .lit (.int .i64 (lk rnS (U.sub .i64 a (U.mul .i64 n (lk absI c))) (U.add .i64 b (U.mul .i64 n (lk absI c))) (lk absI c) (U.lt c (0 : Int))))], .lit
      (.int .i64 0)])))))))))))) (.br (U.gt n (2000000 : Int)) (.ret (.tup [.agg [.lit (.int .i64 0), .lit (.int .i64 0), .lit (.int .i64 0)], .lit (.int .i64 4)])) (.br (U.lt n (-2000000
      : Int)) (.ret (.tup [.agg [.lit (.int .i64 0), .lit (.int .i64 0), .lit (.int .i64 0)], .lit (.int .i64 4)])) (.ask (I64 (-c)) (.ask (I64 (-c)) (.ask (I64 (-c)) (.br (U.le (U.sub
      .i64 a (U.mul .i64 n (lk absI c))) (U.add .i64 b (U.mul .i64 n (lk absI c)))) (.br (U.not (lk lim (U.sub .i64 a (U.mul .i64 n (lk absI c))))) (.ret (.tup [.agg [.lit (.int .i64 0),
      .lit (.int .i64 0), .lit (.int .i64 0)], .lit (.int .i64 4)])) (.br (U.not (lk lim (U.add .i64 b (U.mul .i64 n (lk absI c))))) (.ret (.tup [.agg [.lit (.int .i64 0), .lit (.int .i64
      0), .lit (.int .i64 0)], .lit (.int .i64 4)])) (.ask (U.sub .i64 a (U.mul .i64 n (lk absI c)) < U.add .i64 b (U.mul .i64 n (lk absI c)) → U.lt c (0 : Int) = true → I64 (-lk absI c))
      (.ret (.tup [.agg [.lit (.int .i64 (lk rnL (U.sub .i64 a (U.mul .i64 n (lk absI c))) (U.add .i64 b (U.mul .i64 n (lk absI c))) (lk absI c) (U.lt c (0 : Int)))), .lit (.int .i64 (lk
      rnH (U.sub .i64 a (U.mul .i64 n (lk absI c))) (U.add .i64 b (U.mul .i64 n (lk absI c))) (lk absI c) (U.lt c (0 : Int)))), .lit (.int .i64 (lk rnS (U.sub .i64 a (U.mul .i64 n (lk
      absI c))) (U.add .i64 b (U.mul .i64 n (lk absI c))) (lk absI c) (U.lt c (0 : Int))))], .lit (.int .i64 0)]))))) (.ask (U.sub .i64 a (U.mul .i64 n (lk absI c)) < U.add .i64 b (U.mul
      .i64 n (lk absI c)) → U.lt c (0 : Int) = true → I64 (-lk absI c)) (.ret (.tup [.agg [.lit (.int .i64 (lk rnL (U.sub .i64 a (U.mul .i64 n (lk absI c))) (U.add .i64 b (U.mul .i64 n
      (lk absI c))) (lk absI c) (U.lt c (0 : Int)))), .lit (.int .i64 (lk rnH (U.sub .i64 a (U.mul .i64 n (lk absI c))) (U.add .i64 b (U.mul .i64 n (lk absI c))) (lk absI c) (U.lt c (0 :
      Int)))), .lit (.int .i64 (lk rnS (U.sub .i64 a (U.mul .i64 n (lk absI c))) (U.add .i64 b (U.mul .i64 n (lk absI c))) (lk absI c) (U.lt c (0 : Int))))], .lit (.int .i64
      0)])))))))))))) := by kernel_rfl
set_option maxHeartbeats 1000000 in
theorem rExpand_ok : ConOK P 205 c_Expand := con_of (allOK mixed k8_ok) 10 205 fun args r h => by
  unfold c_Expand at h
  split at h
  · rename_i a b c n
    have hp := (T.is_ask h).1
    have h := (T.is_ask h).2
    obtain rfl := T.is_ret h
    rw [t_rExpand]
    simp only [T.All, U.le_t, U.le_f, U.lt_t, U.lt_f, U.gt_t, U.gt_f, U.ge_t, U.ge_f, U.eq_t, U.eq_f, U.ne_t, U.ne_f, U.not_t, U.not_f, U.andb_t, U.andb_f, SV.lit.injEq, SV.agg.injEq, SV.tup.injEq, List.cons.injEq, Value.int.injEq, Value.bool.injEq, true_and, and_true, lk_eq, lim_t, lim_f, isE_t, isE_f]
    have hp3 : I64 a ∧ I64 b ∧ I64 c := ⟨hp.1, hp.2.1, hp.2.2.1⟩
    refine ⟨hp3, fun h => ?_, fun h => ⟨fun he => ?_, fun he => ?_⟩⟩
    · simp [exE, exLow, exHigh, exStr, h]
    · obtain ⟨rfl, rfl, rfl⟩ := he
      simp [exE, exLow, exHigh, exStr, h]
    have hr := chk_zero.1 h
    have hl := hr.1
    have hab := right_le hr he
    obtain ⟨p1, p2, p3, p4, p5, p6, p7, p8, p9, p10⟩ := parts hr hab
    have n1 : ¬ a > b := by omega
    have hc5 : I64 (-c) := by unfold I64; omega
    have main : ¬ n > 2000000 → -ofC a b c ≤ n → 1 ≤ ofC a b c + 2 * n → U.sub .i64 a (U.mul .i64 n (absI c)) = a - n * absI c ∧ U.add .i64 b (U.mul .i64 n (absI c)) = b + n * absI c ∧ exC a b c n = ofC a b c + 2 * n ∧ b + n * absI c = a - n * absI c + absI c * (ofC a b c + 2 * n - 1) := fun g1 g2 g3 => by
      have mb := mul_bnd (x := n) (y := absI c) (X := 2000001) (Y := 2000000) (by omega) (by omega)
      have ed : absI c * (ofC a b c + 2 * n - 1) = absI c * (ofC a b c - 1) + 2 * (n * absI c) := by
        rw [show ofC a b c + 2 * n - 1 = (ofC a b c - 1) + 2 * n by omega, Int.mul_add, Int.mul_comm (absI c) (2 * n), Int.mul_assoc]
      rw [U.mul64 (by unfold I64; omega), U.sub64 (by unfold I64; omega), U.add64 (by unfold I64; omega)]
      refine ⟨rfl, rfl, ?_, by omega⟩
      unfold exC; rw [if_neg (by omega)]; omega
    refine ⟨fun hn => ⟨hp3, by omega, fun hq => ?_, fun hq => ⟨fun g => by omega, fun g => ⟨fun g2 => ?_, fun g2 => ⟨hc5, hc5, hc5, ?_⟩⟩⟩⟩, fun hn => ⟨fun g => ?_, fun g => ⟨fun g2 => by omega, fun g2 => ⟨hc5, hc5, hc5, ?_⟩⟩⟩⟩
    all_goals
      have eq : U.quo .i64 (U.sub .i64 0 (U.add .i64 (size a b c) 1)) 2 = -((ofC a b c + 1) / 2) := by
        rw [size_eq' hr, U.add64 (by unfold I64; omega), U.sub64 (by unfold I64; omega), show (0 : Int) - (ofC a b c + 1) = -(ofC a b c + 1) by omega]
        have : (-(ofC a b c + 1)).tdiv 2 = -((ofC a b c + 1) / 2) := by rw [Int.neg_tdiv, tdiv_pos (by omega)]
        rw [U.quo64 (by rw [this]; unfold I64; omega), this]
    · rw [eq] at hq
      have n2 : ¬ n > 2000000 := by omega
      have eC : exC a b c n = 0 := by unfold exC; split <;> omega
      simp [exE, exLow, exHigh, exStr, h, n1, n2, eC, mvE, mvLow, mvHigh, mvStr]
    · rw [eq] at hq; omega
    · rw [eq] at hq
      have n2 : ¬ n > 2000000 := by omega
      obtain ⟨e1, e2, e3, e4⟩ := main n2 (by omega) (by omega)
      rw [e1, e2]
      simp only [exE, exLow, exHigh, exStr, h, ne_eq, not_true_eq_false, if_false, if_neg n1, if_neg n2, e3]
      exact lim_tail p1 p2 (by omega) e4
    · have n2 : n > 2000000 := by omega
      simp [exE, exLow, exHigh, exStr, h, n1, n2]
    · have n2 : ¬ n > 2000000 := by omega
      obtain ⟨e1, e2, e3, e4⟩ := main n2 (by omega) (by omega)
      rw [e1, e2]
      simp only [exE, exLow, exHigh, exStr, h, ne_eq, not_true_eq_false, if_false, if_neg n1, if_neg n2, e3]
      exact lim_tail p1 p2 (by omega) e4
  · exact h.elim
end Go.RX.Span

/- Ranges: Exterior of the program and of the reference. -/
set_option linter.unusedVariables false
set_option linter.unusedSimpArgs false
set_option maxRecDepth 100000
namespace Go.RX.Span
open Go Go.RX

def xtF (a b c n : Int) : Int := if n ≥ 0 then b + absI c else a + max n (-3000000) * absI c
def xtC (n : Int) : Int := if n ≥ 0 then n else -(max n (-3000000))
def xtE (a b c n : Int) : Int := if chk a b c ≠ 0 then chk a b c else if a > b then 0 else if n > 2000000 then 4 else mvE (xtF a b c n) (absI c) (xtC n)
def xtLow (a b c n : Int) : Int := if chk a b c ≠ 0 then 0 else if a > b then 1 else if n > 2000000 then 0 else mvLow (xtF a b c n) (absI c) (xtC n)
def xtHigh (a b c n : Int) : Int := if chk a b c ≠ 0 then 0 else if a > b then 0 else if n > 2000000 then 0 else mvHigh (xtF a b c n) (absI c) (xtC n)
def xtStr (a b c n : Int) : Int := if chk a b c ≠ 0 then 0 else if a > b then 1 else if n > 2000000 then 0 else mvStr (xtF a b c n) (absI c) (xtC n) c
noncomputable def c_Exterior : Con := fun args => match args with
  | [.agg [.lit (.int .i64 a), .lit (.int .i64 b), .lit (.int .i64 c)], .lit (.int .i64 n)] =>
    .ask (I64 a ∧ I64 b ∧ I64 c ∧ I64 n) (.ret (.tup [.agg [.lit (.int .i64 (lk xtLow a b c n)), .lit (.int .i64 (lk xtHigh a b c n)), .lit (.int .i64 (lk xtStr a b c n))], .lit (.int .i64 (lk xtE a b c n))]))
  | _ => .stuck 1

set_option maxRecDepth 100000 in
theorem t_Exterior (a b c n : Int) : conB Go.Proofs.Try.prog (conOf k8) noLoops 10 37 [.agg [.lit (.int .i64 a), .lit (.int .i64 b), .lit (.int .i64 c)], .lit (.int .i64 n)] =
    T.ask (I64 a ∧ I64 b ∧ I64 c) (.br (U.ne (lk chk a b c) (0 : Int)) (.ret (.tup [.agg [.lit (.int .i64 0), .lit (.int .i64 0), .lit (.int .i64 0)], .lit (.int .i64 (lk chk a b c))]))
      (.ask (a ≤ b → c ≠ (0 : Int) ∧ (-9223372036854775807 : Int) ≤ c ∧ b - a < (9223372036854775807 : Int) ∧ I64 a ∧ I64 b ∧ I64 c) (.ask (lk ofB a b c < (0 : Int) → lk ofC a b c ≠ (0 :
      Int) → I64 (lk ofC a b c - (1 : Int)) ∧ I64 (lk ofB a b c * (lk ofC a b c - (1 : Int))) ∧ I64 (lk ofF a b c + lk ofB a b c * (lk ofC a b c - (1 : Int))) ∧ I64 (-lk ofB a b c)) (.br
      (U.eq (lk ofC a b c) (0 : Int)) (.ask ((0 : Int) < lk ofC a b c → I64 (lk ofC a b c - (1 : Int)) ∧ I64 (lk uB (lk ofF a b c) (lk ofB a b c) (lk ofC a b c) * (lk ofC a b c - (1 :
      Int))) ∧ I64 (lk uF (lk ofF a b c) (lk ofB a b c) (lk ofC a b c) + lk uB (lk ofF a b c) (lk ofB a b c) (lk ofC a b c) * (lk ofC a b c - (1 : Int)))) (.ret (.tup [.agg [.lit (.int
      .i64 (lk nLow (lk uF (lk ofF a b c) (lk ofB a b c) (lk ofC a b c)) (lk uB (lk ofF a b c) (lk ofB a b c) (lk ofC a b c)) (lk ofC a b c))), .lit (.int .i64 (lk nHigh (lk uF (lk ofF a
      b c) (lk ofB a b c) (lk ofC a b c)) (lk uB (lk ofF a b c) (lk ofB a b c) (lk ofC a b c)) (lk ofC a b c))), .lit (.int .i64 (lk nStr (lk uF (lk ofF a b c) (lk ofB a b c) (lk ofC a b
      c)) (lk uB (lk ofF a b c) (lk ofB a b c) (lk ofC a b c)) (lk ofC a b c)))], .lit (.int .i64 (lk nErr (lk uF (lk ofF a b c) (lk ofB a b c) (lk ofC a b c)) (lk uB (lk ofF a b c) (lk
      ofB a b c) (lk ofC a b c)) (lk ofC a b c)))]))) (.br (U.gt n (2000000 : Int)) (.ret (.tup [.agg [.lit (.int .i64 0), .lit (.int .i64 0), .lit (.int .i64 0)], .lit (.int .i64 4)]))
      (.br (U.ge n (0 : Int)) (.ask (I64 (lk ofC a b c - (1 : Int)) ∧ I64 (lk uB (lk ofF a b c) (lk ofB a b c) (lk ofC a b c) * (lk ofC a b c - (1 : Int))) ∧ I64 (lk uF (lk ofF a b c) (lk
      ofB a b c) (lk ofC a b c) + lk uB (lk ofF a b c) (lk ofB a b c) (lk ofC a b c) * (lk ofC a b c - (1 : Int)))) (.ask (c < (0 : Int) → n ≠ (0 : Int) → I64 (n - (1 : Int)) ∧ I64 (lk uB
      (lk ofF a b c) (lk ofB a b c) (lk ofC a b c) * (n - (1 : Int))) ∧ I64 (U.add .i64 (lk sLast (lk uF (lk ofF a b c) (lk ofB a b c) (lk ofC a b c)) (lk uB (lk ofF a b c) (lk ofB a b c)
      (lk ofC a b c)) (lk ofC a b c)) (lk uB (lk ofF a b c) (lk ofB a b c) (lk ofC a b c)) + lk uB (lk ofF a b c) (lk ofB a b c) (lk ofC a b c) * (n - (1 : Int))) ∧ I64 (-lk uB (lk ofF a
      b c) (lk ofB a b c) (lk ofC a b c))) (.ask ((0 : Int) < n → I64 (n - (1 : Int)) ∧ I64 (lk kB (U.add .i64 (lk sLast (lk uF (lk ofF a b c) (lk ofB a b c) (lk ofC a b c)) (lk uB (lk
      ofF a b c) (lk ofB a b c) (lk ofC a b c)) (lk ofC a b c)) (lk uB (lk ofF a b c) (lk ofB a b c) (lk ofC a b c))) (lk uB (lk ofF a b c) (lk ofB a b c) (lk ofC a b c)) n c * (n - (1 :
      Int))) ∧ I64 (lk kF (U.add .i64 (lk sLast (lk uF (lk ofF a b c) (lk ofB a b c) (lk ofC a b c)) (lk uB (lk ofF a b c) (lk ofB a b c) (lk ofC a b c)) (lk ofC a b c)) (lk uB (lk ofF a
      b c) (lk ofB a b c) (lk ofC a b c))) (lk uB (lk ofF a b c) (lk ofB a b c) (lk ofC a b c)) n c + lk kB (U.add .i64 (lk sLast (lk uF (lk ofF a b c) (lk ofB a b c) (lk ofC a b c)) (lk
      uB (lk ofF a b c) (lk ofB a b c) (lk ofC a b c)) (lk ofC a b c)) (lk uB (lk ofF a b c) (lk ofB a b c) (lk ofC a b c))) (lk uB (lk ofF a b c) (lk ofB a b c) (lk ofC a b c)) n c * (n
      - (1 : Int)))) (.ret (.tup [.agg [.lit (.int .i64 (lk nLow (lk kF (U.add .i64 (lk sLast (lk uF (lk ofF a b c) (lk ofB a b c) (lk ofC a b c)) (lk uB (lk ofF a b c) (lk ofB a b c) (lk
      ofC a b c)) (lk ofC a b c)) (lk uB (lk ofF a b c) (lk ofB a b c) (lk ofC a b c))) (lk uB (lk ofF a b c) (lk ofB a b c) (lk ofC a b c)) n c) (lk kB (U.add .i64 (lk sLast (lk uF (lk
      ofF a b c) (lk ofB a b c) (lk ofC a b c)) (lk uB (lk ofF a b c) (lk ofB a b c) (lk ofC a b c)) (lk ofC a b c)) (lk uB (lk ofF a b c) (lk ofB a b c) (lk ofC a b c))) (lk uB (lk ofF a
      b c) (lk ofB a b c) (lk ofC a b c)) n c) n)), .lit (.int .i64 (lk nHigh (lk kF (U.add .i64 (lk sLast (lk uF (lk ofF a b c) (lk ofB a b c) (lk ofC a b c)) (lk uB (lk ofF a b c) (lk
      ofB a b c) (lk ofC a b c)) (lk ofC a b c)) (lk uB (lk ofF a b c) (lk ofB a b c) (lk ofC a b c))) (lk uB (lk ofF a b c) (lk ofB a b c) (lk ofC a b c)) n c) (lk kB (U.add .i64 (lk
      sLast (lk uF (lk ofF a b c) (lk ofB a b c) (lk ofC a b c)) (lk uB (lk ofF a b c) (lk ofB a b c) (lk ofC a b c)) (lk ofC a b c)) (lk uB (lk ofF a b c) (lk ofB a b c) (lk ofC a b c)))
      (lk uB (lk ofF a b c) (lk ofB a b c) (lk ofC a b c)) n c) n)), .lit (.int .i64 (lk nStr (lk kF (U.add .i64 (lk sLast (lk uF (lk ofF a b c) (lk ofB a b c) (lk ofC a b c)) (lk uB (lk
      ofF a b c) (lk ofB a b c) (lk ofC a b c)) (lk ofC a b c)) (lk uB (lk ofF a b c) (lk ofB a b c) (lk ofC a b c))) (lk uB (lk ofF a b c) (lk ofB a b c) (lk ofC a b c)) n c) (lk kB
      (U.add .i64 (lk sLast (lk uF (lk ofF a b c) (lk ofB a b c) (lk ofC a b c)) (lk uB (lk ofF a b c) (lk ofB a b c) (lk ofC a b c)) (lk ofC a b c)) (lk uB (lk ofF a b c) (lk ofB a b c)
      (lk ofC a b c))) (lk uB (lk ofF a b c) (lk ofB a b c) (lk ofC a b c)) n c) n))], .lit (.int .i64 (lk nErr (lk kF (U.add .i64 (lk sLast (lk uF (lk ofF a b c) (lk ofB a b c) (lk ofC a
      b c)) (lk uB (lk ofF a b c) (lk ofB a b c) (lk ofC a b c)) (lk ofC a b c)) (lk uB (lk ofF a b c) (lk ofB a b c) (lk ofC a b c))) (lk uB (lk ofF a b c) (lk ofB a b c) (lk ofC a b c))
      n c) (lk kB (U.add .i64 (lk sLast (lk uF (lk ofF a b c) (lk ofB a b c) (lk ofC a b c)) (lk uB (lk ofF a b c) (lk ofB a b c) (lk ofC a b c)) (lk ofC a b c)) (lk uB (lk ofF a b c) (lk
      ofB a b c) (lk ofC a b c))) (lk uB (lk ofF a b c) (lk ofB a b c) (lk ofC a b c)) n c) n))]))))) (.ask (c < (0 : Int) → U.sub .i64 0 (U.mm true n (-3000000 : Int)) ≠ (0 : Int) → I64
      (U.sub .i64 0 (U.mm true n (-3000000 : Int)) - (1 : Int)) ∧ I64 (lk uB (lk ofF a b c) (lk ofB a b c) (lk ofC a b c) * (U.sub .i64 0 (U.mm true n (-3000000 : Int)) - (1 : Int))) ∧
      I64 (U.add .i64 (lk uF (lk ofF a b c) (lk ofB a b c) (lk ofC a b c)) (U.mul .i64 (U.mm true n (-3000000 : Int)) (lk uB (lk ofF a b c) (lk ofB a b c) (lk ofC a b c))) + lk uB (lk ofF
      a b c) (lk ofB a b c) (lk ofC a b c) * (U.sub .i64 0 (U.mm true n (-3000000 : Int)) - (1 : Int))) ∧ I64 (-lk uB (lk ofF a b c) (lk ofB a b c) (lk ofC a b c))) (.ask ((0 : Int) <
      U.sub .i64 0 (U.mm true n (-3000000 : Int)) → I64 (U.sub .i64 0 (U.mm true n (-3000000 : Int)) - (1 : Int)) ∧ I64 (lk kB (U.add .i64 (lk uF (lk ofF a b c) (lk ofB a b c) (lk ofC a b
      c)) (U.mul .i64 (U.mm true n (-3000000 : Int)) (lk uB (lk ofF a b c) (lk ofB a b c) (lk ofC a b c)))) (lk uB (lk ofF a b c) (lk ofB a b c) (lk ofC a b c)) (U.sub .i64 0 (U.mm true n
      (-3000000 : Int))) c * (U.sub .i64 0 (U.mm true n (-3000000 : Int)) - (1 : Int))) ∧ I64 (lk kF (U.add .i64 (lk uF (lk ofF a b c) (lk ofB a b c) (lk ofC a b c)) (U.mul .i64 (U.mm
      true n (-3000000 : Int)) (lk uB (lk ofF a b c) (lk ofB a b c) (lk ofC a b c)))) (lk uB (lk ofF a b c) (lk ofB a b c) (lk ofC a b c)) (U.sub .i64 0 (U.mm true n (-3000000 : Int))) c
      + lk kB (U.add .i64 (lk uF (lk ofF a b c) (lk ofB a b c) (lk ofC a b c)) (U.mul .i64 (U.mm true n (-3000000 : Int)) (lk uB (lk ofF a b c) (lk ofB a b c) (lk ofC a b c)))) (lk uB (lk
      ofF a b c) (lk ofB a b c) (lk ofC a b c)) (U.sub .i64 0 (U.mm true n (-3000000 : Int))) c * (U.sub .i64 0 (U.mm true n (-3000000 : Int)) - (1 : Int)))) (.ret (.tup [.agg [.lit (.int
      .i64 (lk nLow (lk kF (U.add .i64 (lk uF (lk ofF a b c) (lk ofB a b c) (lk ofC a b c)) (U.mul .i64 (U.mm true n (-3000000 : Int)) (lk uB (lk ofF a b c) (lk ofB a b c) (lk ofC a b
      c)))) (lk uB (lk ofF a b c) (lk ofB a b c) (lk ofC a b c)) (U.sub .i64 0 (U.mm true n (-3000000 : Int))) c) (lk kB (U.add .i64 (lk uF (lk ofF a b c) (lk ofB a b c) (lk ofC a b c))
      (U.mul .i64 (U.mm true n (-3000000 : Int)) (lk uB (lk ofF a b c) (lk ofB a b c) (lk ofC a b c)))) (lk uB (lk ofF a b c) (lk ofB a b c) (lk ofC a b c)) (U.sub .i64 0 (U.mm true n
      (-3000000 : Int))) c) (U.sub .i64 0 (U.mm true n (-3000000 : Int))))), .lit (.int .i64 (lk nHigh (lk kF (U.add .i64 (lk uF (lk ofF a b c) (lk ofB a b c) (lk ofC a b c)) (U.mul .i64
      (U.mm true n (-3000000 : Int)) (lk uB (lk ofF a b c) (lk ofB a b c) (lk ofC a b c)))) (lk uB (lk ofF a b c) (lk ofB a b c) (lk ofC a b c)) (U.sub .i64 0 (U.mm true n (-3000000 :
      Int))) c) (lk kB (U.add .i64 (lk uF (lk ofF a b c) (lk ofB a b c) (lk ofC a b c)) (U.mul .i64 (U.mm true n (-3000000 : Int)) (lk uB (lk ofF a b c) (lk ofB a b c) (lk ofC a b c))))
      (lk uB (lk ofF a b c) (lk ofB a b c) (lk ofC a b c)) (U.sub .i64 0 (U.mm true n (-3000000 : Int))) c) (U.sub .i64 0 (U.mm true n (-3000000 : Int))))), .lit (.int .i64 (lk nStr (lk
      kF (U.add .i64 (lk uF (lk ofF a b c) (lk ofB a b c) (lk ofC a b c)) (U.mul .i64 (U.mm true n (-3000000 : Int)) (lk uB (lk ofF a b c) (lk ofB a b c) (lk ofC a b c)))) (lk uB (lk ofF
      a b c) (lk ofB a b c) (lk ofC a b c)) (U.sub .i64 0 (U.mm true n (-3000000 : Int))) c) (lk kB (U.add .i64 (lk uF (lk ofF a b c) (lk ofB a b c) (lk ofC a b c)) (U.mul .i64 (U.mm true
      n (-3000000 : Int)) (lk uB (lk ofF a b c) (lk ofB a b c) (lk ofC a b c)))) (lk uB (lk ofF a b c) (lk ofB a b c) (lk ofC a b c)) (U.sub .i64 0 (U.mm true n (-3000000 : Int))) c)
      (U.sub .i64 0 (U.mm true n (-3000000 : Int)))))], .lit (.int .i64 (lk nErr (lk kF (U.add .i64 (lk uF (lk ofF a b c) (lk ofB a b c) (lk ofC a b c)) (U.mul .i64 (U.mm true n (-3000000
      : Int)) (lk uB (lk ofF a b c) (lk ofB a b c) (lk ofC a b c)))) (lk uB (lk ofF a b c) (lk ofB a b c) (lk ofC a b c)) (U.sub .i64 0 (U.mm true n (-3000000 : Int))) c) (lk kB (U.add
      .i64 (lk uF (lk ofF a b c) (lk ofB a b c) (lk ofC a b c)) (U.mul .i64 (U.mm true n (-3000000 : Int)) (lk uB (lk ofF a b c) (lk ofB a b c) (lk ofC a b c)))) (lk uB (lk ofF a b c) (lk
      ofB a b c) (lk ofC a b c)) (U.sub .i64 0 (U.mm true n (-3000000 : Int))) c) (U.sub .i64 0 (U.mm true n (-3000000 : Int)))))])))))))))) := by kernel_rfl
set_option maxHeartbeats 1000000 in
theorem Exterior_ok : ConOK P 37 c_Exterior := con_of (allOK mixed k8_ok) 10 37 fun args r h => by
  unfold c_Exterior at h
  split at h
  · rename_i a b c n
    have hp := (T.is_ask h).1
    have h := (T.is_ask h).2
    obtain rfl := T.is_ret h
    rw [t_Exterior]
    simp only [T.All, U.le_t, U.le_f, U.lt_t, U.lt_f, U.gt_t, U.gt_f, U.ge_t, U.ge_f, U.eq_t, U.eq_f, U.ne_t, U.ne_f, U.not_t, U.not_f, U.andb_t, U.andb_f, SV.lit.injEq, SV.agg.injEq, SV.tup.injEq, List.cons.injEq, Value.int.injEq, Value.bool.injEq, true_and, and_true, lk_eq, lim_t, lim_f, mm_min, mm_max]
    refine ⟨⟨hp.1, hp.2.1, hp.2.2.1⟩, fun h => ?_, fun h => ⟨of_ask (chk_zero.1 h) hp.1 hp.2.1 hp.2.2.1, ?_⟩⟩
    · simp [xtE, xtLow, xtHigh, xtStr, h]
    have hr := chk_zero.1 h
    have hl := hr.1
    by_cases hab : a ≤ b
    · obtain ⟨p1, p2, p3, p4, p5, p6, p7, p8, p9, p10⟩ := parts hr hab
      obtain ⟨u1, u2⟩ := up_of hr hab
      obtain ⟨s1, s2, s3, s4, s5⟩ := series_of hr hab
      have sl := s5 (ofC a b c - 1) (by omega) (by omega)
      rw [u1, u2]
      have m1 : I64 (ofB a b c * (ofC a b c - 1)) := by unfold I64; omega
      have n1 : ¬ a > b := by omega
      have eL : sLast a (absI c) (ofC a b c) = b := by unfold sLast; omega
      rw [eL]
      refine ⟨fun _ _ => ⟨by unfold I64; omega, m1, by unfold I64; omega, by unfold I64; omega⟩, fun g => by omega, fun _ => ⟨fun g => ?_, fun g => ⟨fun g2 => ?_, fun g2 => ?_⟩⟩⟩
      · simp [xtE, xtLow, xtHigh, xtStr, h, n1, g]
      all_goals
        have n2 : ¬ n > 2000000 := by omega
      · have eF : xtF a b c n = b + absI c := by unfold xtF; rw [if_pos g2]
        have eC : xtC n = n := by unfold xtC; rw [if_pos g2]
        have mb := mul_bnd (x := absI c) (y := n - 1) (X := 2000000) (Y := 2000000) (by omega) (by omega)
        rw [U.add64 (by unfold I64; omega)]
        obtain ⟨q1, q2, q3, q4⟩ := nrm_like (f := b + absI c) (s := absI c) (C := n) (c := c) p1
        rw [q1, q2, q3, q4]
        simp only [xtE, xtLow, xtHigh, xtStr, h, ne_eq, not_true_eq_false, if_false, if_neg n1, if_neg n2, eC, eF, and_self, and_true]
        refine ⟨⟨by unfold I64; omega, by unfold I64; omega, by unfold I64; omega⟩, fun _ _ => ⟨by unfold I64; omega, by unfold I64; omega, by unfold I64; omega, by unfold I64; omega⟩, fun g => ?_⟩
        obtain ⟨l1, l2⟩ := like_bnd (f := b + absI c) (s := absI c) (C := n) (c := c) (by omega)
        exact ⟨by unfold I64; omega, by unfold I64; omega, by unfold I64; omega⟩
      · have n3 : ¬ n ≥ 0 := by omega
        have eF : xtF a b c n = a + max n (-3000000) * absI c := by unfold xtF; rw [if_neg n3]
        have eC : xtC n = -(max n (-3000000)) := by unfold xtC; rw [if_neg n3]
        obtain ⟨M, hM⟩ : ∃ M, M = max n (-3000000) := ⟨_, rfl⟩
        rw [← hM] at eF eC ⊢
        have mb := mul_bnd (x := M) (y := absI c) (X := 3000000) (Y := 2000000) (by omega) (by omega)
        have mb2 := mul_bnd (x := absI c) (y := -M - 1) (X := 2000000) (Y := 3000000) (by omega) (by omega)
        have e0 : U.sub .i64 0 M = -M := by rw [U.sub64 (by unfold I64; omega)]; omega
        rw [e0, U.mul64 (by unfold I64; omega), U.add64 (by unfold I64; omega)]
        obtain ⟨q1, q2, q3, q4⟩ := nrm_like (f := a + M * absI c) (s := absI c) (C := -M) (c := c) p1
        rw [q1, q2, q3, q4]
        simp only [xtE, xtLow, xtHigh, xtStr, h, ne_eq, not_true_eq_false, if_false, if_neg n1, if_neg n2, eC, eF, and_self, and_true]
        refine ⟨fun _ _ => ⟨by unfold I64; omega, by unfold I64; omega, by unfold I64; omega, by unfold I64; omega⟩, fun g => ?_⟩
        obtain ⟨l1, l2⟩ := like_bnd (f := a + M * absI c) (s := absI c) (C := -M) (c := c) (by omega)
        exact ⟨by unfold I64; omega, by unfold I64; omega, by unfold I64; omega⟩
    · obtain ⟨f1, f2, f3⟩ := empty_of (c := c) hab
      rw [f1, f2, f3]
      refine ⟨fun g => absurd g (by omega), fun _ => ⟨fun g => absurd g (by omega), ?_⟩, fun g => absurd rfl g⟩
      have n1 : a > b := by omega
      simp [nLow, nHigh, nStr, nErr, xtE, xtLow, xtHigh, xtStr, h, n1]
  · exact h.elim

set_option maxRecDepth 100000 in
theorem t_rExterior (a b c n : Int) : conB Go.Proofs.Try.prog (conOf k8) noLoops 10 207 [.agg [.lit (.int .i64 a), .lit (.int .i64 b), .lit (.int .i64 c)], .lit (.int .i64 n)] =
    T.ask (I64 a ∧ I64 b ∧ I64 c) (.br (U.ne (lk chk a b c) (0 : Int)) (.ret (.tup [.agg [.lit (.int .i64 0), .lit (.int .i64 0), .lit (.int .i64 0)], .lit (.int .i64 (lk chk a b c))]))
      (.br (lk isE a b c) (.ret (.tup [.agg [.lit (.int .i64 1), .lit (.int .i64 0), .lit (.int .i64 1)], .lit (.int .i64 0)])) (.br (U.eq n (0 : Int)) (.ret (.tup [.agg [.lit (.int .i64
      1), .lit (.int .i64 0), .lit (.int .i64 1)], .lit (.int .i64 0)])) (.br (U.gt n (2000000 : Int)) (.ret (.tup [.agg [.lit (.int .i64 0), .lit (.int .i64 0), .lit (.int .i64 0)], .lit
      (.int .i64 4)])) (.br (U.lt n (-2000000 : Int)) (.ret (.tup [.agg [.lit (.int .i64 0), .lit (.int .i64 0), .lit (.int .i64 0)], .lit (.int .i64 4)])) (.br (U.gt n (0 : Int)) (.ask
      (I64 (-c)) (.ask (I64 (-c)) (.ask (I64 (-c)) (.br (U.le (U.add .i64 b (lk absI c)) (U.add .i64 b (U.mul .i64 n (lk absI c)))) (.br (U.not (lk lim (U.add .i64 b (lk absI c)))) (.ret
      (.tup [.agg [.lit (.int .i64 0), .lit (.int .i64 0), .lit (.int .i64 0)], .lit (.int .i64 4)])) (.br (U.not (lk lim (U.add .i64 b (U.mul .i64 n (lk absI c))))) (.ret (.tup [.agg
      [.lit (.int .i64 0), .lit (.int .i64 0), .lit (.int .i64 0)], .lit (.int .i64 4)])) (.ask (U.add .i64 b (lk absI c) < U.add .i64 b (U.mul .i64 n (lk absI c)) → U.lt c (0 : Int) =
      true → I64 (-lk absI c)) (.ret (.tup [.agg [.lit (.int .i64 (lk rnL (U.add .i64 b (lk absI c)) (U.add .i64 b (U.mul .i64 n (lk absI c))) (lk absI c) (U.lt c (0 : Int)))), .lit (.int
      .i64 (lk rnH (U.add .i64 b (lk absI c)) (U.add .i64 b (U.mul .i64 n (lk absI c))) (lk absI c) (U.lt c (0 : Int)))), .lit (.int .i64 (lk rnS (U.add .i64 b (lk absI c)) (U.add .i64 b
      (U.mul .i64 n (lk absI c))) (lk absI c) (U.lt c (0 : Int))))], .lit (.int .i64 0)]))))) (.ask (U.add .i64 b (lk absI c) < U.add .i64 b (U.mul .i64 n (lk absI c)) → U.lt c (0 : Int)
      = true → I64 (-lk absI c)) (.ret (.tup [.agg [.lit (.int .i64 (lk rnL (U.add .i64 b (lk absI c)) (U.add .i64 b (U.mul .i64 n (lk absI c))) (lk absI c) (U.lt c (0 : Int)))), .lit
      (.int .i64 (lk rnH (U.add .i64 b (lk absI c)) (U.add .i64 b (U.mul .i64 n (lk absI c))) (lk absI c) (U.lt c (0 : Int)))), .lit (.int .i64 (lk rnS (U.add .i64 b (lk absI c)) (U.add
      .i64 b (U.mul .i64 n (lk absI c))) (lk absI c) (U.lt c (0 : Int))))], .lit (.int .i64 0)]))))))) (.ask (I64 (-c)) (.ask (I64 (-c)) (.ask (I64 (-c)) (.br (U.le (U.add .i64 a (U.mul
      .i64 n (lk absI c))) (U.sub .i64 a (lk absI c))) (.br (U.not (lk lim (U.add .i64 a (U.mul .i64 n (lk absI c))))) (.ret (.tup [.agg [.lit (.int .i64 0), .lit (.int .i64 0), .lit
      (.int .i64 0)], .lit (.int .i64 4)])) (.br (U.not (lk lim (U.sub .i64 a (lk absI c)))) (.ret (.tup [.agg [.lit (.int .i64 0), .lit (.int .i64 0), .lit (.int .i64 0)], .lit (.int
      .i64 4)])) (.ask (U.add .i64 a (U.mul .i64 n (lk absI c)) < U.sub .i64 a (lk absI c) → U.lt c (0 : Int) = true → I64 (-lk absI c)) (.ret (.tup [.agg [.lit (.int .i64 (lk rnL (U.add
      .i64 a (U.mul .i64 n (lk absI c))) (U.sub .i64 a (lk absI c)) (lk absI c) (U.lt c (0 : Int)))), .lit (.int .i64 (lk rnH (U.add .i64 a (U.mul .i64 n (lk absI c))) (U.sub .i64 a (lk
      absI c)) (lk absI c) (U.lt c (0 : Int)))), .lit (.int .i64 (lk rnS (U.add .i64 a (U.mul .i64 n (lk absI c))) (U.sub .i64 a (lk absI c)) (lk absI c) (U.lt c (0 : Int))))], .lit (.int
      .i64 0)]))))) (.ask (U.add .i64 a (U.mul .i64 n (lk absI c)) < U.sub .i64 a (lk absI c) → U.lt c (0 : Int) = true → I64 (-lk absI c)) (.ret (.tup [.agg [.lit (.int .i64 (lk rnL
      (U.add .i64 a (U.mul .i64 n (lk absI c))) (U.sub .i64 a (lk absI c)) (lk absI c) (U.lt c (0 : Int)))), .lit (.int .i64 (lk rnH (U.add .i64 a (U.mul .i64 n (lk absI c))) (U.sub .i64
      a (lk absI c)) (lk absI c) (U.lt c (0 : Int)))), .lit (.int .i64 (lk rnS (U.add .i64 a (U.mul .i64 n (lk absI c))) (U.sub .i64 a (lk absI c)) (lk absI c) (U.lt c (0 : Int))))], .lit
      (.int .i64 0)]))))))))))))) := by kernel_rfl
set_option maxHeartbeats 1000000 in
theorem rExterior_ok : ConOK P 207 c_Exterior := con_of (allOK mixed k8_ok) 10 207 fun args r h => by
  unfold c_Exterior at h
  split at h
  · rename_i a b c n
    have hp := (T.is_ask h).1
    have h := (T.is_ask h).2
    obtain rfl := T.is_ret h
    rw [t_rExterior]
    simp only [T.All, U.le_t, U.le_f, U.lt_t, U.lt_f, U.gt_t, U.gt_f, U.ge_t, U.ge_f, U.eq_t, U.eq_f, U.ne_t, U.ne_f, U.not_t, U.not_f, U.andb_t, U.andb_f, SV.lit.injEq, SV.agg.injEq, SV.tup.injEq, List.cons.injEq, Value.int.injEq, Value.bool.injEq, true_and, and_true, lk_eq, lim_t, lim_f, isE_t, isE_f]
    have hp3 : I64 a ∧ I64 b ∧ I64 c := ⟨hp.1, hp.2.1, hp.2.2.1⟩
    refine ⟨hp3, fun h => ?_, fun h => ⟨fun he => ?_, fun he => ?_⟩⟩
    · simp [xtE, xtLow, xtHigh, xtStr, h]
    · obtain ⟨rfl, rfl, rfl⟩ := he
      simp [xtE, xtLow, xtHigh, xtStr, h]
    have hr := chk_zero.1 h
    have hl := hr.1
    have hab := right_le hr he
    obtain ⟨p1, p2, p3, p4, p5, p6, p7, p8, p9, p10⟩ := parts hr hab
    have n1 : ¬ a > b := by omega
    have hc5 : I64 (-c) := by unfold I64; omega
    refine ⟨fun h0 => ?_, fun h0 => ⟨fun g => ?_, fun g => ⟨fun g2 => ?_, fun g2 => ⟨fun g3 => ⟨hc5, hc5, hc5, ?_⟩, fun g3 => ⟨hc5, hc5, hc5, ?_⟩⟩⟩⟩⟩
    · have hk : chk a b c = 0 := h
      subst h0
      simp [xtE, xtLow, xtHigh, xtStr, hk, n1, xtC, mvE, mvLow, mvHigh, mvStr]
    · simp [xtE, xtLow, xtHigh, xtStr, h, n1, g]
    all_goals
      have n2 : ¬ n > 2000000 := by omega
    · have n3 : ¬ n ≥ 0 := by omega
      obtain ⟨M, hM⟩ : ∃ M, M = max n (-3000000) := ⟨_, rfl⟩
      have mm := mulle (s := absI c) (x := M) (y := -2000001) p1 (by omega)
      rw [Int.mul_comm (absI c) M] at mm
      have eC : xtC n = -M := by unfold xtC; rw [if_neg n3, hM]
      have eF : xtF a b c n = a + M * absI c := by unfold xtF; rw [if_neg n3, hM]
      have e : mvE (a + M * absI c) (absI c) (-M) = 4 := by
        unfold mvE; rw [if_neg (by omega), if_neg (by omega)]
      simp only [xtE, xtLow, xtHigh, xtStr, h, ne_eq, not_true_eq_false, if_false, if_neg n1, if_neg n2, mvLow, mvHigh, mvStr, eC, eF, e, if_neg (show ¬ -M ≤ 0 by omega)]
      simp
    · have eF : xtF a b c n = b + absI c := by unfold xtF; rw [if_pos (by omega)]
      have eC : xtC n = n := by unfold xtC; rw [if_pos (by omega)]
      have mb := mul_bnd (x := n) (y := absI c) (X := 2000001) (Y := 2000000) (by omega) (by omega)
      rw [U.add64 (a := b) (b := absI c) (by unfold I64; omega), U.mul64 (by unfold I64; omega), U.add64 (by unfold I64; omega)]
      simp only [xtE, xtLow, xtHigh, xtStr, h, ne_eq, not_true_eq_false, if_false, if_neg n1, if_neg n2, eC, eF]
      exact lim_tail p1 p2 (by omega) (by rw [Int.mul_sub, Int.mul_comm n (absI c)]; omega)
    · have n3 : ¬ n ≥ 0 := by omega
      have em : max n (-3000000) = n := by omega
      have eF : xtF a b c n = a + n * absI c := by unfold xtF; rw [if_neg n3, em]
      have eC : xtC n = -n := by unfold xtC; rw [if_neg n3, em]
      have mb := mul_bnd (x := n) (y := absI c) (X := 2000001) (Y := 2000000) (by omega) (by omega)
      rw [U.sub64 (a := a) (b := absI c) (by unfold I64; omega), U.mul64 (by unfold I64; omega), U.add64 (by unfold I64; omega)]
      simp only [xtE, xtLow, xtHigh, xtStr, h, ne_eq, not_true_eq_false, if_false, if_neg n1, if_neg n2, eC, eF]
      exact lim_tail p1 p2 (by omega) (by rw [Int.mul_sub, Int.mul_neg, Int.mul_comm n (absI c)]; omega)
  · exact h.elim
end Go.RX.Span

/- Ranges: Interior of the program and of the reference. -/
set_option linter.unusedVariables false
set_option linter.unusedSimpArgs false
set_option maxRecDepth 100000
namespace Go.RX.Span
open Go Go.RX

def inF (a b c n : Int) : Int := if n ≥ 0 then a + absI c * (ofC a b c - n) else a
def inE (a b c n : Int) : Int := if chk a b c ≠ 0 then chk a b c else if n > ofC a b c ∨ n < -ofC a b c then 5 else if n = 0 then 0 else mvE (inF a b c n) (absI c) (absI n)
def inLow (a b c n : Int) : Int := if chk a b c ≠ 0 then 0 else if n > ofC a b c ∨ n < -ofC a b c then 0 else if n = 0 then 1 else mvLow (inF a b c n) (absI c) (absI n)
def inHigh (a b c n : Int) : Int := if chk a b c ≠ 0 then 0 else if n > ofC a b c ∨ n < -ofC a b c then 0 else if n = 0 then 0 else mvHigh (inF a b c n) (absI c) (absI n)
def inStr (a b c n : Int) : Int := if chk a b c ≠ 0 then 0 else if n > ofC a b c ∨ n < -ofC a b c then 0 else if n = 0 then 1 else mvStr (inF a b c n) (absI c) (absI n) c
noncomputable def c_Interior : Con := fun args => match args with
  | [.agg [.lit (.int .i64 a), .lit (.int .i64 b), .lit (.int .i64 c)], .lit (.int .i64 n)] =>
    .ask (I64 a ∧ I64 b ∧ I64 c ∧ I64 n) (.ret (.tup [.agg [.lit (.int .i64 (lk inLow a b c n)), .lit (.int .i64 (lk inHigh a b c n)), .lit (.int .i64 (lk inStr a b c n))], .lit (.int .i64 (lk inE a b c n))]))
  | _ => .stuck 1
set_option maxRecDepth 100000 in
theorem t_Interior (a b c n : Int) : conB Go.Proofs.Try.prog (conOf k8) noLoops 10 36 [.agg [.lit (.int .i64 a), .lit (.int .i64 b), .lit (.int .i64 c)], .lit (.int .i64 n)] =
    T.ask (I64 a ∧ I64 b ∧ I64 c) (.br (U.ne (lk chk a b c) (0 : Int)) (.ret (.tup [.agg [.lit (.int .i64 0), .lit (.int .i64 0), .lit (.int .i64 0)], .lit (.int .i64 (lk chk a b c))]))
      (.ask (a ≤ b → c ≠ (0 : Int) ∧ (-9223372036854775807 : Int) ≤ c ∧ b - a < (9223372036854775807 : Int) ∧ I64 a ∧ I64 b ∧ I64 c) (.ask (lk ofB a b c < (0 : Int) → lk ofC a b c ≠ (0 :
      Int) → I64 (lk ofC a b c - (1 : Int)) ∧ I64 (lk ofB a b c * (lk ofC a b c - (1 : Int))) ∧ I64 (lk ofF a b c + lk ofB a b c * (lk ofC a b c - (1 : Int))) ∧ I64 (-lk ofB a b c)) (.br
      (U.gt n (lk ofC a b c)) (.ret (.tup [.agg [.lit (.int .i64 0), .lit (.int .i64 0), .lit (.int .i64 0)], .lit (.int .i64 5)])) (.br (U.lt n (U.sub .i64 0 (lk ofC a b c))) (.ret (.tup
      [.agg [.lit (.int .i64 0), .lit (.int .i64 0), .lit (.int .i64 0)], .lit (.int .i64 5)])) (.br (U.ge n (0 : Int)) (.ask (c < (0 : Int) → U.mm true n (U.sub .i64 0 n) ≠ (0 : Int) →
      I64 (U.mm true n (U.sub .i64 0 n) - (1 : Int)) ∧ I64 (lk uB (lk ofF a b c) (lk ofB a b c) (lk ofC a b c) * (U.mm true n (U.sub .i64 0 n) - (1 : Int))) ∧ I64 (U.add .i64 (lk uF (lk
      ofF a b c) (lk ofB a b c) (lk ofC a b c)) (U.mul .i64 (lk uB (lk ofF a b c) (lk ofB a b c) (lk ofC a b c)) (U.sub .i64 (lk ofC a b c) n)) + lk uB (lk ofF a b c) (lk ofB a b c) (lk
      ofC a b c) * (U.mm true n (U.sub .i64 0 n) - (1 : Int))) ∧ I64 (-lk uB (lk ofF a b c) (lk ofB a b c) (lk ofC a b c))) (.ask ((0 : Int) < U.mm true n (U.sub .i64 0 n) → I64 (U.mm
      true n (U.sub .i64 0 n) - (1 : Int)) ∧ I64 (lk kB (U.add .i64 (lk uF (lk ofF a b c) (lk ofB a b c) (lk ofC a b c)) (U.mul .i64 (lk uB (lk ofF a b c) (lk ofB a b c) (lk ofC a b c))
      (U.sub .i64 (lk ofC a b c) n))) (lk uB (lk ofF a b c) (lk ofB a b c) (lk ofC a b c)) (U.mm true n (U.sub .i64 0 n)) c * (U.mm true n (U.sub .i64 0 n) - (1 : Int))) ∧ I64 (lk kF
      (U.add .i64 (lk uF (lk ofF a b c) (lk ofB a b c) (lk ofC a b c)) (U.mul .i64 (lk uB (lk ofF a b c) (lk ofB a b c) (lk ofC a b c)) (U.sub .i64 (lk ofC a b c) n))) (lk uB (lk ofF a b
      c) (lk ofB a b c) (lk ofC a b c)) (U.mm true n (U.sub .i64 0 n)) c + lk kB (U.add .i64 (lk uF (lk ofF a b c) (lk ofB a b c) (lk ofC a b c)) (U.mul .i64 (lk uB (lk ofF a b c) (lk ofB
      a b c) (lk ofC a b c)) (U.sub .i64 (lk ofC a b c) n))) (lk uB (lk ofF a b c) (lk ofB a b c) (lk ofC a b c)) (U.mm true n (U.sub .i64 0 n)) c * (U.mm true n (U.sub .i64 0 n) - (1 :
      Int)))) (.ret (.tup [.agg [.lit (.int .i64 (lk nLow (lk kF (U.add .i64 (lk uF (lk ofF a b c) (lk ofB a b c) (lk ofC a b c)) (U.mul .i64 (lk uB (lk ofF a b c) (lk ofB a b c) (lk ofC
      a b c)) (U.sub .i64 (lk ofC a b c) n))) (lk uB (lk ofF a b c) (lk ofB a b c) (lk ofC a b c)) (U.mm true n (U.sub .i64 0 n)) c) (lk kB (U.add .i64 (lk uF (lk ofF a b c) (lk ofB a b
      c) (lk ofC a b c)) (U.mul .i64 (lk uB (lk ofF a b c) (lk ofB a b c) (lk ofC a b c)) (U.sub .i64 (lk ofC a b c) n))) (lk uB (lk ofF a b c) (lk ofB a b c) (lk ofC a b c)) (U.mm true n
      (U.sub .i64 0 n)) c) (U.mm true n (U.sub .i64 0 n)))), .lit (.int .i64 (lk nHigh (lk kF (U.add .i64 (lk uF (lk ofF a b c) (lk ofB a b c) (lk ofC a b c)) (U.mul .i64 (lk uB (lk ofF a
      b c) (lk ofB a b c) (lk ofC a b c)) (U.sub .i64 (lk ofC a b c) n))) (lk uB (lk ofF a b c) (lk ofB a b c) (lk ofC a b c)) (U.mm true n (U.sub .i64 0 n)) c) (lk kB (U.add .i64 (lk uF
      (lk ofF a b c) (lk ofB a b c) (lk ofC a b c)) (U.mul .i64 (lk uB (lk ofF a b c) (lk ofB a b c) (lk ofC a b c)) (U.sub .i64 (lk ofC a b c) n))) (lk uB (lk ofF a b c) (lk ofB a b c)
      (lk ofC a b c)) (U.mm true n (U.sub .i64 0 n)) c) (U.mm true n (U.sub .i64 0 n)))), .lit (.int .i64 (lk nStr (lk kF (U.add .i64 (lk uF (lk ofF a b c) (lk ofB a b c) (lk ofC a b c))
      (U.mul .i64 (lk uB (lk ofF a b c) (lk ofB a b c) (lk ofC a b c)) (U.sub .i64 (lk ofC a b c) n))) (lk uB (lk ofF a b c) (lk ofB a b c) (lk ofC a b c)) (U.mm true n (U.sub .i64 0 n))
      c) (lk kB (U.add .i64 (lk uF (lk ofF a b c) (lk ofB a b c) (lk ofC a b c)) (U.mul .i64 (lk uB (lk ofF a b c) (lk ofB a b c) (lk ofC a b c)) (U.sub .i64 (lk ofC a b c) n))) (lk uB
      (lk ofF a b c) (lk ofB a b c) (lk ofC a b c)) (U.mm true n (U.sub .i64 0 n)) c) (U.mm true n (U.sub .i64 0 n))))], .lit (.int .i64 (lk nErr (lk kF (U.add .i64 (lk uF (lk ofF a b c)
      (lk ofB a b c) (lk ofC a b c)) (U.mul .i64 (lk uB (lk ofF a b c) (lk ofB a b c) (lk ofC a b c)) (U.sub .i64 (lk ofC a b c) n))) (lk uB (lk ofF a b c) (lk ofB a b c) (lk ofC a b c))
      (U.mm true n (U.sub .i64 0 n)) c) (lk kB (U.add .i64 (lk uF (lk ofF a b c) (lk ofB a b c) (lk ofC a b c)) (U.mul .i64 (lk uB (lk ofF a b c) (lk ofB a b c) (lk ofC a b c)) (U.sub
      .i64 (lk ofC a b c) n))) (lk uB (lk ofF a b c) (lk ofB a b c) (lk ofC a b c)) (U.mm true n (U.sub .i64 0 n)) c) (U.mm true n (U.sub .i64 0 n))))])))) (.ask (c < (0 : Int) → U.mm
      true n (U.sub .i64 0 n) ≠ (0 : Int) → I64 (U.mm true n (U.sub .i64 0 n) - (1 : Int)) ∧ I64 (lk uB (lk ofF a b c) (lk ofB a b c) (lk ofC a b c) * (U.mm true n (U.sub .i64 0 n) - (1 :
      Int))) ∧ I64 (lk uF (lk ofF a b c) (lk ofB a b c) (lk ofC a b c) + lk uB (lk ofF a b c) (lk ofB a b c) (lk ofC a b c) * (U.mm true n (U.sub .i64 0 n) - (1 : Int))) ∧ I64 (-lk uB (lk
      ofF a b c) (lk ofB a b c) (lk ofC a b c))) (.ask ((0 : Int) < U.mm true n (U.sub .i64 0 n) → I64 (U.mm true n (U.sub .i64 0 n) - (1 : Int)) ∧ I64 (lk kB (lk uF (lk ofF a b c) (lk
      ofB a b c) (lk ofC a b c)) (lk uB (lk ofF a b c) (lk ofB a b c) (lk ofC a b c)) (U.mm true n (U.sub .i64 0 n)) c * (U.mm true n (U.sub .i64 0 n) - (1 : Int))) ∧ I64 (lk kF (lk uF
      (lk ofF a b c) (lk ofB a b c) (lk ofC a b c)) (lk uB (lk ofF a b c) (lk ofB a b c) (lk ofC a b c)) (U.mm true n (U.sub .i64 0 n)) c + lk kB (lk uF (lk ofF a b c) (lk ofB a b c) (lk
      ofC a b c)) (lk uB (lk ofF a b c) (lk ofB a b c) (lk ofC a b c)) (U.mm true n (U.sub .i64 0 n)) c * (U.mm true n (U.sub .i64 0 n) - (1 : Int)))) (.ret (.tup [.agg [.lit (.int .i64
      (lk nLow (lk kF (lk uF (lk ofF a b c) (lk ofB a b c) (lk ofC a b c)) (lk uB (lk ofF a b c) (lk ofB a b c) (lk ofC a b c)) (U.mm true n (U.sub .i64 0 n)) c) (lk kB (lk uF (lk ofF a b
      c) (lk ofB a b c) (lk ofC a b c)) (lk uB (lk ofF a b c) (lk ofB a b c) (lk ofC a b c)) (U.mm true n (U.sub .i64 0 n)) c) (U.mm true n (U.sub .i64 0 n)))), .lit (.int .i64 (lk nHigh
      (lk kF (lk uF (lk ofF a b c) (lk ofB a b c) (lk ofC a b c)) (lk uB (lk ofF a b c) (lk ofB a b c) (lk ofC a b c)) (U.mm true n (U.sub .i64 0 n)) c) (lk kB (lk uF (lk ofF a b c) (lk
      ofB a b c) (lk ofC a b c)) (lk uB (lk ofF a b c) (lk ofB a b c) (lk ofC a b c)) (U.mm true n (U.sub .i64 0 n)) c) (U.mm true n (U.sub .i64 0 n)))), .lit (.int .i64 (lk nStr (lk kF
      (lk uF (lk ofF a b c) (lk ofB a b c) (lk ofC a b c)) (lk uB (lk ofF a b c) (lk ofB a b c) (lk ofC a b c)) (U.mm true n (U.sub .i64 0 n)) c) (lk kB (lk uF (lk ofF a b c) (lk ofB a b
      c) (lk ofC a b c)) (lk uB (lk ofF a b c) (lk ofB a b c) (lk ofC a b c)) (U.mm true n (U.sub .i64 0 n)) c) (U.mm true n (U.sub .i64 0 n))))], .lit (.int .i64 (lk nErr (lk kF (lk uF
      (lk ofF a b c) (lk ofB a b c) (lk ofC a b c)) (lk uB (lk ofF a b c) (lk ofB a b c) (lk ofC a b c)) (U.mm true n (U.sub .i64 0 n)) c) (lk kB (lk uF (lk ofF a b c) (lk ofB a b c) (lk
      ofC a b c)) (lk uB (lk ofF a b c) (lk ofB a b c) (lk ofC a b c)) (U.mm true n (U.sub .i64 0 n)) c) (U.mm true n (U.sub .i64 0 n))))])))))))))) := by kernel_rfl
set_option maxHeartbeats 1000000 in
theorem Interior_ok : ConOK P 36 c_Interior := con_of (allOK mixed k8_ok) 10 36 fun args r h => by
  unfold c_Interior at h
  split at h
  · rename_i a b c n
    have hp := (T.is_ask h).1
    have h := (T.is_ask h).2
    obtain rfl := T.is_ret h
    rw [t_Interior]
    simp only [T.All, U.le_t, U.le_f, U.lt_t, U.lt_f, U.gt_t, U.gt_f, U.ge_t, U.ge_f, U.eq_t, U.eq_f, U.ne_t, U.ne_f, U.not_t, U.not_f, U.andb_t, U.andb_f, SV.lit.injEq, SV.agg.injEq, SV.tup.injEq, List.cons.injEq, Value.int.injEq, Value.bool.injEq, true_and, and_true, lk_eq, lim_t, lim_f, mm_min, mm_max]
    refine ⟨⟨hp.1, hp.2.1, hp.2.2.1⟩, fun h => ?_, fun h => ⟨of_ask (chk_zero.1 h) hp.1 hp.2.1 hp.2.2.1, ?_⟩⟩
    · simp [inE, inLow, inHigh, inStr, h]
    have hr := chk_zero.1 h
    have hl := hr.1
    have hcb := ofC_bnd hr
    have e0 : U.sub .i64 0 (ofC a b c) = -ofC a b c := by rw [U.sub64 (by unfold I64; omega)]; omega
    rw [e0]
    refine ⟨fun g1 g2 => ?_, fun g => ?_, fun g => ⟨fun g2 => ?_, fun g2 => ?_⟩⟩
    · have hab : a ≤ b := Decidable.byContradiction fun h' => by have := empty_of (c := c) h'; omega
      obtain ⟨s1, s2, s3, s4, s5⟩ := series_of hr hab
      have sl := s5 (ofC a b c - 1) (by omega) (by omega)
      exact ⟨by unfold I64; omega, by unfold I64; omega, by unfold I64; omega, by unfold I64; omega⟩
    · have : n > ofC a b c ∨ n < -ofC a b c := by omega
      simp [inE, inLow, inHigh, inStr, h, this]
    · have : n > ofC a b c ∨ n < -ofC a b c := by omega
      simp [inE, inLow, inHigh, inStr, h, this]
    · have hin : ¬ (n > ofC a b c ∨ n < -ofC a b c) := by omega
      have en : U.sub .i64 0 n = -n := by rw [U.sub64 (by unfold I64; omega)]; omega
      rw [en]
      by_cases hn0 : n = 0
      · subst hn0
        have em : max (0 : Int) (-0) = 0 := by omega
        rw [em]
        refine ⟨fun _ => ⟨fun _ g => absurd rfl g, fun g => by omega, ?_⟩, fun g => by omega⟩
        have hk : chk a b c = 0 := chk_zero.2 hr
        simp [inE, inLow, inHigh, inStr, hk, hin, nLow, nHigh, nStr, nErr]
        omega
      have hab : a ≤ b := Decidable.byContradiction fun h' => by have := empty_of (c := c) h'; omega
      obtain ⟨p1, p2, p3, p4, p5, p6, p7, p8, p9, p10⟩ := parts hr hab
      obtain ⟨u1, u2⟩ := up_of hr hab
      rw [u1, u2]
      have m2 := mulle (x := 0) (y := absI n - 1) p1 (by unfold absI; split <;> omega)
      have m3 := mulle (x := absI n - 1) (y := ofC a b c - 1) p1 (by unfold absI; split <;> omega)
      rw [Int.mul_zero] at m2
      have fin : ∀ f : Int, (a ≤ f ∧ f + absI c * (absI n - 1) ≤ b) → inF a b c n = f → max n (-n) = absI n →
          (c < 0 → max n (-n) ≠ 0 → I64 (max n (-n) - 1) ∧ I64 (absI c * (max n (-n) - 1)) ∧ I64 (f + absI c * (max n (-n) - 1)) ∧ I64 (-absI c)) ∧
          (0 < max n (-n) → I64 (max n (-n) - 1) ∧ I64 (kB f (absI c) (max n (-n)) c * (max n (-n) - 1)) ∧ I64 (kF f (absI c) (max n (-n)) c + kB f (absI c) (max n (-n)) c * (max n (-n) - 1))) ∧
          (nLow (kF f (absI c) (max n (-n)) c) (kB f (absI c) (max n (-n)) c) (max n (-n)) = inLow a b c n ∧ nHigh (kF f (absI c) (max n (-n)) c) (kB f (absI c) (max n (-n)) c) (max n (-n)) = inHigh a b c n ∧
            nStr (kF f (absI c) (max n (-n)) c) (kB f (absI c) (max n (-n)) c) (max n (-n)) = inStr a b c n) ∧ nErr (kF f (absI c) (max n (-n)) c) (kB f (absI c) (max n (-n)) c) (max n (-n)) = inE a b c n := fun f hf eF em => by
        rw [em]
        obtain ⟨q1, q2, q3, q4⟩ := nrm_like (f := f) (s := absI c) (C := absI n) (c := c) p1
        have hb : absI n ≤ 2000001 ∧ 0 < absI n := by unfold absI; split <;> omega
        obtain ⟨l1, l2⟩ := like_bnd (f := f) (s := absI c) (C := absI n) (c := c) (by omega)
        rw [q1, q2, q3, q4]
        simp only [inE, inLow, inHigh, inStr, h, ne_eq, not_true_eq_false, if_false, if_neg hin, if_neg hn0, eF, and_self, and_true]
        exact ⟨fun _ _ => ⟨by unfold I64; omega, by unfold I64; omega, by unfold I64; omega, by unfold I64; omega⟩, fun _ => ⟨by unfold I64; omega, by unfold I64; omega, by unfold I64; omega⟩⟩
      refine ⟨fun g => ?_, fun g => ?_⟩
      · have ea : absI n = n := absI_pos (by omega)
        have m4 : absI c * (ofC a b c - 1) = absI c * (ofC a b c - n) + absI c * (absI n - 1) := by rw [ea, ← Int.mul_add]; congr 1; omega
        have m5 := mulle (x := 0) (y := ofC a b c - n) p1 (by omega)
        rw [Int.mul_zero] at m5
        rw [U.sub64 (a := ofC a b c) (b := n) (by unfold I64; omega), U.mul64 (by unfold I64; omega), U.add64 (by unfold I64; omega)]
        exact fin _ (by omega) (by unfold inF; rw [if_pos g]) (by omega)
      · have ea : absI n = -n := absI_neg (by omega)
        exact fin _ (by omega) (by unfold inF; rw [if_neg (by omega)]) (by omega)
  · exact h.elim
set_option maxRecDepth 100000 in
theorem t_rInterior (a b c n : Int) : conB Go.Proofs.Try.prog (conOf k8) noLoops 10 206 [.agg [.lit (.int .i64 a), .lit (.int .i64 b), .lit (.int .i64 c)], .lit (.int .i64 n)] =
    T.ask (I64 a ∧ I64 b ∧ I64 c) (.br (U.ne (lk chk a b c) (0 : Int)) (.ret (.tup [.agg [.lit (.int .i64 0), .lit (.int .i64 0), .lit (.int .i64 0)], .lit (.int .i64 (lk chk a b c))]))
      (.ask (I64 a ∧ I64 b ∧ I64 c) (.br (U.gt n (lk size a b c)) (.ret (.tup [.agg [.lit (.int .i64 0), .lit (.int .i64 0), .lit (.int .i64 0)], .lit (.int .i64 5)])) (.br (U.lt n (U.sub
      .i64 0 (lk size a b c))) (.ret (.tup [.agg [.lit (.int .i64 0), .lit (.int .i64 0), .lit (.int .i64 0)], .lit (.int .i64 5)])) (.br (U.gt n (0 : Int)) (.ask (I64 (-c)) (.ask (I64
      (-c)) (.ask (U.sub .i64 b (U.mul .i64 (U.sub .i64 n (1 : Int)) (lk absI c)) < b → U.lt c (0 : Int) = true → I64 (-lk absI c)) (.ret (.tup [.agg [.lit (.int .i64 (lk rnL (U.sub .i64
      b (U.mul .i64 (U.sub .i64 n (1 : Int)) (lk absI c))) b (lk absI c) (U.lt c (0 : Int)))), .lit (.int .i64 (lk rnH (U.sub .i64 b (U.mul .i64 (U.sub .i64 n (1 : Int)) (lk absI c))) b
      (lk absI c) (U.lt c (0 : Int)))), .lit (.int .i64 (lk rnS (U.sub .i64 b (U.mul .i64 (U.sub .i64 n (1 : Int)) (lk absI c))) b (lk absI c) (U.lt c (0 : Int))))], .lit (.int .i64
      0)]))))) (.br (U.lt n (0 : Int)) (.ask (I64 (-c)) (.ask (I64 (-c)) (.ask (a < U.add .i64 a (U.mul .i64 (U.sub .i64 (U.sub .i64 0 n) (1 : Int)) (lk absI c)) → U.lt c (0 : Int) = true
      → I64 (-lk absI c)) (.ret (.tup [.agg [.lit (.int .i64 (lk rnL a (U.add .i64 a (U.mul .i64 (U.sub .i64 (U.sub .i64 0 n) (1 : Int)) (lk absI c))) (lk absI c) (U.lt c (0 : Int)))),
      .lit (.int .i64 (lk rnH a (U.add .i64 a (U.mul .i64 (U.sub .i64 (U.sub .i64 0 n) (1 : Int)) (lk absI c))) (lk absI c) (U.lt c (0 : Int)))), .lit (.int .i64 (lk rnS a (U.add .i64 a
      (U.mul .i64 (U.sub .i64 (U.sub .i64 0 n) (1 : Int)) (lk absI c))) (lk absI c) (U.lt c (0 : Int))))], .lit (.int .i64 0)]))))) (.ret (.tup [.agg [.lit (.int .i64 1), .lit (.int .i64
      0), .lit (.int .i64 1)], .lit (.int .i64 0)])))))))) := by kernel_rfl
set_option maxHeartbeats 1000000 in
theorem rInterior_ok : ConOK P 206 c_Interior := con_of (allOK mixed k8_ok) 10 206 fun args r h => by
  unfold c_Interior at h
  split at h
  · rename_i a b c n
    have hp := (T.is_ask h).1
    have h := (T.is_ask h).2
    obtain rfl := T.is_ret h
    rw [t_rInterior]
    simp only [T.All, U.le_t, U.le_f, U.lt_t, U.lt_f, U.gt_t, U.gt_f, U.ge_t, U.ge_f, U.eq_t, U.eq_f, U.ne_t, U.ne_f, U.not_t, U.not_f, U.andb_t, U.andb_f, SV.lit.injEq, SV.agg.injEq, SV.tup.injEq, List.cons.injEq, Value.int.injEq, Value.bool.injEq, true_and, and_true, lk_eq, lim_t, lim_f]
    have hp3 : I64 a ∧ I64 b ∧ I64 c := ⟨hp.1, hp.2.1, hp.2.2.1⟩
    refine ⟨hp3, fun h => ?_, fun h => ⟨hp3, ?_⟩⟩
    · simp [inE, inLow, inHigh, inStr, h]
    have hr := chk_zero.1 h
    have hl := hr.1
    have hcb := ofC_bnd hr
    have e0 : U.sub .i64 0 (ofC a b c) = -ofC a b c := by rw [U.sub64 (by unfold I64; omega)]; omega
    rw [size_eq' hr, e0]
    refine ⟨fun g => ?_, fun g => ⟨fun g2 => ?_, fun g2 => ?_⟩⟩
    · have : n > ofC a b c ∨ n < -ofC a b c := by omega
      simp [inE, inLow, inHigh, inStr, h, this]
    · have : n > ofC a b c ∨ n < -ofC a b c := by omega
      simp [inE, inLow, inHigh, inStr, h, this]
    have hin : ¬ (n > ofC a b c ∨ n < -ofC a b c) := by omega
    by_cases hn0 : n = 0
    · have hk := h
      subst hn0
      refine ⟨fun g => by omega, fun g => ⟨fun g => by omega, fun g => ?_⟩⟩
      simp [inE, inLow, inHigh, inStr, hk, hin]
      omega
    have hab : a ≤ b := Decidable.byContradiction fun h' => by have := empty_of (c := c) h'; omega
    obtain ⟨p1, p2, p3, p4, p5, p6, p7, p8, p9, p10⟩ := parts hr hab
    have hc5 : I64 (-c) := by unfold I64; omega
    have m2 := mulle (x := 0) (y := absI n - 1) p1 (by unfold absI; split <;> omega)
    have m3 := mulle (x := absI n - 1) (y := ofC a b c - 1) p1 (by unfold absI; split <;> omega)
    rw [Int.mul_zero] at m2
    have n1 : 1 ≤ absI n := by unfold absI; split <;> omega
    have main : ∀ f hi : Int, inF a b c n = f → hi = f + absI c * (absI n - 1) → a ≤ f → hi ≤ b →
        (rnL f hi (absI c) (U.lt c 0) = inLow a b c n ∧ rnH f hi (absI c) (U.lt c 0) = inHigh a b c n ∧ rnS f hi (absI c) (U.lt c 0) = inStr a b c n) ∧ 0 = inE a b c n := fun f hi eF eh b1 b2 => by
      have e : mvE f (absI c) (absI n) = 0 := by unfold mvE; rw [if_neg (by omega), if_pos (by omega)]
      simp only [inE, inLow, inHigh, inStr, h, ne_eq, not_true_eq_false, if_false, if_neg hin, if_neg hn0, eF]
      rw [eh]
      exact ⟨rn_mv p1 n1 e _ (U.lt_eq c 0), e.symm⟩
    refine ⟨fun g => ⟨hc5, hc5, ?_⟩, fun g => ⟨fun g3 => ⟨hc5, hc5, ?_⟩, fun g3 => by omega⟩⟩
    · have ea : absI n = n := absI_pos (by omega)
      have m4 : absI c * (ofC a b c - 1) = absI c * (ofC a b c - n) + absI c * (absI n - 1) := by rw [ea, ← Int.mul_add]; congr 1; omega
      rw [ea] at m2 m3 m4 n1 main
      have ec : (n - 1) * absI c = absI c * (n - 1) := Int.mul_comm _ _
      rw [U.sub64 (a := n) (b := 1) (by unfold I64; omega), U.mul64 (by rw [ec]; unfold I64; omega), ec, U.sub64 (by unfold I64; omega)]
      exact ⟨fun _ _ => by unfold I64; omega, main _ _ (by unfold inF; rw [if_pos (by omega)]; omega) (by omega) (by omega) (by omega)⟩
    · have ea : absI n = -n := absI_neg (by omega)
      rw [ea] at m2 m3 n1 main
      have en : U.sub .i64 0 n = -n := by rw [U.sub64 (by unfold I64; omega)]; omega
      have ec : (-n - 1) * absI c = absI c * (-n - 1) := Int.mul_comm _ _
      rw [en, U.sub64 (a := -n) (b := 1) (by unfold I64; omega), U.mul64 (by rw [ec]; unfold I64; omega), ec, U.add64 (by unfold I64; omega)]
      exact ⟨fun _ _ => by unfold I64; omega, main _ _ (by unfold inF; rw [if_neg (by omega)]) (by omega) (by omega) (by omega)⟩
  · exact h.elim
end Go.RX.Span

/- Ranges: what the law of changes returns. -/
set_option linter.unusedVariables false
set_option linter.unusedSimpArgs false
set_option maxRecDepth 100000
namespace Go.RX.Span
open Go Go.RX

noncomputable abbrev k9 : List (Nat × Con) := (109, c_By) :: (31, c_Translate) :: (204, c_Translate) :: (34, c_Expand) :: (205, c_Expand) :: (36, c_Interior) :: (206, c_Interior) :: (37, c_Exterior) :: (207, c_Exterior) :: k8 --%K
theorem k9_ok : ∀ p ∈ k9, ConOK P p.1 p.2 := by
  intro p hp
  simp only [k9, List.mem_cons] at hp
  rcases hp with rfl | rfl | rfl | rfl | rfl | rfl | rfl | rfl | rfl | hp
  · exact By_ok
  · exact Translate_ok
  · exact rTranslate_ok
  · exact Expand_ok
  · exact rExpand_ok
  · exact Interior_ok
  · exact rInterior_ok
  · exact Exterior_ok
  · exact rExterior_ok
  · exact k8_ok p (by simpa [k8] using hp)

end Go.RX.Span

/- Ranges: the contract of the numbers of a range, and of small ranges. -/
set_option linter.unusedVariables false
set_option linter.unusedSimpArgs false
set_option maxRecDepth 100000
namespace Go.RX.Span
open Go Go.RX Go.RowKit

def numsN (a b c m : Int) : Nat := min (size a b c).toNat (m + 1).toNat
/-- A slice of numbers that a function of its own made. -/
theorem rep_owned {n₀ : Nat} {w : World} {lv : Nat → Prop} (hlv : ∀ x, lv x → x < n₀) {v : Value} {k : Nat} {g : Nat → Int} {q : Nat} (hq : n₀ ≤ q) (hk : k ≤ top) (h : w.ownsRow q 3 1 v k ((List.range k).map fun i => .int .i64 (g i))) (bs : Bs) :
    Rep bs lv w (.row [.int .i64] k fun i => (g i, ())) v := by
  rcases h.2 with ⟨rfl, rfl⟩ | ⟨b, cap, cur, rfl, hb, hc, h1, h2, h3, h4⟩
  · exact ⟨none, 0, rfl, Nat.le_refl _, Nat.zero_le _, fun h => absurd h (Nat.lt_irrefl 0)⟩
  · refine ⟨some ⟨b, 0, none⟩, cap, rfl, h1, hk, fun _ => ⟨b, 0, rfl, (Array.getElem?_eq_some_iff.1 hc).1, fun hx => by have := hlv b hx; omega, fun i hi => ⟨⟨_, ?_, rfl⟩, trivial⟩⟩⟩
    have : cur.toList[i]? = some (.int .i64 (g i)) := by
      have e : (cur.toList.take (k * 1))[i]? = some (.int .i64 (g i)) := by rw [h4]; simp [hi]
      rwa [List.getElem?_take_of_lt (by omega)] at e
    simpa [World.cell?, show w.heap[b]? = _ from hc] using this

noncomputable def c_numbers : Con := fun args => match args with
  | [.agg [.lit (.int .i64 a), .lit (.int .i64 b), .lit (.int .i64 c)], .lit (.int .i64 m)] =>
    .ask (I64 a ∧ I64 b ∧ I64 c ∧ 0 ≤ m ∧ m ≤ 1000000) (.ret (.row [.int .i64] (lk numsN a b c m) (fun k => (lk num a b c k, ()))))
  | _ => .stuck 1
theorem numbers_ok : ConOK P 26 c_numbers := by
  intro args r h lv w vals hlv hr
  unfold c_numbers at h
  split at h
  · rename_i a b c m
    obtain ⟨ha, hb, hc, h0, h1⟩ := (T.is_ask h).1
    obtain rfl := T.is_ret (T.is_ask h).2
    obtain ⟨u, us, rfl, ⟨xs, rfl, u1, l1, rfl, e1, u2, l2, rfl, e2, u3, l3, rfl, e3, e4⟩, u4, l4, rfl, e5, e6⟩ := hr
    subst e4; subst e6
    rw [show u1 = .int .i64 a from e1, show u2 = .int .i64 b from e2, show u3 = .int .i64 c from e3, show u4 = .int .i64 m from e5]
    refine (callsIn_wide.1 (numbers_in 3 (by omega) a b c m ha hb hc h0 h1 w)).mono ?_
    rintro e w' ⟨v, k, q, rfl, hk, hq, hown, hbel⟩
    refine ⟨v, rfl, hbel, ?_⟩
    simp only [lk_eq]
    have e : numsN a b c m = k := by rw [hk]; rfl
    rw [e]
    refine rep_owned hlv hq ?_ (by simpa [nums, Function.comp_def] using hown) _
    have := size_le a b c
    simp only [top]; omega
  · exact h.elim

def smallB (a b c : Int) : Bool := decide (chk a b c = 0 ∧ size a b c ≤ 400)
noncomputable def c_small : Con := fun args => match args with
  | [.agg [.lit (.int .i64 a), .lit (.int .i64 b), .lit (.int .i64 c)]] => .ask (I64 a ∧ I64 b ∧ I64 c) (.ret (.lit (.bool (lk smallB a b c))))
  | _ => .stuck 1
set_option maxRecDepth 100000 in
theorem t_small (a b c : Int) : conB Go.Proofs.Try.prog (conOf k7) noLoops 10 20 [.agg [.lit (.int .i64 a), .lit (.int .i64 b), .lit (.int .i64 c)]] =
    T.ask (I64 a ∧ I64 b ∧ I64 c) (.br (U.eq (lk chk a b c) (0 : Int)) (.ask (I64 a ∧ I64 b ∧ I64 c) (.ret (.lit (.bool (U.le (lk size a b c) (400 : Int)))))) (.ret (.lit (.bool
      false)))) := by kernel_rfl
theorem small_ok : ConOK P 20 c_small := con_of (allOK mixed k7_ok) 10 20 fun args r h => by
  unfold c_small at h
  split at h
  · rename_i a b c
    have hp := (T.is_ask h).1
    have h := (T.is_ask h).2
    obtain rfl := T.is_ret h
    rw [t_small]
    by_cases h1 : chk a b c = 0 <;> by_cases h2 : size a b c ≤ 400 <;> simp [T.All, U.eq_eq, U.le_eq, U.ne_eq, lk_eq, hp, smallB, h1, h2]
  · exact h.elim
end Go.RX.Span

