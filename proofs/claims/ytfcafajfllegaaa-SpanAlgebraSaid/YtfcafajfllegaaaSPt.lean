/- Ranges: the numbers that a range yields. -/
import Derived.RangeFuncNested
import Derived.RangeFuncBound
import Derived.RangeFuncCalls
import Derived.RangeFuncBox
import Derived.RangeFuncLeaves
import Derived.Shelf.Abstract
import Derived.Shelf.RegionOpen
import Derived.WalkKit
import Derived.OwnWalkIn
import Derived.TacticsInMore
import Derived.LoopNIn
import Derived.LoopIn
import Derived.Maps.AppendAt
import Derived.Test.YtfcafajfllegaaaSPk
set_option linter.unusedVariables false
set_option linter.unusedSimpArgs false
namespace Go.RX.Span
open Go Go.RX Go.RowKit Go.Shelf Go.Proofs

attribute [local go_sem] Oper.semAt_some

def num (a b c : Int) (k : Nat) : Int := ofF a b c + ofB a b c * k
def nums (a b c : Int) (k : Nat) : List Int := (List.range k).map (num a b c)
theorem nums_succ (a b c : Int) (k : Nat) : nums a b c (k + 1) = nums a b c k ++ [num a b c k] := by simp [nums, List.range_succ]
theorem nums_length (a b c : Int) (k : Nat) : (nums a b c k).length = k := by simp [nums]

theorem size_right {a b c : Int} {k : Nat} (h : (k : Int) < size a b c) : Right a b c ∧ a ≤ b ∧ size a b c = ofC a b c := by
  unfold size at h
  by_cases h0 : chk a b c = 0
  · rw [if_pos h0] at h
    have hr := chk_zero.1 h0
    refine ⟨hr, ?_, size_eq' hr⟩
    by_cases hab : a ≤ b
    · exact hab
    · have := empty_of (c := c) hab; omega
  · rw [if_neg h0] at h; omega
theorem num_bnd {a b c : Int} {k : Nat} (h : (k : Int) < size a b c) : -2000000 ≤ ofB a b c * k ∧ ofB a b c * k ≤ 2000000 ∧ -1000000 ≤ num a b c k ∧ num a b c k ≤ 1000000 := by
  obtain ⟨hr, hab, hs⟩ := size_right h
  obtain ⟨p1, p2, p3, p4, p5, p6, p7, p8, p9, p10⟩ := parts hr hab
  have hl := hr.1
  rw [hs] at h
  have m1 := mulle (s := absI c) (x := 0) (y := (k : Int)) p1 (by omega)
  have m2 := mulle (s := absI c) (x := (k : Int)) (y := ofC a b c - 1) p1 (by omega)
  rw [Int.mul_zero] at m1
  unfold num
  rw [p6, p7]
  by_cases hc : c < 0
  · have e : c = -absI c := by rw [absI_neg hc]; omega
    rw [if_pos hc]
    have : c * k = -(absI c * k) := by rw [e, Int.neg_mul, absI_neg (by omega : -absI c < 0)]; rw [Int.neg_neg]
    rw [this]
    generalize absI c * (k : Int) = z at *
    omega
  · rw [if_neg hc]
    have : c * k = absI c * k := by rw [absI_pos hc]
    rw [this]
    generalize absI c * (k : Int) = z at *
    omega

theorem size_nonneg (a b c : Int) : 0 ≤ size a b c := by
  unfold size
  by_cases h0 : chk a b c = 0
  · rw [if_pos h0]
    exact (ofC_bnd (chk_zero.1 h0)).1
  · rw [if_neg h0]; omega
theorem size_le (a b c : Int) : size a b c ≤ 2000001 := by
  unfold size
  by_cases h0 : chk a b c = 0
  · rw [if_pos h0]
    exact (ofC_bnd (chk_zero.1 h0)).2
  · rw [if_neg h0]; omega
/-- What a call leaves as it was. -/
theorem grown_of_below {w w' : World} (h : Below w.heap.size w w') : w.grownBy w' none := ⟨h.os, h.tape, h.output, h.size, fun k hk _ => h.block k hk⟩

theorem size_in {n : Nat} (a b c : Int) (ha : I64 a) (hb : I64 b) (hc : I64 c) (w : World) :
    CallsIn Fence.wide n P 27 #[.agg #[.int .i64 a, .int .i64 b, .int .i64 c]] w fun e w' => e = .returned (.int .i64 (size a b c)) ∧ Below w.heap.size w w' :=
  callsIn_wide.2 ((k7_ok (27, c_Size) (by simp [k7, k6, k5, k4, k3, k2, k1, k0]) [.agg [.lit (.int .i64 a), .lit (.int .i64 b), .lit (.int .i64 c)]] (.lit (.int .i64 (lk size a b c))) ⟨⟨ha, hb, hc⟩, rfl⟩ (fun _ => False) w
    [.agg #[.int .i64 a, .int .i64 b, .int .i64 c]] (fun _ h => h.elim) ⟨_, _, rfl, ⟨[_, _, _], rfl, _, _, rfl, rfl, _, _, rfl, rfl, _, _, rfl, rfl, rfl⟩, rfl⟩).mono
    fun e w' ⟨v, h1, h2, h3⟩ => ⟨by rw [h1, show v = .int .i64 (lk size a b c) from h3, lk_eq], h2⟩)
theorem of_in {n : Nat} (a b c : Int) (h : a ≤ b → c ≠ 0 ∧ -9223372036854775807 ≤ c ∧ b - a < 9223372036854775807 ∧ I64 a ∧ I64 b ∧ I64 c) (w : World) :
    CallsIn Fence.wide n P 100 #[.agg #[.int .i64 a, .int .i64 b, .int .i64 c]] w fun e w' => e = .returned (.agg #[.int .i64 (ofF a b c), .int .i64 (ofB a b c), .int .i64 (ofC a b c)]) ∧ Below w.heap.size w w' :=
  callsIn_wide.2 ((k7_ok (100, c_of) (by simp [k7, k6, k5, k4, k3, k2, k1, k0]) [.agg [.lit (.int .i64 a), .lit (.int .i64 b), .lit (.int .i64 c)]] (.agg [.lit (.int .i64 (lk ofF a b c)), .lit (.int .i64 (lk ofB a b c)), .lit (.int .i64 (lk ofC a b c))]) ⟨h, rfl⟩ (fun _ => False) w
    [.agg #[.int .i64 a, .int .i64 b, .int .i64 c]] (fun _ h => h.elim) ⟨_, _, rfl, ⟨[_, _, _], rfl, _, _, rfl, rfl, _, _, rfl, rfl, _, _, rfl, rfl, rfl⟩, rfl⟩).mono
    fun e w' ⟨v, h1, h2, us, h3, u1, u1', g1, g2, u2, u2', g3, g4, u3, u3', g5, g6, g7⟩ => ⟨by
      rw [h1, h3]
      subst g1; subst g3; subst g5; subst g7
      rw [show u1 = .int .i64 (lk ofF a b c) from g2, show u2 = .int .i64 (lk ofB a b c) from g4, show u3 = .int .i64 (lk ofC a b c) from g6]
      simp only [lk_eq], h2⟩)

theorem meas (z k : Nat) (x : Int) (hx : x = (k : Int) + 1) (h : k + 1 ≤ z) : z - (intOf (.int .i64 x)).toNat < z - (intOf (.int .i64 k)).toNat := by
  subst hx
  simp only [intOf]
  omega
/-- The box of a range. -/
def Box3 (W : World) (B : Nat) (a b c : Int) : Prop := W.heap[B]? = some (.cells #[.int .i64 a, .int .i64 b, .int .i64 c] 23 (0, 0))

theorem Box3.lt {W : World} {B : Nat} {a b c : Int} (h : Box3 W B a b c) : B < W.heap.size := (Array.getElem?_eq_some_iff.1 h).1
theorem Box3.cell {W : World} {B : Nat} {a b c : Int} (h : Box3 W B a b c) : W.cell? ⟨B, 0, none⟩ = some (.int .i64 a) ∧ W.cell? ⟨B, 1, none⟩ = some (.int .i64 b) ∧ W.cell? ⟨B, 2, none⟩ = some (.int .i64 c) := by
  refine ⟨?_, ?_, ?_⟩ <;> simp [World.cell?, show W.heap[B]? = _ from h]
theorem own_box3 {β : Type} (B : Nat) (a b c : Int) : Own (fun (_ : β) W => Box3 W B a b c) := fun s X Y row h hg hr =>
  (hg.block B h.lt (fun e => by
    obtain ⟨o, ho, hc⟩ := hr B e.symm
    rw [show X.heap[B]? = _ from h] at ho; cases ho; cases hc)).trans h

set_option maxRecDepth 100000 in
set_option maxHeartbeats 4000000 in
theorem all1_in (n : Nat) (hn : 1 ≤ n) (l Bs : Nat) (a b c : Int) (ha : I64 a) (hb : I64 b) (hc : I64 c) (J Jx : List Int → World → Prop) (W : World) (hJ : AbidesFrom W.heap.size J)
    (hY : ∀ pre x W, J pre W → pre.length < (size a b c).toNat → YieldAt Fence.wide (n - 1) P l #[.int .i64 x] W fun e W' =>
      (e = .returned (.bool true) ∧ J (pre ++ [x]) W' ∧ W'.heap[Bs]? = W.heap[Bs]?) ∨ (e = .returned (.bool false) ∧ Jx (pre ++ [x]) W'))
    (hBs : Box3 W Bs a b c) (h0 : J [] W) :
    CallsIn Fence.wide n P 152 #[.func (.yield l) #[] #[], .pointer (some ⟨Bs, 0, none⟩)] W fun e W' => (∃ v, e = .returned v) ∧
      ((∃ ys, ys = nums a b c (size a b c).toNat ∧ J ys W') ∨ (∃ pre, (∃ k, k ≤ (size a b c).toNat ∧ pre = nums a b c k) ∧ Jx pre W')) := by
  refine callsIn_of_wp Go.Proofs.Try.func152 rfl trivial ?_ rfl
  simp only [Go.Proofs.Try.ntmps152, List.size_toArray, List.length_cons, List.length_nil, Nat.reduceAdd, Nat.reduceSub, Array.replicate_succ, Array.replicate_zero, List.push_toArray, List.append_toArray, List.nil_append, List.cons_append]
  obtain ⟨c0, c1, c2⟩ := hBs.cell
  gi_wp2_with (refine ⟨trivial, ?_⟩; gi_at_call 27; refine (size_in a b c ha hb hc _).mono ?_; rintro e w' ⟨rfl, bw⟩)
  have hB0 : Box3 w' Bs a b c := (bw.block Bs hBs.lt).trans hBs
  have hJw : J [] w' := hJ [] W w' none h0 (grown_of_below bw) (fun r e => by cases e)
  gi_loopw [7] (fun i wr => ∃ k : Nat, k ≤ (size a b c).toNat ∧ i = .int .i64 k ∧ J (nums a b c k) wr ∧ Box3 wr Bs a b c)
    (fun i _ => (size a b c).toNat - (intOf i).toNat)
  case atStart => exact ⟨0, Nat.zero_le _, rfl, hJw, hB0⟩
  case round =>
    obtain ⟨k, hk, rfl, hJs, hnx⟩ := hrel
    obtain ⟨d0, d1, d2⟩ := hnx.cell
    by_cases hlt : (k : Int) < size a b c
    · have hr := (size_right hlt).1
      obtain ⟨b1, b2, b3, b4⟩ := num_bnd hlt
      have hlen : (nums a b c k).length < (size a b c).toNat := by rw [nums_length]; omega
      have hk' : k + 1 ≤ (size a b c).toNat := by omega
      have hk1 : wrap64 ((k : Int) + 1) = (k : Int) + 1 := IntWalk.wrap64_in _ (by have := size_le a b c; omega)
      have hwr : wrap64 (ofF a b c + ofB a b c * (k : Int)) = num a b c k := by
        unfold num at b3 b4 ⊢
        exact IntWalk.wrap64_in (ofF a b c + ofB a b c * (k : Int)) ⟨by omega, by omega⟩
      gi_wp2_with (refine ⟨trivial, ?_⟩; gi_at_call 100; refine (of_in a b c (of_ask hr ha hb hc) _).mono ?_; rintro e w1 ⟨rfl, bw1⟩; have hB1 : Below wr.heap.size wr (w1.alloc (.cells #[.int .i64 (ofF a b c), .int .i64 (ofB a b c), .int .i64 (ofC a b c)] 99)) := bw1.alloc bw1.size _; have hJ1 : J (nums a b c k) (w1.alloc (.cells #[.int .i64 (ofF a b c), .int .i64 (ofB a b c), .int .i64 (ofC a b c)] 99)) := hJ _ wr _ none hJs (grown_of_below hB1) (fun r e => by cases e); obtain ⟨fn, tmps, assign, body, hy, hR⟩ := hY _ (num a b c k) _ hJ1 hlen)
      refine hR.mono ?_
      rintro e W3 (⟨rfl, hJ3, hk3⟩ | ⟨rfl, hJx3⟩)
      · gi_wp2
        go_roundw
        case rel => exact ⟨k + 1, hk', by simp [hk1], by rw [nums_succ]; exact hJ3, hk3.trans ((hB1.block Bs hnx.lt).trans hnx)⟩
        case measure => exact meas _ k _ hk1 hk'
      · gi_wp2
        refine bodyPost_ret (results_none rfl _ _ _) rfl ?_
        exact ⟨⟨_, rfl⟩, .inr ⟨_, ⟨k + 1, hk', (nums_succ _ _ _ _).symm⟩, hJx3⟩⟩
    · have hsz := size_nonneg a b c
      obtain rfl : k = (size a b c).toNat := by omega
      gi_wp2
      go_end0
      exact ⟨⟨_, rfl⟩, .inl hJs⟩

theorem all_stops (n : Nat) (hn : 1 ≤ n) (Bs : Nat) (a b c : Int) (ha : I64 a) (hb : I64 b) (hc : I64 c) (w : World) (hx : Box3 w Bs a b c) :
    SeqStopsK Fence.wide n P 152 #[.pointer (some ⟨Bs, 0, none⟩)] (fun x : Int => #[Value.int .i64 x]) (fun W W' => W'.heap[Bs]? = W.heap[Bs]?) (fun ys => ys = nums a b c (size a b c).toNat) (fun pre => ∃ k, k ≤ (size a b c).toNat ∧ pre = nums a b c k) (size a b c).toNat w := fun l J Jx W hW hJ _ hY h0 =>
  all1_in n hn l Bs a b c ha hb hc J Jx W hJ hY ((hW.block Bs hx.lt).trans hx) h0

set_option maxHeartbeats 1000000 in
theorem all_in (n : Nat) (a b c : Int) (w : World) :
    CallsIn Fence.wide n P 104 #[.agg #[.int .i64 a, .int .i64 b, .int .i64 c]] w fun e w' => e = .returned (.func (.func 152) #[] #[.pointer (some ⟨w.heap.size, 0, none⟩)]) ∧ w' = w.alloc (.cells #[.int .i64 a, .int .i64 b, .int .i64 c] 23) := by
  refine callsIn_of_wp Go.Proofs.Try.func104 rfl trivial ?_ rfl
  simp only [Go.Proofs.Try.ntmps104, List.size_toArray, List.length_cons, List.length_nil, Nat.reduceAdd, Nat.reduceSub, Array.replicate_succ, Array.replicate_zero, List.push_toArray, List.append_toArray, List.nil_append, List.cons_append]
  gi_wp2
  go_ret
  exact ⟨rfl, rfl⟩

theorem info3 : (Go.Proofs.Try.prog.info? 3).map (fun i => (i.zero, i.size, i.bytes)) = some (some (.int .i64 0), 1, 8) := by kernel_rfl

theorem Box3.not_row {W : World} {B : Nat} {a b c : Int} (h : Box3 W B a b c) {base size k : Nat} {v : Value} {xs : List Value} (hr : W.ownsRow base 3 size v k xs) : some B ≠ v.ownBlock := by
  rcases hr.2 with ⟨rfl, _⟩ | ⟨g, cap, cur, rfl, _, hgb, _⟩
  · simp [Value.ownBlock]
  · intro e'
    obtain rfl : B = g := by simpa [Value.ownBlock] using e'
    have := (show W.heap[B]? = _ from h).symm.trans hgb
    simp at this
theorem Box3.appended {W w1 : World} {B B' : Nat} {a b c : Int} (h : Box3 W B a b c) (hne : B ≠ B') {base size k : Nat} {v v' : Value} {xs : List Value} (hr : W.ownsRow base 3 size v k xs) {tmp : Obj} (hgrow : (W.alloc tmp).grownBy w1 v.ownBlock) :
    Box3 (w1.setCell ⟨B', 0, none⟩ v') B a b c := by
  have h1 : Box3 (W.alloc tmp) B a b c := (Below.heap_alloc W tmp B h.lt).trans h
  have h2 : Box3 w1 B a b c := (hgrow.block B h1.lt (h.not_row hr)).trans h1
  exact (Below.heap_setCell _ _ _ B (fun e => hne e)).trans h2

set_option maxRecDepth 100000 in
set_option maxHeartbeats 4000000 in
theorem numbers_in (n : Nat) (hn : 3 ≤ n) (a b c m : Int) (ha : I64 a) (hb : I64 b) (hc : I64 c) (hm0 : 0 ≤ m) (hm1 : m ≤ 1000000) (w : World) :
    CallsIn Fence.wide n P 33 #[.agg #[.int .i64 a, .int .i64 b, .int .i64 c], .int .i64 m] w fun e W' => ∃ v k q, e = .returned v ∧ k = min (size a b c).toNat (m + 1).toNat ∧ w.heap.size ≤ q ∧
      W'.ownsRow q 3 1 v k ((nums a b c k).map (Value.int .i64)) ∧ Below w.heap.size w W' := by
  have h1 : 1 ≤ n := by omega
  obtain ⟨i0, hi, hz0, hz1, hz2⟩ := info_parts info3
  refine callsIn_of_wp_marks Go.Proofs.Try.func33 rfl trivial ?_ rfl
  simp only [Go.Proofs.Try.ntmps33, List.size_toArray, List.length_cons, List.length_nil, Nat.reduceAdd, Nat.reduceSub, Array.replicate_succ, Array.replicate_zero, List.push_toArray, List.append_toArray, List.nil_append, List.cons_append]
  have hne : ∀ (f : Fn) (xs cs : Array Value) (w : World), (binOp .neq 107 (.func f xs cs) .nilFunc).run P w = .ok (.bool true) w := by
    intro f xs cs w
    have he : (Op.equal 107 (.func f xs cs) .nilFunc).run P w = .ok false w := eqrun fun d => by simp [Op.equalIn, run_underlying Go.Proofs.Try.underlying107]
    show (do pure (.bool (!(← Op.equal 107 (.func f xs cs) .nilFunc))) : Sem Value).run P w = _
    rw [Sem.run_bind, he]; rfl
  gi_wp2_with (refine ⟨trivial, ?_⟩; gi_at_call 104; refine (all_in (n - 1) a b c _).mono ?_; rintro e w' ⟨rfl, rfl⟩)
  obtain ⟨W0, hW0⟩ : ∃ W0, (w.alloc (.cells #[.int .i64 a, .int .i64 b, .int .i64 c] 23)).alloc (.cells #[.int .i64 m] 3) = W0 := ⟨_, rfl⟩
  have hs0 : W0.heap.size = w.heap.size + 2 := by rw [← hW0]; simp
  have hb0 : Below w.heap.size w W0 := by rw [← hW0]; exact ((Below.refl _ w).alloc (Nat.le_refl _) _).alloc (by simp) _
  have bM : Boxed W0 (w.heap.size + 1) 3 (.int .i64 m) := by
    rw [← hW0]; have := Boxed.new (w.alloc (.cells #[.int .i64 a, .int .i64 b, .int .i64 c] 23)) 3 (.int .i64 m); rwa [World.size_alloc] at this
  rw [hW0]
  have e2 : w.heap.size + 1 + 1 = W0.heap.size := by omega
  have e3 : w.heap.size + 1 + 1 + 1 = W0.heap.size + 1 := by omega
  rw [e3, e2]
  have hs1 : w.heap.size + 1 < W0.heap.size := by omega
  clear e2 e3 hW0 hs0
  have bO := Boxed.new W0 37 (.slice none 0 0)
  have bR : Box3 ((W0.alloc (.cells #[.slice none 0 0] 37)).alloc (.cells #[.int .i64 a, .int .i64 b, .int .i64 c] 23)) (W0.heap.size + 1) a b c := by
    have := World.alloc_heap_new (W0.alloc (.cells #[.slice none 0 0] 37)) (.cells #[.int .i64 a, .int .i64 b, .int .i64 c] 23)
    rw [World.size_alloc] at this
    exact this
  have hBW : Below W0.heap.size W0 ((W0.alloc (.cells #[.slice none 0 0] 37)).alloc (.cells #[.int .i64 a, .int .i64 b, .int .i64 c] 23)) := ((Below.refl _ W0).alloc (Nat.le_refl _) _).alloc (by simp) _
  refine wpIn_rangeFunc_ownG rfl h1 (gf := 152) (lb := #[.pointer (some ⟨W0.heap.size + 1, 0, none⟩)]) rfl trivial (Go.Proofs.enters_of Go.Proofs.Try.func152 (by kernel_rfl) rfl)
    (all_stops (n - 1) (by omega) (W0.heap.size + 1) a b c ha hb hc _ bR) (fun h h' => h'.trans h) (fun W l o o' hl ho _ _ => World.putObj_heap_other (fun e => by simp at hl; omega)) (Below.refl _ _) (fun _ => rfl)
    (fun pre W => (∃ v, Boxed W W0.heap.size 37 v ∧ W.ownsRow W0.heap.size 3 1 v pre.length (pre.map (Value.int .i64)) ∧ True) ∧ (Box3 W (W0.heap.size + 1) a b c ∧ (Below W0.heap.size W0 W ∧ (pre.length : Int) ≤ m)))
    (fun cd pre W => cd = .exit 0 ∧ ((∃ v, Boxed W W0.heap.size 37 v ∧ W.ownsRow W0.heap.size 3 1 v pre.length (pre.map (Value.int .i64)) ∧ True) ∧ (Below W0.heap.size W0 W ∧ (pre.length : Int) = m + 1)))
    ?oI ?oIx ⟨⟨_, bO.alloc _, World.ownsRow_nil _ _ _ _, trivial⟩, bR, hBW, by simpa using hm0⟩
    (fun x => { tmps := #[.agg #[.int .i64 a, .int .i64 b, .int .i64 c], .int .i64 m, .pointer (some ⟨w.heap.size, 0, none⟩), .pointer (some ⟨w.heap.size + 1, 0, none⟩), .slice none 0 0, .pointer (some ⟨W0.heap.size, 0, none⟩), .func (.func 152) #[] #[.pointer (some ⟨W0.heap.size + 1, 0, none⟩)], .int .i64 x, .agg #[.int .i64 a, .int .i64 b, .int .i64 c], .func (.func 152) #[] #[.pointer (some ⟨W0.heap.size + 1, 0, none⟩)], .func (.func 152) #[] #[.pointer (some ⟨W0.heap.size + 1, 0, none⟩)], .bool true, .func (.func 152) #[] #[.pointer (some ⟨W0.heap.size + 1, 0, none⟩)], .int .i64 x, undef, undef, undef, undef, undef, undef, undef, undef, undef], defers := [] }) ?assign ?body ?done ?stop
  case oI =>
    exact OwnFrom.and (Own.from (holdsRow_own W0.heap.size W0.heap.size 37 3 1 (fun pre : List Int => pre.length) (fun pre => pre.map (Value.int .i64)) (fun _ _ => True)) _) (OwnFrom.and (Own.from (own_box3 _ a b c) _) (OwnFrom.and (ownFrom_below (Nat.le_refl _) (by simp; omega)) (ownFrom_pure _ _)))
  case oIx =>
    intro cd
    exact OwnFrom.and (ownFrom_pure _ _) (OwnFrom.and (Own.from (holdsRow_own W0.heap.size W0.heap.size 37 3 1 (fun pre : List Int => pre.length) (fun pre => pre.map (Value.int .i64)) (fun _ _ => True)) _) (OwnFrom.and (ownFrom_below (Nat.le_refl _) (by simp; omega)) (ownFrom_pure _ _)))
  case assign =>
    intro l x W K hK
    simp only [List.zip_toArray, List.zip_cons_cons, List.zip_nil_right, List.foldl_toArray', List.foldl_cons, List.foldl_nil, List.setIfInBounds_toArray]
    gi_wp2
    exact hK
  case body =>
    rintro l pre x W ⟨⟨v, hv, hrow, -⟩, hbx, hB, hlen⟩ hlt
    have hc := hv.cell
    have hM : Boxed W (w.heap.size + 1) 3 (.int .i64 m) := (hB.block (w.heap.size + 1) (by omega)).trans bM
    have hb1 : pre.length + 1 ≤ Go.maxLen := by have : pre.length ≤ 1000000 := by omega
                                                simp only [Go.maxLen]; omega
    have hb2 : (pre.length + 1) * 8 ≤ 140737488355328 := by omega
    have hb3 : W0.heap.size ≤ (W.alloc (.cells #[.int .i64 x] 3)).heap.size := by have := hB.size; simp; omega
    gi_wp2_with (gi_at_builtin; refine wpListIn_append_own _ rfl _ _ 37 rfl W0.heap.size 3 i0 (.int .i64 0) 1 8 Go.Proofs.Try.underlying37 hi hz0 hz1 hz2 rfl (by decide) _ _ _ rfl (hrow.alloc _) ⟨W.heap.size, 0, none⟩ 1 1 [.int .i64 x] rfl rfl (cell_one_new _ _ _) (by simp [Value.oneCell']) hb1 hb2 hb3 ?_; intro v' w1 hown' hgrow _; obtain ⟨g', cap', rfl⟩ := ownsRow_succ hown'; obtain ⟨hv1, hv2, hr2, hk2, hb2'⟩ := hv.appended (by decide) hrow hB.size (Nat.le_refl _) hown' hgrow; have hc1 := hv1.cell; have hf1 := hv1.frozen; have hbx2 := hbx.appended (v' := .slice (some ⟨g', 0, none⟩) (pre.length + 1) cap') (show W0.heap.size + 1 ≠ W0.heap.size by omega) hrow hgrow; have hc2 := hv2.cell; have hM2 := (show Boxed _ (w.heap.size + 1) 3 (.int .i64 m) from (hb2'.block (w.heap.size + 1) (by omega)).trans hM).cell)
    · have hx : m < (pre.length : Int) + 1 := by assumption
      have hl1 : (((pre ++ [x]).length : Nat) : Int) = m + 1 := by rw [List.length_append, List.length_singleton]; omega
      exact ⟨hk2.from _, rfl, ⟨_, hv2, by simpa using hr2, trivial⟩, hB.trans hb2', hl1⟩
    · have hx : (pre.length : Int) + 1 ≤ m := by assumption
      have hl1 : (((pre ++ [x]).length : Nat) : Int) ≤ m := by rw [List.length_append, List.length_singleton]; omega
      exact ⟨hk2.from _, hbx2.trans hbx.symm, ⟨_, hv2, by simpa using hr2, trivial⟩, hbx2, hB.trans hb2', hl1⟩
  case done =>
    rintro D ys W hD rfl ⟨⟨v, hv, hrow, -⟩, hbx, hB, hlen⟩ hK
    have hc := hv.cell
    have hD' : W0.heap.size ≤ D := by simp at hD; omega
    rw [nums_length] at hlen hrow
    have hkk : (size a b c).toNat = min (size a b c).toNat (m + 1).toNat := by omega
    gi_wp2
    refine ⟨by simp, .inl ⟨_, _, rfl, run_takeDeferred hK, ?_⟩⟩
    exact ⟨_, results_tmp rfl _ _ _, v, (size a b c).toNat, W0.heap.size, rfl, hkk, by omega, ownsRow_putObj hrow _ hK rfl, hb0.trans ((hB.trans (belowK_b (w := W0) (Nat.le_refl _) W D _ _ hD' hK rfl rfl)).mono (by omega))⟩
  case stop =>
    rintro D cd pre W hD ⟨k, hk, rfl⟩ ⟨rfl, ⟨v, hv, hrow, -⟩, hB, hlen⟩ hK
    have hc := hv.cell
    have hD' : W0.heap.size ≤ D := by simp at hD; omega
    rw [nums_length] at hlen hrow
    have hkk : k = min (size a b c).toNat (m + 1).toNat := by omega
    gi_wp2
    refine ⟨by simp, .inl ⟨_, _, rfl, run_takeDeferred hK, ?_⟩⟩
    exact ⟨_, results_tmp rfl _ _ _, v, k, W0.heap.size, rfl, hkk, by omega, ownsRow_putObj hrow _ hK rfl, hb0.trans ((hB.trans (belowK_b (w := W0) (Nat.le_refl _) W D _ _ hD' hK rfl rfl)).mono (by omega))⟩
end Go.RX.Span
