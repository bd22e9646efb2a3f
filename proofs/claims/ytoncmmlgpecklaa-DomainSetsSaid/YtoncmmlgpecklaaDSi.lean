/- Domains: Subtract of the program: the walk. -/
import Derived.Test.YtoncmmlgpecklaaDSh
import Derived.Test.YtoncmmlgpecklaaDSe
import Derived.Test.YtoncmmlgpecklaaDSb
import Derived.Test.YtoncmmlgpecklaaDSg
set_option linter.unusedVariables false
set_option linter.unusedSimpArgs false
set_option maxRecDepth 100000
namespace Go.RX.Span
open Go Go.RX
attribute [local irreducible] sx conB

--%R ofList\s+\[ => ofList (ss := [.int .i64, .int .i64, .int .i64]) [
--%R ↑n ≤ ↑n => (n : Int) ≤ (n : Int)
set_option maxRecDepth 100000 in
theorem t_DS13 (n0 : Nat) (n : Nat) (f : Nat → R3) (k s h : Int) (m : Nat) (g : Nat → R3) (k1 s1 h1 : Int) (n2 : Nat) (f2 : Nat → R3) (k2 s2 h2 : Int) (u : Bool) (c : Nat) (L : Nat → DE) (N : Nat) (F : Nat → R3) (j : Int) : (sx Ed [] n0 (loopOf P 78 13) (mkS 100 [2,3,6,8,9,49,50,51] (slD N F j), memD n f k s h m g k1 s1 h1 n2 f2 k2 s2 h2 u c L)).bind (proj 100 [2,3,6,8,9,49,50,51]) =
    T.br (U.lt j (Int.ofNat N)) (.ask ((0 : Int) ≤ j ∧ j < ↑N) (.ask ((0 : Int) ≤ (1 : Int) ∧ (1 : Int) ≤ ↑n ∧ (n : Int) ≤ (n : Int)) (.br (U.isz (U.nsub n (U.toNat (1 : Int)))) (.ask
      ((0 : Nat) < (1 : Nat) ∧ (1 : Nat) ≤ (10000 : Nat)) (.ask (Row64 (1 : Nat) (ofList (ss := [.int .i64, .int .i64, .int .i64]) [((F (U.toNat j)).1, (F (U.toNat j)).2.1, (F (U.toNat
      j)).2.2.1, ())].reverse)) (.br (U.gt (lk szD (nat_lit 1) (fun x => ((F (U.toNat j)).1, (F (U.toNat j)).2.1, (F (U.toNat j)).2.2.1, PUnit.unit)) k s h) (0 : Int)) (.ask ((c + (1 :
      Nat)) * nat_lit 48 ≤ nat_lit 140737488351232) (.ret (Ex.normal, [SV.ptr (nat_lit 0) (nat_lit 0), SV.ptr (nat_lit 1) (nat_lit 0), SV.ptr (nat_lit 2) (nat_lit 0), SV.ptr (nat_lit 3)
      (nat_lit 0), SV.fn (Fn.func (nat_lit 159)) [] [SV.ptr (nat_lit 0) (nat_lit 0), SV.ptr (nat_lit 3) (nat_lit 0)], .row [.int .i64, .int .i64, .int .i64] N F, .lit (.int .i64
      (Int.ofNat N)), .lit (.int .i64 (U.add .i64 j (1 : Int)))], [(nat_lit 0, some (Blk.cells [.row [.int .i64, .int .i64, .int .i64] n f, .lit (.int .i64 k), .lit (.int .i64 s), .lit
      (.int .i64 h)] (nat_lit 49))), (nat_lit 0, some (Blk.cells [.row [.int .i64, .int .i64, .int .i64] m g, .lit (.int .i64 k1), .lit (.int .i64 s1), .lit (.int .i64 h1)] (nat_lit
      49))), (nat_lit 0, some (Blk.cells [.row [.int .i64, .int .i64, .int .i64] n2 f2, .lit (.int .i64 k2), .lit (.int .i64 s2), .lit (.int .i64 h2)] (nat_lit 49))), (nat_lit 1, some
      (Blk.cells [SV.own false (nat_lit 9) (c.add (nat_lit 1))] (nat_lit 67))), (nat_lit 1, none), (nat_lit 1, some (Blk.cells [.lit (.int .i64 (F (U.toNat j)).1), .lit (.int .i64 (F
      (U.toNat j)).2.1), .lit (.int .i64 (F (U.toNat j)).2.2.1)] (nat_lit 23))), (nat_lit 1, none), (nat_lit 0, some (Blk.cells [.row [.int .i64, .int .i64, .int .i64] (nat_lit 1) fun x
      => ((F (U.toNat j)).1, (F (U.toNat j)).2.1, (F (U.toNat j)).2.2.1, PUnit.unit), .lit (.int .i64 k), .lit (.int .i64 s), .lit (.int .i64 h)] (nat_lit 49))), (nat_lit 0, some
      (Blk.cells [.row [.int .i64, .int .i64, .int .i64] (nat_lit 1) fun x => ((F (U.toNat j)).1, (F (U.toNat j)).2.1, (F (U.toNat j)).2.2.1, PUnit.unit), .lit (.int .i64 k), .lit (.int
      .i64 s), .lit (.int .i64 h)] (nat_lit 49))), (nat_lit 0, some (Blk.row false (c.add (nat_lit 1)) [.sl [.int .i64, .int .i64, .int .i64], .int .i64, .int .i64, .int .i64] (U.cat c L
      fun x => ((nat_lit 1, fun x => ((F (U.toNat j)).1, (F (U.toNat j)).2.1, (F (U.toNat j)).2.2.1, PUnit.unit)), k, s, h, PUnit.unit)) (nat_lit 49)))]))) (.ret (Ex.normal, [SV.ptr
      (nat_lit 0) (nat_lit 0), SV.ptr (nat_lit 1) (nat_lit 0), SV.ptr (nat_lit 2) (nat_lit 0), SV.ptr (nat_lit 3) (nat_lit 0), SV.fn (Fn.func (nat_lit 159)) [] [SV.ptr (nat_lit 0)
      (nat_lit 0), SV.ptr (nat_lit 3) (nat_lit 0)], .row [.int .i64, .int .i64, .int .i64] N F, .lit (.int .i64 (Int.ofNat N)), .lit (.int .i64 (U.add .i64 j (1 : Int)))], [(nat_lit 0,
      some (Blk.cells [.row [.int .i64, .int .i64, .int .i64] n f, .lit (.int .i64 k), .lit (.int .i64 s), .lit (.int .i64 h)] (nat_lit 49))), (nat_lit 0, some (Blk.cells [.row [.int
      .i64, .int .i64, .int .i64] m g, .lit (.int .i64 k1), .lit (.int .i64 s1), .lit (.int .i64 h1)] (nat_lit 49))), (nat_lit 0, some (Blk.cells [.row [.int .i64, .int .i64, .int .i64]
      n2 f2, .lit (.int .i64 k2), .lit (.int .i64 s2), .lit (.int .i64 h2)] (nat_lit 49))), (nat_lit 0, some (Blk.cells [SV.own u (nat_lit 4) c] (nat_lit 67))), (nat_lit 0, some (Blk.row
      u c [.sl [.int .i64, .int .i64, .int .i64], .int .i64, .int .i64, .int .i64] L (nat_lit 49))), (nat_lit 1, some (Blk.cells [.lit (.int .i64 (F (U.toNat j)).1), .lit (.int .i64 (F
      (U.toNat j)).2.1), .lit (.int .i64 (F (U.toNat j)).2.2.1)] (nat_lit 23))), (nat_lit 1, none), (nat_lit 0, some (Blk.cells [.row [.int .i64, .int .i64, .int .i64] (nat_lit 1) fun x
      => ((F (U.toNat j)).1, (F (U.toNat j)).2.1, (F (U.toNat j)).2.2.1, PUnit.unit), .lit (.int .i64 k), .lit (.int .i64 s), .lit (.int .i64 h)] (nat_lit 49)))]))))) (.ask ((0 : Nat) <
      U.nsub n (U.toNat (1 : Int)) ∧ ((1 : Nat) + U.nsub n (U.toNat (1 : Int))) * nat_lit 24 ≤ nat_lit 140737488351232) (.ask ((0 : Nat) < (1 : Nat) + U.nsub n (U.toNat (1 : Int)) ∧ (1 :
      Nat) + U.nsub n (U.toNat (1 : Int)) ≤ (10000 : Nat)) (.ask (Row64 ((1 : Nat) + U.nsub n (U.toNat (1 : Int))) (U.cat (1 : Nat) (ofList (ss := [.int .i64, .int .i64, .int .i64]) [((F
      (U.toNat j)).1, (F (U.toNat j)).2.1, (F (U.toNat j)).2.2.1, ())].reverse) (castEls rfl (cutF (some (SV.ki .i64 1)) f (1 : Int))))) (.br (U.gt (lk szD (nat_lit 1 + U.nsub n (U.toNat
      (1 : Int))) (U.cat (nat_lit 1) (fun x => ((F (U.toNat j)).1, (F (U.toNat j)).2.1, (F (U.toNat j)).2.2.1, PUnit.unit)) fun i => f (i + U.toNat (1 : Int))) k s h) (0 : Int)) (.ask ((c
      + (1 : Nat)) * nat_lit 48 ≤ nat_lit 140737488351232) (.ret (Ex.normal, [SV.ptr (nat_lit 0) (nat_lit 0), SV.ptr (nat_lit 1) (nat_lit 0), SV.ptr (nat_lit 2) (nat_lit 0), SV.ptr
      (nat_lit 3) (nat_lit 0), SV.fn (Fn.func (nat_lit 159)) [] [SV.ptr (nat_lit 0) (nat_lit 0), SV.ptr (nat_lit 3) (nat_lit 0)], .row [.int .i64, .int .i64, .int .i64] N F, .lit (.int
      .i64 (Int.ofNat N)), .lit (.int .i64 (U.add .i64 j (1 : Int)))], [(nat_lit 0, some (Blk.cells [.row [.int .i64, .int .i64, .int .i64] n f, .lit (.int .i64 k), .lit (.int .i64 s),
      .lit (.int .i64 h)] (nat_lit 49))), (nat_lit 0, some (Blk.cells [.row [.int .i64, .int .i64, .int .i64] m g, .lit (.int .i64 k1), .lit (.int .i64 s1), .lit (.int .i64 h1)] (nat_lit
      49))), (nat_lit 0, some (Blk.cells [.row [.int .i64, .int .i64, .int .i64] n2 f2, .lit (.int .i64 k2), .lit (.int .i64 s2), .lit (.int .i64 h2)] (nat_lit 49))), (nat_lit 1, some
      (Blk.cells [SV.own false (nat_lit 10) (c.add (nat_lit 1))] (nat_lit 67))), (nat_lit 1, none), (nat_lit 1, some (Blk.cells [.lit (.int .i64 (F (U.toNat j)).1), .lit (.int .i64 (F
      (U.toNat j)).2.1), .lit (.int .i64 (F (U.toNat j)).2.2.1)] (nat_lit 23))), (nat_lit 0, some (Blk.cells [.lit (.int .i64 (F (U.toNat j)).1), .lit (.int .i64 (F (U.toNat j)).2.1),
      .lit (.int .i64 (F (U.toNat j)).2.2.1)] (nat_lit 23))), (nat_lit 1, none), (nat_lit 0, some (Blk.cells [.row [.int .i64, .int .i64, .int .i64] (nat_lit 1 + U.nsub n (U.toNat (1 :
      Int))) (U.cat (nat_lit 1) (fun x => ((F (U.toNat j)).1, (F (U.toNat j)).2.1, (F (U.toNat j)).2.2.1, PUnit.unit)) fun i => f (i + U.toNat (1 : Int))), .lit (.int .i64 k), .lit (.int
      .i64 s), .lit (.int .i64 h)] (nat_lit 49))), (nat_lit 0, some (Blk.cells [.row [.int .i64, .int .i64, .int .i64] (nat_lit 1 + U.nsub n (U.toNat (1 : Int))) (U.cat (nat_lit 1) (fun x
      => ((F (U.toNat j)).1, (F (U.toNat j)).2.1, (F (U.toNat j)).2.2.1, PUnit.unit)) fun i => f (i + U.toNat (1 : Int))), .lit (.int .i64 k), .lit (.int .i64 s), .lit (.int .i64 h)]
      (nat_lit 49))), (nat_lit 0, some (Blk.row false (c.add (nat_lit 1)) [.sl [.int .i64, .int .i64, .int .i64], .int .i64, .int .i64, .int .i64] (U.cat c L fun x => ((nat_lit 1 + U.nsub
      n (U.toNat (1 : Int)), U.cat (nat_lit 1) (fun x => ((F (U.toNat j)).1, (F (U.toNat j)).2.1, (F (U.toNat j)).2.2.1, PUnit.unit)) fun i => f (i + U.toNat (1 : Int))), k, s, h,
      PUnit.unit)) (nat_lit 49)))]))) (.ret (Ex.normal, [SV.ptr (nat_lit 0) (nat_lit 0), SV.ptr (nat_lit 1) (nat_lit 0), SV.ptr (nat_lit 2) (nat_lit 0), SV.ptr (nat_lit 3) (nat_lit 0),
      SV.fn (Fn.func (nat_lit 159)) [] [SV.ptr (nat_lit 0) (nat_lit 0), SV.ptr (nat_lit 3) (nat_lit 0)], .row [.int .i64, .int .i64, .int .i64] N F, .lit (.int .i64 (Int.ofNat N)), .lit
      (.int .i64 (U.add .i64 j (1 : Int)))], [(nat_lit 0, some (Blk.cells [.row [.int .i64, .int .i64, .int .i64] n f, .lit (.int .i64 k), .lit (.int .i64 s), .lit (.int .i64 h)] (nat_lit
      49))), (nat_lit 0, some (Blk.cells [.row [.int .i64, .int .i64, .int .i64] m g, .lit (.int .i64 k1), .lit (.int .i64 s1), .lit (.int .i64 h1)] (nat_lit 49))), (nat_lit 0, some
      (Blk.cells [.row [.int .i64, .int .i64, .int .i64] n2 f2, .lit (.int .i64 k2), .lit (.int .i64 s2), .lit (.int .i64 h2)] (nat_lit 49))), (nat_lit 0, some (Blk.cells [SV.own u
      (nat_lit 4) c] (nat_lit 67))), (nat_lit 0, some (Blk.row u c [.sl [.int .i64, .int .i64, .int .i64], .int .i64, .int .i64, .int .i64] L (nat_lit 49))), (nat_lit 1, some (Blk.cells
      [.lit (.int .i64 (F (U.toNat j)).1), .lit (.int .i64 (F (U.toNat j)).2.1), .lit (.int .i64 (F (U.toNat j)).2.2.1)] (nat_lit 23))), (nat_lit 0, some (Blk.cells [.lit (.int .i64 (F
      (U.toNat j)).1), .lit (.int .i64 (F (U.toNat j)).2.1), .lit (.int .i64 (F (U.toNat j)).2.2.1)] (nat_lit 23))), (nat_lit 1, none), (nat_lit 0, some (Blk.cells [.row [.int .i64, .int
      .i64, .int .i64] (nat_lit 1 + U.nsub n (U.toNat (1 : Int))) (U.cat (nat_lit 1) (fun x => ((F (U.toNat j)).1, (F (U.toNat j)).2.1, (F (U.toNat j)).2.2.1, PUnit.unit)) fun i => f (i +
      U.toNat (1 : Int))), .lit (.int .i64 k), .lit (.int .i64 s), .lit (.int .i64 h)] (nat_lit 49)))]))))))))) (.ret (Ex.exit (nat_lit 0), [SV.ptr (nat_lit 0) (nat_lit 0), SV.ptr
      (nat_lit 1) (nat_lit 0), SV.ptr (nat_lit 2) (nat_lit 0), SV.ptr (nat_lit 3) (nat_lit 0), SV.fn (Fn.func (nat_lit 159)) [] [SV.ptr (nat_lit 0) (nat_lit 0), SV.ptr (nat_lit 3)
      (nat_lit 0)], .row [.int .i64, .int .i64, .int .i64] N F, .lit (.int .i64 (Int.ofNat N)), .lit (.int .i64 j)], [(nat_lit 0, some (Blk.cells [.row [.int .i64, .int .i64, .int .i64] n
      f, .lit (.int .i64 k), .lit (.int .i64 s), .lit (.int .i64 h)] (nat_lit 49))), (nat_lit 0, some (Blk.cells [.row [.int .i64, .int .i64, .int .i64] m g, .lit (.int .i64 k1), .lit
      (.int .i64 s1), .lit (.int .i64 h1)] (nat_lit 49))), (nat_lit 0, some (Blk.cells [.row [.int .i64, .int .i64, .int .i64] n2 f2, .lit (.int .i64 k2), .lit (.int .i64 s2), .lit (.int
      .i64 h2)] (nat_lit 49))), (nat_lit 0, some (Blk.cells [SV.own u (nat_lit 4) c] (nat_lit 67))), (nat_lit 0, some (Blk.row u c [.sl [.int .i64, .int .i64, .int .i64], .int .i64, .int
      .i64, .int .i64] L (nat_lit 49)))])) := by kernel_rfl
set_option maxRecDepth 100000 in
theorem t_DS23 (n0 : Nat) (n : Nat) (f : Nat → R3) (k s h : Int) (m : Nat) (g : Nat → R3) (k1 s1 h1 : Int) (n2 : Nat) (f2 : Nat → R3) (k2 s2 h2 : Int) (u : Bool) (c : Nat) (L : Nat → DE) (N : Nat) (F : Nat → R3) (j : Int) : (sx Ed [] n0 (loopOf P 78 23) (mkS 100 [2,3,6,8,9,84,85,86] (slD N F j), memD n f k s h m g k1 s1 h1 n2 f2 k2 s2 h2 u c L)).bind (proj 100 [2,3,6,8,9,84,85,86]) =
    T.br (U.lt j (Int.ofNat N)) (.ask ((0 : Int) ≤ j ∧ j < ↑N) (.ask ((0 : Int) ≤ (0 : Int) ∧ (0 : Int) < ↑n2) (.ask ((0 : Nat) < (2 : Nat) ∧ (2 : Nat) ≤ (10000 : Nat)) (.ask (Row64 (2
      : Nat) (ofList (ss := [.int .i64, .int .i64, .int .i64]) [((F (U.toNat j)).1, (F (U.toNat j)).2.1, (F (U.toNat j)).2.2.1, ()), ((f2 (U.toNat (0 : Int))).1, (f2 (U.toNat (0 :
      Int))).2.1, (f2 (U.toNat (0 : Int))).2.2.1, ())].reverse)) (.br (U.gt (lk szD (nat_lit 2) (ofList (ss := [.int .i64, .int .i64, .int .i64]) [((F (U.toNat j)).1, (F (U.toNat j)).2.1,
      (F (U.toNat j)).2.2.1, ()), ((f2 (U.toNat (0 : Int))).1, (f2 (U.toNat (0 : Int))).2.1, (f2 (U.toNat (0 : Int))).2.2.1, ())].reverse) k s h) (0 : Int)) (.ask ((c + (1 : Nat)) *
      nat_lit 48 ≤ nat_lit 140737488351232) (.ret (Ex.normal, [SV.ptr (nat_lit 0) (nat_lit 0), SV.ptr (nat_lit 1) (nat_lit 0), SV.ptr (nat_lit 2) (nat_lit 0), SV.ptr (nat_lit 3) (nat_lit
      0), SV.fn (Fn.func (nat_lit 159)) [] [SV.ptr (nat_lit 0) (nat_lit 0), SV.ptr (nat_lit 3) (nat_lit 0)], .row [.int .i64, .int .i64, .int .i64] N F, .lit (.int .i64 (Int.ofNat N)),
      .lit (.int .i64 (U.add .i64 j (1 : Int)))], [(nat_lit 0, some (Blk.cells [.row [.int .i64, .int .i64, .int .i64] n f, .lit (.int .i64 k), .lit (.int .i64 s), .lit (.int .i64 h)]
      (nat_lit 49))), (nat_lit 0, some (Blk.cells [.row [.int .i64, .int .i64, .int .i64] m g, .lit (.int .i64 k1), .lit (.int .i64 s1), .lit (.int .i64 h1)] (nat_lit 49))), (nat_lit 0,
      some (Blk.cells [.row [.int .i64, .int .i64, .int .i64] n2 f2, .lit (.int .i64 k2), .lit (.int .i64 s2), .lit (.int .i64 h2)] (nat_lit 49))), (nat_lit 1, some (Blk.cells [SV.own
      false (nat_lit 9) (c.add (nat_lit 1))] (nat_lit 67))), (nat_lit 1, none), (nat_lit 1, some (Blk.cells [.lit (.int .i64 (F (U.toNat j)).1), .lit (.int .i64 (F (U.toNat j)).2.1), .lit
      (.int .i64 (F (U.toNat j)).2.2.1)] (nat_lit 23))), (nat_lit 1, none), (nat_lit 0, some (Blk.cells [.row [.int .i64, .int .i64, .int .i64] (nat_lit 2) (ofList (ss := [.int .i64, .int
      .i64, .int .i64]) [((F (U.toNat j)).1, (F (U.toNat j)).2.1, (F (U.toNat j)).2.2.1, ()), ((f2 (U.toNat (0 : Int))).1, (f2 (U.toNat (0 : Int))).2.1, (f2 (U.toNat (0 : Int))).2.2.1,
      ())].reverse), .lit (.int .i64 k), .lit (.int .i64 s), .lit (.int .i64 h)] (nat_lit 49))), (nat_lit 0, some (Blk.cells [.row [.int .i64, .int .i64, .int .i64] (nat_lit 2) (ofList
      (ss := [.int .i64, .int .i64, .int .i64]) [((F (U.toNat j)).1, (F (U.toNat j)).2.1, (F (U.toNat j)).2.2.1, ()), ((f2 (U.toNat (0 : Int))).1, (f2 (U.toNat (0 : Int))).2.1, (f2
      (U.toNat (0 : Int))).2.2.1, ())].reverse), .lit (.int .i64 k), .lit (.int .i64 s), .lit (.int .i64 h)] (nat_lit 49))), (nat_lit 0, some (Blk.row false (c.add (nat_lit 1)) [.sl [.int
      .i64, .int .i64, .int .i64], .int .i64, .int .i64, .int .i64] (U.cat c L fun x => ((nat_lit 2, castEls rfl (ofList (ss := [.int .i64, .int .i64, .int .i64]) [((F (U.toNat j)).1, (F
      (U.toNat j)).2.1, (F (U.toNat j)).2.2.1, ()), ((f2 (U.toNat (0 : Int))).1, (f2 (U.toNat (0 : Int))).2.1, (f2 (U.toNat (0 : Int))).2.2.1, ())].reverse)), k, s, h, PUnit.unit))
      (nat_lit 49)))]))) (.ret (Ex.normal, [SV.ptr (nat_lit 0) (nat_lit 0), SV.ptr (nat_lit 1) (nat_lit 0), SV.ptr (nat_lit 2) (nat_lit 0), SV.ptr (nat_lit 3) (nat_lit 0), SV.fn (Fn.func
      (nat_lit 159)) [] [SV.ptr (nat_lit 0) (nat_lit 0), SV.ptr (nat_lit 3) (nat_lit 0)], .row [.int .i64, .int .i64, .int .i64] N F, .lit (.int .i64 (Int.ofNat N)), .lit (.int .i64
      (U.add .i64 j (1 : Int)))], [(nat_lit 0, some (Blk.cells [.row [.int .i64, .int .i64, .int .i64] n f, .lit (.int .i64 k), .lit (.int .i64 s), .lit (.int .i64 h)] (nat_lit 49))),
      (nat_lit 0, some (Blk.cells [.row [.int .i64, .int .i64, .int .i64] m g, .lit (.int .i64 k1), .lit (.int .i64 s1), .lit (.int .i64 h1)] (nat_lit 49))), (nat_lit 0, some (Blk.cells
      [.row [.int .i64, .int .i64, .int .i64] n2 f2, .lit (.int .i64 k2), .lit (.int .i64 s2), .lit (.int .i64 h2)] (nat_lit 49))), (nat_lit 0, some (Blk.cells [SV.own u (nat_lit 4) c]
      (nat_lit 67))), (nat_lit 0, some (Blk.row u c [.sl [.int .i64, .int .i64, .int .i64], .int .i64, .int .i64, .int .i64] L (nat_lit 49))), (nat_lit 1, some (Blk.cells [.lit (.int .i64
      (F (U.toNat j)).1), .lit (.int .i64 (F (U.toNat j)).2.1), .lit (.int .i64 (F (U.toNat j)).2.2.1)] (nat_lit 23))), (nat_lit 1, none), (nat_lit 0, some (Blk.cells [.row [.int .i64,
      .int .i64, .int .i64] (nat_lit 2) (ofList (ss := [.int .i64, .int .i64, .int .i64]) [((F (U.toNat j)).1, (F (U.toNat j)).2.1, (F (U.toNat j)).2.2.1, ()), ((f2 (U.toNat (0 :
      Int))).1, (f2 (U.toNat (0 : Int))).2.1, (f2 (U.toNat (0 : Int))).2.2.1, ())].reverse), .lit (.int .i64 k), .lit (.int .i64 s), .lit (.int .i64 h)] (nat_lit 49)))]))))))) (.ret
      (Ex.exit (nat_lit 2), [SV.ptr (nat_lit 0) (nat_lit 0), SV.ptr (nat_lit 1) (nat_lit 0), SV.ptr (nat_lit 2) (nat_lit 0), SV.ptr (nat_lit 3) (nat_lit 0), SV.fn (Fn.func (nat_lit 159))
      [] [SV.ptr (nat_lit 0) (nat_lit 0), SV.ptr (nat_lit 3) (nat_lit 0)], .row [.int .i64, .int .i64, .int .i64] N F, .lit (.int .i64 (Int.ofNat N)), .lit (.int .i64 j)], [(nat_lit 0,
      some (Blk.cells [.row [.int .i64, .int .i64, .int .i64] n f, .lit (.int .i64 k), .lit (.int .i64 s), .lit (.int .i64 h)] (nat_lit 49))), (nat_lit 0, some (Blk.cells [.row [.int
      .i64, .int .i64, .int .i64] m g, .lit (.int .i64 k1), .lit (.int .i64 s1), .lit (.int .i64 h1)] (nat_lit 49))), (nat_lit 0, some (Blk.cells [.row [.int .i64, .int .i64, .int .i64]
      n2 f2, .lit (.int .i64 k2), .lit (.int .i64 s2), .lit (.int .i64 h2)] (nat_lit 49))), (nat_lit 0, some (Blk.cells [SV.own u (nat_lit 4) c] (nat_lit 67))), (nat_lit 0, some (Blk.row
      u c [.sl [.int .i64, .int .i64, .int .i64], .int .i64, .int .i64, .int .i64] L (nat_lit 49)))])) := by kernel_rfl
theorem isz11 : U.isz (U.nsub 1 1) = true := by rw [U.isz_eq, U.nsub_eq]; rfl
theorem isz21 : U.isz (U.nsub 2 1) = false := by rw [U.isz_eq, U.nsub_eq]; rfl
theorem tnj (j : Nat) : U.toNat (j : Int) = j := tn j
theorem rowS {n : Nat} {f g : Nat → R3} (h : ∀ i, i < n → f i = g i) : sameRow n f g := sameR h
theorem rowL {n : Nat} {f g : Nat → DE} (h : ∀ i, i < n → f i = g i) : sameRow n f g := ⟨eqShs_refl _, fun i hi => h i hi⟩
theorem addj {j : Nat} (h : j < 100000) : U.add .i64 (j : Int) 1 = ((j + 1 : Nat) : Int) := by rw [U.add64 (by unfold I64; omega)]; omega
theorem row1_64 {x : R3} (h : I64 (rA x) ∧ I64 (rB x) ∧ I64 (rC x)) (f : Nat → R3) (hf : f 0 = x) : Row64 1 f := fun i hi => by
  obtain rfl : i = 0 := by omega
  rw [hf]; exact h
theorem row2_64 {x y : R3} (h : I64 (rA x) ∧ I64 (rB x) ∧ I64 (rC x)) (h' : I64 (rA y) ∧ I64 (rB y) ∧ I64 (rC y)) (f : Nat → R3) (hf : f 0 = x) (hf' : f 1 = y) : Row64 2 f := fun i hi => by
  rcases (show i = 0 ∨ i = 1 by omega) with rfl | rfl
  · rw [hf]; exact h
  · rw [hf']; exact h'
theorem c0F_2 {f : Nat → R3} {x : R3} : U.cat 1 (fun _ => x) (fun i => f (i + 1)) = c0F 2 f x := funext fun i => by
  rw [U.cat_eq]
  unfold c0F
  rw [if_neg (show ¬ (2 : Nat) = 1 by omega)]
  by_cases h : i = 0
  · subst h; rfl
  · rw [if_neg (by omega), if_neg h, show i - 1 + 1 = i by omega]
set_option maxHeartbeats 1000000 in
theorem roundAx (n0 : Nat) (q : XDx) (hq : PhiAx n0 q) : ((sx Ed [] n0 (loopOf P 78 13) (mkS 100 [2,3,6,8,9,49,50,51] (VAx q).1, (VAx q).2)).bind (proj 100 [2,3,6,8,9,49,50,51])).All fun r => match r.1 with
      | .normal => ∃ q', PhiAx n0 q' ∧ q'.N - q'.j < q.N - q.j ∧ Wk 100 [2,3,6,8,9,49,50,51] n0 r.2 (VAx q') ∧ ∀ o, o = OAx q' → o = OAx q
      | e => ∃ s, (e, s) = OAx q ∧ Wk 100 [2,3,6,8,9,49,50,51] n0 r.2 s := by
  obtain ⟨n, f, k, s, h, m, g, k1, s1, h1, n2, f2, k2, s2, h2, u, c, L, N, F, j⟩ := q
  obtain ⟨⟨h0, hn, hf, hc, hN, hF⟩, hj⟩ := hq
  simp only [] at h0 hn hf hc hN hF hj
  subst h0
  show ((sx Ed [] 0 (loopOf P 78 13) (mkS 100 [2,3,6,8,9,49,50,51] (slD N F (j : Int)), memD n f k s h m g k1 s1 h1 n2 f2 k2 s2 h2 (aUx n f k s h u c L F j) (aNx n f k s h c L F j) (aLx n f k s h c L F j))).bind (proj 100 [2,3,6,8,9,49,50,51])).All _
  rw [t_DS13]
  have hle := seAx_le n f k s h c L F j
  have e2 := addj (j := j) (by omega)
  have hno : ¬ 0 < szE (cnd0 n f k s h (F j)) → VAx ⟨n, f, k, s, h, m, g, k1, s1, h1, n2, f2, k2, s2, h2, u, c, L, N, F, j + 1⟩ = (slD N F ((j + 1 : Nat) : Int), memD n f k s h m g k1 s1 h1 n2 f2 k2 s2 h2 (aUx n f k s h u c L F j) (aNx n f k s h c L F j) (aLx n f k s h c L F j)) := fun hp => by
    simp only [VAx, aUx, aNx, aLx, seAx_no hp]
  have hyes : 0 < szE (cnd0 n f k s h (F j)) → VAx ⟨n, f, k, s, h, m, g, k1, s1, h1, n2, f2, k2, s2, h2, u, c, L, N, F, j + 1⟩ = (slD N F ((j + 1 : Nat) : Int), memD n f k s h m g k1 s1 h1 n2 f2 k2 s2 h2 false (aNx n f k s h c L F j + 1) (U.cat (aNx n f k s h c L F j) (aLx n f k s h c L F j) fun _ => cnd0 n f k s h (F j))) := fun hp => by
    simp only [VAx, aUx, aNx, aLx, seAx_yes hp, flg_f (show c < (seAx n f k s h c L F j).1 + 1 by omega)]
  have hcN : aNx n f k s h c L F j ≤ c + j := hle.2
  simp only [tn1, tnj, e2]
  by_cases hlt : j < N
  · have hFj := hF j hlt
    refine ⟨fun _ => ⟨by omega, ⟨by omega, by omega, by omega⟩, fun hz => ⟨⟨by omega, by omega⟩, row1_64 hFj _ rfl, fun hs => ⟨by omega, ?_⟩, fun hs => ?_⟩, fun hz => ?_⟩, fun h => absurd (U.lt_f.mp h) (by simp only [Int.ofNat_eq_natCast]; omega)⟩
    · rcases hn with rfl | rfl
      · have hp : 0 < szE (cnd0 1 f k s h (F j)) := by
          have hs := U.gt_t.mp hs
          rw [lk_eq] at hs
          exact hs
        refine ⟨⟨1, f, k, s, h, m, g, k1, s1, h1, n2, f2, k2, s2, h2, u, c, L, N, F, j + 1⟩, ⟨⟨rfl, .inl rfl, hf, hc, hN, hF⟩, by simp only []; omega⟩, by simp only []; omega, ?_, fun o ho => ho⟩
        rw [hyes hp]
        exact wk_of [some 0, some 1, some 2, some 3, some 9] rfl (Nat.zero_le _) (fun b hb => by omega) ⟨⟨rfl, rfl⟩, ⟨rfl, rfl⟩, ⟨rfl, rfl⟩, ⟨rfl, rfl⟩, ⟨rfl, trivial, ⟨rfl, rfl⟩, ⟨rfl, rfl⟩, trivial⟩, ⟨rfl, rowS fun _ _ => rfl⟩, rfl, rfl, trivial⟩
          ⟨⟨rfl, ⟨rfl, rowS fun _ _ => rfl⟩, rfl, rfl, rfl, trivial⟩, ⟨rfl, ⟨rfl, rowS fun _ _ => rfl⟩, rfl, rfl, rfl, trivial⟩, ⟨rfl, ⟨rfl, rowS fun _ _ => rfl⟩, rfl, rfl, rfl, trivial⟩, ⟨rfl, ⟨rfl, rfl, rfl⟩, trivial⟩, ⟨rfl, rfl, rfl, rowL fun i hi => rfl⟩, trivial⟩
      · rw [isz21] at hz; cases hz
    · rcases hn with rfl | rfl
      · have hp : ¬ 0 < szE (cnd0 1 f k s h (F j)) := fun hp => by
          have hs := U.gt_f.mp hs
          rw [lk_eq] at hs
          exact absurd hs (Int.not_le.2 hp)
        refine ⟨⟨1, f, k, s, h, m, g, k1, s1, h1, n2, f2, k2, s2, h2, u, c, L, N, F, j + 1⟩, ⟨⟨rfl, .inl rfl, hf, hc, hN, hF⟩, by simp only []; omega⟩, by simp only []; omega, ?_, fun o ho => ho⟩
        rw [hno hp]
        exact wk_of [some 0, some 1, some 2, some 3, some 4] rfl (Nat.zero_le _) (fun b hb => by omega) ⟨⟨rfl, rfl⟩, ⟨rfl, rfl⟩, ⟨rfl, rfl⟩, ⟨rfl, rfl⟩, ⟨rfl, trivial, ⟨rfl, rfl⟩, ⟨rfl, rfl⟩, trivial⟩, ⟨rfl, rowS fun _ _ => rfl⟩, rfl, rfl, trivial⟩
          ⟨⟨rfl, ⟨rfl, rowS fun _ _ => rfl⟩, rfl, rfl, rfl, trivial⟩, ⟨rfl, ⟨rfl, rowS fun _ _ => rfl⟩, rfl, rfl, rfl, trivial⟩, ⟨rfl, ⟨rfl, rowS fun _ _ => rfl⟩, rfl, rfl, rfl, trivial⟩, ⟨rfl, ⟨rfl, rfl, rfl⟩, trivial⟩, ⟨rfl, rfl, rfl, rowL fun i hi => rfl⟩, trivial⟩
      · rw [isz21] at hz; cases hz
    · rcases hn with rfl | rfl
      · rw [isz11] at hz; cases hz
      · have ec : U.cat 1 (fun _ => F j) (fun i => f (i + 1)) = c0F 2 f (F j) := c0F_2
        have e3 : U.nsub 2 1 = 1 := by rw [U.nsub_eq]
        have f0 : c0F 2 f (F j) 0 = F j := rfl
        have f1 : c0F 2 f (F j) 1 = f 1 := rfl
        refine ⟨⟨by omega, by omega⟩, ⟨by omega, by omega⟩, ?_, fun hs => ⟨by omega, ?_⟩, fun hs => ?_⟩
        · rw [e3]
          exact row2_64 hFj (hf 1 (by omega)) _ ((U.cat_eq _ _ _ _).trans rfl) ((U.cat_eq _ _ _ _).trans ((if_neg (by omega)).trans (congrFun (cutF_some (.ki .i64 1) f 1) (1 - 1))))
        · have hp : 0 < szE (cnd0 2 f k s h (F j)) := by
            have hs := U.gt_t.mp hs
            rw [e3, lk_eq] at hs
            erw [ec] at hs
            exact hs
          refine ⟨⟨2, f, k, s, h, m, g, k1, s1, h1, n2, f2, k2, s2, h2, u, c, L, N, F, j + 1⟩, ⟨⟨rfl, .inr rfl, hf, hc, hN, hF⟩, by simp only []; omega⟩, by simp only []; omega, ?_, fun o ho => ho⟩
          rw [hyes hp]
          refine wk_of [some 0, some 1, some 2, some 3, some 10] rfl (Nat.zero_le _) (fun b hb => by omega) ⟨⟨rfl, rfl⟩, ⟨rfl, rfl⟩, ⟨rfl, rfl⟩, ⟨rfl, rfl⟩, ⟨rfl, trivial, ⟨rfl, rfl⟩, ⟨rfl, rfl⟩, trivial⟩, ⟨rfl, rowS fun _ _ => rfl⟩, rfl, rfl, trivial⟩
            ⟨⟨rfl, ⟨rfl, rowS fun _ _ => rfl⟩, rfl, rfl, rfl, trivial⟩, ⟨rfl, ⟨rfl, rowS fun _ _ => rfl⟩, rfl, rfl, rfl, trivial⟩, ⟨rfl, ⟨rfl, rowS fun _ _ => rfl⟩, rfl, rfl, rfl, trivial⟩, ⟨rfl, ⟨rfl, rfl, rfl⟩, trivial⟩, ⟨rfl, rfl, rfl, rowL fun i hi => ?_⟩, trivial⟩
          rw [e3]
          erw [ec]
          rfl
        · have hp : ¬ 0 < szE (cnd0 2 f k s h (F j)) := fun hp => by
            have hs := U.gt_f.mp hs
            rw [e3, lk_eq] at hs
            erw [ec] at hs
            exact absurd hs (Int.not_le.2 hp)
          refine ⟨⟨2, f, k, s, h, m, g, k1, s1, h1, n2, f2, k2, s2, h2, u, c, L, N, F, j + 1⟩, ⟨⟨rfl, .inr rfl, hf, hc, hN, hF⟩, by simp only []; omega⟩, by simp only []; omega, ?_, fun o ho => ho⟩
          rw [hno hp]
          exact wk_of [some 0, some 1, some 2, some 3, some 4] rfl (Nat.zero_le _) (fun b hb => by omega) ⟨⟨rfl, rfl⟩, ⟨rfl, rfl⟩, ⟨rfl, rfl⟩, ⟨rfl, rfl⟩, ⟨rfl, trivial, ⟨rfl, rfl⟩, ⟨rfl, rfl⟩, trivial⟩, ⟨rfl, rowS fun _ _ => rfl⟩, rfl, rfl, trivial⟩
            ⟨⟨rfl, ⟨rfl, rowS fun _ _ => rfl⟩, rfl, rfl, rfl, trivial⟩, ⟨rfl, ⟨rfl, rowS fun _ _ => rfl⟩, rfl, rfl, rfl, trivial⟩, ⟨rfl, ⟨rfl, rowS fun _ _ => rfl⟩, rfl, rfl, rfl, trivial⟩, ⟨rfl, ⟨rfl, rfl, rfl⟩, trivial⟩, ⟨rfl, rfl, rfl, rowL fun i hi => rfl⟩, trivial⟩
  · obtain rfl : j = N := by omega
    refine ⟨fun h => absurd (U.lt_t.mp h) (by simp only [Int.ofNat_eq_natCast]; omega), fun _ => ⟨_, rfl, ?_⟩⟩
    exact wk_of [some 0, some 1, some 2, some 3, some 4] rfl (Nat.zero_le _) (fun b hb => by omega) ⟨⟨rfl, rfl⟩, ⟨rfl, rfl⟩, ⟨rfl, rfl⟩, ⟨rfl, rfl⟩, ⟨rfl, trivial, ⟨rfl, rfl⟩, ⟨rfl, rfl⟩, trivial⟩, trivial, trivial, trivial, trivial⟩
      ⟨⟨rfl, ⟨rfl, rowS fun _ _ => rfl⟩, rfl, rfl, rfl, trivial⟩, ⟨rfl, ⟨rfl, rowS fun _ _ => rfl⟩, rfl, rfl, rfl, trivial⟩, ⟨rfl, ⟨rfl, rowS fun _ _ => rfl⟩, rfl, rfl, rfl, trivial⟩, ⟨rfl, ⟨rfl, rfl, rfl⟩, trivial⟩, ⟨rfl, rfl, rfl, rowL fun i hi => rfl⟩, trivial⟩
set_option maxHeartbeats 1000000 in
theorem roundBx (n0 : Nat) (q : XDx) (hq : PhiBx n0 q) : ((sx Ed [] n0 (loopOf P 78 23) (mkS 100 [2,3,6,8,9,84,85,86] (VBx q).1, (VBx q).2)).bind (proj 100 [2,3,6,8,9,84,85,86])).All fun r => match r.1 with
      | .normal => ∃ q', PhiBx n0 q' ∧ q'.N - q'.j < q.N - q.j ∧ Wk 100 [2,3,6,8,9,84,85,86] n0 r.2 (VBx q') ∧ ∀ o, o = OBx q' → o = OBx q
      | e => ∃ s, (e, s) = OBx q ∧ Wk 100 [2,3,6,8,9,84,85,86] n0 r.2 s := by
  obtain ⟨n, f, k, s, h, m, g, k1, s1, h1, n2, f2, k2, s2, h2, u, c, L, N, F, j⟩ := q
  obtain ⟨⟨h0, hn, hf, hc, hN, hF⟩, hj⟩ := hq
  simp only [] at h0 hn hf hc hN hF hj
  subst h0; subst hn
  show ((sx Ed [] 0 (loopOf P 78 23) (mkS 100 [2,3,6,8,9,84,85,86] (slD N F (j : Int)), memD n f k s h m g k1 s1 h1 2 f2 k2 s2 h2 (bUx k s h (f2 0) u c L F j) (bNx k s h (f2 0) c L F j) (bLx k s h (f2 0) c L F j))).bind (proj 100 [2,3,6,8,9,84,85,86])).All _
  rw [t_DS23]
  have hle := seBx_le k s h (f2 0) c L F j
  have e2 := addj (j := j) (by omega)
  have hno : ¬ 0 < szE (cnd1 k s h (f2 0) (F j)) → VBx ⟨n, f, k, s, h, m, g, k1, s1, h1, 2, f2, k2, s2, h2, u, c, L, N, F, j + 1⟩ = (slD N F ((j + 1 : Nat) : Int), memD n f k s h m g k1 s1 h1 2 f2 k2 s2 h2 (bUx k s h (f2 0) u c L F j) (bNx k s h (f2 0) c L F j) (bLx k s h (f2 0) c L F j)) := fun hp => by
    simp only [VBx, bUx, bNx, bLx, seBx_no hp]
  have hyes : 0 < szE (cnd1 k s h (f2 0) (F j)) → VBx ⟨n, f, k, s, h, m, g, k1, s1, h1, 2, f2, k2, s2, h2, u, c, L, N, F, j + 1⟩ = (slD N F ((j + 1 : Nat) : Int), memD n f k s h m g k1 s1 h1 2 f2 k2 s2 h2 false (bNx k s h (f2 0) c L F j + 1) (U.cat (bNx k s h (f2 0) c L F j) (bLx k s h (f2 0) c L F j) fun _ => cnd1 k s h (f2 0) (F j))) := fun hp => by
    simp only [VBx, bUx, bNx, bLx, seBx_yes hp, flg_f (show c < (seBx k s h (f2 0) c L F j).1 + 1 by omega)]
  have hcN : bNx k s h (f2 0) c L F j ≤ c + j := hle.2
  simp only [tn1, tn0, tnj, e2]
  by_cases hlt : j < N
  · have hFj := hF j hlt
    refine ⟨fun _ => ⟨by omega, ⟨by omega, by omega⟩, ⟨by omega, by omega⟩, row2_64 (hf 0 (by omega)) hFj _ rfl rfl, fun hs => ⟨by omega, ?_⟩, fun hs => ?_⟩, fun h => absurd (U.lt_f.mp h) (by simp only [Int.ofNat_eq_natCast]; omega)⟩
    · have hp : 0 < szE (cnd1 k s h (f2 0) (F j)) := by
        have hs := U.gt_t.mp hs
        rw [lk_eq] at hs
        exact hs
      refine ⟨⟨n, f, k, s, h, m, g, k1, s1, h1, 2, f2, k2, s2, h2, u, c, L, N, F, j + 1⟩, ⟨⟨rfl, rfl, hf, hc, hN, hF⟩, by simp only []; omega⟩, by simp only []; omega, ?_, fun o ho => ho⟩
      rw [hyes hp]
      exact wk_of [some 0, some 1, some 2, some 3, some 9] rfl (Nat.zero_le _) (fun b hb => by omega) ⟨⟨rfl, rfl⟩, ⟨rfl, rfl⟩, ⟨rfl, rfl⟩, ⟨rfl, rfl⟩, ⟨rfl, trivial, ⟨rfl, rfl⟩, ⟨rfl, rfl⟩, trivial⟩, ⟨rfl, rowS fun _ _ => rfl⟩, rfl, rfl, trivial⟩
        ⟨⟨rfl, ⟨rfl, rowS fun _ _ => rfl⟩, rfl, rfl, rfl, trivial⟩, ⟨rfl, ⟨rfl, rowS fun _ _ => rfl⟩, rfl, rfl, rfl, trivial⟩, ⟨rfl, ⟨rfl, rowS fun _ _ => rfl⟩, rfl, rfl, rfl, trivial⟩, ⟨rfl, ⟨rfl, rfl, rfl⟩, trivial⟩, ⟨rfl, rfl, rfl, rowL fun i hi => rfl⟩, trivial⟩
    · have hp : ¬ 0 < szE (cnd1 k s h (f2 0) (F j)) := fun hp => by
        have hs := U.gt_f.mp hs
        rw [lk_eq] at hs
        exact absurd hs (Int.not_le.2 hp)
      refine ⟨⟨n, f, k, s, h, m, g, k1, s1, h1, 2, f2, k2, s2, h2, u, c, L, N, F, j + 1⟩, ⟨⟨rfl, rfl, hf, hc, hN, hF⟩, by simp only []; omega⟩, by simp only []; omega, ?_, fun o ho => ho⟩
      rw [hno hp]
      exact wk_of [some 0, some 1, some 2, some 3, some 4] rfl (Nat.zero_le _) (fun b hb => by omega) ⟨⟨rfl, rfl⟩, ⟨rfl, rfl⟩, ⟨rfl, rfl⟩, ⟨rfl, rfl⟩, ⟨rfl, trivial, ⟨rfl, rfl⟩, ⟨rfl, rfl⟩, trivial⟩, ⟨rfl, rowS fun _ _ => rfl⟩, rfl, rfl, trivial⟩
        ⟨⟨rfl, ⟨rfl, rowS fun _ _ => rfl⟩, rfl, rfl, rfl, trivial⟩, ⟨rfl, ⟨rfl, rowS fun _ _ => rfl⟩, rfl, rfl, rfl, trivial⟩, ⟨rfl, ⟨rfl, rowS fun _ _ => rfl⟩, rfl, rfl, rfl, trivial⟩, ⟨rfl, ⟨rfl, rfl, rfl⟩, trivial⟩, ⟨rfl, rfl, rfl, rowL fun i hi => rfl⟩, trivial⟩
  · obtain rfl : j = N := by omega
    refine ⟨fun h => absurd (U.lt_t.mp h) (by simp only [Int.ofNat_eq_natCast]; omega), fun _ => ⟨_, rfl, ?_⟩⟩
    exact wk_of [some 0, some 1, some 2, some 3, some 4] rfl (Nat.zero_le _) (fun b hb => by omega) ⟨⟨rfl, rfl⟩, ⟨rfl, rfl⟩, ⟨rfl, rfl⟩, ⟨rfl, rfl⟩, ⟨rfl, trivial, ⟨rfl, rfl⟩, ⟨rfl, rfl⟩, trivial⟩, trivial, trivial, trivial, trivial⟩
      ⟨⟨rfl, ⟨rfl, rowS fun _ _ => rfl⟩, rfl, rfl, rfl, trivial⟩, ⟨rfl, ⟨rfl, rowS fun _ _ => rfl⟩, rfl, rfl, rfl, trivial⟩, ⟨rfl, ⟨rfl, rowS fun _ _ => rfl⟩, rfl, rfl, rfl, trivial⟩, ⟨rfl, ⟨rfl, rfl, rfl⟩, trivial⟩, ⟨rfl, rfl, rfl, rowL fun i hi => rfl⟩, trivial⟩
set_option maxHeartbeats 1000000 in
theorem loopAx : LoopOK P (loopOf P 78 13) (few 100 [2,3,6,8,9,49,50,51] gAx) :=
  loop_few (E := Ed) mixed Ed_ok loopsOK_none 100 [2,3,6,8,9,49,50,51] (X := XDx) gAx (fun _ x => VAx x) PhiAx (fun q => q.N - q.j) (fun _ x o => o = OAx x)
    (fun n0 st r h => by
      unfold gAx at h
      split at h
      · rename_i n0 N F l e0 n f k s h' e1 m g k1 s1 h1 e2 n2 f2 k2 s2 h2 e3
        obtain ⟨hp, hl⟩ := (T.is_ask h).1
        obtain rfl := T.is_ret (T.is_ask h).2
        have hp' := hp
        obtain ⟨h0, _⟩ := hp'
        subst h0; subst hl
        refine ⟨⟨n, f, k, s, h', m, g, k1, s1, h1, n2, f2, k2, s2, h2, true, 0, noL, N, F, 0⟩, ⟨hp, Nat.zero_le _⟩, ?_, fun o ho => by rw [ho]; simp only [OAx, oAx, lk_eq]⟩
        exact wk_of [some 0, some 1, some 2, some 3, none] rfl (Nat.zero_le _) (fun b hb => by omega) ⟨⟨rfl, rfl⟩, ⟨rfl, rfl⟩, ⟨rfl, rfl⟩, ⟨rfl, rfl⟩, ⟨rfl, trivial, ⟨rfl, rfl⟩, ⟨rfl, rfl⟩, trivial⟩, ⟨rfl, rowS fun _ _ => rfl⟩, rfl, rfl, trivial⟩
          ⟨⟨rfl, ⟨rfl, rowS fun _ _ => rfl⟩, rfl, rfl, rfl, trivial⟩, ⟨rfl, ⟨rfl, rowS fun _ _ => rfl⟩, rfl, rfl, rfl, trivial⟩, ⟨rfl, ⟨rfl, rowS fun _ _ => rfl⟩, rfl, rfl, rfl, trivial⟩, ⟨rfl, ⟨rfl, rfl, rfl⟩, trivial⟩, ⟨rfl, rfl⟩, trivial⟩
      · exact h.elim)
    roundAx
set_option maxHeartbeats 1000000 in
theorem loopBx : LoopOK P (loopOf P 78 23) (few 100 [2,3,6,8,9,84,85,86] gBx) :=
  loop_few (E := Ed) mixed Ed_ok loopsOK_none 100 [2,3,6,8,9,84,85,86] (X := XDx) gBx (fun _ x => VBx x) PhiBx (fun q => q.N - q.j) (fun _ x o => o = OBx x)
    (fun n0 st r h => by
      obtain ⟨sl, mm⟩ := st
      unfold gBx at h
      dsimp only at h
      split at h
      rotate_left
      · exact h.elim
      rename_i N F l
      unfold gBy at h
      split at h
      · rename_i e0 n f k s h' t0 e1 m g k1 s1 h1 t1 e2 n2 f2 k2 s2 h2 t2 e3 u c t3 e4 u' c' ss L t4
        by_cases e : eqShs ss ssD = true
        rotate_left
        · rw [dif_neg e] at h; exact h.elim
        rw [dif_pos e] at h
        have es := eqShs_eq _ _ e
        subst es
        obtain ⟨hp, hl, hu, hc, rfl, rfl, rfl, rfl, rfl⟩ := (T.is_ask h).1
        obtain rfl := T.is_ret (T.is_ask h).2
        have hp' := hp
        obtain ⟨h0, _⟩ := hp'
        subst h0; subst hl; subst hu; subst hc
        refine ⟨⟨n, f, k, s, h', m, g, k1, s1, h1, n2, f2, k2, s2, h2, u', c', L, N, F, 0⟩, ⟨hp, Nat.zero_le _⟩, ?_, fun o ho => by rw [ho]; simp only [OBx, oBx, lk_eq]; rfl⟩
        have e0 : bUx k s h' (f2 0) u' c' L F 0 = u' := by show (u' && decide (c' = c')) = u'; simp
        have hV : VBx ⟨n, f, k, s, h', m, g, k1, s1, h1, n2, f2, k2, s2, h2, u', c', L, N, F, 0⟩ = (slD N F 0, memD n f k s h' m g k1 s1 h1 n2 f2 k2 s2 h2 u' c' L) := by
          simp only [VBx, e0]; rfl
        rw [hV]
        exact wk_of [some 0, some 1, some 2, some 3, some 4] rfl (Nat.zero_le _) (fun b hb => by omega) ⟨⟨rfl, rfl⟩, ⟨rfl, rfl⟩, ⟨rfl, rfl⟩, ⟨rfl, rfl⟩, ⟨rfl, trivial, ⟨rfl, rfl⟩, ⟨rfl, rfl⟩, trivial⟩, ⟨rfl, rowS fun _ _ => rfl⟩, rfl, rfl, trivial⟩
          ⟨⟨rfl, ⟨rfl, rowS fun _ _ => rfl⟩, rfl, rfl, rfl, trivial⟩, ⟨rfl, ⟨rfl, rowS fun _ _ => rfl⟩, rfl, rfl, rfl, trivial⟩, ⟨rfl, ⟨rfl, rowS fun _ _ => rfl⟩, rfl, rfl, rfl, trivial⟩, ⟨rfl, ⟨rfl, rfl, rfl⟩, trivial⟩, ⟨rfl, rfl, rfl, rowL fun i hi => rfl⟩, trivial⟩
      · exact h.elim)
    roundBx
theorem lDS_ok : ∀ p ∈ lDS, LoopsOK P p.2 (bodyOf P p.1) := by
  intro p hp
  simp only [lDS, List.mem_singleton] at hp
  subst hp
  refine loopsOK_of (by kernel_rfl) fun k g hk => ?_
  simp only [List.mem_cons, List.not_mem_nil, or_false, Prod.mk.injEq, LoopC.sum.injEq] at hk
  rcases hk with ⟨rfl, rfl⟩ | ⟨rfl, rfl⟩
  · exact loopAx
  · exact loopBx
set_option maxRecDepth 100000 in
theorem t_DSubtract (n : Nat) (f : Nat → R3) (k s h : Int) (m : Nat) (g : Nat → R3) (k1 s1 h1 : Int) : conB Go.Proofs.Try.prog (conOf d14s) (loopsOf lDS) 10 78 [.agg [.row [.int .i64, .int .i64, .int .i64] n f, .lit (.int .i64 k), .lit (.int .i64 s), .lit (.int .i64 h)], .agg [.row [.int .i64, .int .i64, .int .i64] m g, .lit (.int .i64 k1), .lit (.int .i64 s1), .lit (.int .i64 h1)]] =
    T.ask (Row64 n f ∧ Row64 m g) (.br (U.ne (lk boE n f k s h m g k1 s1 h1) (0 : Int)) (.ret (.tup [.lit (.slice none (nat_lit 0) (nat_lit 0)), .lit (.int .i64 (lk boE n f k s h m g k1
      s1 h1))])) (.ask (Row64 (lk diN n f k s h m g k1 s1 h1) (lk diF f g)) (.br (U.eq (lk szD (lk diN n f k s h m g k1 s1 h1) (lk diF f g) (lk diX n f k s h m g k1 s1 h1 k) (lk diX n f k
      s h m g k1 s1 h1 s) (lk diX n f k s h m g k1 s1 h1 h)) (0 : Int)) (.ask ((0 : Nat) < n ∧ n ≤ (10000 : Nat)) (.ask (Row64 n f) (.br (U.gt (lk szD n f k s h) (0 : Int)) (.ask ((1 :
      Nat) * nat_lit 48 ≤ nat_lit 140737488351232) (.ret (.tup [.row [.sl [.int .i64, .int .i64, .int .i64], .int .i64, .int .i64, .int .i64] (nat_lit 1) fun x => ((n, f), k, s, h,
      PUnit.unit), .lit (.int .i64 0)]))) (.ret (.tup [.lit (.slice none (nat_lit 0) (nat_lit 0)), .lit (.int .i64 0)]))))) (.ask ((0 : Int) ≤ (0 : Int) ∧ (0 : Int) < ↑n) (.ask ((0 : Int)
      ≤ (0 : Int) ∧ (0 : Int) < ↑m) (.ask (I64 (f (U.toNat (0 : Int))).1 ∧ I64 (f (U.toNat (0 : Int))).2.1 ∧ I64 (f (U.toNat (0 : Int))).2.2.1 ∧ I64 (g (U.toNat (0 : Int))).1 ∧ I64 (g
      (U.toNat (0 : Int))).2.1 ∧ I64 (g (U.toNat (0 : Int))).2.2.1) (.br (U.ne (lk sbE (f (U.toNat (0 : Int))).1 (f (U.toNat (0 : Int))).2.1 (f (U.toNat (0 : Int))).2.2.1 (g (U.toNat (0 :
      Int))).1 (g (U.toNat (0 : Int))).2.1 (g (U.toNat (0 : Int))).2.2.1) (0 : Int)) (.ret (.tup [.lit (.slice none (nat_lit 0) (nat_lit 0)), .lit (.int .i64 (lk sbE (f (U.toNat (0 :
      Int))).1 (f (U.toNat (0 : Int))).2.1 (f (U.toNat (0 : Int))).2.2.1 (g (U.toNat (0 : Int))).1 (g (U.toNat (0 : Int))).2.1 (g (U.toNat (0 : Int))).2.2.1))])) (.ask (PreAx (nat_lit 0)
      n f (0 : Nat) (lk sbN (f (U.toNat (0 : Int))).1 (f (U.toNat (0 : Int))).2.1 (f (U.toNat (0 : Int))).2.2.1 (g (U.toNat (0 : Int))).1 (g (U.toNat (0 : Int))).2.1 (g (U.toNat (0 :
      Int))).2.2.1) (lk sbF (f (U.toNat (0 : Int))).1 (f (U.toNat (0 : Int))).2.1 (f (U.toNat (0 : Int))).2.2.1 (g (U.toNat (0 : Int))).1 (g (U.toNat (0 : Int))).2.1 (g (U.toNat (0 :
      Int))).2.2.1) ∧ ↑(lk sbN (f (U.toNat (0 : Int))).1 (f (U.toNat (0 : Int))).2.1 (f (U.toNat (0 : Int))).2.2.1 (g (U.toNat (0 : Int))).1 (g (U.toNat (0 : Int))).2.1 (g (U.toNat (0 :
      Int))).2.2.1) = Int.ofNat (lk sbN (f (U.toNat (0 : Int))).1 (f (U.toNat (0 : Int))).2.1 (f (U.toNat (0 : Int))).2.2.1 (g (U.toNat (0 : Int))).1 (g (U.toNat (0 : Int))).2.1 (g
      (U.toNat (0 : Int))).2.2.1)) (.br (U.eq (Int.ofNat n) (1 : Int)) (.ret (.tup [.row [.sl [.int .i64, .int .i64, .int .i64], .int .i64, .int .i64, .int .i64] (lk aNx n f k s h
      (nat_lit 0) (lk noL) (lk sbF (f (U.toNat (0 : Int))).1 (f (U.toNat (0 : Int))).2.1 (f (U.toNat (0 : Int))).2.2.1 (g (U.toNat (0 : Int))).1 (g (U.toNat (0 : Int))).2.1 (g (U.toNat (0
      : Int))).2.2.1) (lk sbN (f (U.toNat (0 : Int))).1 (f (U.toNat (0 : Int))).2.1 (f (U.toNat (0 : Int))).2.2.1 (g (U.toNat (0 : Int))).1 (g (U.toNat (0 : Int))).2.1 (g (U.toNat (0 :
      Int))).2.2.1)) (lk aLx n f k s h (nat_lit 0) (lk noL) (lk sbF (f (U.toNat (0 : Int))).1 (f (U.toNat (0 : Int))).2.1 (f (U.toNat (0 : Int))).2.2.1 (g (U.toNat (0 : Int))).1 (g
      (U.toNat (0 : Int))).2.1 (g (U.toNat (0 : Int))).2.2.1) (lk sbN (f (U.toNat (0 : Int))).1 (f (U.toNat (0 : Int))).2.1 (f (U.toNat (0 : Int))).2.2.1 (g (U.toNat (0 : Int))).1 (g
      (U.toNat (0 : Int))).2.1 (g (U.toNat (0 : Int))).2.2.1)), .lit (.int .i64 0)])) (.ask ((0 : Int) ≤ (1 : Int) ∧ (1 : Int) < ↑n) (.ask ((0 : Int) ≤ (1 : Int) ∧ (1 : Int) < ↑m) (.ask
      (I64 (f (U.toNat (1 : Int))).1 ∧ I64 (f (U.toNat (1 : Int))).2.1 ∧ I64 (f (U.toNat (1 : Int))).2.2.1 ∧ I64 (g (U.toNat (1 : Int))).1 ∧ I64 (g (U.toNat (1 : Int))).2.1 ∧ I64 (g
      (U.toNat (1 : Int))).2.2.1) (.br (U.ne (lk sbE (f (U.toNat (1 : Int))).1 (f (U.toNat (1 : Int))).2.1 (f (U.toNat (1 : Int))).2.2.1 (g (U.toNat (1 : Int))).1 (g (U.toNat (1 :
      Int))).2.1 (g (U.toNat (1 : Int))).2.2.1) (0 : Int)) (.ret (.tup [.lit (.slice none (nat_lit 0) (nat_lit 0)), .lit (.int .i64 (lk sbE (f (U.toNat (1 : Int))).1 (f (U.toNat (1 :
      Int))).2.1 (f (U.toNat (1 : Int))).2.2.1 (g (U.toNat (1 : Int))).1 (g (U.toNat (1 : Int))).2.1 (g (U.toNat (1 : Int))).2.2.1))])) (.ask (PreBx (nat_lit 0) (lk diN n f k s h m g k1
      s1 h1) (lk diF f g) (lk aNx n f k s h (nat_lit 0) (lk noL) (lk sbF (f (U.toNat (0 : Int))).1 (f (U.toNat (0 : Int))).2.1 (f (U.toNat (0 : Int))).2.2.1 (g (U.toNat (0 : Int))).1 (g
      (U.toNat (0 : Int))).2.1 (g (U.toNat (0 : Int))).2.2.1) (lk sbN (f (U.toNat (0 : Int))).1 (f (U.toNat (0 : Int))).2.1 (f (U.toNat (0 : Int))).2.2.1 (g (U.toNat (0 : Int))).1 (g
      (U.toNat (0 : Int))).2.1 (g (U.toNat (0 : Int))).2.2.1)) (lk sbN (f (U.toNat (1 : Int))).1 (f (U.toNat (1 : Int))).2.1 (f (U.toNat (1 : Int))).2.2.1 (g (U.toNat (1 : Int))).1 (g
      (U.toNat (1 : Int))).2.1 (g (U.toNat (1 : Int))).2.2.1) (lk sbF (f (U.toNat (1 : Int))).1 (f (U.toNat (1 : Int))).2.1 (f (U.toNat (1 : Int))).2.2.1 (g (U.toNat (1 : Int))).1 (g
      (U.toNat (1 : Int))).2.1 (g (U.toNat (1 : Int))).2.2.1) ∧ ↑(lk sbN (f (U.toNat (1 : Int))).1 (f (U.toNat (1 : Int))).2.1 (f (U.toNat (1 : Int))).2.2.1 (g (U.toNat (1 : Int))).1 (g
      (U.toNat (1 : Int))).2.1 (g (U.toNat (1 : Int))).2.2.1) = Int.ofNat (lk sbN (f (U.toNat (1 : Int))).1 (f (U.toNat (1 : Int))).2.1 (f (U.toNat (1 : Int))).2.2.1 (g (U.toNat (1 :
      Int))).1 (g (U.toNat (1 : Int))).2.1 (g (U.toNat (1 : Int))).2.2.1) ∧ lk aUx n f k s h true (nat_lit 0) (lk noL) (lk sbF (f (U.toNat (0 : Int))).1 (f (U.toNat (0 : Int))).2.1 (f
      (U.toNat (0 : Int))).2.2.1 (g (U.toNat (0 : Int))).1 (g (U.toNat (0 : Int))).2.1 (g (U.toNat (0 : Int))).2.2.1) (lk sbN (f (U.toNat (0 : Int))).1 (f (U.toNat (0 : Int))).2.1 (f
      (U.toNat (0 : Int))).2.2.1 (g (U.toNat (0 : Int))).1 (g (U.toNat (0 : Int))).2.1 (g (U.toNat (0 : Int))).2.2.1) = lk aUx n f k s h true (nat_lit 0) (lk noL) (lk sbF (f (U.toNat (0 :
      Int))).1 (f (U.toNat (0 : Int))).2.1 (f (U.toNat (0 : Int))).2.2.1 (g (U.toNat (0 : Int))).1 (g (U.toNat (0 : Int))).2.1 (g (U.toNat (0 : Int))).2.2.1) (lk sbN (f (U.toNat (0 :
      Int))).1 (f (U.toNat (0 : Int))).2.1 (f (U.toNat (0 : Int))).2.2.1 (g (U.toNat (0 : Int))).1 (g (U.toNat (0 : Int))).2.1 (g (U.toNat (0 : Int))).2.2.1) ∧ lk aNx n f k s h (nat_lit
      0) (lk noL) (lk sbF (f (U.toNat (0 : Int))).1 (f (U.toNat (0 : Int))).2.1 (f (U.toNat (0 : Int))).2.2.1 (g (U.toNat (0 : Int))).1 (g (U.toNat (0 : Int))).2.1 (g (U.toNat (0 :
      Int))).2.2.1) (lk sbN (f (U.toNat (0 : Int))).1 (f (U.toNat (0 : Int))).2.1 (f (U.toNat (0 : Int))).2.2.1 (g (U.toNat (0 : Int))).1 (g (U.toNat (0 : Int))).2.1 (g (U.toNat (0 :
      Int))).2.2.1) = lk aNx n f k s h (nat_lit 0) (lk noL) (lk sbF (f (U.toNat (0 : Int))).1 (f (U.toNat (0 : Int))).2.1 (f (U.toNat (0 : Int))).2.2.1 (g (U.toNat (0 : Int))).1 (g
      (U.toNat (0 : Int))).2.1 (g (U.toNat (0 : Int))).2.2.1) (lk sbN (f (U.toNat (0 : Int))).1 (f (U.toNat (0 : Int))).2.1 (f (U.toNat (0 : Int))).2.2.1 (g (U.toNat (0 : Int))).1 (g
      (U.toNat (0 : Int))).2.1 (g (U.toNat (0 : Int))).2.2.1) ∧ (49 : TypeId) = (49 : TypeId) ∧ (49 : TypeId) = (49 : TypeId) ∧ (49 : TypeId) = (49 : TypeId) ∧ (67 : TypeId) = (67 :
      TypeId) ∧ (49 : TypeId) = (49 : TypeId)) (.ret (.tup [.row [.sl [.int .i64, .int .i64, .int .i64], .int .i64, .int .i64, .int .i64] (lk bNx k s h (lk diF f g (nat_lit 0)) (lk aNx n
      f k s h (nat_lit 0) (lk noL) (lk sbF (f (U.toNat (0 : Int))).1 (f (U.toNat (0 : Int))).2.1 (f (U.toNat (0 : Int))).2.2.1 (g (U.toNat (0 : Int))).1 (g (U.toNat (0 : Int))).2.1 (g
      (U.toNat (0 : Int))).2.2.1) (lk sbN (f (U.toNat (0 : Int))).1 (f (U.toNat (0 : Int))).2.1 (f (U.toNat (0 : Int))).2.2.1 (g (U.toNat (0 : Int))).1 (g (U.toNat (0 : Int))).2.1 (g
      (U.toNat (0 : Int))).2.2.1)) (lk aLx n f k s h (nat_lit 0) (lk noL) (lk sbF (f (U.toNat (0 : Int))).1 (f (U.toNat (0 : Int))).2.1 (f (U.toNat (0 : Int))).2.2.1 (g (U.toNat (0 :
      Int))).1 (g (U.toNat (0 : Int))).2.1 (g (U.toNat (0 : Int))).2.2.1) (lk sbN (f (U.toNat (0 : Int))).1 (f (U.toNat (0 : Int))).2.1 (f (U.toNat (0 : Int))).2.2.1 (g (U.toNat (0 :
      Int))).1 (g (U.toNat (0 : Int))).2.1 (g (U.toNat (0 : Int))).2.2.1)) (lk sbF (f (U.toNat (1 : Int))).1 (f (U.toNat (1 : Int))).2.1 (f (U.toNat (1 : Int))).2.2.1 (g (U.toNat (1 :
      Int))).1 (g (U.toNat (1 : Int))).2.1 (g (U.toNat (1 : Int))).2.2.1) (lk sbN (f (U.toNat (1 : Int))).1 (f (U.toNat (1 : Int))).2.1 (f (U.toNat (1 : Int))).2.2.1 (g (U.toNat (1 :
      Int))).1 (g (U.toNat (1 : Int))).2.1 (g (U.toNat (1 : Int))).2.2.1)) (lk bLx k s h (lk diF f g (nat_lit 0)) (lk aNx n f k s h (nat_lit 0) (lk noL) (lk sbF (f (U.toNat (0 : Int))).1
      (f (U.toNat (0 : Int))).2.1 (f (U.toNat (0 : Int))).2.2.1 (g (U.toNat (0 : Int))).1 (g (U.toNat (0 : Int))).2.1 (g (U.toNat (0 : Int))).2.2.1) (lk sbN (f (U.toNat (0 : Int))).1 (f
      (U.toNat (0 : Int))).2.1 (f (U.toNat (0 : Int))).2.2.1 (g (U.toNat (0 : Int))).1 (g (U.toNat (0 : Int))).2.1 (g (U.toNat (0 : Int))).2.2.1)) (lk aLx n f k s h (nat_lit 0) (lk noL)
      (lk sbF (f (U.toNat (0 : Int))).1 (f (U.toNat (0 : Int))).2.1 (f (U.toNat (0 : Int))).2.2.1 (g (U.toNat (0 : Int))).1 (g (U.toNat (0 : Int))).2.1 (g (U.toNat (0 : Int))).2.2.1) (lk
      sbN (f (U.toNat (0 : Int))).1 (f (U.toNat (0 : Int))).2.1 (f (U.toNat (0 : Int))).2.2.1 (g (U.toNat (0 : Int))).1 (g (U.toNat (0 : Int))).2.1 (g (U.toNat (0 : Int))).2.2.1)) (lk sbF
      (f (U.toNat (1 : Int))).1 (f (U.toNat (1 : Int))).2.1 (f (U.toNat (1 : Int))).2.2.1 (g (U.toNat (1 : Int))).1 (g (U.toNat (1 : Int))).2.1 (g (U.toNat (1 : Int))).2.2.1) (lk sbN (f
      (U.toNat (1 : Int))).1 (f (U.toNat (1 : Int))).2.1 (f (U.toNat (1 : Int))).2.2.1 (g (U.toNat (1 : Int))).1 (g (U.toNat (1 : Int))).2.1 (g (U.toNat (1 : Int))).2.2.1)), .lit (.int
      .i64 0)])))))))))))))))) := by kernel_rfl
end Go.RX.Span

/- Domains: Subtract of the program: what it returns. -/
set_option linter.unusedVariables false
set_option linter.unusedSimpArgs false
set_option maxRecDepth 100000
namespace Go.RX.Span
open Go Go.RX
attribute [local irreducible] sx conB

theorem pc_64 {f s C c : Int} (hs : 0 ≤ s ∨ C ≤ 0) : I64 (rA (pc f s C c)) ∧ I64 (rB (pc f s C c)) ∧ I64 (rC (pc f s C c)) := by
  show I64 (mvLow f s C) ∧ I64 (mvHigh f s C) ∧ I64 (mvStr f s C c)
  unfold mvLow mvHigh mvStr
  by_cases h : C ≤ 0
  · rw [if_pos h, if_pos h, if_pos h]; unfold I64; omega
  · rw [if_neg h, if_neg h, if_neg h]
    by_cases e : mvE f s C = 0
    · rw [if_pos e, if_pos e, if_pos e]
      have hb : (-1000000 ≤ f ∧ f ≤ 1000000) ∧ (-1000000 ≤ f + s * (C - 1) ∧ f + s * (C - 1) ≤ 1000000) := by
        unfold mvE at e
        rw [if_neg h] at e
        by_cases hb : (-1000000 ≤ f ∧ f ≤ 1000000) ∧ (-1000000 ≤ f + s * (C - 1) ∧ f + s * (C - 1) ≤ 1000000)
        · exact hb
        · rw [if_neg hb] at e; omega
      refine ⟨by unfold I64; omega, by unfold I64; omega, ?_⟩
      by_cases h1 : C = 1
      · rw [if_pos h1]; unfold I64; omega
      · rw [if_neg h1]
        have m0 := Int.mul_le_mul_of_nonneg_left (show (1 : Int) ≤ C - 1 by omega) (show 0 ≤ s by omega)
        rw [Int.mul_one] at m0
        have hs0 : 0 ≤ s := by omega
        split <;> (unfold I64; omega)
    · rw [if_neg e, if_neg e, if_neg e]; unfold I64; omega
theorem sb_64 {a b c x y z : Int} (h : Right a b c) (h' : Right x y z) (i : Nat) : I64 (rA (sbF a b c x y z i)) ∧ I64 (rB (sbF a b c x y z i)) ∧ I64 (rC (sbF a b c x y z i)) := by
  unfold sbF
  by_cases hn : isC a b c x y z = 0
  · rw [if_pos hn]
    refine pc_64 ?_
    rcases up_ser h with g | ⟨_, _, g, _⟩
    · exact .inr (Int.le_of_eq g)
    · by_cases hC : ofC a b c = 0
      · exact .inr (Int.le_of_eq hC)
      · refine .inl ?_
        have : 1 ≤ sS a b c := g
        omega
  · rw [if_neg hn]
    obtain ⟨hab, hxy, eA, eS, s1, s2, eT, C1, C2, B1, B2, _⟩ := sb_facts h h' hn
    split
    · exact pc_64 (.inl (by rw [eS]; omega))
    split
    · unfold sbIn; exact pc_64 (.inl (by omega))
    · exact pc_64 (.inl (by rw [eS]; omega))
theorem sbN_le (a b c x y z : Int) : sbN a b c x y z ≤ 1001 := by
  unfold sbN
  split
  · omega
  split
  · split <;> omega
  split
  · omega
  · omega
section
variable (n : Nat) (f : Nat → R3) (k s h : Int) (m : Nat) (g : Nat → R3) (k' s' h' : Int)
noncomputable def dsN : Nat := (dsL n f k s h m g k' s' h').1
noncomputable def dsF : Nat → DE := (dsL n f k s h m g k' s' h').2
end
noncomputable def c_DSubtract : Con := fun args => match args with
  | [.agg [.row [.int .i64, .int .i64, .int .i64] n f, .lit (.int .i64 k), .lit (.int .i64 s), .lit (.int .i64 h)], .agg [.row [.int .i64, .int .i64, .int .i64] m g, .lit (.int .i64 k'), .lit (.int .i64 s'), .lit (.int .i64 h')]] =>
    .ask (Row64 n f ∧ Row64 m g) (.ret (.tup [.row [.sl [.int .i64, .int .i64, .int .i64], .int .i64, .int .i64, .int .i64] (lk dsN n f k s h m g k' s' h') (lk dsF n f k s h m g k' s' h'), .lit (.int .i64 (lk dsE n f k s h m g k' s' h'))]))
  | _ => .stuck 1
section
variable {n : Nat} {f : Nat → R3} {k s h : Int} {m : Nat} {g : Nat → R3} {k' s' h' : Int}
noncomputable abbrev dsR (n : Nat) (f : Nat → R3) (k s h : Int) (m : Nat) (g : Nat → R3) (k' s' h' : Int) : SV := .tup [.row [.sl [.int .i64, .int .i64, .int .i64], .int .i64, .int .i64, .int .i64] (dsN n f k s h m g k' s' h') (dsF n f k s h m g k' s' h'), .lit (.int .i64 (dsE n f k s h m g k' s' h'))]
theorem cl_nilD {n : Nat} {f : Nat → DE} (h : n = 0) : Cl (.lit (.slice none 0 0)) (.row [.sl [.int .i64, .int .i64, .int .i64], .int .i64, .int .i64, .int .i64] n f) := .inr ⟨rfl, h⟩
theorem cl_rowD {n m : Nat} {f g : Nat → DE} (h : n = m) (hf : ∀ i, i < n → f i = g i) : Cl (.row [.sl [.int .i64, .int .i64, .int .i64], .int .i64, .int .i64, .int .i64] n f) (.row [.sl [.int .i64, .int .i64, .int .i64], .int .i64, .int .i64, .int .i64] m g) := ⟨h, rowL hf⟩
theorem ds_err {x : Int} (hE : dsE n f k s h m g k' s' h' = x) (hx : x ≠ 0) : Cl (.tup [.lit (.slice none 0 0), .lit (.int .i64 x)]) (dsR n f k s h m g k' s' h') :=
  ⟨cl_nilD (by unfold dsN dsL; rw [if_pos (by rw [hE]; exact hx)]; rfl), cl_lit (by rw [hE]), rfl⟩
theorem ds_ok {N : Nat} {L : Nat → DE} (hE : dsE n f k s h m g k' s' h' = 0) (hN : N = dsN n f k s h m g k' s' h') (hL : ∀ i, i < N → L i = dsF n f k s h m g k' s' h' i) :
    Cl (.tup [.row [.sl [.int .i64, .int .i64, .int .i64], .int .i64, .int .i64, .int .i64] N L, .lit (.int .i64 0)]) (dsR n f k s h m g k' s' h') := ⟨cl_rowD hN hL, cl_lit (by rw [hE]), rfl⟩
theorem ds_nil (hE : dsE n f k s h m g k' s' h' = 0) (hN : 0 = dsN n f k s h m g k' s' h') :
    Cl (.tup [.lit (.slice none 0 0), .lit (.int .i64 0)]) (dsR n f k s h m g k' s' h') := ⟨cl_nilD hN.symm, cl_lit (by rw [hE]), rfl⟩
end
theorem DSubtract_ok : ConOK P 78 c_DSubtract := con_cl (allOKL mixed d14s_ok lDS_ok) 10 78 fun args r h => by
  unfold c_DSubtract at h
  split at h
  · rename_i n f k s h' m g k1 s1 h1
    obtain ⟨hp, hq⟩ := (T.is_ask h).1
    have h := (T.is_ask h).2
    obtain rfl := T.is_ret h
    rw [t_DSubtract]
    simp only [tn0, tn1, lk_eq]
    refine T.all_mono (K := fun t => Cl t (dsR n f k s h' m g k1 s1 h1)) (fun t ht => ht) ?_
    refine ⟨⟨hp, hq⟩, fun hE => ?_, fun hE => ?_⟩
    · have hE : boE n f k s h' m g k1 s1 h1 ≠ 0 := U.ne_t.mp hE
      exact ds_err (by unfold dsE; rw [if_pos hE]) hE
    have hE : boE n f k s h' m g k1 s1 h1 = 0 := U.ne_f.mp hE
    have nE : ¬ boE n f k s h' m g k1 s1 h1 ≠ 0 := by simp [hE]
    obtain ⟨c1, c2, c3⟩ := boE_zero.1 hE
    subst c3
    obtain ⟨d1, _⟩ := chD_zero.1 c1
    obtain ⟨d2, _⟩ := chD_zero.1 c2
    have hn := d1.1
    have e1 : diN n f k s h' n g k1 s1 h1 = n := by unfold diN; rw [if_neg nE]
    have e2 : ∀ x, diX n f k s h' n g k1 s1 h1 x = x := fun x => by unfold diX; rw [if_neg nE]
    rw [e1, e2, e2, e2]
    have hdi := dr_64 (chD_zero.1 (di_right hE)).1
    have hI : ∀ i, i < n → I64 (f i).1 ∧ I64 (f i).2.1 ∧ I64 (f i).2.2.1 ∧ I64 (g i).1 ∧ I64 (g i).2.1 ∧ I64 (g i).2.2.1 := fun i hi => by
      obtain ⟨x1, x2, x3⟩ := hp i hi
      obtain ⟨y1, y2, y3⟩ := hq i hi
      exact ⟨x1, x2, x3, y1, y2, y3⟩
    refine ⟨hdi, fun z => ⟨⟨by omega, by omega⟩, hp, fun z1 => ⟨by omega, ?_⟩, fun z1 => ?_⟩, fun z => ⟨⟨by omega, by omega⟩, ⟨by omega, by omega⟩, hI 0 (by omega), fun z1 => ?_, fun z1 => ⟨⟨⟨rfl, hn, hp, by omega, sbN_le _ _ _ _ _ _, fun i _ => sb_64 (d1.2 0 (by omega)).1 (d2.2 0 (by omega)).1 i⟩, rfl⟩, fun z2 => ?_, fun z2 => ?_⟩⟩⟩
    · have z : szD n (diF f g) k s h' = 0 := U.eq_t.mp z
      have z1 : 0 < szE (mkD n f k s h') := U.gt_t.mp z1
      have hE0 : dsE n f k s h' n g k1 s1 h1 = 0 := by unfold dsE; rw [if_neg nE, if_pos z]
      have eL : dsL n f k s h' n g k1 s1 h1 = push noD (mkD n f k s h') := by unfold dsL; rw [if_neg (by rw [hE0]; simp), if_neg nE, if_pos z]
      have eP : push noD (mkD n f k s h') = (1, U.cat 0 noD.2 fun _ => mkD n f k s h') := by unfold push; rw [if_pos z1]; rfl
      exact ds_ok hE0 (by unfold dsN; rw [eL, eP]) fun i hi => by
        unfold dsF; rw [eL, eP]
        exact ((U.cat_eq 0 noD.2 (fun _ => mkD n f k s h') i).trans (if_neg (Nat.not_lt_zero i))).symm
    · have z : szD n (diF f g) k s h' = 0 := U.eq_t.mp z
      have z1 : ¬ 0 < szE (mkD n f k s h') := Int.not_lt.2 (U.gt_f.mp z1)
      have hE0 : dsE n f k s h' n g k1 s1 h1 = 0 := by unfold dsE; rw [if_neg nE, if_pos z]
      have eL : dsL n f k s h' n g k1 s1 h1 = push noD (mkD n f k s h') := by unfold dsL; rw [if_neg (by rw [hE0]; simp), if_neg nE, if_pos z]
      have eP : push noD (mkD n f k s h') = noD := by unfold push; rw [if_neg z1]
      exact ds_nil hE0 (by unfold dsN; rw [eL, eP]; rfl)
    · have z : ¬ szD n (diF f g) k s h' = 0 := U.eq_f.mp z
      have z1 : sb0E f g ≠ 0 := U.ne_t.mp z1
      exact ds_err (by unfold dsE; rw [if_neg nE, if_neg z, if_pos z1]; rfl) z1
    · have z : ¬ szD n (diF f g) k s h' = 0 := U.eq_f.mp z
      have z1 : ¬ sb0E f g ≠ 0 := fun h => h (U.ne_f.mp z1)
      have z2 : (n : Int) = 1 := U.eq_t.mp z2
      obtain rfl : n = 1 := by omega
      have hE0 : dsE 1 f k s h' 1 g k1 s1 h1 = 0 := by unfold dsE; rw [if_neg nE, if_neg z, if_neg z1, if_pos rfl]
      have eL : dsL 1 f k s h' 1 g k1 s1 h1 = ds0 1 f k s h' g := by unfold dsL ds1; rw [if_neg (by rw [hE0]; simp), if_neg nE, if_neg z, if_pos rfl]
      exact ds_ok hE0 (by unfold dsN; rw [eL]; rfl) fun i hi => by unfold dsF; rw [eL]; rfl
    · have z : ¬ szD n (diF f g) k s h' = 0 := U.eq_f.mp z
      have z1 : ¬ sb0E f g ≠ 0 := fun h => h (U.ne_f.mp z1)
      have z2 : ¬ (n : Int) = 1 := U.eq_f.mp z2
      obtain rfl : n = 2 := by omega
      have le1 := (seAx_le 2 f k s h' 0 noL (sb0F f g) (sb0N f g)).2
      have le2 : sb0N f g ≤ 1001 := sbN_le _ _ _ _ _ _
      refine ⟨⟨by omega, by omega⟩, ⟨by omega, by omega⟩, hI 1 (by omega), fun z3 => ?_, fun z3 => ⟨⟨⟨rfl, rfl, hdi, ?_, sbN_le _ _ _ _ _ _, fun i _ => sb_64 (d1.2 1 (by omega)).1 (d2.2 1 (by omega)).1 i⟩, rfl, trivial, trivial, trivial, trivial, trivial, trivial, trivial⟩, ?_⟩⟩
      · have z3 : sb1E f g ≠ 0 := U.ne_t.mp z3
        exact ds_err (by unfold dsE; rw [if_neg nE, if_neg z, if_neg z1, if_neg (by omega)]; rfl) z3
      · show (seAx 2 f k s h' 0 noL (sb0F f g) (sb0N f g)).1 ≤ 2000
        omega
      · have z3 : sb1E f g = 0 := U.ne_f.mp z3
        have hE0 : dsE 2 f k s h' 2 g k1 s1 h1 = 0 := by unfold dsE; rw [if_neg nE, if_neg z, if_neg z1, if_neg (by omega)]; exact z3
        have eL : dsL 2 f k s h' 2 g k1 s1 h1 = pushes (fun j => cnd1 k s h' (diF f g 0) (sb1F f g j)) (ds0 2 f k s h' g) (sb1N f g) := by unfold dsL ds1; rw [if_neg (by rw [hE0]; simp), if_neg nE, if_neg z, if_neg (by omega)]
        exact ds_ok hE0 (by unfold dsN; rw [eL]; rfl) fun i hi => by unfold dsF; rw [eL]; rfl
  · exact h.elim
end Go.RX.Span

/- Domains: the reference's Subtract: the loops' states. -/
set_option linter.unusedVariables false
set_option linter.unusedSimpArgs false
set_option maxRecDepth 100000
namespace Go.RX.Span
open Go Go.RX
attribute [local irreducible] sx conB

end Go.RX.Span

/- Domains: the reference's Intersect and Subtract: the walks. -/
set_option linter.unusedVariables false
set_option linter.unusedSimpArgs false
set_option maxRecDepth 100000
namespace Go.RX.Span
open Go Go.RX
attribute [local irreducible] sx conB

--%R ofList\s+\[ => ofList (ss := [.int .i64, .int .i64, .int .i64]) [
--%R ↑n ≤ ↑n => (n : Int) ≤ (n : Int)
end Go.RX.Span

/- Domains: the reference's pair, Intersect, Within, Same. -/
set_option linter.unusedVariables false
set_option linter.unusedSimpArgs false
set_option maxRecDepth 100000
namespace Go.RX.Span
open Go Go.RX
attribute [local irreducible] sx conB

end Go.RX.Span

/- Domains: the reference's Subtract and Same: what they return. -/
set_option linter.unusedVariables false
set_option linter.unusedSimpArgs false
set_option maxRecDepth 100000
namespace Go.RX.Span
open Go Go.RX
attribute [local irreducible] sx conB

theorem key3 (a b c x y z : Int) : (U.not (U.andb (U.eq a x) (U.andb (U.eq b y) (U.eq c z))) = false) ↔ (a = x ∧ b = y ∧ c = z) := by
  rw [U.not_f, U.andb_t, U.andb_t, U.eq_t, U.eq_t, U.eq_t]
end Go.RX.Span

/- Lists of domains compared: EqualFunc with Equal. -/
set_option linter.unusedVariables false
set_option linter.unusedSimpArgs false
set_option maxRecDepth 100000
namespace Go.RX.Span
open Go Go.RX
attribute [local irreducible] sx conB

def SameD (n : Nat) (F G : Nat → DE) : Prop := n ≤ 100000 ∧ ∀ i, i < n → F i = G i ∧ (F i).1.1 ≤ 100000
noncomputable def gFx : Nat → Few → T (Ex × Few)
  | n0, ([.row ss m G, .fn (.func 60) [] [], .row ss' n F, .lit (.int .i64 l), .ki .i64 (.ofNat 0)], []) =>
    if e : eqShs ss ssD = true ∧ eqShs ss' ssD = true then .ask (n0 = 0 ∧ n = m ∧ l = Int.ofNat n ∧ SameD n (castEls e.2 F) (castEls e.1 G)) (.ret (.exit 0, ([.any, .any, .any, .any, .any], []))) else .stuck 2
  | _, _ => .stuck 1
noncomputable abbrev lF : List (Nat × Loops) := [(59, [(4, .sum (few 32 [1,2,15,16,17] gFx))])]
end Go.RX.Span

/- Lists of domains compared: the walk. -/
set_option linter.unusedVariables false
set_option linter.unusedSimpArgs false
set_option maxRecDepth 100000
namespace Go.RX.Span
open Go Go.RX
attribute [local irreducible] sx conB

--%R \(castEls \(c_EqF\S+ ssD ssD ⟨rfl, rfl⟩\) ([FG])\) => \1
end Go.RX.Span

/- Domains: what the law of pairs returns. -/
set_option linter.unusedVariables false
set_option linter.unusedSimpArgs false
set_option maxRecDepth 100000
namespace Go.RX.Span
open Go Go.RX
attribute [local irreducible] sx conB

end Go.RX.Span

/- Domains: Translate, Expand, Interior, Exterior: plain; contract. -/
set_option linter.unusedVariables false
set_option linter.unusedSimpArgs false
set_option maxRecDepth 100000
namespace Go.RX.Span
open Go Go.RX
attribute [local irreducible] sx conB

section
variable (w : Nat) (n : Nat) (f : Nat → R3) (k s h : Int) (m : Nat) (e : Nat → R1)
end
end Go.RX.Span

/- Domains: Translate, Expand, Interior, Exterior of both: the walks. -/
set_option linter.unusedVariables false
set_option linter.unusedSimpArgs false
set_option maxRecDepth 100000
namespace Go.RX.Span
open Go Go.RX
attribute [local irreducible] sx conB

end Go.RX.Span

/- Domains: what the law of changes returns. -/
set_option linter.unusedVariables false
set_option linter.unusedSimpArgs false
set_option maxRecDepth 100000
namespace Go.RX.Span
open Go Go.RX
attribute [local irreducible] sx conB

end Go.RX.Span

/- The law of parts: its functions. -/
set_option linter.unusedVariables false
set_option linter.unusedSimpArgs false
set_option maxRecDepth 100000
namespace Go.RX.Span
open Go Go.RX
attribute [local irreducible] sx conB

end Go.RX.Span

/- Ranges moved, in plain Lean. -/
set_option linter.unusedVariables false
set_option linter.unusedSimpArgs false
namespace Go.RX.Span
open Go Go.RX

/-- A right range out of a series upwards. -/
theorem right_mk {f s C c : Int} (hs : 1 ≤ s) (hC : 1 ≤ C) (hl : -1000000 ≤ f) (hh : f + s * (C - 1) ≤ 1000000) (hc : c = s ∨ c = -s) (h1 : C = 1 → c = 1) :
    Right f (f + s * (C - 1)) c ∧ ofC f (f + s * (C - 1)) c = C ∧ f ≤ f + s * (C - 1) := by
  by_cases hC1 : C = 1
  · subst hC1
    rw [show s * (1 - 1) = 0 by simp] at hh ⊢
    rw [h1 rfl]
    refine ⟨⟨by omega, .inr (.inl ⟨by omega, rfl⟩)⟩, ?_, by omega⟩
    unfold ofC
    rw [if_neg (by omega), if_neg (by omega), show f + 0 - f = 0 by omega]; rfl
  · have hm := mulle (s := s) (x := 1) (y := C - 1) hs (by omega)
    rw [Int.mul_one] at hm
    have e : f + s * (C - 1) - f = s * (C - 1) := by omega
    have hd : c ∣ s * (C - 1) := by
      rcases hc with rfl | rfl
      · exact Int.dvd_mul_right _ _
      · exact Int.neg_dvd.2 (Int.dvd_mul_right _ _)
    refine ⟨⟨by omega, .inr (.inr ⟨by omega, by omega, by rw [e]; exact Int.emod_eq_zero_of_dvd hd⟩)⟩, ?_, by omega⟩
    unfold ofC
    rw [if_neg (by omega), e]
    rcases hc with rfl | rfl
    · rw [if_neg (by omega), Int.mul_ediv_cancel_left _ (by omega)]; omega
    · rw [if_pos (by omega), Int.neg_neg, Int.mul_ediv_cancel_left _ (by omega)]; omega

section
variable {a b c n : Int}
theorem mvE_zero {f s C : Int} (hl : -1000000 ≤ f ∧ f ≤ 1000000) (hh : -1000000 ≤ f + s * (C - 1) ∧ f + s * (C - 1) ≤ 1000000) : mvE f s C = 0 := by
  unfold mvE; split
  · rfl
  · rw [if_pos ⟨hl, hh⟩]

end
end Go.RX.Span

/- Ranges' parts, and their numbers in order, in plain Lean. -/
set_option linter.unusedVariables false
set_option linter.unusedSimpArgs false
namespace Go.RX.Span
open Go Go.RX

/-- The stride of so many numbers. -/
def strOf (C c : Int) : Int := if C = 1 then 1 else c
theorem right_mk' {f s C c : Int} (hs : 1 ≤ s) (hC : 1 ≤ C) (hl : -1000000 ≤ f) (hh : f + s * (C - 1) ≤ 1000000) (hc : c = s ∨ c = -s) :
    Right f (f + s * (C - 1)) (strOf C c) ∧ ofC f (f + s * (C - 1)) (strOf C c) = C ∧ f ≤ f + s * (C - 1) ∧ ∀ m, RIn f (f + s * (C - 1)) (strOf C c) m ↔ SIn f s C m := by
  have key : Right f (f + s * (C - 1)) (strOf C c) ∧ ofC f (f + s * (C - 1)) (strOf C c) = C ∧ f ≤ f + s * (C - 1) := by
    by_cases h : C = 1
    · subst h
      rw [show strOf 1 c = 1 from if_pos rfl]
      have := right_mk (f := f) (s := 1) (C := 1) (c := 1) (by omega) (by omega) hl (by simp at hh ⊢; omega) (.inl rfl) (fun _ => rfl)
      simpa using this
    · rw [show strOf C c = c from if_neg h]
      exact right_mk hs hC hl hh hc (fun e => absurd e h)
  refine ⟨key.1, key.2.1, key.2.2, rin_of hC key.1 key.2.2 rfl key.2.1 fun h => ?_⟩
  rw [show strOf C c = c from if_neg h]
  rcases hc with rfl | rfl
  · exact absI_pos (by omega)
  · rw [absI_neg (by omega)]; omega
section
variable {a b c n : Int}
theorem rin_sin (hr : Right a b c) (hab : a ≤ b) (m : Int) : RIn a b c m ↔ SIn a (absI c) (ofC a b c) m := by
  obtain ⟨p1, p2, p3, p4, p5, p6, p7, p8, p9, p10⟩ := parts hr hab
  exact rin_of (by omega) hr hab rfl rfl (fun _ => rfl) m
/-! The numbers in order. -/
theorem szN_eq (hr : Right a b c) : szN a b c = (ofC a b c).toNat := by unfold szN; rw [size_eq' hr]
end
end Go.RX.Span

/- Changes of a range whose stride is above 0, in plain Lean. -/
set_option linter.unusedVariables false
set_option linter.unusedSimpArgs false
namespace Go.RX.Span
open Go Go.RX

section
variable {a b c v : Int}
end
end Go.RX.Span

/- The law of parts: its loop over positions, the states. -/
set_option linter.unusedVariables false
set_option linter.unusedSimpArgs false
set_option maxRecDepth 100000
namespace Go.RX.Span
open Go Go.RX
attribute [local irreducible] sx conB

end Go.RX.Span

/- The law of parts: its loop's round, its ways. -/
set_option linter.unusedVariables false
set_option linter.unusedSimpArgs false
set_option maxRecDepth 100000
namespace Go.RX.Span
open Go Go.RX
attribute [local irreducible] sx conB

end Go.RX.Span

/- The law of parts: its loop over positions, shown. -/
set_option linter.unusedVariables false
set_option linter.unusedSimpArgs false
set_option maxRecDepth 100000
namespace Go.RX.Span
open Go Go.RX
attribute [local irreducible] sx conB

def numR (r : R3) (p : Nat) : Int := num r.1 r.2.1 r.2.2.1 p
def szNR (r : R3) : Nat := szN r.1 r.2.1 r.2.2.1
/-- The position within a column. -/
def pth (n q i t : Nat) : Nat := if n = 1 then i else if t = 0 then i / q else i % q
theorem ren0d (ρ : Ren) : ∀ b, b < 0 → ρ.of b = some b := fun b hb => absurd hb (Nat.not_lt_zero b)
section
variable {n : Nat} {f g : Nat → R3} {k s h : Int} {F : Nat → R1}
end
end Go.RX.Span

/- Changes of a domain, in plain Lean. -/
set_option linter.unusedVariables false
set_option linter.unusedSimpArgs false
namespace Go.RX.Span
open Go Go.RX

section
variable {n : Nat} {f : Nat → R3} {k s h : Int} {F : Nat → R1}
end
end Go.RX.Span

/- The law of moves: the walk. -/
set_option linter.unusedVariables false
set_option linter.unusedSimpArgs false
set_option maxRecDepth 100000
namespace Go.RX.Span
open Go Go.RX
attribute [local irreducible] sx conB

--%R ↑\(lk\s+szN\s+a\s+b\s+c\) => ((lk szN a b c : Nat) : Int)
end Go.RX.Span

/- The law of moves: what it returns. -/
set_option linter.unusedVariables false
set_option linter.unusedSimpArgs false
set_option maxRecDepth 100000
namespace Go.RX.Span
open Go Go.RX
attribute [local irreducible] sx conB

end Go.RX.Span

/- Sets of numbers: the law's loops, their states. -/
set_option linter.unusedVariables false
set_option linter.unusedSimpArgs false
set_option maxRecDepth 100000
namespace Go.RX.Span
open Go Go.RX
attribute [local irreducible] sx conB

end Go.RX.Span

/- Sets of numbers: the law's rounds. -/
set_option linter.unusedVariables false
set_option linter.unusedSimpArgs false
set_option maxRecDepth 100000
namespace Go.RX.Span
open Go Go.RX
attribute [local irreducible] sx conB

end Go.RX.Span

/- Sets of numbers: what the law's loops leave. -/
set_option linter.unusedVariables false
set_option linter.unusedSimpArgs false
set_option maxRecDepth 100000
namespace Go.RX.Span
open Go Go.RX
attribute [local irreducible] sx conB

end Go.RX.Span

/- Sets of numbers: the law's loops leave what is said. -/
set_option linter.unusedVariables false
set_option linter.unusedSimpArgs false
set_option maxRecDepth 100000
namespace Go.RX.Span
open Go Go.RX
attribute [local irreducible] sx conB

end Go.RX.Span

/- Sets of numbers: the law's second loop leaves what is said. -/
set_option linter.unusedVariables false
set_option linter.unusedSimpArgs false
set_option maxRecDepth 100000
namespace Go.RX.Span
open Go Go.RX
attribute [local irreducible] sx conB

end Go.RX.Span

/- Sets of numbers, in plain Lean: the pieces of a difference. -/
set_option linter.unusedVariables false
set_option linter.unusedSimpArgs false
namespace Go.RX.Span
open Go Go.RX

/-- What a range in a direction has. -/
theorem pc_set {f s n c : Int} (hs : 1 ≤ s) (hn : 1 ≤ n) (h1 : -1000000 ≤ f) (h2 : f + s * (n - 1) ≤ 1000000) :
    Right (pc f s n c).1 (pc f s n c).2.1 (pc f s n c).2.2.1 ∧ ofC (pc f s n c).1 (pc f s n c).2.1 (pc f s n c).2.2.1 = n ∧ ∀ m, RIn (pc f s n c).1 (pc f s n c).2.1 (pc f s n c).2.2.1 m ↔ SIn f s n m := by
  have m0 := mulle (s := s) (x := 0) (y := n - 1) hs (by omega)
  have hE : mvE f s n = 0 := mvE_zero (by omega) (by omega)
  have e1 : (pc f s n c).1 = f := by show mvLow f s n = f; unfold mvLow; rw [if_neg (by omega), if_pos hE]
  have e2 : (pc f s n c).2.1 = f + s * (n - 1) := by show mvHigh f s n = _; unfold mvHigh; rw [if_neg (by omega), if_pos hE]
  have e3 : (pc f s n c).2.2.1 = strOf n (if c < 0 then -s else s) := by show mvStr f s n c = _; unfold mvStr strOf; rw [if_neg (by omega), if_pos hE]
  rw [e1, e2, e3]
  obtain ⟨r1, r2, r3, r4⟩ := right_mk' (f := f) (s := s) (C := n) (c := if c < 0 then -s else s) hs hn h1 h2 (by
    by_cases hc0 : c < 0
    · rw [if_pos hc0]; exact .inr rfl
    · rw [if_neg hc0]; exact .inl rfl)
  exact ⟨r1, r2, r4⟩

section
variable {a b c x y z : Int}
/-- Where a number of the first range lies: behind so many steps. -/
def Pl (a b c : Int) (p m : Int) : Prop := m = a + absI c * p ∧ 0 ≤ p ∧ p < ofC a b c
theorem pl_iff (h : Right a b c) (hab : a ≤ b) (m : Int) : RIn a b c m ↔ ∃ p, Pl a b c p m := by
  obtain ⟨p1, p2, p3, p4, p5, p6, p7, p8, p9, p10⟩ := parts h hab
  rw [rin_sin h hab]
  constructor
  · rintro ⟨h1, h2, h3, p, rfl⟩
    refine ⟨p, rfl, ?_, ?_⟩
    · rcases Int.lt_or_le p 0 with h | h
      · have := mulle (s := absI c) (x := p) (y := -1) p1 (by omega); omega
      · exact h
    · rcases Int.lt_or_le p (ofC a b c) with h | h
      · exact h
      · have := mulle (s := absI c) (x := ofC a b c) (y := p) p1 h
        have e : absI c * ofC a b c = absI c * (ofC a b c - 1) + absI c := by grind
        omega
  · rintro ⟨p, rfl, h1, h2⟩
    have m1 := mulle (s := absI c) (x := 0) (y := p) p1 (by omega)
    have m2 := mulle (s := absI c) (x := p) (y := ofC a b c - 1) p1 (by omega)
    exact ⟨by omega, by omega, by omega, p, rfl⟩
theorem pl_one (h : Right a b c) (hab : a ≤ b) {p q m : Int} (h1 : Pl a b c p m) (h2 : Pl a b c q m) : p = q := by
  obtain ⟨p1, _⟩ := parts h hab
  have e : absI c * p = absI c * q := by have := h1.1; have := h2.1; omega
  exact Int.eq_of_mul_eq_mul_left (by omega) e
theorem sIn_steps {F s C m : Int} (hs : 1 ≤ s) : SIn F s C m ↔ ∃ q, m = F + s * q ∧ 0 ≤ q ∧ q < C := by
  constructor
  · rintro ⟨h1, h2, h3, q, rfl⟩
    refine ⟨q, rfl, ?_, ?_⟩
    · rcases Int.lt_or_le q 0 with h | h
      · have := mulle (s := s) (x := q) (y := -1) hs (by omega); omega
      · exact h
    · rcases Int.lt_or_le q C with h | h
      · exact h
      · have := mulle (s := s) (x := C) (y := q) hs h
        have e : s * C = s * (C - 1) + s := by grind
        omega
  · rintro ⟨q, rfl, h1, h2⟩
    have m1 := mulle (s := s) (x := 0) (y := q) hs (by omega)
    have m2 := mulle (s := s) (x := q) (y := C - 1) hs (by omega)
    exact ⟨by omega, by omega, by omega, q, rfl⟩

/-- The pieces of a difference, where both have numbers: by the steps from the first number on. -/
theorem sb_pieces (h : Right a b c) (h' : Right x y z) (hC : isC a b c x y z ≠ 0) : ∃ k0 m : Int, 0 ≤ k0 ∧ 1 ≤ m ∧
    (∀ p n, Pl a b c p n → ((RIn x y z n) ↔ ∃ q, p = k0 + m * q ∧ 0 ≤ q ∧ q < isC a b c x y z)) ∧
    k0 + m * (isC a b c x y z - 1) < ofC a b c ∧
    sbN0 a b c x y z = (if 0 < k0 then 1 else 0) ∧ (sbM a b c x y z : Int) = (if 1 < isC a b c x y z then m - 1 else 0) ∧ sbN1 a b c x y z = (if k0 + m * (isC a b c x y z - 1) < ofC a b c - 1 then 1 else 0) ∧
    (∀ i, i < sbAll a b c x y z → Right (sbF a b c x y z i).1 (sbF a b c x y z i).2.1 (sbF a b c x y z i).2.2.1 ∧ 1 ≤ ofC (sbF a b c x y z i).1 (sbF a b c x y z i).2.1 (sbF a b c x y z i).2.2.1 ∧ ofC (sbF a b c x y z i).1 (sbF a b c x y z i).2.1 (sbF a b c x y z i).2.2.1 ≤ ofC a b c ∧
      ∀ n, RIn (sbF a b c x y z i).1 (sbF a b c x y z i).2.1 (sbF a b c x y z i).2.2.1 n ↔ ∃ p, Pl a b c p n ∧
        (if i < sbN0 a b c x y z then p < k0 else if i < sbN0 a b c x y z + sbM a b c x y z then ∃ q, p = k0 + ((i - sbN0 a b c x y z : Nat) : Int) + 1 + m * q ∧ 0 ≤ q ∧ q < isC a b c x y z - 1 else k0 + m * (isC a b c x y z - 1) < p)) := by
  obtain ⟨hab, hxy, eA, eS, s1, s2, eT, c1, c2, B1, B2, la, lb, hFL, k0, k1, hk0, hk1, hk02, hk12, eF, eb, q1, q2, hm⟩ := sb_facts h h' hC
  obtain ⟨w1, w2⟩ := is_sw h h'
  obtain ⟨p1, p2, p3, p4, p5, p6, p7, p8, p9, p10⟩ := parts h hab
  obtain ⟨C, eC⟩ : ∃ C, C = isC a b c x y z := ⟨_, rfl⟩
  obtain ⟨s, es⟩ : ∃ s, s = absI c := ⟨_, rfl⟩
  obtain ⟨B, eB⟩ : ∃ B, B = isB a b c x y z := ⟨_, rfl⟩
  obtain ⟨N, eN⟩ : ∃ N, N = ofC a b c := ⟨_, rfl⟩
  -- the step of what both have, in steps of the first range
  obtain ⟨m, hm1, hmB, hmq⟩ : ∃ m : Int, 1 ≤ m ∧ B * (C - 1) = s * (m * (C - 1)) ∧ (1 < C → B = s * m ∧ B.tdiv s = m ∧ B ≤ 2000000) := by
    by_cases h1 : 1 < C
    · obtain ⟨m, g1, g2, g3, g4, g5⟩ := hm (by rw [← eC]; exact h1)
      rw [← es, ← eB] at g3
      rw [← eB, eS, ← es] at g4
      exact ⟨m, g1, by rw [g3, Int.mul_assoc], fun _ => ⟨g3, g4, by rw [eB]; exact g5⟩⟩
    · have : C = 1 := by omega
      subst this
      exact ⟨1, by omega, by simp, fun h => absurd h h1⟩
  have eL : sbL a b c x y z = isF a b c x y z + B * (C - 1) := by rw [eB, eC]; rfl
  have hL : sbL a b c x y z = a + s * (k0 + m * (C - 1)) := by
    rw [eL, eF, ← es, hmB, Int.mul_add]; omega
  have hN : N - 1 = k0 + m * (C - 1) + k1 := by
    have e : s * (N - 1) = s * (k0 + m * (C - 1) + k1) := by
      rw [es, eN, p5, ← es, Int.mul_add s (k0 + m * (C - 1)) k1]
      rw [hL, ← es] at eb
      omega
    exact Int.eq_of_mul_eq_mul_left (by omega) e
  have hmC1 : C - 1 ≤ m * (C - 1) := by have := Int.mul_le_mul_of_nonneg_right hm1 (show 0 ≤ C - 1 by omega); omega
  have hmC : 0 ≤ m * (C - 1) := Int.mul_nonneg (by omega) (by omega)
  have hCb : C ≤ 2000001 := by rw [eC]; exact c2
  have hC1 : 1 ≤ C := by rw [eC]; exact c1
  rw [← eC, ← eN]
  refine ⟨k0, m, hk0, hm1, fun p n hp => ?_, by omega, ?_, ?_, ?_, fun i hi => ?_⟩
  · have e1 : RIn x y z n ↔ SIn (isF a b c x y z) B C n := by
      rw [eB, eC, w2]
      exact ⟨fun g => ⟨(pl_iff h hab n).2 ⟨p, hp⟩, g⟩, fun g => g.2⟩
    rw [e1, sIn_steps (by rw [eB]; exact B1)]
    constructor
    · rintro ⟨q, g1, g2, g3⟩
      refine ⟨q, ?_, g2, g3⟩
      have e : s * p = s * (k0 + m * q) := by
        have e0 := hp.1
        rw [g1, eF, ← es] at e0
        by_cases h1 : 1 < C
        · rw [(hmq h1).1] at e0
          rw [Int.mul_add, ← Int.mul_assoc]; omega
        · obtain rfl : q = 0 := by omega
          simp at e0 ⊢; omega
      exact Int.eq_of_mul_eq_mul_left (by omega) e
    · rintro ⟨q, rfl, g2, g3⟩
      refine ⟨q, ?_, g2, g3⟩
      rw [hp.1, eF, ← es]
      by_cases h1 : 1 < C
      · rw [(hmq h1).1, Int.mul_add, ← Int.mul_assoc]; omega
      · obtain rfl : q = 0 := by omega
        simp
  · unfold sbN0
    rw [eA, eF, ← es]
    have : a < a + s * k0 ↔ 0 < k0 := by
      constructor
      · intro g
        rcases Int.lt_or_le 0 k0 with g' | g'
        · exact g'
        · have := mulle (s := s) (x := k0) (y := 0) (by omega) g'; omega
      · intro g; have := mulle (s := s) (x := 1) (y := k0) (by omega) (by omega); omega
    simp only [this]
  · unfold sbM
    rw [← eC]
    split
    · rename_i h1
      rw [← eB, eS, ← es, (hmq h1).2.1]; omega
    · rfl
  · unfold sbN1
    rw [eT]
    have eb2 : b = sbL a b c x y z + s * k1 := by rw [es]; exact eb
    have : sbL a b c x y z < b ↔ k0 + m * (C - 1) < N - 1 := by
      constructor
      · intro g
        rcases Int.lt_or_le 0 k1 with g' | g'
        · omega
        · have := mulle (s := s) (x := k1) (y := 0) (by omega) g'; omega
      · intro g; have := mulle (s := s) (x := 1) (y := k1) (by omega) (by omega); omega
    simp only [this]
  · have hi0 : ¬ isC a b c x y z = 0 := hC
    have n0 : sbN0 a b c x y z = (if 0 < k0 then 1 else 0) := by
      unfold sbN0
      rw [eA, eF, ← es]
      have : a < a + s * k0 ↔ 0 < k0 := by
        constructor
        · intro g
          rcases Int.lt_or_le 0 k0 with g' | g'
          · exact g'
          · have := mulle (s := s) (x := k0) (y := 0) (by omega) g'; omega
        · intro g; have := mulle (s := s) (x := 1) (y := k0) (by omega) (by omega); omega
      simp only [this]
    have hsk0 := mulle (s := s) (x := 0) (y := k0) (by omega) hk0
    have hsk1 := mulle (s := s) (x := 0) (y := k1) (by omega) hk1
    have hB0 := mulle (s := B) (x := 0) (y := C - 1) (by omega) (by omega)
    rw [← es] at eF eb
    by_cases hc1 : i < sbN0 a b c x y z
    · have hk : 0 < k0 := by
        refine Classical.byContradiction fun g => ?_
        rw [n0, if_neg g] at hc1; omega
      have eP : sbF a b c x y z i = pc a s k0 c := by unfold sbF; rw [if_neg hi0, if_pos hc1, q1, eA, eS, ← es]
      have e1 : s * (k0 - 1) = s * k0 - s := by rw [Int.mul_sub, Int.mul_one]
      obtain ⟨g1, g2, g3⟩ := pc_set (f := a) (s := s) (n := k0) (c := c) (by omega) (by omega) la (by omega)
      rw [eP]
      refine ⟨g1, by omega, by omega, fun n => ?_⟩
      simp only [g3, sIn_steps (show 1 ≤ s by omega), if_pos hc1]
      constructor
      · rintro ⟨q, rfl, h1, h2⟩; exact ⟨q, ⟨by rw [← es], h1, by omega⟩, h2⟩
      · rintro ⟨p, ⟨h1, h2, h3⟩, h4⟩; exact ⟨p, by rw [h1, ← es], h2, h4⟩
    by_cases hc2 : i < sbN0 a b c x y z + sbM a b c x y z
    · have h1C : 1 < C := by
        refine Classical.byContradiction fun g => ?_
        have : sbM a b c x y z = 0 := by unfold sbM; rw [← eC, if_neg g]
        omega
      obtain ⟨f1, f2, f3⟩ := hmq h1C
      have hM : (sbM a b c x y z : Int) = m - 1 := by unfold sbM; rw [← eC, if_pos h1C, ← eB, eS, ← es, f2]; omega
      obtain ⟨j, hj⟩ : ∃ j : Nat, j = i - sbN0 a b c x y z := ⟨_, rfl⟩
      have hjm : (j : Int) + 1 ≤ m - 1 := by omega
      have eP : sbF a b c x y z i = pc (isF a b c x y z + s * ((j : Int) + 1)) B (C - 1) c := by
        unfold sbF sbIn; rw [if_neg hi0, if_neg hc1, if_pos hc2, ← hj, eS, ← es, ← eB, ← eC]
      have d1 := mulle (s := s) (x := (j : Int) + 1) (y := m - 1) (by omega) hjm
      have d2 := mulle (s := s) (x := 0) (y := (j : Int) + 1) (by omega) (by omega)
      have d3 : s * (m - 1) = B - s := by rw [Int.mul_sub, Int.mul_one, f1]
      have d4 : B * (C - 1 - 1) = B * (C - 1) - B := by rw [Int.mul_sub B (C - 1) 1, Int.mul_one]
      obtain ⟨g1, g2, g3⟩ := pc_set (f := isF a b c x y z + s * ((j : Int) + 1)) (s := B) (n := C - 1) (c := c) (by omega) (by omega) (by omega) (by omega)
      rw [eP]
      refine ⟨g1, by omega, by omega, fun n => ?_⟩
      simp only [g3, sIn_steps (show 1 ≤ B by omega), if_neg hc1, if_pos hc2, ← hj]
      have e2 : ∀ q, isF a b c x y z + s * ((j : Int) + 1) + B * q = a + s * (k0 + j + 1 + m * q) := fun q => by
        rw [eF, f1]; grind
      constructor
      · rintro ⟨q, rfl, h1, h2⟩
        have u1 := Int.mul_nonneg (show 0 ≤ m by omega) h1
        have u2 := Int.mul_le_mul_of_nonneg_left (show q ≤ C - 1 - 1 by omega) (show 0 ≤ m by omega)
        have u3 : m * (C - 1 - 1) = m * (C - 1) - m := by rw [Int.mul_sub m (C - 1) 1, Int.mul_one]
        exact ⟨k0 + j + 1 + m * q, ⟨by rw [e2, ← es], by omega, by omega⟩, q, rfl, h1, h2⟩
      · rintro ⟨p, ⟨h1, h2, h3⟩, q, rfl, h4, h5⟩; exact ⟨q, by rw [e2, h1, ← es], h4, h5⟩
    · have hk : 0 < k1 := by
        refine Classical.byContradiction fun g => ?_
        have : sbN1 a b c x y z = 0 := by
          unfold sbN1; rw [eT, if_neg]
          have := mulle (s := s) (x := k1) (y := 0) (by omega) (by omega); omega
        unfold sbAll at hi; omega
      have eP : sbF a b c x y z i = pc (sbL a b c x y z + s) s k1 c := by unfold sbF; rw [if_neg hi0, if_neg hc1, if_neg hc2, q2, eS, ← es]
      have e1 : s * (k1 - 1) = s * k1 - s := by rw [Int.mul_sub, Int.mul_one]
      obtain ⟨g1, g2, g3⟩ := pc_set (f := sbL a b c x y z + s) (s := s) (n := k1) (c := c) (by omega) (by omega) (by omega) (by omega)
      rw [eP]
      refine ⟨g1, by omega, by omega, fun n => ?_⟩
      simp only [g3, sIn_steps (show 1 ≤ s by omega), if_neg hc1, if_neg hc2]
      have e2 : ∀ q, sbL a b c x y z + s + s * q = a + s * (k0 + m * (C - 1) + 1 + q) := fun q => by rw [hL]; grind
      constructor
      · rintro ⟨q, rfl, h1, h2⟩; exact ⟨k0 + m * (C - 1) + 1 + q, ⟨by rw [e2, ← es], by omega, by omega⟩, by omega⟩
      · rintro ⟨p, ⟨h1, h2, h3⟩, h4⟩
        exact ⟨p - (k0 + m * (C - 1)) - 1, by rw [e2, h1, ← es]; congr 2; omega, by omega, by omega⟩
end
end Go.RX.Span

/- Sets of numbers, in plain Lean: the lists. -/
set_option linter.unusedVariables false
set_option linter.unusedSimpArgs false
namespace Go.RX.Span
open Go Go.RX

end Go.RX.Span

/- Sets of numbers, in plain Lean: what the sets say. -/
set_option linter.unusedVariables false
set_option linter.unusedSimpArgs false
namespace Go.RX.Span
open Go Go.RX
section
variable {a b c x y z : Int}
theorem is_more (h : Right a b c) (h' : Right x y z) : ofC (isL a b c x y z) (isH a b c x y z) (isS a b c x y z) = isC a b c x y z ∧ isC a b c x y z ≤ ofC a b c ∧ (1 < isC a b c x y z → decide (c < 0) = decide (isS a b c x y z < 0)) := by
  obtain ⟨_, hr, hm⟩ := is_set h h'
  obtain ⟨w1, w2⟩ := is_sw h h'
  by_cases hC : isC a b c x y z = 0
  · rw [hC]
    refine ⟨?_, ?_, fun h => absurd h (by omega)⟩
    · refine Classical.byContradiction fun hn => ?_
      have hab : isL a b c x y z ≤ isH a b c x y z := by
        refine Classical.byContradiction fun g => hn ?_
        unfold ofC; rw [if_pos (by omega)]
      obtain ⟨p1, p2, p3, _⟩ := parts hr hab
      have := (w2 _).2 ((hm _).1 ((pl_iff hr hab _).2 ⟨0, rfl, by omega, by omega⟩))
      obtain ⟨_, _, g, _⟩ := this
      omega
    · by_cases hab : a ≤ b
      · obtain ⟨p1, p2, p3, _⟩ := parts h hab; omega
      · have : ofC a b c = 0 := by unfold ofC; rw [if_pos (by omega)]
        omega
  · obtain ⟨s1, s2, s3, s4, s5⟩ := is_ser h h' hC
    have hn : ¬ ckd a b c x y z ≠ 0 := by simp [ckd_zero h h']
    obtain ⟨c1, c2, c3, c4, c5⟩ := w1.resolve_left hC
    have m0 := mulle (x := 0) (y := isC a b c x y z - 1) c2 (by omega)
    rw [Int.mul_zero] at m0
    obtain ⟨q1, q2, q3, q4⟩ := nrm_like (f := isF a b c x y z) (s := isB a b c x y z) (C := isC a b c x y z) (c := c) c2
    have n1 : ¬ isC a b c x y z ≤ 0 := by omega
    have e0 : mvE (isF a b c x y z) (isB a b c x y z) (isC a b c x y z) = 0 := by unfold mvE; rw [if_neg n1, if_pos (by omega)]
    have e3 : isS a b c x y z = if isC a b c x y z = 1 then 1 else if c < 0 then -isB a b c x y z else isB a b c x y z := by simp only [isS, if_neg hn]; rw [q4]; simp only [mvStr, e0, if_neg n1, if_true]
    have hab : isL a b c x y z ≤ isH a b c x y z := by rw [s1, s2]; unfold sbL; omega
    obtain ⟨p1, p2, p3, p4, p5, p6, p7, p8, p9, p10⟩ := parts hr hab
    rw [s1, s2] at p5
    refine ⟨?_, ?_, fun h1 => ?_⟩
    · by_cases h1 : 1 < isC a b c x y z
      · rw [s3 h1] at p5
        have e : isB a b c x y z * (ofC (isL a b c x y z) (isH a b c x y z) (isS a b c x y z) - 1) = isB a b c x y z * (isC a b c x y z - 1) := by
          rw [s1, s2, p5]; unfold sbL; omega
        have := Int.eq_of_mul_eq_mul_left (by omega) e
        omega
      · have hC1 : isC a b c x y z = 1 := by omega
        have e : absI (isS a b c x y z) * (ofC (isL a b c x y z) (isH a b c x y z) (isS a b c x y z) - 1) = absI (isS a b c x y z) * 0 := by
          rw [s1, s2, p5]; unfold sbL; rw [hC1]; simp
        have := Int.eq_of_mul_eq_mul_left (by omega) e
        omega
    · obtain ⟨k0, m, h1, h2, h3, h4, _⟩ := sb_pieces h h' hC
      have := Int.mul_le_mul_of_nonneg_right h2 (show 0 ≤ isC a b c x y z - 1 by omega)
      omega
    · rw [e3, if_neg (by omega)]
      by_cases hc : c < 0
      · rw [if_pos hc, decide_eq_true hc, decide_eq_true (by omega)]
      · rw [if_neg hc, decide_eq_false hc, decide_eq_false (by omega)]
/-- The pieces of a difference, all. -/
theorem sb_all (h : Right a b c) (h' : Right x y z) (h4 : ofC a b c ≤ 900) : sbE a b c x y z = 0 ∧ (sbN a b c x y z : Int) ≤ ofC a b c ∧
    (∀ i, i < sbN a b c x y z → Right (sbF a b c x y z i).1 (sbF a b c x y z i).2.1 (sbF a b c x y z i).2.2.1 ∧ 1 ≤ ofC (sbF a b c x y z i).1 (sbF a b c x y z i).2.1 (sbF a b c x y z i).2.2.1 ∧ ofC (sbF a b c x y z i).1 (sbF a b c x y z i).2.1 (sbF a b c x y z i).2.2.1 ≤ ofC a b c) ∧
    (∀ n, (∃ i, i < sbN a b c x y z ∧ RIn (sbF a b c x y z i).1 (sbF a b c x y z i).2.1 (sbF a b c x y z i).2.2.1 n) ↔ RIn a b c n ∧ ¬ RIn x y z n) ∧
    (∀ n i j, i < sbN a b c x y z → j < sbN a b c x y z → RIn (sbF a b c x y z i).1 (sbF a b c x y z i).2.1 (sbF a b c x y z i).2.2.1 n → RIn (sbF a b c x y z j).1 (sbF a b c x y z j).2.1 (sbF a b c x y z j).2.2.1 n → i = j) := by
  have hn : ¬ ckd a b c x y z ≠ 0 := by simp [ckd_zero h h']
  by_cases hC : isC a b c x y z = 0
  · have hno : ∀ n, RIn a b c n → ¬ RIn x y z n := fun n g1 g2 => by
      obtain ⟨_, _, g, _⟩ := ((is_sw h h').2 n).2 ⟨g1, g2⟩
      omega
    have eN : sbN a b c x y z = if 0 < ofC a b c then 1 else 0 := by unfold sbN; rw [if_neg hn, if_pos hC]
    have eE : sbE a b c x y z = 0 := by unfold sbE; rw [if_neg hn, if_pos hC]
    by_cases hab : a ≤ b
    · obtain ⟨p1, p2, p3, _⟩ := parts h hab
      rw [if_pos (by omega)] at eN
      have eF : ∀ i, sbF a b c x y z i = (a, b, c, ()) := fun i => by unfold sbF; rw [if_pos hC]; exact pc_self h hab
      simp only [eN, eF]
      refine ⟨eE, by omega, fun i _ => ⟨h, p3, Int.le_refl _⟩, fun n => ⟨fun ⟨i, _, g⟩ => ⟨g, hno n g⟩, fun g => ⟨0, by omega, g.1⟩⟩, fun n i j hi hj _ _ => by omega⟩
    · have e0 : ofC a b c = 0 := by unfold ofC; rw [if_pos (by omega)]
      rw [if_neg (by omega)] at eN
      rw [eN]
      refine ⟨eE, by omega, fun i hi => absurd hi (by omega), fun n => ⟨fun ⟨i, hi, g⟩ => absurd hi (by omega), fun g => ?_⟩, fun n i j hi hj _ _ => absurd hi (by omega)⟩
      obtain ⟨_, _, g, _⟩ := g.1
      omega
  · obtain ⟨k0, m, h1, h2, h3, h5, n0, n1, n2, hp⟩ := sb_pieces h h' hC
    obtain ⟨hab, _⟩ := sb_facts h h' hC
    obtain ⟨c1, c2, c3, c4, c5⟩ := ((is_sw h h').1).resolve_left hC
    obtain ⟨C, eC⟩ : ∃ C, C = isC a b c x y z := ⟨_, rfl⟩
    obtain ⟨N, eN⟩ : ∃ N, N = ofC a b c := ⟨_, rfl⟩
    obtain ⟨M, eM⟩ : ∃ M, M = sbM a b c x y z := ⟨_, rfl⟩
    obtain ⟨N0, eN0⟩ : ∃ M, M = sbN0 a b c x y z := ⟨_, rfl⟩
    obtain ⟨N1, eN1⟩ : ∃ M, M = sbN1 a b c x y z := ⟨_, rfl⟩
    have eA : sbAll a b c x y z = N0 + M + N1 := by unfold sbAll; rw [← eN0, ← eM, ← eN1]
    rw [eA] at hp
    simp only [← eC, ← eN, ← eM, ← eN0, ← eN1] at h3 h5 n0 n1 n2 hp c1 h4
    have b0 : (N0 : Int) ≤ k0 := by rw [n0]; split <;> omega
    have b1 : (N1 : Int) ≤ N - 1 - (k0 + m * (C - 1)) := by rw [n2]; split <;> omega
    have hmC : 0 ≤ m * (C - 1) := Int.mul_nonneg (by omega) (by omega)
    have bM : (M : Int) ≤ m * (C - 1) := by
      rw [n1]; split
      · have := Int.mul_le_mul_of_nonneg_left (show 1 ≤ C - 1 by omega) (show 0 ≤ m by omega)
        omega
      · exact hmC
    have hAll : N0 + M + N1 ≤ 900 := by omega
    have eS : sbN a b c x y z = N0 + M + N1 := by unfold sbN; rw [if_neg hn, if_neg hC, eA, if_neg (by omega)]
    have eE : sbE a b c x y z = 0 := by unfold sbE; rw [if_neg hn, if_neg hC, eA, if_neg (by omega)]
    rw [eS]
    refine ⟨eE, by rw [← eN]; omega, fun i hi => ⟨(hp i hi).1, (hp i hi).2.1, by have := (hp i hi).2.2.1; omega⟩, fun n => ⟨?_, ?_⟩, fun n i j hi hj gi gj => ?_⟩
    · rintro ⟨i, hi, g⟩
      obtain ⟨p, hP, hc⟩ := ((hp i hi).2.2.2 n).1 g
      refine ⟨(pl_iff h hab n).2 ⟨p, hP⟩, fun g' => ?_⟩
      obtain ⟨q, e1, e2, e3⟩ := (h3 p n hP).1 g'
      split at hc
      · have := Int.mul_nonneg (show 0 ≤ m by omega) e2
        omega
      split at hc
      · obtain ⟨q', f1, f2, f3⟩ := hc
        have hj : ((i - N0 : Nat) : Int) + 1 ≤ m - 1 := by
          have : (M : Int) = m - 1 := by rw [n1, if_pos (by omega)]
          omega
        have e : m * (q - q') = ((i - N0 : Nat) : Int) + 1 := by rw [Int.mul_sub]; omega
        rcases Int.lt_or_le 0 (q - q') with g | g
        · have := Int.mul_le_mul_of_nonneg_left (show 1 ≤ q - q' by omega) (show 0 ≤ m by omega)
          omega
        · have := Int.mul_le_mul_of_nonneg_left g (show 0 ≤ m by omega)
          omega
      · have := Int.mul_le_mul_of_nonneg_left (show q ≤ C - 1 by omega) (show 0 ≤ m by omega)
        omega
    · rintro ⟨g1, g2⟩
      obtain ⟨p, hP⟩ := (pl_iff h hab n).1 g1
      have hno : ¬ ∃ q, p = k0 + m * q ∧ 0 ≤ q ∧ q < C := fun g => g2 ((h3 p n hP).2 g)
      obtain ⟨_, hp0, hpN⟩ := hP
      have hP : Pl a b c p n := ⟨‹_›, hp0, hpN⟩
      rw [← eN] at hpN
      rcases Int.lt_or_le p k0 with g | g
      · have e0 : N0 = 1 := by have := n0; rw [if_pos (by omega)] at this; exact this
        refine ⟨0, by omega, ((hp 0 (by omega)).2.2.2 n).2 ⟨p, hP, ?_⟩⟩
        rw [if_pos (by omega)]; exact g
      rcases Int.lt_or_le (k0 + m * (C - 1)) p with g' | g'
      · have e1 : N1 = 1 := by have := n2; rw [if_pos (by omega)] at this; exact this
        refine ⟨N0 + M, by omega, ((hp (N0 + M) (by omega)).2.2.2 n).2 ⟨p, hP, ?_⟩⟩
        rw [if_neg (by omega), if_neg (by omega)]; exact g'
      · have d1 := Int.emod_add_mul_ediv (p - k0) m
        have d2 := Int.emod_nonneg (p - k0) (show m ≠ 0 by omega)
        have d3 := Int.emod_lt_of_pos (p - k0) (show 0 < m by omega)
        have d4 : 0 ≤ (p - k0) / m := Int.ediv_nonneg (by omega) (by omega)
        obtain ⟨q, eq⟩ : ∃ q, q = (p - k0) / m := ⟨_, rfl⟩
        obtain ⟨r, er⟩ : ∃ r, r = (p - k0) % m := ⟨_, rfl⟩
        rw [← eq, ← er] at d1
        rw [← er] at d2 d3
        rw [← eq] at d4
        have hq : q ≤ C - 1 := by
          refine Classical.byContradiction fun hq => ?_
          have := Int.mul_le_mul_of_nonneg_left (show C ≤ q by omega) (show 0 ≤ m by omega)
          have e : m * C = m * (C - 1) + m := by rw [Int.mul_sub, Int.mul_one]; omega
          omega
        have hr : 1 ≤ r := by
          refine Classical.byContradiction fun hr => hno ⟨q, by omega, d4, by omega⟩
        have hq' : q < C - 1 := by
          refine Classical.byContradiction fun hq' => ?_
          have : q = C - 1 := by omega
          subst this
          omega
        have eM1 : (M : Int) = m - 1 := by rw [n1, if_pos (by omega)]
        obtain ⟨j, hj⟩ : ∃ j : Nat, (j : Int) = r - 1 := ⟨(r - 1).toNat, by omega⟩
        refine ⟨N0 + j, by omega, ((hp (N0 + j) (by omega)).2.2.2 n).2 ⟨p, hP, ?_⟩⟩
        rw [if_neg (by omega), if_pos (by omega)]
        refine ⟨q, ?_, d4, hq'⟩
        have : N0 + j - N0 = j := by omega
        rw [this]; omega
    · obtain ⟨p, hP, hc⟩ := ((hp i hi).2.2.2 n).1 gi
      obtain ⟨p', hP', hc'⟩ := ((hp j hj).2.2.2 n).1 gj
      obtain rfl := pl_one h hab hP hP'
      have mid : ∀ t : Nat, t < N0 + M → ¬ t < N0 → (∃ q, p = k0 + ((t - N0 : Nat) : Int) + 1 + m * q ∧ 0 ≤ q ∧ q < C - 1) → ∃ q, p = k0 + ((t - N0 : Nat) : Int) + 1 + m * q ∧ k0 < p ∧ p ≤ k0 + m * (C - 1) ∧ ((t - N0 : Nat) : Int) + 1 ≤ m - 1 := by
        rintro t ht1 ht2 ⟨q, f1, f2, f3⟩
        have hj : ((t - N0 : Nat) : Int) + 1 ≤ m - 1 := by
          have : (M : Int) = m - 1 := by rw [n1, if_pos (by omega)]
          omega
        have u1 := Int.mul_nonneg (show 0 ≤ m by omega) f2
        have u2 := Int.mul_le_mul_of_nonneg_left (show q ≤ C - 1 - 1 by omega) (show 0 ≤ m by omega)
        have u3 : m * (C - 1 - 1) = m * (C - 1) - m := by rw [Int.mul_sub m (C - 1) 1, Int.mul_one]
        exact ⟨q, f1, by omega, by omega, hj⟩
      by_cases i1 : i < N0
      · rw [if_pos i1] at hc
        by_cases j1 : j < N0
        · have : N0 ≤ 1 := by rw [n0]; split <;> omega
          omega
        rw [if_neg j1] at hc'
        by_cases j2 : j < N0 + M
        · rw [if_pos j2] at hc'
          obtain ⟨q, _, g, _⟩ := mid j j2 j1 hc'
          omega
        · rw [if_neg j2] at hc'; omega
      rw [if_neg i1] at hc
      by_cases i2 : i < N0 + M
      · rw [if_pos i2] at hc
        obtain ⟨q, f1, f2, f3, f4⟩ := mid i i2 i1 hc
        by_cases j1 : j < N0
        · rw [if_pos j1] at hc'; omega
        rw [if_neg j1] at hc'
        by_cases j2 : j < N0 + M
        · rw [if_pos j2] at hc'
          obtain ⟨q', f1', f2', f3', f4'⟩ := mid j j2 j1 hc'
          have e : m * (q - q') = ((j - N0 : Nat) : Int) - ((i - N0 : Nat) : Int) := by rw [Int.mul_sub]; omega
          rcases Int.lt_trichotomy 0 (q - q') with g | g | g
          · have := Int.mul_le_mul_of_nonneg_left (show 1 ≤ q - q' by omega) (show 0 ≤ m by omega)
            omega
          · rw [← g] at e; omega
          · have := Int.mul_le_mul_of_nonneg_left (show q - q' ≤ -1 by omega) (show 0 ≤ m by omega)
            omega
        · rw [if_neg j2] at hc'; omega
      · rw [if_neg i2] at hc
        have l1 : N1 ≤ 1 := by rw [n2]; split <;> omega
        by_cases j1 : j < N0
        · rw [if_pos j1] at hc'; omega
        rw [if_neg j1] at hc'
        by_cases j2 : j < N0 + M
        · rw [if_pos j2] at hc'
          obtain ⟨q, _, _, g, _⟩ := mid j j2 j1 hc'
          omega
        · omega
end
end Go.RX.Span

/- Indices of a domain as a list of pairs, in plain Lean. -/
set_option linter.unusedVariables false
set_option linter.unusedSimpArgs false
namespace Go.RX.Span
open Go Go.RX Go.Proofs Go.Lib

/-- An index lies in a domain. -/
def InD (n : Nat) (f : Nat → R3) (x : Int × Int) : Prop := RInR (f 0) x.1 ∧ (if n = 1 then x.2 = 0 else RInR (f 1) x.2)
theorem rin_num {r : R3} (h : RR r) (v : Int) : RInR r v ↔ ∃ p, p < szNR r ∧ numR r p = v := by
  show RIn (rA r) (rB r) (rC r) v ↔ ∃ p, p < szN (rA r) (rB r) (rC r) ∧ num (rA r) (rB r) (rC r) p = v
  rw [szN_eq h.1]
  by_cases hab : rA r ≤ rB r
  · have hA : absI (rC r) = rC r := absI_pos (by have := h.2; omega)
    rw [pl_iff h.1 hab]
    constructor
    · rintro ⟨p, rfl, h1, h2⟩
      refine ⟨p.toNat, by omega, ?_⟩
      rw [num_eq h.1 hab, if_neg (by have := h.2; omega), hA, Int.toNat_of_nonneg h1]
    · rintro ⟨p, h1, rfl⟩
      refine ⟨p, ?_, by omega, by omega⟩
      rw [num_eq h.1 hab, if_neg (by have := h.2; omega), hA]
  · have e : ofC (rA r) (rB r) (rC r) = 0 := by unfold ofC; rw [if_pos (by omega)]
    rw [e]
    constructor
    · rintro ⟨_, _, g, _⟩; omega
    · rintro ⟨p, hp, _⟩; simp at hp
theorem idX_eq (n : Nat) (f : Nat → R3) (p : Nat) : idX n f p = numR (f 0) (pth n (szNR (f 1)) p 0) := by
  unfold idX pth
  by_cases h : n = 1
  · rw [if_pos h, if_pos h]; rfl
  · rw [if_neg h, if_neg h, if_pos rfl]; rfl
theorem idY_eq (n : Nat) (f : Nat → R3) (p : Nat) (h : n ≠ 1) : idY n f p = numR (f 1) (pth n (szNR (f 1)) p 1) := by
  unfold idY pth
  rw [if_neg h, if_neg h, if_neg (by omega)]; rfl
theorem mem_idL {n : Nat} {f : Nat → R3} {k s h : Int} (hc : chD n f k s h = 0) (x : Int × Int) : x ∈ listP (szDn n f k s h) (idF n f) ↔ InD n f x := by
  have d1 := (chD_zero.1 hc).1
  unfold listP InD
  rw [List.mem_map, szDn_right hc]
  have e : ∀ p, at2 (idF n f) p = (idX n f p, idY n f p) := fun p => rfl
  rcases d1.1 with rfl | rfl
  · rw [if_pos rfl, if_pos rfl, Nat.mul_one, rin_num (d1.2 0 (by omega))]
    constructor
    · rintro ⟨p, hp, rfl⟩
      refine ⟨⟨p, List.mem_range.1 hp, ?_⟩, ?_⟩
      · rw [e]; show _ = idX 1 f p; rw [idX_eq]; unfold pth; rw [if_pos rfl]
      · rw [e]; show idY 1 f p = 0; unfold idY; rw [if_pos rfl]
    · rintro ⟨⟨p, hp, h1⟩, h2⟩
      refine ⟨p, List.mem_range.2 hp, ?_⟩
      rw [e]
      refine Prod.ext ?_ ?_
      · show idX 1 f p = _; rw [idX_eq, ← h1]; unfold pth; rw [if_pos rfl]
      · show idY 1 f p = _; rw [h2]; unfold idY; rw [if_pos rfl]
  · rw [if_neg (by omega), if_neg (by omega), rin_num (d1.2 0 (by omega)), rin_num (d1.2 1 (by omega))]
    constructor
    · rintro ⟨p, hp, rfl⟩
      have hp : p < szNR (f 0) * szNR (f 1) := List.mem_range.1 hp
      have hq : 0 < szNR (f 1) := Nat.pos_of_ne_zero fun h0 => by rw [h0, Nat.mul_zero] at hp; omega
      refine ⟨⟨p / szNR (f 1), Nat.div_lt_of_lt_mul (by rw [Nat.mul_comm]; exact hp), ?_⟩, ⟨p % szNR (f 1), Nat.mod_lt _ hq, ?_⟩⟩
      · rw [e]; show _ = idX 2 f p; rw [idX_eq]; unfold pth; rw [if_neg (by omega), if_pos rfl]
      · rw [e]; show _ = idY 2 f p; rw [idY_eq _ _ _ (by omega)]; unfold pth; rw [if_neg (by omega), if_neg (by omega)]
    · rintro ⟨⟨p, hp, h1⟩, ⟨q, hq, h2⟩⟩
      have hd : (p * szNR (f 1) + q) / szNR (f 1) = p := by
        rw [Nat.mul_comm, Nat.mul_add_div (by omega), Nat.div_eq_of_lt hq, Nat.add_zero]
      have hm : (p * szNR (f 1) + q) % szNR (f 1) = q := by
        rw [Nat.mul_comm, Nat.mul_add_mod, Nat.mod_eq_of_lt hq]
      refine ⟨p * szNR (f 1) + q, List.mem_range.2 ?_, ?_⟩
      · show p * szNR (f 1) + q < szNR (f 0) * szNR (f 1)
        have := Nat.mul_le_mul_right (szNR (f 1)) (show p + 1 ≤ szNR (f 0) by omega)
        rw [Nat.add_mul, Nat.one_mul] at this
        omega
      · rw [e]
        refine Prod.ext ?_ ?_
        · show idX 2 f _ = _; rw [idX_eq, ← h1]; unfold pth; rw [if_neg (by omega), if_pos rfl, hd]
        · show idY 2 f _ = _; rw [idY_eq _ _ _ (by omega), ← h2]; unfold pth; rw [if_neg (by omega), if_neg (by omega), hm]
theorem numR_lt {r : R3} (h : RR r) (hp : 0 < szNR r) {i j : Nat} (hij : i < j) : numR r i < numR r j := by
  obtain ⟨a, b, c, ha, hb, hc, hr, hab, h0, _⟩ := szN_pos h hp
  show num r.1 r.2.1 r.2.2.1 i < num r.1 r.2.1 r.2.2.1 j
  rw [← ha, ← hb, ← hc]
  exact num_lt hr hab h0 hij
/-- The indices are in order. -/
theorem srt_idL {n : Nat} {f : Nat → R3} {k s h : Int} (hc : chD n f k s h = 0) : (listP (szDn n f k s h) (idF n f)).Pairwise fun x y => Go.Proofs.ltOf cmpPair x y = true := by
  have d1 := (chD_zero.1 hc).1
  unfold listP
  rw [List.pairwise_map, szDn_right hc]
  refine List.Pairwise.imp_of_mem ?_ List.pairwise_lt_range
  intro i j hi hj hij
  have hi := List.mem_range.1 hi
  have hj := List.mem_range.1 hj
  rw [ltP, decide_eq_true_eq]
  show idX n f i < idX n f j ∨ (idX n f i = idX n f j ∧ idY n f i < idY n f j)
  rcases d1.1 with rfl | rfl
  · rw [if_pos rfl, Nat.mul_one] at hj
    refine .inl ?_
    rw [idX_eq, idX_eq]; unfold pth; rw [if_pos rfl, if_pos rfl]
    exact numR_lt (d1.2 0 (by omega)) (Nat.lt_of_le_of_lt (Nat.zero_le _) hj) hij
  · rw [if_neg (by omega)] at hj
    have hj : j < szNR (f 0) * szNR (f 1) := hj
    have hq : 0 < szNR (f 1) := Nat.pos_of_ne_zero fun h0 => by rw [h0, Nat.mul_zero] at hj; omega
    have h0 : 0 < szNR (f 0) := Nat.pos_of_ne_zero fun h0 => by rw [h0, Nat.zero_mul] at hj; omega
    rw [idX_eq, idX_eq, idY_eq _ _ _ (by omega), idY_eq _ _ _ (by omega)]
    unfold pth
    rw [if_neg (by omega), if_pos rfl, if_neg (by omega), if_pos rfl, if_neg (by omega), if_neg (by omega), if_neg (by omega), if_neg (by omega)]
    have hle : i / szNR (f 1) ≤ j / szNR (f 1) := Nat.div_le_div_right (by omega)
    rcases Nat.lt_or_ge (i / szNR (f 1)) (j / szNR (f 1)) with g | g
    · exact .inl (numR_lt (d1.2 0 (by omega)) h0 g)
    · have e : i / szNR (f 1) = j / szNR (f 1) := by omega
      have e1 := Nat.div_add_mod i (szNR (f 1))
      have e2 := Nat.div_add_mod j (szNR (f 1))
      rw [e] at e1 ⊢
      exact .inr ⟨rfl, numR_lt (d1.2 1 (by omega)) hq (by omega)⟩
theorem eq_lt {l l' : List (Int × Int)} (h : l.Pairwise fun x y => Go.Proofs.ltOf cmpPair x y = true) (h' : l'.Pairwise fun x y => Go.Proofs.ltOf cmpPair x y = true) (he : ∀ m, m ∈ l ↔ m ∈ l') : l = l' := by
  have ne : ∀ {x y : Int × Int}, Go.Proofs.ltOf cmpPair x y = true → x ≠ y := fun {x y} g e => by
    subst e; rw [ltP] at g; simp at g
  refine List.Perm.eq_of_pairwise (le := fun x y => Go.Proofs.ltOf cmpPair x y = true) (fun a b _ _ h1 h2 => ?_) h h' ((List.perm_ext_iff_of_nodup (h.imp fun g => ne g) (h'.imp fun g => ne g)).2 he)
  rw [ltP, decide_eq_true_eq] at h1 h2
  exact absurd h1 (by omega)
end Go.RX.Span

/- The difference of two domains as sets, in plain Lean. -/
set_option linter.unusedVariables false
set_option linter.unusedSimpArgs false
namespace Go.RX.Span
open Go Go.RX Go.Proofs Go.Lib

theorem push_yes {q : DL} {x : DE} (h : 0 < szE x) : push q x = (q.1 + 1, U.cat q.1 q.2 fun _ => x) := by unfold push; rw [if_pos h]
theorem pushes_all {c : Nat → DE} {q : DL} : ∀ j, (∀ i, i < j → 0 < szE (c i)) → (pushes c q j).1 = q.1 + j ∧ ∀ i, (i < q.1 → (pushes c q j).2 i = q.2 i) ∧ (i < j → (pushes c q j).2 (q.1 + i) = c i)
  | 0, _ => ⟨rfl, fun i => ⟨fun _ => rfl, fun h => absurd h (Nat.not_lt_zero i)⟩⟩
  | j + 1, h => by
    obtain ⟨h1, h2⟩ := pushes_all (c := c) (q := q) j fun i hi => h i (by omega)
    have e : pushes c q (j + 1) = push (pushes c q j) (c j) := rfl
    rw [e, push_yes (h j (by omega))]
    refine ⟨by show (pushes c q j).1 + 1 = _; omega, fun i => ⟨fun hi => ?_, fun hi => ?_⟩⟩
    · refine (U.cat_eq _ _ _ _).trans ((if_pos (show i < (pushes c q j).1 by omega)).trans ((h2 i).1 hi))
    · by_cases hj : i < j
      · exact (U.cat_eq _ _ _ _).trans ((if_pos (show q.1 + i < (pushes c q j).1 by omega)).trans ((h2 i).2 hj))
      · obtain rfl : i = j := by omega
        exact (U.cat_eq _ _ _ _).trans (if_neg (show ¬ q.1 + i < (pushes c q i).1 by omega))
theorem pc_pos {f s n c : Int} (hs : 1 ≤ s) (hc : 0 < c) (hr : Right (pc f s n c).1 (pc f s n c).2.1 (pc f s n c).2.2.1) : 0 < rC (pc f s n c) := by
  have hr : Right (mvLow f s n) (mvHigh f s n) (mvStr f s n c) := hr
  show 0 < mvStr f s n c
  by_cases h0 : n ≤ 0
  · unfold mvStr; rw [if_pos h0]; omega
  by_cases hE : mvE f s n = 0
  · unfold mvStr; rw [if_neg h0, if_pos hE]
    split
    · omega
    · rw [if_neg (by omega)]; omega
  · unfold mvLow mvHigh mvStr at hr
    rw [if_neg h0, if_neg hE, if_neg h0, if_neg hE, if_neg h0, if_neg hE] at hr
    rcases hr.2 with g | g | g <;> omega
theorem sbF_pos {a b c x y z : Int} (h : Right a b c) (h' : Right x y z) (hc : 0 < c) {i : Nat} (hi : i < sbN a b c x y z) (hr : Right (sbF a b c x y z i).1 (sbF a b c x y z i).2.1 (sbF a b c x y z i).2.2.1) : 0 < rC (sbF a b c x y z i) := by
  have hn : ¬ ckd a b c x y z ≠ 0 := by simp [ckd_zero h h']
  by_cases hC : isC a b c x y z = 0
  · have hab : a ≤ b := by
      refine Classical.byContradiction fun g => ?_
      have e0 : ofC a b c = 0 := by unfold ofC; rw [if_pos (by omega)]
      unfold sbN at hi
      rw [if_neg hn, if_pos hC, if_neg (by omega)] at hi; omega
    obtain ⟨p1, _⟩ := parts h hab
    have e : sbF a b c x y z i = pc (sA a b c) (sS a b c) (ofC a b c) c := by unfold sbF; rw [if_pos hC]
    rw [e] at hr ⊢
    have eS : sS a b c = absI c := (up_of h hab).2
    exact pc_pos (by rw [eS]; exact p1) hc hr
  · obtain ⟨_, _, _, eS, s1, _, _, _, _, B1, _⟩ := sb_facts h h' hC
    by_cases c1 : i < sbN0 a b c x y z
    · have e : sbF a b c x y z i = pc (sA a b c) (sS a b c) ((isF a b c x y z - sA a b c).tdiv (sS a b c)) c := by unfold sbF; rw [if_neg hC, if_pos c1]
      rw [e] at hr ⊢
      exact pc_pos (by rw [eS]; exact s1) hc hr
    by_cases c2 : i < sbN0 a b c x y z + sbM a b c x y z
    · have e : sbF a b c x y z i = pc (isF a b c x y z + sS a b c * ((i - sbN0 a b c x y z : Nat) + 1)) (isB a b c x y z) (isC a b c x y z - 1) c := by unfold sbF; rw [if_neg hC, if_neg c1, if_pos c2]; rfl
      rw [e] at hr ⊢
      exact pc_pos B1 hc hr
    · have e : sbF a b c x y z i = pc (sbL a b c x y z + sS a b c) (sS a b c) ((sbT a b c - sbL a b c x y z).tdiv (sS a b c)) c := by unfold sbF; rw [if_neg hC, if_neg c1, if_neg c2]
      rw [e] at hr ⊢
      exact pc_pos (by rw [eS]; exact s1) hc hr
/-- The pieces of one dimension. -/
theorem sbR_all {r q : R3} (h : RR r) (h' : RR q) (h4 : szR r ≤ 900) : sbE (rA r) (rB r) (rC r) (rA q) (rB q) (rC q) = 0 ∧ (sbN (rA r) (rB r) (rC r) (rA q) (rB q) (rC q) : Int) ≤ szR r ∧
    (∀ i, i < sbN (rA r) (rB r) (rC r) (rA q) (rB q) (rC q) → RR (sbF (rA r) (rB r) (rC r) (rA q) (rB q) (rC q) i) ∧ 1 ≤ szR (sbF (rA r) (rB r) (rC r) (rA q) (rB q) (rC q) i) ∧ szR (sbF (rA r) (rB r) (rC r) (rA q) (rB q) (rC q) i) ≤ szR r) ∧
    (∀ v, (∃ i, i < sbN (rA r) (rB r) (rC r) (rA q) (rB q) (rC q) ∧ RInR (sbF (rA r) (rB r) (rC r) (rA q) (rB q) (rC q) i) v) ↔ RInR r v ∧ ¬ RInR q v) ∧
    (∀ v i j, i < sbN (rA r) (rB r) (rC r) (rA q) (rB q) (rC q) → j < sbN (rA r) (rB r) (rC r) (rA q) (rB q) (rC q) → RInR (sbF (rA r) (rB r) (rC r) (rA q) (rB q) (rC q) i) v → RInR (sbF (rA r) (rB r) (rC r) (rA q) (rB q) (rC q) j) v → i = j) := by
  have e := (rr_size h).1
  obtain ⟨a1, a2, a3, a4, a5⟩ := sb_all h.1 h'.1 (by rw [← e]; exact h4)
  refine ⟨a1, by rw [e]; exact a2, fun i hi => ?_, a4, a5⟩
  obtain ⟨b1, b2, b3⟩ := a3 i hi
  have hpos : 0 < rC (sbF (rA r) (rB r) (rC r) (rA q) (rB q) (rC q) i) := sbF_pos h.1 h'.1 h.2 hi b1
  have hr : RR (sbF (rA r) (rB r) (rC r) (rA q) (rB q) (rC q) i) := ⟨b1, hpos⟩
  refine ⟨hr, ?_, ?_⟩
  · rw [(rr_size hr).1]; exact b2
  · rw [(rr_size hr).1, e]; exact b3
/-- What a difference of domains is, as sets of indices. -/
structure DsOK (n : Nat) (f : Nat → R3) (k s h : Int) (g : Nat → R3) (q : DL) : Prop where
  len : (q.1 : Int) ≤ szD n f k s h
  one : ∀ i, i < q.1 → ∃ e : Nat → R3, q.2 i = mkD n e k s h ∧ chD n e k s h = 0 ∧ 0 < szD n e k s h ∧ szD n e k s h ≤ szD n f k s h
  mem : ∀ x, (∃ i, i < q.1 ∧ InD n (q.2 i).1.2 x) ↔ InD n f x ∧ ¬ InD n g x
  sep : ∀ x i j, i < q.1 → j < q.1 → InD n (q.2 i).1.2 x → InD n (q.2 j).1.2 x → i = j
section
variable {n : Nat} {f : Nat → R3} {k s h : Int} {g : Nat → R3} {k' s' h' : Int}
theorem ds_none (hc : chD n f k s h = 0) (hg : chD n g k' s' h' = 0) (h0 : szD n (diF f g) k s h = 0) : DsOK n f k s h g (push noD (mkD n f k s h)) := by
  have hz : 0 ≤ szD n f k s h := by rw [szD_right hc]; exact (dr_prod (chD_zero.1 hc).1).1
  have hd := di_right (boE_zero.2 ⟨hc, hg, rfl⟩ : boE n f k s h n g k' s' h' = 0)
  have dn := (chD_zero.1 hc).1
  have hno : ∀ x, InD n f x → ¬ InD n g x := fun x hx hy => by
    obtain ⟨i, hi, hs⟩ := (szD_none hd).1 h0
    have sp : ∀ t, t < n → RR (f t) ∧ RR (g t) := fun t ht => ⟨dn.2 t ht, (chD_zero.1 hg).1.2 t ht⟩
    have r := (chD_zero.1 hd).1.2 i hi
    have key : ∀ v, RInR (f i) v → RInR (g i) v → False := fun v g1 g2 => rr_none r hs v (((isR_spec (sp i hi).1 (sp i hi).2).2.1 v).2 ⟨g1, g2⟩)
    rcases dn.1 with rfl | rfl
    · obtain rfl : i = 0 := by omega
      exact key _ hx.1 hy.1
    · have hx2 : RInR (f 1) x.2 := by have := hx.2; rwa [if_neg (by omega)] at this
      have hy2 : RInR (g 1) x.2 := by have := hy.2; rwa [if_neg (by omega)] at this
      rcases (show i = 0 ∨ i = 1 by omega) with rfl | rfl
      · exact key _ hx.1 hy.1
      · exact key _ hx2 hy2
  have esz : szE (mkD n f k s h) = szD n f k s h := rfl
  by_cases hp : 0 < szD n f k s h
  · rw [push_yes (by rw [esz]; exact hp)]
    have e0 : ∀ i, i < noD.1 + 1 → (U.cat noD.1 noD.2 fun _ => mkD n f k s h) i = mkD n f k s h := fun i hi => (U.cat_eq _ _ _ _).trans (if_neg (by show ¬ i < 0; omega))
    refine ⟨by show ((0 + 1 : Nat) : Int) ≤ _; omega, fun i hi => ⟨f, e0 i hi, hc, hp, Int.le_refl _⟩, fun x => ⟨?_, fun hx => ⟨0, by show 0 < 0 + 1; omega, ?_⟩⟩, fun x i j hi hj _ _ => ?_⟩
    · rintro ⟨i, hi, hx⟩
      have hx : InD n ((U.cat noD.1 noD.2 fun _ => mkD n f k s h) i).1.2 x := hx
      rw [e0 i hi] at hx
      exact ⟨hx, hno x hx⟩
    · show InD n ((U.cat noD.1 noD.2 fun _ => mkD n f k s h) 0).1.2 x
      rw [e0 0 (by show 0 < 0 + 1; omega)]; exact hx.1
    · have hi : i < 0 + 1 := hi
      have hj : j < 0 + 1 := hj
      omega
  · have e1 : push noD (mkD n f k s h) = noD := by unfold push; rw [if_neg (by rw [esz]; exact hp)]
    rw [e1]
    have z : szD n f k s h = 0 := by omega
    refine ⟨by show ((0 : Nat) : Int) ≤ _; omega, fun i hi => absurd hi (Nat.not_lt_zero i), fun x => ⟨fun ⟨i, hi, _⟩ => absurd hi (Nat.not_lt_zero i), fun hx => ?_⟩, fun x i j hi => absurd hi (Nat.not_lt_zero i)⟩
    obtain ⟨i, hi, hs⟩ := (szD_none hc).1 z
    rcases dn.1 with rfl | rfl
    · obtain rfl : i = 0 := by omega
      exact absurd hx.1.1 (rr_none (dn.2 0 (by omega)) hs _)
    · have hx2 : RInR (f 1) x.2 := by have := hx.1.2; rwa [if_neg (by omega)] at this
      rcases (show i = 0 ∨ i = 1 by omega) with rfl | rfl
      · exact absurd hx.1.1 (rr_none (dn.2 0 (by omega)) hs _)
      · exact absurd hx2 (rr_none (dn.2 1 (by omega)) hs _)
end
end Go.RX.Span

/- The difference of two domains with common indices, in plain Lean. -/
set_option linter.unusedVariables false
set_option linter.unusedSimpArgs false
namespace Go.RX.Span
open Go Go.RX Go.Proofs Go.Lib

theorem sb_less {a b c x y z : Int} (h : Right a b c) (h' : Right x y z) (hC : isC a b c x y z ≠ 0) (h4 : ofC a b c ≤ 900) : (sbN a b c x y z : Int) + 1 ≤ ofC a b c := by
  have hn : ¬ ckd a b c x y z ≠ 0 := by simp [ckd_zero h h']
  obtain ⟨k0, m, h1, h2, h3, h5, n0, n1, n2, hp⟩ := sb_pieces h h' hC
  obtain ⟨c1, _⟩ := ((is_sw h h').1).resolve_left hC
  have b0 : (sbN0 a b c x y z : Int) ≤ k0 := by rw [n0]; split <;> omega
  have b1 : (sbN1 a b c x y z : Int) ≤ ofC a b c - 1 - (k0 + m * (isC a b c x y z - 1)) := by rw [n2]; split <;> omega
  have hmC : 0 ≤ m * (isC a b c x y z - 1) := Int.mul_nonneg (by omega) (by omega)
  have bM : (sbM a b c x y z : Int) ≤ m * (isC a b c x y z - 1) := by
    rw [n1]; split
    · have := Int.mul_le_mul_of_nonneg_left (show 1 ≤ isC a b c x y z - 1 by omega) (show 0 ≤ m by omega)
      omega
    · exact hmC
  have eA : (sbAll a b c x y z : Int) = sbN0 a b c x y z + sbM a b c x y z + sbN1 a b c x y z := by unfold sbAll; omega
  have eS : sbN a b c x y z = sbAll a b c x y z := by unfold sbN; rw [if_neg hn, if_neg hC, if_neg (by omega)]
  rw [eS]; omega
theorem isC_some {r q : R3} (h : RR r) (h' : RR q) (hs : szR (isR r q) ≠ 0) : isC (rA r) (rB r) (rC r) (rA q) (rB q) (rC q) ≠ 0 := by
  have e := (is_more h.1 h'.1).1
  have e2 := (rr_size (isR_spec h h').1).1
  rw [← e]
  rw [e2] at hs
  exact hs
section
variable {f : Nat → R3} {k s h : Int} {g : Nat → R3} {k' s' h' : Int}
theorem ds_one (hc : chD 1 f k s h = 0) (hg : chD 1 g k' s' h' = 0) (h5 : szD 1 f k s h ≤ 500) (h0 : szD 1 (diF f g) k s h ≠ 0) : DsOK 1 f k s h g (ds0 1 f k s h g) ∧ sb0E f g = 0 := by
  have hd := di_right (boE_zero.2 ⟨hc, hg, rfl⟩ : boE 1 f k s h 1 g k' s' h' = 0)
  have r0 := (chD_zero.1 hc).1.2 0 (by omega)
  have q0 := (chD_zero.1 hg).1.2 0 (by omega)
  have hd0 : szR (isR (f 0) (g 0)) ≠ 0 := fun e => h0 ((szD_none hd).2 ⟨0, by omega, e⟩)
  have ef : szD 1 f k s h = szR (f 0) := by rw [szD_right hc]; unfold colD; rw [if_pos rfl, Int.mul_one]
  obtain ⟨a1, a2, a3, a4, a5⟩ := sbR_all r0 q0 (by omega)
  have fit := (chD_zero.1 hc).2
  have cc : ∀ i, i < sb0N f g → chD 1 (c0F 1 f (sb0F f g i)) k s h = 0 ∧ szD 1 (c0F 1 f (sb0F f g i)) k s h = szR (sb0F f g i) := fun i hi => by
    have e : c0F 1 f (sb0F f g i) = fun _ => sb0F f g i := by unfold c0F; rw [if_pos rfl]
    rw [e]
    have hh : chD 1 (fun _ => sb0F f g i) k s h = 0 := chD_zero.2 ⟨⟨.inl rfl, fun _ _ => (a3 i hi).1⟩, fit⟩
    exact ⟨hh, by rw [szD_right hh]; unfold colD; rw [if_pos rfl, Int.mul_one]⟩
  obtain ⟨p1, p2⟩ := pushes_all (c := fun j => cnd0 1 f k s h (sb0F f g j)) (q := noD) (sb0N f g) (fun i hi => by
    show 0 < szD 1 (c0F 1 f (sb0F f g i)) k s h
    have : 1 ≤ szR (sb0F f g i) := (a3 i hi).2.1
    rw [(cc i hi).2]; omega)
  have eN : (ds0 1 f k s h g).1 = sb0N f g := p1.trans (Nat.zero_add _)
  have eE : ∀ i, i < sb0N f g → (ds0 1 f k s h g).2 i = mkD 1 (c0F 1 f (sb0F f g i)) k s h := fun i hi => by
    have := (p2 i).2 hi
    rw [show noD.1 + i = i from Nat.zero_add i] at this
    exact this
  have eI : ∀ i, i < sb0N f g → ∀ x, InD 1 ((ds0 1 f k s h g).2 i).1.2 x ↔ RInR (sb0F f g i) x.1 ∧ x.2 = 0 := fun i hi x => by
    rw [eE i hi]
    show InD 1 (c0F 1 f (sb0F f g i)) x ↔ _
    unfold InD c0F
    rw [if_pos rfl, if_pos rfl]
  refine ⟨⟨by rw [eN, ef]; exact a2, fun i hi => ?_, fun x => ?_, fun x i j hi hj gi gj => ?_⟩, a1⟩
  · rw [eN] at hi
    have u1 : 1 ≤ szR (sb0F f g i) := (a3 i hi).2.1
    have u2 : szR (sb0F f g i) ≤ szR (f 0) := (a3 i hi).2.2
    exact ⟨_, eE i hi, (cc i hi).1, by rw [(cc i hi).2]; omega, by rw [(cc i hi).2, ef]; exact u2⟩
  · have hx : ∀ e : Nat → R3, InD 1 e x ↔ RInR (e 0) x.1 ∧ x.2 = 0 := fun e => by unfold InD; rw [if_pos rfl]
    rw [hx f, hx g]
    have a4' := a4 x.1
    constructor
    · rintro ⟨i, hi, gx⟩
      rw [eN] at hi
      obtain ⟨g1, g2⟩ := (eI i hi x).1 gx
      obtain ⟨v1, v2⟩ := a4'.1 ⟨i, hi, g1⟩
      exact ⟨⟨v1, g2⟩, fun w => v2 w.1⟩
    · rintro ⟨⟨v1, v2⟩, v3⟩
      obtain ⟨i, hi, g1⟩ := a4'.2 ⟨v1, fun w => v3 ⟨w, v2⟩⟩
      exact ⟨i, by rw [eN]; exact hi, (eI i hi x).2 ⟨g1, v2⟩⟩
  · rw [eN] at hi hj
    exact a5 x.1 i j hi hj ((eI i hi x).1 gi).1 ((eI j hj x).1 gj).1
end
end Go.RX.Span

/- The difference of two domains of two columns, in plain Lean. -/
set_option linter.unusedVariables false
set_option linter.unusedSimpArgs false
namespace Go.RX.Span
open Go Go.RX Go.Proofs Go.Lib
section
variable {f : Nat → R3} {k s h : Int} {g : Nat → R3} {k' s' h' : Int}
theorem in2 (e : Nat → R3) (x : Int × Int) : InD 2 e x ↔ RInR (e 0) x.1 ∧ RInR (e 1) x.2 := by unfold InD; rw [if_neg (by omega)]
theorem sz2 {e : Nat → R3} (hc : chD 2 e k s h = 0) : szD 2 e k s h = szR (e 0) * szR (e 1) := by rw [szD_right hc]; unfold colD; rw [if_neg (by omega)]
theorem ds_two (hc : chD 2 f k s h = 0) (hg : chD 2 g k' s' h' = 0) (h5 : szD 2 f k s h ≤ 500) (h0 : szD 2 (diF f g) k s h ≠ 0) : DsOK 2 f k s h g (ds1 2 f k s h g) ∧ sb0E f g = 0 ∧ sb1E f g = 0 := by
  have hd := di_right (boE_zero.2 ⟨hc, hg, rfl⟩ : boE 2 f k s h 2 g k' s' h' = 0)
  have r0 := (chD_zero.1 hc).1.2 0 (by omega)
  have r1 := (chD_zero.1 hc).1.2 1 (by omega)
  have q0 := (chD_zero.1 hg).1.2 0 (by omega)
  have q1 := (chD_zero.1 hg).1.2 1 (by omega)
  have fit := (chD_zero.1 hc).2
  have ef := sz2 hc
  have hd0 : szR (isR (f 0) (g 0)) ≠ 0 := fun e => h0 ((szD_none hd).2 ⟨0, by omega, e⟩)
  have hd1 : szR (isR (f 1) (g 1)) ≠ 0 := fun e => h0 ((szD_none hd).2 ⟨1, by omega, e⟩)
  obtain ⟨i1, i2, i3, i4⟩ := isR_spec r0 q0
  obtain ⟨j1, j2, j3, j4⟩ := isR_spec r1 q1
  obtain ⟨_, z1, _⟩ := rr_size i1
  obtain ⟨_, z2, _⟩ := rr_size j1
  obtain ⟨S0, eS0⟩ : ∃ S, S = szR (f 0) := ⟨_, rfl⟩
  obtain ⟨S1, eS1⟩ : ∃ S, S = szR (f 1) := ⟨_, rfl⟩
  obtain ⟨C0, eC0⟩ : ∃ S, S = szR (isR (f 0) (g 0)) := ⟨_, rfl⟩
  rw [← eS0, ← eS1] at ef
  rw [← eC0, ← eS0] at i3
  rw [← eC0] at z1 hd0
  rw [← eS1] at j3
  have p0 : 1 ≤ S0 := by omega
  have p1 : 1 ≤ S1 := by omega
  have mono : ∀ {u v : Int}, 0 ≤ u → u ≤ S0 → 0 ≤ v → v ≤ S1 → u * v ≤ S0 * S1 := fun hu hu' hv hv' =>
    Int.le_trans (Int.mul_le_mul_of_nonneg_right hu' hv) (Int.mul_le_mul_of_nonneg_left hv' (by omega))
  have b0 : S0 ≤ 500 := by have := Int.mul_le_mul_of_nonneg_left p1 (show 0 ≤ S0 by omega); omega
  have b1 : S1 ≤ 500 := by have := Int.mul_le_mul_of_nonneg_right p0 (show 0 ≤ S1 by omega); omega
  obtain ⟨a1, _, a3, a4, a5⟩ := sbR_all r0 q0 (by omega)
  obtain ⟨c1, _, c3, c4, c5⟩ := sbR_all r1 q1 (by omega)
  have l0 : (sb0N f g : Int) + 1 ≤ S0 := by
    rw [eS0, (rr_size r0).1]
    exact sb_less r0.1 q0.1 (isC_some r0 q0 (by rw [← eC0]; exact hd0)) (by rw [← (rr_size r0).1]; omega)
  have l1 : (sb1N f g : Int) + 1 ≤ S1 := by
    rw [eS1, (rr_size r1).1]
    exact sb_less r1.1 q1.1 (isC_some r1 q1 hd1) (by rw [← (rr_size r1).1]; omega)
  -- the pieces
  have cA : ∀ i, i < sb0N f g → chD 2 (c0F 2 f (sb0F f g i)) k s h = 0 ∧ szD 2 (c0F 2 f (sb0F f g i)) k s h = szR (sb0F f g i) * S1 := fun i hi => by
    have e0 : c0F 2 f (sb0F f g i) 0 = sb0F f g i := by unfold c0F; rw [if_neg (by omega), if_pos rfl]
    have e1 : c0F 2 f (sb0F f g i) 1 = f 1 := by unfold c0F; rw [if_neg (by omega), if_neg (by omega)]
    have hh : chD 2 (c0F 2 f (sb0F f g i)) k s h = 0 := chD_zero.2 ⟨⟨.inr rfl, fun t ht => by
      rcases (show t = 0 ∨ t = 1 by omega) with rfl | rfl
      · rw [e0]; exact (a3 i hi).1
      · rw [e1]; exact r1⟩, fit⟩
    exact ⟨hh, by rw [sz2 hh, e0, e1, eS1]⟩
  have cB : ∀ j, j < sb1N f g → chD 2 (ofList (ss := [.int .i64, .int .i64, .int .i64]) [diF f g 0, sb1F f g j]) k s h = 0 ∧ szD 2 (ofList (ss := [.int .i64, .int .i64, .int .i64]) [diF f g 0, sb1F f g j]) k s h = C0 * szR (sb1F f g j) := fun j hj => by
    have e0 : ofList (ss := [.int .i64, .int .i64, .int .i64]) [diF f g 0, sb1F f g j] 0 = isR (f 0) (g 0) := rfl
    have e1 : ofList (ss := [.int .i64, .int .i64, .int .i64]) [diF f g 0, sb1F f g j] 1 = sb1F f g j := rfl
    have hh : chD 2 (ofList (ss := [.int .i64, .int .i64, .int .i64]) [diF f g 0, sb1F f g j]) k s h = 0 := chD_zero.2 ⟨⟨.inr rfl, fun t ht => by
      rcases (show t = 0 ∨ t = 1 by omega) with rfl | rfl
      · rw [e0]; exact i1
      · rw [e1]; exact (c3 j hj).1⟩, fit⟩
    exact ⟨hh, by rw [sz2 hh, e0, e1, eC0]⟩
  have uA : ∀ i, i < sb0N f g → 1 ≤ szR (sb0F f g i) ∧ szR (sb0F f g i) ≤ S0 := fun i hi => ⟨(a3 i hi).2.1, by rw [eS0]; exact (a3 i hi).2.2⟩
  have uB : ∀ j, j < sb1N f g → 1 ≤ szR (sb1F f g j) ∧ szR (sb1F f g j) ≤ S1 := fun j hj => ⟨(c3 j hj).2.1, by rw [eS1]; exact (c3 j hj).2.2⟩
  have posA : ∀ i, i < sb0N f g → 0 < szR (sb0F f g i) * S1 := fun i hi => Int.mul_pos (by have := uA i hi; omega) (by omega)
  have posB : ∀ j, j < sb1N f g → 0 < C0 * szR (sb1F f g j) := fun j hj => Int.mul_pos (by omega) (by have := uB j hj; omega)
  obtain ⟨p1, p2⟩ := pushes_all (c := fun j => cnd0 2 f k s h (sb0F f g j)) (q := noD) (sb0N f g) (fun i hi => by
    show 0 < szD 2 (c0F 2 f (sb0F f g i)) k s h
    rw [(cA i hi).2]; exact posA i hi)
  have eN0 : (ds0 2 f k s h g).1 = sb0N f g := p1.trans (Nat.zero_add _)
  obtain ⟨o1, o2⟩ := pushes_all (c := fun j => cnd1 k s h (diF f g 0) (sb1F f g j)) (q := ds0 2 f k s h g) (sb1N f g) (fun j hj => by
    show 0 < szD 2 (ofList (ss := [.int .i64, .int .i64, .int .i64]) [diF f g 0, sb1F f g j]) k s h
    rw [(cB j hj).2]; exact posB j hj)
  have e1 : ds1 2 f k s h g = pushes (fun j => cnd1 k s h (diF f g 0) (sb1F f g j)) (ds0 2 f k s h g) (sb1N f g) := by unfold ds1; rw [if_neg (by omega)]
  rw [← e1] at o1 o2
  have eN : (ds1 2 f k s h g).1 = sb0N f g + sb1N f g := by rw [o1, eN0]
  have eA : ∀ i, i < sb0N f g → (ds1 2 f k s h g).2 i = mkD 2 (c0F 2 f (sb0F f g i)) k s h := fun i hi => by
    rw [(o2 i).1 (by rw [eN0]; exact hi)]
    have := (p2 i).2 hi
    rw [show noD.1 + i = i from Nat.zero_add i] at this
    exact this
  have eB : ∀ j, j < sb1N f g → (ds1 2 f k s h g).2 (sb0N f g + j) = mkD 2 (ofList (ss := [.int .i64, .int .i64, .int .i64]) [diF f g 0, sb1F f g j]) k s h := fun j hj => by
    have := (o2 j).2 hj
    rw [eN0] at this; exact this
  have iA : ∀ i, i < sb0N f g → ∀ x, InD 2 ((ds1 2 f k s h g).2 i).1.2 x ↔ RInR (sb0F f g i) x.1 ∧ RInR (f 1) x.2 := fun i hi x => by
    rw [eA i hi]
    show InD 2 (c0F 2 f (sb0F f g i)) x ↔ _
    rw [in2]; unfold c0F
    rw [if_neg (by omega)]
    exact Iff.rfl
  have iB : ∀ j, j < sb1N f g → ∀ x, InD 2 ((ds1 2 f k s h g).2 (sb0N f g + j)).1.2 x ↔ RInR (isR (f 0) (g 0)) x.1 ∧ RInR (sb1F f g j) x.2 := fun j hj x => by
    rw [eB j hj]
    show InD 2 (ofList (ss := [.int .i64, .int .i64, .int .i64]) [diF f g 0, sb1F f g j]) x ↔ _
    rw [in2]
    exact Iff.rfl
  refine ⟨⟨?_, fun i hi => ?_, fun x => ?_, fun x i j hi hj gi gj => ?_⟩, a1, c1⟩
  · rw [eN, ef]
    have := Int.mul_nonneg (show 0 ≤ S0 - 1 by omega) (show 0 ≤ S1 - 1 by omega)
    have e : (S0 - 1) * (S1 - 1) = S0 * S1 - S0 - S1 + 1 := by grind
    omega
  · rw [eN] at hi
    by_cases hA : i < sb0N f g
    · have u := uA i hA
      exact ⟨_, eA i hA, (cA i hA).1, by rw [(cA i hA).2]; exact posA i hA, by rw [(cA i hA).2, ef]; exact mono (by omega) u.2 (by omega) (Int.le_refl _)⟩
    · obtain ⟨j, rfl⟩ : ∃ j, i = sb0N f g + j := ⟨i - sb0N f g, by omega⟩
      have hj : j < sb1N f g := by omega
      have u := uB j hj
      exact ⟨_, eB j hj, (cB j hj).1, by rw [(cB j hj).2]; exact posB j hj, by rw [(cB j hj).2, ef]; exact mono z1 i3 (by omega) u.2⟩
  · rw [in2, in2]
    have A := a4 x.1
    have B := c4 x.2
    constructor
    · rintro ⟨i, hi, gx⟩
      rw [eN] at hi
      by_cases hA : i < sb0N f g
      · obtain ⟨g1, g2⟩ := (iA i hA x).1 gx
        obtain ⟨v1, v2⟩ := A.1 ⟨i, hA, g1⟩
        exact ⟨⟨v1, g2⟩, fun w => v2 w.1⟩
      · obtain ⟨j, rfl⟩ : ∃ j, i = sb0N f g + j := ⟨i - sb0N f g, by omega⟩
        have hj : j < sb1N f g := by omega
        obtain ⟨g1, g2⟩ := (iB j hj x).1 gx
        obtain ⟨v1, v2⟩ := B.1 ⟨j, hj, g2⟩
        exact ⟨⟨((i2 _).1 g1).1, v1⟩, fun w => v2 w.2⟩
    · rintro ⟨⟨v1, v2⟩, v3⟩
      by_cases w1 : RInR (g 0) x.1
      · obtain ⟨j, hj, g2⟩ := B.2 ⟨v2, fun w2 => v3 ⟨w1, w2⟩⟩
        have hj : j < sb1N f g := hj
        exact ⟨sb0N f g + j, by rw [eN]; omega, (iB j hj x).2 ⟨(i2 _).2 ⟨v1, w1⟩, g2⟩⟩
      · obtain ⟨i, hi, g1⟩ := A.2 ⟨v1, w1⟩
        have hi : i < sb0N f g := hi
        exact ⟨i, by rw [eN]; omega, (iA i hi x).2 ⟨g1, v2⟩⟩
  · rw [eN] at hi hj
    have noAB : ∀ i j, i < sb0N f g → j < sb1N f g → InD 2 ((ds1 2 f k s h g).2 i).1.2 x → InD 2 ((ds1 2 f k s h g).2 (sb0N f g + j)).1.2 x → False := fun i j hi hj gi gj => by
      have u := (a4 x.1).1 ⟨i, hi, ((iA i hi x).1 gi).1⟩
      exact u.2 ((i2 _).1 ((iB j hj x).1 gj).1).2
    by_cases hA : i < sb0N f g
    · by_cases hA' : j < sb0N f g
      · exact a5 x.1 i j hA hA' ((iA i hA x).1 gi).1 ((iA j hA' x).1 gj).1
      · obtain ⟨j, rfl⟩ : ∃ t, j = sb0N f g + t := ⟨j - sb0N f g, by omega⟩
        exact (noAB i j hA (by omega) gi gj).elim
    · obtain ⟨i, rfl⟩ : ∃ t, i = sb0N f g + t := ⟨i - sb0N f g, by omega⟩
      by_cases hA' : j < sb0N f g
      · exact (noAB j i hA' (by omega) gj gi).elim
      · obtain ⟨j, rfl⟩ : ∃ t, j = sb0N f g + t := ⟨j - sb0N f g, by omega⟩
        have hi' : i < sb1N f g := by omega
        have hj' : j < sb1N f g := by omega
        have := c5 x.2 i j hi' hj' ((iB i hi' x).1 gi).2 ((iB j hj' x).1 gj).2
        omega
end
end Go.RX.Span

/- Sets of indices as lists, in plain Lean. -/
set_option linter.unusedVariables false
set_option linter.unusedSimpArgs false
namespace Go.RX.Span
open Go Go.RX Go.Proofs Go.Lib
section
variable {n : Nat} {f : Nat → R3} {k s h : Int} {g : Nat → R3} {k' s' h' : Int}
theorem ds_all (hc : chD n f k s h = 0) (hg : chD n g k' s' h' = 0) (h5 : szD n f k s h ≤ 500) : dsE n f k s h n g k' s' h' = 0 ∧ DsOK n f k s h g (dsL n f k s h n g k' s' h') := by
  have hb : boE n f k s h n g k' s' h' = 0 := boE_zero.2 ⟨hc, hg, rfl⟩
  by_cases h0 : szD n (diF f g) k s h = 0
  · have e : dsE n f k s h n g k' s' h' = 0 := by unfold dsE; rw [if_neg (by simp [hb]), if_pos h0]
    refine ⟨e, ?_⟩
    unfold dsL
    rw [if_neg (by simp [e]), if_neg (by simp [hb]), if_pos h0]
    exact ds_none hc hg h0
  · rcases (chD_zero.1 hc).1.1 with rfl | rfl
    · obtain ⟨q1, q2⟩ := ds_one hc hg h5 h0
      have e : dsE 1 f k s h 1 g k' s' h' = 0 := by unfold dsE; rw [if_neg (by simp [hb]), if_neg h0, if_neg (by simp [q2]), if_pos rfl]
      refine ⟨e, ?_⟩
      unfold dsL ds1
      rw [if_neg (by simp [e]), if_neg (by simp [hb]), if_neg h0, if_pos rfl]
      exact q1
    · obtain ⟨q1, q2, q3⟩ := ds_two hc hg h5 h0
      have e : dsE 2 f k s h 2 g k' s' h' = 0 := by unfold dsE; rw [if_neg (by simp [hb]), if_neg h0, if_neg (by simp [q2]), if_neg (by omega)]; exact q3
      refine ⟨e, ?_⟩
      unfold dsL
      rw [if_neg (by simp [e]), if_neg (by simp [hb]), if_neg h0]
      exact q1
/-- A domain has the index of a pair. -/
noncomputable def hasP (n : Nat) (g : Nat → R3) (k s h : Int) (x : Int × Int) : Bool := hasD n g k s h n (ixF x.1 x.2)
theorem has_in (hg : chD n g k' s' h' = 0) {x : Int × Int} (hx : InD n f x) : hasP n g k' s' h' x = true ↔ InD n g x := by
  have d := (chD_zero.1 hg).1
  unfold hasP hasD
  rw [decide_eq_true_eq]
  have h0 : hasR (g 0) x.1 = true ↔ RInR (g 0) x.1 := (rin_has (d.2 0 (by have := d.1; omega)).1).symm
  rcases d.1 with rfl | rfl
  · have e := hx.2
    rw [if_pos rfl] at e
    unfold InD
    rw [if_pos rfl, ← h0]
    exact ⟨fun g => ⟨g.2.2.1, e⟩, fun g => ⟨hg, rfl, g.1, fun h => absurd h (by omega)⟩⟩
  · have h1 : hasR (g 1) x.2 = true ↔ RInR (g 1) x.2 := (rin_has (d.2 1 (by omega)).1).symm
    rw [in2, ← h0, ← h1]
    exact ⟨fun g => ⟨g.2.2.1, g.2.2.2 rfl⟩, fun g => ⟨hg, rfl, g.1, fun _ => g.2⟩⟩
def allP (n : Nat) (f : Nat → R3) (k s h : Int) : List (Int × Int) := listP (szDn n f k s h) (idF n f)
def elP (n : Nat) (e : DE) : List (Int × Int) := allP n e.1.2 e.2.1 e.2.2.1 e.2.2.2.1
def ptL (n : Nat) (F : Nat → DE) (N : Nat) : List (Int × Int) := (List.range N).flatMap fun i => elP n (F i)
theorem bothP (hc : chD n f k s h = 0) (hg : chD n g k' s' h' = 0) : allP n (diF f g) k s h = (allP n f k s h).filter fun x => hasP n g k' s' h' x := by
  have hd := di_right (boE_zero.2 ⟨hc, hg, rfl⟩ : boE n f k s h n g k' s' h' = 0)
  have df := (chD_zero.1 hc).1
  have dg := (chD_zero.1 hg).1
  refine eq_lt (srt_idL hd) ((srt_idL hc).filter _) fun x => ?_
  unfold allP
  rw [List.mem_filter, mem_idL hd, mem_idL hc]
  have sp : ∀ t, t < n → ∀ v, RInR (diF f g t) v ↔ RInR (f t) v ∧ RInR (g t) v := fun t ht => (isR_spec (df.2 t ht) (dg.2 t ht)).2.1
  have key : InD n (diF f g) x ↔ InD n f x ∧ InD n g x := by
    rcases df.1 with rfl | rfl
    · unfold InD
      rw [if_pos rfl, if_pos rfl, if_pos rfl, sp 0 (by omega)]
      exact ⟨fun ⟨⟨a, b⟩, c⟩ => ⟨⟨a, c⟩, b, c⟩, fun ⟨⟨a, c⟩, b, _⟩ => ⟨⟨a, b⟩, c⟩⟩
    · rw [in2, in2, in2, sp 0 (by omega), sp 1 (by omega)]
      exact ⟨fun ⟨⟨a, b⟩, c, d⟩ => ⟨⟨a, c⟩, b, d⟩, fun ⟨⟨a, c⟩, b, d⟩ => ⟨⟨a, b⟩, c, d⟩⟩
  rw [key]
  exact ⟨fun ⟨a, b⟩ => ⟨a, (has_in hg a).2 b⟩, fun ⟨a, b⟩ => ⟨a, (has_in hg a).1 b⟩⟩
theorem restP (hc : chD n f k s h = 0) (hg : chD n g k' s' h' = 0) (h5 : szD n f k s h ≤ 500) : (ptL n (dsF n f k s h n g k' s' h') (dsN n f k s h n g k' s' h')).Perm ((allP n f k s h).filter fun x => !hasP n g k' s' h' x) := by
  obtain ⟨_, q⟩ := ds_all hc hg h5
  have ne : ∀ {x y : Int × Int}, Go.Proofs.ltOf cmpPair x y = true → x ≠ y := fun {x y} g e => by
    subst e; rw [ltP] at g; simp at g
  have mem : ∀ i, i < dsN n f k s h n g k' s' h' → (elP n (dsF n f k s h n g k' s' h' i)).Nodup ∧ ∀ x, x ∈ elP n (dsF n f k s h n g k' s' h' i) ↔ InD n (dsF n f k s h n g k' s' h' i).1.2 x := fun i hi => by
    obtain ⟨e, h1, h2, _⟩ := q.one i hi
    have h1 : dsF n f k s h n g k' s' h' i = mkD n e k s h := h1
    rw [h1]
    exact ⟨(srt_idL h2).imp fun g => ne g, fun x => mem_idL h2 x⟩
  refine (List.perm_ext_iff_of_nodup ?_ (((srt_idL hc).imp fun g => ne g).filter _)).2 fun x => ?_
  · unfold ptL
    refine List.pairwise_flatMap.2 ⟨fun i hi => (mem i (List.mem_range.1 hi)).1, ?_⟩
    refine List.Pairwise.imp_of_mem ?_ List.pairwise_lt_range
    intro i j hi hj hij u hu v hv e
    have hi := List.mem_range.1 hi
    have hj := List.mem_range.1 hj
    subst e
    have := q.sep _ i j hi hj (((mem i hi).2 _).1 hu) (((mem j hj).2 _).1 hv)
    omega
  · unfold ptL
    rw [List.mem_flatMap, List.mem_filter]
    rw [mem_idL hc x]
    have key := q.mem x
    constructor
    · rintro ⟨i, hi, gx⟩
      have hi := List.mem_range.1 hi
      obtain ⟨v1, v2⟩ := key.1 ⟨i, hi, ((mem i hi).2 x).1 gx⟩
      exact ⟨v1, by rw [Bool.not_eq_true', ← Bool.not_eq_true]; exact fun w => v2 ((has_in hg v1).1 w)⟩
    · rintro ⟨v1, v2⟩
      rw [Bool.not_eq_true', ← Bool.not_eq_true] at v2
      obtain ⟨i, hi, gx⟩ := key.2 ⟨v1, fun w => v2 ((has_in hg v1).2 w)⟩
      exact ⟨i, List.mem_range.2 hi, ((mem i hi).2 x).2 gx⟩
end
end Go.RX.Span

/- The law of sets of indices: its functions. -/
set_option linter.unusedVariables false
set_option linter.unusedSimpArgs false
set_option maxRecDepth 100000
namespace Go.RX.Span
open Go Go.RX
attribute [local irreducible] sx conB

noncomputable abbrev d19 : List (Nat × Con) := [(99, c_DLAll), (98, c_Dsmall), (103, c_index), (78, c_DSubtract), (76, c_DIntersect), (65, c_DWithin), (66, c_DSame), (63, c_DCheck), (41, c_DSize), (88, c_DHas), (64, c_true)] --%K
noncomputable abbrev E19 : Env := ⟨P, conOf d19, scall P (conOf d19) noLoops 10⟩
end Go.RX.Span

/- The law of sets of indices: its first loop, the states. -/
set_option linter.unusedVariables false
set_option linter.unusedSimpArgs false
set_option maxRecDepth 100000
namespace Go.RX.Span
open Go Go.RX
attribute [local irreducible] sx conB

noncomputable abbrev boxE (n : Nat) (f : Nat → R3) (k s h : Int) : Nat × Option Blk := (0, some (.cells [.row [.int .i64, .int .i64, .int .i64] n f, .lit (.int .i64 k), .lit (.int .i64 s), .lit (.int .i64 h)] 49))
noncomputable abbrev slD1 (lN : Nat) (lF : Nat → R2) (w : Bool) (bN : Nat) (bF : Nat → R2) (u : Bool) (o : Nat) (pN : Nat) (pF : Nat → DE) (i : Int) : List SV :=
  [.ptr 0 0, .ptr 1 0, .row [.int .i64, .int .i64] lN lF, .lit (.bool w), .row [.int .i64, .int .i64] bN bF, .own u 3 o, .row [.sl [.int .i64, .int .i64, .int .i64], .int .i64, .int .i64, .int .i64] pN pF, .lit (.int .i64 (pN : Int)), .lit (.int .i64 i)]
noncomputable abbrev memD1 (n : Nat) (f : Nat → R3) (k s h : Int) (m : Nat) (g : Nat → R3) (k2 s2 h2 : Int) (cn : Nat) (cf : Nat → R3) (ck cs ch : Int) (u : Bool) (o : Nat) (G : Nat → R2) : Mem :=
  [boxE n f k s h, boxE m g k2 s2 h2, boxE cn cf ck cs ch, (0, some (.row u o [.int .i64, .int .i64] G 103))]
end Go.RX.Span

/- The law of sets of indices: its first loop's round. -/
set_option linter.unusedVariables false
set_option linter.unusedSimpArgs false
set_option maxRecDepth 100000
namespace Go.RX.Span
open Go Go.RX
attribute [local irreducible] sx conB

set_option maxRecDepth 100000 in
theorem t_SD1 (n0 n : Nat) (f : Nat → R3) (k s h : Int) (m : Nat) (g : Nat → R3) (k2 s2 h2 : Int) (cn : Nat) (cf : Nat → R3) (ck cs ch : Int) (lN : Nat) (lF : Nat → R2) (w : Bool) (bN : Nat) (bF : Nat → R2) (u : Bool) (o : Nat) (G : Nat → R2) (pN : Nat) (pF : Nat → DE) (i : Int) : (sx E19 [] n0 (loopOf P 19 16) (mkS 221 [2,3,5,11,13,14,100,101,102] (slD1 lN lF w bN bF u o pN pF i), memD1 n f k s h m g k2 s2 h2 cn cf ck cs ch u o G)).bind (proj 221 [2,3,5,11,13,14,100,101,102]) =
    T.br (U.lt i (Int.ofNat pN)) (.ask ((0 : Int) ≤ i ∧ i < ↑pN) (.ask (Row64 (pF (U.toNat i)).fst.1 (pF (U.toNat i)).fst.snd ∧ lk szDn (pF (U.toNat i)).fst.1 (pF (U.toNat i)).fst.2 (pF
      (U.toNat i)).2.1 (pF (U.toNat i)).2.2.1 (pF (U.toNat i)).2.2.2.1 ≤ (500 : Nat)) (.br (U.not true) (.ret (Ex.ret, [SV.ptr (nat_lit 0) (nat_lit 0), SV.ptr (nat_lit 1) (nat_lit 0),
      .row [.int .i64, .int .i64] lN lF, .lit (.bool w), .row [.int .i64, .int .i64] bN bF, SV.own u (nat_lit 3) o, .row [.sl [.int .i64, .int .i64, .int .i64], .int .i64, .int .i64, .int
      .i64] pN pF, .lit (.int .i64 (Int.ofNat pN)), .lit (.int .i64 i)], [(nat_lit 0, some (Blk.cells [.row [.int .i64, .int .i64, .int .i64] n f, .lit (.int .i64 k), .lit (.int .i64 s),
      .lit (.int .i64 h)] (nat_lit 49))), (nat_lit 0, some (Blk.cells [.row [.int .i64, .int .i64, .int .i64] m g, .lit (.int .i64 k2), .lit (.int .i64 s2), .lit (.int .i64 h2)] (nat_lit
      49))), (nat_lit 0, some (Blk.cells [.row [.int .i64, .int .i64, .int .i64] cn cf, .lit (.int .i64 ck), .lit (.int .i64 cs), .lit (.int .i64 ch)] (nat_lit 49))), (nat_lit 0, some
      (Blk.row u o [.int .i64, .int .i64] G (nat_lit 103))), (nat_lit 1, some (Blk.cells [.row [.int .i64, .int .i64, .int .i64] (pF (U.toNat i)).fst.1 (pF (U.toNat i)).fst.2, .lit (.int
      .i64 (pF (U.toNat i)).2.1), .lit (.int .i64 (pF (U.toNat i)).2.2.1), .lit (.int .i64 (pF (U.toNat i)).2.2.2.1)] (nat_lit 49)))])) (.ask (Row64 (pF (U.toNat i)).fst.1 (pF (U.toNat
      i)).fst.snd) (.br (U.ne (lk chD (pF (U.toNat i)).fst.1 (pF (U.toNat i)).fst.2 (pF (U.toNat i)).2.1 (pF (U.toNat i)).2.2.1 (pF (U.toNat i)).2.2.2.1) (0 : Int)) (.ret (Ex.ret, [SV.ptr
      (nat_lit 0) (nat_lit 0), SV.ptr (nat_lit 1) (nat_lit 0), .row [.int .i64, .int .i64] lN lF, .lit (.bool w), .row [.int .i64, .int .i64] bN bF, SV.own u (nat_lit 3) o, .row [.sl
      [.int .i64, .int .i64, .int .i64], .int .i64, .int .i64, .int .i64] pN pF, .lit (.int .i64 (Int.ofNat pN)), .lit (.int .i64 i)], [(nat_lit 0, some (Blk.cells [.row [.int .i64, .int
      .i64, .int .i64] n f, .lit (.int .i64 k), .lit (.int .i64 s), .lit (.int .i64 h)] (nat_lit 49))), (nat_lit 0, some (Blk.cells [.row [.int .i64, .int .i64, .int .i64] m g, .lit (.int
      .i64 k2), .lit (.int .i64 s2), .lit (.int .i64 h2)] (nat_lit 49))), (nat_lit 0, some (Blk.cells [.row [.int .i64, .int .i64, .int .i64] cn cf, .lit (.int .i64 ck), .lit (.int .i64
      cs), .lit (.int .i64 ch)] (nat_lit 49))), (nat_lit 0, some (Blk.row u o [.int .i64, .int .i64] G (nat_lit 103))), (nat_lit 1, some (Blk.cells [.row [.int .i64, .int .i64, .int .i64]
      (pF (U.toNat i)).fst.1 (pF (U.toNat i)).fst.2, .lit (.int .i64 (pF (U.toNat i)).2.1), .lit (.int .i64 (pF (U.toNat i)).2.2.1), .lit (.int .i64 (pF (U.toNat i)).2.2.2.1)] (nat_lit
      49)))])) (.br (U.eq (Int.ofNat (lk szDn (pF (U.toNat i)).fst.1 (pF (U.toNat i)).fst.2 (pF (U.toNat i)).2.1 (pF (U.toNat i)).2.2.1 (pF (U.toNat i)).2.2.2.1)) (0 : Int)) (.ret
      (Ex.ret, [SV.ptr (nat_lit 0) (nat_lit 0), SV.ptr (nat_lit 1) (nat_lit 0), .row [.int .i64, .int .i64] lN lF, .lit (.bool w), .row [.int .i64, .int .i64] bN bF, SV.own u (nat_lit 3)
      o, .row [.sl [.int .i64, .int .i64, .int .i64], .int .i64, .int .i64, .int .i64] pN pF, .lit (.int .i64 (Int.ofNat pN)), .lit (.int .i64 i)], [(nat_lit 0, some (Blk.cells [.row
      [.int .i64, .int .i64, .int .i64] n f, .lit (.int .i64 k), .lit (.int .i64 s), .lit (.int .i64 h)] (nat_lit 49))), (nat_lit 0, some (Blk.cells [.row [.int .i64, .int .i64, .int
      .i64] m g, .lit (.int .i64 k2), .lit (.int .i64 s2), .lit (.int .i64 h2)] (nat_lit 49))), (nat_lit 0, some (Blk.cells [.row [.int .i64, .int .i64, .int .i64] cn cf, .lit (.int .i64
      ck), .lit (.int .i64 cs), .lit (.int .i64 ch)] (nat_lit 49))), (nat_lit 0, some (Blk.row u o [.int .i64, .int .i64] G (nat_lit 103))), (nat_lit 1, some (Blk.cells [.row [.int .i64,
      .int .i64, .int .i64] (pF (U.toNat i)).fst.1 (pF (U.toNat i)).fst.2, .lit (.int .i64 (pF (U.toNat i)).2.1), .lit (.int .i64 (pF (U.toNat i)).2.2.1), .lit (.int .i64 (pF (U.toNat
      i)).2.2.2.1)] (nat_lit 49)))])) (.br (U.ne (Int.ofNat (pF (U.toNat i)).fst.1) (Int.ofNat n)) (.ret (Ex.ret, [SV.ptr (nat_lit 0) (nat_lit 0), SV.ptr (nat_lit 1) (nat_lit 0), .row
      [.int .i64, .int .i64] lN lF, .lit (.bool w), .row [.int .i64, .int .i64] bN bF, SV.own u (nat_lit 3) o, .row [.sl [.int .i64, .int .i64, .int .i64], .int .i64, .int .i64, .int
      .i64] pN pF, .lit (.int .i64 (Int.ofNat pN)), .lit (.int .i64 i)], [(nat_lit 0, some (Blk.cells [.row [.int .i64, .int .i64, .int .i64] n f, .lit (.int .i64 k), .lit (.int .i64 s),
      .lit (.int .i64 h)] (nat_lit 49))), (nat_lit 0, some (Blk.cells [.row [.int .i64, .int .i64, .int .i64] m g, .lit (.int .i64 k2), .lit (.int .i64 s2), .lit (.int .i64 h2)] (nat_lit
      49))), (nat_lit 0, some (Blk.cells [.row [.int .i64, .int .i64, .int .i64] cn cf, .lit (.int .i64 ck), .lit (.int .i64 cs), .lit (.int .i64 ch)] (nat_lit 49))), (nat_lit 0, some
      (Blk.row u o [.int .i64, .int .i64] G (nat_lit 103))), (nat_lit 1, some (Blk.cells [.row [.int .i64, .int .i64, .int .i64] (pF (U.toNat i)).fst.1 (pF (U.toNat i)).fst.2, .lit (.int
      .i64 (pF (U.toNat i)).2.1), .lit (.int .i64 (pF (U.toNat i)).2.2.1), .lit (.int .i64 (pF (U.toNat i)).2.2.2.1)] (nat_lit 49)))])) (.br (U.not (U.andb (U.eq (pF (U.toNat i)).2.1 k)
      (U.andb (U.eq (pF (U.toNat i)).2.2.1 s) (U.eq (pF (U.toNat i)).2.2.2.1 h)))) (.ret (Ex.ret, [SV.ptr (nat_lit 0) (nat_lit 0), SV.ptr (nat_lit 1) (nat_lit 0), .row [.int .i64, .int
      .i64] lN lF, .lit (.bool w), .row [.int .i64, .int .i64] bN bF, SV.own u (nat_lit 3) o, .row [.sl [.int .i64, .int .i64, .int .i64], .int .i64, .int .i64, .int .i64] pN pF, .lit
      (.int .i64 (Int.ofNat pN)), .lit (.int .i64 i)], [(nat_lit 0, some (Blk.cells [.row [.int .i64, .int .i64, .int .i64] n f, .lit (.int .i64 k), .lit (.int .i64 s), .lit (.int .i64
      h)] (nat_lit 49))), (nat_lit 0, some (Blk.cells [.row [.int .i64, .int .i64, .int .i64] m g, .lit (.int .i64 k2), .lit (.int .i64 s2), .lit (.int .i64 h2)] (nat_lit 49))), (nat_lit
      0, some (Blk.cells [.row [.int .i64, .int .i64, .int .i64] cn cf, .lit (.int .i64 ck), .lit (.int .i64 cs), .lit (.int .i64 ch)] (nat_lit 49))), (nat_lit 0, some (Blk.row u o [.int
      .i64, .int .i64] G (nat_lit 103))), (nat_lit 1, some (Blk.cells [.row [.int .i64, .int .i64, .int .i64] (pF (U.toNat i)).fst.1 (pF (U.toNat i)).fst.2, .lit (.int .i64 (pF (U.toNat
      i)).2.1), .lit (.int .i64 (pF (U.toNat i)).2.2.1), .lit (.int .i64 (pF (U.toNat i)).2.2.2.1)] (nat_lit 49)))])) (.ask ((o + lk szDn (pF (U.toNat i)).fst.1 (pF (U.toNat i)).fst.2 (pF
      (U.toNat i)).2.1 (pF (U.toNat i)).2.2.1 (pF (U.toNat i)).2.2.2.1) * nat_lit 16 ≤ nat_lit 140737488351232) (.ret (Ex.normal, [SV.ptr (nat_lit 0) (nat_lit 0), SV.ptr (nat_lit 1)
      (nat_lit 0), .row [.int .i64, .int .i64] lN lF, .lit (.bool w), .row [.int .i64, .int .i64] bN bF, SV.own (U.andb u (U.isz (lk szDn (pF (U.toNat i)).fst.1 (pF (U.toNat i)).fst.2 (pF
      (U.toNat i)).2.1 (pF (U.toNat i)).2.2.1 (pF (U.toNat i)).2.2.2.1))) (nat_lit 5) (o + lk szDn (pF (U.toNat i)).fst.1 (pF (U.toNat i)).fst.2 (pF (U.toNat i)).2.1 (pF (U.toNat
      i)).2.2.1 (pF (U.toNat i)).2.2.2.1), .row [.sl [.int .i64, .int .i64, .int .i64], .int .i64, .int .i64, .int .i64] pN pF, .lit (.int .i64 (Int.ofNat pN)), .lit (.int .i64 (U.add
      .i64 i (1 : Int)))], [(nat_lit 0, some (Blk.cells [.row [.int .i64, .int .i64, .int .i64] n f, .lit (.int .i64 k), .lit (.int .i64 s), .lit (.int .i64 h)] (nat_lit 49))), (nat_lit
      0, some (Blk.cells [.row [.int .i64, .int .i64, .int .i64] m g, .lit (.int .i64 k2), .lit (.int .i64 s2), .lit (.int .i64 h2)] (nat_lit 49))), (nat_lit 0, some (Blk.cells [.row
      [.int .i64, .int .i64, .int .i64] cn cf, .lit (.int .i64 ck), .lit (.int .i64 cs), .lit (.int .i64 ch)] (nat_lit 49))), (nat_lit 1, none), (nat_lit 1, some (Blk.cells [.row [.int
      .i64, .int .i64, .int .i64] (pF (U.toNat i)).fst.1 (pF (U.toNat i)).fst.2, .lit (.int .i64 (pF (U.toNat i)).2.1), .lit (.int .i64 (pF (U.toNat i)).2.2.1), .lit (.int .i64 (pF
      (U.toNat i)).2.2.2.1)] (nat_lit 49))), (nat_lit 0, some (Blk.row (U.andb u (U.isz (lk szDn (pF (U.toNat i)).fst.1 (pF (U.toNat i)).fst.2 (pF (U.toNat i)).2.1 (pF (U.toNat i)).2.2.1
      (pF (U.toNat i)).2.2.2.1))) (o + lk szDn (pF (U.toNat i)).fst.1 (pF (U.toNat i)).fst.2 (pF (U.toNat i)).2.1 (pF (U.toNat i)).2.2.1 (pF (U.toNat i)).2.2.2.1) [.int .i64, .int .i64]
      (U.cat o G (lk idF (pF (U.toNat i)).fst.1 (pF (U.toNat i)).fst.2)) (nat_lit 103)))]))))))))))) (.ret (Ex.exit (nat_lit 0), [SV.ptr (nat_lit 0) (nat_lit 0), SV.ptr (nat_lit 1)
      (nat_lit 0), .row [.int .i64, .int .i64] lN lF, .lit (.bool w), .row [.int .i64, .int .i64] bN bF, SV.own u (nat_lit 3) o, .row [.sl [.int .i64, .int .i64, .int .i64], .int .i64,
      .int .i64, .int .i64] pN pF, .lit (.int .i64 (Int.ofNat pN)), .lit (.int .i64 i)], [(nat_lit 0, some (Blk.cells [.row [.int .i64, .int .i64, .int .i64] n f, .lit (.int .i64 k), .lit
      (.int .i64 s), .lit (.int .i64 h)] (nat_lit 49))), (nat_lit 0, some (Blk.cells [.row [.int .i64, .int .i64, .int .i64] m g, .lit (.int .i64 k2), .lit (.int .i64 s2), .lit (.int .i64
      h2)] (nat_lit 49))), (nat_lit 0, some (Blk.cells [.row [.int .i64, .int .i64, .int .i64] cn cf, .lit (.int .i64 ck), .lit (.int .i64 cs), .lit (.int .i64 ch)] (nat_lit 49))),
      (nat_lit 0, some (Blk.row u o [.int .i64, .int .i64] G (nat_lit 103)))])) := by kernel_rfl
end Go.RX.Span

/- The law of sets of indices: what its first loop leaves. -/
set_option linter.unusedVariables false
set_option linter.unusedSimpArgs false
set_option maxRecDepth 100000
namespace Go.RX.Span
open Go Go.RX
attribute [local irreducible] sx conB

/-- A list of pairs as a row. -/
def rowP (l : List (Int × Int)) (i : Nat) : R2 := ((l.getD i (0, 0)).1, (l.getD i (0, 0)).2, ())
def nilP (l : List (Int × Int)) : Bool := decide (l = [])
/-- The indices of the first so many parts. -/
def elQ (e : DE) : List (Int × Int) := listP (szDn e.1.1 e.1.2 e.2.1 e.2.2.1 e.2.2.2.1) (idF e.1.1 e.1.2)
def plL (F : Nat → DE) (N : Nat) : List (Int × Int) := (List.range N).flatMap fun i => elQ (F i)
def fuP (F : Nat → DE) (N : Nat) : Bool := nilP (plL F N)
def fnP (F : Nat → DE) (N : Nat) : Nat := (plL F N).length
def ffP (F : Nat → DE) (N : Nat) : Nat → R2 := rowP (plL F N)
def PreD1 (n0 n : Nat) (k s h : Int) (pN : Nat) (pF : Nat → DE) : Prop := n0 = 0 ∧ pN ≤ 500 ∧ ∀ i, i < pN → ∃ e : Nat → R3, pF i = mkD n e k s h ∧ chD n e k s h = 0 ∧ 0 < szD n e k s h ∧ szD n e k s h ≤ 500
noncomputable def gD1 : Nat → Few → T (Ex × Few)
  | n0, ([.ptr 0 0, .ptr 1 0, .row [.int .i64, .int .i64] lN lF, .lit (.bool w), .row [.int .i64, .int .i64] bN bF, .lit (.slice none 0 0), .row [.sl [.int .i64, .int .i64, .int .i64], .int .i64, .int .i64, .int .i64] pN pF, .lit (.int .i64 N'), .ki .i64 0],
      [(_, some (.cells [.row [.int .i64, .int .i64, .int .i64] n f, .lit (.int .i64 k), .lit (.int .i64 s), .lit (.int .i64 h)] t0)), (_, some (.cells [.row [.int .i64, .int .i64, .int .i64] m g, .lit (.int .i64 k2), .lit (.int .i64 s2), .lit (.int .i64 h2)] t1)), (_, some (.cells [.row [.int .i64, .int .i64, .int .i64] cn cf, .lit (.int .i64 ck), .lit (.int .i64 cs), .lit (.int .i64 ch)] t2))]) =>
    .ask (lk PreD1 n0 n k s h pN pF ∧ N' = (pN : Int) ∧ t0 = 49 ∧ t1 = 49 ∧ t2 = 49) (.ret (.exit 0, (slD1 lN lF w bN bF (lk fuP pF pN) (lk fnP pF pN) pN pF (pN : Int), memD1 n f k s h m g k2 s2 h2 cn cf ck cs ch (lk fuP pF pN) (lk fnP pF pN) (lk ffP pF pN))))
  | _, _ => .stuck 1
theorem rowP_app (l l' : List (Int × Int)) (f : Nat → R2) (hf : ∀ i, i < l'.length → f i = rowP l' i) : ∀ i, i < l.length + l'.length → U.cat l.length (rowP l) f i = rowP (l ++ l') i := fun i hi => by
  refine (U.cat_eq _ _ _ _).trans ?_
  by_cases h : i < l.length
  · rw [if_pos h]; unfold rowP
    rw [show (l ++ l').getD i (0, 0) = l.getD i (0, 0) by rw [List.getD_eq_getElem?_getD, List.getD_eq_getElem?_getD, List.getElem?_append_left h]]
  · rw [if_neg h, hf _ (by omega)]
    unfold rowP
    rw [show (l ++ l').getD i (0, 0) = l'.getD (i - l.length) (0, 0) by rw [List.getD_eq_getElem?_getD, List.getD_eq_getElem?_getD, List.getElem?_append_right (by omega)]]
theorem plL_s (F : Nat → DE) (k : Nat) : plL F (k + 1) = plL F k ++ elQ (F k) := by
  unfold plL
  rw [List.range_succ, List.flatMap_append]
  simp
theorem nilP_app (l l' : List (Int × Int)) : nilP (l ++ l') = U.andb (nilP l) (U.isz l'.length) := by
  rw [U.andb_eq, U.isz_eq]
  unfold nilP
  cases l <;> cases l' <;> simp
theorem elQ_len (n : Nat) (e : Nat → R3) (k s h : Int) : (elQ (mkD n e k s h)).length = szDn n e k s h := by
  show ((List.range (szDn n e k s h)).map (at2 (idF n e))).length = _
  rw [List.length_map, List.length_range]
theorem elQ_row (n : Nat) (e : Nat → R3) (k s h : Int) : ∀ i, i < (elQ (mkD n e k s h)).length → idF n e i = rowP (elQ (mkD n e k s h)) i := fun i hi => by
  rw [elQ_len] at hi
  have : (elQ (mkD n e k s h)).getD i (0, 0) = at2 (idF n e) i := by
    show ((List.range (szDn n e k s h)).map (at2 (idF n e))).getD i (0, 0) = _
    rw [List.getD_eq_getElem?_getD, List.getElem?_map, List.getElem?_range hi]; rfl
  unfold rowP
  rw [this]; rfl
end Go.RX.Span

/- The law of sets of indices: its first loop leaves what is said. -/
set_option linter.unusedVariables false
set_option linter.unusedSimpArgs false
set_option maxRecDepth 100000
namespace Go.RX.Span
open Go Go.RX
attribute [local irreducible] sx conB

structure XD1 where
  (n : Nat) (f : Nat → R3) (k s h : Int) (m : Nat) (g : Nat → R3) (k2 s2 h2 : Int) (cn : Nat) (cf : Nat → R3) (ck cs ch : Int) (lN : Nat) (lF : Nat → R2) (w : Bool) (bN : Nat) (bF : Nat → R2) (pN : Nat) (pF : Nat → DE) (j : Nat)
noncomputable abbrev VD1 (q : XD1) : Few := (slD1 q.lN q.lF q.w q.bN q.bF (fuP q.pF q.j) (fnP q.pF q.j) q.pN q.pF (q.j : Int), memD1 q.n q.f q.k q.s q.h q.m q.g q.k2 q.s2 q.h2 q.cn q.cf q.ck q.cs q.ch (fuP q.pF q.j) (fnP q.pF q.j) (ffP q.pF q.j))
noncomputable def OD1 (q : XD1) : Ex × Few := (.exit 0, VD1 { q with j := q.pN })
def PhiD1 (n0 : Nat) (q : XD1) : Prop := PreD1 n0 q.n q.k q.s q.h q.pN q.pF ∧ q.j ≤ q.pN
theorem plL_len {n : Nat} {k s h : Int} {pN : Nat} {pF : Nat → DE} (hP : ∀ i, i < pN → ∃ e : Nat → R3, pF i = mkD n e k s h ∧ chD n e k s h = 0 ∧ 0 < szD n e k s h ∧ szD n e k s h ≤ 500) : ∀ j, j ≤ pN → (plL pF j).length ≤ j * 500
  | 0, _ => by simp [plL]
  | j + 1, hj => by
    rw [plL_s, List.length_append]
    have := plL_len hP j (by omega)
    obtain ⟨e, h1, _, _, h4⟩ := hP j (by omega)
    rw [h1, elQ_len]
    have : szDn n e k s h ≤ 500 := by unfold szDn; omega
    omega
theorem roundD1 (n0 : Nat) (q : XD1) (hq : PhiD1 n0 q) : ((sx E19 [] n0 (loopOf P 19 16) (mkS 221 [2,3,5,11,13,14,100,101,102] (VD1 q).1, (VD1 q).2)).bind (proj 221 [2,3,5,11,13,14,100,101,102])).All fun r => match r.1 with
      | .normal => ∃ q', PhiD1 n0 q' ∧ q'.pN - q'.j < q.pN - q.j ∧ Wk 221 [2,3,5,11,13,14,100,101,102] n0 r.2 (VD1 q') ∧ ∀ o, o = OD1 q' → o = OD1 q
      | e => ∃ s, (e, s) = OD1 q ∧ Wk 221 [2,3,5,11,13,14,100,101,102] n0 r.2 s := by
  obtain ⟨n, f, k, s, h, m, g, k2, s2, h2, cn, cf, ck, cs, ch, lN, lF, w, bN, bF, pN, pF, j⟩ := q
  obtain ⟨⟨h0, hN, hP⟩, hj⟩ := hq
  simp only [] at h0 hN hP hj
  subst h0
  show ((sx E19 [] 0 (loopOf P 19 16) (mkS 221 [2,3,5,11,13,14,100,101,102] (slD1 lN lF w bN bF (fuP pF j) (fnP pF j) pN pF (j : Int)), memD1 n f k s h m g k2 s2 h2 cn cf ck cs ch (fuP pF j) (fnP pF j) (ffP pF j))).bind (proj 221 [2,3,5,11,13,14,100,101,102])).All _
  rw [t_SD1]
  have e2 : U.add .i64 (j : Int) 1 = ((j + 1 : Nat) : Int) := by rw [U.add64 (by unfold I64; omega)]; omega
  simp only [tnj, e2, lk_eq]
  by_cases hlt : j < pN
  · obtain ⟨e, h1, h2, h3, h4⟩ := hP j hlt
    have l5 : szDn n e k s h ≤ 500 := by unfold szDn; omega
    have l0 : szDn n e k s h ≠ 0 := by unfold szDn; omega
    have lL : fnP pF j ≤ j * 500 := plL_len hP j (by omega)
    have eP : plL pF (j + 1) = plL pF j ++ elQ (mkD n e k s h) := by rw [plL_s, h1]
    have u1 : fuP pF (j + 1) = U.andb (fuP pF j) (U.isz (szDn n e k s h)) := by unfold fuP; rw [eP, nilP_app, elQ_len]
    have u2 : fnP pF (j + 1) = fnP pF j + szDn n e k s h := by unfold fnP; rw [eP, List.length_append, elQ_len]
    have d := dr_64 (chD_zero.1 h2).1
    rw [h1]
    have aself : U.andb (U.eq k k) (U.andb (U.eq s s) (U.eq h h)) = true := by
      rw [U.eq_t.mpr rfl, U.eq_t.mpr rfl, U.eq_t.mpr rfl, U.andb_eq, U.andb_eq]; rfl
    refine ⟨fun _ => ⟨⟨by omega, by omega⟩, ⟨d, l5⟩, fun hh => absurd (U.not_t.mp hh) (by decide), fun _ => ⟨d, fun hh => absurd h2 (U.ne_t.mp hh), fun _ => ⟨fun hh => absurd (U.eq_t.mp hh) (by show ¬ (((szDn n e k s h : Nat) : Int) = 0); omega), fun _ => ⟨fun hh => absurd rfl (U.ne_t.mp hh), fun _ => ⟨fun hh => absurd ((U.not_t.mp hh).symm.trans aself) (by decide), fun _ => ⟨?_, ?_⟩⟩⟩⟩⟩⟩, fun h => absurd (U.lt_f.mp h) (by simp only [Int.ofNat_eq_natCast]; omega)⟩
    · show (fnP pF j + szDn n e k s h) * 16 ≤ 140737488351232
      omega
    · refine ⟨⟨n, f, k, s, h, m, g, k2, s2, _, cn, cf, ck, cs, ch, lN, lF, w, bN, bF, pN, pF, j + 1⟩, ⟨⟨rfl, hN, hP⟩, by simp only []; omega⟩, by simp only []; omega, ?_, fun o ho => ho⟩
      refine wk_of [some 0, some 1, some 2, some 5] rfl (Nat.zero_le _) (ren0d _) ⟨⟨rfl, rfl⟩, ⟨rfl, rfl⟩, ⟨rfl, row2S fun _ _ => rfl⟩, rfl, ⟨rfl, row2S fun _ _ => rfl⟩, ⟨u1.symm, u2.symm, rfl⟩, ⟨rfl, rowL fun _ _ => rfl⟩, rfl, rfl, trivial⟩
        ⟨⟨rfl, ⟨rfl, sameR fun _ _ => rfl⟩, rfl, rfl, rfl, trivial⟩, ⟨rfl, ⟨rfl, sameR fun _ _ => rfl⟩, rfl, rfl, rfl, trivial⟩, ⟨rfl, ⟨rfl, sameR fun _ _ => rfl⟩, rfl, rfl, rfl, trivial⟩, ⟨rfl, u1.symm, u2.symm, row2S fun i hi => ?_⟩, trivial⟩
      have := rowP_app (plL pF j) (elQ (mkD n e k s h)) (idF n e) (elQ_row n e k s h) i (by rw [elQ_len]; exact Nat.lt_of_lt_of_eq hi u2)
      unfold ffP; rw [eP]; exact this
  · obtain rfl : j = pN := by omega
    refine ⟨fun h => absurd (U.lt_t.mp h) (by simp only [Int.ofNat_eq_natCast]; omega), fun _ => ⟨_, rfl, ?_⟩⟩
    exact wk_of [some 0, some 1, some 2, some 3] rfl (Nat.zero_le _) (ren0d _) ⟨⟨rfl, rfl⟩, ⟨rfl, rfl⟩, ⟨rfl, row2S fun _ _ => rfl⟩, rfl, ⟨rfl, row2S fun _ _ => rfl⟩, ⟨rfl, rfl, rfl⟩, ⟨rfl, rowL fun _ _ => rfl⟩, rfl, rfl, trivial⟩
      ⟨⟨rfl, ⟨rfl, sameR fun _ _ => rfl⟩, rfl, rfl, rfl, trivial⟩, ⟨rfl, ⟨rfl, sameR fun _ _ => rfl⟩, rfl, rfl, rfl, trivial⟩, ⟨rfl, ⟨rfl, sameR fun _ _ => rfl⟩, rfl, rfl, rfl, trivial⟩, ⟨rfl, rfl, rfl, row2S fun _ _ => rfl⟩, trivial⟩
end Go.RX.Span

/- The law of sets of indices: its first loop's summary. -/
set_option linter.unusedVariables false
set_option linter.unusedSimpArgs false
set_option maxRecDepth 100000
namespace Go.RX.Span
open Go Go.RX
attribute [local irreducible] sx conB

theorem d19_ok : ∀ p ∈ d19, ConOK P p.1 p.2 := by
  intro p hp
  simp only [d19, List.mem_cons, List.not_mem_nil, or_false] at hp
  rcases hp with rfl | rfl | rfl | rfl | rfl | rfl | rfl | rfl | rfl | rfl | rfl
  · exact DLAll_ok
  · exact Dsmall_ok
  · exact index_ok
  · exact DSubtract_ok
  · exact DIntersect_ok
  · exact DWithin_ok
  · exact DSame_ok
  · exact DCheck_ok
  · exact DSize_ok
  · exact DHas_ok
  · exact awake2_ok
theorem E19_ok : EnvOK E19 := envOK (allOK mixed d19_ok) 10
theorem loopD1 : LoopOK P (loopOf P 19 16) (few 221 [2,3,5,11,13,14,100,101,102] gD1) :=
  loop_few (E := E19) mixed E19_ok loopsOK_none 221 [2,3,5,11,13,14,100,101,102] (X := XD1) gD1 (fun _ x => VD1 x) PhiD1 (fun q => q.pN - q.j) (fun _ x o => o = OD1 x)
    (fun n0 st r h => by
      unfold gD1 at h
      split at h
      · rename_i n0 lN lF w bN bF pN pF N' e0 n f k s h' t0 e1 m g k2 s2 h2 t1 e2 cn cf ck cs ch t2
        obtain ⟨hp, rfl, rfl, rfl, rfl⟩ := (T.is_ask h).1
        obtain rfl := T.is_ret (T.is_ask h).2
        rw [lk_eq] at hp
        refine ⟨⟨n, f, k, s, h', m, g, k2, s2, h2, cn, cf, ck, cs, ch, lN, lF, w, bN, bF, pN, pF, 0⟩, ⟨hp, Nat.zero_le _⟩, ?_, fun o ho => by rw [ho]; simp only [lk_eq]; rfl⟩
        have h0 := hp.1
        subst h0
        exact wk_of [some 0, some 1, some 2, none] rfl (Nat.zero_le _) (ren0d _) ⟨⟨rfl, rfl⟩, ⟨rfl, rfl⟩, ⟨rfl, row2S fun _ _ => rfl⟩, rfl, ⟨rfl, row2S fun _ _ => rfl⟩, ⟨rfl, rfl, rfl⟩, ⟨rfl, rowL fun _ _ => rfl⟩, rfl, rfl, trivial⟩
          ⟨⟨rfl, ⟨rfl, sameR fun _ _ => rfl⟩, rfl, rfl, rfl, trivial⟩, ⟨rfl, ⟨rfl, sameR fun _ _ => rfl⟩, rfl, rfl, rfl, trivial⟩, ⟨rfl, ⟨rfl, sameR fun _ _ => rfl⟩, rfl, rfl, rfl, trivial⟩, ⟨rfl, rfl⟩, trivial⟩
      · exact h.elim)
    roundD1
end Go.RX.Span

/- The law of sets of indices: its second loop, the states. -/
set_option linter.unusedVariables false
set_option linter.unusedSimpArgs false
set_option maxRecDepth 100000
namespace Go.RX.Span
open Go Go.RX
attribute [local irreducible] sx conB

noncomputable abbrev slD2 (lN : Nat) (lF : Nat → R2) (w : Bool) (bN : Nat) (bF : Nat → R2) (u : Bool) (o : Nat) (x y i : Int) : List SV :=
  [.ptr 0 0, .ptr 1 0, .lit (.bool w), .row [.int .i64, .int .i64] bN bF, .own u 3 o, .lit (.int .i64 x), .lit (.int .i64 y), .row [.int .i64, .int .i64] lN lF, .lit (.int .i64 (lN : Int)), .lit (.int .i64 i)]
end Go.RX.Span

/- The law of sets of indices: its second loop's round. -/
set_option linter.unusedVariables false
set_option linter.unusedSimpArgs false
set_option maxRecDepth 100000
namespace Go.RX.Span
open Go Go.RX
attribute [local irreducible] sx conB

set_option maxRecDepth 100000 in
theorem t_SD2 (n0 n : Nat) (f : Nat → R3) (k s h : Int) (m : Nat) (g : Nat → R3) (k2 s2 h2 : Int) (cn : Nat) (cf : Nat → R3) (ck cs ch : Int) (lN : Nat) (lF : Nat → R2) (w : Bool) (bN : Nat) (bF : Nat → R2) (u : Bool) (o : Nat) (G : Nat → R2) (x y i : Int) : (sx E19 [] n0 (loopOf P 19 26) (mkS 221 [2,3,11,13,14,19,20,145,146,147] (slD2 lN lF w bN bF u o x y i), memD1 n f k s h m g k2 s2 h2 cn cf ck cs ch u o G)).bind (proj 221 [2,3,11,13,14,19,20,145,146,147]) =
    T.br (U.lt i (Int.ofNat lN)) (.ask ((0 : Int) ≤ i ∧ i < ↑lN) (.ask (m ≤ (2 : Nat)) (.ask (Row64 m g) (.br (lk hasD m g k2 s2 h2 m (lk ixF (lF (U.toNat i)).1 (lF (U.toNat i)).2.1))
      (.br (U.ge x (Int.ofNat bN)) (.ret (Ex.ret, [SV.ptr (nat_lit 0) (nat_lit 0), SV.ptr (nat_lit 1) (nat_lit 0), .lit (.bool w), .row [.int .i64, .int .i64] bN bF, SV.own u (nat_lit 3)
      o, .lit (.int .i64 x), .lit (.int .i64 y), .row [.int .i64, .int .i64] lN lF, .lit (.int .i64 (Int.ofNat lN)), .lit (.int .i64 i)], [(nat_lit 0, some (Blk.cells [.row [.int .i64,
      .int .i64, .int .i64] n f, .lit (.int .i64 k), .lit (.int .i64 s), .lit (.int .i64 h)] (nat_lit 49))), (nat_lit 0, some (Blk.cells [.row [.int .i64, .int .i64, .int .i64] m g, .lit
      (.int .i64 k2), .lit (.int .i64 s2), .lit (.int .i64 h2)] (nat_lit 49))), (nat_lit 0, some (Blk.cells [.row [.int .i64, .int .i64, .int .i64] cn cf, .lit (.int .i64 ck), .lit (.int
      .i64 cs), .lit (.int .i64 ch)] (nat_lit 49))), (nat_lit 0, some (Blk.row u o [.int .i64, .int .i64] G (nat_lit 103))), (nat_lit 1, some (Blk.cells [.lit (.int .i64 (lF (U.toNat
      i)).1), .lit (.int .i64 (lF (U.toNat i)).2.1)] (nat_lit 103)))])) (.ask ((0 : Int) ≤ x ∧ x < ↑bN) (.br (U.not (U.andb (U.eq (bF (U.toNat x)).1 (lF (U.toNat i)).1) (U.eq (bF (U.toNat
      x)).2.1 (lF (U.toNat i)).2.1))) (.ret (Ex.ret, [SV.ptr (nat_lit 0) (nat_lit 0), SV.ptr (nat_lit 1) (nat_lit 0), .lit (.bool w), .row [.int .i64, .int .i64] bN bF, SV.own u (nat_lit
      3) o, .lit (.int .i64 x), .lit (.int .i64 y), .row [.int .i64, .int .i64] lN lF, .lit (.int .i64 (Int.ofNat lN)), .lit (.int .i64 i)], [(nat_lit 0, some (Blk.cells [.row [.int .i64,
      .int .i64, .int .i64] n f, .lit (.int .i64 k), .lit (.int .i64 s), .lit (.int .i64 h)] (nat_lit 49))), (nat_lit 0, some (Blk.cells [.row [.int .i64, .int .i64, .int .i64] m g, .lit
      (.int .i64 k2), .lit (.int .i64 s2), .lit (.int .i64 h2)] (nat_lit 49))), (nat_lit 0, some (Blk.cells [.row [.int .i64, .int .i64, .int .i64] cn cf, .lit (.int .i64 ck), .lit (.int
      .i64 cs), .lit (.int .i64 ch)] (nat_lit 49))), (nat_lit 0, some (Blk.row u o [.int .i64, .int .i64] G (nat_lit 103))), (nat_lit 1, some (Blk.cells [.lit (.int .i64 (lF (U.toNat
      i)).1), .lit (.int .i64 (lF (U.toNat i)).2.1)] (nat_lit 103)))])) (.ret (Ex.normal, [SV.ptr (nat_lit 0) (nat_lit 0), SV.ptr (nat_lit 1) (nat_lit 0), .lit (.bool w), .row [.int .i64,
      .int .i64] bN bF, SV.own u (nat_lit 3) o, .lit (.int .i64 (U.add .i64 x (1 : Int))), .lit (.int .i64 y), .row [.int .i64, .int .i64] lN lF, .lit (.int .i64 (Int.ofNat lN)), .lit
      (.int .i64 (U.add .i64 i (1 : Int)))], [(nat_lit 0, some (Blk.cells [.row [.int .i64, .int .i64, .int .i64] n f, .lit (.int .i64 k), .lit (.int .i64 s), .lit (.int .i64 h)] (nat_lit
      49))), (nat_lit 0, some (Blk.cells [.row [.int .i64, .int .i64, .int .i64] m g, .lit (.int .i64 k2), .lit (.int .i64 s2), .lit (.int .i64 h2)] (nat_lit 49))), (nat_lit 0, some
      (Blk.cells [.row [.int .i64, .int .i64, .int .i64] cn cf, .lit (.int .i64 ck), .lit (.int .i64 cs), .lit (.int .i64 ch)] (nat_lit 49))), (nat_lit 0, some (Blk.row u o [.int .i64,
      .int .i64] G (nat_lit 103))), (nat_lit 1, some (Blk.cells [.lit (.int .i64 (lF (U.toNat i)).1), .lit (.int .i64 (lF (U.toNat i)).2.1)] (nat_lit 103)))]))))) (.br (U.ge y (Int.ofNat
      o)) (.ret (Ex.ret, [SV.ptr (nat_lit 0) (nat_lit 0), SV.ptr (nat_lit 1) (nat_lit 0), .lit (.bool w), .row [.int .i64, .int .i64] bN bF, SV.own u (nat_lit 3) o, .lit (.int .i64 x),
      .lit (.int .i64 y), .row [.int .i64, .int .i64] lN lF, .lit (.int .i64 (Int.ofNat lN)), .lit (.int .i64 i)], [(nat_lit 0, some (Blk.cells [.row [.int .i64, .int .i64, .int .i64] n
      f, .lit (.int .i64 k), .lit (.int .i64 s), .lit (.int .i64 h)] (nat_lit 49))), (nat_lit 0, some (Blk.cells [.row [.int .i64, .int .i64, .int .i64] m g, .lit (.int .i64 k2), .lit
      (.int .i64 s2), .lit (.int .i64 h2)] (nat_lit 49))), (nat_lit 0, some (Blk.cells [.row [.int .i64, .int .i64, .int .i64] cn cf, .lit (.int .i64 ck), .lit (.int .i64 cs), .lit (.int
      .i64 ch)] (nat_lit 49))), (nat_lit 0, some (Blk.row u o [.int .i64, .int .i64] G (nat_lit 103))), (nat_lit 1, some (Blk.cells [.lit (.int .i64 (lF (U.toNat i)).1), .lit (.int .i64
      (lF (U.toNat i)).2.1)] (nat_lit 103)))])) (.ask ((0 : Int) ≤ y ∧ y < ↑o) (.ask (U.toNat y < o) (.br (U.not (U.andb (U.eq (G (U.toNat y)).1 (lF (U.toNat i)).1) (U.eq (G (U.toNat
      y)).2.1 (lF (U.toNat i)).2.1))) (.ret (Ex.ret, [SV.ptr (nat_lit 0) (nat_lit 0), SV.ptr (nat_lit 1) (nat_lit 0), .lit (.bool w), .row [.int .i64, .int .i64] bN bF, SV.own u (nat_lit
      3) o, .lit (.int .i64 x), .lit (.int .i64 y), .row [.int .i64, .int .i64] lN lF, .lit (.int .i64 (Int.ofNat lN)), .lit (.int .i64 i)], [(nat_lit 0, some (Blk.cells [.row [.int .i64,
      .int .i64, .int .i64] n f, .lit (.int .i64 k), .lit (.int .i64 s), .lit (.int .i64 h)] (nat_lit 49))), (nat_lit 0, some (Blk.cells [.row [.int .i64, .int .i64, .int .i64] m g, .lit
      (.int .i64 k2), .lit (.int .i64 s2), .lit (.int .i64 h2)] (nat_lit 49))), (nat_lit 0, some (Blk.cells [.row [.int .i64, .int .i64, .int .i64] cn cf, .lit (.int .i64 ck), .lit (.int
      .i64 cs), .lit (.int .i64 ch)] (nat_lit 49))), (nat_lit 0, some (Blk.row u o [.int .i64, .int .i64] G (nat_lit 103))), (nat_lit 1, some (Blk.cells [.lit (.int .i64 (lF (U.toNat
      i)).1), .lit (.int .i64 (lF (U.toNat i)).2.1)] (nat_lit 103)))])) (.ret (Ex.normal, [SV.ptr (nat_lit 0) (nat_lit 0), SV.ptr (nat_lit 1) (nat_lit 0), .lit (.bool w), .row [.int .i64,
      .int .i64] bN bF, SV.own u (nat_lit 3) o, .lit (.int .i64 x), .lit (.int .i64 (U.add .i64 y (1 : Int))), .row [.int .i64, .int .i64] lN lF, .lit (.int .i64 (Int.ofNat lN)), .lit
      (.int .i64 (U.add .i64 i (1 : Int)))], [(nat_lit 0, some (Blk.cells [.row [.int .i64, .int .i64, .int .i64] n f, .lit (.int .i64 k), .lit (.int .i64 s), .lit (.int .i64 h)] (nat_lit
      49))), (nat_lit 0, some (Blk.cells [.row [.int .i64, .int .i64, .int .i64] m g, .lit (.int .i64 k2), .lit (.int .i64 s2), .lit (.int .i64 h2)] (nat_lit 49))), (nat_lit 0, some
      (Blk.cells [.row [.int .i64, .int .i64, .int .i64] cn cf, .lit (.int .i64 ck), .lit (.int .i64 cs), .lit (.int .i64 ch)] (nat_lit 49))), (nat_lit 0, some (Blk.row u o [.int .i64,
      .int .i64] G (nat_lit 103))), (nat_lit 1, some (Blk.cells [.lit (.int .i64 (lF (U.toNat i)).1), .lit (.int .i64 (lF (U.toNat i)).2.1)] (nat_lit 103)))])))))))))) (.ret (Ex.exit
      (nat_lit 2), [SV.ptr (nat_lit 0) (nat_lit 0), SV.ptr (nat_lit 1) (nat_lit 0), .lit (.bool w), .row [.int .i64, .int .i64] bN bF, SV.own u (nat_lit 3) o, .lit (.int .i64 x), .lit
      (.int .i64 y), .row [.int .i64, .int .i64] lN lF, .lit (.int .i64 (Int.ofNat lN)), .lit (.int .i64 i)], [(nat_lit 0, some (Blk.cells [.row [.int .i64, .int .i64, .int .i64] n f,
      .lit (.int .i64 k), .lit (.int .i64 s), .lit (.int .i64 h)] (nat_lit 49))), (nat_lit 0, some (Blk.cells [.row [.int .i64, .int .i64, .int .i64] m g, .lit (.int .i64 k2), .lit (.int
      .i64 s2), .lit (.int .i64 h2)] (nat_lit 49))), (nat_lit 0, some (Blk.cells [.row [.int .i64, .int .i64, .int .i64] cn cf, .lit (.int .i64 ck), .lit (.int .i64 cs), .lit (.int .i64
      ch)] (nat_lit 49))), (nat_lit 0, some (Blk.row u o [.int .i64, .int .i64] G (nat_lit 103)))])) := by kernel_rfl
end Go.RX.Span

/- The law of sets of indices: what its second loop leaves. -/
set_option linter.unusedVariables false
set_option linter.unusedSimpArgs false
set_option maxRecDepth 100000
namespace Go.RX.Span
open Go Go.RX
attribute [local irreducible] sx conB

/-- Those of the first so many indices that a domain has; and the others. -/
noncomputable def fiB (m : Nat) (g : Nat → R3) (k s h : Int) (f : Nat → R2) (j : Nat) : List (Int × Int) := (listP j f).filter fun x => hasP m g k s h x
noncomputable def fiR (m : Nat) (g : Nat → R3) (k s h : Int) (f : Nat → R2) (j : Nat) : List (Int × Int) := (listP j f).filter fun x => !hasP m g k s h x
theorem listP_s (f : Nat → R2) (j : Nat) : listP (j + 1) f = listP j f ++ [at2 f j] := by
  unfold listP
  rw [List.range_succ, List.map_append]; rfl
theorem listP_d (f : Nat → R2) (j : Nat) : ∀ d, ∃ t, listP (j + d) f = listP j f ++ t
  | 0 => ⟨[], by simp⟩
  | d + 1 => by
    obtain ⟨t, h⟩ := listP_d f j d
    exact ⟨t ++ [at2 f (j + d)], by rw [show j + (d + 1) = j + d + 1 by omega, listP_s, h, List.append_assoc]⟩
theorem get_len (l t : List (Int × Int)) (x : Int × Int) : l.length < (l ++ [x] ++ t).length ∧ (l ++ [x] ++ t).getD l.length (0, 0) = x := by
  refine ⟨by simp, ?_⟩
  rw [List.getD_eq_getElem?_getD, List.append_assoc, List.getElem?_append_right (Nat.le_refl _), Nat.sub_self]; rfl
section
variable {m : Nat} {g : Nat → R3} {k s h : Int} {f : Nat → R2} {j N : Nat}
theorem fil_step (p : Int × Int → Bool) (hj : j < N) : (listP (j + 1) f).filter p = (listP j f).filter p ++ (if p (at2 f j) = true then [at2 f j] else []) ∧
    (p (at2 f j) = true → ((listP j f).filter p).length < ((listP N f).filter p).length ∧ ((listP N f).filter p).getD ((listP j f).filter p).length (0, 0) = at2 f j) := by
  have e : (listP (j + 1) f).filter p = (listP j f).filter p ++ (if p (at2 f j) = true then [at2 f j] else []) := by
    rw [listP_s, List.filter_append]
    cases hp : p (at2 f j) <;> simp [hp]
  refine ⟨e, fun hp => ?_⟩
  obtain ⟨t, ht⟩ := listP_d f (j + 1) (N - (j + 1))
  rw [show j + 1 + (N - (j + 1)) = N by omega] at ht
  rw [ht, List.filter_append, e, if_pos hp]
  exact get_len _ _ _
theorem fil_len (p : Int × Int → Bool) (j : Nat) : ((listP j f).filter p).length ≤ j := by
  have := List.length_filter_le p (listP j f)
  have e : (listP j f).length = j := by unfold listP; simp
  omega
end
def PreD2 (n0 m : Nat) (g : Nat → R3) (k s h : Int) (lN : Nat) (lF : Nat → R2) (bN : Nat) (bF : Nat → R2) (o : Nat) (G : Nat → R2) : Prop :=
  n0 = 0 ∧ lN ≤ 500 ∧ m ≤ 2 ∧ Row64 m g ∧ bN = (fiB m g k s h lF lN).length ∧ (∀ i, i < bN → bF i = rowP (fiB m g k s h lF lN) i) ∧ o = (fiR m g k s h lF lN).length ∧ ∀ i, i < o → G i = rowP (fiR m g k s h lF lN) i
noncomputable def gD2 : Nat → Few → T (Ex × Few)
  | n0, ([.ptr 0 0, .ptr 1 0, .lit (.bool w), .row [.int .i64, .int .i64] bN bF, .own u b1 o, .ki .i64 0, .ki .i64 0, .row [.int .i64, .int .i64] lN lF, .lit (.int .i64 N'), .ki .i64 0],
      [(_, some (.cells [.row [.int .i64, .int .i64, .int .i64] n f, .lit (.int .i64 k), .lit (.int .i64 s), .lit (.int .i64 h)] t0)), (_, some (.cells [.row [.int .i64, .int .i64, .int .i64] m g, .lit (.int .i64 k2), .lit (.int .i64 s2), .lit (.int .i64 h2)] t1)), (_, some (.cells [.row [.int .i64, .int .i64, .int .i64] cn cf, .lit (.int .i64 ck), .lit (.int .i64 cs), .lit (.int .i64 ch)] t2)), (_, some (.row u' o' [.int .i64, .int .i64] G t3))]) =>
    .ask (lk PreD2 n0 m g k2 s2 h2 lN lF bN bF o G ∧ N' = (lN : Int) ∧ b1 = 3 ∧ u' = u ∧ o' = o ∧ t0 = 49 ∧ t1 = 49 ∧ t2 = 49 ∧ t3 = 103) (.ret (.exit 2, (slD2 lN lF w bN bF u o (bN : Int) (o : Int) (lN : Int), memD1 n f k s h m g k2 s2 h2 cn cf ck cs ch u o G)))
  | _, _ => .stuck 1
end Go.RX.Span

/- The law of sets of indices: its second loop leaves what is said. -/
set_option linter.unusedVariables false
set_option linter.unusedSimpArgs false
set_option maxRecDepth 100000
namespace Go.RX.Span
open Go Go.RX
attribute [local irreducible] sx conB

structure XD2 where
  (n : Nat) (f : Nat → R3) (k s h : Int) (m : Nat) (g : Nat → R3) (k2 s2 h2 : Int) (cn : Nat) (cf : Nat → R3) (ck cs ch : Int) (lN : Nat) (lF : Nat → R2) (w : Bool) (bN : Nat) (bF : Nat → R2) (u : Bool) (o : Nat) (G : Nat → R2) (j : Nat)
noncomputable abbrev VD2 (q : XD2) : Few := (slD2 q.lN q.lF q.w q.bN q.bF q.u q.o ((fiB q.m q.g q.k2 q.s2 q.h2 q.lF q.j).length : Int) ((fiR q.m q.g q.k2 q.s2 q.h2 q.lF q.j).length : Int) (q.j : Int), memD1 q.n q.f q.k q.s q.h q.m q.g q.k2 q.s2 q.h2 q.cn q.cf q.ck q.cs q.ch q.u q.o q.G)
noncomputable def OD2 (q : XD2) : Ex × Few := (.exit 2, VD2 { q with j := q.lN })
def PhiD2 (n0 : Nat) (q : XD2) : Prop := PreD2 n0 q.m q.g q.k2 q.s2 q.h2 q.lN q.lF q.bN q.bF q.o q.G ∧ q.j ≤ q.lN
theorem eq2_not {a b c d : Int} (h : a = c) (h' : b = d) : U.not (U.andb (U.eq a c) (U.eq b d)) = false := by
  rw [h, h', U.eq_t.mpr rfl, U.eq_t.mpr rfl, U.andb_eq]
  exact U.not_f.mpr rfl
theorem at2_eq {l : List (Int × Int)} {f F : Nat → R2} {i j : Nat} (h : F i = rowP l i) (h' : l.getD i (0, 0) = at2 f j) : U.not (U.andb (U.eq (F i).1 (f j).1) (U.eq (F i).2.1 (f j).2.1)) = false := by
  have e1 : (F i).1 = (f j).1 := by rw [h]; unfold rowP; rw [h']; rfl
  have e2 : (F i).2.1 = (f j).2.1 := by rw [h]; unfold rowP; rw [h']; rfl
  exact eq2_not e1 e2
theorem roundD2 (n0 : Nat) (q : XD2) (hq : PhiD2 n0 q) : ((sx E19 [] n0 (loopOf P 19 26) (mkS 221 [2,3,11,13,14,19,20,145,146,147] (VD2 q).1, (VD2 q).2)).bind (proj 221 [2,3,11,13,14,19,20,145,146,147])).All fun r => match r.1 with
      | .normal => ∃ q', PhiD2 n0 q' ∧ q'.lN - q'.j < q.lN - q.j ∧ Wk 221 [2,3,11,13,14,19,20,145,146,147] n0 r.2 (VD2 q') ∧ ∀ o, o = OD2 q' → o = OD2 q
      | e => ∃ s, (e, s) = OD2 q ∧ Wk 221 [2,3,11,13,14,19,20,145,146,147] n0 r.2 s := by
  obtain ⟨n, f, k, s, h, m, g, k2, s2, h2, cn, cf, ck, cs, ch, lN, lF, w, bN, bF, u, o, G, j⟩ := q
  obtain ⟨⟨h0, hN, hm, hd, hb, hB, ho, hG⟩, hj⟩ := hq
  simp only [] at h0 hN hm hd hb hB ho hG hj
  subst h0
  show ((sx E19 [] 0 (loopOf P 19 26) (mkS 221 [2,3,11,13,14,19,20,145,146,147] (slD2 lN lF w bN bF u o ((fiB m g k2 s2 h2 lF j).length : Int) ((fiR m g k2 s2 h2 lF j).length : Int) (j : Int)), memD1 n f k s h m g k2 s2 h2 cn cf ck cs ch u o G)).bind (proj 221 [2,3,11,13,14,19,20,145,146,147])).All _
  rw [t_SD2]
  have lB : (fiB m g k2 s2 h2 lF j).length ≤ j := fil_len _ j
  have lR : (fiR m g k2 s2 h2 lF j).length ≤ j := fil_len _ j
  have e2 : U.add .i64 (j : Int) 1 = ((j + 1 : Nat) : Int) := by rw [U.add64 (by unfold I64; omega)]; omega
  have e3 : U.add .i64 ((fiB m g k2 s2 h2 lF j).length : Int) 1 = (((fiB m g k2 s2 h2 lF j).length + 1 : Nat) : Int) := by rw [U.add64 (by unfold I64; omega)]; omega
  have e4 : U.add .i64 ((fiR m g k2 s2 h2 lF j).length : Int) 1 = (((fiR m g k2 s2 h2 lF j).length + 1 : Nat) : Int) := by rw [U.add64 (by unfold I64; omega)]; omega
  simp only [tnj, e2, e3, e4, lk_eq]
  by_cases hlt : j < lN
  · obtain ⟨a1, a2⟩ := fil_step (f := lF) (fun x => hasP m g k2 s2 h2 x) hlt
    obtain ⟨c1, c2⟩ := fil_step (f := lF) (fun x => !hasP m g k2 s2 h2 x) hlt
    have a1 : fiB m g k2 s2 h2 lF (j + 1) = fiB m g k2 s2 h2 lF j ++ (if hasP m g k2 s2 h2 (at2 lF j) = true then [at2 lF j] else []) := a1
    have c1 : fiR m g k2 s2 h2 lF (j + 1) = fiR m g k2 s2 h2 lF j ++ (if (!hasP m g k2 s2 h2 (at2 lF j)) = true then [at2 lF j] else []) := c1
    have a2 : hasP m g k2 s2 h2 (at2 lF j) = true → (fiB m g k2 s2 h2 lF j).length < (fiB m g k2 s2 h2 lF lN).length ∧ (fiB m g k2 s2 h2 lF lN).getD (fiB m g k2 s2 h2 lF j).length (0, 0) = at2 lF j := a2
    have c2 : (!hasP m g k2 s2 h2 (at2 lF j)) = true → (fiR m g k2 s2 h2 lF j).length < (fiR m g k2 s2 h2 lF lN).length ∧ (fiR m g k2 s2 h2 lF lN).getD (fiR m g k2 s2 h2 lF j).length (0, 0) = at2 lF j := c2
    refine ⟨fun _ => ⟨⟨by omega, by omega⟩, hm, hd, fun hh => ?_, fun hh => ?_⟩, fun h => absurd (U.lt_f.mp h) (by simp only [Int.ofNat_eq_natCast]; omega)⟩
    · have hp : hasP m g k2 s2 h2 (at2 lF j) = true := hh
      obtain ⟨b1, b2⟩ := a2 hp
      rw [if_pos hp] at a1
      rw [if_neg (by rw [hp]; decide), List.append_nil] at c1
      have l1 : (fiB m g k2 s2 h2 lF (j + 1)).length = (fiB m g k2 s2 h2 lF j).length + 1 := by rw [a1]; simp
      refine ⟨fun hx => absurd (U.ge_t.mp hx) (by simp only [Int.ofNat_eq_natCast]; omega), fun _ => ⟨⟨by omega, by omega⟩, fun hx => absurd (hx.symm.trans (at2_eq (hB _ (by omega)) b2)) (by decide), fun _ => ?_⟩⟩
      refine ⟨⟨n, f, k, s, h, m, g, k2, s2, h2, cn, cf, ck, cs, ch, lN, lF, w, bN, bF, u, o, G, j + 1⟩, ⟨⟨rfl, hN, hm, hd, hb, hB, ho, hG⟩, by simp only []; omega⟩, by simp only []; omega, ?_, fun o ho => ho⟩
      exact wk_of [some 0, some 1, some 2, some 3] rfl (Nat.zero_le _) (ren0d _) ⟨⟨rfl, rfl⟩, ⟨rfl, rfl⟩, rfl, ⟨rfl, row2S fun _ _ => rfl⟩, ⟨rfl, rfl, rfl⟩, by rw [l1]; rfl, by rw [c1]; rfl, ⟨rfl, row2S fun _ _ => rfl⟩, rfl, rfl, trivial⟩
        ⟨⟨rfl, ⟨rfl, sameR fun _ _ => rfl⟩, rfl, rfl, rfl, trivial⟩, ⟨rfl, ⟨rfl, sameR fun _ _ => rfl⟩, rfl, rfl, rfl, trivial⟩, ⟨rfl, ⟨rfl, sameR fun _ _ => rfl⟩, rfl, rfl, rfl, trivial⟩, ⟨rfl, rfl, rfl, row2S fun _ _ => rfl⟩, trivial⟩
    · have hp : hasP m g k2 s2 h2 (at2 lF j) = false := hh
      obtain ⟨b1, b2⟩ := c2 (by rw [hp]; rfl)
      rw [if_neg (by rw [hp]; decide), List.append_nil] at a1
      rw [if_pos (by rw [hp]; rfl)] at c1
      have l1 : (fiR m g k2 s2 h2 lF (j + 1)).length = (fiR m g k2 s2 h2 lF j).length + 1 := by rw [c1]; simp
      refine ⟨fun hx => absurd (U.ge_t.mp hx) (by simp only [Int.ofNat_eq_natCast]; omega), fun _ => ⟨⟨by omega, by omega⟩, by omega, fun hx => absurd (hx.symm.trans (at2_eq (hG _ (by omega)) b2)) (by decide), fun _ => ?_⟩⟩
      refine ⟨⟨n, f, k, s, h, m, g, k2, s2, h2, cn, cf, ck, cs, ch, lN, lF, w, bN, bF, u, o, G, j + 1⟩, ⟨⟨rfl, hN, hm, hd, hb, hB, ho, hG⟩, by simp only []; omega⟩, by simp only []; omega, ?_, fun o ho => ho⟩
      exact wk_of [some 0, some 1, some 2, some 3] rfl (Nat.zero_le _) (ren0d _) ⟨⟨rfl, rfl⟩, ⟨rfl, rfl⟩, rfl, ⟨rfl, row2S fun _ _ => rfl⟩, ⟨rfl, rfl, rfl⟩, by rw [a1]; rfl, by rw [l1]; rfl, ⟨rfl, row2S fun _ _ => rfl⟩, rfl, rfl, trivial⟩
        ⟨⟨rfl, ⟨rfl, sameR fun _ _ => rfl⟩, rfl, rfl, rfl, trivial⟩, ⟨rfl, ⟨rfl, sameR fun _ _ => rfl⟩, rfl, rfl, rfl, trivial⟩, ⟨rfl, ⟨rfl, sameR fun _ _ => rfl⟩, rfl, rfl, rfl, trivial⟩, ⟨rfl, rfl, rfl, row2S fun _ _ => rfl⟩, trivial⟩
  · obtain rfl : j = lN := by omega
    refine ⟨fun h => absurd (U.lt_t.mp h) (by simp only [Int.ofNat_eq_natCast]; omega), fun _ => ⟨_, rfl, ?_⟩⟩
    exact wk_of [some 0, some 1, some 2, some 3] rfl (Nat.zero_le _) (ren0d _) ⟨⟨rfl, rfl⟩, ⟨rfl, rfl⟩, rfl, ⟨rfl, row2S fun _ _ => rfl⟩, ⟨rfl, rfl, rfl⟩, rfl, rfl, ⟨rfl, row2S fun _ _ => rfl⟩, rfl, rfl, trivial⟩
      ⟨⟨rfl, ⟨rfl, sameR fun _ _ => rfl⟩, rfl, rfl, rfl, trivial⟩, ⟨rfl, ⟨rfl, sameR fun _ _ => rfl⟩, rfl, rfl, rfl, trivial⟩, ⟨rfl, ⟨rfl, sameR fun _ _ => rfl⟩, rfl, rfl, rfl, trivial⟩, ⟨rfl, rfl, rfl, row2S fun _ _ => rfl⟩, trivial⟩
theorem loopD2 : LoopOK P (loopOf P 19 26) (few 221 [2,3,11,13,14,19,20,145,146,147] gD2) :=
  loop_few (E := E19) mixed E19_ok loopsOK_none 221 [2,3,11,13,14,19,20,145,146,147] (X := XD2) gD2 (fun _ x => VD2 x) PhiD2 (fun q => q.lN - q.j) (fun _ x o => o = OD2 x)
    (fun n0 st r h => by
      unfold gD2 at h
      split at h
      · rename_i n0 w bN bF u b1 o lN lF N' e0 n f k s h' t0 e1 m g k2 s2 h2 t1 e2 cn cf ck cs ch t2 e3 u' o' G t3
        obtain ⟨hp, rfl, rfl, rfl, rfl, rfl, rfl, rfl, rfl⟩ := (T.is_ask h).1
        obtain rfl := T.is_ret (T.is_ask h).2
        rw [lk_eq] at hp
        have h0 := hp.1
        have q1 := hp.2.2.2.2.1
        have q2 := hp.2.2.2.2.2.2.1
        refine ⟨⟨n, f, k, s, h', m, g, k2, s2, h2, cn, cf, ck, cs, ch, lN, lF, w, bN, bF, u', o', G, 0⟩, ⟨hp, Nat.zero_le _⟩, ?_, fun oo ho => ?_⟩
        · subst h0
          exact wk_of [some 0, some 1, some 2, some 3] rfl (Nat.zero_le _) (ren0d _) ⟨⟨rfl, rfl⟩, ⟨rfl, rfl⟩, rfl, ⟨rfl, row2S fun _ _ => rfl⟩, ⟨rfl, rfl, rfl⟩, rfl, rfl, ⟨rfl, row2S fun _ _ => rfl⟩, rfl, rfl, trivial⟩
            ⟨⟨rfl, ⟨rfl, sameR fun _ _ => rfl⟩, rfl, rfl, rfl, trivial⟩, ⟨rfl, ⟨rfl, sameR fun _ _ => rfl⟩, rfl, rfl, rfl, trivial⟩, ⟨rfl, ⟨rfl, sameR fun _ _ => rfl⟩, rfl, rfl, rfl, trivial⟩, ⟨rfl, rfl, rfl, row2S fun _ _ => rfl⟩, trivial⟩
        · rw [ho]
          show (Ex.exit 2, ((slD2 lN lF w bN bF u' o' ((fiB m g k2 s2 h2 lF lN).length : Int) ((fiR m g k2 s2 h2 lF lN).length : Int) (lN : Int), memD1 n f k s h' m g k2 s2 h2 cn cf ck cs ch u' o' G) : Few)) = _
          rw [← q1, ← q2]
      · exact h.elim)
    roundD2
end Go.RX.Span

/- Sets of indices: what the law's last lines say, in plain Lean. -/
set_option linter.unusedVariables false
set_option linter.unusedSimpArgs false
namespace Go.RX.Span
open Go Go.RX Go.Proofs Go.Lib

theorem listP_rowP (l : List (Int × Int)) : listP l.length (rowP l) = l := by
  unfold listP
  refine List.ext_getElem (by simp) fun i h1 h2 => ?_
  rw [List.getElem_map, List.getElem_range]
  show ((l.getD i (0, 0)).1, (l.getD i (0, 0)).2) = _
  rw [List.getD_eq_getElem?_getD, List.getElem?_eq_getElem h2]; rfl
theorem rowP_listP (n : Nat) (f : Nat → R2) : ∀ i, i < n → f i = rowP (listP n f) i := fun i hi => by
  unfold rowP
  have : (listP n f).getD i (0, 0) = at2 f i := by
    unfold listP
    rw [List.getD_eq_getElem?_getD, List.getElem?_map, List.getElem?_range hi]; rfl
  rw [this]; rfl
theorem listP_len (n : Nat) (f : Nat → R2) : (listP n f).length = n := by unfold listP; simp
/-- A sorted list of what another one holds is the other one sorted. -/
theorem srtP_perm {l l' : List (Int × Int)} (h : l.Perm l') (hs : l'.Pairwise fun x y => Go.Proofs.ltOf cmpPair x y = true) : (l.mergeSort fun x y => !(ltOf cmpPair) y x) = l' := by
  refine List.Perm.eq_of_pairwise (le := fun x y => (!(ltOf cmpPair) y x) = true) (fun a b _ _ h1 h2 => ?_) (List.pairwise_mergeSort ?_ ?_ l) (hs.imp fun {x y} g => ?_) ((List.mergeSort_perm l _).trans h)
  · rw [Bool.not_eq_true'] at h1 h2
    exact totP a b h2 h1
  · intro a b c h1 h2
    rw [Bool.not_eq_true'] at *
    exact swoP.ntrans c b a h2 h1
  · intro a b
    rw [ltP, ltP]
    simp only [Bool.or_eq_true, Bool.not_eq_true', decide_eq_false_iff_not]
    omega
  · rw [ltP, decide_eq_true_eq] at g
    rw [ltP, Bool.not_eq_true', decide_eq_false_iff_not]
    omega
section
variable {n : Nat} {f : Nat → R3} {k s h : Int} {g : Nat → R3} {k' s' h' : Int}
theorem allP_len : (allP n f k s h).length = szDn n f k s h := listP_len _ _
theorem szD_nat (hc : chD n f k s h = 0) : ((szDn n f k s h : Nat) : Int) = szD n f k s h := by
  have := (dr_prod (chD_zero.1 hc).1).1
  unfold szDn
  rw [szD_right hc]; omega
theorem wi_rest2 (hc : chD n f k s h = 0) (hg : chD n g k' s' h' = 0) : wiD n f k s h n g k' s' h' = true ↔ (allP n f k s h).filter (fun x => !hasP n g k' s' h' x) = [] := by
  have hb : boE n f k s h n g k' s' h' = 0 := boE_zero.2 ⟨hc, hg, rfl⟩
  have hd := di_right hb
  have e := congrArg List.length (bothP hc hg)
  rw [allP_len] at e
  have l2 : ((allP n f k s h).filter fun x => hasP n g k' s' h' x).length + ((allP n f k s h).filter fun x => !hasP n g k' s' h' x).length = (allP n f k s h).length := by
    have := List.length_eq_countP_add_countP (fun x => hasP n g k' s' h' x) (l := allP n f k s h)
    rw [List.countP_eq_length_filter, List.countP_eq_length_filter] at this
    have e3 : (fun x => decide ¬hasP n g k' s' h' x = true) = fun x => !hasP n g k' s' h' x := by funext x; cases hasP n g k' s' h' x <;> rfl
    rw [e3] at this
    omega
  rw [allP_len] at l2
  have a1 := szD_nat hc
  have a2 := szD_nat hd
  unfold wiD
  rw [if_neg (by simp [hb]), decide_eq_true_eq, ← List.length_eq_zero_iff]
  show szD n (diF f g) k s h = _ ↔ _
  omega
theorem sa_rest (hc : chD n f k s h = 0) (hg : chD n g k' s' h' = 0) : saD n f k s h n g k' s' h' = decide ((allP n f k s h).filter (fun x => !hasP n g k' s' h' x) = [] ∧ szD n f k s h = szD n g k' s' h') := by
  rw [← wi_same hc hg, Bool.eq_iff_iff, Bool.and_eq_true, decide_eq_true_eq, ← wi_rest2 hc hg]
  have hb : boE n f k s h n g k' s' h' = 0 := boE_zero.2 ⟨hc, hg, rfl⟩
  have hb' : boE n g k' s' h' n f k s h = 0 := boE_zero.2 ⟨hg, hc, rfl⟩
  have hd := di_right hb
  have hd' := di_right hb'
  have e1 : allP n (diF f g) k s h = allP n (diF g f) k' s' h' := by
    refine eq_lt (srt_idL hd) (srt_idL hd') fun x => ?_
    rw [bothP hc hg, bothP hg hc, List.mem_filter, List.mem_filter]
    unfold allP
    rw [mem_idL hc, mem_idL hg]
    constructor
    · rintro ⟨a, b⟩
      have b := (has_in hg a).1 b
      exact ⟨b, (has_in hc b).2 a⟩
    · rintro ⟨a, b⟩
      have b := (has_in hc a).1 b
      exact ⟨b, (has_in hg b).2 a⟩
  have e2 := congrArg List.length e1
  rw [allP_len, allP_len] at e2
  have a1 := szD_nat hc
  have a2 := szD_nat hg
  have a3 := szD_nat hd
  have a4 := szD_nat hd'
  have w1 : wiD n f k s h n g k' s' h' = true ↔ szD n (diF f g) k s h = szD n f k s h := by
    unfold wiD; rw [if_neg (by simp [hb]), decide_eq_true_eq]; exact Iff.rfl
  have w2 : wiD n g k' s' h' n f k s h = true ↔ szD n (diF g f) k' s' h' = szD n g k' s' h' := by
    unfold wiD; rw [if_neg (by simp [hb']), decide_eq_true_eq]; exact Iff.rfl
  rw [w1, w2]
  omega
theorem plL_pt {F : Nat → DE} : ∀ {N : Nat}, (∀ i, i < N → ∃ e : Nat → R3, F i = mkD n e k s h) → plL F N = ptL n F N
  | 0, _ => rfl
  | N + 1, hF => by
    rw [plL_s, plL_pt fun i hi => hF i (by omega)]
    unfold ptL
    rw [List.range_succ, List.flatMap_append]
    obtain ⟨e, he⟩ := hF N (by omega)
    have : elQ (F N) = elP n (F N) := by rw [he]; rfl
    rw [this]; simp
end
end Go.RX.Span

/- Sets of indices: what the law returns. -/
set_option linter.unusedVariables false
set_option linter.unusedSimpArgs false
set_option maxRecDepth 100000
namespace Go.RX.Span
open Go Go.RX
attribute [local irreducible] sx conB

noncomputable abbrev lSet : List (Nat × Loops) := [(19, [(16, .sum (few 221 [2,3,5,11,13,14,100,101,102] gD1)), (26, .sum (few 221 [2,3,11,13,14,19,20,145,146,147] gD2))]), (106, [(0, .call X_sortP)])] --%K
theorem lSet_ok : ∀ p ∈ lSet, LoopsOK P p.2 (bodyOf P p.1) := by
  intro p hp
  simp only [lSet, List.mem_cons, List.not_mem_nil, or_false] at hp
  rcases hp with rfl | rfl
  · refine loopsOK_of (by kernel_rfl) fun k g hk => ?_
    simp only [List.mem_cons, List.not_mem_nil, or_false, Prod.mk.injEq, LoopC.sum.injEq] at hk
    rcases hk with ⟨rfl, rfl⟩ | ⟨rfl, rfl⟩
    · exact loopD1
    · exact loopD2
  · exact loopsOK_call _
theorem cSet_ok : ∀ p ∈ lSet, ∀ X, callOf p.2 = some X → InlOK P p.1 X := by
  intro p hp X hX
  simp only [lSet, List.mem_cons, List.not_mem_nil, or_false] at hp
  rcases hp with rfl | rfl
  · cases hX
  · simp only [callOf, Option.some.injEq] at hX
    subst hX
    exact sortP_ok
--%R ↑\((lk\s+dsN\s+n\s+f\s+k\s+s\s+h\s+m\s+g\s+k2\s+s2\s+h2)\) => ((\1 : Nat) : Int)
--%R ↑\((lk\s+szDn\s+n\s+f\s+k\s+s\s+h)\) => ((\1 : Nat) : Int)
set_option maxRecDepth 100000 in
theorem t_DSa (n : Nat) (f : Nat → R3) (k s h : Int) (m : Nat) (g : Nat → R3) (k2 s2 h2 : Int) : (conB Go.Proofs.Try.prog (conOf d19) (loopsOf lSet) 10 19 [.agg [.row [.int .i64, .int .i64, .int .i64] n f, .lit (.int .i64 k), .lit (.int .i64 s), .lit (.int .i64 h)], .agg [.row [.int .i64, .int .i64, .int .i64] m g, .lit (.int .i64 k2), .lit (.int .i64 s2), .lit (.int .i64 h2)]]).force [true] =
    T.ask (Row64 n f) (.ask (U.not (lk smD n f k s h) = true) (.ret (.lit (.bool true)))) := by kernel_rfl
set_option maxRecDepth 100000 in
theorem t_DSb (n : Nat) (f : Nat → R3) (k s h : Int) (m : Nat) (g : Nat → R3) (k2 s2 h2 : Int) : (conB Go.Proofs.Try.prog (conOf d19) (loopsOf lSet) 10 19 [.agg [.row [.int .i64, .int .i64, .int .i64] n f, .lit (.int .i64 k), .lit (.int .i64 s), .lit (.int .i64 h)], .agg [.row [.int .i64, .int .i64, .int .i64] m g, .lit (.int .i64 k2), .lit (.int .i64 s2), .lit (.int .i64 h2)]]).force [false, true] =
    T.ask (Row64 n f) (.ask (U.not (lk smD n f k s h) = false) (.ask (Row64 m g) (.ask (U.not (lk smD m g k2 s2 h2) = true) (.ret (.lit (.bool true)))))) := by kernel_rfl
set_option maxRecDepth 100000 in
theorem t_DSc (n : Nat) (f : Nat → R3) (k s h : Int) (m : Nat) (g : Nat → R3) (k2 s2 h2 : Int) : (conB Go.Proofs.Try.prog (conOf d19) (loopsOf lSet) 10 19 [.agg [.row [.int .i64, .int .i64, .int .i64] n f, .lit (.int .i64 k), .lit (.int .i64 s), .lit (.int .i64 h)], .agg [.row [.int .i64, .int .i64, .int .i64] m g, .lit (.int .i64 k2), .lit (.int .i64 s2), .lit (.int .i64 h2)]]).force [false, false, true] =
    T.ask (Row64 n f) (.ask (U.not (lk smD n f k s h) = false) (.ask (Row64 m g) (.ask (U.not (lk smD m g k2 s2 h2) = false) (.ask (U.ne (Int.ofNat n) (Int.ofNat m) = true) (.ret (.lit
      (.bool true))))))) := by kernel_rfl
set_option maxRecDepth 100000 in
theorem t_DSd (n : Nat) (f : Nat → R3) (k s h : Int) (m : Nat) (g : Nat → R3) (k2 s2 h2 : Int) : (conB Go.Proofs.Try.prog (conOf d19) (loopsOf lSet) 10 19 [.agg [.row [.int .i64, .int .i64, .int .i64] n f, .lit (.int .i64 k), .lit (.int .i64 s), .lit (.int .i64 h)], .agg [.row [.int .i64, .int .i64, .int .i64] m g, .lit (.int .i64 k2), .lit (.int .i64 s2), .lit (.int .i64 h2)]]).force [false, false, false, false, false, false, false, false, false, false, false, true, true, true, true, true, true] =
    T.ask (Row64 n f) (.ask (U.not (lk smD n f k s h) = false) (.ask (Row64 m g) (.ask (U.not (lk smD m g k2 s2 h2) = false) (.ask (U.ne (Int.ofNat n) (Int.ofNat m) = false) (.ask
      (Row64 n f ∧ lk szDn n f k s h ≤ (500 : Nat)) (.ask (U.not true = false) (.ask (Row64 n f ∧ Row64 m g) (.ask (Row64 n f ∧ Row64 m g) (.ask (Row64 n f ∧ Row64 m g) (.ask (U.ne (lk
      boE n f k s h m g k2 s2 h2) (0 : Int) = false) (.ask (U.ne (lk dsE n f k s h m g k2 s2 h2) (0 : Int) = false) (.ask (U.ne (lk boE n f k s h m g k2 s2 h2) (0 : Int) = false) (.ask
      (Row64 (lk diN n f k s h m g k2 s2 h2) (lk diF f g)) (.ask (U.ne (lk chD (lk diN n f k s h m g k2 s2 h2) (lk diF f g) (lk diX n f k s h m g k2 s2 h2 k) (lk diX n f k s h m g k2 s2
      h2 s) (lk diX n f k s h m g k2 s2 h2 h)) (0 : Int) = false) (.ask (U.not (U.andb (U.eq (lk diX n f k s h m g k2 s2 h2 k) k) (U.andb (U.eq (lk diX n f k s h m g k2 s2 h2 s) s) (U.eq
      (lk diX n f k s h m g k2 s2 h2 h) h))) = false) (.ask (U.gt (Int.ofNat (lk dsN n f k s h m g k2 s2 h2)) (500 : Int) = false) (.ask (Row64 (lk diN n f k s h m g k2 s2 h2) (lk diF f
      g) ∧ lk szDn (lk diN n f k s h m g k2 s2 h2) (lk diF f g) (lk diX n f k s h m g k2 s2 h2 k) (lk diX n f k s h m g k2 s2 h2 s) (lk diX n f k s h m g k2 s2 h2 h) ≤ (500 : Nat)) (.ask
      (U.not true = false) (.ask (lk PreD1 (nat_lit 0) n k s h (lk dsN n f k s h m g k2 s2 h2) (lk dsF n f k s h m g k2 s2 h2) ∧ ((lk dsN n f k s h m g k2 s2 h2 : Nat) : Int) = ((lk dsN n
      f k s h m g k2 s2 h2 : Nat) : Int) ∧ (49 : Nat) = (49 : TypeId) ∧ (49 : Nat) = (49 : TypeId) ∧ (49 : Nat) = (49 : TypeId)) (.ask (lk fnP (lk dsF n f k s h m g k2 s2 h2) (lk dsN n f
      k s h m g k2 s2 h2) = lk fnP (lk dsF n f k s h m g k2 s2 h2) (lk dsN n f k s h m g k2 s2 h2) ∧ lk fnP (lk dsF n f k s h m g k2 s2 h2) (lk dsN n f k s h m g k2 s2 h2) ≤ (1000000 :
      Nat)) (.ask (lk PreD2 (nat_lit 0) m g k2 s2 h2 (lk szDn n f k s h) (lk idF n f) (lk szDn (lk diN n f k s h m g k2 s2 h2) (lk diF f g) (lk diX n f k s h m g k2 s2 h2 k) (lk diX n f k
      s h m g k2 s2 h2 s) (lk diX n f k s h m g k2 s2 h2 h)) (lk idF (lk diN n f k s h m g k2 s2 h2) (lk diF f g)) (lk fnP (lk dsF n f k s h m g k2 s2 h2) (lk dsN n f k s h m g k2 s2 h2))
      (lk srtPf (lk fnP (lk dsF n f k s h m g k2 s2 h2) (lk dsN n f k s h m g k2 s2 h2)) (lk ffP (lk dsF n f k s h m g k2 s2 h2) (lk dsN n f k s h m g k2 s2 h2))) ∧ ((lk szDn n f k s h :
      Nat) : Int) = ((lk szDn n f k s h : Nat) : Int) ∧ (3 : Nat) = (3 : Nat) ∧ lk fuP (lk dsF n f k s h m g k2 s2 h2) (lk dsN n f k s h m g k2 s2 h2) = lk fuP (lk dsF n f k s h m g k2 s2
      h2) (lk dsN n f k s h m g k2 s2 h2) ∧ lk fnP (lk dsF n f k s h m g k2 s2 h2) (lk dsN n f k s h m g k2 s2 h2) = lk fnP (lk dsF n f k s h m g k2 s2 h2) (lk dsN n f k s h m g k2 s2 h2)
      ∧ (49 : TypeId) = (49 : TypeId) ∧ (49 : TypeId) = (49 : TypeId) ∧ (49 : TypeId) = (49 : TypeId) ∧ (103 : TypeId) = (103 : TypeId)) (.ask (U.eq (Int.ofNat (lk szDn (lk diN n f k s h
      m g k2 s2 h2) (lk diF f g) (lk diX n f k s h m g k2 s2 h2 k) (lk diX n f k s h m g k2 s2 h2 s) (lk diX n f k s h m g k2 s2 h2 h))) (Int.ofNat (lk szDn (lk diN n f k s h m g k2 s2
      h2) (lk diF f g) (lk diX n f k s h m g k2 s2 h2 k) (lk diX n f k s h m g k2 s2 h2 s) (lk diX n f k s h m g k2 s2 h2 h))) = true) (.ask (U.eq (Int.ofNat (lk fnP (lk dsF n f k s h m g
      k2 s2 h2) (lk dsN n f k s h m g k2 s2 h2))) (Int.ofNat (lk fnP (lk dsF n f k s h m g k2 s2 h2) (lk dsN n f k s h m g k2 s2 h2))) = true) (.ask (U.beq (lk wiD n f k s h m g k2 s2 h2)
      (U.eq (Int.ofNat (lk fnP (lk dsF n f k s h m g k2 s2 h2) (lk dsN n f k s h m g k2 s2 h2))) (0 : Int)) = true) (.ask (Row64 n f ∧ Row64 m g) (.ask (U.eq (Int.ofNat (lk fnP (lk dsF n
      f k s h m g k2 s2 h2) (lk dsN n f k s h m g k2 s2 h2))) (0 : Int) = true) (.ask (Row64 n f) (.ask (Row64 m g) (.ask (U.beq (lk saD n f k s h m g k2 s2 h2) (U.eq (lk szD n f k s h)
      (lk szD m g k2 s2 h2)) = true) (.ret (.lit (.bool true)))))))))))))))))))))))))))))))) := by kernel_rfl
set_option maxRecDepth 100000 in
theorem t_DSe (n : Nat) (f : Nat → R3) (k s h : Int) (m : Nat) (g : Nat → R3) (k2 s2 h2 : Int) : (conB Go.Proofs.Try.prog (conOf d19) (loopsOf lSet) 10 19 [.agg [.row [.int .i64, .int .i64, .int .i64] n f, .lit (.int .i64 k), .lit (.int .i64 s), .lit (.int .i64 h)], .agg [.row [.int .i64, .int .i64, .int .i64] m g, .lit (.int .i64 k2), .lit (.int .i64 s2), .lit (.int .i64 h2)]]).force [false, false, false, false, false, false, false, false, false, false, false, true, true, true, false, true, true] =
    T.ask (Row64 n f) (.ask (U.not (lk smD n f k s h) = false) (.ask (Row64 m g) (.ask (U.not (lk smD m g k2 s2 h2) = false) (.ask (U.ne (Int.ofNat n) (Int.ofNat m) = false) (.ask
      (Row64 n f ∧ lk szDn n f k s h ≤ (500 : Nat)) (.ask (U.not true = false) (.ask (Row64 n f ∧ Row64 m g) (.ask (Row64 n f ∧ Row64 m g) (.ask (Row64 n f ∧ Row64 m g) (.ask (U.ne (lk
      boE n f k s h m g k2 s2 h2) (0 : Int) = false) (.ask (U.ne (lk dsE n f k s h m g k2 s2 h2) (0 : Int) = false) (.ask (U.ne (lk boE n f k s h m g k2 s2 h2) (0 : Int) = false) (.ask
      (Row64 (lk diN n f k s h m g k2 s2 h2) (lk diF f g)) (.ask (U.ne (lk chD (lk diN n f k s h m g k2 s2 h2) (lk diF f g) (lk diX n f k s h m g k2 s2 h2 k) (lk diX n f k s h m g k2 s2
      h2 s) (lk diX n f k s h m g k2 s2 h2 h)) (0 : Int) = false) (.ask (U.not (U.andb (U.eq (lk diX n f k s h m g k2 s2 h2 k) k) (U.andb (U.eq (lk diX n f k s h m g k2 s2 h2 s) s) (U.eq
      (lk diX n f k s h m g k2 s2 h2 h) h))) = false) (.ask (U.gt (Int.ofNat (lk dsN n f k s h m g k2 s2 h2)) (500 : Int) = false) (.ask (Row64 (lk diN n f k s h m g k2 s2 h2) (lk diF f
      g) ∧ lk szDn (lk diN n f k s h m g k2 s2 h2) (lk diF f g) (lk diX n f k s h m g k2 s2 h2 k) (lk diX n f k s h m g k2 s2 h2 s) (lk diX n f k s h m g k2 s2 h2 h) ≤ (500 : Nat)) (.ask
      (U.not true = false) (.ask (lk PreD1 (nat_lit 0) n k s h (lk dsN n f k s h m g k2 s2 h2) (lk dsF n f k s h m g k2 s2 h2) ∧ ((lk dsN n f k s h m g k2 s2 h2 : Nat) : Int) = ((lk dsN n
      f k s h m g k2 s2 h2 : Nat) : Int) ∧ (49 : Nat) = (49 : TypeId) ∧ (49 : Nat) = (49 : TypeId) ∧ (49 : Nat) = (49 : TypeId)) (.ask (lk fnP (lk dsF n f k s h m g k2 s2 h2) (lk dsN n f
      k s h m g k2 s2 h2) = lk fnP (lk dsF n f k s h m g k2 s2 h2) (lk dsN n f k s h m g k2 s2 h2) ∧ lk fnP (lk dsF n f k s h m g k2 s2 h2) (lk dsN n f k s h m g k2 s2 h2) ≤ (1000000 :
      Nat)) (.ask (lk PreD2 (nat_lit 0) m g k2 s2 h2 (lk szDn n f k s h) (lk idF n f) (lk szDn (lk diN n f k s h m g k2 s2 h2) (lk diF f g) (lk diX n f k s h m g k2 s2 h2 k) (lk diX n f k
      s h m g k2 s2 h2 s) (lk diX n f k s h m g k2 s2 h2 h)) (lk idF (lk diN n f k s h m g k2 s2 h2) (lk diF f g)) (lk fnP (lk dsF n f k s h m g k2 s2 h2) (lk dsN n f k s h m g k2 s2 h2))
      (lk srtPf (lk fnP (lk dsF n f k s h m g k2 s2 h2) (lk dsN n f k s h m g k2 s2 h2)) (lk ffP (lk dsF n f k s h m g k2 s2 h2) (lk dsN n f k s h m g k2 s2 h2))) ∧ ((lk szDn n f k s h :
      Nat) : Int) = ((lk szDn n f k s h : Nat) : Int) ∧ (3 : Nat) = (3 : Nat) ∧ lk fuP (lk dsF n f k s h m g k2 s2 h2) (lk dsN n f k s h m g k2 s2 h2) = lk fuP (lk dsF n f k s h m g k2 s2
      h2) (lk dsN n f k s h m g k2 s2 h2) ∧ lk fnP (lk dsF n f k s h m g k2 s2 h2) (lk dsN n f k s h m g k2 s2 h2) = lk fnP (lk dsF n f k s h m g k2 s2 h2) (lk dsN n f k s h m g k2 s2 h2)
      ∧ (49 : TypeId) = (49 : TypeId) ∧ (49 : TypeId) = (49 : TypeId) ∧ (49 : TypeId) = (49 : TypeId) ∧ (103 : TypeId) = (103 : TypeId)) (.ask (U.eq (Int.ofNat (lk szDn (lk diN n f k s h
      m g k2 s2 h2) (lk diF f g) (lk diX n f k s h m g k2 s2 h2 k) (lk diX n f k s h m g k2 s2 h2 s) (lk diX n f k s h m g k2 s2 h2 h))) (Int.ofNat (lk szDn (lk diN n f k s h m g k2 s2
      h2) (lk diF f g) (lk diX n f k s h m g k2 s2 h2 k) (lk diX n f k s h m g k2 s2 h2 s) (lk diX n f k s h m g k2 s2 h2 h))) = true) (.ask (U.eq (Int.ofNat (lk fnP (lk dsF n f k s h m g
      k2 s2 h2) (lk dsN n f k s h m g k2 s2 h2))) (Int.ofNat (lk fnP (lk dsF n f k s h m g k2 s2 h2) (lk dsN n f k s h m g k2 s2 h2))) = true) (.ask (U.beq (lk wiD n f k s h m g k2 s2 h2)
      (U.eq (Int.ofNat (lk fnP (lk dsF n f k s h m g k2 s2 h2) (lk dsN n f k s h m g k2 s2 h2))) (0 : Int)) = true) (.ask (Row64 n f ∧ Row64 m g) (.ask (U.eq (Int.ofNat (lk fnP (lk dsF n
      f k s h m g k2 s2 h2) (lk dsN n f k s h m g k2 s2 h2))) (0 : Int) = false) (.ask (U.beq (lk saD n f k s h m g k2 s2 h2) false = true) (.ret (.lit (.bool
      true)))))))))))))))))))))))))))))) := by kernel_rfl
noncomputable def c_DomainSets : Con := fun args => match args with
  | [.agg [.row [.int .i64, .int .i64, .int .i64] n f, .lit (.int .i64 k), .lit (.int .i64 s), .lit (.int .i64 h)], .agg [.row [.int .i64, .int .i64, .int .i64] m g, .lit (.int .i64 k2), .lit (.int .i64 s2), .lit (.int .i64 h2)]] => .ask (Row64 n f ∧ Row64 m g) (.ret (.lit (.bool true)))
  | _ => .stuck 1
section
variable {n : Nat} {f : Nat → R3} {k s h : Int} {g : Nat → R3} {k2 s2 h2 : Int}
theorem ds_facts (hc : chD n f k s h = 0) (hg : chD n g k2 s2 h2 = 0) (h5 : szD n f k s h ≤ 500) :
    PreD1 0 n k s h (dsN n f k s h n g k2 s2 h2) (dsF n f k s h n g k2 s2 h2) ∧ (dsN n f k s h n g k2 s2 h2 : Int) ≤ 500 ∧ fnP (dsF n f k s h n g k2 s2 h2) (dsN n f k s h n g k2 s2 h2) ≤ 1000000 ∧
    PreD2 0 n g k2 s2 h2 (szDn n f k s h) (idF n f) (szDn n (diF f g) k s h) (idF n (diF f g)) (fnP (dsF n f k s h n g k2 s2 h2) (dsN n f k s h n g k2 s2 h2)) (srtPf (fnP (dsF n f k s h n g k2 s2 h2) (dsN n f k s h n g k2 s2 h2)) (ffP (dsF n f k s h n g k2 s2 h2) (dsN n f k s h n g k2 s2 h2))) ∧
    fnP (dsF n f k s h n g k2 s2 h2) (dsN n f k s h n g k2 s2 h2) = ((allP n f k s h).filter fun x => !hasP n g k2 s2 h2 x).length := by
  obtain ⟨q1, q2⟩ := ds_all hc hg h5
  have hn := (chD_zero.1 hc).1.1
  have lA : (allP n f k s h).length ≤ 500 := by rw [allP_len]; have := szD_nat hc; omega
  have hN : (dsN n f k s h n g k2 s2 h2 : Int) ≤ 500 := by have := q2.len; show ((dsL n f k s h n g k2 s2 h2).1 : Int) ≤ 500; omega
  have P1 : PreD1 0 n k s h (dsN n f k s h n g k2 s2 h2) (dsF n f k s h n g k2 s2 h2) := ⟨rfl, by omega, fun i hi => by
    obtain ⟨e, g1, g2, g3, g4⟩ := q2.one i hi
    exact ⟨e, g1, g2, g3, by omega⟩⟩
  have eP : plL (dsF n f k s h n g k2 s2 h2) (dsN n f k s h n g k2 s2 h2) = ptL n (dsF n f k s h n g k2 s2 h2) (dsN n f k s h n g k2 s2 h2) := plL_pt (k := k) (s := s) (h := h) fun i hi => by
    obtain ⟨e, g1, _⟩ := P1.2.2 i hi
    exact ⟨e, g1⟩
  have pR := restP hc hg h5
  rw [← eP] at pR
  have hl := pR.length_eq
  have lF := List.length_filter_le (fun x => !hasP n g k2 s2 h2 x) (allP n f k s h)
  have hs : ((allP n f k s h).filter fun x => !hasP n g k2 s2 h2 x).Pairwise fun x y => Go.Proofs.ltOf Go.Proofs.cmpPair x y = true := (srt_idL hc).filter _
  have eS : srtPl (fnP (dsF n f k s h n g k2 s2 h2) (dsN n f k s h n g k2 s2 h2)) (ffP (dsF n f k s h n g k2 s2 h2) (dsN n f k s h n g k2 s2 h2)) = (allP n f k s h).filter fun x => !hasP n g k2 s2 h2 x := by
    unfold srtPl fnP ffP
    rw [listP_rowP]
    exact srtP_perm pR hs
  have hd := dr_64 (chD_zero.1 hg).1
  refine ⟨P1, hN, by unfold fnP; omega, ⟨rfl, ?_, by omega, hd, ?_, fun i hi => ?_, hl, fun i hi => ?_⟩, hl⟩
  · rw [← allP_len]; exact lA
  · have := congrArg List.length (bothP hc hg)
    rw [allP_len] at this
    exact this
  · refine (rowP_listP (szDn n (diF f g) k s h) (idF n (diF f g)) i hi).trans ?_
    show rowP (allP n (diF f g) k s h) i = _
    rw [bothP hc hg]; rfl
  · show rowP (srtPl _ _) i = _
    rw [eS]; rfl
end
theorem DomainSets_ok : ConOK P 19 c_DomainSets := con_force (allOKC mixed d19_ok lSet_ok cSet_ok) 10 19 fun args r hh => by
  unfold c_DomainSets at hh
  split at hh
  · rename_i n f k s h m g k2 s2 h2
    obtain ⟨d, d'⟩ := (T.is_ask hh).1
    obtain rfl := T.is_ret (T.is_ask hh).2
    cases hs : smD n f k s h
    · exact ⟨_, by rw [t_DSa]; simp only [lk_eq]; exact ⟨d, U.not_t.mpr hs, .inl rfl⟩⟩
    cases hs2 : smD m g k2 s2 h2
    · exact ⟨_, by rw [t_DSb]; simp only [lk_eq]; exact ⟨d, U.not_f.mpr hs, d', U.not_t.mpr hs2, .inl rfl⟩⟩
    by_cases hnm : n = m
    rotate_left
    · exact ⟨_, by rw [t_DSc]; simp only [lk_eq]; exact ⟨d, U.not_f.mpr hs, d', U.not_f.mpr hs2, U.ne_t.mpr (by simp only [Int.ofNat_eq_natCast]; omega), .inl rfl⟩⟩
    subst hnm
    obtain ⟨hc, h5⟩ := of_decide_eq_true hs
    obtain ⟨hg, h5'⟩ := of_decide_eq_true hs2
    have hb : boE n f k s h n g k2 s2 h2 = 0 := boE_zero.2 ⟨hc, hg, rfl⟩
    have hdi := di_right hb
    have x1 : diN n f k s h n g k2 s2 h2 = n := by unfold diN; rw [if_neg (by simp [hb])]
    have x2 : ∀ x, diX n f k s h n g k2 s2 h2 x = x := fun x => by unfold diX; rw [if_neg (by simp [hb])]
    obtain ⟨q1, q2⟩ := ds_all hc hg h5
    obtain ⟨P1, hN, lG, P2, hl⟩ := ds_facts hc hg h5
    have l5 : szDn n f k s h ≤ 500 := P2.2.1
    have l6 : szDn n (diF f g) k s h ≤ 500 := by
      have e := congrArg List.length (bothP hc hg)
      have := List.length_filter_le (fun x => hasP n g k2 s2 h2 x) (allP n f k s h)
      rw [allP_len] at e this
      omega
    have dd := dr_64 (chD_zero.1 hdi).1
    have nn : U.ne (Int.ofNat n) (Int.ofNat n) = false := U.ne_f.mpr rfl
    have am : U.not (U.andb (U.eq k k) (U.andb (U.eq s s) (U.eq h h))) = false := by
      rw [U.eq_t.mpr rfl, U.eq_t.mpr rfl, U.eq_t.mpr rfl, U.andb_eq, U.andb_eq]; exact U.not_f.mpr rfl
    have v5 : U.gt (Int.ofNat (dsN n f k s h n g k2 s2 h2)) 500 = false := U.gt_f.mpr (by simp only [Int.ofNat_eq_natCast]; omega)
    have wi := wi_rest2 hc hg
    rw [← List.length_eq_zero_iff, ← hl] at wi
    have w1 : U.beq (wiD n f k s h n g k2 s2 h2) (U.eq (Int.ofNat (fnP (dsF n f k s h n g k2 s2 h2) (dsN n f k s h n g k2 s2 h2))) 0) = true := by
      rw [U.beq_t, Bool.eq_iff_iff, wi, U.eq_t]
      simp only [Int.ofNat_eq_natCast]
      omega
    have sa : saD n f k s h n g k2 s2 h2 = true ↔ fnP (dsF n f k s h n g k2 s2 h2) (dsN n f k s h n g k2 s2 h2) = 0 ∧ szD n f k s h = szD n g k2 s2 h2 := by
      rw [sa_rest hc hg, decide_eq_true_eq, ← List.length_eq_zero_iff, ← hl]
    by_cases h0 : fnP (dsF n f k s h n g k2 s2 h2) (dsN n f k s h n g k2 s2 h2) = 0
    · have w2 : U.beq (saD n f k s h n g k2 s2 h2) (U.eq (szD n f k s h) (szD n g k2 s2 h2)) = true := by
        rw [U.beq_t, Bool.eq_iff_iff, sa, U.eq_t]
        exact ⟨fun w => w.2, fun w => ⟨h0, w⟩⟩
      refine ⟨_, T.all_of_eq (t_DSd n f k s h n g k2 s2 h2) ?_⟩
      simp only [lk_eq, x1, x2]
      exact ⟨d, U.not_f.mpr hs, d', U.not_f.mpr hs2, nn, ⟨d, l5⟩, U.not_f.mpr rfl, ⟨d, d'⟩, ⟨d, d'⟩, ⟨d, d'⟩, U.ne_f.mpr hb, U.ne_f.mpr q1, U.ne_f.mpr hb, dd, U.ne_f.mpr hdi, am, v5, ⟨dd, l6⟩, U.not_f.mpr rfl, ⟨P1, trivial, trivial, trivial, trivial⟩, ⟨trivial, lG⟩,
        ⟨P2, trivial, trivial, trivial, trivial, trivial, trivial, trivial, trivial⟩, U.eq_t.mpr rfl, U.eq_t.mpr rfl, w1, ⟨d, d'⟩, U.eq_t.mpr (by simp only [Int.ofNat_eq_natCast]; omega), d, d', w2, .inl rfl⟩
    · have w2 : U.beq (saD n f k s h n g k2 s2 h2) false = true := by
        rw [U.beq_t, ← Bool.not_eq_true, sa]
        exact fun w => h0 w.1
      refine ⟨_, T.all_of_eq (t_DSe n f k s h n g k2 s2 h2) ?_⟩
      simp only [lk_eq, x1, x2]
      exact ⟨d, U.not_f.mpr hs, d', U.not_f.mpr hs2, nn, ⟨d, l5⟩, U.not_f.mpr rfl, ⟨d, d'⟩, ⟨d, d'⟩, ⟨d, d'⟩, U.ne_f.mpr hb, U.ne_f.mpr q1, U.ne_f.mpr hb, dd, U.ne_f.mpr hdi, am, v5, ⟨dd, l6⟩, U.not_f.mpr rfl, ⟨P1, trivial, trivial, trivial, trivial⟩, ⟨trivial, lG⟩,
        ⟨P2, trivial, trivial, trivial, trivial, trivial, trivial, trivial, trivial⟩, U.eq_t.mpr rfl, U.eq_t.mpr rfl, w1, ⟨d, d'⟩, U.eq_f.mpr (by simp only [Int.ofNat_eq_natCast]; omega), w2, .inl rfl⟩
  · exact hh.elim
end Go.RX.Span

