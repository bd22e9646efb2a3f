/- Subtract of the program: the walk. -/
import Derived.Test.YtoncmmlgpecklaaPIg
import Derived.Test.YtoncmmlgpecklaaPIb
import Derived.Test.YtoncmmlgpecklaaPIe
set_option linter.unusedVariables false
set_option linter.unusedSimpArgs false
set_option maxRecDepth 100000
namespace Go.RX.Span
open Go Go.RX
attribute [local irreducible] sx conB

set_option maxRecDepth 100000 in
theorem t_Subtract (a b c x y z : Int) : conB Go.Proofs.Try.prog (conOf ku) (loopsOf l52) 10 23 [.agg [.lit (.int .i64 a), .lit (.int .i64 b), .lit (.int .i64 c)], .agg [.lit (.int .i64 x), .lit (.int .i64 y), .lit (.int .i64 z)]] =
    T.ask (I64 a ∧ I64 b ∧ I64 c ∧ I64 x ∧ I64 y ∧ I64 z) (.br (U.ne (lk ckd a b c x y z) (0 : Int)) (.ret (.tup [.lit (.slice none (nat_lit 0) (nat_lit 0)), .lit (.int .i64 (lk ckd a b
      c x y z))])) (.ask (a ≤ b → c ≠ (0 : Int) ∧ (-9223372036854775807 : Int) ≤ c ∧ b - a < (9223372036854775807 : Int) ∧ I64 a ∧ I64 b ∧ I64 c) (.ask (lk ofB a b c < (0 : Int) → lk ofC
      a b c ≠ (0 : Int) → I64 (lk ofC a b c - (1 : Int)) ∧ I64 (lk ofB a b c * (lk ofC a b c - (1 : Int))) ∧ I64 (lk ofF a b c + lk ofB a b c * (lk ofC a b c - (1 : Int))) ∧ I64 (-lk ofB
      a b c)) (.ask (x ≤ y → z ≠ (0 : Int) ∧ (-9223372036854775807 : Int) ≤ z ∧ y - x < (9223372036854775807 : Int) ∧ I64 x ∧ I64 y ∧ I64 z) (.ask (lk ofB x y z < (0 : Int) → lk ofC x y z
      ≠ (0 : Int) → I64 (lk ofC x y z - (1 : Int)) ∧ I64 (lk ofB x y z * (lk ofC x y z - (1 : Int))) ∧ I64 (lk ofF x y z + lk ofB x y z * (lk ofC x y z - (1 : Int))) ∧ I64 (-lk ofB x y
      z)) (.ask (Ser (lk uF (lk ofF a b c) (lk ofB a b c) (lk ofC a b c)) (lk uB (lk ofF a b c) (lk ofB a b c) (lk ofC a b c)) (lk ofC a b c) ∧ Ser (lk uF (lk ofF x y z) (lk ofB x y z)
      (lk ofC x y z)) (lk uB (lk ofF x y z) (lk ofB x y z) (lk ofC x y z)) (lk ofC x y z)) (.br (U.eq (lk cmCnt (lk uF (lk ofF a b c) (lk ofB a b c) (lk ofC a b c)) (lk uB (lk ofF a b c)
      (lk ofB a b c) (lk ofC a b c)) (lk ofC a b c) (lk uF (lk ofF x y z) (lk ofB x y z) (lk ofC x y z)) (lk uB (lk ofF x y z) (lk ofB x y z) (lk ofC x y z)) (lk ofC x y z)) (0 : Int))
      (.br (U.gt (lk ofC a b c) (0 : Int)) (.ask (c < (0 : Int) → lk ofC a b c ≠ (0 : Int) → I64 (lk ofC a b c - (1 : Int)) ∧ I64 (lk uB (lk ofF a b c) (lk ofB a b c) (lk ofC a b c) * (lk
      ofC a b c - (1 : Int))) ∧ I64 (lk uF (lk ofF a b c) (lk ofB a b c) (lk ofC a b c) + lk uB (lk ofF a b c) (lk ofB a b c) (lk ofC a b c) * (lk ofC a b c - (1 : Int))) ∧ I64 (-lk uB
      (lk ofF a b c) (lk ofB a b c) (lk ofC a b c))) (.ask ((0 : Int) < lk ofC a b c → I64 (lk ofC a b c - (1 : Int)) ∧ I64 (lk kB (lk uF (lk ofF a b c) (lk ofB a b c) (lk ofC a b c)) (lk
      uB (lk ofF a b c) (lk ofB a b c) (lk ofC a b c)) (lk ofC a b c) c * (lk ofC a b c - (1 : Int))) ∧ I64 (lk kF (lk uF (lk ofF a b c) (lk ofB a b c) (lk ofC a b c)) (lk uB (lk ofF a b
      c) (lk ofB a b c) (lk ofC a b c)) (lk ofC a b c) c + lk kB (lk uF (lk ofF a b c) (lk ofB a b c) (lk ofC a b c)) (lk uB (lk ofF a b c) (lk ofB a b c) (lk ofC a b c)) (lk ofC a b c) c
      * (lk ofC a b c - (1 : Int)))) (.ask ((1 : Nat) * nat_lit 24 ≤ nat_lit 140737488351232) (.ret (.tup [.row [.int .i64, .int .i64, .int .i64] (nat_lit 1) fun x => (lk nLow (lk kF (lk
      uF (lk ofF a b c) (lk ofB a b c) (lk ofC a b c)) (lk uB (lk ofF a b c) (lk ofB a b c) (lk ofC a b c)) (lk ofC a b c) c) (lk kB (lk uF (lk ofF a b c) (lk ofB a b c) (lk ofC a b c))
      (lk uB (lk ofF a b c) (lk ofB a b c) (lk ofC a b c)) (lk ofC a b c) c) (lk ofC a b c), lk nHigh (lk kF (lk uF (lk ofF a b c) (lk ofB a b c) (lk ofC a b c)) (lk uB (lk ofF a b c) (lk
      ofB a b c) (lk ofC a b c)) (lk ofC a b c) c) (lk kB (lk uF (lk ofF a b c) (lk ofB a b c) (lk ofC a b c)) (lk uB (lk ofF a b c) (lk ofB a b c) (lk ofC a b c)) (lk ofC a b c) c) (lk
      ofC a b c), lk nStr (lk kF (lk uF (lk ofF a b c) (lk ofB a b c) (lk ofC a b c)) (lk uB (lk ofF a b c) (lk ofB a b c) (lk ofC a b c)) (lk ofC a b c) c) (lk kB (lk uF (lk ofF a b c)
      (lk ofB a b c) (lk ofC a b c)) (lk uB (lk ofF a b c) (lk ofB a b c) (lk ofC a b c)) (lk ofC a b c) c) (lk ofC a b c), PUnit.unit), .lit (.int .i64 0)]))))) (.ret (.tup [.lit (.slice
      none (nat_lit 0) (nat_lit 0)), .lit (.int .i64 0)]))) (.ask (lk uB (lk ofF a b c) (lk ofB a b c) (lk ofC a b c) ≠ (0 : Int)) (.br (U.gt (U.quo .i64 (U.sub .i64 (lk cmFst (lk uF (lk
      ofF a b c) (lk ofB a b c) (lk ofC a b c)) (lk uB (lk ofF a b c) (lk ofB a b c) (lk ofC a b c)) (lk ofC a b c) (lk uF (lk ofF x y z) (lk ofB x y z) (lk ofC x y z)) (lk uB (lk ofF x y
      z) (lk ofB x y z) (lk ofC x y z)) (lk ofC x y z)) (lk uF (lk ofF a b c) (lk ofB a b c) (lk ofC a b c))) (lk uB (lk ofF a b c) (lk ofB a b c) (lk ofC a b c))) (0 : Int)) (.ask (c <
      (0 : Int) → U.quo .i64 (U.sub .i64 (lk cmFst (lk uF (lk ofF a b c) (lk ofB a b c) (lk ofC a b c)) (lk uB (lk ofF a b c) (lk ofB a b c) (lk ofC a b c)) (lk ofC a b c) (lk uF (lk ofF
      x y z) (lk ofB x y z) (lk ofC x y z)) (lk uB (lk ofF x y z) (lk ofB x y z) (lk ofC x y z)) (lk ofC x y z)) (lk uF (lk ofF a b c) (lk ofB a b c) (lk ofC a b c))) (lk uB (lk ofF a b
      c) (lk ofB a b c) (lk ofC a b c)) ≠ (0 : Int) → I64 (U.quo .i64 (U.sub .i64 (lk cmFst (lk uF (lk ofF a b c) (lk ofB a b c) (lk ofC a b c)) (lk uB (lk ofF a b c) (lk ofB a b c) (lk
      ofC a b c)) (lk ofC a b c) (lk uF (lk ofF x y z) (lk ofB x y z) (lk ofC x y z)) (lk uB (lk ofF x y z) (lk ofB x y z) (lk ofC x y z)) (lk ofC x y z)) (lk uF (lk ofF a b c) (lk ofB a
      b c) (lk ofC a b c))) (lk uB (lk ofF a b c) (lk ofB a b c) (lk ofC a b c)) - (1 : Int)) ∧ I64 (lk uB (lk ofF a b c) (lk ofB a b c) (lk ofC a b c) * (U.quo .i64 (U.sub .i64 (lk cmFst
      (lk uF (lk ofF a b c) (lk ofB a b c) (lk ofC a b c)) (lk uB (lk ofF a b c) (lk ofB a b c) (lk ofC a b c)) (lk ofC a b c) (lk uF (lk ofF x y z) (lk ofB x y z) (lk ofC x y z)) (lk uB
      (lk ofF x y z) (lk ofB x y z) (lk ofC x y z)) (lk ofC x y z)) (lk uF (lk ofF a b c) (lk ofB a b c) (lk ofC a b c))) (lk uB (lk ofF a b c) (lk ofB a b c) (lk ofC a b c)) - (1 :
      Int))) ∧ I64 (lk uF (lk ofF a b c) (lk ofB a b c) (lk ofC a b c) + lk uB (lk ofF a b c) (lk ofB a b c) (lk ofC a b c) * (U.quo .i64 (U.sub .i64 (lk cmFst (lk uF (lk ofF a b c) (lk
      ofB a b c) (lk ofC a b c)) (lk uB (lk ofF a b c) (lk ofB a b c) (lk ofC a b c)) (lk ofC a b c) (lk uF (lk ofF x y z) (lk ofB x y z) (lk ofC x y z)) (lk uB (lk ofF x y z) (lk ofB x y
      z) (lk ofC x y z)) (lk ofC x y z)) (lk uF (lk ofF a b c) (lk ofB a b c) (lk ofC a b c))) (lk uB (lk ofF a b c) (lk ofB a b c) (lk ofC a b c)) - (1 : Int))) ∧ I64 (-lk uB (lk ofF a b
      c) (lk ofB a b c) (lk ofC a b c))) (.ask ((0 : Int) < U.quo .i64 (U.sub .i64 (lk cmFst (lk uF (lk ofF a b c) (lk ofB a b c) (lk ofC a b c)) (lk uB (lk ofF a b c) (lk ofB a b c) (lk
      ofC a b c)) (lk ofC a b c) (lk uF (lk ofF x y z) (lk ofB x y z) (lk ofC x y z)) (lk uB (lk ofF x y z) (lk ofB x y z) (lk ofC x y z)) (lk ofC x y z)) (lk uF (lk ofF a b c) (lk ofB a
      b c) (lk ofC a b c))) (lk uB (lk ofF a b c) (lk ofB a b c) (lk ofC a b c)) → I64 (U.quo .i64 (U.sub .i64 (lk cmFst (lk uF (lk ofF a b c) (lk ofB a b c) (lk ofC a b c)) (lk uB (lk
      ofF a b c) (lk ofB a b c) (lk ofC a b c)) (lk ofC a b c) (lk uF (lk ofF x y z) (lk ofB x y z) (lk ofC x y z)) (lk uB (lk ofF x y z) (lk ofB x y z) (lk ofC x y z)) (lk ofC x y z))
      (lk uF (lk ofF a b c) (lk ofB a b c) (lk ofC a b c))) (lk uB (lk ofF a b c) (lk ofB a b c) (lk ofC a b c)) - (1 : Int)) ∧ I64 (lk kB (lk uF (lk ofF a b c) (lk ofB a b c) (lk ofC a b
      c)) (lk uB (lk ofF a b c) (lk ofB a b c) (lk ofC a b c)) (U.quo .i64 (U.sub .i64 (lk cmFst (lk uF (lk ofF a b c) (lk ofB a b c) (lk ofC a b c)) (lk uB (lk ofF a b c) (lk ofB a b c)
      (lk ofC a b c)) (lk ofC a b c) (lk uF (lk ofF x y z) (lk ofB x y z) (lk ofC x y z)) (lk uB (lk ofF x y z) (lk ofB x y z) (lk ofC x y z)) (lk ofC x y z)) (lk uF (lk ofF a b c) (lk
      ofB a b c) (lk ofC a b c))) (lk uB (lk ofF a b c) (lk ofB a b c) (lk ofC a b c))) c * (U.quo .i64 (U.sub .i64 (lk cmFst (lk uF (lk ofF a b c) (lk ofB a b c) (lk ofC a b c)) (lk uB
      (lk ofF a b c) (lk ofB a b c) (lk ofC a b c)) (lk ofC a b c) (lk uF (lk ofF x y z) (lk ofB x y z) (lk ofC x y z)) (lk uB (lk ofF x y z) (lk ofB x y z) (lk ofC x y z)) (lk ofC x y
      z)) (lk uF (lk ofF a b c) (lk ofB a b c) (lk ofC a b c))) (lk uB (lk ofF a b c) (lk ofB a b c) (lk ofC a b c)) - (1 : Int))) ∧ I64 (lk kF (lk uF (lk ofF a b c) (lk ofB a b c) (lk
      ofC a b c)) (lk uB (lk ofF a b c) (lk ofB a b c) (lk ofC a b c)) (U.quo .i64 (U.sub .i64 (lk cmFst (lk uF (lk ofF a b c) (lk ofB a b c) (lk ofC a b c)) (lk uB (lk ofF a b c) (lk ofB
      a b c) (lk ofC a b c)) (lk ofC a b c) (lk uF (lk ofF x y z) (lk ofB x y z) (lk ofC x y z)) (lk uB (lk ofF x y z) (lk ofB x y z) (lk ofC x y z)) (lk ofC x y z)) (lk uF (lk ofF a b c)
      (lk ofB a b c) (lk ofC a b c))) (lk uB (lk ofF a b c) (lk ofB a b c) (lk ofC a b c))) c + lk kB (lk uF (lk ofF a b c) (lk ofB a b c) (lk ofC a b c)) (lk uB (lk ofF a b c) (lk ofB a
      b c) (lk ofC a b c)) (U.quo .i64 (U.sub .i64 (lk cmFst (lk uF (lk ofF a b c) (lk ofB a b c) (lk ofC a b c)) (lk uB (lk ofF a b c) (lk ofB a b c) (lk ofC a b c)) (lk ofC a b c) (lk
      uF (lk ofF x y z) (lk ofB x y z) (lk ofC x y z)) (lk uB (lk ofF x y z) (lk ofB x y z) (lk ofC x y z)) (lk ofC x y z)) (lk uF (lk ofF a b c) (lk ofB a b c) (lk ofC a b c))) (lk uB
      (lk ofF a b c) (lk ofB a b c) (lk ofC a b c))) c * (U.quo .i64 (U.sub .i64 (lk cmFst (lk uF (lk ofF a b c) (lk ofB a b c) (lk ofC a b c)) (lk uB (lk ofF a b c) (lk ofB a b c) (lk
      ofC a b c)) (lk ofC a b c) (lk uF (lk ofF x y z) (lk ofB x y z) (lk ofC x y z)) (lk uB (lk ofF x y z) (lk ofB x y z) (lk ofC x y z)) (lk ofC x y z)) (lk uF (lk ofF a b c) (lk ofB a
      b c) (lk ofC a b c))) (lk uB (lk ofF a b c) (lk ofB a b c) (lk ofC a b c)) - (1 : Int)))) (.ask ((1 : Nat) * nat_lit 24 ≤ nat_lit 140737488351232) (.ask (PreP (nat_lit 0) (lk uB (lk
      ofF a b c) (lk ofB a b c) (lk ofC a b c)) (lk cmFst (lk uF (lk ofF a b c) (lk ofB a b c) (lk ofC a b c)) (lk uB (lk ofF a b c) (lk ofB a b c) (lk ofC a b c)) (lk ofC a b c) (lk uF
      (lk ofF x y z) (lk ofB x y z) (lk ofC x y z)) (lk uB (lk ofF x y z) (lk ofB x y z) (lk ofC x y z)) (lk ofC x y z)) (lk cmBy (lk uF (lk ofF a b c) (lk ofB a b c) (lk ofC a b c)) (lk
      uB (lk ofF a b c) (lk ofB a b c) (lk ofC a b c)) (lk ofC a b c) (lk uF (lk ofF x y z) (lk ofB x y z) (lk ofC x y z)) (lk uB (lk ofF x y z) (lk ofB x y z) (lk ofC x y z)) (lk ofC x y
      z)) (lk cmCnt (lk uF (lk ofF a b c) (lk ofB a b c) (lk ofC a b c)) (lk uB (lk ofF a b c) (lk ofB a b c) (lk ofC a b c)) (lk ofC a b c) (lk uF (lk ofF x y z) (lk ofB x y z) (lk ofC x
      y z)) (lk uB (lk ofF x y z) (lk ofB x y z) (lk ofC x y z)) (lk ofC x y z)) false (1 : Nat) ∧ lk uB (lk ofF a b c) (lk ofB a b c) (lk ofC a b c) = lk uB (lk ofF a b c) (lk ofB a b c)
      (lk ofC a b c) ∧ (1 : Nat) = (1 : Nat)) (.ask (I64 (lk cmCnt (lk uF (lk ofF a b c) (lk ofB a b c) (lk ofC a b c)) (lk uB (lk ofF a b c) (lk ofB a b c) (lk ofC a b c)) (lk ofC a b c)
      (lk uF (lk ofF x y z) (lk ofB x y z) (lk ofC x y z)) (lk uB (lk ofF x y z) (lk ofB x y z) (lk ofC x y z)) (lk ofC x y z) - (1 : Int)) ∧ I64 (lk cmBy (lk uF (lk ofF a b c) (lk ofB a
      b c) (lk ofC a b c)) (lk uB (lk ofF a b c) (lk ofB a b c) (lk ofC a b c)) (lk ofC a b c) (lk uF (lk ofF x y z) (lk ofB x y z) (lk ofC x y z)) (lk uB (lk ofF x y z) (lk ofB x y z)
      (lk ofC x y z)) (lk ofC x y z) * (lk cmCnt (lk uF (lk ofF a b c) (lk ofB a b c) (lk ofC a b c)) (lk uB (lk ofF a b c) (lk ofB a b c) (lk ofC a b c)) (lk ofC a b c) (lk uF (lk ofF x
      y z) (lk ofB x y z) (lk ofC x y z)) (lk uB (lk ofF x y z) (lk ofB x y z) (lk ofC x y z)) (lk ofC x y z) - (1 : Int))) ∧ I64 (lk cmFst (lk uF (lk ofF a b c) (lk ofB a b c) (lk ofC a
      b c)) (lk uB (lk ofF a b c) (lk ofB a b c) (lk ofC a b c)) (lk ofC a b c) (lk uF (lk ofF x y z) (lk ofB x y z) (lk ofC x y z)) (lk uB (lk ofF x y z) (lk ofB x y z) (lk ofC x y z))
      (lk ofC x y z) + lk cmBy (lk uF (lk ofF a b c) (lk ofB a b c) (lk ofC a b c)) (lk uB (lk ofF a b c) (lk ofB a b c) (lk ofC a b c)) (lk ofC a b c) (lk uF (lk ofF x y z) (lk ofB x y
      z) (lk ofC x y z)) (lk uB (lk ofF x y z) (lk ofB x y z) (lk ofC x y z)) (lk ofC x y z) * (lk cmCnt (lk uF (lk ofF a b c) (lk ofB a b c) (lk ofC a b c)) (lk uB (lk ofF a b c) (lk ofB
      a b c) (lk ofC a b c)) (lk ofC a b c) (lk uF (lk ofF x y z) (lk ofB x y z) (lk ofC x y z)) (lk uB (lk ofF x y z) (lk ofB x y z) (lk ofC x y z)) (lk ofC x y z) - (1 : Int)))) (.ask
      (I64 (lk ofC a b c - (1 : Int)) ∧ I64 (lk uB (lk ofF a b c) (lk ofB a b c) (lk ofC a b c) * (lk ofC a b c - (1 : Int))) ∧ I64 (lk uF (lk ofF a b c) (lk ofB a b c) (lk ofC a b c) +
      lk uB (lk ofF a b c) (lk ofB a b c) (lk ofC a b c) * (lk ofC a b c - (1 : Int)))) (.ask (I64 (lk cmCnt (lk uF (lk ofF a b c) (lk ofB a b c) (lk ofC a b c)) (lk uB (lk ofF a b c) (lk
      ofB a b c) (lk ofC a b c)) (lk ofC a b c) (lk uF (lk ofF x y z) (lk ofB x y z) (lk ofC x y z)) (lk uB (lk ofF x y z) (lk ofB x y z) (lk ofC x y z)) (lk ofC x y z) - (1 : Int)) ∧ I64
      (lk cmBy (lk uF (lk ofF a b c) (lk ofB a b c) (lk ofC a b c)) (lk uB (lk ofF a b c) (lk ofB a b c) (lk ofC a b c)) (lk ofC a b c) (lk uF (lk ofF x y z) (lk ofB x y z) (lk ofC x y
      z)) (lk uB (lk ofF x y z) (lk ofB x y z) (lk ofC x y z)) (lk ofC x y z) * (lk cmCnt (lk uF (lk ofF a b c) (lk ofB a b c) (lk ofC a b c)) (lk uB (lk ofF a b c) (lk ofB a b c) (lk ofC
      a b c)) (lk ofC a b c) (lk uF (lk ofF x y z) (lk ofB x y z) (lk ofC x y z)) (lk uB (lk ofF x y z) (lk ofB x y z) (lk ofC x y z)) (lk ofC x y z) - (1 : Int))) ∧ I64 (lk cmFst (lk uF
      (lk ofF a b c) (lk ofB a b c) (lk ofC a b c)) (lk uB (lk ofF a b c) (lk ofB a b c) (lk ofC a b c)) (lk ofC a b c) (lk uF (lk ofF x y z) (lk ofB x y z) (lk ofC x y z)) (lk uB (lk ofF
      x y z) (lk ofB x y z) (lk ofC x y z)) (lk ofC x y z) + lk cmBy (lk uF (lk ofF a b c) (lk ofB a b c) (lk ofC a b c)) (lk uB (lk ofF a b c) (lk ofB a b c) (lk ofC a b c)) (lk ofC a b
      c) (lk uF (lk ofF x y z) (lk ofB x y z) (lk ofC x y z)) (lk uB (lk ofF x y z) (lk ofB x y z) (lk ofC x y z)) (lk ofC x y z) * (lk cmCnt (lk uF (lk ofF a b c) (lk ofB a b c) (lk ofC
      a b c)) (lk uB (lk ofF a b c) (lk ofB a b c) (lk ofC a b c)) (lk ofC a b c) (lk uF (lk ofF x y z) (lk ofB x y z) (lk ofC x y z)) (lk uB (lk ofF x y z) (lk ofB x y z) (lk ofC x y z))
      (lk ofC x y z) - (1 : Int)))) (.ask (lk uB (lk ofF a b c) (lk ofB a b c) (lk ofC a b c) ≠ (0 : Int)) (.br (U.gt (U.quo .i64 (U.sub .i64 (lk sLast (lk uF (lk ofF a b c) (lk ofB a b
      c) (lk ofC a b c)) (lk uB (lk ofF a b c) (lk ofB a b c) (lk ofC a b c)) (lk ofC a b c)) (lk sLast (lk cmFst (lk uF (lk ofF a b c) (lk ofB a b c) (lk ofC a b c)) (lk uB (lk ofF a b
      c) (lk ofB a b c) (lk ofC a b c)) (lk ofC a b c) (lk uF (lk ofF x y z) (lk ofB x y z) (lk ofC x y z)) (lk uB (lk ofF x y z) (lk ofB x y z) (lk ofC x y z)) (lk ofC x y z)) (lk cmBy
      (lk uF (lk ofF a b c) (lk ofB a b c) (lk ofC a b c)) (lk uB (lk ofF a b c) (lk ofB a b c) (lk ofC a b c)) (lk ofC a b c) (lk uF (lk ofF x y z) (lk ofB x y z) (lk ofC x y z)) (lk uB
      (lk ofF x y z) (lk ofB x y z) (lk ofC x y z)) (lk ofC x y z)) (lk cmCnt (lk uF (lk ofF a b c) (lk ofB a b c) (lk ofC a b c)) (lk uB (lk ofF a b c) (lk ofB a b c) (lk ofC a b c)) (lk
      ofC a b c) (lk uF (lk ofF x y z) (lk ofB x y z) (lk ofC x y z)) (lk uB (lk ofF x y z) (lk ofB x y z) (lk ofC x y z)) (lk ofC x y z)))) (lk uB (lk ofF a b c) (lk ofB a b c) (lk ofC a
      b c))) (0 : Int)) (.br (U.le (Int.ofNat (nat_lit 1 + lk pM (lk uB (lk ofF a b c) (lk ofB a b c) (lk ofC a b c)) (lk cmBy (lk uF (lk ofF a b c) (lk ofB a b c) (lk ofC a b c)) (lk uB
      (lk ofF a b c) (lk ofB a b c) (lk ofC a b c)) (lk ofC a b c) (lk uF (lk ofF x y z) (lk ofB x y z) (lk ofC x y z)) (lk uB (lk ofF x y z) (lk ofB x y z) (lk ofC x y z)) (lk ofC x y
      z)) (lk cmCnt (lk uF (lk ofF a b c) (lk ofB a b c) (lk ofC a b c)) (lk uB (lk ofF a b c) (lk ofB a b c) (lk ofC a b c)) (lk ofC a b c) (lk uF (lk ofF x y z) (lk ofB x y z) (lk ofC x
      y z)) (lk uB (lk ofF x y z) (lk ofB x y z) (lk ofC x y z)) (lk ofC x y z)) (nat_lit 1))) (1000 : Int)) (.ask (c < (0 : Int) → U.quo .i64 (U.sub .i64 (lk sLast (lk uF (lk ofF a b c)
      (lk ofB a b c) (lk ofC a b c)) (lk uB (lk ofF a b c) (lk ofB a b c) (lk ofC a b c)) (lk ofC a b c)) (lk sLast (lk cmFst (lk uF (lk ofF a b c) (lk ofB a b c) (lk ofC a b c)) (lk uB
      (lk ofF a b c) (lk ofB a b c) (lk ofC a b c)) (lk ofC a b c) (lk uF (lk ofF x y z) (lk ofB x y z) (lk ofC x y z)) (lk uB (lk ofF x y z) (lk ofB x y z) (lk ofC x y z)) (lk ofC x y
      z)) (lk cmBy (lk uF (lk ofF a b c) (lk ofB a b c) (lk ofC a b c)) (lk uB (lk ofF a b c) (lk ofB a b c) (lk ofC a b c)) (lk ofC a b c) (lk uF (lk ofF x y z) (lk ofB x y z) (lk ofC x
      y z)) (lk uB (lk ofF x y z) (lk ofB x y z) (lk ofC x y z)) (lk ofC x y z)) (lk cmCnt (lk uF (lk ofF a b c) (lk ofB a b c) (lk ofC a b c)) (lk uB (lk ofF a b c) (lk ofB a b c) (lk
      ofC a b c)) (lk ofC a b c) (lk uF (lk ofF x y z) (lk ofB x y z) (lk ofC x y z)) (lk uB (lk ofF x y z) (lk ofB x y z) (lk ofC x y z)) (lk ofC x y z)))) (lk uB (lk ofF a b c) (lk ofB
      a b c) (lk ofC a b c)) ≠ (0 : Int) → I64 (U.quo .i64 (U.sub .i64 (lk sLast (lk uF (lk ofF a b c) (lk ofB a b c) (lk ofC a b c)) (lk uB (lk ofF a b c) (lk ofB a b c) (lk ofC a b c))
      (lk ofC a b c)) (lk sLast (lk cmFst (lk uF (lk ofF a b c) (lk ofB a b c) (lk ofC a b c)) (lk uB (lk ofF a b c) (lk ofB a b c) (lk ofC a b c)) (lk ofC a b c) (lk uF (lk ofF x y z)
      (lk ofB x y z) (lk ofC x y z)) (lk uB (lk ofF x y z) (lk ofB x y z) (lk ofC x y z)) (lk ofC x y z)) (lk cmBy (lk uF (lk ofF a b c) (lk ofB a b c) (lk ofC a b c)) (lk uB (lk ofF a b
      c) (lk ofB a b c) (lk ofC a b c)) (lk ofC a b c) (lk uF (lk ofF x y z) (lk ofB x y z) (lk ofC x y z)) (lk uB (lk ofF x y z) (lk ofB x y z) (lk ofC x y z)) (lk ofC x y z)) (lk cmCnt
      (lk uF (lk ofF a b c) (lk ofB a b c) (lk ofC a b c)) (lk uB (lk ofF a b c) (lk ofB a b c) (lk ofC a b c)) (lk ofC a b c) (lk uF (lk ofF x y z) (lk ofB x y z) (lk ofC x y z)) (lk uB
      (lk ofF x y z) (lk ofB x y z) (lk ofC x y z)) (lk ofC x y z)))) (lk uB (lk ofF a b c) (lk ofB a b c) (lk ofC a b c)) - (1 : Int)) ∧ I64 (lk uB (lk ofF a b c) (lk ofB a b c) (lk ofC
      a b c) * (U.quo .i64 (U.sub .i64 (lk sLast (lk uF (lk ofF a b c) (lk ofB a b c) (lk ofC a b c)) (lk uB (lk ofF a b c) (lk ofB a b c) (lk ofC a b c)) (lk ofC a b c)) (lk sLast (lk
      cmFst (lk uF (lk ofF a b c) (lk ofB a b c) (lk ofC a b c)) (lk uB (lk ofF a b c) (lk ofB a b c) (lk ofC a b c)) (lk ofC a b c) (lk uF (lk ofF x y z) (lk ofB x y z) (lk ofC x y z))
      (lk uB (lk ofF x y z) (lk ofB x y z) (lk ofC x y z)) (lk ofC x y z)) (lk cmBy (lk uF (lk ofF a b c) (lk ofB a b c) (lk ofC a b c)) (lk uB (lk ofF a b c) (lk ofB a b c) (lk ofC a b
      c)) (lk ofC a b c) (lk uF (lk ofF x y z) (lk ofB x y z) (lk ofC x y z)) (lk uB (lk ofF x y z) (lk ofB x y z) (lk ofC x y z)) (lk ofC x y z)) (lk cmCnt (lk uF (lk ofF a b c) (lk ofB
      a b c) (lk ofC a b c)) (lk uB (lk ofF a b c) (lk ofB a b c) (lk ofC a b c)) (lk ofC a b c) (lk uF (lk ofF x y z) (lk ofB x y z) (lk ofC x y z)) (lk uB (lk ofF x y z) (lk ofB x y z)
      (lk ofC x y z)) (lk ofC x y z)))) (lk uB (lk ofF a b c) (lk ofB a b c) (lk ofC a b c)) - (1 : Int))) ∧ I64 (U.add .i64 (lk sLast (lk cmFst (lk uF (lk ofF a b c) (lk ofB a b c) (lk
      ofC a b c)) (lk uB (lk ofF a b c) (lk ofB a b c) (lk ofC a b c)) (lk ofC a b c) (lk uF (lk ofF x y z) (lk ofB x y z) (lk ofC x y z)) (lk uB (lk ofF x y z) (lk ofB x y z) (lk ofC x y
      z)) (lk ofC x y z)) (lk cmBy (lk uF (lk ofF a b c) (lk ofB a b c) (lk ofC a b c)) (lk uB (lk ofF a b c) (lk ofB a b c) (lk ofC a b c)) (lk ofC a b c) (lk uF (lk ofF x y z) (lk ofB x
      y z) (lk ofC x y z)) (lk uB (lk ofF x y z) (lk ofB x y z) (lk ofC x y z)) (lk ofC x y z)) (lk cmCnt (lk uF (lk ofF a b c) (lk ofB a b c) (lk ofC a b c)) (lk uB (lk ofF a b c) (lk
      ofB a b c) (lk ofC a b c)) (lk ofC a b c) (lk uF (lk ofF x y z) (lk ofB x y z) (lk ofC x y z)) (lk uB (lk ofF x y z) (lk ofB x y z) (lk ofC x y z)) (lk ofC x y z))) (lk uB (lk ofF a
      b c) (lk ofB a b c) (lk ofC a b c)) + lk uB (lk ofF a b c) (lk ofB a b c) (lk ofC a b c) * (U.quo .i64 (U.sub .i64 (lk sLast (lk uF (lk ofF a b c) (lk ofB a b c) (lk ofC a b c)) (lk
      uB (lk ofF a b c) (lk ofB a b c) (lk ofC a b c)) (lk ofC a b c)) (lk sLast (lk cmFst (lk uF (lk ofF a b c) (lk ofB a b c) (lk ofC a b c)) (lk uB (lk ofF a b c) (lk ofB a b c) (lk
      ofC a b c)) (lk ofC a b c) (lk uF (lk ofF x y z) (lk ofB x y z) (lk ofC x y z)) (lk uB (lk ofF x y z) (lk ofB x y z) (lk ofC x y z)) (lk ofC x y z)) (lk cmBy (lk uF (lk ofF a b c)
      (lk ofB a b c) (lk ofC a b c)) (lk uB (lk ofF a b c) (lk ofB a b c) (lk ofC a b c)) (lk ofC a b c) (lk uF (lk ofF x y z) (lk ofB x y z) (lk ofC x y z)) (lk uB (lk ofF x y z) (lk ofB
      x y z) (lk ofC x y z)) (lk ofC x y z)) (lk cmCnt (lk uF (lk ofF a b c) (lk ofB a b c) (lk ofC a b c)) (lk uB (lk ofF a b c) (lk ofB a b c) (lk ofC a b c)) (lk ofC a b c) (lk uF (lk
      ofF x y z) (lk ofB x y z) (lk ofC x y z)) (lk uB (lk ofF x y z) (lk ofB x y z) (lk ofC x y z)) (lk ofC x y z)))) (lk uB (lk ofF a b c) (lk ofB a b c) (lk ofC a b c)) - (1 : Int))) ∧
      I64 (-lk uB (lk ofF a b c) (lk ofB a b c) (lk ofC a b c))) (.ask ((0 : Int) < U.quo .i64 (U.sub .i64 (lk sLast (lk uF (lk ofF a b c) (lk ofB a b c) (lk ofC a b c)) (lk uB (lk ofF a
      b c) (lk ofB a b c) (lk ofC a b c)) (lk ofC a b c)) (lk sLast (lk cmFst (lk uF (lk ofF a b c) (lk ofB a b c) (lk ofC a b c)) (lk uB (lk ofF a b c) (lk ofB a b c) (lk ofC a b c)) (lk
      ofC a b c) (lk uF (lk ofF x y z) (lk ofB x y z) (lk ofC x y z)) (lk uB (lk ofF x y z) (lk ofB x y z) (lk ofC x y z)) (lk ofC x y z)) (lk cmBy (lk uF (lk ofF a b c) (lk ofB a b c)
      (lk ofC a b c)) (lk uB (lk ofF a b c) (lk ofB a b c) (lk ofC a b c)) (lk ofC a b c) (lk uF (lk ofF x y z) (lk ofB x y z) (lk ofC x y z)) (lk uB (lk ofF x y z) (lk ofB x y z) (lk ofC
      x y z)) (lk ofC x y z)) (lk cmCnt (lk uF (lk ofF a b c) (lk ofB a b c) (lk ofC a b c)) (lk uB (lk ofF a b c) (lk ofB a b c) (lk ofC a b c)) (lk ofC a b c) (lk uF (lk ofF x y z) (lk
      ofB x y z) (lk ofC x y z)) (lk uB (lk ofF x y z) (lk ofB x y z) (lk ofC x y z)) (lk ofC x y z)))) (lk uB (lk ofF a b c) (lk ofB a b c) (lk ofC a b c)) → I64 (U.quo .i64 (U.sub .i64
      (lk sLast (lk uF (lk ofF a b c) (lk ofB a b c) (lk ofC a b c)) (lk uB (lk ofF a b c) (lk ofB a b c) (lk ofC a b c)) (lk ofC a b c)) (lk sLast (lk cmFst (lk uF (lk ofF a b c) (lk ofB
      a b c) (lk ofC a b c)) (lk uB (lk ofF a b c) (lk ofB a b c) (lk ofC a b c)) (lk ofC a b c) (lk uF (lk ofF x y z) (lk ofB x y z) (lk ofC x y z)) (lk uB (lk ofF x y z) (lk ofB x y z)
      (lk ofC x y z)) (lk ofC x y z)) (lk cmBy (lk uF (lk ofF a b c) (lk ofB a b c) (lk ofC a b c)) (lk uB (lk ofF a b c) (lk ofB a b c) (lk ofC a b c)) (lk ofC a b c) (lk uF (lk ofF x y
      z) (lk ofB x y z) (lk ofC x y z)) (lk uB (lk ofF x y z) (lk ofB x y z) (lk ofC x y z)) (lk ofC x y z)) (lk cmCnt (lk uF (lk ofF a b c) (lk ofB a b c) (lk ofC a b c)) (lk uB (lk ofF
      a b c) (lk ofB a b c) (lk ofC a b c)) (lk ofC a b c) (lk uF (lk ofF x y z) (lk ofB x y z) (lk ofC x y z)) (lk uB (lk ofF x y z) (lk ofB x y z) (lk ofC x y z)) (lk ofC x y z)))) (lk
      uB (lk ofF a b c) (lk ofB a b c) (lk ofC a b c)) - (1 : Int)) ∧ I64 (lk kB (U.add .i64 (lk sLast (lk cmFst (lk uF (lk ofF a b c) (lk ofB a b c) (lk ofC a b c)) (lk uB (lk ofF a b c)
      (lk ofB a b c) (lk ofC a b c)) (lk ofC a b c) (lk uF (lk ofF x y z) (lk ofB x y z) (lk ofC x y z)) (lk uB (lk ofF x y z) (lk ofB x y z) (lk ofC x y z)) (lk ofC x y z)) (lk cmBy (lk
      uF (lk ofF a b c) (lk ofB a b c) (lk ofC a b c)) (lk uB (lk ofF a b c) (lk ofB a b c) (lk ofC a b c)) (lk ofC a b c) (lk uF (lk ofF x y z) (lk ofB x y z) (lk ofC x y z)) (lk uB (lk
      ofF x y z) (lk ofB x y z) (lk ofC x y z)) (lk ofC x y z)) (lk cmCnt (lk uF (lk ofF a b c) (lk ofB a b c) (lk ofC a b c)) (lk uB (lk ofF a b c) (lk ofB a b c) (lk ofC a b c)) (lk ofC
      a b c) (lk uF (lk ofF x y z) (lk ofB x y z) (lk ofC x y z)) (lk uB (lk ofF x y z) (lk ofB x y z) (lk ofC x y z)) (lk ofC x y z))) (lk uB (lk ofF a b c) (lk ofB a b c) (lk ofC a b
      c))) (lk uB (lk ofF a b c) (lk ofB a b c) (lk ofC a b c)) (U.quo .i64 (U.sub .i64 (lk sLast (lk uF (lk ofF a b c) (lk ofB a b c) (lk ofC a b c)) (lk uB (lk ofF a b c) (lk ofB a b c)
      (lk ofC a b c)) (lk ofC a b c)) (lk sLast (lk cmFst (lk uF (lk ofF a b c) (lk ofB a b c) (lk ofC a b c)) (lk uB (lk ofF a b c) (lk ofB a b c) (lk ofC a b c)) (lk ofC a b c) (lk uF
      (lk ofF x y z) (lk ofB x y z) (lk ofC x y z)) (lk uB (lk ofF x y z) (lk ofB x y z) (lk ofC x y z)) (lk ofC x y z)) (lk cmBy (lk uF (lk ofF a b c) (lk ofB a b c) (lk ofC a b c)) (lk
      uB (lk ofF a b c) (lk ofB a b c) (lk ofC a b c)) (lk ofC a b c) (lk uF (lk ofF x y z) (lk ofB x y z) (lk ofC x y z)) (lk uB (lk ofF x y z) (lk ofB x y z) (lk ofC x y z)) (lk ofC x y
      z)) (lk cmCnt (lk uF (lk ofF a b c) (lk ofB a b c) (lk ofC a b c)) (lk uB (lk ofF a b c) (lk ofB a b c) (lk ofC a b c)) (lk ofC a b c) (lk uF (lk ofF x y z) (lk ofB x y z) (lk ofC x
      y z)) (lk uB (lk ofF x y z) (lk ofB x y z) (lk ofC x y z)) (lk ofC x y z)))) (lk uB (lk ofF a b c) (lk ofB a b c) (lk ofC a b c))) c * (U.quo .i64 (U.sub .i64 (lk sLast (lk uF (lk
      ofF a b c) (lk ofB a b c) (lk ofC a b c)) (lk uB (lk ofF a b c) (lk ofB a b c) (lk ofC a b c)) (lk ofC a b c)) (lk sLast (lk cmFst (lk uF (lk ofF a b c) (lk ofB a b c) (lk ofC a b
      c)) (lk uB (lk ofF a b c) (lk ofB a b c) (lk ofC a b c)) (lk ofC a b c) (lk uF (lk ofF x y z) (lk ofB x y z) (lk ofC x y z)) (lk uB (lk ofF x y z) (lk ofB x y z) (lk ofC x y z)) (lk
      ofC x y z)) (lk cmBy (lk uF (lk ofF a b c) (lk ofB a b c) (lk ofC a b c)) (lk uB (lk ofF a b c) (lk ofB a b c) (lk ofC a b c)) (lk ofC a b c) (lk uF (lk ofF x y z) (lk ofB x y z)
      (lk ofC x y z)) (lk uB (lk ofF x y z) (lk ofB x y z) (lk ofC x y z)) (lk ofC x y z)) (lk cmCnt (lk uF (lk ofF a b c) (lk ofB a b c) (lk ofC a b c)) (lk uB (lk ofF a b c) (lk ofB a b
      c) (lk ofC a b c)) (lk ofC a b c) (lk uF (lk ofF x y z) (lk ofB x y z) (lk ofC x y z)) (lk uB (lk ofF x y z) (lk ofB x y z) (lk ofC x y z)) (lk ofC x y z)))) (lk uB (lk ofF a b c)
      (lk ofB a b c) (lk ofC a b c)) - (1 : Int))) ∧ I64 (lk kF (U.add .i64 (lk sLast (lk cmFst (lk uF (lk ofF a b c) (lk ofB a b c) (lk ofC a b c)) (lk uB (lk ofF a b c) (lk ofB a b c)
      (lk ofC a b c)) (lk ofC a b c) (lk uF (lk ofF x y z) (lk ofB x y z) (lk ofC x y z)) (lk uB (lk ofF x y z) (lk ofB x y z) (lk ofC x y z)) (lk ofC x y z)) (lk cmBy (lk uF (lk ofF a b
      c) (lk ofB a b c) (lk ofC a b c)) (lk uB (lk ofF a b c) (lk ofB a b c) (lk ofC a b c)) (lk ofC a b c) (lk uF (lk ofF x y z) (lk ofB x y z) (lk ofC x y z)) (lk uB (lk ofF x y z) (lk
      ofB x y z) (lk ofC x y z)) (lk ofC x y z)) (lk cmCnt (lk uF (lk ofF a b c) (lk ofB a b c) (lk ofC a b c)) (lk uB (lk ofF a b c) (lk ofB a b c) (lk ofC a b c)) (lk ofC a b c) (lk uF
      (lk ofF x y z) (lk ofB x y z) (lk ofC x y z)) (lk uB (lk ofF x y z) (lk ofB x y z) (lk ofC x y z)) (lk ofC x y z))) (lk uB (lk ofF a b c) (lk ofB a b c) (lk ofC a b c))) (lk uB (lk
      ofF a b c) (lk ofB a b c) (lk ofC a b c)) (U.quo .i64 (U.sub .i64 (lk sLast (lk uF (lk ofF a b c) (lk ofB a b c) (lk ofC a b c)) (lk uB (lk ofF a b c) (lk ofB a b c) (lk ofC a b c))
      (lk ofC a b c)) (lk sLast (lk cmFst (lk uF (lk ofF a b c) (lk ofB a b c) (lk ofC a b c)) (lk uB (lk ofF a b c) (lk ofB a b c) (lk ofC a b c)) (lk ofC a b c) (lk uF (lk ofF x y z)
      (lk ofB x y z) (lk ofC x y z)) (lk uB (lk ofF x y z) (lk ofB x y z) (lk ofC x y z)) (lk ofC x y z)) (lk cmBy (lk uF (lk ofF a b c) (lk ofB a b c) (lk ofC a b c)) (lk uB (lk ofF a b
      c) (lk ofB a b c) (lk ofC a b c)) (lk ofC a b c) (lk uF (lk ofF x y z) (lk ofB x y z) (lk ofC x y z)) (lk uB (lk ofF x y z) (lk ofB x y z) (lk ofC x y z)) (lk ofC x y z)) (lk cmCnt
      (lk uF (lk ofF a b c) (lk ofB a b c) (lk ofC a b c)) (lk uB (lk ofF a b c) (lk ofB a b c) (lk ofC a b c)) (lk ofC a b c) (lk uF (lk ofF x y z) (lk ofB x y z) (lk ofC x y z)) (lk uB
      (lk ofF x y z) (lk ofB x y z) (lk ofC x y z)) (lk ofC x y z)))) (lk uB (lk ofF a b c) (lk ofB a b c) (lk ofC a b c))) c + lk kB (U.add .i64 (lk sLast (lk cmFst (lk uF (lk ofF a b c)
      (lk ofB a b c) (lk ofC a b c)) (lk uB (lk ofF a b c) (lk ofB a b c) (lk ofC a b c)) (lk ofC a b c) (lk uF (lk ofF x y z) (lk ofB x y z) (lk ofC x y z)) (lk uB (lk ofF x y z) (lk ofB
      x y z) (lk ofC x y z)) (lk ofC x y z)) (lk cmBy (lk uF (lk ofF a b c) (lk ofB a b c) (lk ofC a b c)) (lk uB (lk ofF a b c) (lk ofB a b c) (lk ofC a b c)) (lk ofC a b c) (lk uF (lk
      ofF x y z) (lk ofB x y z) (lk ofC x y z)) (lk uB (lk ofF x y z) (lk ofB x y z) (lk ofC x y z)) (lk ofC x y z)) (lk cmCnt (lk uF (lk ofF a b c) (lk ofB a b c) (lk ofC a b c)) (lk uB
      (lk ofF a b c) (lk ofB a b c) (lk ofC a b c)) (lk ofC a b c) (lk uF (lk ofF x y z) (lk ofB x y z) (lk ofC x y z)) (lk uB (lk ofF x y z) (lk ofB x y z) (lk ofC x y z)) (lk ofC x y
      z))) (lk uB (lk ofF a b c) (lk ofB a b c) (lk ofC a b c))) (lk uB (lk ofF a b c) (lk ofB a b c) (lk ofC a b c)) (U.quo .i64 (U.sub .i64 (lk sLast (lk uF (lk ofF a b c) (lk ofB a b
      c) (lk ofC a b c)) (lk uB (lk ofF a b c) (lk ofB a b c) (lk ofC a b c)) (lk ofC a b c)) (lk sLast (lk cmFst (lk uF (lk ofF a b c) (lk ofB a b c) (lk ofC a b c)) (lk uB (lk ofF a b
      c) (lk ofB a b c) (lk ofC a b c)) (lk ofC a b c) (lk uF (lk ofF x y z) (lk ofB x y z) (lk ofC x y z)) (lk uB (lk ofF x y z) (lk ofB x y z) (lk ofC x y z)) (lk ofC x y z)) (lk cmBy
      (lk uF (lk ofF a b c) (lk ofB a b c) (lk ofC a b c)) (lk uB (lk ofF a b c) (lk ofB a b c) (lk ofC a b c)) (lk ofC a b c) (lk uF (lk ofF x y z) (lk ofB x y z) (lk ofC x y z)) (lk uB
      (lk ofF x y z) (lk ofB x y z) (lk ofC x y z)) (lk ofC x y z)) (lk cmCnt (lk uF (lk ofF a b c) (lk ofB a b c) (lk ofC a b c)) (lk uB (lk ofF a b c) (lk ofB a b c) (lk ofC a b c)) (lk
      ofC a b c) (lk uF (lk ofF x y z) (lk ofB x y z) (lk ofC x y z)) (lk uB (lk ofF x y z) (lk ofB x y z) (lk ofC x y z)) (lk ofC x y z)))) (lk uB (lk ofF a b c) (lk ofB a b c) (lk ofC a
      b c))) c * (U.quo .i64 (U.sub .i64 (lk sLast (lk uF (lk ofF a b c) (lk ofB a b c) (lk ofC a b c)) (lk uB (lk ofF a b c) (lk ofB a b c) (lk ofC a b c)) (lk ofC a b c)) (lk sLast (lk
      cmFst (lk uF (lk ofF a b c) (lk ofB a b c) (lk ofC a b c)) (lk uB (lk ofF a b c) (lk ofB a b c) (lk ofC a b c)) (lk ofC a b c) (lk uF (lk ofF x y z) (lk ofB x y z) (lk ofC x y z))
      (lk uB (lk ofF x y z) (lk ofB x y z) (lk ofC x y z)) (lk ofC x y z)) (lk cmBy (lk uF (lk ofF a b c) (lk ofB a b c) (lk ofC a b c)) (lk uB (lk ofF a b c) (lk ofB a b c) (lk ofC a b
      c)) (lk ofC a b c) (lk uF (lk ofF x y z) (lk ofB x y z) (lk ofC x y z)) (lk uB (lk ofF x y z) (lk ofB x y z) (lk ofC x y z)) (lk ofC x y z)) (lk cmCnt (lk uF (lk ofF a b c) (lk ofB
      a b c) (lk ofC a b c)) (lk uB (lk ofF a b c) (lk ofB a b c) (lk ofC a b c)) (lk ofC a b c) (lk uF (lk ofF x y z) (lk ofB x y z) (lk ofC x y z)) (lk uB (lk ofF x y z) (lk ofB x y z)
      (lk ofC x y z)) (lk ofC x y z)))) (lk uB (lk ofF a b c) (lk ofB a b c) (lk ofC a b c)) - (1 : Int)))) (.ask (((1 : Nat) + lk pM (lk uB (lk ofF a b c) (lk ofB a b c) (lk ofC a b c))
      (lk cmBy (lk uF (lk ofF a b c) (lk ofB a b c) (lk ofC a b c)) (lk uB (lk ofF a b c) (lk ofB a b c) (lk ofC a b c)) (lk ofC a b c) (lk uF (lk ofF x y z) (lk ofB x y z) (lk ofC x y
      z)) (lk uB (lk ofF x y z) (lk ofB x y z) (lk ofC x y z)) (lk ofC x y z)) (lk cmCnt (lk uF (lk ofF a b c) (lk ofB a b c) (lk ofC a b c)) (lk uB (lk ofF a b c) (lk ofB a b c) (lk ofC
      a b c)) (lk ofC a b c) (lk uF (lk ofF x y z) (lk ofB x y z) (lk ofC x y z)) (lk uB (lk ofF x y z) (lk ofB x y z) (lk ofC x y z)) (lk ofC x y z)) (nat_lit 1) + (1 : Nat)) * nat_lit
      24 ≤ nat_lit 140737488351232) (.br (U.gt (Int.ofNat ((nat_lit 1 + lk pM (lk uB (lk ofF a b c) (lk ofB a b c) (lk ofC a b c)) (lk cmBy (lk uF (lk ofF a b c) (lk ofB a b c) (lk ofC a
      b c)) (lk uB (lk ofF a b c) (lk ofB a b c) (lk ofC a b c)) (lk ofC a b c) (lk uF (lk ofF x y z) (lk ofB x y z) (lk ofC x y z)) (lk uB (lk ofF x y z) (lk ofB x y z) (lk ofC x y z))
      (lk ofC x y z)) (lk cmCnt (lk uF (lk ofF a b c) (lk ofB a b c) (lk ofC a b c)) (lk uB (lk ofF a b c) (lk ofB a b c) (lk ofC a b c)) (lk ofC a b c) (lk uF (lk ofF x y z) (lk ofB x y
      z) (lk ofC x y z)) (lk uB (lk ofF x y z) (lk ofB x y z) (lk ofC x y z)) (lk ofC x y z)) (nat_lit 1)).add (nat_lit 1))) (1000 : Int)) (.ret (.tup [.lit (.slice none (nat_lit 0)
      (nat_lit 0)), .lit (.int .i64 7)])) (.ret (.tup [.row [.int .i64, .int .i64, .int .i64] ((nat_lit 1 + lk pM (lk uB (lk ofF a b c) (lk ofB a b c) (lk ofC a b c)) (lk cmBy (lk uF (lk
      ofF a b c) (lk ofB a b c) (lk ofC a b c)) (lk uB (lk ofF a b c) (lk ofB a b c) (lk ofC a b c)) (lk ofC a b c) (lk uF (lk ofF x y z) (lk ofB x y z) (lk ofC x y z)) (lk uB (lk ofF x y
      z) (lk ofB x y z) (lk ofC x y z)) (lk ofC x y z)) (lk cmCnt (lk uF (lk ofF a b c) (lk ofB a b c) (lk ofC a b c)) (lk uB (lk ofF a b c) (lk ofB a b c) (lk ofC a b c)) (lk ofC a b c)
      (lk uF (lk ofF x y z) (lk ofB x y z) (lk ofC x y z)) (lk uB (lk ofF x y z) (lk ofB x y z) (lk ofC x y z)) (lk ofC x y z)) (nat_lit 1)).add (nat_lit 1)) (U.cat (nat_lit 1 + lk pM (lk
      uB (lk ofF a b c) (lk ofB a b c) (lk ofC a b c)) (lk cmBy (lk uF (lk ofF a b c) (lk ofB a b c) (lk ofC a b c)) (lk uB (lk ofF a b c) (lk ofB a b c) (lk ofC a b c)) (lk ofC a b c)
      (lk uF (lk ofF x y z) (lk ofB x y z) (lk ofC x y z)) (lk uB (lk ofF x y z) (lk ofB x y z) (lk ofC x y z)) (lk ofC x y z)) (lk cmCnt (lk uF (lk ofF a b c) (lk ofB a b c) (lk ofC a b
      c)) (lk uB (lk ofF a b c) (lk ofB a b c) (lk ofC a b c)) (lk ofC a b c) (lk uF (lk ofF x y z) (lk ofB x y z) (lk ofC x y z)) (lk uB (lk ofF x y z) (lk ofB x y z) (lk ofC x y z)) (lk
      ofC x y z)) (nat_lit 1)) (lk ppF c (lk uB (lk ofF a b c) (lk ofB a b c) (lk ofC a b c)) (lk cmFst (lk uF (lk ofF a b c) (lk ofB a b c) (lk ofC a b c)) (lk uB (lk ofF a b c) (lk ofB
      a b c) (lk ofC a b c)) (lk ofC a b c) (lk uF (lk ofF x y z) (lk ofB x y z) (lk ofC x y z)) (lk uB (lk ofF x y z) (lk ofB x y z) (lk ofC x y z)) (lk ofC x y z)) (lk cmBy (lk uF (lk
      ofF a b c) (lk ofB a b c) (lk ofC a b c)) (lk uB (lk ofF a b c) (lk ofB a b c) (lk ofC a b c)) (lk ofC a b c) (lk uF (lk ofF x y z) (lk ofB x y z) (lk ofC x y z)) (lk uB (lk ofF x y
      z) (lk ofB x y z) (lk ofC x y z)) (lk ofC x y z)) (lk cmCnt (lk uF (lk ofF a b c) (lk ofB a b c) (lk ofC a b c)) (lk uB (lk ofF a b c) (lk ofB a b c) (lk ofC a b c)) (lk ofC a b c)
      (lk uF (lk ofF x y z) (lk ofB x y z) (lk ofC x y z)) (lk uB (lk ofF x y z) (lk ofB x y z) (lk ofC x y z)) (lk ofC x y z)) (nat_lit 1) fun x_1 => (lk nLow (lk kF (lk uF (lk ofF a b
      c) (lk ofB a b c) (lk ofC a b c)) (lk uB (lk ofF a b c) (lk ofB a b c) (lk ofC a b c)) (U.quo .i64 (U.sub .i64 (lk cmFst (lk uF (lk ofF a b c) (lk ofB a b c) (lk ofC a b c)) (lk uB
      (lk ofF a b c) (lk ofB a b c) (lk ofC a b c)) (lk ofC a b c) (lk uF (lk ofF x y z) (lk ofB x y z) (lk ofC x y z)) (lk uB (lk ofF x y z) (lk ofB x y z) (lk ofC x y z)) (lk ofC x y
      z)) (lk uF (lk ofF a b c) (lk ofB a b c) (lk ofC a b c))) (lk uB (lk ofF a b c) (lk ofB a b c) (lk ofC a b c))) c) (lk kB (lk uF (lk ofF a b c) (lk ofB a b c) (lk ofC a b c)) (lk uB
      (lk ofF a b c) (lk ofB a b c) (lk ofC a b c)) (U.quo .i64 (U.sub .i64 (lk cmFst (lk uF (lk ofF a b c) (lk ofB a b c) (lk ofC a b c)) (lk uB (lk ofF a b c) (lk ofB a b c) (lk ofC a b
      c)) (lk ofC a b c) (lk uF (lk ofF x y z) (lk ofB x y z) (lk ofC x y z)) (lk uB (lk ofF x y z) (lk ofB x y z) (lk ofC x y z)) (lk ofC x y z)) (lk uF (lk ofF a b c) (lk ofB a b c) (lk
      ofC a b c))) (lk uB (lk ofF a b c) (lk ofB a b c) (lk ofC a b c))) c) (U.quo .i64 (U.sub .i64 (lk cmFst (lk uF (lk ofF a b c) (lk ofB a b c) (lk ofC a b c)) (lk uB (lk ofF a b c)
      (lk ofB a b c) (lk ofC a b c)) (lk ofC a b c) (lk uF (lk ofF x y z) (lk ofB x y z) (lk ofC x y z)) (lk uB (lk ofF x y z) (lk ofB x y z) (lk ofC x y z)) (lk ofC x y z)) (lk uF (lk
      ofF a b c) (lk ofB a b c) (lk ofC a b c))) (lk uB (lk ofF a b c) (lk ofB a b c) (lk ofC a b c))), lk nHigh (lk kF (lk uF (lk ofF a b c) (lk ofB a b c) (lk ofC a b c)) (lk uB (lk ofF
      a b c) (lk ofB a b c) (lk ofC a b c)) (U.quo .i64 (U.sub .i64 (lk cmFst (lk uF (lk ofF a b c) (lk ofB a b c) (lk ofC a b c)) (lk uB (lk ofF a b c) (lk ofB a b c) (lk ofC a b c)) (lk
      ofC a b c) (lk uF (lk ofF x y z) (lk ofB x y z) (lk ofC x y z)) (lk uB (lk ofF x y z) (lk ofB x y z) (lk ofC x y z)) (lk ofC x y z)) (lk uF (lk ofF a b c) (lk ofB a b c) (lk ofC a b
      c))) (lk uB (lk ofF a b c) (lk ofB a b c) (lk ofC a b c))) c) (lk kB (lk uF (lk ofF a b c) (lk ofB a b c) (lk ofC a b c)) (lk uB (lk ofF a b c) (lk ofB a b c) (lk ofC a b c)) (U.quo
      .i64 (U.sub .i64 (lk cmFst (lk uF (lk ofF a b c) (lk ofB a b c) (lk ofC a b c)) (lk uB (lk ofF a b c) (lk ofB a b c) (lk ofC a b c)) (lk ofC a b c) (lk uF (lk ofF x y z) (lk ofB x y
      z) (lk ofC x y z)) (lk uB (lk ofF x y z) (lk ofB x y z) (lk ofC x y z)) (lk ofC x y z)) (lk uF (lk ofF a b c) (lk ofB a b c) (lk ofC a b c))) (lk uB (lk ofF a b c) (lk ofB a b c)
      (lk ofC a b c))) c) (U.quo .i64 (U.sub .i64 (lk cmFst (lk uF (lk ofF a b c) (lk ofB a b c) (lk ofC a b c)) (lk uB (lk ofF a b c) (lk ofB a b c) (lk ofC a b c)) (lk ofC a b c) (lk uF
      (lk ofF x y z) (lk ofB x y z) (lk ofC x y z)) (lk uB (lk ofF x y z) (lk ofB x y z) (lk ofC x y z)) (lk ofC x y z)) (lk uF (lk ofF a b c) (lk ofB a b c) (lk ofC a b c))) (lk uB (lk
      ofF a b c) (lk ofB a b c) (lk ofC a b c))), lk nStr (lk kF (lk uF (lk ofF a b c) (lk ofB a b c) (lk ofC a b c)) (lk uB (lk ofF a b c) (lk ofB a b c) (lk ofC a b c)) (U.quo .i64
      (U.sub .i64 (lk cmFst (lk uF (lk ofF a b c) (lk ofB a b c) (lk ofC a b c)) (lk uB (lk ofF a b c) (lk ofB a b c) (lk ofC a b c)) (lk ofC a b c) (lk uF (lk ofF x y z) (lk ofB x y z)
      (lk ofC x y z)) (lk uB (lk ofF x y z) (lk ofB x y z) (lk ofC x y z)) (lk ofC x y z)) (lk uF (lk ofF a b c) (lk ofB a b c) (lk ofC a b c))) (lk uB (lk ofF a b c) (lk ofB a b c) (lk
      ofC a b c))) c) (lk kB (lk uF (lk ofF a b c) (lk ofB a b c) (lk ofC a b c)) (lk uB (lk ofF a b c) (lk ofB a b c) (lk ofC a b c)) (U.quo .i64 (U.sub .i64 (lk cmFst (lk uF (lk ofF a b
      c) (lk ofB a b c) (lk ofC a b c)) (lk uB (lk ofF a b c) (lk ofB a b c) (lk ofC a b c)) (lk ofC a b c) (lk uF (lk ofF x y z) (lk ofB x y z) (lk ofC x y z)) (lk uB (lk ofF x y z) (lk
      ofB x y z) (lk ofC x y z)) (lk ofC x y z)) (lk uF (lk ofF a b c) (lk ofB a b c) (lk ofC a b c))) (lk uB (lk ofF a b c) (lk ofB a b c) (lk ofC a b c))) c) (U.quo .i64 (U.sub .i64 (lk
      cmFst (lk uF (lk ofF a b c) (lk ofB a b c) (lk ofC a b c)) (lk uB (lk ofF a b c) (lk ofB a b c) (lk ofC a b c)) (lk ofC a b c) (lk uF (lk ofF x y z) (lk ofB x y z) (lk ofC x y z))
      (lk uB (lk ofF x y z) (lk ofB x y z) (lk ofC x y z)) (lk ofC x y z)) (lk uF (lk ofF a b c) (lk ofB a b c) (lk ofC a b c))) (lk uB (lk ofF a b c) (lk ofB a b c) (lk ofC a b c))),
      PUnit.unit)) fun x_1 => (lk nLow (lk kF (U.add .i64 (lk sLast (lk cmFst (lk uF (lk ofF a b c) (lk ofB a b c) (lk ofC a b c)) (lk uB (lk ofF a b c) (lk ofB a b c) (lk ofC a b c)) (lk
      ofC a b c) (lk uF (lk ofF x y z) (lk ofB x y z) (lk ofC x y z)) (lk uB (lk ofF x y z) (lk ofB x y z) (lk ofC x y z)) (lk ofC x y z)) (lk cmBy (lk uF (lk ofF a b c) (lk ofB a b c)
      (lk ofC a b c)) (lk uB (lk ofF a b c) (lk ofB a b c) (lk ofC a b c)) (lk ofC a b c) (lk uF (lk ofF x y z) (lk ofB x y z) (lk ofC x y z)) (lk uB (lk ofF x y z) (lk ofB x y z) (lk ofC
      x y z)) (lk ofC x y z)) (lk cmCnt (lk uF (lk ofF a b c) (lk ofB a b c) (lk ofC a b c)) (lk uB (lk ofF a b c) (lk ofB a b c) (lk ofC a b c)) (lk ofC a b c) (lk uF (lk ofF x y z) (lk
      ofB x y z) (lk ofC x y z)) (lk uB (lk ofF x y z) (lk ofB x y z) (lk ofC x y z)) (lk ofC x y z))) (lk uB (lk ofF a b c) (lk ofB a b c) (lk ofC a b c))) (lk uB (lk ofF a b c) (lk ofB
      a b c) (lk ofC a b c)) (U.quo .i64 (U.sub .i64 (lk sLast (lk uF (lk ofF a b c) (lk ofB a b c) (lk ofC a b c)) (lk uB (lk ofF a b c) (lk ofB a b c) (lk ofC a b c)) (lk ofC a b c))
      (lk sLast (lk cmFst (lk uF (lk ofF a b c) (lk ofB a b c) (lk ofC a b c)) (lk uB (lk ofF a b c) (lk ofB a b c) (lk ofC a b c)) (lk ofC a b c) (lk uF (lk ofF x y z) (lk ofB x y z) (lk
      ofC x y z)) (lk uB (lk ofF x y z) (lk ofB x y z) (lk ofC x y z)) (lk ofC x y z)) (lk cmBy (lk uF (lk ofF a b c) (lk ofB a b c) (lk ofC a b c)) (lk uB (lk ofF a b c) (lk ofB a b c)
      (lk ofC a b c)) (lk ofC a b c) (lk uF (lk ofF x y z) (lk ofB x y z) (lk ofC x y z)) (lk uB (lk ofF x y z) (lk ofB x y z) (lk ofC x y z)) (lk ofC x y z)) (lk cmCnt (lk uF (lk ofF a b
      c) (lk ofB a b c) (lk ofC a b c)) (lk uB (lk ofF a b c) (lk ofB a b c) (lk ofC a b c)) (lk ofC a b c) (lk uF (lk ofF x y z) (lk ofB x y z) (lk ofC x y z)) (lk uB (lk ofF x y z) (lk
      ofB x y z) (lk ofC x y z)) (lk ofC x y z)))) (lk uB (lk ofF a b c) (lk ofB a b c) (lk ofC a b c))) c) (lk kB (U.add .i64 (lk sLast (lk cmFst (lk uF (lk ofF a b c) (lk ofB a b c) (lk
      ofC a b c)) (lk uB (lk ofF a b c) (lk ofB a b c) (lk ofC a b c)) (lk ofC a b c) (lk uF (lk ofF x y z) (lk ofB x y z) (lk ofC x y z)) (lk uB (lk ofF x y z) (lk ofB x y z) (lk ofC x y
      z)) (lk ofC x y z)) (lk cmBy (lk uF (lk ofF a b c) (lk ofB a b c) (lk ofC a b c)) (lk uB (lk ofF a b c) (lk ofB a b c) (lk ofC a b c)) (lk ofC a b c) (lk uF (lk ofF x y z) (lk ofB x
      y z) (lk ofC x y z)) (lk uB (lk ofF x y z) (lk ofB x y z) (lk ofC x y z)) (lk ofC x y z)) (lk cmCnt (lk uF (lk ofF a b c) (lk ofB a b c) (lk ofC a b c)) (lk uB (lk ofF a b c) (lk
      ofB a b c) (lk ofC a b c)) (lk ofC a b c) (lk uF (lk ofF x y z) (lk ofB x y z) (lk ofC x y z)) (lk uB (lk ofF x y z) (lk ofB x y z) (lk ofC x y z)) (lk ofC x y z))) (lk uB (lk ofF a
      b c) (lk ofB a b c) (lk ofC a b c))) (lk uB (lk ofF a b c) (lk ofB a b c) (lk ofC a b c)) (U.quo .i64 (U.sub .i64 (lk sLast (lk uF (lk ofF a b c) (lk ofB a b c) (lk ofC a b c)) (lk
      uB (lk ofF a b c) (lk ofB a b c) (lk ofC a b c)) (lk ofC a b c)) (lk sLast (lk cmFst (lk uF (lk ofF a b c) (lk ofB a b c) (lk ofC a b c)) (lk uB (lk ofF a b c) (lk ofB a b c) (lk
      ofC a b c)) (lk ofC a b c) (lk uF (lk ofF x y z) (lk ofB x y z) (lk ofC x y z)) (lk uB (lk ofF x y z) (lk ofB x y z) (lk ofC x y z)) (lk ofC x y z)) (lk cmBy (lk uF (lk ofF a b c)
      (lk ofB a b c) (lk ofC a b c)) (lk uB (lk ofF a b c) (lk ofB a b c) (lk ofC a b c)) (lk ofC a b c) (lk uF (lk ofF x y z) (lk ofB x y z) (lk ofC x y z)) (lk uB (lk ofF x y z) (lk ofB
      x y z) (lk ofC x y z)) (lk ofC x y z)) (lk cmCnt (lk uF (lk ofF a b c) (lk ofB a b c) (lk ofC a b c)) (lk uB (lk ofF a b c) (lk ofB a b c) (lk ofC a b c)) (lk ofC a b c) (lk uF (lk
      ofF x y z) (lk ofB x y z) (lk ofC x y z)) (lk uB (lk ofF x y z) (lk ofB x y z) (lk ofC x y z)) (lk ofC x y z)))) (lk uB (lk ofF a b c) (lk ofB a b c) (lk ofC a b c))) c) (U.quo .i64
      (U.sub .i64 (lk sLast (lk uF (lk ofF a b c) (lk ofB a b c) (lk ofC a b c)) (lk uB (lk ofF a b c) (lk ofB a b c) (lk ofC a b c)) (lk ofC a b c)) (lk sLast (lk cmFst (lk uF (lk ofF a
      b c) (lk ofB a b c) (lk ofC a b c)) (lk uB (lk ofF a b c) (lk ofB a b c) (lk ofC a b c)) (lk ofC a b c) (lk uF (lk ofF x y z) (lk ofB x y z) (lk ofC x y z)) (lk uB (lk ofF x y z)
      (lk ofB x y z) (lk ofC x y z)) (lk ofC x y z)) (lk cmBy (lk uF (lk ofF a b c) (lk ofB a b c) (lk ofC a b c)) (lk uB (lk ofF a b c) (lk ofB a b c) (lk ofC a b c)) (lk ofC a b c) (lk
      uF (lk ofF x y z) (lk ofB x y z) (lk ofC x y z)) (lk uB (lk ofF x y z) (lk ofB x y z) (lk ofC x y z)) (lk ofC x y z)) (lk cmCnt (lk uF (lk ofF a b c) (lk ofB a b c) (lk ofC a b c))
      (lk uB (lk ofF a b c) (lk ofB a b c) (lk ofC a b c)) (lk ofC a b c) (lk uF (lk ofF x y z) (lk ofB x y z) (lk ofC x y z)) (lk uB (lk ofF x y z) (lk ofB x y z) (lk ofC x y z)) (lk ofC
      x y z)))) (lk uB (lk ofF a b c) (lk ofB a b c) (lk ofC a b c))), lk nHigh (lk kF (U.add .i64 (lk sLast (lk cmFst (lk uF (lk ofF a b c) (lk ofB a b c) (lk ofC a b c)) (lk uB (lk ofF
      a b c) (lk ofB a b c) (lk ofC a b c)) (lk ofC a b c) (lk uF (lk ofF x y z) (lk ofB x y z) (lk ofC x y z)) (lk uB (lk ofF x y z) (lk ofB x y z) (lk ofC x y z)) (lk ofC x y z)) (lk
      cmBy (lk uF (lk ofF a b c) (lk ofB a b c) (lk ofC a b c)) (lk uB (lk ofF a b c) (lk ofB a b c) (lk ofC a b c)) (lk ofC a b c) (lk uF (lk ofF x y z) (lk ofB x y z) (lk ofC x y z))
      (lk uB (lk ofF x y z) (lk ofB x y z) (lk ofC x y z)) (lk ofC x y z)) (lk cmCnt (lk uF (lk ofF a b c) (lk ofB a b c) (lk ofC a b c)) (lk uB (lk ofF a b c) (lk ofB a b c) (lk ofC a b
      c)) (lk ofC a b c) (lk uF (lk ofF x y z) (lk ofB x y z) (lk ofC x y z)) (lk uB (lk ofF x y z) (lk ofB x y z) (lk ofC x y z)) (lk ofC x y z))) (lk uB (lk ofF a b c) (lk ofB a b c)
      (lk ofC a b c))) (lk uB (lk ofF a b c) (lk ofB a b c) (lk ofC a b c)) (U.quo .i64 (U.sub .i64 (lk sLast (lk uF (lk ofF a b c) (lk ofB a b c) (lk ofC a b c)) (lk uB (lk ofF a b c)
      (lk ofB a b c) (lk ofC a b c)) (lk ofC a b c)) (lk sLast (lk cmFst (lk uF (lk ofF a b c) (lk ofB a b c) (lk ofC a b c)) (lk uB (lk ofF a b c) (lk ofB a b c) (lk ofC a b c)) (lk ofC
      a b c) (lk uF (lk ofF x y z) (lk ofB x y z) (lk ofC x y z)) (lk uB (lk ofF x y z) (lk ofB x y z) (lk ofC x y z)) (lk ofC x y z)) (lk cmBy (lk uF (lk ofF a b c) (lk ofB a b c) (lk
      ofC a b c)) (lk uB (lk ofF a b c) (lk ofB a b c) (lk ofC a b c)) (lk ofC a b c) (lk uF (lk ofF x y z) (lk ofB x y z) (lk ofC x y z)) (lk uB (lk ofF x y z) (lk ofB x y z) (lk ofC x y
      z)) (lk ofC x y z)) (lk cmCnt (lk uF (lk ofF a b c) (lk ofB a b c) (lk ofC a b c)) (lk uB (lk ofF a b c) (lk ofB a b c) (lk ofC a b c)) (lk ofC a b c) (lk uF (lk ofF x y z) (lk ofB
      x y z) (lk ofC x y z)) (lk uB (lk ofF x y z) (lk ofB x y z) (lk ofC x y z)) (lk ofC x y z)))) (lk uB (lk ofF a b c) (lk ofB a b c) (lk ofC a b c))) c) (lk kB (U.add .i64 (lk sLast
      (lk cmFst (lk uF (lk ofF a b c) (lk ofB a b c) (lk ofC a b c)) (lk uB (lk ofF a b c) (lk ofB a b c) (lk ofC a b c)) (lk ofC a b c) (lk uF (lk ofF x y z) (lk ofB x y z) (lk ofC x y
      z)) (lk uB (lk ofF x y z) (lk ofB x y z) (lk ofC x y z)) (lk ofC x y z)) (lk cmBy (lk uF (lk ofF a b c) (lk ofB a b c) (lk ofC a b c)) (lk uB (lk ofF a b c) (lk ofB a b c) (lk ofC a
      b c)) (lk ofC a b c) (lk uF (lk ofF x y z) (lk ofB x y z) (lk ofC x y z)) (lk uB (lk ofF x y z) (lk ofB x y z) (lk ofC x y z)) (lk ofC x y z)) (lk cmCnt (lk uF (lk ofF a b c) (lk
      ofB a b c) (lk ofC a b c)) (lk uB (lk ofF a b c) (lk ofB a b c) (lk ofC a b c)) (lk ofC a b c) (lk uF (lk ofF x y z) (lk ofB x y z) (lk ofC x y z)) (lk uB (lk ofF x y z) (lk ofB x y
      z) (lk ofC x y z)) (lk ofC x y z))) (lk uB (lk ofF a b c) (lk ofB a b c) (lk ofC a b c))) (lk uB (lk ofF a b c) (lk ofB a b c) (lk ofC a b c)) (U.quo .i64 (U.sub .i64 (lk sLast (lk
      uF (lk ofF a b c) (lk ofB a b c) (lk ofC a b c)) (lk uB (lk ofF a b c) (lk ofB a b c) (lk ofC a b c)) (lk ofC a b c)) (lk sLast (lk cmFst (lk uF (lk ofF a b c) (lk ofB a b c) (lk
      ofC a b c)) (lk uB (lk ofF a b c) (lk ofB a b c) (lk ofC a b c)) (lk ofC a b c) (lk uF (lk ofF x y z) (lk ofB x y z) (lk ofC x y z)) (lk uB (lk ofF x y z) (lk ofB x y z) (lk ofC x y
      z)) (lk ofC x y z)) (lk cmBy (lk uF (lk ofF a b c) (lk ofB a b c) (lk ofC a b c)) (lk uB (lk ofF a b c) (lk ofB a b c) (lk ofC a b c)) (lk ofC a b c) (lk uF (lk ofF x y z) (lk ofB x
      y z) (lk ofC x y z)) (lk uB (lk ofF x y z) (lk ofB x y z) (lk ofC x y z)) (lk ofC x y z)) (lk cmCnt (lk uF (lk ofF a b c) (lk ofB a b c) (lk ofC a b c)) (lk uB (lk ofF a b c) (lk
      ofB a b c) (lk ofC a b c)) (lk ofC a b c) (lk uF (lk ofF x y z) (lk ofB x y z) (lk ofC x y z)) (lk uB (lk ofF x y z) (lk ofB x y z) (lk ofC x y z)) (lk ofC x y z)))) (lk uB (lk ofF
      a b c) (lk ofB a b c) (lk ofC a b c))) c) (U.quo .i64 (U.sub .i64 (lk sLast (lk uF (lk ofF a b c) (lk ofB a b c) (lk ofC a b c)) (lk uB (lk ofF a b c) (lk ofB a b c) (lk ofC a b c))
      (lk ofC a b c)) (lk sLast (lk cmFst (lk uF (lk ofF a b c) (lk ofB a b c) (lk ofC a b c)) (lk uB (lk ofF a b c) (lk ofB a b c) (lk ofC a b c)) (lk ofC a b c) (lk uF (lk ofF x y z)
      (lk ofB x y z) (lk ofC x y z)) (lk uB (lk ofF x y z) (lk ofB x y z) (lk ofC x y z)) (lk ofC x y z)) (lk cmBy (lk uF (lk ofF a b c) (lk ofB a b c) (lk ofC a b c)) (lk uB (lk ofF a b
      c) (lk ofB a b c) (lk ofC a b c)) (lk ofC a b c) (lk uF (lk ofF x y z) (lk ofB x y z) (lk ofC x y z)) (lk uB (lk ofF x y z) (lk ofB x y z) (lk ofC x y z)) (lk ofC x y z)) (lk cmCnt
      (lk uF (lk ofF a b c) (lk ofB a b c) (lk ofC a b c)) (lk uB (lk ofF a b c) (lk ofB a b c) (lk ofC a b c)) (lk ofC a b c) (lk uF (lk ofF x y z) (lk ofB x y z) (lk ofC x y z)) (lk uB
      (lk ofF x y z) (lk ofB x y z) (lk ofC x y z)) (lk ofC x y z)))) (lk uB (lk ofF a b c) (lk ofB a b c) (lk ofC a b c))), lk nStr (lk kF (U.add .i64 (lk sLast (lk cmFst (lk uF (lk ofF
      a b c) (lk ofB a b c) (lk ofC a b c)) (lk uB (lk ofF a b c) (lk ofB a b c) (lk ofC a b c)) (lk ofC a b c) (lk uF (lk ofF x y z) (lk ofB x y z) (lk ofC x y z)) (lk uB (lk ofF x y z)
      (lk ofB x y z) (lk ofC x y z)) (lk ofC x y z)) (lk cmBy (lk uF (lk ofF a b c) (lk ofB a b c) (lk ofC a b c)) (lk uB (lk ofF a b c) (lk ofB a b c) (lk ofC a b c)) (lk ofC a b c) (lk
      uF (lk ofF x y z) (lk ofB x y z) (lk ofC x y z)) (lk uB (lk ofF x y z) (lk ofB x y z) (lk ofC x y z)) (lk ofC x y z)) (lk cmCnt (lk uF (lk ofF a b c) (lk ofB a b c) (lk ofC a b c))
      (lk uB (lk ofF a b c) (lk ofB a b c) (lk ofC a b c)) (lk ofC a b c) (lk uF (lk ofF x y z) (lk ofB x y z) (lk ofC x y z)) (lk uB (lk ofF x y z) (lk ofB x y z) (lk ofC x y z)) (lk ofC
      x y z))) (lk uB (lk ofF a b c) (lk ofB a b c) (lk ofC a b c))) (lk uB (lk ofF a b c) (lk ofB a b c) (lk ofC a b c)) (U.quo .i64 (U.sub .i64 (lk sLast (lk uF (lk ofF a b c) (lk ofB a
      b c) (lk ofC a b c)) (lk uB (lk ofF a b c) (lk ofB a b c) (lk ofC a b c)) (lk ofC a b c)) (lk sLast (lk cmFst (lk uF (lk ofF a b c) (lk ofB a b c) (lk ofC a b c)) (lk uB (lk ofF a b
      c) (lk ofB a b c) (lk ofC a b c)) (lk ofC a b c) (lk uF (lk ofF x y z) (lk ofB x y z) (lk ofC x y z)) (lk uB (lk ofF x y z) (lk ofB x y z) (lk ofC x y z)) (lk ofC x y z)) (lk cmBy
      (lk uF (lk ofF a b c) (lk ofB a b c) (lk ofC a b c)) (lk uB (lk ofF a b c) (lk ofB a b c) (lk ofC a b c)) (lk ofC a b c) (lk uF (lk ofF x y z) (lk ofB x y z) (lk ofC x y z)) (lk uB
      (lk ofF x y z) (lk ofB x y z) (lk ofC x y z)) (lk ofC x y z)) (lk cmCnt (lk uF (lk ofF a b c) (lk ofB a b c) (lk ofC a b c)) (lk uB (lk ofF a b c) (lk ofB a b c) (lk ofC a b c)) (lk
      ofC a b c) (lk uF (lk ofF x y z) (lk ofB x y z) (lk ofC x y z)) (lk uB (lk ofF x y z) (lk ofB x y z) (lk ofC x y z)) (lk ofC x y z)))) (lk uB (lk ofF a b c) (lk ofB a b c) (lk ofC a
      b c))) c) (lk kB (U.add .i64 (lk sLast (lk cmFst (lk uF (lk ofF a b c) (lk ofB a b c) (lk ofC a b c)) (lk uB (lk ofF a b c) (lk ofB a b c) (lk ofC a b c)) (lk ofC a b c) (lk uF (lk
      ofF x y z) (lk ofB x y z) (lk ofC x y z)) (lk uB (lk ofF x y z) (lk ofB x y z) (lk ofC x y z)) (lk ofC x y z)) (lk cmBy (lk uF (lk ofF a b c) (lk ofB a b c) (lk ofC a b c)) (lk uB
      (lk ofF a b c) (lk ofB a b c) (lk ofC a b c)) (lk ofC a b c) (lk uF (lk ofF x y z) (lk ofB x y z) (lk ofC x y z)) (lk uB (lk ofF x y z) (lk ofB x y z) (lk ofC x y z)) (lk ofC x y
      z)) (lk cmCnt (lk uF (lk ofF a b c) (lk ofB a b c) (lk ofC a b c)) (lk uB (lk ofF a b c) (lk ofB a b c) (lk ofC a b c)) (lk ofC a b c) (lk uF (lk ofF x y z) (lk ofB x y z) (lk ofC x
      y z)) (lk uB (lk ofF x y z) (lk ofB x y z) (lk ofC x y z)) (lk ofC x y z))) (lk uB (lk ofF a b c) (lk ofB a b c) (lk ofC a b c))) (lk uB (lk ofF a b c) (lk ofB a b c) (lk ofC a b
      c)) (U.quo .i64 (U.sub .i64 (lk sLast (lk uF (lk ofF a b c) (lk ofB a b c) (lk ofC a b c)) (lk uB (lk ofF a b c) (lk ofB a b c) (lk ofC a b c)) (lk ofC a b c)) (lk sLast (lk cmFst
      (lk uF (lk ofF a b c) (lk ofB a b c) (lk ofC a b c)) (lk uB (lk ofF a b c) (lk ofB a b c) (lk ofC a b c)) (lk ofC a b c) (lk uF (lk ofF x y z) (lk ofB x y z) (lk ofC x y z)) (lk uB
      (lk ofF x y z) (lk ofB x y z) (lk ofC x y z)) (lk ofC x y z)) (lk cmBy (lk uF (lk ofF a b c) (lk ofB a b c) (lk ofC a b c)) (lk uB (lk ofF a b c) (lk ofB a b c) (lk ofC a b c)) (lk
      ofC a b c) (lk uF (lk ofF x y z) (lk ofB x y z) (lk ofC x y z)) (lk uB (lk ofF x y z) (lk ofB x y z) (lk ofC x y z)) (lk ofC x y z)) (lk cmCnt (lk uF (lk ofF a b c) (lk ofB a b c)
      (lk ofC a b c)) (lk uB (lk ofF a b c) (lk ofB a b c) (lk ofC a b c)) (lk ofC a b c) (lk uF (lk ofF x y z) (lk ofB x y z) (lk ofC x y z)) (lk uB (lk ofF x y z) (lk ofB x y z) (lk ofC
      x y z)) (lk ofC x y z)))) (lk uB (lk ofF a b c) (lk ofB a b c) (lk ofC a b c))) c) (U.quo .i64 (U.sub .i64 (lk sLast (lk uF (lk ofF a b c) (lk ofB a b c) (lk ofC a b c)) (lk uB (lk
      ofF a b c) (lk ofB a b c) (lk ofC a b c)) (lk ofC a b c)) (lk sLast (lk cmFst (lk uF (lk ofF a b c) (lk ofB a b c) (lk ofC a b c)) (lk uB (lk ofF a b c) (lk ofB a b c) (lk ofC a b
      c)) (lk ofC a b c) (lk uF (lk ofF x y z) (lk ofB x y z) (lk ofC x y z)) (lk uB (lk ofF x y z) (lk ofB x y z) (lk ofC x y z)) (lk ofC x y z)) (lk cmBy (lk uF (lk ofF a b c) (lk ofB a
      b c) (lk ofC a b c)) (lk uB (lk ofF a b c) (lk ofB a b c) (lk ofC a b c)) (lk ofC a b c) (lk uF (lk ofF x y z) (lk ofB x y z) (lk ofC x y z)) (lk uB (lk ofF x y z) (lk ofB x y z)
      (lk ofC x y z)) (lk ofC x y z)) (lk cmCnt (lk uF (lk ofF a b c) (lk ofB a b c) (lk ofC a b c)) (lk uB (lk ofF a b c) (lk ofB a b c) (lk ofC a b c)) (lk ofC a b c) (lk uF (lk ofF x y
      z) (lk ofB x y z) (lk ofC x y z)) (lk uB (lk ofF x y z) (lk ofB x y z) (lk ofC x y z)) (lk ofC x y z)))) (lk uB (lk ofF a b c) (lk ofB a b c) (lk ofC a b c))), PUnit.unit)), .lit
      (.int .i64 0)])))))) (.br (U.gt (Int.ofNat (nat_lit 1 + lk pM (lk uB (lk ofF a b c) (lk ofB a b c) (lk ofC a b c)) (lk cmBy (lk uF (lk ofF a b c) (lk ofB a b c) (lk ofC a b c)) (lk
      uB (lk ofF a b c) (lk ofB a b c) (lk ofC a b c)) (lk ofC a b c) (lk uF (lk ofF x y z) (lk ofB x y z) (lk ofC x y z)) (lk uB (lk ofF x y z) (lk ofB x y z) (lk ofC x y z)) (lk ofC x y
      z)) (lk cmCnt (lk uF (lk ofF a b c) (lk ofB a b c) (lk ofC a b c)) (lk uB (lk ofF a b c) (lk ofB a b c) (lk ofC a b c)) (lk ofC a b c) (lk uF (lk ofF x y z) (lk ofB x y z) (lk ofC x
      y z)) (lk uB (lk ofF x y z) (lk ofB x y z) (lk ofC x y z)) (lk ofC x y z)) (nat_lit 1))) (1000 : Int)) (.ret (.tup [.lit (.slice none (nat_lit 0) (nat_lit 0)), .lit (.int .i64 7)]))
      (.ret (.tup [.row [.int .i64, .int .i64, .int .i64] (nat_lit 1 + lk pM (lk uB (lk ofF a b c) (lk ofB a b c) (lk ofC a b c)) (lk cmBy (lk uF (lk ofF a b c) (lk ofB a b c) (lk ofC a b
      c)) (lk uB (lk ofF a b c) (lk ofB a b c) (lk ofC a b c)) (lk ofC a b c) (lk uF (lk ofF x y z) (lk ofB x y z) (lk ofC x y z)) (lk uB (lk ofF x y z) (lk ofB x y z) (lk ofC x y z)) (lk
      ofC x y z)) (lk cmCnt (lk uF (lk ofF a b c) (lk ofB a b c) (lk ofC a b c)) (lk uB (lk ofF a b c) (lk ofB a b c) (lk ofC a b c)) (lk ofC a b c) (lk uF (lk ofF x y z) (lk ofB x y z)
      (lk ofC x y z)) (lk uB (lk ofF x y z) (lk ofB x y z) (lk ofC x y z)) (lk ofC x y z)) (nat_lit 1)) (lk ppF c (lk uB (lk ofF a b c) (lk ofB a b c) (lk ofC a b c)) (lk cmFst (lk uF (lk
      ofF a b c) (lk ofB a b c) (lk ofC a b c)) (lk uB (lk ofF a b c) (lk ofB a b c) (lk ofC a b c)) (lk ofC a b c) (lk uF (lk ofF x y z) (lk ofB x y z) (lk ofC x y z)) (lk uB (lk ofF x y
      z) (lk ofB x y z) (lk ofC x y z)) (lk ofC x y z)) (lk cmBy (lk uF (lk ofF a b c) (lk ofB a b c) (lk ofC a b c)) (lk uB (lk ofF a b c) (lk ofB a b c) (lk ofC a b c)) (lk ofC a b c)
      (lk uF (lk ofF x y z) (lk ofB x y z) (lk ofC x y z)) (lk uB (lk ofF x y z) (lk ofB x y z) (lk ofC x y z)) (lk ofC x y z)) (lk cmCnt (lk uF (lk ofF a b c) (lk ofB a b c) (lk ofC a b
      c)) (lk uB (lk ofF a b c) (lk ofB a b c) (lk ofC a b c)) (lk ofC a b c) (lk uF (lk ofF x y z) (lk ofB x y z) (lk ofC x y z)) (lk uB (lk ofF x y z) (lk ofB x y z) (lk ofC x y z)) (lk
      ofC x y z)) (nat_lit 1) fun x_1 => (lk nLow (lk kF (lk uF (lk ofF a b c) (lk ofB a b c) (lk ofC a b c)) (lk uB (lk ofF a b c) (lk ofB a b c) (lk ofC a b c)) (U.quo .i64 (U.sub .i64
      (lk cmFst (lk uF (lk ofF a b c) (lk ofB a b c) (lk ofC a b c)) (lk uB (lk ofF a b c) (lk ofB a b c) (lk ofC a b c)) (lk ofC a b c) (lk uF (lk ofF x y z) (lk ofB x y z) (lk ofC x y
      z)) (lk uB (lk ofF x y z) (lk ofB x y z) (lk ofC x y z)) (lk ofC x y z)) (lk uF (lk ofF a b c) (lk ofB a b c) (lk ofC a b c))) (lk uB (lk ofF a b c) (lk ofB a b c) (lk ofC a b c)))
      c) (lk kB (lk uF (lk ofF a b c) (lk ofB a b c) (lk ofC a b c)) (lk uB (lk ofF a b c) (lk ofB a b c) (lk ofC a b c)) (U.quo .i64 (U.sub .i64 (lk cmFst (lk uF (lk ofF a b c) (lk ofB a
      b c) (lk ofC a b c)) (lk uB (lk ofF a b c) (lk ofB a b c) (lk ofC a b c)) (lk ofC a b c) (lk uF (lk ofF x y z) (lk ofB x y z) (lk ofC x y z)) (lk uB (lk ofF x y z) (lk ofB x y z)
      (lk ofC x y z)) (lk ofC x y z)) (lk uF (lk ofF a b c) (lk ofB a b c) (lk ofC a b c))) (lk uB (lk ofF a b c) (lk ofB a b c) (lk ofC a b c))) c) (U.quo .i64 (U.sub .i64 (lk cmFst (lk
      uF (lk ofF a b c) (lk ofB a b c) (lk ofC a b c)) (lk uB (lk ofF a b c) (lk ofB a b c) (lk ofC a b c)) (lk ofC a b c) (lk uF (lk ofF x y z) (lk ofB x y z) (lk ofC x y z)) (lk uB (lk
      ofF x y z) (lk ofB x y z) (lk ofC x y z)) (lk ofC x y z)) (lk uF (lk ofF a b c) (lk ofB a b c) (lk ofC a b c))) (lk uB (lk ofF a b c) (lk ofB a b c) (lk ofC a b c))), lk nHigh (lk
      kF (lk uF (lk ofF a b c) (lk ofB a b c) (lk ofC a b c)) (lk uB (lk ofF a b c) (lk ofB a b c) (lk ofC a b c)) (U.quo .i64 (U.sub .i64 (lk cmFst (lk uF (lk ofF a b c) (lk ofB a b c)
      (lk ofC a b c)) (lk uB (lk ofF a b c) (lk ofB a b c) (lk ofC a b c)) (lk ofC a b c) (lk uF (lk ofF x y z) (lk ofB x y z) (lk ofC x y z)) (lk uB (lk ofF x y z) (lk ofB x y z) (lk ofC
      x y z)) (lk ofC x y z)) (lk uF (lk ofF a b c) (lk ofB a b c) (lk ofC a b c))) (lk uB (lk ofF a b c) (lk ofB a b c) (lk ofC a b c))) c) (lk kB (lk uF (lk ofF a b c) (lk ofB a b c)
      (lk ofC a b c)) (lk uB (lk ofF a b c) (lk ofB a b c) (lk ofC a b c)) (U.quo .i64 (U.sub .i64 (lk cmFst (lk uF (lk ofF a b c) (lk ofB a b c) (lk ofC a b c)) (lk uB (lk ofF a b c) (lk
      ofB a b c) (lk ofC a b c)) (lk ofC a b c) (lk uF (lk ofF x y z) (lk ofB x y z) (lk ofC x y z)) (lk uB (lk ofF x y z) (lk ofB x y z) (lk ofC x y z)) (lk ofC x y z)) (lk uF (lk ofF a
      b c) (lk ofB a b c) (lk ofC a b c))) (lk uB (lk ofF a b c) (lk ofB a b c) (lk ofC a b c))) c) (U.quo .i64 (U.sub .i64 (lk cmFst (lk uF (lk ofF a b c) (lk ofB a b c) (lk ofC a b c))
      (lk uB (lk ofF a b c) (lk ofB a b c) (lk ofC a b c)) (lk ofC a b c) (lk uF (lk ofF x y z) (lk ofB x y z) (lk ofC x y z)) (lk uB (lk ofF x y z) (lk ofB x y z) (lk ofC x y z)) (lk ofC
      x y z)) (lk uF (lk ofF a b c) (lk ofB a b c) (lk ofC a b c))) (lk uB (lk ofF a b c) (lk ofB a b c) (lk ofC a b c))), lk nStr (lk kF (lk uF (lk ofF a b c) (lk ofB a b c) (lk ofC a b
      c)) (lk uB (lk ofF a b c) (lk ofB a b c) (lk ofC a b c)) (U.quo .i64 (U.sub .i64 (lk cmFst (lk uF (lk ofF a b c) (lk ofB a b c) (lk ofC a b c)) (lk uB (lk ofF a b c) (lk ofB a b c)
      (lk ofC a b c)) (lk ofC a b c) (lk uF (lk ofF x y z) (lk ofB x y z) (lk ofC x y z)) (lk uB (lk ofF x y z) (lk ofB x y z) (lk ofC x y z)) (lk ofC x y z)) (lk uF (lk ofF a b c) (lk
      ofB a b c) (lk ofC a b c))) (lk uB (lk ofF a b c) (lk ofB a b c) (lk ofC a b c))) c) (lk kB (lk uF (lk ofF a b c) (lk ofB a b c) (lk ofC a b c)) (lk uB (lk ofF a b c) (lk ofB a b c)
      (lk ofC a b c)) (U.quo .i64 (U.sub .i64 (lk cmFst (lk uF (lk ofF a b c) (lk ofB a b c) (lk ofC a b c)) (lk uB (lk ofF a b c) (lk ofB a b c) (lk ofC a b c)) (lk ofC a b c) (lk uF (lk
      ofF x y z) (lk ofB x y z) (lk ofC x y z)) (lk uB (lk ofF x y z) (lk ofB x y z) (lk ofC x y z)) (lk ofC x y z)) (lk uF (lk ofF a b c) (lk ofB a b c) (lk ofC a b c))) (lk uB (lk ofF a
      b c) (lk ofB a b c) (lk ofC a b c))) c) (U.quo .i64 (U.sub .i64 (lk cmFst (lk uF (lk ofF a b c) (lk ofB a b c) (lk ofC a b c)) (lk uB (lk ofF a b c) (lk ofB a b c) (lk ofC a b c))
      (lk ofC a b c) (lk uF (lk ofF x y z) (lk ofB x y z) (lk ofC x y z)) (lk uB (lk ofF x y z) (lk ofB x y z) (lk ofC x y z)) (lk ofC x y z)) (lk uF (lk ofF a b c) (lk ofB a b c) (lk ofC
      a b c))) (lk uB (lk ofF a b c) (lk ofB a b c) (lk ofC a b c))), PUnit.unit)), .lit (.int .i64 0)])))) (.br (U.gt (Int.ofNat (nat_lit 1 + lk pM (lk uB (lk ofF a b c) (lk ofB a b c)
      (lk ofC a b c)) (lk cmBy (lk uF (lk ofF a b c) (lk ofB a b c) (lk ofC a b c)) (lk uB (lk ofF a b c) (lk ofB a b c) (lk ofC a b c)) (lk ofC a b c) (lk uF (lk ofF x y z) (lk ofB x y
      z) (lk ofC x y z)) (lk uB (lk ofF x y z) (lk ofB x y z) (lk ofC x y z)) (lk ofC x y z)) (lk cmCnt (lk uF (lk ofF a b c) (lk ofB a b c) (lk ofC a b c)) (lk uB (lk ofF a b c) (lk ofB
      a b c) (lk ofC a b c)) (lk ofC a b c) (lk uF (lk ofF x y z) (lk ofB x y z) (lk ofC x y z)) (lk uB (lk ofF x y z) (lk ofB x y z) (lk ofC x y z)) (lk ofC x y z)) (nat_lit 1))) (1000 :
      Int)) (.ret (.tup [.lit (.slice none (nat_lit 0) (nat_lit 0)), .lit (.int .i64 7)])) (.ret (.tup [.row [.int .i64, .int .i64, .int .i64] (nat_lit 1 + lk pM (lk uB (lk ofF a b c) (lk
      ofB a b c) (lk ofC a b c)) (lk cmBy (lk uF (lk ofF a b c) (lk ofB a b c) (lk ofC a b c)) (lk uB (lk ofF a b c) (lk ofB a b c) (lk ofC a b c)) (lk ofC a b c) (lk uF (lk ofF x y z)
      (lk ofB x y z) (lk ofC x y z)) (lk uB (lk ofF x y z) (lk ofB x y z) (lk ofC x y z)) (lk ofC x y z)) (lk cmCnt (lk uF (lk ofF a b c) (lk ofB a b c) (lk ofC a b c)) (lk uB (lk ofF a b
      c) (lk ofB a b c) (lk ofC a b c)) (lk ofC a b c) (lk uF (lk ofF x y z) (lk ofB x y z) (lk ofC x y z)) (lk uB (lk ofF x y z) (lk ofB x y z) (lk ofC x y z)) (lk ofC x y z)) (nat_lit
      1)) (lk ppF c (lk uB (lk ofF a b c) (lk ofB a b c) (lk ofC a b c)) (lk cmFst (lk uF (lk ofF a b c) (lk ofB a b c) (lk ofC a b c)) (lk uB (lk ofF a b c) (lk ofB a b c) (lk ofC a b
      c)) (lk ofC a b c) (lk uF (lk ofF x y z) (lk ofB x y z) (lk ofC x y z)) (lk uB (lk ofF x y z) (lk ofB x y z) (lk ofC x y z)) (lk ofC x y z)) (lk cmBy (lk uF (lk ofF a b c) (lk ofB a
      b c) (lk ofC a b c)) (lk uB (lk ofF a b c) (lk ofB a b c) (lk ofC a b c)) (lk ofC a b c) (lk uF (lk ofF x y z) (lk ofB x y z) (lk ofC x y z)) (lk uB (lk ofF x y z) (lk ofB x y z)
      (lk ofC x y z)) (lk ofC x y z)) (lk cmCnt (lk uF (lk ofF a b c) (lk ofB a b c) (lk ofC a b c)) (lk uB (lk ofF a b c) (lk ofB a b c) (lk ofC a b c)) (lk ofC a b c) (lk uF (lk ofF x y
      z) (lk ofB x y z) (lk ofC x y z)) (lk uB (lk ofF x y z) (lk ofB x y z) (lk ofC x y z)) (lk ofC x y z)) (nat_lit 1) fun x_1 => (lk nLow (lk kF (lk uF (lk ofF a b c) (lk ofB a b c)
      (lk ofC a b c)) (lk uB (lk ofF a b c) (lk ofB a b c) (lk ofC a b c)) (U.quo .i64 (U.sub .i64 (lk cmFst (lk uF (lk ofF a b c) (lk ofB a b c) (lk ofC a b c)) (lk uB (lk ofF a b c) (lk
      ofB a b c) (lk ofC a b c)) (lk ofC a b c) (lk uF (lk ofF x y z) (lk ofB x y z) (lk ofC x y z)) (lk uB (lk ofF x y z) (lk ofB x y z) (lk ofC x y z)) (lk ofC x y z)) (lk uF (lk ofF a
      b c) (lk ofB a b c) (lk ofC a b c))) (lk uB (lk ofF a b c) (lk ofB a b c) (lk ofC a b c))) c) (lk kB (lk uF (lk ofF a b c) (lk ofB a b c) (lk ofC a b c)) (lk uB (lk ofF a b c) (lk
      ofB a b c) (lk ofC a b c)) (U.quo .i64 (U.sub .i64 (lk cmFst (lk uF (lk ofF a b c) (lk ofB a b c) (lk ofC a b c)) (lk uB (lk ofF a b c) (lk ofB a b c) (lk ofC a b c)) (lk ofC a b c)
      (lk uF (lk ofF x y z) (lk ofB x y z) (lk ofC x y z)) (lk uB (lk ofF x y z) (lk ofB x y z) (lk ofC x y z)) (lk ofC x y z)) (lk uF (lk ofF a b c) (lk ofB a b c) (lk ofC a b c))) (lk
      uB (lk ofF a b c) (lk ofB a b c) (lk ofC a b c))) c) (U.quo .i64 (U.sub .i64 (lk cmFst (lk uF (lk ofF a b c) (lk ofB a b c) (lk ofC a b c)) (lk uB (lk ofF a b c) (lk ofB a b c) (lk
      ofC a b c)) (lk ofC a b c) (lk uF (lk ofF x y z) (lk ofB x y z) (lk ofC x y z)) (lk uB (lk ofF x y z) (lk ofB x y z) (lk ofC x y z)) (lk ofC x y z)) (lk uF (lk ofF a b c) (lk ofB a
      b c) (lk ofC a b c))) (lk uB (lk ofF a b c) (lk ofB a b c) (lk ofC a b c))), lk nHigh (lk kF (lk uF (lk ofF a b c) (lk ofB a b c) (lk ofC a b c)) (lk uB (lk ofF a b c) (lk ofB a b
      c) (lk ofC a b c)) (U.quo .i64 (U.sub .i64 (lk cmFst (lk uF (lk ofF a b c) (lk ofB a b c) (lk ofC a b c)) (lk uB (lk ofF a b c) (lk ofB a b c) (lk ofC a b c)) (lk ofC a b c) (lk uF
      (lk ofF x y z) (lk ofB x y z) (lk ofC x y z)) (lk uB (lk ofF x y z) (lk ofB x y z) (lk ofC x y z)) (lk ofC x y z)) (lk uF (lk ofF a b c) (lk ofB a b c) (lk ofC a b c))) (lk uB (lk
      ofF a b c) (lk ofB a b c) (lk ofC a b c))) c) (lk kB (lk uF (lk ofF a b c) (lk ofB a b c) (lk ofC a b c)) (lk uB (lk ofF a b c) (lk ofB a b c) (lk ofC a b c)) (U.quo .i64 (U.sub
      .i64 (lk cmFst (lk uF (lk ofF a b c) (lk ofB a b c) (lk ofC a b c)) (lk uB (lk ofF a b c) (lk ofB a b c) (lk ofC a b c)) (lk ofC a b c) (lk uF (lk ofF x y z) (lk ofB x y z) (lk ofC
      x y z)) (lk uB (lk ofF x y z) (lk ofB x y z) (lk ofC x y z)) (lk ofC x y z)) (lk uF (lk ofF a b c) (lk ofB a b c) (lk ofC a b c))) (lk uB (lk ofF a b c) (lk ofB a b c) (lk ofC a b
      c))) c) (U.quo .i64 (U.sub .i64 (lk cmFst (lk uF (lk ofF a b c) (lk ofB a b c) (lk ofC a b c)) (lk uB (lk ofF a b c) (lk ofB a b c) (lk ofC a b c)) (lk ofC a b c) (lk uF (lk ofF x y
      z) (lk ofB x y z) (lk ofC x y z)) (lk uB (lk ofF x y z) (lk ofB x y z) (lk ofC x y z)) (lk ofC x y z)) (lk uF (lk ofF a b c) (lk ofB a b c) (lk ofC a b c))) (lk uB (lk ofF a b c)
      (lk ofB a b c) (lk ofC a b c))), lk nStr (lk kF (lk uF (lk ofF a b c) (lk ofB a b c) (lk ofC a b c)) (lk uB (lk ofF a b c) (lk ofB a b c) (lk ofC a b c)) (U.quo .i64 (U.sub .i64 (lk
      cmFst (lk uF (lk ofF a b c) (lk ofB a b c) (lk ofC a b c)) (lk uB (lk ofF a b c) (lk ofB a b c) (lk ofC a b c)) (lk ofC a b c) (lk uF (lk ofF x y z) (lk ofB x y z) (lk ofC x y z))
      (lk uB (lk ofF x y z) (lk ofB x y z) (lk ofC x y z)) (lk ofC x y z)) (lk uF (lk ofF a b c) (lk ofB a b c) (lk ofC a b c))) (lk uB (lk ofF a b c) (lk ofB a b c) (lk ofC a b c))) c)
      (lk kB (lk uF (lk ofF a b c) (lk ofB a b c) (lk ofC a b c)) (lk uB (lk ofF a b c) (lk ofB a b c) (lk ofC a b c)) (U.quo .i64 (U.sub .i64 (lk cmFst (lk uF (lk ofF a b c) (lk ofB a b
      c) (lk ofC a b c)) (lk uB (lk ofF a b c) (lk ofB a b c) (lk ofC a b c)) (lk ofC a b c) (lk uF (lk ofF x y z) (lk ofB x y z) (lk ofC x y z)) (lk uB (lk ofF x y z) (lk ofB x y z) (lk
      ofC x y z)) (lk ofC x y z)) (lk uF (lk ofF a b c) (lk ofB a b c) (lk ofC a b c))) (lk uB (lk ofF a b c) (lk ofB a b c) (lk ofC a b c))) c) (U.quo .i64 (U.sub .i64 (lk cmFst (lk uF
      (lk ofF a b c) (lk ofB a b c) (lk ofC a b c)) (lk uB (lk ofF a b c) (lk ofB a b c) (lk ofC a b c)) (lk ofC a b c) (lk uF (lk ofF x y z) (lk ofB x y z) (lk ofC x y z)) (lk uB (lk ofF
      x y z) (lk ofB x y z) (lk ofC x y z)) (lk ofC x y z)) (lk uF (lk ofF a b c) (lk ofB a b c) (lk ofC a b c))) (lk uB (lk ofF a b c) (lk ofB a b c) (lk ofC a b c))), PUnit.unit)), .lit
      (.int .i64 0)])))))))))))) (.ask (PreP (nat_lit 0) (lk uB (lk ofF a b c) (lk ofB a b c) (lk ofC a b c)) (lk cmFst (lk uF (lk ofF a b c) (lk ofB a b c) (lk ofC a b c)) (lk uB (lk ofF
      a b c) (lk ofB a b c) (lk ofC a b c)) (lk ofC a b c) (lk uF (lk ofF x y z) (lk ofB x y z) (lk ofC x y z)) (lk uB (lk ofF x y z) (lk ofB x y z) (lk ofC x y z)) (lk ofC x y z)) (lk
      cmBy (lk uF (lk ofF a b c) (lk ofB a b c) (lk ofC a b c)) (lk uB (lk ofF a b c) (lk ofB a b c) (lk ofC a b c)) (lk ofC a b c) (lk uF (lk ofF x y z) (lk ofB x y z) (lk ofC x y z))
      (lk uB (lk ofF x y z) (lk ofB x y z) (lk ofC x y z)) (lk ofC x y z)) (lk cmCnt (lk uF (lk ofF a b c) (lk ofB a b c) (lk ofC a b c)) (lk uB (lk ofF a b c) (lk ofB a b c) (lk ofC a b
      c)) (lk ofC a b c) (lk uF (lk ofF x y z) (lk ofB x y z) (lk ofC x y z)) (lk uB (lk ofF x y z) (lk ofB x y z) (lk ofC x y z)) (lk ofC x y z)) true (0 : Nat) ∧ lk uB (lk ofF a b c)
      (lk ofB a b c) (lk ofC a b c) = lk uB (lk ofF a b c) (lk ofB a b c) (lk ofC a b c)) (.ask (I64 (lk cmCnt (lk uF (lk ofF a b c) (lk ofB a b c) (lk ofC a b c)) (lk uB (lk ofF a b c)
      (lk ofB a b c) (lk ofC a b c)) (lk ofC a b c) (lk uF (lk ofF x y z) (lk ofB x y z) (lk ofC x y z)) (lk uB (lk ofF x y z) (lk ofB x y z) (lk ofC x y z)) (lk ofC x y z) - (1 : Int)) ∧
      I64 (lk cmBy (lk uF (lk ofF a b c) (lk ofB a b c) (lk ofC a b c)) (lk uB (lk ofF a b c) (lk ofB a b c) (lk ofC a b c)) (lk ofC a b c) (lk uF (lk ofF x y z) (lk ofB x y z) (lk ofC x
      y z)) (lk uB (lk ofF x y z) (lk ofB x y z) (lk ofC x y z)) (lk ofC x y z) * (lk cmCnt (lk uF (lk ofF a b c) (lk ofB a b c) (lk ofC a b c)) (lk uB (lk ofF a b c) (lk ofB a b c) (lk
      ofC a b c)) (lk ofC a b c) (lk uF (lk ofF x y z) (lk ofB x y z) (lk ofC x y z)) (lk uB (lk ofF x y z) (lk ofB x y z) (lk ofC x y z)) (lk ofC x y z) - (1 : Int))) ∧ I64 (lk cmFst (lk
      uF (lk ofF a b c) (lk ofB a b c) (lk ofC a b c)) (lk uB (lk ofF a b c) (lk ofB a b c) (lk ofC a b c)) (lk ofC a b c) (lk uF (lk ofF x y z) (lk ofB x y z) (lk ofC x y z)) (lk uB (lk
      ofF x y z) (lk ofB x y z) (lk ofC x y z)) (lk ofC x y z) + lk cmBy (lk uF (lk ofF a b c) (lk ofB a b c) (lk ofC a b c)) (lk uB (lk ofF a b c) (lk ofB a b c) (lk ofC a b c)) (lk ofC
      a b c) (lk uF (lk ofF x y z) (lk ofB x y z) (lk ofC x y z)) (lk uB (lk ofF x y z) (lk ofB x y z) (lk ofC x y z)) (lk ofC x y z) * (lk cmCnt (lk uF (lk ofF a b c) (lk ofB a b c) (lk
      ofC a b c)) (lk uB (lk ofF a b c) (lk ofB a b c) (lk ofC a b c)) (lk ofC a b c) (lk uF (lk ofF x y z) (lk ofB x y z) (lk ofC x y z)) (lk uB (lk ofF x y z) (lk ofB x y z) (lk ofC x y
      z)) (lk ofC x y z) - (1 : Int)))) (.ask (I64 (lk ofC a b c - (1 : Int)) ∧ I64 (lk uB (lk ofF a b c) (lk ofB a b c) (lk ofC a b c) * (lk ofC a b c - (1 : Int))) ∧ I64 (lk uF (lk ofF
      a b c) (lk ofB a b c) (lk ofC a b c) + lk uB (lk ofF a b c) (lk ofB a b c) (lk ofC a b c) * (lk ofC a b c - (1 : Int)))) (.ask (I64 (lk cmCnt (lk uF (lk ofF a b c) (lk ofB a b c)
      (lk ofC a b c)) (lk uB (lk ofF a b c) (lk ofB a b c) (lk ofC a b c)) (lk ofC a b c) (lk uF (lk ofF x y z) (lk ofB x y z) (lk ofC x y z)) (lk uB (lk ofF x y z) (lk ofB x y z) (lk ofC
      x y z)) (lk ofC x y z) - (1 : Int)) ∧ I64 (lk cmBy (lk uF (lk ofF a b c) (lk ofB a b c) (lk ofC a b c)) (lk uB (lk ofF a b c) (lk ofB a b c) (lk ofC a b c)) (lk ofC a b c) (lk uF
      (lk ofF x y z) (lk ofB x y z) (lk ofC x y z)) (lk uB (lk ofF x y z) (lk ofB x y z) (lk ofC x y z)) (lk ofC x y z) * (lk cmCnt (lk uF (lk ofF a b c) (lk ofB a b c) (lk ofC a b c))
      (lk uB (lk ofF a b c) (lk ofB a b c) (lk ofC a b c)) (lk ofC a b c) (lk uF (lk ofF x y z) (lk ofB x y z) (lk ofC x y z)) (lk uB (lk ofF x y z) (lk ofB x y z) (lk ofC x y z)) (lk ofC
      x y z) - (1 : Int))) ∧ I64 (lk cmFst (lk uF (lk ofF a b c) (lk ofB a b c) (lk ofC a b c)) (lk uB (lk ofF a b c) (lk ofB a b c) (lk ofC a b c)) (lk ofC a b c) (lk uF (lk ofF x y z)
      (lk ofB x y z) (lk ofC x y z)) (lk uB (lk ofF x y z) (lk ofB x y z) (lk ofC x y z)) (lk ofC x y z) + lk cmBy (lk uF (lk ofF a b c) (lk ofB a b c) (lk ofC a b c)) (lk uB (lk ofF a b
      c) (lk ofB a b c) (lk ofC a b c)) (lk ofC a b c) (lk uF (lk ofF x y z) (lk ofB x y z) (lk ofC x y z)) (lk uB (lk ofF x y z) (lk ofB x y z) (lk ofC x y z)) (lk ofC x y z) * (lk cmCnt
      (lk uF (lk ofF a b c) (lk ofB a b c) (lk ofC a b c)) (lk uB (lk ofF a b c) (lk ofB a b c) (lk ofC a b c)) (lk ofC a b c) (lk uF (lk ofF x y z) (lk ofB x y z) (lk ofC x y z)) (lk uB
      (lk ofF x y z) (lk ofB x y z) (lk ofC x y z)) (lk ofC x y z) - (1 : Int)))) (.ask (lk uB (lk ofF a b c) (lk ofB a b c) (lk ofC a b c) ≠ (0 : Int)) (.br (U.gt (U.quo .i64 (U.sub .i64
      (lk sLast (lk uF (lk ofF a b c) (lk ofB a b c) (lk ofC a b c)) (lk uB (lk ofF a b c) (lk ofB a b c) (lk ofC a b c)) (lk ofC a b c)) (lk sLast (lk cmFst (lk uF (lk ofF a b c) (lk ofB
      a b c) (lk ofC a b c)) (lk uB (lk ofF a b c) (lk ofB a b c) (lk ofC a b c)) (lk ofC a b c) (lk uF (lk ofF x y z) (lk ofB x y z) (lk ofC x y z)) (lk uB (lk ofF x y z) (lk ofB x y z)
      (lk ofC x y z)) (lk ofC x y z)) (lk cmBy (lk uF (lk ofF a b c) (lk ofB a b c) (lk ofC a b c)) (lk uB (lk ofF a b c) (lk ofB a b c) (lk ofC a b c)) (lk ofC a b c) (lk uF (lk ofF x y
      z) (lk ofB x y z) (lk ofC x y z)) (lk uB (lk ofF x y z) (lk ofB x y z) (lk ofC x y z)) (lk ofC x y z)) (lk cmCnt (lk uF (lk ofF a b c) (lk ofB a b c) (lk ofC a b c)) (lk uB (lk ofF
      a b c) (lk ofB a b c) (lk ofC a b c)) (lk ofC a b c) (lk uF (lk ofF x y z) (lk ofB x y z) (lk ofC x y z)) (lk uB (lk ofF x y z) (lk ofB x y z) (lk ofC x y z)) (lk ofC x y z)))) (lk
      uB (lk ofF a b c) (lk ofB a b c) (lk ofC a b c))) (0 : Int)) (.br (U.le (Int.ofNat (nat_lit 0 + lk pM (lk uB (lk ofF a b c) (lk ofB a b c) (lk ofC a b c)) (lk cmBy (lk uF (lk ofF a
      b c) (lk ofB a b c) (lk ofC a b c)) (lk uB (lk ofF a b c) (lk ofB a b c) (lk ofC a b c)) (lk ofC a b c) (lk uF (lk ofF x y z) (lk ofB x y z) (lk ofC x y z)) (lk uB (lk ofF x y z)
      (lk ofB x y z) (lk ofC x y z)) (lk ofC x y z)) (lk cmCnt (lk uF (lk ofF a b c) (lk ofB a b c) (lk ofC a b c)) (lk uB (lk ofF a b c) (lk ofB a b c) (lk ofC a b c)) (lk ofC a b c) (lk
      uF (lk ofF x y z) (lk ofB x y z) (lk ofC x y z)) (lk uB (lk ofF x y z) (lk ofB x y z) (lk ofC x y z)) (lk ofC x y z)) (nat_lit 0))) (1000 : Int)) (.ask (c < (0 : Int) → U.quo .i64
      (U.sub .i64 (lk sLast (lk uF (lk ofF a b c) (lk ofB a b c) (lk ofC a b c)) (lk uB (lk ofF a b c) (lk ofB a b c) (lk ofC a b c)) (lk ofC a b c)) (lk sLast (lk cmFst (lk uF (lk ofF a
      b c) (lk ofB a b c) (lk ofC a b c)) (lk uB (lk ofF a b c) (lk ofB a b c) (lk ofC a b c)) (lk ofC a b c) (lk uF (lk ofF x y z) (lk ofB x y z) (lk ofC x y z)) (lk uB (lk ofF x y z)
      (lk ofB x y z) (lk ofC x y z)) (lk ofC x y z)) (lk cmBy (lk uF (lk ofF a b c) (lk ofB a b c) (lk ofC a b c)) (lk uB (lk ofF a b c) (lk ofB a b c) (lk ofC a b c)) (lk ofC a b c) (lk
      uF (lk ofF x y z) (lk ofB x y z) (lk ofC x y z)) (lk uB (lk ofF x y z) (lk ofB x y z) (lk ofC x y z)) (lk ofC x y z)) (lk cmCnt (lk uF (lk ofF a b c) (lk ofB a b c) (lk ofC a b c))
      (lk uB (lk ofF a b c) (lk ofB a b c) (lk ofC a b c)) (lk ofC a b c) (lk uF (lk ofF x y z) (lk ofB x y z) (lk ofC x y z)) (lk uB (lk ofF x y z) (lk ofB x y z) (lk ofC x y z)) (lk ofC
      x y z)))) (lk uB (lk ofF a b c) (lk ofB a b c) (lk ofC a b c)) ≠ (0 : Int) → I64 (U.quo .i64 (U.sub .i64 (lk sLast (lk uF (lk ofF a b c) (lk ofB a b c) (lk ofC a b c)) (lk uB (lk
      ofF a b c) (lk ofB a b c) (lk ofC a b c)) (lk ofC a b c)) (lk sLast (lk cmFst (lk uF (lk ofF a b c) (lk ofB a b c) (lk ofC a b c)) (lk uB (lk ofF a b c) (lk ofB a b c) (lk ofC a b
      c)) (lk ofC a b c) (lk uF (lk ofF x y z) (lk ofB x y z) (lk ofC x y z)) (lk uB (lk ofF x y z) (lk ofB x y z) (lk ofC x y z)) (lk ofC x y z)) (lk cmBy (lk uF (lk ofF a b c) (lk ofB a
      b c) (lk ofC a b c)) (lk uB (lk ofF a b c) (lk ofB a b c) (lk ofC a b c)) (lk ofC a b c) (lk uF (lk ofF x y z) (lk ofB x y z) (lk ofC x y z)) (lk uB (lk ofF x y z) (lk ofB x y z)
      (lk ofC x y z)) (lk ofC x y z)) (lk cmCnt (lk uF (lk ofF a b c) (lk ofB a b c) (lk ofC a b c)) (lk uB (lk ofF a b c) (lk ofB a b c) (lk ofC a b c)) (lk ofC a b c) (lk uF (lk ofF x y
      z) (lk ofB x y z) (lk ofC x y z)) (lk uB (lk ofF x y z) (lk ofB x y z) (lk ofC x y z)) (lk ofC x y z)))) (lk uB (lk ofF a b c) (lk ofB a b c) (lk ofC a b c)) - (1 : Int)) ∧ I64 (lk
      uB (lk ofF a b c) (lk ofB a b c) (lk ofC a b c) * (U.quo .i64 (U.sub .i64 (lk sLast (lk uF (lk ofF a b c) (lk ofB a b c) (lk ofC a b c)) (lk uB (lk ofF a b c) (lk ofB a b c) (lk ofC
      a b c)) (lk ofC a b c)) (lk sLast (lk cmFst (lk uF (lk ofF a b c) (lk ofB a b c) (lk ofC a b c)) (lk uB (lk ofF a b c) (lk ofB a b c) (lk ofC a b c)) (lk ofC a b c) (lk uF (lk ofF x
      y z) (lk ofB x y z) (lk ofC x y z)) (lk uB (lk ofF x y z) (lk ofB x y z) (lk ofC x y z)) (lk ofC x y z)) (lk cmBy (lk uF (lk ofF a b c) (lk ofB a b c) (lk ofC a b c)) (lk uB (lk ofF
      a b c) (lk ofB a b c) (lk ofC a b c)) (lk ofC a b c) (lk uF (lk ofF x y z) (lk ofB x y z) (lk ofC x y z)) (lk uB (lk ofF x y z) (lk ofB x y z) (lk ofC x y z)) (lk ofC x y z)) (lk
      cmCnt (lk uF (lk ofF a b c) (lk ofB a b c) (lk ofC a b c)) (lk uB (lk ofF a b c) (lk ofB a b c) (lk ofC a b c)) (lk ofC a b c) (lk uF (lk ofF x y z) (lk ofB x y z) (lk ofC x y z))
      (lk uB (lk ofF x y z) (lk ofB x y z) (lk ofC x y z)) (lk ofC x y z)))) (lk uB (lk ofF a b c) (lk ofB a b c) (lk ofC a b c)) - (1 : Int))) ∧ I64 (U.add .i64 (lk sLast (lk cmFst (lk
      uF (lk ofF a b c) (lk ofB a b c) (lk ofC a b c)) (lk uB (lk ofF a b c) (lk ofB a b c) (lk ofC a b c)) (lk ofC a b c) (lk uF (lk ofF x y z) (lk ofB x y z) (lk ofC x y z)) (lk uB (lk
      ofF x y z) (lk ofB x y z) (lk ofC x y z)) (lk ofC x y z)) (lk cmBy (lk uF (lk ofF a b c) (lk ofB a b c) (lk ofC a b c)) (lk uB (lk ofF a b c) (lk ofB a b c) (lk ofC a b c)) (lk ofC
      a b c) (lk uF (lk ofF x y z) (lk ofB x y z) (lk ofC x y z)) (lk uB (lk ofF x y z) (lk ofB x y z) (lk ofC x y z)) (lk ofC x y z)) (lk cmCnt (lk uF (lk ofF a b c) (lk ofB a b c) (lk
      ofC a b c)) (lk uB (lk ofF a b c) (lk ofB a b c) (lk ofC a b c)) (lk ofC a b c) (lk uF (lk ofF x y z) (lk ofB x y z) (lk ofC x y z)) (lk uB (lk ofF x y z) (lk ofB x y z) (lk ofC x y
      z)) (lk ofC x y z))) (lk uB (lk ofF a b c) (lk ofB a b c) (lk ofC a b c)) + lk uB (lk ofF a b c) (lk ofB a b c) (lk ofC a b c) * (U.quo .i64 (U.sub .i64 (lk sLast (lk uF (lk ofF a b
      c) (lk ofB a b c) (lk ofC a b c)) (lk uB (lk ofF a b c) (lk ofB a b c) (lk ofC a b c)) (lk ofC a b c)) (lk sLast (lk cmFst (lk uF (lk ofF a b c) (lk ofB a b c) (lk ofC a b c)) (lk
      uB (lk ofF a b c) (lk ofB a b c) (lk ofC a b c)) (lk ofC a b c) (lk uF (lk ofF x y z) (lk ofB x y z) (lk ofC x y z)) (lk uB (lk ofF x y z) (lk ofB x y z) (lk ofC x y z)) (lk ofC x y
      z)) (lk cmBy (lk uF (lk ofF a b c) (lk ofB a b c) (lk ofC a b c)) (lk uB (lk ofF a b c) (lk ofB a b c) (lk ofC a b c)) (lk ofC a b c) (lk uF (lk ofF x y z) (lk ofB x y z) (lk ofC x
      y z)) (lk uB (lk ofF x y z) (lk ofB x y z) (lk ofC x y z)) (lk ofC x y z)) (lk cmCnt (lk uF (lk ofF a b c) (lk ofB a b c) (lk ofC a b c)) (lk uB (lk ofF a b c) (lk ofB a b c) (lk
      ofC a b c)) (lk ofC a b c) (lk uF (lk ofF x y z) (lk ofB x y z) (lk ofC x y z)) (lk uB (lk ofF x y z) (lk ofB x y z) (lk ofC x y z)) (lk ofC x y z)))) (lk uB (lk ofF a b c) (lk ofB
      a b c) (lk ofC a b c)) - (1 : Int))) ∧ I64 (-lk uB (lk ofF a b c) (lk ofB a b c) (lk ofC a b c))) (.ask ((0 : Int) < U.quo .i64 (U.sub .i64 (lk sLast (lk uF (lk ofF a b c) (lk ofB a
      b c) (lk ofC a b c)) (lk uB (lk ofF a b c) (lk ofB a b c) (lk ofC a b c)) (lk ofC a b c)) (lk sLast (lk cmFst (lk uF (lk ofF a b c) (lk ofB a b c) (lk ofC a b c)) (lk uB (lk ofF a b
      c) (lk ofB a b c) (lk ofC a b c)) (lk ofC a b c) (lk uF (lk ofF x y z) (lk ofB x y z) (lk ofC x y z)) (lk uB (lk ofF x y z) (lk ofB x y z) (lk ofC x y z)) (lk ofC x y z)) (lk cmBy
      (lk uF (lk ofF a b c) (lk ofB a b c) (lk ofC a b c)) (lk uB (lk ofF a b c) (lk ofB a b c) (lk ofC a b c)) (lk ofC a b c) (lk uF (lk ofF x y z) (lk ofB x y z) (lk ofC x y z)) (lk uB
      (lk ofF x y z) (lk ofB x y z) (lk ofC x y z)) (lk ofC x y z)) (lk cmCnt (lk uF (lk ofF a b c) (lk ofB a b c) (lk ofC a b c)) (lk uB (lk ofF a b c) (lk ofB a b c) (lk ofC a b c)) (lk
      ofC a b c) (lk uF (lk ofF x y z) (lk ofB x y z) (lk ofC x y z)) (lk uB (lk ofF x y z) (lk ofB x y z) (lk ofC x y z)) (lk ofC x y z)))) (lk uB (lk ofF a b c) (lk ofB a b c) (lk ofC a
      b c)) → I64 (U.quo .i64 (U.sub .i64 (lk sLast (lk uF (lk ofF a b c) (lk ofB a b c) (lk ofC a b c)) (lk uB (lk ofF a b c) (lk ofB a b c) (lk ofC a b c)) (lk ofC a b c)) (lk sLast (lk
      cmFst (lk uF (lk ofF a b c) (lk ofB a b c) (lk ofC a b c)) (lk uB (lk ofF a b c) (lk ofB a b c) (lk ofC a b c)) (lk ofC a b c) (lk uF (lk ofF x y z) (lk ofB x y z) (lk ofC x y z))
      (lk uB (lk ofF x y z) (lk ofB x y z) (lk ofC x y z)) (lk ofC x y z)) (lk cmBy (lk uF (lk ofF a b c) (lk ofB a b c) (lk ofC a b c)) (lk uB (lk ofF a b c) (lk ofB a b c) (lk ofC a b
      c)) (lk ofC a b c) (lk uF (lk ofF x y z) (lk ofB x y z) (lk ofC x y z)) (lk uB (lk ofF x y z) (lk ofB x y z) (lk ofC x y z)) (lk ofC x y z)) (lk cmCnt (lk uF (lk ofF a b c) (lk ofB
      a b c) (lk ofC a b c)) (lk uB (lk ofF a b c) (lk ofB a b c) (lk ofC a b c)) (lk ofC a b c) (lk uF (lk ofF x y z) (lk ofB x y z) (lk ofC x y z)) (lk uB (lk ofF x y z) (lk ofB x y z)
      (lk ofC x y z)) (lk ofC x y z)))) (lk uB (lk ofF a b c) (lk ofB a b c) (lk ofC a b c)) - (1 : Int)) ∧ I64 (lk kB (U.add .i64 (lk sLast (lk cmFst (lk uF (lk ofF a b c) (lk ofB a b c)
      (lk ofC a b c)) (lk uB (lk ofF a b c) (lk ofB a b c) (lk ofC a b c)) (lk ofC a b c) (lk uF (lk ofF x y z) (lk ofB x y z) (lk ofC x y z)) (lk uB (lk ofF x y z) (lk ofB x y z) (lk ofC
      x y z)) (lk ofC x y z)) (lk cmBy (lk uF (lk ofF a b c) (lk ofB a b c) (lk ofC a b c)) (lk uB (lk ofF a b c) (lk ofB a b c) (lk ofC a b c)) (lk ofC a b c) (lk uF (lk ofF x y z) (lk
      ofB x y z) (lk ofC x y z)) (lk uB (lk ofF x y z) (lk ofB x y z) (lk ofC x y z)) (lk ofC x y z)) (lk cmCnt (lk uF (lk ofF a b c) (lk ofB a b c) (lk ofC a b c)) (lk uB (lk ofF a b c)
      (lk ofB a b c) (lk ofC a b c)) (lk ofC a b c) (lk uF (lk ofF x y z) (lk ofB x y z) (lk ofC x y z)) (lk uB (lk ofF x y z) (lk ofB x y z) (lk ofC x y z)) (lk ofC x y z))) (lk uB (lk
      ofF a b c) (lk ofB a b c) (lk ofC a b c))) (lk uB (lk ofF a b c) (lk ofB a b c) (lk ofC a b c)) (U.quo .i64 (U.sub .i64 (lk sLast (lk uF (lk ofF a b c) (lk ofB a b c) (lk ofC a b
      c)) (lk uB (lk ofF a b c) (lk ofB a b c) (lk ofC a b c)) (lk ofC a b c)) (lk sLast (lk cmFst (lk uF (lk ofF a b c) (lk ofB a b c) (lk ofC a b c)) (lk uB (lk ofF a b c) (lk ofB a b
      c) (lk ofC a b c)) (lk ofC a b c) (lk uF (lk ofF x y z) (lk ofB x y z) (lk ofC x y z)) (lk uB (lk ofF x y z) (lk ofB x y z) (lk ofC x y z)) (lk ofC x y z)) (lk cmBy (lk uF (lk ofF a
      b c) (lk ofB a b c) (lk ofC a b c)) (lk uB (lk ofF a b c) (lk ofB a b c) (lk ofC a b c)) (lk ofC a b c) (lk uF (lk ofF x y z) (lk ofB x y z) (lk ofC x y z)) (lk uB (lk ofF x y z)
      (lk ofB x y z) (lk ofC x y z)) (lk ofC x y z)) (lk cmCnt (lk uF (lk ofF a b c) (lk ofB a b c) (lk ofC a b c)) (lk uB (lk ofF a b c) (lk ofB a b c) (lk ofC a b c)) (lk ofC a b c) (lk
      uF (lk ofF x y z) (lk ofB x y z) (lk ofC x y z)) (lk uB (lk ofF x y z) (lk ofB x y z) (lk ofC x y z)) (lk ofC x y z)))) (lk uB (lk ofF a b c) (lk ofB a b c) (lk ofC a b c))) c *
      (U.quo .i64 (U.sub .i64 (lk sLast (lk uF (lk ofF a b c) (lk ofB a b c) (lk ofC a b c)) (lk uB (lk ofF a b c) (lk ofB a b c) (lk ofC a b c)) (lk ofC a b c)) (lk sLast (lk cmFst (lk
      uF (lk ofF a b c) (lk ofB a b c) (lk ofC a b c)) (lk uB (lk ofF a b c) (lk ofB a b c) (lk ofC a b c)) (lk ofC a b c) (lk uF (lk ofF x y z) (lk ofB x y z) (lk ofC x y z)) (lk uB (lk
      ofF x y z) (lk ofB x y z) (lk ofC x y z)) (lk ofC x y z)) (lk cmBy (lk uF (lk ofF a b c) (lk ofB a b c) (lk ofC a b c)) (lk uB (lk ofF a b c) (lk ofB a b c) (lk ofC a b c)) (lk ofC
      a b c) (lk uF (lk ofF x y z) (lk ofB x y z) (lk ofC x y z)) (lk uB (lk ofF x y z) (lk ofB x y z) (lk ofC x y z)) (lk ofC x y z)) (lk cmCnt (lk uF (lk ofF a b c) (lk ofB a b c) (lk
      ofC a b c)) (lk uB (lk ofF a b c) (lk ofB a b c) (lk ofC a b c)) (lk ofC a b c) (lk uF (lk ofF x y z) (lk ofB x y z) (lk ofC x y z)) (lk uB (lk ofF x y z) (lk ofB x y z) (lk ofC x y
      z)) (lk ofC x y z)))) (lk uB (lk ofF a b c) (lk ofB a b c) (lk ofC a b c)) - (1 : Int))) ∧ I64 (lk kF (U.add .i64 (lk sLast (lk cmFst (lk uF (lk ofF a b c) (lk ofB a b c) (lk ofC a
      b c)) (lk uB (lk ofF a b c) (lk ofB a b c) (lk ofC a b c)) (lk ofC a b c) (lk uF (lk ofF x y z) (lk ofB x y z) (lk ofC x y z)) (lk uB (lk ofF x y z) (lk ofB x y z) (lk ofC x y z))
      (lk ofC x y z)) (lk cmBy (lk uF (lk ofF a b c) (lk ofB a b c) (lk ofC a b c)) (lk uB (lk ofF a b c) (lk ofB a b c) (lk ofC a b c)) (lk ofC a b c) (lk uF (lk ofF x y z) (lk ofB x y
      z) (lk ofC x y z)) (lk uB (lk ofF x y z) (lk ofB x y z) (lk ofC x y z)) (lk ofC x y z)) (lk cmCnt (lk uF (lk ofF a b c) (lk ofB a b c) (lk ofC a b c)) (lk uB (lk ofF a b c) (lk ofB
      a b c) (lk ofC a b c)) (lk ofC a b c) (lk uF (lk ofF x y z) (lk ofB x y z) (lk ofC x y z)) (lk uB (lk ofF x y z) (lk ofB x y z) (lk ofC x y z)) (lk ofC x y z))) (lk uB (lk ofF a b
      c) (lk ofB a b c) (lk ofC a b c))) (lk uB (lk ofF a b c) (lk ofB a b c) (lk ofC a b c)) (U.quo .i64 (U.sub .i64 (lk sLast (lk uF (lk ofF a b c) (lk ofB a b c) (lk ofC a b c)) (lk uB
      (lk ofF a b c) (lk ofB a b c) (lk ofC a b c)) (lk ofC a b c)) (lk sLast (lk cmFst (lk uF (lk ofF a b c) (lk ofB a b c) (lk ofC a b c)) (lk uB (lk ofF a b c) (lk ofB a b c) (lk ofC a
      b c)) (lk ofC a b c) (lk uF (lk ofF x y z) (lk ofB x y z) (lk ofC x y z)) (lk uB (lk ofF x y z) (lk ofB x y z) (lk ofC x y z)) (lk ofC x y z)) (lk cmBy (lk uF (lk ofF a b c) (lk ofB
      a b c) (lk ofC a b c)) (lk uB (lk ofF a b c) (lk ofB a b c) (lk ofC a b c)) (lk ofC a b c) (lk uF (lk ofF x y z) (lk ofB x y z) (lk ofC x y z)) (lk uB (lk ofF x y z) (lk ofB x y z)
      (lk ofC x y z)) (lk ofC x y z)) (lk cmCnt (lk uF (lk ofF a b c) (lk ofB a b c) (lk ofC a b c)) (lk uB (lk ofF a b c) (lk ofB a b c) (lk ofC a b c)) (lk ofC a b c) (lk uF (lk ofF x y
      z) (lk ofB x y z) (lk ofC x y z)) (lk uB (lk ofF x y z) (lk ofB x y z) (lk ofC x y z)) (lk ofC x y z)))) (lk uB (lk ofF a b c) (lk ofB a b c) (lk ofC a b c))) c + lk kB (U.add .i64
      (lk sLast (lk cmFst (lk uF (lk ofF a b c) (lk ofB a b c) (lk ofC a b c)) (lk uB (lk ofF a b c) (lk ofB a b c) (lk ofC a b c)) (lk ofC a b c) (lk uF (lk ofF x y z) (lk ofB x y z) (lk
      ofC x y z)) (lk uB (lk ofF x y z) (lk ofB x y z) (lk ofC x y z)) (lk ofC x y z)) (lk cmBy (lk uF (lk ofF a b c) (lk ofB a b c) (lk ofC a b c)) (lk uB (lk ofF a b c) (lk ofB a b c)
      (lk ofC a b c)) (lk ofC a b c) (lk uF (lk ofF x y z) (lk ofB x y z) (lk ofC x y z)) (lk uB (lk ofF x y z) (lk ofB x y z) (lk ofC x y z)) (lk ofC x y z)) (lk cmCnt (lk uF (lk ofF a b
      c) (lk ofB a b c) (lk ofC a b c)) (lk uB (lk ofF a b c) (lk ofB a b c) (lk ofC a b c)) (lk ofC a b c) (lk uF (lk ofF x y z) (lk ofB x y z) (lk ofC x y z)) (lk uB (lk ofF x y z) (lk
      ofB x y z) (lk ofC x y z)) (lk ofC x y z))) (lk uB (lk ofF a b c) (lk ofB a b c) (lk ofC a b c))) (lk uB (lk ofF a b c) (lk ofB a b c) (lk ofC a b c)) (U.quo .i64 (U.sub .i64 (lk
      sLast (lk uF (lk ofF a b c) (lk ofB a b c) (lk ofC a b c)) (lk uB (lk ofF a b c) (lk ofB a b c) (lk ofC a b c)) (lk ofC a b c)) (lk sLast (lk cmFst (lk uF (lk ofF a b c) (lk ofB a b
      c) (lk ofC a b c)) (lk uB (lk ofF a b c) (lk ofB a b c) (lk ofC a b c)) (lk ofC a b c) (lk uF (lk ofF x y z) (lk ofB x y z) (lk ofC x y z)) (lk uB (lk ofF x y z) (lk ofB x y z) (lk
      ofC x y z)) (lk ofC x y z)) (lk cmBy (lk uF (lk ofF a b c) (lk ofB a b c) (lk ofC a b c)) (lk uB (lk ofF a b c) (lk ofB a b c) (lk ofC a b c)) (lk ofC a b c) (lk uF (lk ofF x y z)
      (lk ofB x y z) (lk ofC x y z)) (lk uB (lk ofF x y z) (lk ofB x y z) (lk ofC x y z)) (lk ofC x y z)) (lk cmCnt (lk uF (lk ofF a b c) (lk ofB a b c) (lk ofC a b c)) (lk uB (lk ofF a b
      c) (lk ofB a b c) (lk ofC a b c)) (lk ofC a b c) (lk uF (lk ofF x y z) (lk ofB x y z) (lk ofC x y z)) (lk uB (lk ofF x y z) (lk ofB x y z) (lk ofC x y z)) (lk ofC x y z)))) (lk uB
      (lk ofF a b c) (lk ofB a b c) (lk ofC a b c))) c * (U.quo .i64 (U.sub .i64 (lk sLast (lk uF (lk ofF a b c) (lk ofB a b c) (lk ofC a b c)) (lk uB (lk ofF a b c) (lk ofB a b c) (lk
      ofC a b c)) (lk ofC a b c)) (lk sLast (lk cmFst (lk uF (lk ofF a b c) (lk ofB a b c) (lk ofC a b c)) (lk uB (lk ofF a b c) (lk ofB a b c) (lk ofC a b c)) (lk ofC a b c) (lk uF (lk
      ofF x y z) (lk ofB x y z) (lk ofC x y z)) (lk uB (lk ofF x y z) (lk ofB x y z) (lk ofC x y z)) (lk ofC x y z)) (lk cmBy (lk uF (lk ofF a b c) (lk ofB a b c) (lk ofC a b c)) (lk uB
      (lk ofF a b c) (lk ofB a b c) (lk ofC a b c)) (lk ofC a b c) (lk uF (lk ofF x y z) (lk ofB x y z) (lk ofC x y z)) (lk uB (lk ofF x y z) (lk ofB x y z) (lk ofC x y z)) (lk ofC x y
      z)) (lk cmCnt (lk uF (lk ofF a b c) (lk ofB a b c) (lk ofC a b c)) (lk uB (lk ofF a b c) (lk ofB a b c) (lk ofC a b c)) (lk ofC a b c) (lk uF (lk ofF x y z) (lk ofB x y z) (lk ofC x
      y z)) (lk uB (lk ofF x y z) (lk ofB x y z) (lk ofC x y z)) (lk ofC x y z)))) (lk uB (lk ofF a b c) (lk ofB a b c) (lk ofC a b c)) - (1 : Int)))) (.ask (((0 : Nat) + lk pM (lk uB (lk
      ofF a b c) (lk ofB a b c) (lk ofC a b c)) (lk cmBy (lk uF (lk ofF a b c) (lk ofB a b c) (lk ofC a b c)) (lk uB (lk ofF a b c) (lk ofB a b c) (lk ofC a b c)) (lk ofC a b c) (lk uF
      (lk ofF x y z) (lk ofB x y z) (lk ofC x y z)) (lk uB (lk ofF x y z) (lk ofB x y z) (lk ofC x y z)) (lk ofC x y z)) (lk cmCnt (lk uF (lk ofF a b c) (lk ofB a b c) (lk ofC a b c)) (lk
      uB (lk ofF a b c) (lk ofB a b c) (lk ofC a b c)) (lk ofC a b c) (lk uF (lk ofF x y z) (lk ofB x y z) (lk ofC x y z)) (lk uB (lk ofF x y z) (lk ofB x y z) (lk ofC x y z)) (lk ofC x y
      z)) (nat_lit 0) + (1 : Nat)) * nat_lit 24 ≤ nat_lit 140737488351232) (.br (U.gt (Int.ofNat ((nat_lit 0 + lk pM (lk uB (lk ofF a b c) (lk ofB a b c) (lk ofC a b c)) (lk cmBy (lk uF
      (lk ofF a b c) (lk ofB a b c) (lk ofC a b c)) (lk uB (lk ofF a b c) (lk ofB a b c) (lk ofC a b c)) (lk ofC a b c) (lk uF (lk ofF x y z) (lk ofB x y z) (lk ofC x y z)) (lk uB (lk ofF
      x y z) (lk ofB x y z) (lk ofC x y z)) (lk ofC x y z)) (lk cmCnt (lk uF (lk ofF a b c) (lk ofB a b c) (lk ofC a b c)) (lk uB (lk ofF a b c) (lk ofB a b c) (lk ofC a b c)) (lk ofC a b
      c) (lk uF (lk ofF x y z) (lk ofB x y z) (lk ofC x y z)) (lk uB (lk ofF x y z) (lk ofB x y z) (lk ofC x y z)) (lk ofC x y z)) (nat_lit 0)).add (nat_lit 1))) (1000 : Int)) (.ret (.tup
      [.lit (.slice none (nat_lit 0) (nat_lit 0)), .lit (.int .i64 7)])) (.ret (.tup [.row [.int .i64, .int .i64, .int .i64] ((nat_lit 0 + lk pM (lk uB (lk ofF a b c) (lk ofB a b c) (lk
      ofC a b c)) (lk cmBy (lk uF (lk ofF a b c) (lk ofB a b c) (lk ofC a b c)) (lk uB (lk ofF a b c) (lk ofB a b c) (lk ofC a b c)) (lk ofC a b c) (lk uF (lk ofF x y z) (lk ofB x y z)
      (lk ofC x y z)) (lk uB (lk ofF x y z) (lk ofB x y z) (lk ofC x y z)) (lk ofC x y z)) (lk cmCnt (lk uF (lk ofF a b c) (lk ofB a b c) (lk ofC a b c)) (lk uB (lk ofF a b c) (lk ofB a b
      c) (lk ofC a b c)) (lk ofC a b c) (lk uF (lk ofF x y z) (lk ofB x y z) (lk ofC x y z)) (lk uB (lk ofF x y z) (lk ofB x y z) (lk ofC x y z)) (lk ofC x y z)) (nat_lit 0)).add (nat_lit
      1)) (U.cat (nat_lit 0 + lk pM (lk uB (lk ofF a b c) (lk ofB a b c) (lk ofC a b c)) (lk cmBy (lk uF (lk ofF a b c) (lk ofB a b c) (lk ofC a b c)) (lk uB (lk ofF a b c) (lk ofB a b c)
      (lk ofC a b c)) (lk ofC a b c) (lk uF (lk ofF x y z) (lk ofB x y z) (lk ofC x y z)) (lk uB (lk ofF x y z) (lk ofB x y z) (lk ofC x y z)) (lk ofC x y z)) (lk cmCnt (lk uF (lk ofF a b
      c) (lk ofB a b c) (lk ofC a b c)) (lk uB (lk ofF a b c) (lk ofB a b c) (lk ofC a b c)) (lk ofC a b c) (lk uF (lk ofF x y z) (lk ofB x y z) (lk ofC x y z)) (lk uB (lk ofF x y z) (lk
      ofB x y z) (lk ofC x y z)) (lk ofC x y z)) (nat_lit 0)) (lk ppF c (lk uB (lk ofF a b c) (lk ofB a b c) (lk ofC a b c)) (lk cmFst (lk uF (lk ofF a b c) (lk ofB a b c) (lk ofC a b c))
      (lk uB (lk ofF a b c) (lk ofB a b c) (lk ofC a b c)) (lk ofC a b c) (lk uF (lk ofF x y z) (lk ofB x y z) (lk ofC x y z)) (lk uB (lk ofF x y z) (lk ofB x y z) (lk ofC x y z)) (lk ofC
      x y z)) (lk cmBy (lk uF (lk ofF a b c) (lk ofB a b c) (lk ofC a b c)) (lk uB (lk ofF a b c) (lk ofB a b c) (lk ofC a b c)) (lk ofC a b c) (lk uF (lk ofF x y z) (lk ofB x y z) (lk
      ofC x y z)) (lk uB (lk ofF x y z) (lk ofB x y z) (lk ofC x y z)) (lk ofC x y z)) (lk cmCnt (lk uF (lk ofF a b c) (lk ofB a b c) (lk ofC a b c)) (lk uB (lk ofF a b c) (lk ofB a b c)
      (lk ofC a b c)) (lk ofC a b c) (lk uF (lk ofF x y z) (lk ofB x y z) (lk ofC x y z)) (lk uB (lk ofF x y z) (lk ofB x y z) (lk ofC x y z)) (lk ofC x y z)) (nat_lit 0) fun x => ((0 :
      Int), (0 : Int), (0 : Int), PUnit.unit)) fun x_1 => (lk nLow (lk kF (U.add .i64 (lk sLast (lk cmFst (lk uF (lk ofF a b c) (lk ofB a b c) (lk ofC a b c)) (lk uB (lk ofF a b c) (lk
      ofB a b c) (lk ofC a b c)) (lk ofC a b c) (lk uF (lk ofF x y z) (lk ofB x y z) (lk ofC x y z)) (lk uB (lk ofF x y z) (lk ofB x y z) (lk ofC x y z)) (lk ofC x y z)) (lk cmBy (lk uF
      (lk ofF a b c) (lk ofB a b c) (lk ofC a b c)) (lk uB (lk ofF a b c) (lk ofB a b c) (lk ofC a b c)) (lk ofC a b c) (lk uF (lk ofF x y z) (lk ofB x y z) (lk ofC x y z)) (lk uB (lk ofF
      x y z) (lk ofB x y z) (lk ofC x y z)) (lk ofC x y z)) (lk cmCnt (lk uF (lk ofF a b c) (lk ofB a b c) (lk ofC a b c)) (lk uB (lk ofF a b c) (lk ofB a b c) (lk ofC a b c)) (lk ofC a b
      c) (lk uF (lk ofF x y z) (lk ofB x y z) (lk ofC x y z)) (lk uB (lk ofF x y z) (lk ofB x y z) (lk ofC x y z)) (lk ofC x y z))) (lk uB (lk ofF a b c) (lk ofB a b c) (lk ofC a b c)))
      (lk uB (lk ofF a b c) (lk ofB a b c) (lk ofC a b c)) (U.quo .i64 (U.sub .i64 (lk sLast (lk uF (lk ofF a b c) (lk ofB a b c) (lk ofC a b c)) (lk uB (lk ofF a b c) (lk ofB a b c) (lk
      ofC a b c)) (lk ofC a b c)) (lk sLast (lk cmFst (lk uF (lk ofF a b c) (lk ofB a b c) (lk ofC a b c)) (lk uB (lk ofF a b c) (lk ofB a b c) (lk ofC a b c)) (lk ofC a b c) (lk uF (lk
      ofF x y z) (lk ofB x y z) (lk ofC x y z)) (lk uB (lk ofF x y z) (lk ofB x y z) (lk ofC x y z)) (lk ofC x y z)) (lk cmBy (lk uF (lk ofF a b c) (lk ofB a b c) (lk ofC a b c)) (lk uB
      (lk ofF a b c) (lk ofB a b c) (lk ofC a b c)) (lk ofC a b c) (lk uF (lk ofF x y z) (lk ofB x y z) (lk ofC x y z)) (lk uB (lk ofF x y z) (lk ofB x y z) (lk ofC x y z)) (lk ofC x y
      z)) (lk cmCnt (lk uF (lk ofF a b c) (lk ofB a b c) (lk ofC a b c)) (lk uB (lk ofF a b c) (lk ofB a b c) (lk ofC a b c)) (lk ofC a b c) (lk uF (lk ofF x y z) (lk ofB x y z) (lk ofC x
      y z)) (lk uB (lk ofF x y z) (lk ofB x y z) (lk ofC x y z)) (lk ofC x y z)))) (lk uB (lk ofF a b c) (lk ofB a b c) (lk ofC a b c))) c) (lk kB (U.add .i64 (lk sLast (lk cmFst (lk uF
      (lk ofF a b c) (lk ofB a b c) (lk ofC a b c)) (lk uB (lk ofF a b c) (lk ofB a b c) (lk ofC a b c)) (lk ofC a b c) (lk uF (lk ofF x y z) (lk ofB x y z) (lk ofC x y z)) (lk uB (lk ofF
      x y z) (lk ofB x y z) (lk ofC x y z)) (lk ofC x y z)) (lk cmBy (lk uF (lk ofF a b c) (lk ofB a b c) (lk ofC a b c)) (lk uB (lk ofF a b c) (lk ofB a b c) (lk ofC a b c)) (lk ofC a b
      c) (lk uF (lk ofF x y z) (lk ofB x y z) (lk ofC x y z)) (lk uB (lk ofF x y z) (lk ofB x y z) (lk ofC x y z)) (lk ofC x y z)) (lk cmCnt (lk uF (lk ofF a b c) (lk ofB a b c) (lk ofC a
      b c)) (lk uB (lk ofF a b c) (lk ofB a b c) (lk ofC a b c)) (lk ofC a b c) (lk uF (lk ofF x y z) (lk ofB x y z) (lk ofC x y z)) (lk uB (lk ofF x y z) (lk ofB x y z) (lk ofC x y z))
      (lk ofC x y z))) (lk uB (lk ofF a b c) (lk ofB a b c) (lk ofC a b c))) (lk uB (lk ofF a b c) (lk ofB a b c) (lk ofC a b c)) (U.quo .i64 (U.sub .i64 (lk sLast (lk uF (lk ofF a b c)
      (lk ofB a b c) (lk ofC a b c)) (lk uB (lk ofF a b c) (lk ofB a b c) (lk ofC a b c)) (lk ofC a b c)) (lk sLast (lk cmFst (lk uF (lk ofF a b c) (lk ofB a b c) (lk ofC a b c)) (lk uB
      (lk ofF a b c) (lk ofB a b c) (lk ofC a b c)) (lk ofC a b c) (lk uF (lk ofF x y z) (lk ofB x y z) (lk ofC x y z)) (lk uB (lk ofF x y z) (lk ofB x y z) (lk ofC x y z)) (lk ofC x y
      z)) (lk cmBy (lk uF (lk ofF a b c) (lk ofB a b c) (lk ofC a b c)) (lk uB (lk ofF a b c) (lk ofB a b c) (lk ofC a b c)) (lk ofC a b c) (lk uF (lk ofF x y z) (lk ofB x y z) (lk ofC x
      y z)) (lk uB (lk ofF x y z) (lk ofB x y z) (lk ofC x y z)) (lk ofC x y z)) (lk cmCnt (lk uF (lk ofF a b c) (lk ofB a b c) (lk ofC a b c)) (lk uB (lk ofF a b c) (lk ofB a b c) (lk
      ofC a b c)) (lk ofC a b c) (lk uF (lk ofF x y z) (lk ofB x y z) (lk ofC x y z)) (lk uB (lk ofF x y z) (lk ofB x y z) (lk ofC x y z)) (lk ofC x y z)))) (lk uB (lk ofF a b c) (lk ofB
      a b c) (lk ofC a b c))) c) (U.quo .i64 (U.sub .i64 (lk sLast (lk uF (lk ofF a b c) (lk ofB a b c) (lk ofC a b c)) (lk uB (lk ofF a b c) (lk ofB a b c) (lk ofC a b c)) (lk ofC a b
      c)) (lk sLast (lk cmFst (lk uF (lk ofF a b c) (lk ofB a b c) (lk ofC a b c)) (lk uB (lk ofF a b c) (lk ofB a b c) (lk ofC a b c)) (lk ofC a b c) (lk uF (lk ofF x y z) (lk ofB x y z)
      (lk ofC x y z)) (lk uB (lk ofF x y z) (lk ofB x y z) (lk ofC x y z)) (lk ofC x y z)) (lk cmBy (lk uF (lk ofF a b c) (lk ofB a b c) (lk ofC a b c)) (lk uB (lk ofF a b c) (lk ofB a b
      c) (lk ofC a b c)) (lk ofC a b c) (lk uF (lk ofF x y z) (lk ofB x y z) (lk ofC x y z)) (lk uB (lk ofF x y z) (lk ofB x y z) (lk ofC x y z)) (lk ofC x y z)) (lk cmCnt (lk uF (lk ofF
      a b c) (lk ofB a b c) (lk ofC a b c)) (lk uB (lk ofF a b c) (lk ofB a b c) (lk ofC a b c)) (lk ofC a b c) (lk uF (lk ofF x y z) (lk ofB x y z) (lk ofC x y z)) (lk uB (lk ofF x y z)
      (lk ofB x y z) (lk ofC x y z)) (lk ofC x y z)))) (lk uB (lk ofF a b c) (lk ofB a b c) (lk ofC a b c))), lk nHigh (lk kF (U.add .i64 (lk sLast (lk cmFst (lk uF (lk ofF a b c) (lk ofB
      a b c) (lk ofC a b c)) (lk uB (lk ofF a b c) (lk ofB a b c) (lk ofC a b c)) (lk ofC a b c) (lk uF (lk ofF x y z) (lk ofB x y z) (lk ofC x y z)) (lk uB (lk ofF x y z) (lk ofB x y z)
      (lk ofC x y z)) (lk ofC x y z)) (lk cmBy (lk uF (lk ofF a b c) (lk ofB a b c) (lk ofC a b c)) (lk uB (lk ofF a b c) (lk ofB a b c) (lk ofC a b c)) (lk ofC a b c) (lk uF (lk ofF x y
      z) (lk ofB x y z) (lk ofC x y z)) (lk uB (lk ofF x y z) (lk ofB x y z) (lk ofC x y z)) (lk ofC x y z)) (lk cmCnt (lk uF (lk ofF a b c) (lk ofB a b c) (lk ofC a b c)) (lk uB (lk ofF
      a b c) (lk ofB a b c) (lk ofC a b c)) (lk ofC a b c) (lk uF (lk ofF x y z) (lk ofB x y z) (lk ofC x y z)) (lk uB (lk ofF x y z) (lk ofB x y z) (lk ofC x y z)) (lk ofC x y z))) (lk
      uB (lk ofF a b c) (lk ofB a b c) (lk ofC a b c))) (lk uB (lk ofF a b c) (lk ofB a b c) (lk ofC a b c)) (U.quo .i64 (U.sub .i64 (lk sLast (lk uF (lk ofF a b c) (lk ofB a b c) (lk ofC
      a b c)) (lk uB (lk ofF a b c) (lk ofB a b c) (lk ofC a b c)) (lk ofC a b c)) (lk sLast (lk cmFst (lk uF (lk ofF a b c) (lk ofB a b c) (lk ofC a b c)) (lk uB (lk ofF a b c) (lk ofB a
      b c) (lk ofC a b c)) (lk ofC a b c) (lk uF (lk ofF x y z) (lk ofB x y z) (lk ofC x y z)) (lk uB (lk ofF x y z) (lk ofB x y z) (lk ofC x y z)) (lk ofC x y z)) (lk cmBy (lk uF (lk ofF
      a b c) (lk ofB a b c) (lk ofC a b c)) (lk uB (lk ofF a b c) (lk ofB a b c) (lk ofC a b c)) (lk ofC a b c) (lk uF (lk ofF x y z) (lk ofB x y z) (lk ofC x y z)) (lk uB (lk ofF x y z)
      (lk ofB x y z) (lk ofC x y z)) (lk ofC x y z)) (lk cmCnt (lk uF (lk ofF a b c) (lk ofB a b c) (lk ofC a b c)) (lk uB (lk ofF a b c) (lk ofB a b c) (lk ofC a b c)) (lk ofC a b c) (lk
      uF (lk ofF x y z) (lk ofB x y z) (lk ofC x y z)) (lk uB (lk ofF x y z) (lk ofB x y z) (lk ofC x y z)) (lk ofC x y z)))) (lk uB (lk ofF a b c) (lk ofB a b c) (lk ofC a b c))) c) (lk
      kB (U.add .i64 (lk sLast (lk cmFst (lk uF (lk ofF a b c) (lk ofB a b c) (lk ofC a b c)) (lk uB (lk ofF a b c) (lk ofB a b c) (lk ofC a b c)) (lk ofC a b c) (lk uF (lk ofF x y z) (lk
      ofB x y z) (lk ofC x y z)) (lk uB (lk ofF x y z) (lk ofB x y z) (lk ofC x y z)) (lk ofC x y z)) (lk cmBy (lk uF (lk ofF a b c) (lk ofB a b c) (lk ofC a b c)) (lk uB (lk ofF a b c)
      (lk ofB a b c) (lk ofC a b c)) (lk ofC a b c) (lk uF (lk ofF x y z) (lk ofB x y z) (lk ofC x y z)) (lk uB (lk ofF x y z) (lk ofB x y z) (lk ofC x y z)) (lk ofC x y z)) (lk cmCnt (lk
      uF (lk ofF a b c) (lk ofB a b c) (lk ofC a b c)) (lk uB (lk ofF a b c) (lk ofB a b c) (lk ofC a b c)) (lk ofC a b c) (lk uF (lk ofF x y z) (lk ofB x y z) (lk ofC x y z)) (lk uB (lk
      ofF x y z) (lk ofB x y z) (lk ofC x y z)) (lk ofC x y z))) (lk uB (lk ofF a b c) (lk ofB a b c) (lk ofC a b c))) (lk uB (lk ofF a b c) (lk ofB a b c) (lk ofC a b c)) (U.quo .i64
      (U.sub .i64 (lk sLast (lk uF (lk ofF a b c) (lk ofB a b c) (lk ofC a b c)) (lk uB (lk ofF a b c) (lk ofB a b c) (lk ofC a b c)) (lk ofC a b c)) (lk sLast (lk cmFst (lk uF (lk ofF a
      b c) (lk ofB a b c) (lk ofC a b c)) (lk uB (lk ofF a b c) (lk ofB a b c) (lk ofC a b c)) (lk ofC a b c) (lk uF (lk ofF x y z) (lk ofB x y z) (lk ofC x y z)) (lk uB (lk ofF x y z)
      (lk ofB x y z) (lk ofC x y z)) (lk ofC x y z)) (lk cmBy (lk uF (lk ofF a b c) (lk ofB a b c) (lk ofC a b c)) (lk uB (lk ofF a b c) (lk ofB a b c) (lk ofC a b c)) (lk ofC a b c) (lk
      uF (lk ofF x y z) (lk ofB x y z) (lk ofC x y z)) (lk uB (lk ofF x y z) (lk ofB x y z) (lk ofC x y z)) (lk ofC x y z)) (lk cmCnt (lk uF (lk ofF a b c) (lk ofB a b c) (lk ofC a b c))
      (lk uB (lk ofF a b c) (lk ofB a b c) (lk ofC a b c)) (lk ofC a b c) (lk uF (lk ofF x y z) (lk ofB x y z) (lk ofC x y z)) (lk uB (lk ofF x y z) (lk ofB x y z) (lk ofC x y z)) (lk ofC
      x y z)))) (lk uB (lk ofF a b c) (lk ofB a b c) (lk ofC a b c))) c) (U.quo .i64 (U.sub .i64 (lk sLast (lk uF (lk ofF a b c) (lk ofB a b c) (lk ofC a b c)) (lk uB (lk ofF a b c) (lk
      ofB a b c) (lk ofC a b c)) (lk ofC a b c)) (lk sLast (lk cmFst (lk uF (lk ofF a b c) (lk ofB a b c) (lk ofC a b c)) (lk uB (lk ofF a b c) (lk ofB a b c) (lk ofC a b c)) (lk ofC a b
      c) (lk uF (lk ofF x y z) (lk ofB x y z) (lk ofC x y z)) (lk uB (lk ofF x y z) (lk ofB x y z) (lk ofC x y z)) (lk ofC x y z)) (lk cmBy (lk uF (lk ofF a b c) (lk ofB a b c) (lk ofC a
      b c)) (lk uB (lk ofF a b c) (lk ofB a b c) (lk ofC a b c)) (lk ofC a b c) (lk uF (lk ofF x y z) (lk ofB x y z) (lk ofC x y z)) (lk uB (lk ofF x y z) (lk ofB x y z) (lk ofC x y z))
      (lk ofC x y z)) (lk cmCnt (lk uF (lk ofF a b c) (lk ofB a b c) (lk ofC a b c)) (lk uB (lk ofF a b c) (lk ofB a b c) (lk ofC a b c)) (lk ofC a b c) (lk uF (lk ofF x y z) (lk ofB x y
      z) (lk ofC x y z)) (lk uB (lk ofF x y z) (lk ofB x y z) (lk ofC x y z)) (lk ofC x y z)))) (lk uB (lk ofF a b c) (lk ofB a b c) (lk ofC a b c))), lk nStr (lk kF (U.add .i64 (lk sLast
      (lk cmFst (lk uF (lk ofF a b c) (lk ofB a b c) (lk ofC a b c)) (lk uB (lk ofF a b c) (lk ofB a b c) (lk ofC a b c)) (lk ofC a b c) (lk uF (lk ofF x y z) (lk ofB x y z) (lk ofC x y
      z)) (lk uB (lk ofF x y z) (lk ofB x y z) (lk ofC x y z)) (lk ofC x y z)) (lk cmBy (lk uF (lk ofF a b c) (lk ofB a b c) (lk ofC a b c)) (lk uB (lk ofF a b c) (lk ofB a b c) (lk ofC a
      b c)) (lk ofC a b c) (lk uF (lk ofF x y z) (lk ofB x y z) (lk ofC x y z)) (lk uB (lk ofF x y z) (lk ofB x y z) (lk ofC x y z)) (lk ofC x y z)) (lk cmCnt (lk uF (lk ofF a b c) (lk
      ofB a b c) (lk ofC a b c)) (lk uB (lk ofF a b c) (lk ofB a b c) (lk ofC a b c)) (lk ofC a b c) (lk uF (lk ofF x y z) (lk ofB x y z) (lk ofC x y z)) (lk uB (lk ofF x y z) (lk ofB x y
      z) (lk ofC x y z)) (lk ofC x y z))) (lk uB (lk ofF a b c) (lk ofB a b c) (lk ofC a b c))) (lk uB (lk ofF a b c) (lk ofB a b c) (lk ofC a b c)) (U.quo .i64 (U.sub .i64 (lk sLast (lk
      uF (lk ofF a b c) (lk ofB a b c) (lk ofC a b c)) (lk uB (lk ofF a b c) (lk ofB a b c) (lk ofC a b c)) (lk ofC a b c)) (lk sLast (lk cmFst (lk uF (lk ofF a b c) (lk ofB a b c) (lk
      ofC a b c)) (lk uB (lk ofF a b c) (lk ofB a b c) (lk ofC a b c)) (lk ofC a b c) (lk uF (lk ofF x y z) (lk ofB x y z) (lk ofC x y z)) (lk uB (lk ofF x y z) (lk ofB x y z) (lk ofC x y
      z)) (lk ofC x y z)) (lk cmBy (lk uF (lk ofF a b c) (lk ofB a b c) (lk ofC a b c)) (lk uB (lk ofF a b c) (lk ofB a b c) (lk ofC a b c)) (lk ofC a b c) (lk uF (lk ofF x y z) (lk ofB x
      y z) (lk ofC x y z)) (lk uB (lk ofF x y z) (lk ofB x y z) (lk ofC x y z)) (lk ofC x y z)) (lk cmCnt (lk uF (lk ofF a b c) (lk ofB a b c) (lk ofC a b c)) (lk uB (lk ofF a b c) (lk
      ofB a b c) (lk ofC a b c)) (lk ofC a b c) (lk uF (lk ofF x y z) (lk ofB x y z) (lk ofC x y z)) (lk uB (lk ofF x y z) (lk ofB x y z) (lk ofC x y z)) (lk ofC x y z)))) (lk uB (lk ofF
      a b c) (lk ofB a b c) (lk ofC a b c))) c) (lk kB (U.add .i64 (lk sLast (lk cmFst (lk uF (lk ofF a b c) (lk ofB a b c) (lk ofC a b c)) (lk uB (lk ofF a b c) (lk ofB a b c) (lk ofC a
      b c)) (lk ofC a b c) (lk uF (lk ofF x y z) (lk ofB x y z) (lk ofC x y z)) (lk uB (lk ofF x y z) (lk ofB x y z) (lk ofC x y z)) (lk ofC x y z)) (lk cmBy (lk uF (lk ofF a b c) (lk ofB
      a b c) (lk ofC a b c)) (lk uB (lk ofF a b c) (lk ofB a b c) (lk ofC a b c)) (lk ofC a b c) (lk uF (lk ofF x y z) (lk ofB x y z) (lk ofC x y z)) (lk uB (lk ofF x y z) (lk ofB x y z)
      (lk ofC x y z)) (lk ofC x y z)) (lk cmCnt (lk uF (lk ofF a b c) (lk ofB a b c) (lk ofC a b c)) (lk uB (lk ofF a b c) (lk ofB a b c) (lk ofC a b c)) (lk ofC a b c) (lk uF (lk ofF x y
      z) (lk ofB x y z) (lk ofC x y z)) (lk uB (lk ofF x y z) (lk ofB x y z) (lk ofC x y z)) (lk ofC x y z))) (lk uB (lk ofF a b c) (lk ofB a b c) (lk ofC a b c))) (lk uB (lk ofF a b c)
      (lk ofB a b c) (lk ofC a b c)) (U.quo .i64 (U.sub .i64 (lk sLast (lk uF (lk ofF a b c) (lk ofB a b c) (lk ofC a b c)) (lk uB (lk ofF a b c) (lk ofB a b c) (lk ofC a b c)) (lk ofC a
      b c)) (lk sLast (lk cmFst (lk uF (lk ofF a b c) (lk ofB a b c) (lk ofC a b c)) (lk uB (lk ofF a b c) (lk ofB a b c) (lk ofC a b c)) (lk ofC a b c) (lk uF (lk ofF x y z) (lk ofB x y
      z) (lk ofC x y z)) (lk uB (lk ofF x y z) (lk ofB x y z) (lk ofC x y z)) (lk ofC x y z)) (lk cmBy (lk uF (lk ofF a b c) (lk ofB a b c) (lk ofC a b c)) (lk uB (lk ofF a b c) (lk ofB a
      b c) (lk ofC a b c)) (lk ofC a b c) (lk uF (lk ofF x y z) (lk ofB x y z) (lk ofC x y z)) (lk uB (lk ofF x y z) (lk ofB x y z) (lk ofC x y z)) (lk ofC x y z)) (lk cmCnt (lk uF (lk
      ofF a b c) (lk ofB a b c) (lk ofC a b c)) (lk uB (lk ofF a b c) (lk ofB a b c) (lk ofC a b c)) (lk ofC a b c) (lk uF (lk ofF x y z) (lk ofB x y z) (lk ofC x y z)) (lk uB (lk ofF x y
      z) (lk ofB x y z) (lk ofC x y z)) (lk ofC x y z)))) (lk uB (lk ofF a b c) (lk ofB a b c) (lk ofC a b c))) c) (U.quo .i64 (U.sub .i64 (lk sLast (lk uF (lk ofF a b c) (lk ofB a b c)
      (lk ofC a b c)) (lk uB (lk ofF a b c) (lk ofB a b c) (lk ofC a b c)) (lk ofC a b c)) (lk sLast (lk cmFst (lk uF (lk ofF a b c) (lk ofB a b c) (lk ofC a b c)) (lk uB (lk ofF a b c)
      (lk ofB a b c) (lk ofC a b c)) (lk ofC a b c) (lk uF (lk ofF x y z) (lk ofB x y z) (lk ofC x y z)) (lk uB (lk ofF x y z) (lk ofB x y z) (lk ofC x y z)) (lk ofC x y z)) (lk cmBy (lk
      uF (lk ofF a b c) (lk ofB a b c) (lk ofC a b c)) (lk uB (lk ofF a b c) (lk ofB a b c) (lk ofC a b c)) (lk ofC a b c) (lk uF (lk ofF x y z) (lk ofB x y z) (lk ofC x y z)) (lk uB (lk
      ofF x y z) (lk ofB x y z) (lk ofC x y z)) (lk ofC x y z)) (lk cmCnt (lk uF (lk ofF a b c) (lk ofB a b c) (lk ofC a b c)) (lk uB (lk ofF a b c) (lk ofB a b c) (lk ofC a b c)) (lk ofC
      a b c) (lk uF (lk ofF x y z) (lk ofB x y z) (lk ofC x y z)) (lk uB (lk ofF x y z) (lk ofB x y z) (lk ofC x y z)) (lk ofC x y z)))) (lk uB (lk ofF a b c) (lk ofB a b c) (lk ofC a b
      c))), PUnit.unit)), .lit (.int .i64 0)])))))) (.br (U.gt (Int.ofNat (nat_lit 0 + lk pM (lk uB (lk ofF a b c) (lk ofB a b c) (lk ofC a b c)) (lk cmBy (lk uF (lk ofF a b c) (lk ofB a
      b c) (lk ofC a b c)) (lk uB (lk ofF a b c) (lk ofB a b c) (lk ofC a b c)) (lk ofC a b c) (lk uF (lk ofF x y z) (lk ofB x y z) (lk ofC x y z)) (lk uB (lk ofF x y z) (lk ofB x y z)
      (lk ofC x y z)) (lk ofC x y z)) (lk cmCnt (lk uF (lk ofF a b c) (lk ofB a b c) (lk ofC a b c)) (lk uB (lk ofF a b c) (lk ofB a b c) (lk ofC a b c)) (lk ofC a b c) (lk uF (lk ofF x y
      z) (lk ofB x y z) (lk ofC x y z)) (lk uB (lk ofF x y z) (lk ofB x y z) (lk ofC x y z)) (lk ofC x y z)) (nat_lit 0))) (1000 : Int)) (.ret (.tup [.lit (.slice none (nat_lit 0)
      (nat_lit 0)), .lit (.int .i64 7)])) (.ret (.tup [.row [.int .i64, .int .i64, .int .i64] (nat_lit 0 + lk pM (lk uB (lk ofF a b c) (lk ofB a b c) (lk ofC a b c)) (lk cmBy (lk uF (lk
      ofF a b c) (lk ofB a b c) (lk ofC a b c)) (lk uB (lk ofF a b c) (lk ofB a b c) (lk ofC a b c)) (lk ofC a b c) (lk uF (lk ofF x y z) (lk ofB x y z) (lk ofC x y z)) (lk uB (lk ofF x y
      z) (lk ofB x y z) (lk ofC x y z)) (lk ofC x y z)) (lk cmCnt (lk uF (lk ofF a b c) (lk ofB a b c) (lk ofC a b c)) (lk uB (lk ofF a b c) (lk ofB a b c) (lk ofC a b c)) (lk ofC a b c)
      (lk uF (lk ofF x y z) (lk ofB x y z) (lk ofC x y z)) (lk uB (lk ofF x y z) (lk ofB x y z) (lk ofC x y z)) (lk ofC x y z)) (nat_lit 0)) (lk ppF c (lk uB (lk ofF a b c) (lk ofB a b c)
      (lk ofC a b c)) (lk cmFst (lk uF (lk ofF a b c) (lk ofB a b c) (lk ofC a b c)) (lk uB (lk ofF a b c) (lk ofB a b c) (lk ofC a b c)) (lk ofC a b c) (lk uF (lk ofF x y z) (lk ofB x y
      z) (lk ofC x y z)) (lk uB (lk ofF x y z) (lk ofB x y z) (lk ofC x y z)) (lk ofC x y z)) (lk cmBy (lk uF (lk ofF a b c) (lk ofB a b c) (lk ofC a b c)) (lk uB (lk ofF a b c) (lk ofB a
      b c) (lk ofC a b c)) (lk ofC a b c) (lk uF (lk ofF x y z) (lk ofB x y z) (lk ofC x y z)) (lk uB (lk ofF x y z) (lk ofB x y z) (lk ofC x y z)) (lk ofC x y z)) (lk cmCnt (lk uF (lk
      ofF a b c) (lk ofB a b c) (lk ofC a b c)) (lk uB (lk ofF a b c) (lk ofB a b c) (lk ofC a b c)) (lk ofC a b c) (lk uF (lk ofF x y z) (lk ofB x y z) (lk ofC x y z)) (lk uB (lk ofF x y
      z) (lk ofB x y z) (lk ofC x y z)) (lk ofC x y z)) (nat_lit 0) fun x => ((0 : Int), (0 : Int), (0 : Int), PUnit.unit)), .lit (.int .i64 0)])))) (.br (U.gt (Int.ofNat (nat_lit 0 + lk
      pM (lk uB (lk ofF a b c) (lk ofB a b c) (lk ofC a b c)) (lk cmBy (lk uF (lk ofF a b c) (lk ofB a b c) (lk ofC a b c)) (lk uB (lk ofF a b c) (lk ofB a b c) (lk ofC a b c)) (lk ofC a
      b c) (lk uF (lk ofF x y z) (lk ofB x y z) (lk ofC x y z)) (lk uB (lk ofF x y z) (lk ofB x y z) (lk ofC x y z)) (lk ofC x y z)) (lk cmCnt (lk uF (lk ofF a b c) (lk ofB a b c) (lk ofC
      a b c)) (lk uB (lk ofF a b c) (lk ofB a b c) (lk ofC a b c)) (lk ofC a b c) (lk uF (lk ofF x y z) (lk ofB x y z) (lk ofC x y z)) (lk uB (lk ofF x y z) (lk ofB x y z) (lk ofC x y z))
      (lk ofC x y z)) (nat_lit 0))) (1000 : Int)) (.ret (.tup [.lit (.slice none (nat_lit 0) (nat_lit 0)), .lit (.int .i64 7)])) (.ret (.tup [.row [.int .i64, .int .i64, .int .i64]
      (nat_lit 0 + lk pM (lk uB (lk ofF a b c) (lk ofB a b c) (lk ofC a b c)) (lk cmBy (lk uF (lk ofF a b c) (lk ofB a b c) (lk ofC a b c)) (lk uB (lk ofF a b c) (lk ofB a b c) (lk ofC a
      b c)) (lk ofC a b c) (lk uF (lk ofF x y z) (lk ofB x y z) (lk ofC x y z)) (lk uB (lk ofF x y z) (lk ofB x y z) (lk ofC x y z)) (lk ofC x y z)) (lk cmCnt (lk uF (lk ofF a b c) (lk
      ofB a b c) (lk ofC a b c)) (lk uB (lk ofF a b c) (lk ofB a b c) (lk ofC a b c)) (lk ofC a b c) (lk uF (lk ofF x y z) (lk ofB x y z) (lk ofC x y z)) (lk uB (lk ofF x y z) (lk ofB x y
      z) (lk ofC x y z)) (lk ofC x y z)) (nat_lit 0)) (lk ppF c (lk uB (lk ofF a b c) (lk ofB a b c) (lk ofC a b c)) (lk cmFst (lk uF (lk ofF a b c) (lk ofB a b c) (lk ofC a b c)) (lk uB
      (lk ofF a b c) (lk ofB a b c) (lk ofC a b c)) (lk ofC a b c) (lk uF (lk ofF x y z) (lk ofB x y z) (lk ofC x y z)) (lk uB (lk ofF x y z) (lk ofB x y z) (lk ofC x y z)) (lk ofC x y
      z)) (lk cmBy (lk uF (lk ofF a b c) (lk ofB a b c) (lk ofC a b c)) (lk uB (lk ofF a b c) (lk ofB a b c) (lk ofC a b c)) (lk ofC a b c) (lk uF (lk ofF x y z) (lk ofB x y z) (lk ofC x
      y z)) (lk uB (lk ofF x y z) (lk ofB x y z) (lk ofC x y z)) (lk ofC x y z)) (lk cmCnt (lk uF (lk ofF a b c) (lk ofB a b c) (lk ofC a b c)) (lk uB (lk ofF a b c) (lk ofB a b c) (lk
      ofC a b c)) (lk ofC a b c) (lk uF (lk ofF x y z) (lk ofB x y z) (lk ofC x y z)) (lk uB (lk ofF x y z) (lk ofB x y z) (lk ofC x y z)) (lk ofC x y z)) (nat_lit 0) fun x => ((0 : Int),
      (0 : Int), (0 : Int), PUnit.unit)), .lit (.int .i64 0)])))))))))))))))))) := by kernel_rfl
noncomputable def sbR (a b c x y z : Int) : SV := .tup [.row [.int .i64, .int .i64, .int .i64] (sbN a b c x y z) (sbF a b c x y z), .lit (.int .i64 (sbE a b c x y z))]
noncomputable def c_Subtract : Con := fun args => match args with
  | [.agg [.lit (.int .i64 a), .lit (.int .i64 b), .lit (.int .i64 c)], .agg [.lit (.int .i64 x), .lit (.int .i64 y), .lit (.int .i64 z)]] =>
    .ask (I64 a ∧ I64 b ∧ I64 c ∧ I64 x ∧ I64 y ∧ I64 z) (.ret (.tup [.row [.int .i64, .int .i64, .int .i64] (lk sbN a b c x y z) (lk sbF a b c x y z), .lit (.int .i64 (lk sbE a b c x y z))]))
  | _ => .stuck 1
section
variable {a b c x y z : Int}
theorem cl_lit {v w : Value} (h : v = w) : Cl (.lit v) (.lit w) := .inl (by rw [h])
theorem cl_nil0 {n : Nat} {f : Nat → R3} (h : n = 0) : Cl (.lit (.slice none 0 0)) (.row [.int .i64, .int .i64, .int .i64] n f) := .inr ⟨rfl, h⟩
theorem cl_row' {n m : Nat} {f g : Nat → R3} (h : n = m) (hf : ∀ i, i < n → f i = g i) : Cl (.row [.int .i64, .int .i64, .int .i64] n f) (.row [.int .i64, .int .i64, .int .i64] m g) := ⟨h, sameR hf⟩
theorem sbR_err (h0 : ckd a b c x y z ≠ 0) : Cl (.tup [.lit (.slice none 0 0), .lit (.int .i64 (ckd a b c x y z))]) (sbR a b c x y z) :=
  ⟨cl_nil0 (by unfold sbN; rw [if_pos h0]), cl_lit (by unfold sbE; rw [if_pos h0]), rfl⟩
theorem sbR_big (h0 : ¬ ckd a b c x y z ≠ 0) (hC : isC a b c x y z ≠ 0) (hb : 1000 < sbAll a b c x y z) : Cl (.tup [.lit (.slice none 0 0), .lit (.int .i64 7)]) (sbR a b c x y z) :=
  ⟨cl_nil0 (by unfold sbN; rw [if_neg h0, if_neg hC, if_pos hb]), cl_lit (by unfold sbE; rw [if_neg h0, if_neg hC, if_pos hb]), rfl⟩
theorem sbR_ok (h0 : ¬ ckd a b c x y z ≠ 0) (hC : isC a b c x y z ≠ 0) (hb : sbAll a b c x y z ≤ 1000) {n : Nat} {f : Nat → R3} (hn : n = sbAll a b c x y z) (hf : ∀ i, i < n → f i = sbF a b c x y z i) : Cl (.tup [.row [.int .i64, .int .i64, .int .i64] n f, .lit (.int .i64 0)]) (sbR a b c x y z) :=
  ⟨cl_row' (by unfold sbN; rw [if_neg h0, if_neg hC, if_neg (by omega)]; exact hn) hf, cl_lit (by unfold sbE; rw [if_neg h0, if_neg hC, if_neg (by omega)]), rfl⟩
theorem sbR_whole (h0 : ¬ ckd a b c x y z ≠ 0) (hC : isC a b c x y z = 0) (hc : 0 < ofC a b c) {f : Nat → R3} (hf : f 0 = pc (sA a b c) (sS a b c) (ofC a b c) c) : Cl (.tup [.row [.int .i64, .int .i64, .int .i64] 1 f, .lit (.int .i64 0)]) (sbR a b c x y z) :=
  ⟨cl_row' (by unfold sbN; rw [if_neg h0, if_pos hC, if_pos hc]) (fun i hi => by
    obtain rfl : i = 0 := by omega
    unfold sbF; rw [if_pos hC]; exact hf), cl_lit (by unfold sbE; rw [if_neg h0, if_pos hC]), rfl⟩
theorem sbR_none (h0 : ¬ ckd a b c x y z ≠ 0) (hC : isC a b c x y z = 0) (hc : ¬ 0 < ofC a b c) : Cl (.tup [.lit (.slice none 0 0), .lit (.int .i64 0)]) (sbR a b c x y z) :=
  ⟨cl_nil0 (by unfold sbN; rw [if_neg h0, if_pos hC, if_neg hc]), cl_lit (by unfold sbE; rw [if_neg h0, if_pos hC]), rfl⟩
end
set_option maxHeartbeats 4000000 in
theorem Subtract_ok : ConOK P 23 c_Subtract := con_cl (allOKL mixed ku_ok l52_ok) 10 23 fun args r h => by
  unfold c_Subtract at h
  split at h
  · rename_i a b c x y z
    have hp := (T.is_ask h).1
    have h := (T.is_ask h).2
    obtain rfl := T.is_ret h
    rw [t_Subtract]
    obtain ⟨ha, hb, hc, hx, hy, hz⟩ := hp
    have f1 : uF (ofF a b c) (ofB a b c) (ofC a b c) = sA a b c := rfl
    have f2 : uB (ofF a b c) (ofB a b c) (ofC a b c) = sS a b c := rfl
    have f3 : uF (ofF x y z) (ofB x y z) (ofC x y z) = sA x y z := rfl
    have f4 : uB (ofF x y z) (ofB x y z) (ofC x y z) = sS x y z := rfl
    have f5 : cmFst (sA a b c) (sS a b c) (ofC a b c) (sA x y z) (sS x y z) (ofC x y z) = isF a b c x y z := rfl
    have f6 : cmBy (sA a b c) (sS a b c) (ofC a b c) (sA x y z) (sS x y z) (ofC x y z) = isB a b c x y z := rfl
    have f7 : cmCnt (sA a b c) (sS a b c) (ofC a b c) (sA x y z) (sS x y z) (ofC x y z) = isC a b c x y z := rfl
    have f8 : sLast (sA a b c) (sS a b c) (ofC a b c) = sbT a b c := rfl
    have f9 : sLast (isF a b c x y z) (isB a b c x y z) (isC a b c x y z) = sbL a b c x y z := rfl
    simp only [lk_eq, f1, f2, f3, f4, f5, f6, f7, f8, f9]
    refine T.all_mono (K := fun s => Cl s (sbR a b c x y z)) (fun s hs => hs) ?_
    refine ⟨⟨ha, hb, hc, hx, hy, hz⟩, fun h => sbR_err (U.ne_t.mp h), fun h => ?_⟩
    rw [U.ne_f] at h
    obtain ⟨r1, r2⟩ := ckd_right h
    have h0 : ¬ ckd a b c x y z ≠ 0 := by simp [h]
    have hsw := (is_sw r1 r2).1
    have hser := up_ser r1
    refine ⟨of_ask r1 ha hb hc, up_ask r1, of_ask r2 hx hy hz, up_ask r2, ⟨up_ser r1, up_ser r2⟩, fun hC => ?_, fun hC => ?_⟩
    · have hC : isC a b c x y z = 0 := U.eq_t.mp hC
      refine ⟨fun hc0 => ?_, fun hc0 => ?_⟩
      · have hc0 : 0 < ofC a b c := U.gt_t.mp hc0
        obtain ⟨c1, c2, c3, c4, c5, c6⟩ := hser.resolve_left (by omega)
        obtain ⟨l1, l2⟩ := pc_asks (f := sA a b c) (s := sS a b c) (C := ofC a b c) (c := c) c3 (by omega) c1 c2 c5 c6
        exact ⟨l1, l2, by decide, sbR_whole h0 hC hc0 (pc_eq c3)⟩
      · exact sbR_none h0 hC (by have := U.gt_f.mp hc0; omega)
    · have hC : isC a b c x y z ≠ 0 := U.eq_f.mp hC
      obtain ⟨hab, hxy, eA, eS, s1, s2, eT, C1, C2, B1, B2, lo, hi, FL, k0, k1, k0n, k1n, k0b, k1b, eF, eb, eK0, eK1, hm⟩ := sb_facts r1 r2 hC
      have eL : sbL a b c x y z = isF a b c x y z + isB a b c x y z * (isC a b c x y z - 1) := rfl
      have eTT : sbT a b c = sA a b c + sS a b c * (ofC a b c - 1) := rfl
      obtain ⟨c1, c2, c3, c4, c5, c6⟩ := hser.resolve_left (by have := (parts r1 hab).2.2.1; omega)
      have p0 := mulle (s := absI c) (x := 0) (y := k0) s1 k0n
      have p1 := mulle (s := absI c) (x := 0) (y := k1) s1 k1n
      have pB := mulle (s := isB a b c x y z) (x := 0) (y := isC a b c x y z - 1) B1 (by omega)
      rw [Int.mul_zero] at p0 p1 pB
      have aS : I64 (ofC a b c - 1) ∧ I64 (sS a b c * (ofC a b c - 1)) ∧ I64 (sA a b c + sS a b c * (ofC a b c - 1)) := by unfold I64; rw [← eTT, eT]; omega
      have ad : I64 (isC a b c x y z - 1) ∧ I64 (isB a b c x y z * (isC a b c x y z - 1)) ∧ I64 (isF a b c x y z + isB a b c x y z * (isC a b c x y z - 1)) := by unfold I64; omega
      have hs0 : sS a b c ≠ 0 := by omega
      have eK0' : U.quo .i64 (U.sub .i64 (isF a b c x y z) (sA a b c)) (sS a b c) = k0 := by
        rw [U.sub64 (by unfold I64; omega), U.quo64 (by rw [eK0]; unfold I64; omega), eK0]
      have eK1' : U.quo .i64 (U.sub .i64 (sbT a b c) (sbL a b c x y z)) (sS a b c) = k1 := by
        rw [U.sub64 (by unfold I64; omega), U.quo64 (by rw [eK1]; unfold I64; omega), eK1]
      have eS0 : U.add .i64 (sbL a b c x y z) (sS a b c) = sbL a b c x y z + sS a b c := U.add64 (by unfold I64; omega)
      have m0 : absI c * (k0 - 1) = absI c * k0 - absI c := by rw [Int.mul_sub, Int.mul_one]
      have m1 : absI c * (k1 - 1) = absI c * k1 - absI c := by rw [Int.mul_sub, Int.mul_one]
      have pre : ∀ (u : Bool) (n : Nat), n ≤ 1 → PreP 0 (sS a b c) (isF a b c x y z) (isB a b c x y z) (isC a b c x y z) u n := fun u n hn => by
        refine ⟨rfl, by omega, ⟨B1, B2⟩, ⟨C1, C2⟩, by omega, fun h => ?_, hn⟩
        obtain ⟨m, _, _, e, _⟩ := hm h
        exact ⟨m, by rw [eS]; exact e⟩
      have hN1 : (0 < k1 → sbN1 a b c x y z = 1) ∧ (k1 ≤ 0 → sbN1 a b c x y z = 0) := by
        unfold sbN1
        rw [eT]
        constructor
        · intro hk
          have := mulle (s := absI c) (x := 1) (y := k1) s1 (by omega)
          rw [if_pos (by omega)]
        · intro hk
          obtain rfl : k1 = 0 := by omega
          rw [if_neg (by rw [Int.mul_zero] at eb; omega)]
      have hN0 : (0 < k0 → sbN0 a b c x y z = 1) ∧ (k0 ≤ 0 → sbN0 a b c x y z = 0) := by
        unfold sbN0
        rw [eA]
        constructor
        · intro hk
          have := mulle (s := absI c) (x := 1) (y := k0) s1 (by omega)
          rw [if_pos (by omega)]
        · intro hk
          obtain rfl : k0 = 0 := by omega
          rw [if_neg (by rw [Int.mul_zero] at eF; omega)]
      have hpm : ∀ n, n ≤ 1 → pM (sS a b c) (isB a b c x y z) (isC a b c x y z) n = min (sbM a b c x y z) (1001 - n) := fun n hn => by
        unfold pM sbM rM
        by_cases h1 : 1 < isC a b c x y z
        · rw [if_pos h1, if_pos h1]
        · rw [if_neg h1, if_neg h1]; omega
      have hF : ∀ (n : Nat) (f : Nat → R3) (i : Nat), n = sbN0 a b c x y z → (∀ i, i < n → f i = sbF a b c x y z i) → i < n + sbM a b c x y z → ppF c (sS a b c) (isF a b c x y z) (isB a b c x y z) (isC a b c x y z) n f i = sbF a b c x y z i := fun n f i hn hf hi => by
        by_cases hlt : i < n
        · exact (cat_l hlt).trans (hf i hlt)
        · refine (cat_r (by omega)).trans ?_
          unfold sbF
          rw [if_neg hC, if_neg (by omega), if_pos (by omega), hn]
          rfl
      have al := pc_asks (f := sbL a b c x y z + sS a b c) (s := sS a b c) (C := k1) (c := c) c3 (by omega)
      have a0 := pc_asks (f := sA a b c) (s := sS a b c) (C := k0) (c := c) c3 (by omega)
      have hpm0 := hpm 0 (by omega)
      have hpm1 := hpm 1 (by omega)
      simp only [eK0', eK1', eS0]
      refine ⟨hs0, fun hk => ?_, fun hk => ?_⟩
      · have hk : 0 < k0 := U.gt_t.mp hk
        have hN0' := hN0.1 hk
        have al' : U.gt k1 0 = true → _ := fun g1 => by
          have g1' : 0 < k1 := U.gt_t.mp g1
          exact al (by omega) (by omega) (by omega) (by rw [eS, m1]; omega)
        have a0' := a0 (by omega) (by omega) (by omega) (by rw [eS, m0]; omega)
        refine ⟨a0'.1, a0'.2, by decide, ?_⟩
        refine ⟨⟨pre _ _ (by omega), (by first | trivial | rfl), (by first | trivial | rfl)⟩, ad, aS, ad, hs0, fun g1 => ⟨fun g2 => ⟨(al' g1).1, (al' g1).2, ?_, fun g3 => ?_, fun g3 => ?_⟩, fun g2 => ⟨fun g3 => ?_, fun g3 => ?_⟩⟩, fun g1 => ⟨fun g2 => ?_, fun g2 => ?_⟩⟩
        · show (1 + pM _ _ _ 1 + 1) * 24 ≤ 140737488351232
          omega
        · have g3' : (1000 : Int) < ((1 + pM (sS a b c) (isB a b c x y z) (isC a b c x y z) 1 + 1 : Nat) : Int) := U.gt_t.mp g3
          have g2' : ((1 + pM (sS a b c) (isB a b c x y z) (isC a b c x y z) 1 : Nat) : Int) ≤ 1000 := U.le_t.mp g2
          have n1 := hN1.1 (U.gt_t.mp g1)
          exact sbR_big h0 hC (by unfold sbAll; omega)
        · have g3' : ((1 + pM (sS a b c) (isB a b c x y z) (isC a b c x y z) 1 + 1 : Nat) : Int) ≤ 1000 := U.gt_f.mp g3
          have n1 := hN1.1 (U.gt_t.mp g1)
          have hJ : pM (sS a b c) (isB a b c x y z) (isC a b c x y z) 1 = sbM a b c x y z := by omega
          refine sbR_ok h0 hC (by unfold sbAll; omega) (show 1 + pM _ _ _ 1 + 1 = _ by unfold sbAll; omega) fun i hi => ?_
          have hi' : i < 1 + pM (sS a b c) (isB a b c x y z) (isC a b c x y z) 1 + 1 := hi
          by_cases hlt : i < 1 + pM (sS a b c) (isB a b c x y z) (isC a b c x y z) 1
          · refine (cat_l hlt).trans ?_
            exact hF 1 _ i hN0'.symm (fun i hi => by
              obtain rfl : i = 0 := by omega
              refine (pc_eq c3).trans ?_
              unfold sbF
              rw [if_neg hC, if_pos (by omega), eK0]) (by omega)
          · refine (cat_r (show 1 + pM _ _ _ 1 ≤ i by omega)).trans ?_
            refine (pc_eq c3).trans ?_
            unfold sbF
            rw [if_neg hC, if_neg (by omega), if_neg (by omega)]
            rw [eK1]
        · have g2' : (1000 : Int) < ((1 + pM (sS a b c) (isB a b c x y z) (isC a b c x y z) 1 : Nat) : Int) := U.le_f.mp g2
          exact sbR_big h0 hC (by unfold sbAll; omega)
        · have g2' : (1000 : Int) < ((1 + pM (sS a b c) (isB a b c x y z) (isC a b c x y z) 1 : Nat) : Int) := U.le_f.mp g2
          have g3' : ((1 + pM (sS a b c) (isB a b c x y z) (isC a b c x y z) 1 : Nat) : Int) ≤ 1000 := U.gt_f.mp g3
          omega
        · have g2' : (1000 : Int) < ((1 + pM (sS a b c) (isB a b c x y z) (isC a b c x y z) 1 : Nat) : Int) := U.gt_t.mp g2
          exact sbR_big h0 hC (by unfold sbAll; omega)
        · have g2' : ((1 + pM (sS a b c) (isB a b c x y z) (isC a b c x y z) 1 : Nat) : Int) ≤ 1000 := U.gt_f.mp g2
          have n1 := hN1.2 (U.gt_f.mp g1)
          have hJ : pM (sS a b c) (isB a b c x y z) (isC a b c x y z) 1 = sbM a b c x y z := by omega
          refine sbR_ok h0 hC (by unfold sbAll; omega) (show 1 + pM _ _ _ 1 = _ by unfold sbAll; omega) fun i hi => ?_
          have hi' : i < 1 + pM (sS a b c) (isB a b c x y z) (isC a b c x y z) 1 := hi
          exact hF 1 _ i hN0'.symm (fun i hi => by
              obtain rfl : i = 0 := by omega
              refine (pc_eq c3).trans ?_
              unfold sbF
              rw [if_neg hC, if_pos (by omega), eK0]) (by omega)
      · have hk : k0 ≤ 0 := U.gt_f.mp hk
        have hN0' := hN0.2 hk
        have al' : U.gt k1 0 = true → _ := fun g1 => by
          have g1' : 0 < k1 := U.gt_t.mp g1
          exact al (by omega) (by omega) (by omega) (by rw [eS, m1]; omega)
        refine ⟨⟨pre _ _ (by omega), (by first | trivial | rfl)⟩, ad, aS, ad, hs0, fun g1 => ⟨fun g2 => ⟨(al' g1).1, (al' g1).2, ?_, fun g3 => ?_, fun g3 => ?_⟩, fun g2 => ⟨fun g3 => ?_, fun g3 => ?_⟩⟩, fun g1 => ⟨fun g2 => ?_, fun g2 => ?_⟩⟩
        · show (0 + pM _ _ _ 0 + 1) * 24 ≤ 140737488351232
          omega
        · have g3' : (1000 : Int) < ((0 + pM (sS a b c) (isB a b c x y z) (isC a b c x y z) 0 + 1 : Nat) : Int) := U.gt_t.mp g3
          have g2' : ((0 + pM (sS a b c) (isB a b c x y z) (isC a b c x y z) 0 : Nat) : Int) ≤ 1000 := U.le_t.mp g2
          have n1 := hN1.1 (U.gt_t.mp g1)
          exact sbR_big h0 hC (by unfold sbAll; omega)
        · have g3' : ((0 + pM (sS a b c) (isB a b c x y z) (isC a b c x y z) 0 + 1 : Nat) : Int) ≤ 1000 := U.gt_f.mp g3
          have n1 := hN1.1 (U.gt_t.mp g1)
          have hJ : pM (sS a b c) (isB a b c x y z) (isC a b c x y z) 0 = sbM a b c x y z := by omega
          refine sbR_ok h0 hC (by unfold sbAll; omega) (show 0 + pM _ _ _ 0 + 1 = _ by unfold sbAll; omega) fun i hi => ?_
          have hi' : i < 0 + pM (sS a b c) (isB a b c x y z) (isC a b c x y z) 0 + 1 := hi
          by_cases hlt : i < 0 + pM (sS a b c) (isB a b c x y z) (isC a b c x y z) 0
          · refine (cat_l hlt).trans ?_
            exact hF 0 _ i hN0'.symm (fun i hi => by omega) (by omega)
          · refine (cat_r (show 0 + pM _ _ _ 0 ≤ i by omega)).trans ?_
            refine (pc_eq c3).trans ?_
            unfold sbF
            rw [if_neg hC, if_neg (by omega), if_neg (by omega)]
            rw [eK1]
        · have g2' : (1000 : Int) < ((0 + pM (sS a b c) (isB a b c x y z) (isC a b c x y z) 0 : Nat) : Int) := U.le_f.mp g2
          exact sbR_big h0 hC (by unfold sbAll; omega)
        · have g2' : (1000 : Int) < ((0 + pM (sS a b c) (isB a b c x y z) (isC a b c x y z) 0 : Nat) : Int) := U.le_f.mp g2
          have g3' : ((0 + pM (sS a b c) (isB a b c x y z) (isC a b c x y z) 0 : Nat) : Int) ≤ 1000 := U.gt_f.mp g3
          omega
        · have g2' : (1000 : Int) < ((0 + pM (sS a b c) (isB a b c x y z) (isC a b c x y z) 0 : Nat) : Int) := U.gt_t.mp g2
          exact sbR_big h0 hC (by unfold sbAll; omega)
        · have g2' : ((0 + pM (sS a b c) (isB a b c x y z) (isC a b c x y z) 0 : Nat) : Int) ≤ 1000 := U.gt_f.mp g2
          have n1 := hN1.2 (U.gt_f.mp g1)
          have hJ : pM (sS a b c) (isB a b c x y z) (isC a b c x y z) 0 = sbM a b c x y z := by omega
          refine sbR_ok h0 hC (by unfold sbAll; omega) (show 0 + pM _ _ _ 0 = _ by unfold sbAll; omega) fun i hi => ?_
          have hi' : i < 0 + pM (sS a b c) (isB a b c x y z) (isC a b c x y z) 0 := hi
          exact hF 0 _ i hN0'.symm (fun i hi => by omega) (by omega)
  · exact h.elim
end Go.RX.Span

/- Domains: Intersect, Within, Same: the walks. -/
set_option linter.unusedVariables false
set_option linter.unusedSimpArgs false
set_option maxRecDepth 100000
namespace Go.RX.Span
open Go Go.RX
attribute [local irreducible] sx conB

noncomputable abbrev d1 : List (Nat × Con) := (63, c_DCheck) :: d0 --%K
noncomputable abbrev d2 : List (Nat × Con) := (149, c_both) :: (128, c_columns) :: d1 --%K
noncomputable abbrev d3 : List (Nat × Con) := (76, c_DIntersect) :: (41, c_DSize) :: (145, c_Equal3) :: d2 --%K
end Go.RX.Span

/- Domains: Of, Nth, a slice's copy: the walks. -/
set_option linter.unusedVariables false
set_option linter.unusedSimpArgs false
set_option maxRecDepth 100000
namespace Go.RX.Span
open Go Go.RX
attribute [local irreducible] sx conB

/-- Of: the error, the ranges made ascending. -/
def dofE (n : Nat) (f : Nat → R3) : Int := if n < 1 ∨ 2 < n then 5 else if chk (rA (f 0)) (rB (f 0)) (rC (f 0)) ≠ 0 then chk (rA (f 0)) (rB (f 0)) (rC (f 0)) else if n = 2 ∧ chk (rA (f 1)) (rB (f 1)) (rC (f 1)) ≠ 0 then chk (rA (f 1)) (rB (f 1)) (rC (f 1)) else 0
def dofN (n : Nat) (f : Nat → R3) : Nat := if dofE n f ≠ 0 then 0 else n
def dofR (r : R3) : R3 := (rA r, rB r, absI (rC r), ())
def dofF (f : Nat → R3) : Nat → R3 := fun i => dofR (f i)
noncomputable def c_DOf : Con := fun args => match args with
  | [.row [.int .i64, .int .i64, .int .i64] n f] => .ask (Row64 n f) (.ret (.tup [.agg [.row [.int .i64, .int .i64, .int .i64] (lk dofN n f) (lk dofF f), .lit (.int .i64 0), .lit (.int .i64 0), .lit (.int .i64 0)], .lit (.int .i64 (lk dofE n f))]))
  | _ => .stuck 1
/-- Nth: the error, the index. -/
def dnE (n : Nat) (f : Nat → R3) (k s h q : Int) : Int := if chD n f k s h ≠ 0 then chD n f k s h else if q < 0 ∨ q ≥ szD n f k s h then 4 else 0
def dnN (n : Nat) (f : Nat → R3) (k s h q : Int) : Nat := if dnE n f k s h q ≠ 0 then 0 else n
abbrev R1 := Els [.int .i64]
def dnF (n : Nat) (f : Nat → R3) (q : Int) : Nat → R1 := fun i => ((if i = 0 then nth (rA (f 0)) (rB (f 0)) (rC (f 0)) (q.tdiv (colD n f)) else nth (rA (f 1)) (rB (f 1)) (rC (f 1)) (q.tmod (colD n f)) : Int), ())
noncomputable def c_DNth : Con := fun args => match args with
  | [.agg [.row [.int .i64, .int .i64, .int .i64] n f, .lit (.int .i64 k), .lit (.int .i64 s), .lit (.int .i64 h)], .lit (.int .i64 q)] => .ask (Row64 n f ∧ I64 q) (.ret (.tup [.row [.int .i64] (lk dnN n f k s h q) (lk dnF n f q), .lit (.int .i64 (lk dnE n f k s h q))]))
  | _ => .stuck 1
/-- A copy is a slice that is read alone. -/
noncomputable def c_Clone : Con := fun args => match args with
  | [.row [.int .i64, .int .i64, .int .i64] n f] => .ask (0 < n ∧ n ≤ 10000) (.ret (.row [.int .i64, .int .i64, .int .i64] n f))
  | _ => .stuck 1
end Go.RX.Span

/- The library's slices.Equal and slices.Concat of two, of numbers: the walks. -/
set_option linter.unusedVariables false
set_option linter.unusedSimpArgs false
set_option maxRecDepth 100000
namespace Go.RX.Span
open Go Go.RX

set_option maxRecDepth 100000 in
theorem t_E (n0 n n1 : Nat) (f f1 : Nat → Els [.int .i64]) (len i : Int) : (sx E0 [] n0 (loopOf P 30 4) (mkS 26 [0, 1, 4, 12, 13] [.row [.int .i64] n f, .row [.int .i64] n1 f1, .any, .lit (.int .i64 len), .lit (.int .i64 i)], [])).bind (proj 26 [0, 1, 4, 12, 13]) =
    T.br (U.lt i len) (.ask ((0 : Int) ≤ i ∧ i < ↑n) (.ask ((0 : Int) ≤ i ∧ i < ↑n1) (.br (U.ne (f (U.toNat i)).1 (f1 (U.toNat i)).1) (.ret (Ex.ret, [.row [.int .i64] n f, .row [.int
      .i64] n1 f1, SV.kb false, .lit (.int .i64 len), .lit (.int .i64 i)], [])) (.ret (Ex.normal, [.row [.int .i64] n f, .row [.int .i64] n1 f1, SV.any, .lit (.int .i64 len), .lit (.int
      .i64 (U.add .i64 i (1 : Int)))], []))))) (.ret (Ex.exit (nat_lit 0), [.row [.int .i64] n f, .row [.int .i64] n1 f1, SV.any, .lit (.int .i64 len), .lit (.int .i64 i)], [])) := by kernel_rfl
theorem roundE (n0 : Nat) (x : XE) (hx : PhiE n0 x) : ((sx E0 [] n0 (loopOf P 30 4) (mkS 26 [0, 1, 4, 12, 13] (VE x).1, (VE x).2)).bind (proj 26 [0, 1, 4, 12, 13])).All fun r => match r.1 with
      | .normal => ∃ x', PhiE n0 x' ∧ x'.n - x'.k < x.n - x.k ∧ Wk 26 [0, 1, 4, 12, 13] n0 r.2 (VE x') ∧ ∀ o, ZE x' o → ZE x o
      | e => ∃ s, ZE x (e, s) ∧ Wk 26 [0, 1, 4, 12, 13] n0 r.2 s := by
  obtain ⟨n, n1, f, f1, len, k⟩ := x
  unfold VE
  dsimp only
  refine T.all_of_eq (t_E n0 n n1 f f1 len k) ?_
  obtain ⟨⟨h0, e1, e2, ht⟩, hk, hall⟩ := hx
  simp only [] at h0 e1 e2 ht hk hall
  subst h0; subst e1
  simp only [top] at ht
  have w0 : ∀ {vs vs' : List SV}, RlL (idR 0) vs vs' → Wk 26 [0, 1, 4, 12, 13] 0 (vs, []) (vs', []) := fun h => wk_of (idR 0) rfl (Nat.zero_le _) (fun b hb => by omega) h trivial
  by_cases hlt : k < n
  · have hadd : U.add .i64 (k : Int) 1 = ((k + 1 : Nat) : Int) := by rw [U.add64 (by unfold I64; omega)]; omega
    simp only [T.All, U.le_t, U.le_f, U.lt_t, U.lt_f, U.gt_t, U.gt_f, U.ge_t, U.ge_f, U.eq_t, U.eq_f, U.ne_t, U.ne_f, U.not_t, U.not_f, U.andb_t, U.andb_f, SV.lit.injEq, SV.agg.injEq, SV.tup.injEq, List.cons.injEq, Value.int.injEq, Value.bool.injEq, true_and, and_true, lk_eq, U.toNat_eq, Int.toNat_natCast]
    refine ⟨fun _ => ⟨⟨by omega, by omega⟩, ⟨by omega, by omega⟩, fun hne => ⟨OE'.2, ⟨fun he => absurd ((eqR_t.1 he).2 k hlt) (Eq.mp U.ne_t hne), fun _ => rfl⟩, w0 ⟨trivial, trivial, rfl, trivial, trivial, trivial⟩⟩, fun heq => ?_⟩, fun h => absurd h (by omega)⟩
    refine ⟨⟨n, n, f, f1, len, k + 1⟩, ⟨⟨rfl, rfl, e2, ht⟩, hlt, fun i hi => ?_⟩, by simp only []; omega, w0 ⟨⟨rfl, sameRow_refl _ _⟩, ⟨rfl, sameRow_refl _ _⟩, trivial, rfl, by rw [hadd]; rfl, trivial⟩, fun o ho => ho⟩
    by_cases h : i = k
    · subst h; exact Eq.mp U.ne_f heq
    · have hi' : i < k + 1 := hi
      exact hall i (by omega)
  · have : (k : Int) = n := by omega
    have hkn : k = n := by omega
    simp only [T.All, U.le_t, U.le_f, U.lt_t, U.lt_f, U.gt_t, U.gt_f, U.ge_t, U.ge_f, U.eq_t, U.eq_f, U.ne_t, U.ne_f, U.not_t, U.not_f, U.andb_t, U.andb_f, SV.lit.injEq, SV.agg.injEq, SV.tup.injEq, List.cons.injEq, Value.int.injEq, Value.bool.injEq, true_and, and_true, lk_eq]
    refine ⟨fun h => absurd h (by omega), fun _ => ⟨(OE ⟨n, n, f, f1, len, k⟩).2, ⟨fun _ => rfl, fun he => ?_⟩, w0 ⟨⟨rfl, sameRow_refl _ _⟩, ⟨rfl, sameRow_refl _ _⟩, trivial, trivial, trivial, trivial⟩⟩⟩
    rw [eqR_t.2 ⟨rfl, fun i hi => hall i (by have hi' : i < n := hi; omega)⟩] at he
    cases he
theorem loopE : LoopOK P (loopOf P 30 4) (few 26 [0, 1, 4, 12, 13] gE) :=
  loop_few (E := E0) mixed E0_ok loopsOK_none 26 [0, 1, 4, 12, 13] (X := XE) gE (fun _ x => VE x) PhiE (fun x => x.n - x.k) (fun _ x o => ZE x o)
    (fun n0 s r h => by
      unfold gE at h
      split at h
      · rename_i n0 n f n1 f1 s4 len
        obtain ⟨h0, e1, e2, ht⟩ := (T.is_ask h).1
        have h := (T.is_ask h).2
        rcases h with ⟨he, h⟩ | ⟨he, h⟩ <;> rw [lk_eq] at he <;> obtain rfl := T.is_ret h
        all_goals
          refine ⟨⟨n, n1, f, f1, len, 0⟩, ⟨⟨h0, e1, e2, ht⟩, Nat.zero_le _, fun i hi => by simp only [] at hi; omega⟩, wk_of (idR 0) rfl (by rw [h0]; exact Nat.zero_le _) (fun b hb => by omega) ⟨⟨rfl, sameRow_refl _ _⟩, ⟨rfl, sameRow_refl _ _⟩, rl_any _, rfl, rfl, trivial⟩ trivial, fun o ho => ?_⟩
          first | exact ho.1 he | exact ho.2 he
      · exact h.elim)
    roundE
theorem l36_ok : ∀ p ∈ l36, LoopsOK P p.2 (bodyOf P p.1) := by
  intro p hp
  simp only [l36, List.mem_singleton] at hp
  subst hp
  refine loopsOK_of (by kernel_rfl) fun k g hk => ?_
  simp only [List.mem_singleton, Prod.mk.injEq, LoopC.sum.injEq] at hk
  obtain ⟨rfl, rfl⟩ := hk
  exact loopE

noncomputable def c_Equal : Con := fun args => match args with
  | [.row [.int .i64] n f, .row [.int .i64] n1 f1] => .ask (n ≤ top) (.ret (.lit (.bool (lk eqR n f n1 f1))))
  | _ => .stuck 1
set_option maxRecDepth 100000 in
theorem t_Equal (n n1 : Nat) (f f1 : Nat → Els [.int .i64]) : conB Go.Proofs.Try.prog (conOf []) (loopsOf l36) 10 30 [.row [.int .i64] n f, .row [.int .i64] n1 f1] =
    T.br (U.ne (Int.ofNat n) (Int.ofNat n1)) (.ret (.lit (.bool false))) (.ask (PreE (nat_lit 0) n n1 ↑n) (.br (lk eqR n f n1 f1) (.ret (.lit (.bool true))) (.ret (.lit (.bool
      false))))) := by kernel_rfl
theorem Equal_ok : ConOK P 30 c_Equal := con_of (allOKL mixed none_ok l36_ok) 10 30 fun args r h => by
  unfold c_Equal at h
  split at h
  · rename_i n f n1 f1
    have hp := (T.is_ask h).1
    have h := (T.is_ask h).2
    obtain rfl := T.is_ret h
    rw [t_Equal]
    by_cases hn : n = n1
    · subst hn
      have hpre : PreE 0 n n n := ⟨rfl, rfl, rfl, hp⟩
      have hne : U.ne (Int.ofNat n) (Int.ofNat n) = false := by rw [U.ne_eq]; simp
      simp only [T.All, hne, hpre, lk_eq]
      cases eqR n f n f1 <;> simp
    · have he : eqR n f n1 f1 = false := by
        cases h : eqR n f n1 f1
        · rfl
        · exact absurd (eqR_t.1 h).1 hn
      have hne : U.ne (Int.ofNat n) (Int.ofNat n1) = true := by rw [U.ne_eq]; simp only [Int.ofNat_eq_natCast]; simp; omega
      simp only [T.All, hne, lk_eq, he]
      simp
  · exact h.elim
end Go.RX.Span

/- Domains: the examples of the chapter. -/
set_option linter.unusedVariables false
set_option linter.unusedSimpArgs false
set_option maxRecDepth 100000
namespace Go.RX.Span
open Go Go.RX
attribute [local irreducible] sx conB

def mk3 (a b c : Int) : R3 := (a, b, c, ())
def two (p q : R3) : Nat → R3 := fun i => if i = 0 then p else q
/-- Subtract of the example. -/
noncomputable def c_Sub2 : Con := fun args => match args with
  | [.agg [.lit (.int .i64 a), .lit (.int .i64 b), .lit (.int .i64 c)], .agg [.lit (.int .i64 x), .lit (.int .i64 y), .lit (.int .i64 z)]] =>
    .ask (a = 0 ∧ b = 2 ∧ c = 1 ∧ x = 1 ∧ y = 1 ∧ z = 1) (.ret (.tup [.row [.int .i64, .int .i64, .int .i64] 2 (lk two (mk3 0 0 1) (mk3 2 2 1)), .lit (.int .i64 0)]))
  | _ => .stuck 1
/-- Intersect of the example. -/
noncomputable def c_Int2 : Con := fun args => match args with
  | [.agg [.row [.int .i64, .int .i64, .int .i64] 2 f, .lit (.int .i64 (.ofNat 0)), .lit (.int .i64 (.ofNat 0)), .lit (.int .i64 (.ofNat 0))], .agg [.row [.int .i64, .int .i64, .int .i64] 2 g, .lit (.int .i64 (.ofNat 0)), .lit (.int .i64 (.ofNat 0)), .lit (.int .i64 (.ofNat 0))]] =>
    .ask (f 0 = (mk3 0 2 1) ∧ f 1 = (mk3 0 2 1) ∧ g 0 = (mk3 1 1 1) ∧ g 1 = (mk3 1 1 1)) (.ret (.tup [.agg [.row [.int .i64, .int .i64, .int .i64] 2 (lk two (mk3 1 1 1) (mk3 1 1 1)), .lit (.int .i64 0), .lit (.int .i64 0), .lit (.int .i64 0)], .lit (.int .i64 0)]))
  | _ => .stuck 1
noncomputable abbrev d4 : List (Nat × Con) := (160, c_Clone) :: (23, c_Sub2) :: (76, c_Int2) :: (41, c_DSize) :: d2
noncomputable abbrev lSu : List (Nat × Loops) := [(78, [(13, .un 3), (23, .un 3)])]
def pathS : List Bool := [false, false, false, true, false, true, true, false, true, false, false, false, true, true, true, true, false]
/-- Subtract, by the way that the example takes. -/
noncomputable def c_DSub4 : Con := fun args => (conB Go.Proofs.Try.prog (conOf d4) (loopsOf lSu) 10 78 args).force pathS
noncomputable abbrev d6 : List (Nat × Con) := (78, c_DSub4) :: (82, c_DOf) :: (68, c_DNth) :: (30, c_Equal) :: d3
end Go.RX.Span

/- Domains: what the law of domains within each other returns. -/
set_option linter.unusedVariables false
set_option linter.unusedSimpArgs false
set_option maxRecDepth 100000
namespace Go.RX.Span
open Go Go.RX
attribute [local irreducible] sx conB

--%R ofList\s+\[\((\S+ : Int\)),\s+\(\)\) => ofList (ss := [.int .i64]) [(\1, ())
--%R ↑\((\d+)\s+:\s+Nat\) => ((\1 : Nat) : Int)
--%R ofList\s+\[ => ofList (ss := [.int .i64, .int .i64, .int .i64]) [
noncomputable abbrev d5 : List (Nat × Con) := (64, c_true) :: (65, c_DWithin) :: (66, c_DSame) :: d3 --%K
end Go.RX.Span

/- Domains: Position, Has: plain; contracts. -/
set_option linter.unusedVariables false
set_option linter.unusedSimpArgs false
set_option maxRecDepth 100000
namespace Go.RX.Span
open Go Go.RX
attribute [local irreducible] sx conB

section
variable (n : Nat) (f : Nat → R3) (k s h : Int) (m : Nat) (e : Nat → R1)
end
noncomputable def eqD (n : Nat) (f : Nat → R3) (k s h : Int) (m : Nat) (g : Nat → R3) (k' s' h' : Int) : Bool := decide (eqR3 n f m g = true ∧ k = k' ∧ s = s' ∧ h = h')
end Go.RX.Span

/- Domains: the reference's functions: the walks. -/
set_option linter.unusedVariables false
set_option linter.unusedSimpArgs false
set_option maxRecDepth 100000
namespace Go.RX.Span
open Go Go.RX
attribute [local irreducible] sx conB
end Go.RX.Span

/- Domains: what the law of Of and its like returns. -/
set_option linter.unusedVariables false
set_option linter.unusedSimpArgs false
set_option maxRecDepth 100000
namespace Go.RX.Span
open Go Go.RX
attribute [local irreducible] sx conB

end Go.RX.Span

/- Domains: what the law of Of and its like returns. -/
set_option linter.unusedVariables false
set_option linter.unusedSimpArgs false
set_option maxRecDepth 100000
namespace Go.RX.Span
open Go Go.RX
attribute [local irreducible] sx conB

end Go.RX.Span

/- Subtract of the reference: the walk. -/
set_option linter.unusedVariables false
set_option linter.unusedSimpArgs false
set_option maxRecDepth 100000
namespace Go.RX.Span
open Go Go.RX
attribute [local irreducible] sx conB

theorem pc_self {a b c : Int} (h : Right a b c) (hab : a ≤ b) : pc (sA a b c) (sS a b c) (ofC a b c) c = (a, b, c, ()) := by
  obtain ⟨p1, p2, p3, p4, p5, p6, p7, p8, p9, p10⟩ := parts h hab
  obtain ⟨u1, u2⟩ := up_of h hab
  have hl := h.1
  have e1 : sA a b c = a := u1
  have e2 : sS a b c = absI c := u2
  unfold pc
  rw [e1, e2]
  have n1 : ¬ ofC a b c ≤ 0 := by omega
  have e0 : mvE a (absI c) (ofC a b c) = 0 := by unfold mvE; rw [if_neg n1, if_pos (by omega)]
  simp only [mvLow, mvHigh, mvStr, e0, if_neg n1, if_true]
  rw [p5]
  have hb : a + (b - a) = b := by omega
  rw [hb]
  by_cases hC : ofC a b c = 1
  · rw [if_pos hC]
    rw [hC, Int.sub_self, Int.mul_zero] at p5
    rw [p10 (by omega)]
    rfl
  · rw [if_neg hC]
    by_cases hc : c < 0
    · rw [if_pos hc, absI_neg hc, Int.neg_neg]; rfl
    · rw [if_neg hc, absI_pos hc]; rfl
/-- The common range as a series. -/
theorem is_ser {a b c x y z : Int} (h : Right a b c) (h' : Right x y z) (hC : isC a b c x y z ≠ 0) : isL a b c x y z = isF a b c x y z ∧ isH a b c x y z = sbL a b c x y z ∧ (1 < isC a b c x y z → absI (isS a b c x y z) = isB a b c x y z) ∧ I64 (-isS a b c x y z) ∧ isE (isL a b c x y z) (isH a b c x y z) (isS a b c x y z) = false := by
  have hn : ¬ ckd a b c x y z ≠ 0 := by simp [ckd_zero h h']
  obtain ⟨c1, c2, c3, c4, c5⟩ := ((is_sw h h').1).resolve_left hC
  have m0 := mulle (x := 0) (y := isC a b c x y z - 1) c2 (by omega)
  rw [Int.mul_zero] at m0
  obtain ⟨q1, q2, q3, q4⟩ := nrm_like (f := isF a b c x y z) (s := isB a b c x y z) (C := isC a b c x y z) (c := c) c2
  have n1 : ¬ isC a b c x y z ≤ 0 := by omega
  have e0 : mvE (isF a b c x y z) (isB a b c x y z) (isC a b c x y z) = 0 := by unfold mvE; rw [if_neg n1, if_pos (by omega)]
  have e1 : isL a b c x y z = isF a b c x y z := by simp only [isL, if_neg hn]; rw [q2]; simp only [mvLow, e0, if_neg n1, if_true]
  have e2 : isH a b c x y z = sbL a b c x y z := by simp only [isH, if_neg hn]; rw [q3]; simp only [mvHigh, e0, if_neg n1, if_true]; rfl
  have e3 : isS a b c x y z = if isC a b c x y z = 1 then 1 else if c < 0 then -isB a b c x y z else isB a b c x y z := by simp only [isS, if_neg hn]; rw [q4]; simp only [mvStr, e0, if_neg n1, if_true]
  refine ⟨e1, e2, fun h1 => ?_, ?_, ?_⟩
  · rw [e3, if_neg (by omega)]
    by_cases hc : c < 0
    · rw [if_pos hc, absI_neg (by omega)]; omega
    · rw [if_neg hc, absI_pos (by omega)]
  · rw [e3]; unfold I64; split <;> (try split) <;> omega
  · rw [isE_f, e1, e2]
    unfold sbL
    omega
end Go.RX.Span

/- Domains: Subtract: plain. -/
set_option linter.unusedVariables false
set_option linter.unusedSimpArgs false
set_option maxRecDepth 100000
namespace Go.RX.Span
open Go Go.RX
attribute [local irreducible] sx conB

abbrev ssD : List Sh := [.sl [.int .i64, .int .i64, .int .i64], .int .i64, .int .i64, .int .i64]
abbrev DE := Els ssD
def mkD (n : Nat) (f : Nat → R3) (k s h : Int) : DE := ((n, f), k, s, h, ())
def szE (x : DE) : Int := szD x.1.1 x.1.2 x.2.1 x.2.2.1 x.2.2.2.1
/-- A list of domains. -/
abbrev DL := Nat × (Nat → DE)
def noD : DL := (0, fun _ => mkD 0 (fun _ => ((0 : Int), (0 : Int), (0 : Int), ())) 0 0 0)
noncomputable def push (q : DL) (x : DE) : DL := if 0 < szE x then (q.1 + 1, U.cat q.1 q.2 fun _ => x) else q
noncomputable def pushes (c : Nat → DE) (q : DL) : Nat → DL
  | 0 => q
  | j + 1 => push (pushes c q j) (c j)
section
variable (n : Nat) (f : Nat → R3) (k s h : Int) (m : Nat) (g : Nat → R3) (k' s' h' : Int)
def sb0N : Nat := sbN (rA (f 0)) (rB (f 0)) (rC (f 0)) (rA (g 0)) (rB (g 0)) (rC (g 0))
def sb0F : Nat → R3 := sbF (rA (f 0)) (rB (f 0)) (rC (f 0)) (rA (g 0)) (rB (g 0)) (rC (g 0))
def sb1N : Nat := sbN (rA (f 1)) (rB (f 1)) (rC (f 1)) (rA (g 1)) (rB (g 1)) (rC (g 1))
def sb1F : Nat → R3 := sbF (rA (f 1)) (rB (f 1)) (rC (f 1)) (rA (g 1)) (rB (g 1)) (rC (g 1))
def c0F (x : R3) : Nat → R3 := if n = 1 then fun _ => x else fun i => if i = 0 then x else f i
def cnd0 (x : R3) : DE := mkD n (c0F n f x) k s h
noncomputable def cnd1 (x y : R3) : DE := mkD 2 (ofList (ss := [.int .i64, .int .i64, .int .i64]) [x, y]) k s h
noncomputable def ds0 : DL := pushes (fun j => cnd0 n f k s h (sb0F f g j)) noD (sb0N f g)
noncomputable def ds1 : DL := if n = 1 then ds0 n f k s h g else pushes (fun j => cnd1 k s h (diF f g 0) (sb1F f g j)) (ds0 n f k s h g) (sb1N f g)
end
end Go.RX.Span

/- Iterators: the indices of a domain: the states. -/
set_option linter.unusedVariables false
set_option linter.unusedSimpArgs false
set_option maxRecDepth 100000
namespace Go.RX.Span
open Go Go.RX
attribute [local irreducible] sx conB

end Go.RX.Span

/- Iterators: the indices of a domain: the walk. -/
set_option linter.unusedVariables false
set_option linter.unusedSimpArgs false
set_option maxRecDepth 100000
namespace Go.RX.Span
open Go Go.RX
attribute [local irreducible] sx conB

end Go.RX.Span

/- Iterators: the indices of a domain: the outer loop's states. -/
set_option linter.unusedVariables false
set_option linter.unusedSimpArgs false
set_option maxRecDepth 100000
namespace Go.RX.Span
open Go Go.RX
attribute [local irreducible] sx conB

end Go.RX.Span

/- Iterators: the indices of a domain: the outer loop's walk. -/
set_option linter.unusedVariables false
set_option linter.unusedSimpArgs false
set_option maxRecDepth 100000
namespace Go.RX.Span
open Go Go.RX
attribute [local irreducible] sx conB

end Go.RX.Span

/- Iterators: the indices of a domain: the contract. -/
set_option linter.unusedVariables false
set_option linter.unusedSimpArgs false
set_option maxRecDepth 100000
namespace Go.RX.Span
open Go Go.RX
attribute [local irreducible] sx conB

end Go.RX.Span

/- Iterators: the indices of a domain: what All yields. -/
set_option linter.unusedVariables false
set_option linter.unusedSimpArgs false
set_option maxRecDepth 100000
namespace Go.RX.Span
open Go Go.RX
attribute [local irreducible] sx conB

end Go.RX.Span

/- Iterators: the indices of a domain: All yields just these. -/
set_option linter.unusedVariables false
set_option linter.unusedSimpArgs false
set_option maxRecDepth 100000
namespace Go.RX.Span
open Go Go.RX
attribute [local irreducible] sx conB

end Go.RX.Span

/- The law's list of all indices: the states. -/
set_option linter.unusedVariables false
set_option linter.unusedSimpArgs false
set_option maxRecDepth 100000
namespace Go.RX.Span
open Go Go.RX
attribute [local irreducible] sx conB

noncomputable abbrev El : Env := ⟨P, conOf [], scall P (conOf []) noLoops 10⟩
def uL (i : Nat) : Bool := decide (i = 0)
end Go.RX.Span

/- The law's list of all indices: the walk. -/
set_option linter.unusedVariables false
set_option linter.unusedSimpArgs false
set_option maxRecDepth 100000
namespace Go.RX.Span
open Go Go.RX
attribute [local irreducible] sx conB

end Go.RX.Span

/- The numbers of a range as a slice of the call's own, sorted: the states. -/
set_option linter.unusedVariables false
set_option linter.unusedSimpArgs false
set_option maxRecDepth 100000
namespace Go.RX.Span
open Go Go.RX
attribute [local irreducible] sx conB

def numF (a b c : Int) (k : Nat) : R1 := (num a b c k, ())
noncomputable abbrev rBl (a b c : Int) : Nat × Option Blk := (0, some (.cells [.lit (.int .i64 a), .lit (.int .i64 b), .lit (.int .i64 c)] 23))
noncomputable abbrev memNb (a b c : Int) (u : Bool) (i : Nat) (L : Nat → R1) : Mem :=
  [rBl a b c, rBl a b c, (0, some (.cells [.ki .i64 401] 3)), (0, some (.cells [.own u 4 i] 35)), (0, some (.row u i [.int .i64] L 3))]
noncomputable abbrev slNb : List SV := [.ptr 1 0, .ptr 2 0, .ptr 3 0]
noncomputable abbrev asNb : Code := match rangeOf P 26 1005 with | .rangeFunc _ _ a _ => a | _ => .skip
noncomputable abbrev bdNb : Code := match rangeOf P 26 1005 with | .rangeFunc _ _ _ b => b | _ => .skip
noncomputable abbrev cdNb : Code := rangeOf P 26 1005
structure XNb where
  (a b c : Int) (n : Nat) (el : Nat → List Value)
def PreNb (n0 : Nat) (a b c : Int) (n : Nat) (el : Nat → List Value) : Prop := n0 = 1 ∧ n ≤ 401 ∧ el = numE a b c
noncomputable def gNb : Nat → Nat → (Nat → List Value) → Few → T (Ex × Few)
  | n0, n, el, ([.ptr 1 0, .ptr 2 0, .ptr 3 0], [(_, some (.cells [.lit (.int .i64 a), .lit (.int .i64 b), .lit (.int .i64 c)] t0)), (_, some (.cells [.lit (.int .i64 a'), .lit (.int .i64 b'), .lit (.int .i64 c')] t1)), (_, some (.cells [.ki .i64 m] t2)), (_, some (.cells [.lit (.slice none 0 0)] t3))]) =>
    .ask (PreNb n0 a b c n el ∧ a' = a ∧ b' = b ∧ c' = c ∧ m = 401 ∧ t0 = 23 ∧ t1 = 23 ∧ t2 = 3 ∧ t3 = 35) (.ret (.normal, (slNb, memNb a b c (lk uL n) n (lk numF a b c))))
  | _, _, _, _ => .stuck 1
noncomputable abbrev kNb : List (Nat × Con) := [(119, c_All)] --%K
theorem kNb_ok : ∀ p ∈ kNb, ConOK P p.1 p.2 := by
  intro p hp
  simp only [kNb, List.mem_singleton] at hp
  subst hp
  exact All_ok
noncomputable abbrev lNb : List (Nat × Loops) := [(26, [(1005, .rng 176 sc176 (rfew 23 [2,3,5] gNb))]), (29, [(0, .call X_sort)])] --%K
end Go.RX.Span

/- The numbers of a range as a slice of the call's own, sorted: the walk. -/
set_option linter.unusedVariables false
set_option linter.unusedSimpArgs false
set_option maxRecDepth 100000
namespace Go.RX.Span
open Go Go.RX
attribute [local irreducible] sx conB

set_option maxRecDepth 100000 in
theorem t_Nb (a b c : Int) (u : Bool) (i : Nat) (L : Nat → R1) (x : Int) : (sxR El [] 5 #[13] asNb bdNb [.int .i64 x] (mkS 23 [2,3,5] slNb, memNb a b c u i L)).bind (fun r => .ret (r.1, r.2.2)) =
    T.ask ((i + (1 : Nat)) * nat_lit 8 ≤ nat_lit 140737488351232) (.br (U.gt (Int.ofNat (i.add (nat_lit 1))) (401 : Int)) (.ret (Ex.exit (nat_lit 0), [(nat_lit 0, some (Blk.cells [.lit
      (.int .i64 a), .lit (.int .i64 b), .lit (.int .i64 c)] (nat_lit 23))), (nat_lit 0, some (Blk.cells [.lit (.int .i64 a), .lit (.int .i64 b), .lit (.int .i64 c)] (nat_lit 23))),
      (nat_lit 0, some (Blk.cells [SV.ki .i64 401] (nat_lit 3))), (nat_lit 1, some (Blk.cells [SV.own false (nat_lit 6) (i.add (nat_lit 1))] (nat_lit 35))), (nat_lit 1, none), (nat_lit 0,
      some (Blk.cells [.lit (.int .i64 x)] (nat_lit 3))), (nat_lit 0, some (Blk.row false (i.add (nat_lit 1)) [.int .i64] (U.cat i L fun x_1 => (x, PUnit.unit)) (nat_lit 3)))])) (.ret
      (Ex.normal, [(nat_lit 0, some (Blk.cells [.lit (.int .i64 a), .lit (.int .i64 b), .lit (.int .i64 c)] (nat_lit 23))), (nat_lit 0, some (Blk.cells [.lit (.int .i64 a), .lit (.int
      .i64 b), .lit (.int .i64 c)] (nat_lit 23))), (nat_lit 0, some (Blk.cells [SV.ki .i64 401] (nat_lit 3))), (nat_lit 1, some (Blk.cells [SV.own false (nat_lit 6) (i.add (nat_lit 1))]
      (nat_lit 35))), (nat_lit 1, none), (nat_lit 0, some (Blk.cells [.lit (.int .i64 x)] (nat_lit 3))), (nat_lit 0, some (Blk.row false (i.add (nat_lit 1)) [.int .i64] (U.cat i L fun x_1
      => (x, PUnit.unit)) (nat_lit 3)))]))) := by kernel_rfl
set_option maxRecDepth 100000 in
theorem t_sorted (a b c : Int) : conB Go.Proofs.Try.prog (conOf kNb) (loopsOf lNb) 10 35 [.agg [.lit (.int .i64 a), .lit (.int .i64 b), .lit (.int .i64 c)]] =
    T.ask (I64 a ∧ I64 b ∧ I64 c) (.ask (PreNb (nat_lit 1) a b c (lk szN a b c) (lk szN a b c, lk numE a b c).snd ∧ a = a ∧ b = b ∧ c = c ∧ (401 : Int) = (401 : Int) ∧ (23 : Nat) = (23
      : TypeId) ∧ (23 : Nat) = (23 : TypeId) ∧ (3 : Nat) = (3 : TypeId) ∧ (35 : Nat) = (35 : TypeId)) (.ask (lk szN a b c = lk szN a b c ∧ lk szN a b c ≤ (1000000 : Nat)) (.ret (.row
      [.int .i64] (lk szN a b c) (lk srtF (lk szN a b c) (lk numF a b c)))))) := by kernel_rfl
theorem row1S {n : Nat} {f g : Nat → R1} (h : ∀ i, i < n → f i = g i) : sameRow n f g := ⟨eqShs_refl _, fun i hi => h i hi⟩
theorem ren1c {l : List (Option Nat)} : ∀ b, b < 1 → Ren.of (some 0 :: l) b = some b := fun b hb => by
  obtain rfl : b = 0 := by omega
  rfl
theorem rangeNb : RangeC P cdNb (rfew 23 [2,3,5] gNb) := by
  refine range_few (E := El) (L := []) mixed (envOK (allOK mixed none_ok) 10) (g0 := .tmp 12) (ps := #[13]) (assign := asNb) (body := bdNb) (by kernel_rfl) loopsOK_none loopsOK_none 23 [2,3,5] (by decide) (X := XNb) gNb
    (fun _ _ => slNb) (fun _ q i => memNb q.a q.b q.c (uL i) i (numF q.a q.b q.c)) (fun q => q.n) (fun q => q.el) (fun n0 q => PreNb n0 q.a q.b q.c q.n q.el)
    (fun _ _ _ => True) (fun _ q o => o = (.normal, (slNb, memNb q.a q.b q.c (uL q.n) q.n (numF q.a q.b q.c))))
    (fun _ _ => rfl) ?_ ?_ ?_ ?_ ?_
  · intro m0 n0 el0 st r h
    unfold gNb at h
    split at h
    · rename_i e0 a b c t0 e1 a' b' c' t1 e2 m t2 e3 t3
      obtain ⟨hp, rfl, rfl, rfl, rfl, rfl, rfl, rfl, rfl⟩ := (T.is_ask h).1
      obtain rfl := T.is_ret (T.is_ask h).2
      have h0 := hp.1
      subst h0
      refine ⟨⟨a', b', c', n0, el0⟩, hp, rfl, rfl, wk_of [some 0, some 1, some 2, some 3, none] rfl (show 1 ≤ 5 by omega) ren1c ⟨⟨rfl, rfl⟩, ⟨rfl, rfl⟩, ⟨rfl, rfl⟩, trivial⟩ ⟨⟨rfl, rfl, rfl, rfl, trivial⟩, ⟨rfl, rfl, rfl, rfl, trivial⟩, ⟨rfl, ⟨rfl, rfl⟩, trivial⟩, ⟨rfl, ⟨rfl, rfl, rfl⟩, trivial⟩, ⟨rfl, rfl⟩, trivial⟩, trivial, fun o ho => by rw [ho]; simp only [lk_eq]⟩
    · exact h.elim
  · intro n0 q i hq hi
    show (q.el i).length = 1
    rw [hq.2.2]; rfl
  · intro n0 q i hq
    rw [hq.1]; exact (show 1 ≤ 5 by omega)
  · intro n0 q i hq hi _
    obtain ⟨a, b, c, n, el⟩ := q
    obtain ⟨h0, hc, hel⟩ := hq
    simp only [] at h0 hc hel hi
    subst hel; subst h0
    show ((sxR El [] 5 #[13] asNb bdNb [.int .i64 (num a b c i)] (mkS 23 [2,3,5] slNb, memNb a b c (uL i) i (numF a b c))).bind (fun r => .ret (r.1, r.2.2))).All _
    rw [t_Nb]
    have eu : uL (i + 1) = false := rfl
    refine ⟨by show (i + 1) * 8 ≤ 140737488351232; omega, fun h => absurd (U.gt_t.mp h) (by show ¬ (((i + 1 : Nat) : Int) > 401); omega), fun _ => ⟨trivial, ?_⟩⟩
    rw [eu]
    refine wk_of [some 0, some 1, some 2, some 3, some 6] rfl (show 1 ≤ 5 by omega) ren1c ⟨⟨rfl, rfl⟩, ⟨rfl, rfl⟩, ⟨rfl, rfl⟩, trivial⟩ ⟨⟨rfl, rfl, rfl, rfl, trivial⟩, ⟨rfl, rfl, rfl, rfl, trivial⟩, ⟨rfl, ⟨rfl, rfl⟩, trivial⟩, ⟨rfl, ⟨rfl, rfl, rfl⟩, trivial⟩, ⟨rfl, rfl, rfl, row1S fun j hj => ?_⟩, trivial⟩
    by_cases hj' : j < i
    · exact (U.cat_eq _ _ _ _).trans (if_pos hj')
    · have hj : j < i + 1 := hj
      obtain rfl : j = i := by omega
      exact (U.cat_eq _ _ _ _).trans (if_neg hj')
  · intro n0 q hq _
    obtain ⟨a, b, c, n, el⟩ := q
    obtain ⟨h0, hc, hel⟩ := hq
    simp only [] at h0 hc hel
    subst h0
    exact ⟨_, rfl, wk_of [some 0, some 1, some 2, some 3, some 4] rfl (show 1 ≤ 5 by omega) ren1c ⟨⟨rfl, rfl⟩, ⟨rfl, rfl⟩, ⟨rfl, rfl⟩, trivial⟩ ⟨⟨rfl, rfl, rfl, rfl, trivial⟩, ⟨rfl, rfl, rfl, rfl, trivial⟩, ⟨rfl, ⟨rfl, rfl⟩, trivial⟩, ⟨rfl, ⟨rfl, rfl, rfl⟩, trivial⟩, ⟨rfl, rfl, rfl, row1S fun j hj => rfl⟩, trivial⟩⟩
theorem lNb_ok : ∀ p ∈ lNb, LoopsOK P p.2 (bodyOf P p.1) := by
  intro p hp
  simp only [lNb, List.mem_cons, List.not_mem_nil, or_false] at hp
  rcases hp with rfl | rfl
  · refine loopsOK_ofR (by kernel_rfl) (by kernel_rfl) (fun k g hk => by simp at hk) fun k gf sc g hk => ?_
    simp only [List.mem_singleton, Prod.mk.injEq, LoopC.rng.injEq] at hk
    obtain ⟨rfl, rfl, rfl, rfl⟩ := hk
    exact ⟨sc176_ok, rangeNb⟩
  · exact loopsOK_call _
theorem cNb_ok : ∀ p ∈ lNb, ∀ X, callOf p.2 = some X → InlOK P p.1 X := by
  intro p hp X hX
  simp only [lNb, List.mem_cons, List.not_mem_nil, or_false] at hp
  rcases hp with rfl | rfl
  · cases hX
  · simp only [callOf, Option.some.injEq] at hX
    subst hX
    exact sort_ok
/-- A range's numbers, ascending. -/
def srtN (a b c : Int) : Nat → R1 := srtF (szN a b c) (numF a b c)
noncomputable def c_sorted : Con := fun args => match args with
  | [.agg [.lit (.int .i64 a), .lit (.int .i64 b), .lit (.int .i64 c)]] => .ask (I64 a ∧ I64 b ∧ I64 c ∧ lk szN a b c ≤ 401) (.ret (.row [.int .i64] (lk szN a b c) (lk srtN a b c)))
  | _ => .stuck 1
theorem sorted_ok : ConOK P 35 c_sorted := con_of (allOKC mixed kNb_ok lNb_ok cNb_ok) 10 35 fun args r h => by
  unfold c_sorted at h
  split at h
  · rename_i a b c
    obtain ⟨h1, h2, h3, h4⟩ := (T.is_ask h).1
    obtain rfl := T.is_ret (T.is_ask h).2
    rw [t_sorted]
    simp only [lk_eq] at h4 ⊢
    exact ⟨⟨h1, h2, h3⟩, ⟨⟨rfl, h4, rfl⟩, by simp⟩, ⟨by simp, by omega⟩, rfl⟩
  · exact h.elim
end Go.RX.Span

/- Lists compared but for a sum: EqualFunc with the law's function. -/
set_option linter.unusedVariables false
set_option linter.unusedSimpArgs false
set_option maxRecDepth 100000
namespace Go.RX.Span
open Go Go.RX
attribute [local irreducible] sx conB

def AddN (n : Nat) (F G : Nat → R1) (d : Int) : Prop := n ≤ 100000 ∧ ∀ i, i < n → (F i).1 = U.add .i64 (G i).1 d
noncomputable def c_EqM : Con := fun args => match args with
  | [.row [.int .i64] n F, .row [.int .i64] m G, .fn (.func 33) [] [.rptr [.int .i64] 1 h 0 0]] => .ask (n = m ∧ AddN n F G (h 0).1) (.ret (.lit (.bool true)))
  | _ => .stuck 1
structure XEm where
  (n : Nat) (F G : Nat → R1) (h : Nat → R1) (j : Nat)
noncomputable abbrev slEm (n : Nat) (F G h : Nat → R1) (j : Int) : List SV := [.row [.int .i64] n G, .fn (.func 33) [] [.rptr [.int .i64] 1 h 0 0], .row [.int .i64] n F, .lit (.int .i64 (n : Int)), .lit (.int .i64 j)]
noncomputable def VEm (q : XEm) : Few := (slEm q.n q.F q.G q.h (q.j : Int), [])
noncomputable def OEm (q : XEm) : Ex × Few := (.exit 0, ([.any, .any, .any, .any, .any], []))
def PhiEm (n0 : Nat) (q : XEm) : Prop := n0 = 0 ∧ AddN q.n q.F q.G (q.h 0).1 ∧ q.j ≤ q.n
noncomputable def gEm : Nat → Few → T (Ex × Few)
  | n0, ([.row [.int .i64] m G, .fn (.func 33) [] [.rptr [.int .i64] 1 h 0 0], .row [.int .i64] n F, .lit (.int .i64 l), .ki .i64 (.ofNat 0)], []) =>
    .ask (n0 = 0 ∧ n = m ∧ l = Int.ofNat n ∧ AddN n F G (h 0).1) (.ret (.exit 0, ([.any, .any, .any, .any, .any], [])))
  | _, _ => .stuck 1
noncomputable abbrev lEm : List (Nat × Loops) := [(32, [(4, .sum (few 32 [1,2,15,16,17] gEm))])]
end Go.RX.Span

/- Lists compared but for a sum: the walk. -/
set_option linter.unusedVariables false
set_option linter.unusedSimpArgs false
set_option maxRecDepth 100000
namespace Go.RX.Span
open Go Go.RX
attribute [local irreducible] sx conB

set_option maxRecDepth 100000 in
theorem t_Em (n0 n : Nat) (F G h : Nat → R1) (j : Int) : (sx El [] n0 (loopOf P 32 4) (mkS 32 [1,2,15,16,17] (slEm n F G h j), [])).bind (proj 32 [1,2,15,16,17]) =
    T.br (U.lt j (Int.ofNat n)) (.ask ((0 : Int) ≤ j ∧ j < ↑n) (.ask ((0 : Int) ≤ j ∧ j < ↑n) (.br (U.not (U.eq (F (U.toNat j)).1 (U.add .i64 (G (U.toNat j)).1 (h (0 : Nat)).1))) (.ret
      (Ex.ret, [.row [.int .i64] n G, SV.fn (Fn.func (nat_lit 33)) [] [SV.rptr [.int .i64] (nat_lit 1) h (nat_lit 0) (nat_lit 0)], .row [.int .i64] n F, .lit (.int .i64 (Int.ofNat n)),
      .lit (.int .i64 j)], [])) (.ret (Ex.normal, [.row [.int .i64] n G, SV.fn (Fn.func (nat_lit 33)) [] [SV.rptr [.int .i64] (nat_lit 1) h (nat_lit 0) (nat_lit 0)], .row [.int .i64] n F,
      .lit (.int .i64 (Int.ofNat n)), .lit (.int .i64 (U.add .i64 j (1 : Int)))], []))))) (.ret (Ex.exit (nat_lit 0), [.row [.int .i64] n G, SV.fn (Fn.func (nat_lit 33)) [] [SV.rptr [.int
      .i64] (nat_lit 1) h (nat_lit 0) (nat_lit 0)], .row [.int .i64] n F, .lit (.int .i64 (Int.ofNat n)), .lit (.int .i64 j)], [])) := by kernel_rfl
set_option maxRecDepth 100000 in
theorem t_EqM (n : Nat) (F : Nat → R1) (m : Nat) (G h : Nat → R1) : conB Go.Proofs.Try.prog (conOf []) (loopsOf lEm) 10 32 [.row [.int .i64] n F, .row [.int .i64] m G, .fn (.func 33) [] [.rptr [.int .i64] 1 h 0 0]] =
    T.br (U.ne (Int.ofNat n) (Int.ofNat m)) (.ret (.lit (.bool false))) (.ask (nat_lit 0 = (0 : Nat) ∧ n = m ∧ ↑n = Int.ofNat n ∧ AddN n F G (h (0 : Nat)).1) (.ret (.lit (.bool true)))) := by kernel_rfl
theorem roundEm (n0 : Nat) (q : XEm) (hq : PhiEm n0 q) : ((sx El [] n0 (loopOf P 32 4) (mkS 32 [1,2,15,16,17] (VEm q).1, (VEm q).2)).bind (proj 32 [1,2,15,16,17])).All fun r => match r.1 with
      | .normal => ∃ q', PhiEm n0 q' ∧ q'.n - q'.j < q.n - q.j ∧ Wk 32 [1,2,15,16,17] n0 r.2 (VEm q') ∧ ∀ o, o = OEm q' → o = OEm q
      | e => ∃ s, (e, s) = OEm q ∧ Wk 32 [1,2,15,16,17] n0 r.2 s := by
  obtain ⟨n, F, G, h, j⟩ := q
  obtain ⟨h0, ⟨hn, hF⟩, hj⟩ := hq
  simp only [] at h0 hn hF hj
  subst h0
  show ((sx El [] 0 (loopOf P 32 4) (mkS 32 [1,2,15,16,17] (slEm n F G h (j : Int)), [])).bind (proj 32 [1,2,15,16,17])).All _
  rw [t_Em]
  have e2 : U.add .i64 (j : Int) 1 = ((j + 1 : Nat) : Int) := by rw [U.add64 (by unfold I64; omega)]; omega
  have tnj : U.toNat (j : Int) = j := tn j
  simp only [tnj, e2]
  by_cases hlt : j < n
  · have e1 := hF j hlt
    refine ⟨fun _ => ⟨⟨by omega, by omega⟩, ⟨by omega, by omega⟩, fun hh => ?_, fun _ => ?_⟩, fun h => absurd (U.lt_f.mp h) (by simp only [Int.ofNat_eq_natCast]; omega)⟩
    · exact absurd e1 (U.eq_f.mp (U.not_t.mp hh))
    · refine ⟨⟨n, F, G, h, j + 1⟩, ⟨rfl, ⟨hn, hF⟩, by simp only []; omega⟩, by simp only []; omega, ?_, fun o ho => ho⟩
      exact wk_of [] rfl (Nat.zero_le _) (fun b hb => by omega) ⟨⟨rfl, row1S fun i hi => rfl⟩, ⟨rfl, trivial, ⟨rfl, rfl, rfl, row1S fun i hi => rfl⟩, trivial⟩, ⟨rfl, row1S fun i hi => rfl⟩, rfl, rfl, trivial⟩ trivial
  · obtain rfl : j = n := by omega
    refine ⟨fun h => absurd (U.lt_t.mp h) (by simp only [Int.ofNat_eq_natCast]; omega), fun _ => ⟨_, rfl, ?_⟩⟩
    exact wk_of [] rfl (Nat.zero_le _) (fun b hb => by omega) ⟨trivial, trivial, trivial, trivial, trivial, trivial⟩ trivial
theorem loopEm : LoopOK P (loopOf P 32 4) (few 32 [1,2,15,16,17] gEm) :=
  loop_few (E := El) mixed (envOK (allOK mixed none_ok) 10) loopsOK_none 32 [1,2,15,16,17] (X := XEm) gEm (fun _ x => VEm x) PhiEm (fun q => q.n - q.j) (fun _ x o => o = OEm x)
    (fun n0 st r h => by
      unfold gEm at h
      split at h
      · rename_i n0 m G hh n F l
        obtain ⟨h0, hn, hl, hs⟩ := (T.is_ask h).1
        obtain rfl := T.is_ret (T.is_ask h).2
        subst h0; subst hn; subst hl
        refine ⟨⟨n, F, G, hh, 0⟩, ⟨rfl, hs, Nat.zero_le _⟩, ?_, fun o ho => ho⟩
        exact wk_of [] rfl (Nat.zero_le _) (fun b hb => by omega) ⟨⟨rfl, row1S fun i hi => rfl⟩, ⟨rfl, trivial, ⟨rfl, rfl, rfl, row1S fun i hi => rfl⟩, trivial⟩, ⟨rfl, row1S fun i hi => rfl⟩, rfl, rfl, trivial⟩ trivial
      · exact h.elim)
    roundEm
theorem lEm_ok : ∀ p ∈ lEm, LoopsOK P p.2 (bodyOf P p.1) := by
  intro p hp
  simp only [lEm, List.mem_singleton] at hp
  subst hp
  refine loopsOK_of (by kernel_rfl) fun k g hk => ?_
  simp only [List.mem_singleton, Prod.mk.injEq, LoopC.sum.injEq] at hk
  obtain ⟨rfl, rfl⟩ := hk
  exact loopEm
theorem EqM_ok : ConOK P 32 c_EqM := con_of (allOKL mixed none_ok lEm_ok) 10 32 fun args r h => by
  unfold c_EqM at h
  split at h
  · rename_i n F m G hh
    obtain ⟨hn, hs⟩ := (T.is_ask h).1
    obtain rfl := T.is_ret (T.is_ask h).2
    subst hn
    rw [t_EqM]
    exact ⟨fun h => absurd rfl (U.ne_t.mp h), fun _ => ⟨⟨rfl, rfl, rfl, hs⟩, rfl⟩⟩
  · exact h.elim
end Go.RX.Span

/- The law of moves: the walk. -/
set_option linter.unusedVariables false
set_option linter.unusedSimpArgs false
set_option maxRecDepth 100000
namespace Go.RX.Span
open Go Go.RX
attribute [local irreducible] sx conB

noncomputable abbrev kM : List (Nat × Con) := (35, c_sorted) :: (32, c_EqM) :: (30, c_Equal) :: (22, c_Intersect) :: (24, c_Within) :: (38, c_Hull) :: (26, c_numbers) :: (20, c_small) :: k9 --%K
--%R ↑\(lk\s+szN\s+a\s+b\s+c\) => ((lk szN a b c : Nat) : Int)
end Go.RX.Span

/- Ranges moved, in plain Lean. -/
set_option linter.unusedVariables false
set_option linter.unusedSimpArgs false
namespace Go.RX.Span
open Go Go.RX

/-- A right range out of a series upwards. -/
theorem right_mk {f s C c : Int} (hs : 1 ≤ s) (hC : 1 ≤ C) (hl : -1000000 ≤ f) (hh : f + s * (C - 1) ≤ 1000000) (hc : c = s ∨ c = -s) (h1 : C = 1 → c = 1) :
    Right f (f + s * (C - 1)) c ∧ ofC f (f + s * (C - 1)) c = C ∧ f ≤ f + s * (C - 1) := by
  by_cases hC1 : C = 1
  · subst hC1
    rw [show s * (1 - 1) = 0 by simp] at hh ⊢
    rw [h1 rfl]
    refine ⟨⟨by omega, .inr (.inl ⟨by omega, rfl⟩)⟩, ?_, by omega⟩
    unfold ofC
    rw [if_neg (by omega), if_neg (by omega), show f + 0 - f = 0 by omega]; rfl
  · have hm := mulle (s := s) (x := 1) (y := C - 1) hs (by omega)
    rw [Int.mul_one] at hm
    have e : f + s * (C - 1) - f = s * (C - 1) := by omega
    have hd : c ∣ s * (C - 1) := by
      rcases hc with rfl | rfl
      · exact Int.dvd_mul_right _ _
      · exact Int.neg_dvd.2 (Int.dvd_mul_right _ _)
    refine ⟨⟨by omega, .inr (.inr ⟨by omega, by omega, by rw [e]; exact Int.emod_eq_zero_of_dvd hd⟩)⟩, ?_, by omega⟩
    unfold ofC
    rw [if_neg (by omega), e]
    rcases hc with rfl | rfl
    · rw [if_neg (by omega), Int.mul_ediv_cancel_left _ (by omega)]; omega
    · rw [if_pos (by omega), Int.neg_neg, Int.mul_ediv_cancel_left _ (by omega)]; omega

section
variable {a b c n : Int}
theorem mvE_zero {f s C : Int} (hl : -1000000 ≤ f ∧ f ≤ 1000000) (hh : -1000000 ≤ f + s * (C - 1) ∧ f + s * (C - 1) ≤ 1000000) : mvE f s C = 0 := by
  unfold mvE; split
  · rfl
  · rw [if_pos ⟨hl, hh⟩]

end
end Go.RX.Span

/- Ranges' parts, and their numbers in order, in plain Lean. -/
set_option linter.unusedVariables false
set_option linter.unusedSimpArgs false
namespace Go.RX.Span
open Go Go.RX

/-- The stride of so many numbers. -/
def strOf (C c : Int) : Int := if C = 1 then 1 else c
theorem right_mk' {f s C c : Int} (hs : 1 ≤ s) (hC : 1 ≤ C) (hl : -1000000 ≤ f) (hh : f + s * (C - 1) ≤ 1000000) (hc : c = s ∨ c = -s) :
    Right f (f + s * (C - 1)) (strOf C c) ∧ ofC f (f + s * (C - 1)) (strOf C c) = C ∧ f ≤ f + s * (C - 1) ∧ ∀ m, RIn f (f + s * (C - 1)) (strOf C c) m ↔ SIn f s C m := by
  have key : Right f (f + s * (C - 1)) (strOf C c) ∧ ofC f (f + s * (C - 1)) (strOf C c) = C ∧ f ≤ f + s * (C - 1) := by
    by_cases h : C = 1
    · subst h
      rw [show strOf 1 c = 1 from if_pos rfl]
      have := right_mk (f := f) (s := 1) (C := 1) (c := 1) (by omega) (by omega) hl (by simp at hh ⊢; omega) (.inl rfl) (fun _ => rfl)
      simpa using this
    · rw [show strOf C c = c from if_neg h]
      exact right_mk hs hC hl hh hc (fun e => absurd e h)
  refine ⟨key.1, key.2.1, key.2.2, rin_of hC key.1 key.2.2 rfl key.2.1 fun h => ?_⟩
  rw [show strOf C c = c from if_neg h]
  rcases hc with rfl | rfl
  · exact absI_pos (by omega)
  · rw [absI_neg (by omega)]; omega
section
variable {a b c n : Int}
theorem rin_sin (hr : Right a b c) (hab : a ≤ b) (m : Int) : RIn a b c m ↔ SIn a (absI c) (ofC a b c) m := by
  obtain ⟨p1, p2, p3, p4, p5, p6, p7, p8, p9, p10⟩ := parts hr hab
  exact rin_of (by omega) hr hab rfl rfl (fun _ => rfl) m
/-! The numbers in order. -/
end
end Go.RX.Span

/- The law of moves: what it returns. -/
set_option linter.unusedVariables false
set_option linter.unusedSimpArgs false
set_option maxRecDepth 100000
namespace Go.RX.Span
open Go Go.RX
attribute [local irreducible] sx conB

theorem kM_ok : ∀ p ∈ kM, ConOK P p.1 p.2 := by
  intro p hp
  simp only [kM, List.mem_cons] at hp
  rcases hp with rfl | rfl | rfl | rfl | rfl | rfl | rfl | rfl | hp
  · exact sorted_ok
  · exact EqM_ok
  · exact Equal_ok
  · exact Intersect_ok
  · exact Within_ok
  · exact Hull_ok
  · exact numbers_ok
  · exact small_ok
  · exact k9_ok p (by simpa [k9] using hp)
end Go.RX.Span

/- Sets of numbers: the law's loops, their states. -/
set_option linter.unusedVariables false
set_option linter.unusedSimpArgs false
set_option maxRecDepth 100000
namespace Go.RX.Span
open Go Go.RX
attribute [local irreducible] sx conB

/-- A list as a row. -/
def rowL (l : List Int) (i : Nat) : R1 := (l.getD i 0, ())
def nilB (l : List Int) : Bool := decide (l = [])
theorem getD_l (l l' : List Int) {i : Nat} (h : i < l.length) : (l ++ l').getD i 0 = l.getD i 0 := by
  rw [List.getD_eq_getElem?_getD, List.getD_eq_getElem?_getD, List.getElem?_append_left h]
theorem getD_r (l l' : List Int) {i : Nat} (h : l.length ≤ i) : (l ++ l').getD i 0 = l'.getD (i - l.length) 0 := by
  rw [List.getD_eq_getElem?_getD, List.getD_eq_getElem?_getD, List.getElem?_append_right h]
def one1 (x : Int) : R1 := (x, ())
theorem rowL_snoc (l : List Int) (x : Int) : ∀ i, i < l.length + 1 → U.cat l.length (rowL l) (fun _ => one1 x) i = rowL (l ++ [x]) i := fun i hi => by
  refine (U.cat_eq _ _ _ _).trans ?_
  by_cases h : i < l.length
  · rw [if_pos h]; unfold rowL; rw [getD_l _ _ h]
  · rw [if_neg h]
    obtain rfl : i = l.length := by omega
    unfold rowL
    rw [getD_r _ _ (Nat.le_refl _), Nat.sub_self]; rfl
theorem rowL_app (l l' : List Int) (f : Nat → R1) (hf : ∀ i, i < l'.length → f i = rowL l' i) : ∀ i, i < l.length + l'.length → U.cat l.length (rowL l) f i = rowL (l ++ l') i := fun i hi => by
  refine (U.cat_eq _ _ _ _).trans ?_
  by_cases h : i < l.length
  · rw [if_pos h]; unfold rowL; rw [getD_l _ _ h]
  · rw [if_neg h, hf _ (by omega)]
    unfold rowL; rw [getD_r _ _ (by omega)]
noncomputable abbrev kT : List (Nat × Con) := (23, c_Subtract) :: kM --%K
theorem kT_ok : ∀ p ∈ kT, ConOK P p.1 p.2 := by
  intro p hp
  simp only [kT, List.mem_cons] at hp
  rcases hp with rfl | hp
  · exact Subtract_ok
  · exact kM_ok p (by simpa [kM] using hp)
noncomputable abbrev ET : Env := ⟨P, conOf kT, scall P (conOf kT) noLoops 10⟩
theorem ET_ok : EnvOK ET := envOK (allOK mixed kT_ok) 10
noncomputable abbrev slS1 (sN : Nat) (sF : Nat → R3) (w u v : Bool) (p q N : Nat) (f : Nat → R1) (k : Int) : List SV :=
  [.ptr 1 0, .ptr 2 0, .row [.int .i64, .int .i64, .int .i64] sN sF, .lit (.bool w), .own u 3 p, .own v 4 q, .row [.int .i64] N f, .lit (.int .i64 (N : Int)), .lit (.int .i64 k)]
noncomputable abbrev memS1 (a b c x y z d e g : Int) (u v : Bool) (p q : Nat) (G H : Nat → R1) : Mem :=
  [rBl a b c, rBl x y z, rBl d e g, (0, some (.row u p [.int .i64] G 3)), (0, some (.row v q [.int .i64] H 3))]
noncomputable abbrev slS2 (sN : Nat) (sF : Nat → R3) (w u v t : Bool) (p q o : Nat) (k : Int) : List SV :=
  [.ptr 1 0, .ptr 2 0, .row [.int .i64, .int .i64, .int .i64] sN sF, .lit (.bool w), .own u 3 p, .own v 4 q, .own t 5 o, .row [.int .i64, .int .i64, .int .i64] sN sF, .lit (.int .i64 (sN : Int)), .lit (.int .i64 k)]
noncomputable abbrev memS2 (a b c x y z d e g : Int) (u v t : Bool) (p q o : Nat) (G H K : Nat → R1) : Mem :=
  [rBl a b c, rBl x y z, rBl d e g, (0, some (.row u p [.int .i64] G 3)), (0, some (.row v q [.int .i64] H 3)), (0, some (.row t o [.int .i64] K 3))]
end Go.RX.Span

/- Sets of numbers: the law's rounds. -/
set_option linter.unusedVariables false
set_option linter.unusedSimpArgs false
set_option maxRecDepth 100000
namespace Go.RX.Span
open Go Go.RX
attribute [local irreducible] sx conB

set_option maxRecDepth 100000 in
theorem t_S1 (n0 : Nat) (a b c x y z d e g : Int) (sN : Nat) (sF : Nat → R3) (w u v : Bool) (p q N : Nat) (f G H : Nat → R1) (k : Int) : (sx ET [] n0 (loopOf P 3 10) (mkS 126 [3,5,7,9,11,12,66,67,68] (slS1 sN sF w u v p q N f k), memS1 a b c x y z d e g u v p q G H)).bind (proj 126 [3,5,7,9,11,12,66,67,68]) =
    T.br (U.lt k (Int.ofNat N)) (.ask ((0 : Int) ≤ k ∧ k < ↑N) (.ask (I64 x ∧ I64 y ∧ I64 z) (.br (lk has x y z (f (U.toNat k)).1) (.ask ((p + (1 : Nat)) * nat_lit 8 ≤ nat_lit
      140737488351232) (.ret (Ex.normal, [SV.ptr (nat_lit 1) (nat_lit 0), SV.ptr (nat_lit 2) (nat_lit 0), .row [.int .i64, .int .i64, .int .i64] sN sF, .lit (.bool w), SV.own false
      (nat_lit 6) (p.add (nat_lit 1)), SV.own v (nat_lit 4) q, .row [.int .i64] N f, .lit (.int .i64 (Int.ofNat N)), .lit (.int .i64 (U.add .i64 k (1 : Int)))], [(nat_lit 0, some
      (Blk.cells [.lit (.int .i64 a), .lit (.int .i64 b), .lit (.int .i64 c)] (nat_lit 23))), (nat_lit 0, some (Blk.cells [.lit (.int .i64 x), .lit (.int .i64 y), .lit (.int .i64 z)]
      (nat_lit 23))), (nat_lit 0, some (Blk.cells [.lit (.int .i64 d), .lit (.int .i64 e), .lit (.int .i64 g)] (nat_lit 23))), (nat_lit 1, none), (nat_lit 0, some (Blk.row v q [.int .i64]
      H (nat_lit 3))), (nat_lit 0, some (Blk.cells [.lit (.int .i64 (f (U.toNat k)).1)] (nat_lit 3))), (nat_lit 0, some (Blk.row false (p.add (nat_lit 1)) [.int .i64] (U.cat p G fun x =>
      ((f (U.toNat k)).1, PUnit.unit)) (nat_lit 3)))]))) (.ask ((q + (1 : Nat)) * nat_lit 8 ≤ nat_lit 140737488351232) (.ret (Ex.normal, [SV.ptr (nat_lit 1) (nat_lit 0), SV.ptr (nat_lit
      2) (nat_lit 0), .row [.int .i64, .int .i64, .int .i64] sN sF, .lit (.bool w), SV.own u (nat_lit 3) p, SV.own false (nat_lit 6) (q.add (nat_lit 1)), .row [.int .i64] N f, .lit (.int
      .i64 (Int.ofNat N)), .lit (.int .i64 (U.add .i64 k (1 : Int)))], [(nat_lit 0, some (Blk.cells [.lit (.int .i64 a), .lit (.int .i64 b), .lit (.int .i64 c)] (nat_lit 23))), (nat_lit
      0, some (Blk.cells [.lit (.int .i64 x), .lit (.int .i64 y), .lit (.int .i64 z)] (nat_lit 23))), (nat_lit 0, some (Blk.cells [.lit (.int .i64 d), .lit (.int .i64 e), .lit (.int .i64
      g)] (nat_lit 23))), (nat_lit 0, some (Blk.row u p [.int .i64] G (nat_lit 3))), (nat_lit 1, none), (nat_lit 0, some (Blk.cells [.lit (.int .i64 (f (U.toNat k)).1)] (nat_lit 3))),
      (nat_lit 0, some (Blk.row false (q.add (nat_lit 1)) [.int .i64] (U.cat q H fun x => ((f (U.toNat k)).1, PUnit.unit)) (nat_lit 3)))])))))) (.ret (Ex.exit (nat_lit 0), [SV.ptr
      (nat_lit 1) (nat_lit 0), SV.ptr (nat_lit 2) (nat_lit 0), .row [.int .i64, .int .i64, .int .i64] sN sF, .lit (.bool w), SV.own u (nat_lit 3) p, SV.own v (nat_lit 4) q, .row [.int
      .i64] N f, .lit (.int .i64 (Int.ofNat N)), .lit (.int .i64 k)], [(nat_lit 0, some (Blk.cells [.lit (.int .i64 a), .lit (.int .i64 b), .lit (.int .i64 c)] (nat_lit 23))), (nat_lit 0,
      some (Blk.cells [.lit (.int .i64 x), .lit (.int .i64 y), .lit (.int .i64 z)] (nat_lit 23))), (nat_lit 0, some (Blk.cells [.lit (.int .i64 d), .lit (.int .i64 e), .lit (.int .i64 g)]
      (nat_lit 23))), (nat_lit 0, some (Blk.row u p [.int .i64] G (nat_lit 3))), (nat_lit 0, some (Blk.row v q [.int .i64] H (nat_lit 3)))])) := by kernel_rfl
set_option maxRecDepth 100000 in
theorem t_S2x (n0 : Nat) (a b c x y z d e g : Int) (sN : Nat) (sF : Nat → R3) (w u v t : Bool) (p q o : Nat) (G H K : Nat → R1) (k : Int) : (sx ET [] n0 (loopOf P 3 18) (mkS 126 [3,5,7,9,11,12,15,84,85,86] (slS2 sN sF w u v t p q o k), memS2 a b c x y z d e g u v t p q o G H K)).bind (proj 126 [3,5,7,9,11,12,15,84,85,86]) =
    T.br (U.lt k (Int.ofNat sN)) (.ask ((0 : Int) ≤ k ∧ k < ↑sN) (.ask (I64 (sF (U.toNat k)).1 ∧ I64 (sF (U.toNat k)).2.1 ∧ I64 (sF (U.toNat k)).2.2.1) (.br (U.ne (lk chk (sF (U.toNat
      k)).1 (sF (U.toNat k)).2.1 (sF (U.toNat k)).2.2.1) (0 : Int)) (.ret (Ex.ret, [SV.ptr (nat_lit 1) (nat_lit 0), SV.ptr (nat_lit 2) (nat_lit 0), .row [.int .i64, .int .i64, .int .i64]
      sN sF, .lit (.bool w), SV.own u (nat_lit 3) p, SV.own v (nat_lit 4) q, SV.own t (nat_lit 5) o, .row [.int .i64, .int .i64, .int .i64] sN sF, .lit (.int .i64 (Int.ofNat sN)), .lit
      (.int .i64 k)], [(nat_lit 0, some (Blk.cells [.lit (.int .i64 a), .lit (.int .i64 b), .lit (.int .i64 c)] (nat_lit 23))), (nat_lit 0, some (Blk.cells [.lit (.int .i64 x), .lit (.int
      .i64 y), .lit (.int .i64 z)] (nat_lit 23))), (nat_lit 0, some (Blk.cells [.lit (.int .i64 d), .lit (.int .i64 e), .lit (.int .i64 g)] (nat_lit 23))), (nat_lit 0, some (Blk.row u p
      [.int .i64] G (nat_lit 3))), (nat_lit 0, some (Blk.row v q [.int .i64] H (nat_lit 3))), (nat_lit 0, some (Blk.row t o [.int .i64] K (nat_lit 3))), (nat_lit 1, some (Blk.cells [.lit
      (.int .i64 (sF (U.toNat k)).1), .lit (.int .i64 (sF (U.toNat k)).2.1), .lit (.int .i64 (sF (U.toNat k)).2.2.1)] (nat_lit 23)))])) (.ask (I64 (sF (U.toNat k)).1 ∧ I64 (sF (U.toNat
      k)).2.1 ∧ I64 (sF (U.toNat k)).2.2.1) (.br (U.eq (lk size (sF (U.toNat k)).1 (sF (U.toNat k)).2.1 (sF (U.toNat k)).2.2.1) (0 : Int)) (.ret (Ex.ret, [SV.ptr (nat_lit 1) (nat_lit 0),
      SV.ptr (nat_lit 2) (nat_lit 0), .row [.int .i64, .int .i64, .int .i64] sN sF, .lit (.bool w), SV.own u (nat_lit 3) p, SV.own v (nat_lit 4) q, SV.own t (nat_lit 5) o, .row [.int
      .i64, .int .i64, .int .i64] sN sF, .lit (.int .i64 (Int.ofNat sN)), .lit (.int .i64 k)], [(nat_lit 0, some (Blk.cells [.lit (.int .i64 a), .lit (.int .i64 b), .lit (.int .i64 c)]
      (nat_lit 23))), (nat_lit 0, some (Blk.cells [.lit (.int .i64 x), .lit (.int .i64 y), .lit (.int .i64 z)] (nat_lit 23))), (nat_lit 0, some (Blk.cells [.lit (.int .i64 d), .lit (.int
      .i64 e), .lit (.int .i64 g)] (nat_lit 23))), (nat_lit 0, some (Blk.row u p [.int .i64] G (nat_lit 3))), (nat_lit 0, some (Blk.row v q [.int .i64] H (nat_lit 3))), (nat_lit 0, some
      (Blk.row t o [.int .i64] K (nat_lit 3))), (nat_lit 1, some (Blk.cells [.lit (.int .i64 (sF (U.toNat k)).1), .lit (.int .i64 (sF (U.toNat k)).2.1), .lit (.int .i64 (sF (U.toNat
      k)).2.2.1)] (nat_lit 23)))])) (.ask (I64 (sF (U.toNat k)).1 ∧ I64 (sF (U.toNat k)).2.1 ∧ I64 (sF (U.toNat k)).2.2.1 ∧ (0 : Int) ≤ (401 : Int) ∧ (401 : Int) ≤ (1000000 : Int)) (.ask
      ((o + lk numsN (sF (U.toNat k)).1 (sF (U.toNat k)).2.1 (sF (U.toNat k)).2.2.1 (401 : Int)) * nat_lit 8 ≤ nat_lit 140737488351232) (.ret (Ex.normal, [SV.ptr (nat_lit 1) (nat_lit 0),
      SV.ptr (nat_lit 2) (nat_lit 0), .row [.int .i64, .int .i64, .int .i64] sN sF, .lit (.bool w), SV.own u (nat_lit 3) p, SV.own v (nat_lit 4) q, SV.own (U.andb t (U.isz (lk numsN (sF
      (U.toNat k)).1 (sF (U.toNat k)).2.1 (sF (U.toNat k)).2.2.1 (401 : Int)))) (nat_lit 7) (o + lk numsN (sF (U.toNat k)).1 (sF (U.toNat k)).2.1 (sF (U.toNat k)).2.2.1 (401 : Int)), .row
      [.int .i64, .int .i64, .int .i64] sN sF, .lit (.int .i64 (Int.ofNat sN)), .lit (.int .i64 (U.add .i64 k (1 : Int)))], [(nat_lit 0, some (Blk.cells [.lit (.int .i64 a), .lit (.int
      .i64 b), .lit (.int .i64 c)] (nat_lit 23))), (nat_lit 0, some (Blk.cells [.lit (.int .i64 x), .lit (.int .i64 y), .lit (.int .i64 z)] (nat_lit 23))), (nat_lit 0, some (Blk.cells
      [.lit (.int .i64 d), .lit (.int .i64 e), .lit (.int .i64 g)] (nat_lit 23))), (nat_lit 0, some (Blk.row u p [.int .i64] G (nat_lit 3))), (nat_lit 0, some (Blk.row v q [.int .i64] H
      (nat_lit 3))), (nat_lit 1, none), (nat_lit 1, some (Blk.cells [.lit (.int .i64 (sF (U.toNat k)).1), .lit (.int .i64 (sF (U.toNat k)).2.1), .lit (.int .i64 (sF (U.toNat k)).2.2.1)]
      (nat_lit 23))), (nat_lit 0, some (Blk.row (U.andb t (U.isz (lk numsN (sF (U.toNat k)).1 (sF (U.toNat k)).2.1 (sF (U.toNat k)).2.2.1 (401 : Int)))) (o + lk numsN (sF (U.toNat k)).1
      (sF (U.toNat k)).2.1 (sF (U.toNat k)).2.2.1 (401 : Int)) [.int .i64] (U.cat o K fun k_1 => (lk num (sF (U.toNat k)).1 (sF (U.toNat k)).2.1 (sF (U.toNat k)).2.2.1 k_1, PUnit.unit))
      (nat_lit 3)))]))))))))) (.ret (Ex.exit (nat_lit 2), [SV.ptr (nat_lit 1) (nat_lit 0), SV.ptr (nat_lit 2) (nat_lit 0), .row [.int .i64, .int .i64, .int .i64] sN sF, .lit (.bool w),
      SV.own u (nat_lit 3) p, SV.own v (nat_lit 4) q, SV.own t (nat_lit 5) o, .row [.int .i64, .int .i64, .int .i64] sN sF, .lit (.int .i64 (Int.ofNat sN)), .lit (.int .i64 k)], [(nat_lit
      0, some (Blk.cells [.lit (.int .i64 a), .lit (.int .i64 b), .lit (.int .i64 c)] (nat_lit 23))), (nat_lit 0, some (Blk.cells [.lit (.int .i64 x), .lit (.int .i64 y), .lit (.int .i64
      z)] (nat_lit 23))), (nat_lit 0, some (Blk.cells [.lit (.int .i64 d), .lit (.int .i64 e), .lit (.int .i64 g)] (nat_lit 23))), (nat_lit 0, some (Blk.row u p [.int .i64] G (nat_lit
      3))), (nat_lit 0, some (Blk.row v q [.int .i64] H (nat_lit 3))), (nat_lit 0, some (Blk.row t o [.int .i64] K (nat_lit 3)))])) := by kernel_rfl
end Go.RX.Span

/- Sets of numbers: what the law's loops leave. -/
set_option linter.unusedVariables false
set_option linter.unusedSimpArgs false
set_option maxRecDepth 100000
namespace Go.RX.Span
open Go Go.RX
attribute [local irreducible] sx conB

/-- The numbers of a range. -/
def nl (r : R3) : List Int := (List.range (numsN r.1 r.2.1 r.2.2.1 401)).map (num r.1 r.2.1 r.2.2.1)
/-- The numbers that the second range has, among the first so many; and the others. -/
def fk (f : Nat → R1) (k : Nat) : Int := (f k).1
def filB (x y z : Int) (f : Nat → R1) (n : Nat) : List Int := ((List.range n).map (fk f)).filter fun m => has x y z m
def filR (x y z : Int) (f : Nat → R1) (n : Nat) : List Int := ((List.range n).map (fk f)).filter fun m => !has x y z m
/-- The numbers of the first so many ranges. -/
def gaL (sF : Nat → R3) (n : Nat) : List Int := (List.range n).flatMap fun i => nl (sF i)
def fuB (x y z : Int) (f : Nat → R1) (n : Nat) : Bool := nilB (filB x y z f n)
def fnB (x y z : Int) (f : Nat → R1) (n : Nat) : Nat := (filB x y z f n).length
def ffB (x y z : Int) (f : Nat → R1) (n : Nat) : Nat → R1 := rowL (filB x y z f n)
def fuR (x y z : Int) (f : Nat → R1) (n : Nat) : Bool := nilB (filR x y z f n)
def fnR (x y z : Int) (f : Nat → R1) (n : Nat) : Nat := (filR x y z f n).length
def ffR (x y z : Int) (f : Nat → R1) (n : Nat) : Nat → R1 := rowL (filR x y z f n)
def fuG (sF : Nat → R3) (n : Nat) : Bool := nilB (gaL sF n)
def fnG (sF : Nat → R3) (n : Nat) : Nat := (gaL sF n).length
def ffG (sF : Nat → R3) (n : Nat) : Nat → R1 := rowL (gaL sF n)
def PreS1 (n0 : Nat) (x y z : Int) (N : Nat) : Prop := n0 = 0 ∧ I64 x ∧ I64 y ∧ I64 z ∧ N ≤ 401
def PreS2 (n0 : Nat) (sN : Nat) (sF : Nat → R3) : Prop := n0 = 0 ∧ sN ≤ 400 ∧ ∀ i, i < sN → I64 (sF i).1 ∧ I64 (sF i).2.1 ∧ I64 (sF i).2.2.1 ∧ chk (sF i).1 (sF i).2.1 (sF i).2.2.1 = 0 ∧ size (sF i).1 (sF i).2.1 (sF i).2.2.1 ≠ 0
noncomputable def gS1 : Nat → Few → T (Ex × Few)
  | n0, ([.ptr 1 0, .ptr 2 0, .row [.int .i64, .int .i64, .int .i64] sN sF, .lit (.bool w), .lit (.slice none 0 0), .lit (.slice none 0 0), .row [.int .i64] N f, .lit (.int .i64 N'), .ki .i64 0],
      [(_, some (.cells [.lit (.int .i64 a), .lit (.int .i64 b), .lit (.int .i64 c)] t0)), (_, some (.cells [.lit (.int .i64 x), .lit (.int .i64 y), .lit (.int .i64 z)] t1)), (_, some (.cells [.lit (.int .i64 d), .lit (.int .i64 e), .lit (.int .i64 g)] t2))]) =>
    .ask (lk PreS1 n0 x y z N ∧ N' = (N : Int) ∧ t0 = 23 ∧ t1 = 23 ∧ t2 = 23) (.ret (.exit 0, (slS1 sN sF w (lk fuB x y z f N) (lk fuR x y z f N) (lk fnB x y z f N) (lk fnR x y z f N) N f (N : Int), memS1 a b c x y z d e g (lk fuB x y z f N) (lk fuR x y z f N) (lk fnB x y z f N) (lk fnR x y z f N) (lk ffB x y z f N) (lk ffR x y z f N))))
  | _, _ => .stuck 1
noncomputable def gS2 : Nat → Few → T (Ex × Few)
  | n0, ([.ptr 1 0, .ptr 2 0, .row [.int .i64, .int .i64, .int .i64] sN sF, .lit (.bool w), .own u b1 p, .own v b2 q, .lit (.slice none 0 0), .row [.int .i64, .int .i64, .int .i64] sN' sF', .lit (.int .i64 N'), .ki .i64 0],
      [(_, some (.cells [.lit (.int .i64 a), .lit (.int .i64 b), .lit (.int .i64 c)] t0)), (_, some (.cells [.lit (.int .i64 x), .lit (.int .i64 y), .lit (.int .i64 z)] t1)), (_, some (.cells [.lit (.int .i64 d), .lit (.int .i64 e), .lit (.int .i64 g)] t2)),
       (_, some (.row u' p' [.int .i64] G t3)), (_, some (.row v' q' [.int .i64] H t4))]) =>
    .ask (lk PreS2 n0 sN sF ∧ sN' = sN ∧ sF' = sF ∧ N' = (sN : Int) ∧ b1 = 3 ∧ b2 = 4 ∧ u' = u ∧ v' = v ∧ p' = p ∧ q' = q ∧ t0 = 23 ∧ t1 = 23 ∧ t2 = 23 ∧ t3 = 3 ∧ t4 = 3) (.ret (.exit 2, (slS2 sN sF w u v (lk fuG sF sN) p q (lk fnG sF sN) (sN : Int), memS2 a b c x y z d e g u v (lk fuG sF sN) p q (lk fnG sF sN) G H (lk ffG sF sN))))
  | _, _ => .stuck 1
noncomputable abbrev lT : List (Nat × Loops) := [(3, [(10, .sum (few 126 [3,5,7,9,11,12,66,67,68] gS1)), (18, .sum (few 126 [3,5,7,9,11,12,15,84,85,86] gS2))]), (29, [(0, .call X_sort)])] --%K
end Go.RX.Span

/- Sets of numbers: the law's loops leave what is said. -/
set_option linter.unusedVariables false
set_option linter.unusedSimpArgs false
set_option maxRecDepth 100000
namespace Go.RX.Span
open Go Go.RX
attribute [local irreducible] sx conB

theorem filB_s (x y z : Int) (f : Nat → R1) (k : Nat) : filB x y z f (k + 1) = filB x y z f k ++ (if has x y z (fk f k) = true then [fk f k] else []) := by
  unfold filB
  rw [List.range_succ, List.map_append, List.filter_append]
  simp only [List.map_cons, List.map_nil, List.filter_cons, List.filter_nil]
theorem filR_s (x y z : Int) (f : Nat → R1) (k : Nat) : filR x y z f (k + 1) = filR x y z f k ++ (if has x y z (fk f k) = true then [] else [fk f k]) := by
  unfold filR
  rw [List.range_succ, List.map_append, List.filter_append]
  simp only [List.map_cons, List.map_nil, List.filter_cons, List.filter_nil]
  cases has x y z (fk f k) <;> rfl
theorem filB_len (x y z : Int) (f : Nat → R1) (k : Nat) : (filB x y z f k).length ≤ k := by
  unfold filB; exact Nat.le_trans (List.length_filter_le _ _) (by simp)
theorem filR_len (x y z : Int) (f : Nat → R1) (k : Nat) : (filR x y z f k).length ≤ k := by
  unfold filR; exact Nat.le_trans (List.length_filter_le _ _) (by simp)
theorem gaL_s (sF : Nat → R3) (k : Nat) : gaL sF (k + 1) = gaL sF k ++ nl (sF k) := by
  unfold gaL
  rw [List.range_succ, List.flatMap_append]
  simp
theorem nl_len (r : R3) : (nl r).length = numsN r.1 r.2.1 r.2.2.1 401 := by unfold nl; rw [List.length_map, List.length_range]
theorem gaL_len (sF : Nat → R3) : ∀ k, (gaL sF k).length ≤ k * 402
  | 0 => by simp [gaL]
  | k + 1 => by
    rw [gaL_s, List.length_append, nl_len]
    have := gaL_len sF k
    have : numsN (sF k).1 (sF k).2.1 (sF k).2.2.1 401 ≤ 402 := by unfold numsN; omega
    omega
theorem nilB_snoc (l : List Int) (x : Int) : nilB (l ++ [x]) = false := by simp [nilB]
theorem nilB_app (l l' : List Int) : nilB (l ++ l') = U.andb (nilB l) (U.isz l'.length) := by
  rw [U.andb_eq, U.isz_eq]
  unfold nilB
  cases l <;> cases l' <;> simp
theorem tnj3 (j : Nat) : U.toNat (j : Int) = j := by exact tn j
theorem ren0c (ρ : Ren) : ∀ b, b < 0 → ρ.of b = some b := fun b hb => absurd hb (Nat.not_lt_zero b)

structure XS1 where
  (a b c x y z d e g : Int) (sN : Nat) (sF : Nat → R3) (w : Bool) (N : Nat) (f : Nat → R1) (k : Nat)
noncomputable abbrev VS1 (q : XS1) : Few := (slS1 q.sN q.sF q.w (fuB q.x q.y q.z q.f q.k) (fuR q.x q.y q.z q.f q.k) (fnB q.x q.y q.z q.f q.k) (fnR q.x q.y q.z q.f q.k) q.N q.f (q.k : Int),
  memS1 q.a q.b q.c q.x q.y q.z q.d q.e q.g (fuB q.x q.y q.z q.f q.k) (fuR q.x q.y q.z q.f q.k) (fnB q.x q.y q.z q.f q.k) (fnR q.x q.y q.z q.f q.k) (ffB q.x q.y q.z q.f q.k) (ffR q.x q.y q.z q.f q.k))
noncomputable def OS1 (q : XS1) : Ex × Few := (.exit 0, VS1 { q with k := q.N })
def PhiS1 (n0 : Nat) (q : XS1) : Prop := PreS1 n0 q.x q.y q.z q.N ∧ q.k ≤ q.N
theorem roundS1 (n0 : Nat) (q : XS1) (hq : PhiS1 n0 q) : ((sx ET [] n0 (loopOf P 3 10) (mkS 126 [3,5,7,9,11,12,66,67,68] (VS1 q).1, (VS1 q).2)).bind (proj 126 [3,5,7,9,11,12,66,67,68])).All fun r => match r.1 with
      | .normal => ∃ q', PhiS1 n0 q' ∧ q'.N - q'.k < q.N - q.k ∧ Wk 126 [3,5,7,9,11,12,66,67,68] n0 r.2 (VS1 q') ∧ ∀ o, o = OS1 q' → o = OS1 q
      | e => ∃ s, (e, s) = OS1 q ∧ Wk 126 [3,5,7,9,11,12,66,67,68] n0 r.2 s := by
  obtain ⟨a, b, c, x, y, z, d, e, g, sN, sF, w, N, f, k⟩ := q
  obtain ⟨⟨h0, ix, iy, iz, hN⟩, hk⟩ := hq
  simp only [] at h0 ix iy iz hN hk
  subst h0
  show ((sx ET [] 0 (loopOf P 3 10) (mkS 126 [3,5,7,9,11,12,66,67,68] (slS1 sN sF w (fuB x y z f k) (fuR x y z f k) (fnB x y z f k) (fnR x y z f k) N f (k : Int)), memS1 a b c x y z d e g (fuB x y z f k) (fuR x y z f k) (fnB x y z f k) (fnR x y z f k) (ffB x y z f k) (ffR x y z f k))).bind (proj 126 [3,5,7,9,11,12,66,67,68])).All _
  rw [t_S1]
  have e2 : U.add .i64 (k : Int) 1 = ((k + 1 : Nat) : Int) := by rw [U.add64 (by unfold I64; omega)]; omega
  simp only [tnj3, e2, lk_eq]
  have lB : fnB x y z f k ≤ k := filB_len x y z f k
  have lR : fnR x y z f k ≤ k := filR_len x y z f k
  by_cases hlt : k < N
  · refine ⟨fun _ => ⟨⟨by omega, by omega⟩, ⟨ix, iy, iz⟩, fun hh => ⟨by omega, ?_⟩, fun hh => ⟨by omega, ?_⟩⟩, fun h => absurd (U.lt_f.mp h) (by simp only [Int.ofNat_eq_natCast]; omega)⟩
    · have eB : filB x y z f (k + 1) = filB x y z f k ++ [fk f k] := by rw [filB_s, if_pos (show has x y z (fk f k) = true from hh)]
      have eR : filR x y z f (k + 1) = filR x y z f k := by rw [filR_s, if_pos (show has x y z (fk f k) = true from hh), List.append_nil]
      have u1 : fuB x y z f (k + 1) = false := by unfold fuB; rw [eB]; exact nilB_snoc _ _
      have u2 : fnB x y z f (k + 1) = fnB x y z f k + 1 := by unfold fnB; rw [eB]; simp
      have u3 : fuR x y z f (k + 1) = fuR x y z f k := by unfold fuR; rw [eR]
      have u4 : fnR x y z f (k + 1) = fnR x y z f k := by unfold fnR; rw [eR]
      have u5 : ffR x y z f (k + 1) = ffR x y z f k := by unfold ffR; rw [eR]
      refine ⟨⟨a, b, c, x, y, z, d, e, g, sN, sF, w, N, f, k + 1⟩, ⟨⟨rfl, ix, iy, iz, hN⟩, by simp only []; omega⟩, by simp only []; omega, ?_, fun o ho => ho⟩
      refine wk_of [some 0, some 1, some 2, some 6, some 4] rfl (Nat.zero_le _) (ren0c _) ⟨⟨rfl, rfl⟩, ⟨rfl, rfl⟩, ⟨rfl, sameR fun i hi => rfl⟩, rfl, ⟨u1.symm, u2.symm, rfl⟩, ⟨u3.symm, u4.symm, rfl⟩, ⟨rfl, row1S fun i hi => rfl⟩, rfl, rfl, trivial⟩
        ⟨⟨rfl, rfl, rfl, rfl, trivial⟩, ⟨rfl, rfl, rfl, rfl, trivial⟩, ⟨rfl, rfl, rfl, rfl, trivial⟩, ⟨rfl, u1.symm, u2.symm, row1S fun i hi => ?_⟩, ⟨rfl, u3.symm, u4.symm, row1S fun i hi => ?_⟩, trivial⟩
      · have := rowL_snoc (filB x y z f k) (fk f k) i (Nat.lt_of_lt_of_eq hi u2)
        unfold ffB; rw [eB]; exact this
      · simp only [u5]
    · have eB : filB x y z f (k + 1) = filB x y z f k := by rw [filB_s, if_neg (show ¬ has x y z (fk f k) = true from fun e => absurd (e.symm.trans hh) (by decide)), List.append_nil]
      have eR : filR x y z f (k + 1) = filR x y z f k ++ [fk f k] := by rw [filR_s, if_neg (show ¬ has x y z (fk f k) = true from fun e => absurd (e.symm.trans hh) (by decide))]
      have u1 : fuR x y z f (k + 1) = false := by unfold fuR; rw [eR]; exact nilB_snoc _ _
      have u2 : fnR x y z f (k + 1) = fnR x y z f k + 1 := by unfold fnR; rw [eR]; simp
      have u3 : fuB x y z f (k + 1) = fuB x y z f k := by unfold fuB; rw [eB]
      have u4 : fnB x y z f (k + 1) = fnB x y z f k := by unfold fnB; rw [eB]
      have u5 : ffB x y z f (k + 1) = ffB x y z f k := by unfold ffB; rw [eB]
      refine ⟨⟨a, b, c, x, y, z, d, e, g, sN, sF, w, N, f, k + 1⟩, ⟨⟨rfl, ix, iy, iz, hN⟩, by simp only []; omega⟩, by simp only []; omega, ?_, fun o ho => ho⟩
      refine wk_of [some 0, some 1, some 2, some 3, some 6] rfl (Nat.zero_le _) (ren0c _) ⟨⟨rfl, rfl⟩, ⟨rfl, rfl⟩, ⟨rfl, sameR fun i hi => rfl⟩, rfl, ⟨u3.symm, u4.symm, rfl⟩, ⟨u1.symm, u2.symm, rfl⟩, ⟨rfl, row1S fun i hi => rfl⟩, rfl, rfl, trivial⟩
        ⟨⟨rfl, rfl, rfl, rfl, trivial⟩, ⟨rfl, rfl, rfl, rfl, trivial⟩, ⟨rfl, rfl, rfl, rfl, trivial⟩, ⟨rfl, u3.symm, u4.symm, row1S fun i hi => ?_⟩, ⟨rfl, u1.symm, u2.symm, row1S fun i hi => ?_⟩, trivial⟩
      · simp only [u5]
      · have := rowL_snoc (filR x y z f k) (fk f k) i (Nat.lt_of_lt_of_eq hi u2)
        unfold ffR; rw [eR]; exact this
  · obtain rfl : k = N := by omega
    refine ⟨fun h => absurd (U.lt_t.mp h) (by simp only [Int.ofNat_eq_natCast]; omega), fun _ => ⟨_, rfl, ?_⟩⟩
    exact wk_of [some 0, some 1, some 2, some 3, some 4] rfl (Nat.zero_le _) (ren0c _) ⟨⟨rfl, rfl⟩, ⟨rfl, rfl⟩, ⟨rfl, sameR fun i hi => rfl⟩, rfl, ⟨rfl, rfl, rfl⟩, ⟨rfl, rfl, rfl⟩, ⟨rfl, row1S fun i hi => rfl⟩, rfl, rfl, trivial⟩
        ⟨⟨rfl, rfl, rfl, rfl, trivial⟩, ⟨rfl, rfl, rfl, rfl, trivial⟩, ⟨rfl, rfl, rfl, rfl, trivial⟩, ⟨rfl, rfl, rfl, row1S fun i hi => rfl⟩, ⟨rfl, rfl, rfl, row1S fun i hi => rfl⟩, trivial⟩
theorem loopS1 : LoopOK P (loopOf P 3 10) (few 126 [3,5,7,9,11,12,66,67,68] gS1) :=
  loop_few (E := ET) mixed ET_ok loopsOK_none 126 [3,5,7,9,11,12,66,67,68] (X := XS1) gS1 (fun _ x => VS1 x) PhiS1 (fun q => q.N - q.k) (fun _ x o => o = OS1 x)
    (fun n0 st r h => by
      unfold gS1 at h
      split at h
      · rename_i n0 sN sF w N f N' e0 a b c t0 e1 x y z t1 e2 d e g t2
        obtain ⟨hp, rfl, rfl, rfl, rfl⟩ := (T.is_ask h).1
        obtain rfl := T.is_ret (T.is_ask h).2
        rw [lk_eq] at hp
        refine ⟨⟨a, b, c, x, y, z, d, e, g, sN, sF, w, N, f, 0⟩, ⟨hp, Nat.zero_le _⟩, ?_, fun o ho => by rw [ho]; simp only [lk_eq]; rfl⟩
        have h0 := hp.1
        subst h0
        exact wk_of [some 0, some 1, some 2, none, none] rfl (Nat.zero_le _) (ren0c _) ⟨⟨rfl, rfl⟩, ⟨rfl, rfl⟩, ⟨rfl, sameR fun i hi => rfl⟩, rfl, ⟨rfl, rfl, rfl⟩, ⟨rfl, rfl, rfl⟩, ⟨rfl, row1S fun i hi => rfl⟩, rfl, rfl, trivial⟩
          ⟨⟨rfl, rfl, rfl, rfl, trivial⟩, ⟨rfl, rfl, rfl, rfl, trivial⟩, ⟨rfl, rfl, rfl, rfl, trivial⟩, ⟨rfl, rfl⟩, ⟨rfl, rfl⟩, trivial⟩
      · exact h.elim)
    roundS1
end Go.RX.Span

/- Sets of numbers: the law's second loop leaves what is said. -/
set_option linter.unusedVariables false
set_option linter.unusedSimpArgs false
set_option maxRecDepth 100000
namespace Go.RX.Span
open Go Go.RX
attribute [local irreducible] sx conB

theorem nl_row (r : R3) : ∀ i, i < (nl r).length → (fun k => ((num r.1 r.2.1 r.2.2.1 k, ()) : R1)) i = rowL (nl r) i := fun i hi => by
  unfold rowL
  have h : i < numsN r.1 r.2.1 r.2.2.1 401 := by rw [nl_len] at hi; exact hi
  have : (nl r).getD i 0 = num r.1 r.2.1 r.2.2.1 i := by
    unfold nl
    rw [List.getD_eq_getElem?_getD, List.getElem?_map, List.getElem?_range h]
    rfl
  rw [this]
structure XS2 where
  (a b c x y z d e g : Int) (sN : Nat) (sF : Nat → R3) (w u v : Bool) (p q : Nat) (G H : Nat → R1) (k : Nat)
noncomputable abbrev VS2 (s : XS2) : Few := (slS2 s.sN s.sF s.w s.u s.v (fuG s.sF s.k) s.p s.q (fnG s.sF s.k) (s.k : Int),
  memS2 s.a s.b s.c s.x s.y s.z s.d s.e s.g s.u s.v (fuG s.sF s.k) s.p s.q (fnG s.sF s.k) s.G s.H (ffG s.sF s.k))
noncomputable def OS2 (s : XS2) : Ex × Few := (.exit 2, VS2 { s with k := s.sN })
def PhiS2 (n0 : Nat) (s : XS2) : Prop := PreS2 n0 s.sN s.sF ∧ s.k ≤ s.sN
theorem roundS2 (n0 : Nat) (s : XS2) (hs : PhiS2 n0 s) : ((sx ET [] n0 (loopOf P 3 18) (mkS 126 [3,5,7,9,11,12,15,84,85,86] (VS2 s).1, (VS2 s).2)).bind (proj 126 [3,5,7,9,11,12,15,84,85,86])).All fun r => match r.1 with
      | .normal => ∃ s', PhiS2 n0 s' ∧ s'.sN - s'.k < s.sN - s.k ∧ Wk 126 [3,5,7,9,11,12,15,84,85,86] n0 r.2 (VS2 s') ∧ ∀ o, o = OS2 s' → o = OS2 s
      | e => ∃ o, (e, o) = OS2 s ∧ Wk 126 [3,5,7,9,11,12,15,84,85,86] n0 r.2 o := by
  obtain ⟨a, b, c, x, y, z, d, e, g, sN, sF, w, u, v, p, q, G, H, k⟩ := s
  obtain ⟨⟨h0, hN, hP⟩, hk⟩ := hs
  simp only [] at h0 hN hP hk
  subst h0
  show ((sx ET [] 0 (loopOf P 3 18) (mkS 126 [3,5,7,9,11,12,15,84,85,86] (slS2 sN sF w u v (fuG sF k) p q (fnG sF k) (k : Int)), memS2 a b c x y z d e g u v (fuG sF k) p q (fnG sF k) G H (ffG sF k))).bind (proj 126 [3,5,7,9,11,12,15,84,85,86])).All _
  rw [t_S2x]
  have e2 : U.add .i64 (k : Int) 1 = ((k + 1 : Nat) : Int) := by rw [U.add64 (by unfold I64; omega)]; omega
  simp only [tnj3, e2, lk_eq]
  have lG : fnG sF k ≤ k * 402 := gaL_len sF k
  by_cases hlt : k < sN
  · obtain ⟨i1, i2, i3, hc, hz⟩ := hP k hlt
    have nl402 : numsN (sF k).1 (sF k).2.1 (sF k).2.2.1 401 ≤ 402 := by unfold numsN; omega
    have eG : gaL sF (k + 1) = gaL sF k ++ nl (sF k) := gaL_s sF k
    have u1 : fuG sF (k + 1) = U.andb (fuG sF k) (U.isz (numsN (sF k).1 (sF k).2.1 (sF k).2.2.1 401)) := by unfold fuG; rw [eG, nilB_app, nl_len]
    have u2 : fnG sF (k + 1) = fnG sF k + numsN (sF k).1 (sF k).2.1 (sF k).2.2.1 401 := by unfold fnG; rw [eG, List.length_append, nl_len]
    refine ⟨fun _ => ⟨⟨by omega, by omega⟩, ⟨i1, i2, i3⟩, fun hh => absurd hc (U.ne_t.mp hh), fun _ => ⟨⟨i1, i2, i3⟩, fun hh => absurd (U.eq_t.mp hh) hz, fun _ => ⟨⟨i1, i2, i3, by decide, by decide⟩, by omega, ?_⟩⟩⟩, fun h => absurd (U.lt_f.mp h) (by simp only [Int.ofNat_eq_natCast]; omega)⟩
    refine ⟨⟨a, b, c, x, y, z, d, e, g, sN, sF, w, u, v, p, q, G, H, k + 1⟩, ⟨⟨rfl, hN, hP⟩, by simp only []; omega⟩, by simp only []; omega, ?_, fun o ho => ho⟩
    refine wk_of [some 0, some 1, some 2, some 3, some 4, some 7] rfl (Nat.zero_le _) (ren0c _) ⟨⟨rfl, rfl⟩, ⟨rfl, rfl⟩, ⟨rfl, sameR fun i hi => rfl⟩, rfl, ⟨rfl, rfl, rfl⟩, ⟨rfl, rfl, rfl⟩, ⟨u1.symm, u2.symm, rfl⟩, ⟨rfl, sameR fun i hi => rfl⟩, rfl, rfl, trivial⟩
        ⟨⟨rfl, rfl, rfl, rfl, trivial⟩, ⟨rfl, rfl, rfl, rfl, trivial⟩, ⟨rfl, rfl, rfl, rfl, trivial⟩, ⟨rfl, rfl, rfl, row1S fun i hi => rfl⟩, ⟨rfl, rfl, rfl, row1S fun i hi => rfl⟩, ⟨rfl, u1.symm, u2.symm, row1S fun i hi => ?_⟩, trivial⟩
    have := rowL_app (gaL sF k) (nl (sF k)) _ (nl_row (sF k)) i (by rw [nl_len]; exact Nat.lt_of_lt_of_eq hi u2)
    unfold ffG; rw [eG]; exact this
  · obtain rfl : k = sN := by omega
    refine ⟨fun h => absurd (U.lt_t.mp h) (by simp only [Int.ofNat_eq_natCast]; omega), fun _ => ⟨_, rfl, ?_⟩⟩
    exact wk_of [some 0, some 1, some 2, some 3, some 4, some 5] rfl (Nat.zero_le _) (ren0c _) ⟨⟨rfl, rfl⟩, ⟨rfl, rfl⟩, ⟨rfl, sameR fun i hi => rfl⟩, rfl, ⟨rfl, rfl, rfl⟩, ⟨rfl, rfl, rfl⟩, ⟨rfl, rfl, rfl⟩, ⟨rfl, sameR fun i hi => rfl⟩, rfl, rfl, trivial⟩
        ⟨⟨rfl, rfl, rfl, rfl, trivial⟩, ⟨rfl, rfl, rfl, rfl, trivial⟩, ⟨rfl, rfl, rfl, rfl, trivial⟩, ⟨rfl, rfl, rfl, row1S fun i hi => rfl⟩, ⟨rfl, rfl, rfl, row1S fun i hi => rfl⟩, ⟨rfl, rfl, rfl, row1S fun i hi => rfl⟩, trivial⟩
theorem loopS2 : LoopOK P (loopOf P 3 18) (few 126 [3,5,7,9,11,12,15,84,85,86] gS2) :=
  loop_few (E := ET) mixed ET_ok loopsOK_none 126 [3,5,7,9,11,12,15,84,85,86] (X := XS2) gS2 (fun _ x => VS2 x) PhiS2 (fun s => s.sN - s.k) (fun _ x o => o = OS2 x)
    (fun n0 st r h => by
      unfold gS2 at h
      split at h
      · rename_i n0 sN sF w u b1 p v b2 q sN' sF' N' e0 a b c t0 e1 x y z t1 e2 d e g t2 e3 u' p' G t3 e4 v' q' H t4
        obtain ⟨hp, rfl, rfl, rfl, rfl, rfl, rfl, rfl, rfl, rfl, rfl, rfl, rfl, rfl, rfl⟩ := (T.is_ask h).1
        obtain rfl := T.is_ret (T.is_ask h).2
        rw [lk_eq] at hp
        refine ⟨⟨a, b, c, x, y, z, d, e, g, _, _, w, _, _, _, _, G, H, 0⟩, ⟨hp, Nat.zero_le _⟩, ?_, fun o ho => by rw [ho]; simp only [lk_eq]; rfl⟩
        have h0 := hp.1
        subst h0
        exact wk_of [some 0, some 1, some 2, some 3, some 4, none] rfl (Nat.zero_le _) (ren0c _) ⟨⟨rfl, rfl⟩, ⟨rfl, rfl⟩, ⟨rfl, sameR fun i hi => rfl⟩, rfl, ⟨rfl, rfl, rfl⟩, ⟨rfl, rfl, rfl⟩, ⟨rfl, rfl, rfl⟩, ⟨rfl, sameR fun i hi => rfl⟩, rfl, rfl, trivial⟩
          ⟨⟨rfl, rfl, rfl, rfl, trivial⟩, ⟨rfl, rfl, rfl, rfl, trivial⟩, ⟨rfl, rfl, rfl, rfl, trivial⟩, ⟨rfl, rfl, rfl, row1S fun i hi => rfl⟩, ⟨rfl, rfl, rfl, row1S fun i hi => rfl⟩, ⟨rfl, rfl⟩, trivial⟩
      · exact h.elim)
    roundS2
theorem lT_ok : ∀ p ∈ lT, LoopsOK P p.2 (bodyOf P p.1) := by
  intro p hp
  simp only [lT, List.mem_cons, List.not_mem_nil, or_false] at hp
  rcases hp with rfl | rfl
  · refine loopsOK_of (by kernel_rfl) fun k g hk => ?_
    simp only [List.mem_cons, List.not_mem_nil, or_false, Prod.mk.injEq, LoopC.sum.injEq] at hk
    rcases hk with ⟨rfl, rfl⟩ | ⟨rfl, rfl⟩
    · exact loopS1
    · exact loopS2
  · exact loopsOK_call _
theorem cT_ok : ∀ p ∈ lT, ∀ X, callOf p.2 = some X → InlOK P p.1 X := by
  intro p hp X hX
  simp only [lT, List.mem_cons, List.not_mem_nil, or_false] at hp
  rcases hp with rfl | rfl
  · cases hX
  · simp only [callOf, Option.some.injEq] at hX
    subst hX
    exact sort_ok
end Go.RX.Span

/- Sets of numbers, in plain Lean: the pieces of a difference. -/
set_option linter.unusedVariables false
set_option linter.unusedSimpArgs false
namespace Go.RX.Span
open Go Go.RX

/-- What a range in a direction has. -/
theorem pc_set {f s n c : Int} (hs : 1 ≤ s) (hn : 1 ≤ n) (h1 : -1000000 ≤ f) (h2 : f + s * (n - 1) ≤ 1000000) :
    Right (pc f s n c).1 (pc f s n c).2.1 (pc f s n c).2.2.1 ∧ ofC (pc f s n c).1 (pc f s n c).2.1 (pc f s n c).2.2.1 = n ∧ ∀ m, RIn (pc f s n c).1 (pc f s n c).2.1 (pc f s n c).2.2.1 m ↔ SIn f s n m := by
  have m0 := mulle (s := s) (x := 0) (y := n - 1) hs (by omega)
  have hE : mvE f s n = 0 := mvE_zero (by omega) (by omega)
  have e1 : (pc f s n c).1 = f := by show mvLow f s n = f; unfold mvLow; rw [if_neg (by omega), if_pos hE]
  have e2 : (pc f s n c).2.1 = f + s * (n - 1) := by show mvHigh f s n = _; unfold mvHigh; rw [if_neg (by omega), if_pos hE]
  have e3 : (pc f s n c).2.2.1 = strOf n (if c < 0 then -s else s) := by show mvStr f s n c = _; unfold mvStr strOf; rw [if_neg (by omega), if_pos hE]
  rw [e1, e2, e3]
  obtain ⟨r1, r2, r3, r4⟩ := right_mk' (f := f) (s := s) (C := n) (c := if c < 0 then -s else s) hs hn h1 h2 (by
    by_cases hc0 : c < 0
    · rw [if_pos hc0]; exact .inr rfl
    · rw [if_neg hc0]; exact .inl rfl)
  exact ⟨r1, r2, r4⟩

section
variable {a b c x y z : Int}
/-- Where a number of the first range lies: behind so many steps. -/
def Pl (a b c : Int) (p m : Int) : Prop := m = a + absI c * p ∧ 0 ≤ p ∧ p < ofC a b c
theorem pl_iff (h : Right a b c) (hab : a ≤ b) (m : Int) : RIn a b c m ↔ ∃ p, Pl a b c p m := by
  obtain ⟨p1, p2, p3, p4, p5, p6, p7, p8, p9, p10⟩ := parts h hab
  rw [rin_sin h hab]
  constructor
  · rintro ⟨h1, h2, h3, p, rfl⟩
    refine ⟨p, rfl, ?_, ?_⟩
    · rcases Int.lt_or_le p 0 with h | h
      · have := mulle (s := absI c) (x := p) (y := -1) p1 (by omega); omega
      · exact h
    · rcases Int.lt_or_le p (ofC a b c) with h | h
      · exact h
      · have := mulle (s := absI c) (x := ofC a b c) (y := p) p1 h
        have e : absI c * ofC a b c = absI c * (ofC a b c - 1) + absI c := by grind
        omega
  · rintro ⟨p, rfl, h1, h2⟩
    have m1 := mulle (s := absI c) (x := 0) (y := p) p1 (by omega)
    have m2 := mulle (s := absI c) (x := p) (y := ofC a b c - 1) p1 (by omega)
    exact ⟨by omega, by omega, by omega, p, rfl⟩
theorem pl_one (h : Right a b c) (hab : a ≤ b) {p q m : Int} (h1 : Pl a b c p m) (h2 : Pl a b c q m) : p = q := by
  obtain ⟨p1, _⟩ := parts h hab
  have e : absI c * p = absI c * q := by have := h1.1; have := h2.1; omega
  exact Int.eq_of_mul_eq_mul_left (by omega) e
theorem sIn_steps {F s C m : Int} (hs : 1 ≤ s) : SIn F s C m ↔ ∃ q, m = F + s * q ∧ 0 ≤ q ∧ q < C := by
  constructor
  · rintro ⟨h1, h2, h3, q, rfl⟩
    refine ⟨q, rfl, ?_, ?_⟩
    · rcases Int.lt_or_le q 0 with h | h
      · have := mulle (s := s) (x := q) (y := -1) hs (by omega); omega
      · exact h
    · rcases Int.lt_or_le q C with h | h
      · exact h
      · have := mulle (s := s) (x := C) (y := q) hs h
        have e : s * C = s * (C - 1) + s := by grind
        omega
  · rintro ⟨q, rfl, h1, h2⟩
    have m1 := mulle (s := s) (x := 0) (y := q) hs (by omega)
    have m2 := mulle (s := s) (x := q) (y := C - 1) hs (by omega)
    exact ⟨by omega, by omega, by omega, q, rfl⟩

/-- The pieces of a difference, where both have numbers: by the steps from the first number on. -/
theorem sb_pieces (h : Right a b c) (h' : Right x y z) (hC : isC a b c x y z ≠ 0) : ∃ k0 m : Int, 0 ≤ k0 ∧ 1 ≤ m ∧
    (∀ p n, Pl a b c p n → ((RIn x y z n) ↔ ∃ q, p = k0 + m * q ∧ 0 ≤ q ∧ q < isC a b c x y z)) ∧
    k0 + m * (isC a b c x y z - 1) < ofC a b c ∧
    sbN0 a b c x y z = (if 0 < k0 then 1 else 0) ∧ (sbM a b c x y z : Int) = (if 1 < isC a b c x y z then m - 1 else 0) ∧ sbN1 a b c x y z = (if k0 + m * (isC a b c x y z - 1) < ofC a b c - 1 then 1 else 0) ∧
    (∀ i, i < sbAll a b c x y z → Right (sbF a b c x y z i).1 (sbF a b c x y z i).2.1 (sbF a b c x y z i).2.2.1 ∧ 1 ≤ ofC (sbF a b c x y z i).1 (sbF a b c x y z i).2.1 (sbF a b c x y z i).2.2.1 ∧ ofC (sbF a b c x y z i).1 (sbF a b c x y z i).2.1 (sbF a b c x y z i).2.2.1 ≤ ofC a b c ∧
      ∀ n, RIn (sbF a b c x y z i).1 (sbF a b c x y z i).2.1 (sbF a b c x y z i).2.2.1 n ↔ ∃ p, Pl a b c p n ∧
        (if i < sbN0 a b c x y z then p < k0 else if i < sbN0 a b c x y z + sbM a b c x y z then ∃ q, p = k0 + ((i - sbN0 a b c x y z : Nat) : Int) + 1 + m * q ∧ 0 ≤ q ∧ q < isC a b c x y z - 1 else k0 + m * (isC a b c x y z - 1) < p)) := by
  obtain ⟨hab, hxy, eA, eS, s1, s2, eT, c1, c2, B1, B2, la, lb, hFL, k0, k1, hk0, hk1, hk02, hk12, eF, eb, q1, q2, hm⟩ := sb_facts h h' hC
  obtain ⟨w1, w2⟩ := is_sw h h'
  obtain ⟨p1, p2, p3, p4, p5, p6, p7, p8, p9, p10⟩ := parts h hab
  obtain ⟨C, eC⟩ : ∃ C, C = isC a b c x y z := ⟨_, rfl⟩
  obtain ⟨s, es⟩ : ∃ s, s = absI c := ⟨_, rfl⟩
  obtain ⟨B, eB⟩ : ∃ B, B = isB a b c x y z := ⟨_, rfl⟩
  obtain ⟨N, eN⟩ : ∃ N, N = ofC a b c := ⟨_, rfl⟩
  -- the step of what both have, in steps of the first range
  obtain ⟨m, hm1, hmB, hmq⟩ : ∃ m : Int, 1 ≤ m ∧ B * (C - 1) = s * (m * (C - 1)) ∧ (1 < C → B = s * m ∧ B.tdiv s = m ∧ B ≤ 2000000) := by
    by_cases h1 : 1 < C
    · obtain ⟨m, g1, g2, g3, g4, g5⟩ := hm (by rw [← eC]; exact h1)
      rw [← es, ← eB] at g3
      rw [← eB, eS, ← es] at g4
      exact ⟨m, g1, by rw [g3, Int.mul_assoc], fun _ => ⟨g3, g4, by rw [eB]; exact g5⟩⟩
    · have : C = 1 := by omega
      subst this
      exact ⟨1, by omega, by simp, fun h => absurd h h1⟩
  have eL : sbL a b c x y z = isF a b c x y z + B * (C - 1) := by rw [eB, eC]; rfl
  have hL : sbL a b c x y z = a + s * (k0 + m * (C - 1)) := by
    rw [eL, eF, ← es, hmB, Int.mul_add]; omega
  have hN : N - 1 = k0 + m * (C - 1) + k1 := by
    have e : s * (N - 1) = s * (k0 + m * (C - 1) + k1) := by
      rw [es, eN, p5, ← es, Int.mul_add s (k0 + m * (C - 1)) k1]
      rw [hL, ← es] at eb
      omega
    exact Int.eq_of_mul_eq_mul_left (by omega) e
  have hmC1 : C - 1 ≤ m * (C - 1) := by have := Int.mul_le_mul_of_nonneg_right hm1 (show 0 ≤ C - 1 by omega); omega
  have hmC : 0 ≤ m * (C - 1) := Int.mul_nonneg (by omega) (by omega)
  have hCb : C ≤ 2000001 := by rw [eC]; exact c2
  have hC1 : 1 ≤ C := by rw [eC]; exact c1
  rw [← eC, ← eN]
  refine ⟨k0, m, hk0, hm1, fun p n hp => ?_, by omega, ?_, ?_, ?_, fun i hi => ?_⟩
  · have e1 : RIn x y z n ↔ SIn (isF a b c x y z) B C n := by
      rw [eB, eC, w2]
      exact ⟨fun g => ⟨(pl_iff h hab n).2 ⟨p, hp⟩, g⟩, fun g => g.2⟩
    rw [e1, sIn_steps (by rw [eB]; exact B1)]
    constructor
    · rintro ⟨q, g1, g2, g3⟩
      refine ⟨q, ?_, g2, g3⟩
      have e : s * p = s * (k0 + m * q) := by
        have e0 := hp.1
        rw [g1, eF, ← es] at e0
        by_cases h1 : 1 < C
        · rw [(hmq h1).1] at e0
          rw [Int.mul_add, ← Int.mul_assoc]; omega
        · obtain rfl : q = 0 := by omega
          simp at e0 ⊢; omega
      exact Int.eq_of_mul_eq_mul_left (by omega) e
    · rintro ⟨q, rfl, g2, g3⟩
      refine ⟨q, ?_, g2, g3⟩
      rw [hp.1, eF, ← es]
      by_cases h1 : 1 < C
      · rw [(hmq h1).1, Int.mul_add, ← Int.mul_assoc]; omega
      · obtain rfl : q = 0 := by omega
        simp
  · unfold sbN0
    rw [eA, eF, ← es]
    have : a < a + s * k0 ↔ 0 < k0 := by
      constructor
      · intro g
        rcases Int.lt_or_le 0 k0 with g' | g'
        · exact g'
        · have := mulle (s := s) (x := k0) (y := 0) (by omega) g'; omega
      · intro g; have := mulle (s := s) (x := 1) (y := k0) (by omega) (by omega); omega
    simp only [this]
  · unfold sbM
    rw [← eC]
    split
    · rename_i h1
      rw [← eB, eS, ← es, (hmq h1).2.1]; omega
    · rfl
  · unfold sbN1
    rw [eT]
    have eb2 : b = sbL a b c x y z + s * k1 := by rw [es]; exact eb
    have : sbL a b c x y z < b ↔ k0 + m * (C - 1) < N - 1 := by
      constructor
      · intro g
        rcases Int.lt_or_le 0 k1 with g' | g'
        · omega
        · have := mulle (s := s) (x := k1) (y := 0) (by omega) g'; omega
      · intro g; have := mulle (s := s) (x := 1) (y := k1) (by omega) (by omega); omega
    simp only [this]
  · have hi0 : ¬ isC a b c x y z = 0 := hC
    have n0 : sbN0 a b c x y z = (if 0 < k0 then 1 else 0) := by
      unfold sbN0
      rw [eA, eF, ← es]
      have : a < a + s * k0 ↔ 0 < k0 := by
        constructor
        · intro g
          rcases Int.lt_or_le 0 k0 with g' | g'
          · exact g'
          · have := mulle (s := s) (x := k0) (y := 0) (by omega) g'; omega
        · intro g; have := mulle (s := s) (x := 1) (y := k0) (by omega) (by omega); omega
      simp only [this]
    have hsk0 := mulle (s := s) (x := 0) (y := k0) (by omega) hk0
    have hsk1 := mulle (s := s) (x := 0) (y := k1) (by omega) hk1
    have hB0 := mulle (s := B) (x := 0) (y := C - 1) (by omega) (by omega)
    rw [← es] at eF eb
    by_cases hc1 : i < sbN0 a b c x y z
    · have hk : 0 < k0 := by
        refine Classical.byContradiction fun g => ?_
        rw [n0, if_neg g] at hc1; omega
      have eP : sbF a b c x y z i = pc a s k0 c := by unfold sbF; rw [if_neg hi0, if_pos hc1, q1, eA, eS, ← es]
      have e1 : s * (k0 - 1) = s * k0 - s := by rw [Int.mul_sub, Int.mul_one]
      obtain ⟨g1, g2, g3⟩ := pc_set (f := a) (s := s) (n := k0) (c := c) (by omega) (by omega) la (by omega)
      rw [eP]
      refine ⟨g1, by omega, by omega, fun n => ?_⟩
      simp only [g3, sIn_steps (show 1 ≤ s by omega), if_pos hc1]
      constructor
      · rintro ⟨q, rfl, h1, h2⟩; exact ⟨q, ⟨by rw [← es], h1, by omega⟩, h2⟩
      · rintro ⟨p, ⟨h1, h2, h3⟩, h4⟩; exact ⟨p, by rw [h1, ← es], h2, h4⟩
    by_cases hc2 : i < sbN0 a b c x y z + sbM a b c x y z
    · have h1C : 1 < C := by
        refine Classical.byContradiction fun g => ?_
        have : sbM a b c x y z = 0 := by unfold sbM; rw [← eC, if_neg g]
        omega
      obtain ⟨f1, f2, f3⟩ := hmq h1C
      have hM : (sbM a b c x y z : Int) = m - 1 := by unfold sbM; rw [← eC, if_pos h1C, ← eB, eS, ← es, f2]; omega
      obtain ⟨j, hj⟩ : ∃ j : Nat, j = i - sbN0 a b c x y z := ⟨_, rfl⟩
      have hjm : (j : Int) + 1 ≤ m - 1 := by omega
      have eP : sbF a b c x y z i = pc (isF a b c x y z + s * ((j : Int) + 1)) B (C - 1) c := by
        unfold sbF sbIn; rw [if_neg hi0, if_neg hc1, if_pos hc2, ← hj, eS, ← es, ← eB, ← eC]
      have d1 := mulle (s := s) (x := (j : Int) + 1) (y := m - 1) (by omega) hjm
      have d2 := mulle (s := s) (x := 0) (y := (j : Int) + 1) (by omega) (by omega)
      have d3 : s * (m - 1) = B - s := by rw [Int.mul_sub, Int.mul_one, f1]
      have d4 : B * (C - 1 - 1) = B * (C - 1) - B := by rw [Int.mul_sub B (C - 1) 1, Int.mul_one]
      obtain ⟨g1, g2, g3⟩ := pc_set (f := isF a b c x y z + s * ((j : Int) + 1)) (s := B) (n := C - 1) (c := c) (by omega) (by omega) (by omega) (by omega)
      rw [eP]
      refine ⟨g1, by omega, by omega, fun n => ?_⟩
      simp only [g3, sIn_steps (show 1 ≤ B by omega), if_neg hc1, if_pos hc2, ← hj]
      have e2 : ∀ q, isF a b c x y z + s * ((j : Int) + 1) + B * q = a + s * (k0 + j + 1 + m * q) := fun q => by
        rw [eF, f1]; grind
      constructor
      · rintro ⟨q, rfl, h1, h2⟩
        have u1 := Int.mul_nonneg (show 0 ≤ m by omega) h1
        have u2 := Int.mul_le_mul_of_nonneg_left (show q ≤ C - 1 - 1 by omega) (show 0 ≤ m by omega)
        have u3 : m * (C - 1 - 1) = m * (C - 1) - m := by rw [Int.mul_sub m (C - 1) 1, Int.mul_one]
        exact ⟨k0 + j + 1 + m * q, ⟨by rw [e2, ← es], by omega, by omega⟩, q, rfl, h1, h2⟩
      · rintro ⟨p, ⟨h1, h2, h3⟩, q, rfl, h4, h5⟩; exact ⟨q, by rw [e2, h1, ← es], h4, h5⟩
    · have hk : 0 < k1 := by
        refine Classical.byContradiction fun g => ?_
        have : sbN1 a b c x y z = 0 := by
          unfold sbN1; rw [eT, if_neg]
          have := mulle (s := s) (x := k1) (y := 0) (by omega) (by omega); omega
        unfold sbAll at hi; omega
      have eP : sbF a b c x y z i = pc (sbL a b c x y z + s) s k1 c := by unfold sbF; rw [if_neg hi0, if_neg hc1, if_neg hc2, q2, eS, ← es]
      have e1 : s * (k1 - 1) = s * k1 - s := by rw [Int.mul_sub, Int.mul_one]
      obtain ⟨g1, g2, g3⟩ := pc_set (f := sbL a b c x y z + s) (s := s) (n := k1) (c := c) (by omega) (by omega) (by omega) (by omega)
      rw [eP]
      refine ⟨g1, by omega, by omega, fun n => ?_⟩
      simp only [g3, sIn_steps (show 1 ≤ s by omega), if_neg hc1, if_neg hc2]
      have e2 : ∀ q, sbL a b c x y z + s + s * q = a + s * (k0 + m * (C - 1) + 1 + q) := fun q => by rw [hL]; grind
      constructor
      · rintro ⟨q, rfl, h1, h2⟩; exact ⟨k0 + m * (C - 1) + 1 + q, ⟨by rw [e2, ← es], by omega, by omega⟩, by omega⟩
      · rintro ⟨p, ⟨h1, h2, h3⟩, h4⟩
        exact ⟨p - (k0 + m * (C - 1)) - 1, by rw [e2, h1, ← es]; congr 2; omega, by omega, by omega⟩
end
end Go.RX.Span

/- Sets of numbers, in plain Lean: the lists. -/
set_option linter.unusedVariables false
set_option linter.unusedSimpArgs false
namespace Go.RX.Span
open Go Go.RX

def Sgn (d : Bool) (p q : Int) : Prop := if d = true then q < p else p < q
theorem sgn_asym {d : Bool} {p q : Int} (h : Sgn d p q) (h' : Sgn d q p) : p = q := by
  unfold Sgn at h h'; split at h <;> simp_all <;> omega
theorem sgn_ne {d : Bool} {p q : Int} (h : Sgn d p q) : p ≠ q := by
  unfold Sgn at h; split at h <;> omega
theorem numsN_val {a b c : Int} (hr : Right a b c) (h4 : ofC a b c ≤ 402) : numsN a b c 401 = (ofC a b c).toNat := by
  unfold numsN; rw [size_eq' hr]; omega
theorem nl_mem {a b c : Int} (hr : Right a b c) (h4 : ofC a b c ≤ 402) (m : Int) : m ∈ nl (a, b, c, ()) ↔ RIn a b c m := by
  show m ∈ (List.range (numsN a b c 401)).map (num a b c) ↔ _
  rw [numsN_val hr h4]
  by_cases hab : a ≤ b
  · obtain ⟨p1, p2, p3, p4, p5, p6, p7, p8, p9, p10⟩ := parts hr hab
    rw [pl_iff hr hab, List.mem_map]
    have hB : absI c * (ofC a b c - 1) = b - a := p5
    constructor
    · rintro ⟨k, hk, rfl⟩
      have hk : k < (ofC a b c).toNat := List.mem_range.1 hk
      rw [num_eq hr hab]
      by_cases hc : c < 0
      · refine ⟨ofC a b c - 1 - k, ?_, by omega, by omega⟩
        rw [if_pos hc, Int.mul_sub, hB, absI_neg hc, Int.neg_mul]; omega
      · refine ⟨k, ?_, by omega, by omega⟩
        rw [if_neg hc, absI_pos hc]
    · rintro ⟨p, rfl, h1, h2⟩
      by_cases hc : c < 0
      · refine ⟨(ofC a b c - 1 - p).toNat, List.mem_range.2 (by omega), ?_⟩
        rw [num_eq hr hab, if_pos hc, Int.toNat_of_nonneg (by omega), absI_neg hc]
        rw [absI_neg hc] at hB
        have e : c * (ofC a b c - 1 - p) = c * (ofC a b c - 1) - c * p := Int.mul_sub _ _ _
        rw [Int.neg_mul] at hB
        rw [e, Int.neg_mul]; omega
      · refine ⟨p.toNat, List.mem_range.2 (by omega), ?_⟩
        rw [num_eq hr hab, if_neg hc, Int.toNat_of_nonneg (by omega), absI_pos hc]
  · have e : ofC a b c = 0 := by unfold ofC; rw [if_pos (by omega)]
    rw [e]
    simp only [Int.toNat_zero, List.range_zero, List.map_nil, List.not_mem_nil, false_iff]
    rintro ⟨_, _, h3, _⟩
    omega
theorem nl_sorted {a b c : Int} (hr : Right a b c) (h4 : ofC a b c ≤ 402) {d : Bool} (hd : 1 < ofC a b c → d = decide (c < 0)) : (nl (a, b, c, ())).Pairwise (Sgn d) := by
  show ((List.range (numsN a b c 401)).map (num a b c)).Pairwise (Sgn d)
  rw [numsN_val hr h4, List.pairwise_map]
  refine List.Pairwise.imp_of_mem ?_ (List.pairwise_lt_range)
  intro i j hi hj hij
  have hi := List.mem_range.1 hi
  have hj := List.mem_range.1 hj
  have hab : a ≤ b := by
    refine Classical.byContradiction fun hn => ?_
    have e : ofC a b c = 0 := by unfold ofC; rw [if_pos (by omega)]
    omega
  obtain ⟨p1, p2, p3, p4, p5, p6, p7, p8, p9, p10⟩ := parts hr hab
  rw [hd (by omega), num_eq hr hab, num_eq hr hab]
  unfold Sgn
  by_cases hc : c < 0
  · rw [if_pos (by simpa using hc)]
    have := Int.mul_lt_mul_of_neg_left (show (i : Int) < j by omega) hc
    omega
  · rw [if_neg (by simpa using hc)]
    have hc0 : 0 < c := by have := absI_pos hc; omega
    have := Int.mul_lt_mul_of_pos_left (show (i : Int) < j by omega) hc0
    omega
theorem nl_nodup {a b c : Int} (hr : Right a b c) (h4 : ofC a b c ≤ 402) : (nl (a, b, c, ())).Nodup :=
  (nl_sorted hr h4 (fun _ => rfl)).imp fun h => sgn_ne h
theorem eq_sgn {d : Bool} {l l' : List Int} (h : l.Pairwise (Sgn d)) (h' : l'.Pairwise (Sgn d)) (he : ∀ m, m ∈ l ↔ m ∈ l') : l = l' :=
  List.Perm.eq_of_pairwise (fun a b _ _ h1 h2 => sgn_asym h1 h2) h h' ((List.perm_ext_iff_of_nodup (h.imp fun h => sgn_ne h) (h'.imp fun h => sgn_ne h)).2 he)
theorem srt_perm {l l' : List Int} (h : l.Perm l') : (l.mergeSort fun x y => decide (x ≤ y)) = l'.mergeSort fun x y => decide (x ≤ y) := by
  refine List.Perm.eq_of_pairwise (le := fun x y => decide (x ≤ y) = true) (fun a b _ _ h1 h2 => ?_) (List.pairwise_mergeSort ?_ ?_ l) (List.pairwise_mergeSort ?_ ?_ l') ((List.mergeSort_perm l _).trans (h.trans (List.mergeSort_perm l' _).symm))
  · simp only [decide_eq_true_eq] at h1 h2; omega
  · intro a b c h1 h2; simp only [decide_eq_true_eq] at *; omega
  · intro a b; simp only [Bool.or_eq_true, decide_eq_true_eq]; omega
  · intro a b c h1 h2; simp only [decide_eq_true_eq] at *; omega
  · intro a b; simp only [Bool.or_eq_true, decide_eq_true_eq]; omega
theorem listL_rowL (l : List Int) : listL l.length (rowL l) = l := by
  unfold listL
  refine List.ext_getElem (by simp) fun i h1 h2 => ?_
  rw [List.getElem_map, List.getElem_range]
  show l.getD i 0 = _
  rw [List.getD_eq_getElem?_getD, List.getElem?_eq_getElem h2]; rfl
end Go.RX.Span

/- Sets of numbers, in plain Lean: what the sets say. -/
set_option linter.unusedVariables false
set_option linter.unusedSimpArgs false
namespace Go.RX.Span
open Go Go.RX
section
variable {a b c x y z : Int}
theorem is_more (h : Right a b c) (h' : Right x y z) : ofC (isL a b c x y z) (isH a b c x y z) (isS a b c x y z) = isC a b c x y z ∧ isC a b c x y z ≤ ofC a b c ∧ (1 < isC a b c x y z → decide (c < 0) = decide (isS a b c x y z < 0)) := by
  obtain ⟨_, hr, hm⟩ := is_set h h'
  obtain ⟨w1, w2⟩ := is_sw h h'
  by_cases hC : isC a b c x y z = 0
  · rw [hC]
    refine ⟨?_, ?_, fun h => absurd h (by omega)⟩
    · refine Classical.byContradiction fun hn => ?_
      have hab : isL a b c x y z ≤ isH a b c x y z := by
        refine Classical.byContradiction fun g => hn ?_
        unfold ofC; rw [if_pos (by omega)]
      obtain ⟨p1, p2, p3, _⟩ := parts hr hab
      have := (w2 _).2 ((hm _).1 ((pl_iff hr hab _).2 ⟨0, rfl, by omega, by omega⟩))
      obtain ⟨_, _, g, _⟩ := this
      omega
    · by_cases hab : a ≤ b
      · obtain ⟨p1, p2, p3, _⟩ := parts h hab; omega
      · have : ofC a b c = 0 := by unfold ofC; rw [if_pos (by omega)]
        omega
  · obtain ⟨s1, s2, s3, s4, s5⟩ := is_ser h h' hC
    have hn : ¬ ckd a b c x y z ≠ 0 := by simp [ckd_zero h h']
    obtain ⟨c1, c2, c3, c4, c5⟩ := w1.resolve_left hC
    have m0 := mulle (x := 0) (y := isC a b c x y z - 1) c2 (by omega)
    rw [Int.mul_zero] at m0
    obtain ⟨q1, q2, q3, q4⟩ := nrm_like (f := isF a b c x y z) (s := isB a b c x y z) (C := isC a b c x y z) (c := c) c2
    have n1 : ¬ isC a b c x y z ≤ 0 := by omega
    have e0 : mvE (isF a b c x y z) (isB a b c x y z) (isC a b c x y z) = 0 := by unfold mvE; rw [if_neg n1, if_pos (by omega)]
    have e3 : isS a b c x y z = if isC a b c x y z = 1 then 1 else if c < 0 then -isB a b c x y z else isB a b c x y z := by simp only [isS, if_neg hn]; rw [q4]; simp only [mvStr, e0, if_neg n1, if_true]
    have hab : isL a b c x y z ≤ isH a b c x y z := by rw [s1, s2]; unfold sbL; omega
    obtain ⟨p1, p2, p3, p4, p5, p6, p7, p8, p9, p10⟩ := parts hr hab
    rw [s1, s2] at p5
    refine ⟨?_, ?_, fun h1 => ?_⟩
    · by_cases h1 : 1 < isC a b c x y z
      · rw [s3 h1] at p5
        have e : isB a b c x y z * (ofC (isL a b c x y z) (isH a b c x y z) (isS a b c x y z) - 1) = isB a b c x y z * (isC a b c x y z - 1) := by
          rw [s1, s2, p5]; unfold sbL; omega
        have := Int.eq_of_mul_eq_mul_left (by omega) e
        omega
      · have hC1 : isC a b c x y z = 1 := by omega
        have e : absI (isS a b c x y z) * (ofC (isL a b c x y z) (isH a b c x y z) (isS a b c x y z) - 1) = absI (isS a b c x y z) * 0 := by
          rw [s1, s2, p5]; unfold sbL; rw [hC1]; simp
        have := Int.eq_of_mul_eq_mul_left (by omega) e
        omega
    · obtain ⟨k0, m, h1, h2, h3, h4, _⟩ := sb_pieces h h' hC
      have := Int.mul_le_mul_of_nonneg_right h2 (show 0 ≤ isC a b c x y z - 1 by omega)
      omega
    · rw [e3, if_neg (by omega)]
      by_cases hc : c < 0
      · rw [if_pos hc, decide_eq_true hc, decide_eq_true (by omega)]
      · rw [if_neg hc, decide_eq_false hc, decide_eq_false (by omega)]
/-- The pieces of a difference, all. -/
theorem sb_all (h : Right a b c) (h' : Right x y z) (h4 : ofC a b c ≤ 400) : sbE a b c x y z = 0 ∧ sbN a b c x y z ≤ 400 ∧
    (∀ i, i < sbN a b c x y z → Right (sbF a b c x y z i).1 (sbF a b c x y z i).2.1 (sbF a b c x y z i).2.2.1 ∧ 1 ≤ ofC (sbF a b c x y z i).1 (sbF a b c x y z i).2.1 (sbF a b c x y z i).2.2.1 ∧ ofC (sbF a b c x y z i).1 (sbF a b c x y z i).2.1 (sbF a b c x y z i).2.2.1 ≤ 400) ∧
    (∀ n, (∃ i, i < sbN a b c x y z ∧ RIn (sbF a b c x y z i).1 (sbF a b c x y z i).2.1 (sbF a b c x y z i).2.2.1 n) ↔ RIn a b c n ∧ ¬ RIn x y z n) ∧
    (∀ n i j, i < sbN a b c x y z → j < sbN a b c x y z → RIn (sbF a b c x y z i).1 (sbF a b c x y z i).2.1 (sbF a b c x y z i).2.2.1 n → RIn (sbF a b c x y z j).1 (sbF a b c x y z j).2.1 (sbF a b c x y z j).2.2.1 n → i = j) := by
  have hn : ¬ ckd a b c x y z ≠ 0 := by simp [ckd_zero h h']
  by_cases hC : isC a b c x y z = 0
  · have hno : ∀ n, RIn a b c n → ¬ RIn x y z n := fun n g1 g2 => by
      obtain ⟨_, _, g, _⟩ := ((is_sw h h').2 n).2 ⟨g1, g2⟩
      omega
    have eN : sbN a b c x y z = if 0 < ofC a b c then 1 else 0 := by unfold sbN; rw [if_neg hn, if_pos hC]
    have eE : sbE a b c x y z = 0 := by unfold sbE; rw [if_neg hn, if_pos hC]
    by_cases hab : a ≤ b
    · obtain ⟨p1, p2, p3, _⟩ := parts h hab
      rw [if_pos (by omega)] at eN
      have eF : ∀ i, sbF a b c x y z i = (a, b, c, ()) := fun i => by unfold sbF; rw [if_pos hC]; exact pc_self h hab
      simp only [eN, eF]
      refine ⟨eE, by omega, fun i _ => ⟨h, p3, h4⟩, fun n => ⟨fun ⟨i, _, g⟩ => ⟨g, hno n g⟩, fun g => ⟨0, by omega, g.1⟩⟩, fun n i j hi hj _ _ => by omega⟩
    · have e0 : ofC a b c = 0 := by unfold ofC; rw [if_pos (by omega)]
      rw [if_neg (by omega)] at eN
      rw [eN]
      refine ⟨eE, by omega, fun i hi => absurd hi (by omega), fun n => ⟨fun ⟨i, hi, g⟩ => absurd hi (by omega), fun g => ?_⟩, fun n i j hi hj _ _ => absurd hi (by omega)⟩
      obtain ⟨_, _, g, _⟩ := g.1
      omega
  · obtain ⟨k0, m, h1, h2, h3, h5, n0, n1, n2, hp⟩ := sb_pieces h h' hC
    obtain ⟨hab, _⟩ := sb_facts h h' hC
    obtain ⟨c1, c2, c3, c4, c5⟩ := ((is_sw h h').1).resolve_left hC
    obtain ⟨C, eC⟩ : ∃ C, C = isC a b c x y z := ⟨_, rfl⟩
    obtain ⟨N, eN⟩ : ∃ N, N = ofC a b c := ⟨_, rfl⟩
    obtain ⟨M, eM⟩ : ∃ M, M = sbM a b c x y z := ⟨_, rfl⟩
    obtain ⟨N0, eN0⟩ : ∃ M, M = sbN0 a b c x y z := ⟨_, rfl⟩
    obtain ⟨N1, eN1⟩ : ∃ M, M = sbN1 a b c x y z := ⟨_, rfl⟩
    have eA : sbAll a b c x y z = N0 + M + N1 := by unfold sbAll; rw [← eN0, ← eM, ← eN1]
    rw [eA] at hp
    simp only [← eC, ← eN, ← eM, ← eN0, ← eN1] at h3 h5 n0 n1 n2 hp c1 h4
    have b0 : (N0 : Int) ≤ k0 := by rw [n0]; split <;> omega
    have b1 : (N1 : Int) ≤ N - 1 - (k0 + m * (C - 1)) := by rw [n2]; split <;> omega
    have hmC : 0 ≤ m * (C - 1) := Int.mul_nonneg (by omega) (by omega)
    have bM : (M : Int) ≤ m * (C - 1) := by
      rw [n1]; split
      · have := Int.mul_le_mul_of_nonneg_left (show 1 ≤ C - 1 by omega) (show 0 ≤ m by omega)
        omega
      · exact hmC
    have hAll : N0 + M + N1 ≤ 400 := by omega
    have eS : sbN a b c x y z = N0 + M + N1 := by unfold sbN; rw [if_neg hn, if_neg hC, eA, if_neg (by omega)]
    have eE : sbE a b c x y z = 0 := by unfold sbE; rw [if_neg hn, if_neg hC, eA, if_neg (by omega)]
    rw [eS]
    refine ⟨eE, hAll, fun i hi => ⟨(hp i hi).1, (hp i hi).2.1, by have := (hp i hi).2.2.1; omega⟩, fun n => ⟨?_, ?_⟩, fun n i j hi hj gi gj => ?_⟩
    · rintro ⟨i, hi, g⟩
      obtain ⟨p, hP, hc⟩ := ((hp i hi).2.2.2 n).1 g
      refine ⟨(pl_iff h hab n).2 ⟨p, hP⟩, fun g' => ?_⟩
      obtain ⟨q, e1, e2, e3⟩ := (h3 p n hP).1 g'
      split at hc
      · have := Int.mul_nonneg (show 0 ≤ m by omega) e2
        omega
      split at hc
      · obtain ⟨q', f1, f2, f3⟩ := hc
        have hj : ((i - N0 : Nat) : Int) + 1 ≤ m - 1 := by
          have : (M : Int) = m - 1 := by rw [n1, if_pos (by omega)]
          omega
        have e : m * (q - q') = ((i - N0 : Nat) : Int) + 1 := by rw [Int.mul_sub]; omega
        rcases Int.lt_or_le 0 (q - q') with g | g
        · have := Int.mul_le_mul_of_nonneg_left (show 1 ≤ q - q' by omega) (show 0 ≤ m by omega)
          omega
        · have := Int.mul_le_mul_of_nonneg_left g (show 0 ≤ m by omega)
          omega
      · have := Int.mul_le_mul_of_nonneg_left (show q ≤ C - 1 by omega) (show 0 ≤ m by omega)
        omega
    · rintro ⟨g1, g2⟩
      obtain ⟨p, hP⟩ := (pl_iff h hab n).1 g1
      have hno : ¬ ∃ q, p = k0 + m * q ∧ 0 ≤ q ∧ q < C := fun g => g2 ((h3 p n hP).2 g)
      obtain ⟨_, hp0, hpN⟩ := hP
      have hP : Pl a b c p n := ⟨‹_›, hp0, hpN⟩
      rw [← eN] at hpN
      rcases Int.lt_or_le p k0 with g | g
      · have e0 : N0 = 1 := by have := n0; rw [if_pos (by omega)] at this; exact this
        refine ⟨0, by omega, ((hp 0 (by omega)).2.2.2 n).2 ⟨p, hP, ?_⟩⟩
        rw [if_pos (by omega)]; exact g
      rcases Int.lt_or_le (k0 + m * (C - 1)) p with g' | g'
      · have e1 : N1 = 1 := by have := n2; rw [if_pos (by omega)] at this; exact this
        refine ⟨N0 + M, by omega, ((hp (N0 + M) (by omega)).2.2.2 n).2 ⟨p, hP, ?_⟩⟩
        rw [if_neg (by omega), if_neg (by omega)]; exact g'
      · have d1 := Int.emod_add_mul_ediv (p - k0) m
        have d2 := Int.emod_nonneg (p - k0) (show m ≠ 0 by omega)
        have d3 := Int.emod_lt_of_pos (p - k0) (show 0 < m by omega)
        have d4 : 0 ≤ (p - k0) / m := Int.ediv_nonneg (by omega) (by omega)
        obtain ⟨q, eq⟩ : ∃ q, q = (p - k0) / m := ⟨_, rfl⟩
        obtain ⟨r, er⟩ : ∃ r, r = (p - k0) % m := ⟨_, rfl⟩
        rw [← eq, ← er] at d1
        rw [← er] at d2 d3
        rw [← eq] at d4
        have hq : q ≤ C - 1 := by
          refine Classical.byContradiction fun hq => ?_
          have := Int.mul_le_mul_of_nonneg_left (show C ≤ q by omega) (show 0 ≤ m by omega)
          have e : m * C = m * (C - 1) + m := by rw [Int.mul_sub, Int.mul_one]; omega
          omega
        have hr : 1 ≤ r := by
          refine Classical.byContradiction fun hr => hno ⟨q, by omega, d4, by omega⟩
        have hq' : q < C - 1 := by
          refine Classical.byContradiction fun hq' => ?_
          have : q = C - 1 := by omega
          subst this
          omega
        have eM1 : (M : Int) = m - 1 := by rw [n1, if_pos (by omega)]
        obtain ⟨j, hj⟩ : ∃ j : Nat, (j : Int) = r - 1 := ⟨(r - 1).toNat, by omega⟩
        refine ⟨N0 + j, by omega, ((hp (N0 + j) (by omega)).2.2.2 n).2 ⟨p, hP, ?_⟩⟩
        rw [if_neg (by omega), if_pos (by omega)]
        refine ⟨q, ?_, d4, hq'⟩
        have : N0 + j - N0 = j := by omega
        rw [this]; omega
    · obtain ⟨p, hP, hc⟩ := ((hp i hi).2.2.2 n).1 gi
      obtain ⟨p', hP', hc'⟩ := ((hp j hj).2.2.2 n).1 gj
      obtain rfl := pl_one h hab hP hP'
      have mid : ∀ t : Nat, t < N0 + M → ¬ t < N0 → (∃ q, p = k0 + ((t - N0 : Nat) : Int) + 1 + m * q ∧ 0 ≤ q ∧ q < C - 1) → ∃ q, p = k0 + ((t - N0 : Nat) : Int) + 1 + m * q ∧ k0 < p ∧ p ≤ k0 + m * (C - 1) ∧ ((t - N0 : Nat) : Int) + 1 ≤ m - 1 := by
        rintro t ht1 ht2 ⟨q, f1, f2, f3⟩
        have hj : ((t - N0 : Nat) : Int) + 1 ≤ m - 1 := by
          have : (M : Int) = m - 1 := by rw [n1, if_pos (by omega)]
          omega
        have u1 := Int.mul_nonneg (show 0 ≤ m by omega) f2
        have u2 := Int.mul_le_mul_of_nonneg_left (show q ≤ C - 1 - 1 by omega) (show 0 ≤ m by omega)
        have u3 : m * (C - 1 - 1) = m * (C - 1) - m := by rw [Int.mul_sub m (C - 1) 1, Int.mul_one]
        exact ⟨q, f1, by omega, by omega, hj⟩
      by_cases i1 : i < N0
      · rw [if_pos i1] at hc
        by_cases j1 : j < N0
        · have : N0 ≤ 1 := by rw [n0]; split <;> omega
          omega
        rw [if_neg j1] at hc'
        by_cases j2 : j < N0 + M
        · rw [if_pos j2] at hc'
          obtain ⟨q, _, g, _⟩ := mid j j2 j1 hc'
          omega
        · rw [if_neg j2] at hc'; omega
      rw [if_neg i1] at hc
      by_cases i2 : i < N0 + M
      · rw [if_pos i2] at hc
        obtain ⟨q, f1, f2, f3, f4⟩ := mid i i2 i1 hc
        by_cases j1 : j < N0
        · rw [if_pos j1] at hc'; omega
        rw [if_neg j1] at hc'
        by_cases j2 : j < N0 + M
        · rw [if_pos j2] at hc'
          obtain ⟨q', f1', f2', f3', f4'⟩ := mid j j2 j1 hc'
          have e : m * (q - q') = ((j - N0 : Nat) : Int) - ((i - N0 : Nat) : Int) := by rw [Int.mul_sub]; omega
          rcases Int.lt_trichotomy 0 (q - q') with g | g | g
          · have := Int.mul_le_mul_of_nonneg_left (show 1 ≤ q - q' by omega) (show 0 ≤ m by omega)
            omega
          · rw [← g] at e; omega
          · have := Int.mul_le_mul_of_nonneg_left (show q - q' ≤ -1 by omega) (show 0 ≤ m by omega)
            omega
        · rw [if_neg j2] at hc'; omega
      · rw [if_neg i2] at hc
        have l1 : N1 ≤ 1 := by rw [n2]; split <;> omega
        by_cases j1 : j < N0
        · rw [if_pos j1] at hc'; omega
        rw [if_neg j1] at hc'
        by_cases j2 : j < N0 + M
        · rw [if_pos j2] at hc'
          obtain ⟨q, _, _, g, _⟩ := mid j j2 j1 hc'
          omega
        · omega
end
end Go.RX.Span

/- Sets of numbers: the walk. -/
set_option linter.unusedVariables false
set_option linter.unusedSimpArgs false
set_option maxRecDepth 100000
namespace Go.RX.Span
open Go Go.RX
attribute [local irreducible] sx conB

--%R ↑\(lk\s+numsN\s+a\s+b\s+c\s+\(401 : Int\)\) => ((lk numsN a b c (401 : Int) : Nat) : Int)
--%R ↑\(lk\s+sbN\s+a\s+b\s+c\s+x\s+y\s+z\) => ((lk sbN a b c x y z : Nat) : Int)
set_option maxRecDepth 100000 in
theorem t_SSa (a b c x y z : Int) : (conB Go.Proofs.Try.prog (conOf kT) (loopsOf lT) 10 3 [.agg [.lit (.int .i64 a), .lit (.int .i64 b), .lit (.int .i64 c)], .agg [.lit (.int .i64 x), .lit (.int .i64 y), .lit (.int .i64 z)]]).force [true] =
    T.ask (I64 a ∧ I64 b ∧ I64 c) (.ask (U.not (lk smallB a b c) = true) (.ret (.lit (.bool true)))) := by kernel_rfl
set_option maxRecDepth 100000 in
theorem t_SSb (a b c x y z : Int) : (conB Go.Proofs.Try.prog (conOf kT) (loopsOf lT) 10 3 [.agg [.lit (.int .i64 a), .lit (.int .i64 b), .lit (.int .i64 c)], .agg [.lit (.int .i64 x), .lit (.int .i64 y), .lit (.int .i64 z)]]).force [false, true] =
    T.ask (I64 a ∧ I64 b ∧ I64 c) (.ask (U.not (lk smallB a b c) = false) (.ask (I64 x ∧ I64 y ∧ I64 z) (.ask (U.not (lk smallB x y z) = true) (.ret (.lit (.bool true)))))) := by kernel_rfl
set_option maxRecDepth 100000 in
theorem t_SSc (a b c x y z : Int) : (conB Go.Proofs.Try.prog (conOf kT) (loopsOf lT) 10 3 [.agg [.lit (.int .i64 a), .lit (.int .i64 b), .lit (.int .i64 c)], .agg [.lit (.int .i64 x), .lit (.int .i64 y), .lit (.int .i64 z)]]).force [false, false, false, false, false, false, false, true, true, true] =
    T.ask (I64 a ∧ I64 b ∧ I64 c) (.ask (U.not (lk smallB a b c) = false) (.ask (I64 x ∧ I64 y ∧ I64 z) (.ask (U.not (lk smallB x y z) = false) (.ask (I64 a ∧ I64 b ∧ I64 c ∧ I64 x ∧
      I64 y ∧ I64 z) (.ask (I64 a ∧ I64 b ∧ I64 c ∧ I64 x ∧ I64 y ∧ I64 z) (.ask (I64 a ∧ I64 b ∧ I64 c ∧ I64 x ∧ I64 y ∧ I64 z) (.ask (U.ne (lk isEr a b c x y z) (0 : Int) = false) (.ask
      (U.ne (lk sbE a b c x y z) (0 : Int) = false) (.ask (U.ne (lk ckd a b c x y z) (0 : Int) = false) (.ask (I64 (lk isL a b c x y z) ∧ I64 (lk isH a b c x y z) ∧ I64 (lk isS a b c x y
      z)) (.ask (U.ne (lk chk (lk isL a b c x y z) (lk isH a b c x y z) (lk isS a b c x y z)) (0 : Int) = false) (.ask (U.gt (Int.ofNat (lk sbN a b c x y z)) (400 : Int) = false) (.ask
      (I64 a ∧ I64 b ∧ I64 c ∧ (0 : Int) ≤ (401 : Int) ∧ (401 : Int) ≤ (1000000 : Int)) (.ask (lk PreS1 (nat_lit 0) x y z (lk numsN a b c (401 : Int)) ∧ ((lk numsN a b c (401 : Int) :
      Nat) : Int) = ((lk numsN a b c (401 : Int) : Nat) : Int) ∧ (23 : Nat) = (23 : TypeId) ∧ (23 : Nat) = (23 : TypeId) ∧ (23 : Nat) = (23 : TypeId)) (.ask (lk PreS2 (nat_lit 0) (lk sbN
      a b c x y z) (lk sbF a b c x y z) ∧ lk sbN a b c x y z = lk sbN a b c x y z ∧ lk sbF a b c x y z = lk sbF a b c x y z ∧ ((lk sbN a b c x y z : Nat) : Int) = ((lk sbN a b c x y z :
      Nat) : Int) ∧ (3 : Nat) = (3 : Nat) ∧ (4 : Nat) = (4 : Nat) ∧ lk fuB x y z (fun k => (lk num a b c k, PUnit.unit)) (lk numsN a b c (401 : Int)) = lk fuB x y z (fun k => (lk num a b
      c k, PUnit.unit)) (lk numsN a b c (401 : Int)) ∧ lk fuR x y z (fun k => (lk num a b c k, PUnit.unit)) (lk numsN a b c (401 : Int)) = lk fuR x y z (fun k => (lk num a b c k,
      PUnit.unit)) (lk numsN a b c (401 : Int)) ∧ lk fnB x y z (fun k => (lk num a b c k, PUnit.unit)) (lk numsN a b c (401 : Int)) = lk fnB x y z (fun k => (lk num a b c k, PUnit.unit))
      (lk numsN a b c (401 : Int)) ∧ lk fnR x y z (fun k => (lk num a b c k, PUnit.unit)) (lk numsN a b c (401 : Int)) = lk fnR x y z (fun k => (lk num a b c k, PUnit.unit)) (lk numsN a b
      c (401 : Int)) ∧ (23 : TypeId) = (23 : TypeId) ∧ (23 : TypeId) = (23 : TypeId) ∧ (23 : TypeId) = (23 : TypeId) ∧ (3 : TypeId) = (3 : TypeId) ∧ (3 : TypeId) = (3 : TypeId)) (.ask (lk
      fnR x y z (fun k => (lk num a b c k, PUnit.unit)) (lk numsN a b c (401 : Int)) = lk fnR x y z (fun k => (lk num a b c k, PUnit.unit)) (lk numsN a b c (401 : Int)) ∧ lk fnR x y z
      (fun k => (lk num a b c k, PUnit.unit)) (lk numsN a b c (401 : Int)) ≤ (1000000 : Nat)) (.ask (lk fnG (lk sbF a b c x y z) (lk sbN a b c x y z) = lk fnG (lk sbF a b c x y z) (lk sbN
      a b c x y z) ∧ lk fnG (lk sbF a b c x y z) (lk sbN a b c x y z) ≤ (1000000 : Nat)) (.ask (I64 (lk isL a b c x y z) ∧ I64 (lk isH a b c x y z) ∧ I64 (lk isS a b c x y z) ∧ (0 : Int)
      ≤ (401 : Int) ∧ (401 : Int) ≤ (1000000 : Int)) (.ask (lk numsN (lk isL a b c x y z) (lk isH a b c x y z) (lk isS a b c x y z) (401 : Int) ≤ nat_lit 9223372036854775807) (.ask (lk
      eqR (lk numsN (lk isL a b c x y z) (lk isH a b c x y z) (lk isS a b c x y z) (401 : Int)) (fun k => (lk num (lk isL a b c x y z) (lk isH a b c x y z) (lk isS a b c x y z) k,
      PUnit.unit)) (lk fnB x y z (fun k => (lk num a b c k, PUnit.unit)) (lk numsN a b c (401 : Int))) (lk ffB x y z (fun k => (lk num a b c k, PUnit.unit)) (lk numsN a b c (401 : Int)))
      = true) (.ask (lk fnG (lk sbF a b c x y z) (lk sbN a b c x y z) ≤ nat_lit 9223372036854775807) (.ask (lk eqR (lk fnG (lk sbF a b c x y z) (lk sbN a b c x y z)) (lk srtF (lk fnG (lk
      sbF a b c x y z) (lk sbN a b c x y z)) (lk ffG (lk sbF a b c x y z) (lk sbN a b c x y z))) (lk fnR x y z (fun k => (lk num a b c k, PUnit.unit)) (lk numsN a b c (401 : Int))) (lk
      srtF (lk fnR x y z (fun k => (lk num a b c k, PUnit.unit)) (lk numsN a b c (401 : Int))) (lk ffR x y z (fun k => (lk num a b c k, PUnit.unit)) (lk numsN a b c (401 : Int)))) = true)
      (.ask (U.beq (lk wiB a b c x y z) (U.eq (Int.ofNat (lk fnR x y z (fun k => (lk num a b c k, PUnit.unit)) (lk numsN a b c (401 : Int)))) (0 : Int)) = true) (.ret (.lit (.bool
      true)))))))))))))))))))))))))) := by kernel_rfl
end Go.RX.Span

/- Sets of numbers: what the law returns. -/
set_option linter.unusedVariables false
set_option linter.unusedSimpArgs false
set_option maxRecDepth 100000
namespace Go.RX.Span
open Go Go.RX
attribute [local irreducible] sx conB

section
variable {a b c x y z : Int}
theorem filB_nl : filB x y z (fun k => (num a b c k, ())) (numsN a b c 401) = (nl (a, b, c, ())).filter (fun m => has x y z m) := rfl
theorem filR_nl : filR x y z (fun k => (num a b c k, ())) (numsN a b c 401) = (nl (a, b, c, ())).filter (fun m => !has x y z m) := rfl
theorem both_eq (h : Right a b c) (h' : Right x y z) (h4 : ofC a b c ≤ 400) : filB x y z (fun k => (num a b c k, ())) (numsN a b c 401) = nl (isL a b c x y z, isH a b c x y z, isS a b c x y z, ()) := by
  obtain ⟨_, hr, hm⟩ := is_set h h'
  obtain ⟨e1, e2, e3⟩ := is_more h h'
  rw [filB_nl]
  refine eq_sgn (d := decide (c < 0)) ((nl_sorted h (by omega) fun _ => rfl).filter _) (nl_sorted hr (by omega) fun g => e3 (by omega)) fun m => ?_
  rw [List.mem_filter, nl_mem h (by omega), nl_mem hr (by omega), hm, rin_has h']
theorem rest_perm (h : Right a b c) (h' : Right x y z) (h4 : ofC a b c ≤ 400) : (gaL (sbF a b c x y z) (sbN a b c x y z)).Perm (filR x y z (fun k => (num a b c k, ())) (numsN a b c 401)) := by
  obtain ⟨_, _, hp, hm, hd⟩ := sb_all h h' h4
  have mem : ∀ i, i < sbN a b c x y z → ∀ m, m ∈ nl (sbF a b c x y z i) ↔ RIn (sbF a b c x y z i).1 (sbF a b c x y z i).2.1 (sbF a b c x y z i).2.2.1 m := fun i hi m =>
    nl_mem (hp i hi).1 (by have := (hp i hi).2.2; omega) m
  rw [filR_nl]
  refine (List.perm_ext_iff_of_nodup ?_ ((nl_nodup h (by omega)).filter _)).2 fun m => ?_
  · unfold gaL
    refine List.pairwise_flatMap.2 ⟨fun i hi => ?_, ?_⟩
    · have hi := List.mem_range.1 hi
      have t := nl_nodup (hp i hi).1 (Int.le_trans (hp i hi).2.2 (by decide))
      exact t
    · refine List.Pairwise.imp_of_mem ?_ List.pairwise_lt_range
      intro i j hi hj hij u hu v hv e
      have hi := List.mem_range.1 hi
      have hj := List.mem_range.1 hj
      subst e
      have := hd _ i j hi hj ((mem i hi _).1 hu) ((mem j hj _).1 hv)
      omega
  · unfold gaL
    rw [List.mem_flatMap, List.mem_filter, nl_mem h (by omega), Bool.not_eq_true', ← Bool.not_eq_true, ← rin_has h', ← hm]
    constructor
    · rintro ⟨i, hi, g⟩
      have hi := List.mem_range.1 hi
      exact ⟨i, hi, (mem i hi m).1 g⟩
    · rintro ⟨i, hi, g⟩
      exact ⟨i, List.mem_range.2 hi, (mem i hi m).2 g⟩
theorem wi_rest (h : Right a b c) (h' : Right x y z) (h4 : ofC a b c ≤ 400) : wiB a b c x y z = decide (((filR x y z (fun k => (num a b c k, ())) (numsN a b c 401)).length : Int) = 0) := by
  rw [Bool.eq_iff_iff, wi_set h h', decide_eq_true_eq, filR_nl]
  constructor
  · intro g
    have : (nl (a, b, c, ())).filter (fun m => !has x y z m) = [] := List.filter_eq_nil_iff.2 fun m hm => by
      rw [nl_mem h (by omega)] at hm
      have := (rin_has h').1 (g m hm)
      simp [this]
    rw [this]; rfl
  · intro g n hn
    have g : (nl (a, b, c, ())).filter (fun m => !has x y z m) = [] := List.length_eq_zero_iff.1 (by omega)
    have := List.filter_eq_nil_iff.1 g n ((nl_mem h (by omega) n).2 hn)
    rw [rin_has h']
    simpa using this
end
noncomputable def c_SpanSets : Con := fun args => match args with
  | [.agg [.lit (.int .i64 a), .lit (.int .i64 b), .lit (.int .i64 c)], .agg [.lit (.int .i64 x), .lit (.int .i64 y), .lit (.int .i64 z)]] => .ask (I64 a ∧ I64 b ∧ I64 c ∧ I64 x ∧ I64 y ∧ I64 z) (.ret (.lit (.bool true)))
  | _ => .stuck 1
theorem SpanSets_ok : ConOK P 3 c_SpanSets := con_force (allOKC mixed kT_ok lT_ok cT_ok) 10 3 fun args r hh => by
  unfold c_SpanSets at hh
  split at hh
  · rename_i a b c x y z
    obtain ⟨ia, ib, ic, ix, iy, iz⟩ := (T.is_ask hh).1
    obtain rfl := T.is_ret (T.is_ask hh).2
    cases hs : smallB a b c
    · exact ⟨_, by rw [t_SSa]; simp only [lk_eq]; exact ⟨⟨ia, ib, ic⟩, U.not_t.mpr hs, .inl rfl⟩⟩
    cases hs2 : smallB x y z
    · exact ⟨_, by rw [t_SSb]; simp only [lk_eq]; exact ⟨⟨ia, ib, ic⟩, U.not_f.mpr hs, ⟨ix, iy, iz⟩, U.not_t.mpr hs2, .inl rfl⟩⟩
    have hs' := of_decide_eq_true hs
    have hs2' := of_decide_eq_true hs2
    have h := chk_zero.1 hs'.1
    have h' := chk_zero.1 hs2'.1
    have h4 : ofC a b c ≤ 400 := by rw [← size_eq' h]; exact hs'.2
    obtain ⟨i1, i2, i3⟩ := is_set h h'
    obtain ⟨m1, m2, m3⟩ := is_more h h'
    obtain ⟨s1, s2, s3, _⟩ := sb_all h h' h4
    have hN : numsN a b c 401 ≤ 400 := by rw [numsN_val h (by omega)]; omega
    have hI : numsN (isL a b c x y z) (isH a b c x y z) (isS a b c x y z) 401 ≤ 400 := by rw [numsN_val i2 (by omega)]; omega
    have right64 : ∀ {u v w : Int}, Right u v w → I64 u ∧ I64 v ∧ I64 w := fun {u v w} r => by
      have hl := r.1
      have hc := right_c r
      unfold I64
      refine ⟨by omega, by omega, by omega⟩
    have eB := both_eq h h' h4
    have pR := rest_perm h h' h4
    have lR : fnR x y z (fun k => (num a b c k, ())) (numsN a b c 401) ≤ numsN a b c 401 := filR_len _ _ _ _ _
    have lG : fnG (sbF a b c x y z) (sbN a b c x y z) = fnR x y z (fun k => (num a b c k, ())) (numsN a b c 401) := pR.length_eq
    have q1 : eqR (numsN (isL a b c x y z) (isH a b c x y z) (isS a b c x y z) 401) (fun k => (num (isL a b c x y z) (isH a b c x y z) (isS a b c x y z) k, ())) (fnB x y z (fun k => (num a b c k, ())) (numsN a b c 401)) (ffB x y z (fun k => (num a b c k, ())) (numsN a b c 401)) = true := by
      refine eqR_t.2 ⟨?_, fun i hi => ?_⟩
      · unfold fnB; rw [eB]; exact (nl_len (isL a b c x y z, isH a b c x y z, isS a b c x y z, ())).symm
      · unfold ffB; rw [eB]
        exact congrArg Prod.fst (nl_row (isL a b c x y z, isH a b c x y z, isS a b c x y z, ()) i (Nat.lt_of_lt_of_eq hi (nl_len (isL a b c x y z, isH a b c x y z, isS a b c x y z, ())).symm))
    have q2 : eqR (fnG (sbF a b c x y z) (sbN a b c x y z)) (srtF (fnG (sbF a b c x y z) (sbN a b c x y z)) (ffG (sbF a b c x y z) (sbN a b c x y z))) (fnR x y z (fun k => (num a b c k, ())) (numsN a b c 401)) (srtF (fnR x y z (fun k => (num a b c k, ())) (numsN a b c 401)) (ffR x y z (fun k => (num a b c k, ())) (numsN a b c 401))) = true := by
      refine eqR_t.2 ⟨lG, fun i hi => ?_⟩
      have e : srtL (fnG (sbF a b c x y z) (sbN a b c x y z)) (ffG (sbF a b c x y z) (sbN a b c x y z)) = srtL (fnR x y z (fun k => (num a b c k, ())) (numsN a b c 401)) (ffR x y z (fun k => (num a b c k, ())) (numsN a b c 401)) := by
        unfold srtL fnG ffG fnR ffR
        rw [listL_rowL, listL_rowL]
        exact srt_perm pR
      unfold srtF
      rw [e]
    have q3 : U.beq (wiB a b c x y z) (U.eq (Int.ofNat (fnR x y z (fun k => (num a b c k, ())) (numsN a b c 401))) 0) = true := by
      rw [U.beq_t, wi_rest h h' h4, U.eq_eq]; rfl
    apply Exists.intro
    rw [t_SSc]
    simp only [lk_eq]
    have hf : U.not (smallB a b c) = false := U.not_f.mpr hs
    have hf2 : U.not (smallB x y z) = false := U.not_f.mpr hs2
    have v1 : U.ne (isEr a b c x y z) 0 = false := U.ne_f.mpr i1
    have v2 : U.ne (sbE a b c x y z) 0 = false := U.ne_f.mpr s1
    have v3 : U.ne (ckd a b c x y z) 0 = false := U.ne_f.mpr (ckd_zero h h')
    have v4 : U.ne (chk (isL a b c x y z) (isH a b c x y z) (isS a b c x y z)) 0 = false := U.ne_f.mpr (chk_zero.2 i2)
    have v5 : U.gt (Int.ofNat (sbN a b c x y z)) 400 = false := U.gt_f.mpr (by simp only [Int.ofNat_eq_natCast]; omega)
    have j6 := right64 i2
    have P1 : PreS1 0 x y z (numsN a b c 401) := ⟨rfl, ix, iy, iz, by omega⟩
    have P2 : PreS2 0 (sbN a b c x y z) (sbF a b c x y z) := ⟨rfl, s2, fun i hi => by
      obtain ⟨g1, g2, g3⟩ := s3 i hi
      obtain ⟨k1, k2, k3⟩ := right64 g1
      exact ⟨k1, k2, k3, chk_zero.2 g1, by rw [size_eq' g1]; omega⟩⟩
    have l1 : fnR x y z (fun k => (num a b c k, ())) (numsN a b c 401) ≤ 1000000 := by omega
    have l2 : fnG (sbF a b c x y z) (sbN a b c x y z) ≤ 1000000 := by omega
    have l3 : fnG (sbF a b c x y z) (sbN a b c x y z) ≤ 9223372036854775807 := by omega
    have l4 : numsN (isL a b c x y z) (isH a b c x y z) (isS a b c x y z) 401 ≤ 9223372036854775807 := by omega
    simp only [T.All, ia, ib, ic, ix, iy, iz, hf, hf2, v1, v2, v3, v4, v5, j6.1, j6.2.1, j6.2.2, P1, P2, l1, l2, l3, l4, q1, q2, q3, true_and, and_true]
    exact ⟨⟨by decide, by decide⟩, ⟨by decide, by decide⟩, .inl rfl⟩
  · exact hh.elim
end Go.RX.Span

