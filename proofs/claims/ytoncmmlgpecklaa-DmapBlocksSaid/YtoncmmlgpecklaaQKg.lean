/- Subtract of the program: the walk. -/
import Derived.Test.YtoncmmlgpecklaaQKf
import Derived.Test.YtoncmmlgpecklaaQKb
set_option linter.unusedVariables false
set_option linter.unusedSimpArgs false
set_option maxRecDepth 100000
namespace Go.RX.Span
open Go Go.RX
attribute [local irreducible] sx conB

set_option maxRecDepth 100000 in
theorem t_Subtract (a b c x y z : Int) : conB Go.Proofs.Try.prog (conOf ku) (loopsOf l52) 10 23 [.agg [.lit (.int .i64 a), .lit (.int .i64 b), .lit (.int .i64 c)], .agg [.lit (.int .i64 x), .lit (.int .i64 y), .lit (.int .i64 z)]] =
    T.ask (I64 a ∧ I64 b ∧ I64 c ∧ I64 x ∧ I64 y ∧ I64 z) (.br (U.ne (lk ckd a b c x y z) (0 : Int)) (.ret (.tup [.lit (.slice none (nat_lit 0) (nat_lit 0)), .lit (.int .i64 (lk ckd a b
      c x y z))])) (.ask (a ≤ b → c ≠ (0 : Int) ∧ (-9223372036854775807 : Int) ≤ c ∧ b - a < (9223372036854775807 : Int) ∧ I64 a ∧ I64 b ∧ I64 c) (.ask (lk ofB a b c < (0 : Int) → lk ofC
      a b c ≠ (0 : Int) → I64 (lk ofC a b c - (1 : Int)) ∧ I64 (lk ofB a b c * (lk ofC a b c - (1 : Int))) ∧ I64 (lk ofF a b c + lk ofB a b c * (lk ofC a b c - (1 : Int))) ∧ I64 (-lk ofB
      a b c)) (.ask (x ≤ y → z ≠ (0 : Int) ∧ (-9223372036854775807 : Int) ≤ z ∧ y - x < (9223372036854775807 : Int) ∧ I64 x ∧ I64 y ∧ I64 z) (.ask (lk ofB x y z < (0 : Int) → lk ofC x y z
      ≠ (0 : Int) → I64 (lk ofC x y z - (1 : Int)) ∧ I64 (lk ofB x y z * (lk ofC x y z - (1 : Int))) ∧ I64 (lk ofF x y z + lk ofB x y z * (lk ofC x y z - (1 : Int))) ∧ I64 (-lk ofB x y
      z)) (.ask (Ser (lk uF (lk ofF a b c) (lk ofB a b c) (lk ofC a b c)) (lk uB (lk ofF a b c) (lk ofB a b c) (lk ofC a b c)) (lk ofC a b c) ∧ Ser (lk uF (lk ofF x y z) (lk ofB x y z)
      (lk ofC x y z)) (lk uB (lk ofF x y z) (lk ofB x y z) (lk ofC x y z)) (lk ofC x y z)) (.br (U.eq (lk cmCnt (lk uF (lk ofF a b c) (lk ofB a b c) (lk ofC a b c)) (lk uB (lk ofF a b c)
      (lk ofB a b c) (lk ofC a b c)) (lk ofC a b c) (lk uF (lk ofF x y z) (lk ofB x y z) (lk ofC x y z)) (lk uB (lk ofF x y z) (lk ofB x y z) (lk ofC x y z)) (lk ofC x y z)) (0 : Int))
      (.br (U.gt (lk ofC a b c) (0 : Int)) (.ask (c < (0 : Int) → lk ofC a b c ≠ (0 : Int) → I64 (lk ofC a b c - (1 : Int)) ∧ I64 (lk uB (lk ofF a b c) (lk ofB a b c) (lk ofC a b c) * (lk
      ofC a b c - (1 : Int))) ∧ I64 (lk uF (lk ofF a b c) (lk ofB a b c) (lk ofC a b c) + lk uB (lk ofF a b c) (lk ofB a b c) (lk ofC a b c) * (lk ofC a b c - (1 : Int))) ∧ I64 (-lk uB
      (lk ofF a b c) (lk ofB a b c) (lk ofC a b c))) (.ask ((0 : Int) < lk ofC a b c → I64 (lk ofC a b c - (1 : Int)) ∧ I64 (lk kB (lk uF (lk ofF a b c) (lk ofB a b c) (lk ofC a b c)) (lk
      uB (lk ofF a b c) (lk ofB a b c) (lk ofC a b c)) (lk ofC a b c) c * (lk ofC a b c - (1 : Int))) ∧ I64 (lk kF (lk uF (lk ofF a b c) (lk ofB a b c) (lk ofC a b c)) (lk uB (lk ofF a b
      c) (lk ofB a b c) (lk ofC a b c)) (lk ofC a b c) c + lk kB (lk uF (lk ofF a b c) (lk ofB a b c) (lk ofC a b c)) (lk uB (lk ofF a b c) (lk ofB a b c) (lk ofC a b c)) (lk ofC a b c) c
      * (lk ofC a b c - (1 : Int)))) (.ask ((1 : Nat) * nat_lit 24 ≤ nat_lit 140737488351232) (.ret (.tup [.row [.int .i64, .int .i64, .int .i64] (nat_lit 1) fun x => (lk nLow (lk kF (lk
      uF (lk ofF a b c) (lk ofB a b c) (lk ofC a b c)) (lk uB (lk ofF a b c) (lk ofB a b c) (lk ofC a b c)) (lk ofC a b c) c) (lk kB (lk uF (lk ofF a b c) (lk ofB a b c) (lk ofC a b c))
      (lk uB (lk ofF a b c) (lk ofB a b c) (lk ofC a b c)) (lk ofC a b c) c) (lk ofC a b c), lk nHigh (lk kF (lk uF (lk ofF a b c) (lk ofB a b c) (lk ofC a b c)) (lk uB (lk ofF a b c) (lk
      ofB a b c) (lk ofC a b c)) (lk ofC a b c) c) (lk kB (lk uF (lk ofF a b c) (lk ofB a b c) (lk ofC a b c)) (lk uB (lk ofF a b c) (lk ofB a b c) (lk ofC a b c)) (lk ofC a b c) c) (lk
      ofC a b c), lk nStr (lk kF (lk uF (lk ofF a b c) (lk ofB a b c) (lk ofC a b c)) (lk uB (lk ofF a b c) (lk ofB a b c) (lk ofC a b c)) (lk ofC a b c) c) (lk kB (lk uF (lk ofF a b c)
      (lk ofB a b c) (lk ofC a b c)) (lk uB (lk ofF a b c) (lk ofB a b c) (lk ofC a b c)) (lk ofC a b c) c) (lk ofC a b c), PUnit.unit), .lit (.int .i64 0)]))))) (.ret (.tup [.lit (.slice
      none (nat_lit 0) (nat_lit 0)), .lit (.int .i64 0)]))) (.ask (lk uB (lk ofF a b c) (lk ofB a b c) (lk ofC a b c) ≠ (0 : Int)) (.br (U.gt (U.quo .i64 (U.sub .i64 (lk cmFst (lk uF (lk
      ofF a b c) (lk ofB a b c) (lk ofC a b c)) (lk uB (lk ofF a b c) (lk ofB a b c) (lk ofC a b c)) (lk ofC a b c) (lk uF (lk ofF x y z) (lk ofB x y z) (lk ofC x y z)) (lk uB (lk ofF x y
      z) (lk ofB x y z) (lk ofC x y z)) (lk ofC x y z)) (lk uF (lk ofF a b c) (lk ofB a b c) (lk ofC a b c))) (lk uB (lk ofF a b c) (lk ofB a b c) (lk ofC a b c))) (0 : Int)) (.ask (c <
      (0 : Int) → U.quo .i64 (U.sub .i64 (lk cmFst (lk uF (lk ofF a b c) (lk ofB a b c) (lk ofC a b c)) (lk uB (lk ofF a b c) (lk ofB a b c) (lk ofC a b c)) (lk ofC a b c) (lk uF (lk ofF
      x y z) (lk ofB x y z) (lk ofC x y z)) (lk uB (lk ofF x y z) (lk ofB x y z) (lk ofC x y z)) (lk ofC x y z)) (lk uF (lk ofF a b c) (lk ofB a b c) (lk ofC a b c))) (lk uB (lk ofF a b
      c) (lk ofB a b c) (lk ofC a b c)) ≠ (0 : Int) → I64 (U.quo .i64 (U.sub .i64 (lk cmFst (lk uF (lk ofF a b c) (lk ofB a b c) (lk ofC a b c)) (lk uB (lk ofF a b c) (lk ofB a b c) (lk
      ofC a b c)) (lk ofC a b c) (lk uF (lk ofF x y z) (lk ofB x y z) (lk ofC x y z)) (lk uB (lk ofF x y z) (lk ofB x y z) (lk ofC x y z)) (lk ofC x y z)) (lk uF (lk ofF a b c) (lk ofB a
      b c) (lk ofC a b c))) (lk uB (lk ofF a b c) (lk ofB a b c) (lk ofC a b c)) - (1 : Int)) ∧ I64 (lk uB (lk ofF a b c) (lk ofB a b c) (lk ofC a b c) * (U.quo .i64 (U.sub .i64 (lk cmFst
      (lk uF (lk ofF a b c) (lk ofB a b c) (lk ofC a b c)) (lk uB (lk ofF a b c) (lk ofB a b c) (lk ofC a b c)) (lk ofC a b c) (lk uF (lk ofF x y z) (lk ofB x y z) (lk ofC x y z)) (lk uB
      (lk ofF x y z) (lk ofB x y z) (lk ofC x y z)) (lk ofC x y z)) (lk uF (lk ofF a b c) (lk ofB a b c) (lk ofC a b c))) (lk uB (lk ofF a b c) (lk ofB a b c) (lk ofC a b c)) - (1 :
      Int))) ∧ I64 (lk uF (lk ofF a b c) (lk ofB a b c) (lk ofC a b c) + lk uB (lk ofF a b c) (lk ofB a b c) (lk ofC a b c) * (U.quo .i64 (U.sub .i64 (lk cmFst (lk uF (lk ofF a b c) (lk
      ofB a b c) (lk ofC a b c)) (lk uB (lk ofF a b c) (lk ofB a b c) (lk ofC a b c)) (lk ofC a b c) (lk uF (lk ofF x y z) (lk ofB x y z) (lk ofC x y z)) (lk uB (lk ofF x y z) (lk ofB x y
      z) (lk ofC x y z)) (lk ofC x y z)) (lk uF (lk ofF a b c) (lk ofB a b c) (lk ofC a b c))) (lk uB (lk ofF a b c) (lk ofB a b c) (lk ofC a b c)) - (1 : Int))) ∧ I64 (-lk uB (lk ofF a b
      c) (lk ofB a b c) (lk ofC a b c))) (.ask ((0 : Int) < U.quo .i64 (U.sub .i64 (lk cmFst (lk uF (lk ofF a b c) (lk ofB a b c) (lk ofC a b c)) (lk uB (lk ofF a b c) (lk ofB a b c) (lk
      ofC a b c)) (lk ofC a b c) (lk uF (lk ofF x y z) (lk ofB x y z) (lk ofC x y z)) (lk uB (lk ofF x y z) (lk ofB x y z) (lk ofC x y z)) (lk ofC x y z)) (lk uF (lk ofF a b c) (lk ofB a
      b c) (lk ofC a b c))) (lk uB (lk ofF a b c) (lk ofB a b c) (lk ofC a b c)) → I64 (U.quo .i64 (U.sub .i64 (lk cmFst (lk uF (lk ofF a b c) (lk ofB a b c) (lk ofC a b c)) (lk uB (lk
      ofF a b c) (lk ofB a b c) (lk ofC a b c)) (lk ofC a b c) (lk uF (lk ofF x y z) (lk ofB x y z) (lk ofC x y z)) (lk uB (lk ofF x y z) (lk ofB x y z) (lk ofC x y z)) (lk ofC x y z))
      (lk uF (lk ofF a b c) (lk ofB a b c) (lk ofC a b c))) (lk uB (lk ofF a b c) (lk ofB a b c) (lk ofC a b c)) - (1 : Int)) ∧ I64 (lk kB (lk uF (lk ofF a b c) (lk ofB a b c) (lk ofC a b
      c)) (lk uB (lk ofF a b c) (lk ofB a b c) (lk ofC a b c)) (U.quo .i64 (U.sub .i64 (lk cmFst (lk uF (lk ofF a b c) (lk ofB a b c) (lk ofC a b c)) (lk uB (lk ofF a b c) (lk ofB a b c)
      (lk ofC a b c)) (lk ofC a b c) (lk uF (lk ofF x y z) (lk ofB x y z) (lk ofC x y z)) (lk uB (lk ofF x y z) (lk ofB x y z) (lk ofC x y z)) (lk ofC x y z)) (lk uF (lk ofF a b c) (lk
      ofB a b c) (lk ofC a b c))) (lk uB (lk ofF a b c) (lk ofB a b c) (lk ofC a b c))) c * (U.quo .i64 (U.sub .i64 (lk cmFst (lk uF (lk ofF a b c) (lk ofB a b c) (lk ofC a b c)) (lk uB
      (lk ofF a b c) (lk ofB a b c) (lk ofC a b c)) (lk ofC a b c) (lk uF (lk ofF x y z) (lk ofB x y z) (lk ofC x y z)) (lk uB (lk ofF x y z) (lk ofB x y z) (lk ofC x y z)) (lk ofC x y
      z)) (lk uF (lk ofF a b c) (lk ofB a b c) (lk ofC a b c))) (lk uB (lk ofF a b c) (lk ofB a b c) (lk ofC a b c)) - (1 : Int))) ∧ I64 (lk kF (lk uF (lk ofF a b c) (lk ofB a b c) (lk
      ofC a b c)) (lk uB (lk ofF a b c) (lk ofB a b c) (lk ofC a b c)) (U.quo .i64 (U.sub .i64 (lk cmFst (lk uF (lk ofF a b c) (lk ofB a b c) (lk ofC a b c)) (lk uB (lk ofF a b c) (lk ofB
      a b c) (lk ofC a b c)) (lk ofC a b c) (lk uF (lk ofF x y z) (lk ofB x y z) (lk ofC x y z)) (lk uB (lk ofF x y z) (lk ofB x y z) (lk ofC x y z)) (lk ofC x y z)) (lk uF (lk ofF a b c)
      (lk ofB a b c) (lk ofC a b c))) (lk uB (lk ofF a b c) (lk ofB a b c) (lk ofC a b c))) c + lk kB (lk uF (lk ofF a b c) (lk ofB a b c) (lk ofC a b c)) (lk uB (lk ofF a b c) (lk ofB a
      b c) (lk ofC a b c)) (U.quo .i64 (U.sub .i64 (lk cmFst (lk uF (lk ofF a b c) (lk ofB a b c) (lk ofC a b c)) (lk uB (lk ofF a b c) (lk ofB a b c) (lk ofC a b c)) (lk ofC a b c) (lk
      uF (lk ofF x y z) (lk ofB x y z) (lk ofC x y z)) (lk uB (lk ofF x y z) (lk ofB x y z) (lk ofC x y z)) (lk ofC x y z)) (lk uF (lk ofF a b c) (lk ofB a b c) (lk ofC a b c))) (lk uB
      (lk ofF a b c) (lk ofB a b c) (lk ofC a b c))) c * (U.quo .i64 (U.sub .i64 (lk cmFst (lk uF (lk ofF a b c) (lk ofB a b c) (lk ofC a b c)) (lk uB (lk ofF a b c) (lk ofB a b c) (lk
      ofC a b c)) (lk ofC a b c) (lk uF (lk ofF x y z) (lk ofB x y z) (lk ofC x y z)) (lk uB (lk ofF x y z) (lk ofB x y z) (lk ofC x y z)) (lk ofC x y z)) (lk uF (lk ofF a b c) (lk ofB a
      b c) (lk ofC a b c))) (lk uB (lk ofF a b c) (lk ofB a b c) (lk ofC a b c)) - (1 : Int)))) (.ask ((1 : Nat) * nat_lit 24 ≤ nat_lit 140737488351232) (.ask (PreP (nat_lit 0) (lk uB (lk
      ofF a b c) (lk ofB a b c) (lk ofC a b c)) (lk cmFst (lk uF (lk ofF a b c) (lk ofB a b c) (lk ofC a b c)) (lk uB (lk ofF a b c) (lk ofB a b c) (lk ofC a b c)) (lk ofC a b c) (lk uF
      (lk ofF x y z) (lk ofB x y z) (lk ofC x y z)) (lk uB (lk ofF x y z) (lk ofB x y z) (lk ofC x y z)) (lk ofC x y z)) (lk cmBy (lk uF (lk ofF a b c) (lk ofB a b c) (lk ofC a b c)) (lk
      uB (lk ofF a b c) (lk ofB a b c) (lk ofC a b c)) (lk ofC a b c) (lk uF (lk ofF x y z) (lk ofB x y z) (lk ofC x y z)) (lk uB (lk ofF x y z) (lk ofB x y z) (lk ofC x y z)) (lk ofC x y
      z)) (lk cmCnt (lk uF (lk ofF a b c) (lk ofB a b c) (lk ofC a b c)) (lk uB (lk ofF a b c) (lk ofB a b c) (lk ofC a b c)) (lk ofC a b c) (lk uF (lk ofF x y z) (lk ofB x y z) (lk ofC x
      y z)) (lk uB (lk ofF x y z) (lk ofB x y z) (lk ofC x y z)) (lk ofC x y z)) false (1 : Nat) ∧ lk uB (lk ofF a b c) (lk ofB a b c) (lk ofC a b c) = lk uB (lk ofF a b c) (lk ofB a b c)
      (lk ofC a b c) ∧ (1 : Nat) = (1 : Nat)) (.ask (I64 (lk cmCnt (lk uF (lk ofF a b c) (lk ofB a b c) (lk ofC a b c)) (lk uB (lk ofF a b c) (lk ofB a b c) (lk ofC a b c)) (lk ofC a b c)
      (lk uF (lk ofF x y z) (lk ofB x y z) (lk ofC x y z)) (lk uB (lk ofF x y z) (lk ofB x y z) (lk ofC x y z)) (lk ofC x y z) - (1 : Int)) ∧ I64 (lk cmBy (lk uF (lk ofF a b c) (lk ofB a
      b c) (lk ofC a b c)) (lk uB (lk ofF a b c) (lk ofB a b c) (lk ofC a b c)) (lk ofC a b c) (lk uF (lk ofF x y z) (lk ofB x y z) (lk ofC x y z)) (lk uB (lk ofF x y z) (lk ofB x y z)
      (lk ofC x y z)) (lk ofC x y z) * (lk cmCnt (lk uF (lk ofF a b c) (lk ofB a b c) (lk ofC a b c)) (lk uB (lk ofF a b c) (lk ofB a b c) (lk ofC a b c)) (lk ofC a b c) (lk uF (lk ofF x
      y z) (lk ofB x y z) (lk ofC x y z)) (lk uB (lk ofF x y z) (lk ofB x y z) (lk ofC x y z)) (lk ofC x y z) - (1 : Int))) ∧ I64 (lk cmFst (lk uF (lk ofF a b c) (lk ofB a b c) (lk ofC a
      b c)) (lk uB (lk ofF a b c) (lk ofB a b c) (lk ofC a b c)) (lk ofC a b c) (lk uF (lk ofF x y z) (lk ofB x y z) (lk ofC x y z)) (lk uB (lk ofF x y z) (lk ofB x y z) (lk ofC x y z))
      (lk ofC x y z) + lk cmBy (lk uF (lk ofF a b c) (lk ofB a b c) (lk ofC a b c)) (lk uB (lk ofF a b c) (lk ofB a b c) (lk ofC a b c)) (lk ofC a b c) (lk uF (lk ofF x y z) (lk ofB x y
      z) (lk ofC x y z)) (lk uB (lk ofF x y z) (lk ofB x y z) (lk ofC x y z)) (lk ofC x y z) * (lk cmCnt (lk uF (lk ofF a b c) (lk ofB a b c) (lk ofC a b c)) (lk uB (lk ofF a b c) (lk ofB
      a b c) (lk ofC a b c)) (lk ofC a b c) (lk uF (lk ofF x y z) (lk ofB x y z) (lk ofC x y z)) (lk uB (lk ofF x y z) (lk ofB x y z) (lk ofC x y z)) (lk ofC x y z) - (1 : Int)))) (.ask
      (I64 (lk ofC a b c - (1 : Int)) ∧ I64 (lk uB (lk ofF a b c) (lk ofB a b c) (lk ofC a b c) * (lk ofC a b c - (1 : Int))) ∧ I64 (lk uF (lk ofF a b c) (lk ofB a b c) (lk ofC a b c) +
      lk uB (lk ofF a b c) (lk ofB a b c) (lk ofC a b c) * (lk ofC a b c - (1 : Int)))) (.ask (I64 (lk cmCnt (lk uF (lk ofF a b c) (lk ofB a b c) (lk ofC a b c)) (lk uB (lk ofF a b c) (lk
      ofB a b c) (lk ofC a b c)) (lk ofC a b c) (lk uF (lk ofF x y z) (lk ofB x y z) (lk ofC x y z)) (lk uB (lk ofF x y z) (lk ofB x y z) (lk ofC x y z)) (lk ofC x y z) - (1 : Int)) ∧ I64
      (lk cmBy (lk uF (lk ofF a b c) (lk ofB a b c) (lk ofC a b c)) (lk uB (lk ofF a b c) (lk ofB a b c) (lk ofC a b c)) (lk ofC a b c) (lk uF (lk ofF x y z) (lk ofB x y z) (lk ofC x y
      z)) (lk uB (lk ofF x y z) (lk ofB x y z) (lk ofC x y z)) (lk ofC x y z) * (lk cmCnt (lk uF (lk ofF a b c) (lk ofB a b c) (lk ofC a b c)) (lk uB (lk ofF a b c) (lk ofB a b c) (lk ofC
      a b c)) (lk ofC a b c) (lk uF (lk ofF x y z) (lk ofB x y z) (lk ofC x y z)) (lk uB (lk ofF x y z) (lk ofB x y z) (lk ofC x y z)) (lk ofC x y z) - (1 : Int))) ∧ I64 (lk cmFst (lk uF
      (lk ofF a b c) (lk ofB a b c) (lk ofC a b c)) (lk uB (lk ofF a b c) (lk ofB a b c) (lk ofC a b c)) (lk ofC a b c) (lk uF (lk ofF x y z) (lk ofB x y z) (lk ofC x y z)) (lk uB (lk ofF
      x y z) (lk ofB x y z) (lk ofC x y z)) (lk ofC x y z) + lk cmBy (lk uF (lk ofF a b c) (lk ofB a b c) (lk ofC a b c)) (lk uB (lk ofF a b c) (lk ofB a b c) (lk ofC a b c)) (lk ofC a b
      c) (lk uF (lk ofF x y z) (lk ofB x y z) (lk ofC x y z)) (lk uB (lk ofF x y z) (lk ofB x y z) (lk ofC x y z)) (lk ofC x y z) * (lk cmCnt (lk uF (lk ofF a b c) (lk ofB a b c) (lk ofC
      a b c)) (lk uB (lk ofF a b c) (lk ofB a b c) (lk ofC a b c)) (lk ofC a b c) (lk uF (lk ofF x y z) (lk ofB x y z) (lk ofC x y z)) (lk uB (lk ofF x y z) (lk ofB x y z) (lk ofC x y z))
      (lk ofC x y z) - (1 : Int)))) (.ask (lk uB (lk ofF a b c) (lk ofB a b c) (lk ofC a b c) ≠ (0 : Int)) (.br (U.gt (U.quo .i64 (U.sub .i64 (lk sLast (lk uF (lk ofF a b c) (lk ofB a b
      c) (lk ofC a b c)) (lk uB (lk ofF a b c) (lk ofB a b c) (lk ofC a b c)) (lk ofC a b c)) (lk sLast (lk cmFst (lk uF (lk ofF a b c) (lk ofB a b c) (lk ofC a b c)) (lk uB (lk ofF a b
      c) (lk ofB a b c) (lk ofC a b c)) (lk ofC a b c) (lk uF (lk ofF x y z) (lk ofB x y z) (lk ofC x y z)) (lk uB (lk ofF x y z) (lk ofB x y z) (lk ofC x y z)) (lk ofC x y z)) (lk cmBy
      (lk uF (lk ofF a b c) (lk ofB a b c) (lk ofC a b c)) (lk uB (lk ofF a b c) (lk ofB a b c) (lk ofC a b c)) (lk ofC a b c) (lk uF (lk ofF x y z) (lk ofB x y z) (lk ofC x y z)) (lk uB
      (lk ofF x y z) (lk ofB x y z) (lk ofC x y z)) (lk ofC x y z)) (lk cmCnt (lk uF (lk ofF a b c) (lk ofB a b c) (lk ofC a b c)) (lk uB (lk ofF a b c) (lk ofB a b c) (lk ofC a b c)) (lk
      ofC a b c) (lk uF (lk ofF x y z) (lk ofB x y z) (lk ofC x y z)) (lk uB (lk ofF x y z) (lk ofB x y z) (lk ofC x y z)) (lk ofC x y z)))) (lk uB (lk ofF a b c) (lk ofB a b c) (lk ofC a
      b c))) (0 : Int)) (.br (U.le (Int.ofNat (nat_lit 1 + lk pM (lk uB (lk ofF a b c) (lk ofB a b c) (lk ofC a b c)) (lk cmBy (lk uF (lk ofF a b c) (lk ofB a b c) (lk ofC a b c)) (lk uB
      (lk ofF a b c) (lk ofB a b c) (lk ofC a b c)) (lk ofC a b c) (lk uF (lk ofF x y z) (lk ofB x y z) (lk ofC x y z)) (lk uB (lk ofF x y z) (lk ofB x y z) (lk ofC x y z)) (lk ofC x y
      z)) (lk cmCnt (lk uF (lk ofF a b c) (lk ofB a b c) (lk ofC a b c)) (lk uB (lk ofF a b c) (lk ofB a b c) (lk ofC a b c)) (lk ofC a b c) (lk uF (lk ofF x y z) (lk ofB x y z) (lk ofC x
      y z)) (lk uB (lk ofF x y z) (lk ofB x y z) (lk ofC x y z)) (lk ofC x y z)) (nat_lit 1))) (1000 : Int)) (.ask (c < (0 : Int) → U.quo .i64 (U.sub .i64 (lk sLast (lk uF (lk ofF a b c)
      (lk ofB a b c) (lk ofC a b c)) (lk uB (lk ofF a b c) (lk ofB a b c) (lk ofC a b c)) (lk ofC a b c)) (lk sLast (lk cmFst (lk uF (lk ofF a b c) (lk ofB a b c) (lk ofC a b c)) (lk uB
      (lk ofF a b c) (lk ofB a b c) (lk ofC a b c)) (lk ofC a b c) (lk uF (lk ofF x y z) (lk ofB x y z) (lk ofC x y z)) (lk uB (lk ofF x y z) (lk ofB x y z) (lk ofC x y z)) (lk ofC x y
      z)) (lk cmBy (lk uF (lk ofF a b c) (lk ofB a b c) (lk ofC a b c)) (lk uB (lk ofF a b c) (lk ofB a b c) (lk ofC a b c)) (lk ofC a b c) (lk uF (lk ofF x y z) (lk ofB x y z) (lk ofC x
      y z)) (lk uB (lk ofF x y z) (lk ofB x y z) (lk ofC x y z)) (lk ofC x y z)) (lk cmCnt (lk uF (lk ofF a b c) (lk ofB a b c) (lk ofC a b c)) (lk uB (lk ofF a b c) (lk ofB a b c) (lk
      ofC a b c)) (lk ofC a b c) (lk uF (lk ofF x y z) (lk ofB x y z) (lk ofC x y z)) (lk uB (lk ofF x y z) (lk ofB x y z) (lk ofC x y z)) (lk ofC x y z)))) (lk uB (lk ofF a b c) (lk ofB
      a b c) (lk ofC a b c)) ≠ (0 : Int) → I64 (U.quo .i64 (U.sub .i64 (lk sLast (lk uF (lk ofF a b c) (lk ofB a b c) (lk ofC a b c)) (lk uB (lk ofF a b c) (lk ofB a b c) (lk ofC a b c))
      (lk ofC a b c)) (lk sLast (lk cmFst (lk uF (lk ofF a b c) (lk ofB a b c) (lk ofC a b c)) (lk uB (lk ofF a b c) (lk ofB a b c) (lk ofC a b c)) (lk ofC a b c) (lk uF (lk ofF x y z)
      (lk ofB x y z) (lk ofC x y z)) (lk uB (lk ofF x y z) (lk ofB x y z) (lk ofC x y z)) (lk ofC x y z)) (lk cmBy (lk uF (lk ofF a b c) (lk ofB a b c) (lk ofC a b c)) (lk uB (lk ofF a b
      c) (lk ofB a b c) (lk ofC a b c)) (lk ofC a b c) (lk uF (lk ofF x y z) (lk ofB x y z) (lk ofC x y z)) (lk uB (lk ofF x y z) (lk ofB x y z) (lk ofC x y z)) (lk ofC x y z)) (lk cmCnt
      (lk uF (lk ofF a b c) (lk ofB a b c) (lk ofC a b c)) (lk uB (lk ofF a b c) (lk ofB a b c) (lk ofC a b c)) (lk ofC a b c) (lk uF (lk ofF x y z) (lk ofB x y z) (lk ofC x y z)) (lk uB
      (lk ofF x y z) (lk ofB x y z) (lk ofC x y z)) (lk ofC x y z)))) (lk uB (lk ofF a b c) (lk ofB a b c) (lk ofC a b c)) - (1 : Int)) ∧ I64 (lk uB (lk ofF a b c) (lk ofB a b c) (lk ofC
      a b c) * (U.quo .i64 (U.sub .i64 (lk sLast (lk uF (lk ofF a b c) (lk ofB a b c) (lk ofC a b c)) (lk uB (lk ofF a b c) (lk ofB a b c) (lk ofC a b c)) (lk ofC a b c)) (lk sLast (lk
      cmFst (lk uF (lk ofF a b c) (lk ofB a b c) (lk ofC a b c)) (lk uB (lk ofF a b c) (lk ofB a b c) (lk ofC a b c)) (lk ofC a b c) (lk uF (lk ofF x y z) (lk ofB x y z) (lk ofC x y z))
      (lk uB (lk ofF x y z) (lk ofB x y z) (lk ofC x y z)) (lk ofC x y z)) (lk cmBy (lk uF (lk ofF a b c) (lk ofB a b c) (lk ofC a b c)) (lk uB (lk ofF a b c) (lk ofB a b c) (lk ofC a b
      c)) (lk ofC a b c) (lk uF (lk ofF x y z) (lk ofB x y z) (lk ofC x y z)) (lk uB (lk ofF x y z) (lk ofB x y z) (lk ofC x y z)) (lk ofC x y z)) (lk cmCnt (lk uF (lk ofF a b c) (lk ofB
      a b c) (lk ofC a b c)) (lk uB (lk ofF a b c) (lk ofB a b c) (lk ofC a b c)) (lk ofC a b c) (lk uF (lk ofF x y z) (lk ofB x y z) (lk ofC x y z)) (lk uB (lk ofF x y z) (lk ofB x y z)
      (lk ofC x y z)) (lk ofC x y z)))) (lk uB (lk ofF a b c) (lk ofB a b c) (lk ofC a b c)) - (1 : Int))) ∧ I64 (U.add .i64 (lk sLast (lk cmFst (lk uF (lk ofF a b c) (lk ofB a b c) (lk
      ofC a b c)) (lk uB (lk ofF a b c) (lk ofB a b c) (lk ofC a b c)) (lk ofC a b c) (lk uF (lk ofF x y z) (lk ofB x y z) (lk ofC x y z)) (lk uB (lk ofF x y z) (lk ofB x y z) (lk ofC x y
      z)) (lk ofC x y z)) (lk cmBy (lk uF (lk ofF a b c) (lk ofB a b c) (lk ofC a b c)) (lk uB (lk ofF a b c) (lk ofB a b c) (lk ofC a b c)) (lk ofC a b c) (lk uF (lk ofF x y z) (lk ofB x
      y z) (lk ofC x y z)) (lk uB (lk ofF x y z) (lk ofB x y z) (lk ofC x y z)) (lk ofC x y z)) (lk cmCnt (lk uF (lk ofF a b c) (lk ofB a b c) (lk ofC a b c)) (lk uB (lk ofF a b c) (lk
      ofB a b c) (lk ofC a b c)) (lk ofC a b c) (lk uF (lk ofF x y z) (lk ofB x y z) (lk ofC x y z)) (lk uB (lk ofF x y z) (lk ofB x y z) (lk ofC x y z)) (lk ofC x y z))) (lk uB (lk ofF a
      b c) (lk ofB a b c) (lk ofC a b c)) + lk uB (lk ofF a b c) (lk ofB a b c) (lk ofC a b c) * (U.quo .i64 (U.sub .i64 (lk sLast (lk uF (lk ofF a b c) (lk ofB a b c) (lk ofC a b c)) (lk
      uB (lk ofF a b c) (lk ofB a b c) (lk ofC a b c)) (lk ofC a b c)) (lk sLast (lk cmFst (lk uF (lk ofF a b c) (lk ofB a b c) (lk ofC a b c)) (lk uB (lk ofF a b c) (lk ofB a b c) (lk
      ofC a b c)) (lk ofC a b c) (lk uF (lk ofF x y z) (lk ofB x y z) (lk ofC x y z)) (lk uB (lk ofF x y z) (lk ofB x y z) (lk ofC x y z)) (lk ofC x y z)) (lk cmBy (lk uF (lk ofF a b c)
      (lk ofB a b c) (lk ofC a b c)) (lk uB (lk ofF a b c) (lk ofB a b c) (lk ofC a b c)) (lk ofC a b c) (lk uF (lk ofF x y z) (lk ofB x y z) (lk ofC x y z)) (lk uB (lk ofF x y z) (lk ofB
      x y z) (lk ofC x y z)) (lk ofC x y z)) (lk cmCnt (lk uF (lk ofF a b c) (lk ofB a b c) (lk ofC a b c)) (lk uB (lk ofF a b c) (lk ofB a b c) (lk ofC a b c)) (lk ofC a b c) (lk uF (lk
      ofF x y z) (lk ofB x y z) (lk ofC x y z)) (lk uB (lk ofF x y z) (lk ofB x y z) (lk ofC x y z)) (lk ofC x y z)))) (lk uB (lk ofF a b c) (lk ofB a b c) (lk ofC a b c)) - (1 : Int))) ∧
      I64 (-lk uB (lk ofF a b c) (lk ofB a b c) (lk ofC a b c))) (.ask ((0 : Int) < U.quo .i64 (U.sub .i64 (lk sLast (lk uF (lk ofF a b c) (lk ofB a b c) (lk ofC a b c)) (lk uB (lk ofF a
      b c) (lk ofB a b c) (lk ofC a b c)) (lk ofC a b c)) (lk sLast (lk cmFst (lk uF (lk ofF a b c) (lk ofB a b c) (lk ofC a b c)) (lk uB (lk ofF a b c) (lk ofB a b c) (lk ofC a b c)) (lk
      ofC a b c) (lk uF (lk ofF x y z) (lk ofB x y z) (lk ofC x y z)) (lk uB (lk ofF x y z) (lk ofB x y z) (lk ofC x y z)) (lk ofC x y z)) (lk cmBy (lk uF (lk ofF a b c) (lk ofB a b c)
      (lk ofC a b c)) (lk uB (lk ofF a b c) (lk ofB a b c) (lk ofC a b c)) (lk ofC a b c) (lk uF (lk ofF x y z) (lk ofB x y z) (lk ofC x y z)) (lk uB (lk ofF x y z) (lk ofB x y z) (lk ofC
      x y z)) (lk ofC x y z)) (lk cmCnt (lk uF (lk ofF a b c) (lk ofB a b c) (lk ofC a b c)) (lk uB (lk ofF a b c) (lk ofB a b c) (lk ofC a b c)) (lk ofC a b c) (lk uF (lk ofF x y z) (lk
      ofB x y z) (lk ofC x y z)) (lk uB (lk ofF x y z) (lk ofB x y z) (lk ofC x y z)) (lk ofC x y z)))) (lk uB (lk ofF a b c) (lk ofB a b c) (lk ofC a b c)) → I64 (U.quo .i64 (U.sub .i64
      (lk sLast (lk uF (lk ofF a b c) (lk ofB a b c) (lk ofC a b c)) (lk uB (lk ofF a b c) (lk ofB a b c) (lk ofC a b c)) (lk ofC a b c)) (lk sLast (lk cmFst (lk uF (lk ofF a b c) (lk ofB
      a b c) (lk ofC a b c)) (lk uB (lk ofF a b c) (lk ofB a b c) (lk ofC a b c)) (lk ofC a b c) (lk uF (lk ofF x y z) (lk ofB x y z) (lk ofC x y z)) (lk uB (lk ofF x y z) (lk ofB x y z)
      (lk ofC x y z)) (lk ofC x y z)) (lk cmBy (lk uF (lk ofF a b c) (lk ofB a b c) (lk ofC a b c)) (lk uB (lk ofF a b c) (lk ofB a b c) (lk ofC a b c)) (lk ofC a b c) (lk uF (lk ofF x y
      z) (lk ofB x y z) (lk ofC x y z)) (lk uB (lk ofF x y z) (lk ofB x y z) (lk ofC x y z)) (lk ofC x y z)) (lk cmCnt (lk uF (lk ofF a b c) (lk ofB a b c) (lk ofC a b c)) (lk uB (lk ofF
      a b c) (lk ofB a b c) (lk ofC a b c)) (lk ofC a b c) (lk uF (lk ofF x y z) (lk ofB x y z) (lk ofC x y z)) (lk uB (lk ofF x y z) (lk ofB x y z) (lk ofC x y z)) (lk ofC x y z)))) (lk
      uB (lk ofF a b c) (lk ofB a b c) (lk ofC a b c)) - (1 : Int)) ∧ I64 (lk kB (U.add .i64 (lk sLast (lk cmFst (lk uF (lk ofF a b c) (lk ofB a b c) (lk ofC a b c)) (lk uB (lk ofF a b c)
      (lk ofB a b c) (lk ofC a b c)) (lk ofC a b c) (lk uF (lk ofF x y z) (lk ofB x y z) (lk ofC x y z)) (lk uB (lk ofF x y z) (lk ofB x y z) (lk ofC x y z)) (lk ofC x y z)) (lk cmBy (lk
      uF (lk ofF a b c) (lk ofB a b c) (lk ofC a b c)) (lk uB (lk ofF a b c) (lk ofB a b c) (lk ofC a b c)) (lk ofC a b c) (lk uF (lk ofF x y z) (lk ofB x y z) (lk ofC x y z)) (lk uB (lk
      ofF x y z) (lk ofB x y z) (lk ofC x y z)) (lk ofC x y z)) (lk cmCnt (lk uF (lk ofF a b c) (lk ofB a b c) (lk ofC a b c)) (lk uB (lk ofF a b c) (lk ofB a b c) (lk ofC a b c)) (lk ofC
      a b c) (lk uF (lk ofF x y z) (lk ofB x y z) (lk ofC x y z)) (lk uB (lk ofF x y z) (lk ofB x y z) (lk ofC x y z)) (lk ofC x y z))) (lk uB (lk ofF a b c) (lk ofB a b c) (lk ofC a b
      c))) (lk uB (lk ofF a b c) (lk ofB a b c) (lk ofC a b c)) (U.quo .i64 (U.sub .i64 (lk sLast (lk uF (lk ofF a b c) (lk ofB a b c) (lk ofC a b c)) (lk uB (lk ofF a b c) (lk ofB a b c)
      (lk ofC a b c)) (lk ofC a b c)) (lk sLast (lk cmFst (lk uF (lk ofF a b c) (lk ofB a b c) (lk ofC a b c)) (lk uB (lk ofF a b c) (lk ofB a b c) (lk ofC a b c)) (lk ofC a b c) (lk uF
      (lk ofF x y z) (lk ofB x y z) (lk ofC x y z)) (lk uB (lk ofF x y z) (lk ofB x y z) (lk ofC x y z)) (lk ofC x y z)) (lk cmBy (lk uF (lk ofF a b c) (lk ofB a b c) (lk ofC a b c)) (lk
      uB (lk ofF a b c) (lk ofB a b c) (lk ofC a b c)) (lk ofC a b c) (lk uF (lk ofF x y z) (lk ofB x y z) (lk ofC x y z)) (lk uB (lk ofF x y z) (lk ofB x y z) (lk ofC x y z)) (lk ofC x y
      z)) (lk cmCnt (lk uF (lk ofF a b c) (lk ofB a b c) (lk ofC a b c)) (lk uB (lk ofF a b c) (lk ofB a b c) (lk ofC a b c)) (lk ofC a b c) (lk uF (lk ofF x y z) (lk ofB x y z) (lk ofC x
      y z)) (lk uB (lk ofF x y z) (lk ofB x y z) (lk ofC x y z)) (lk ofC x y z)))) (lk uB (lk ofF a b c) (lk ofB a b c) (lk ofC a b c))) c * (U.quo .i64 (U.sub .i64 (lk sLast (lk uF (lk
      ofF a b c) (lk ofB a b c) (lk ofC a b c)) (lk uB (lk ofF a b c) (lk ofB a b c) (lk ofC a b c)) (lk ofC a b c)) (lk sLast (lk cmFst (lk uF (lk ofF a b c) (lk ofB a b c) (lk ofC a b
      c)) (lk uB (lk ofF a b c) (lk ofB a b c) (lk ofC a b c)) (lk ofC a b c) (lk uF (lk ofF x y z) (lk ofB x y z) (lk ofC x y z)) (lk uB (lk ofF x y z) (lk ofB x y z) (lk ofC x y z)) (lk
      ofC x y z)) (lk cmBy (lk uF (lk ofF a b c) (lk ofB a b c) (lk ofC a b c)) (lk uB (lk ofF a b c) (lk ofB a b c) (lk ofC a b c)) (lk ofC a b c) (lk uF (lk ofF x y z) (lk ofB x y z)
      (lk ofC x y z)) (lk uB (lk ofF x y z) (lk ofB x y z) (lk ofC x y z)) (lk ofC x y z)) (lk cmCnt (lk uF (lk ofF a b c) (lk ofB a b c) (lk ofC a b c)) (lk uB (lk ofF a b c) (lk ofB a b
      c) (lk ofC a b c)) (lk ofC a b c) (lk uF (lk ofF x y z) (lk ofB x y z) (lk ofC x y z)) (lk uB (lk ofF x y z) (lk ofB x y z) (lk ofC x y z)) (lk ofC x y z)))) (lk uB (lk ofF a b c)
      (lk ofB a b c) (lk ofC a b c)) - (1 : Int))) ∧ I64 (lk kF (U.add .i64 (lk sLast (lk cmFst (lk uF (lk ofF a b c) (lk ofB a b c) (lk ofC a b c)) (lk uB (lk ofF a b c) (lk ofB a b c)
      (lk ofC a b c)) (lk ofC a b c) (lk uF (lk ofF x y z) (lk ofB x y z) (lk ofC x y z)) (lk uB (lk ofF x y z) (lk ofB x y z) (lk ofC x y z)) (lk ofC x y z)) (lk cmBy (lk uF (lk ofF a b
      c) (lk ofB a b c) (lk ofC a b c)) (lk uB (lk ofF a b c) (lk ofB a b c) (lk ofC a b c)) (lk ofC a b c) (lk uF (lk ofF x y z) (lk ofB x y z) (lk ofC x y z)) (lk uB (lk ofF x y z) (lk
      ofB x y z) (lk ofC x y z)) (lk ofC x y z)) (lk cmCnt (lk uF (lk ofF a b c) (lk ofB a b c) (lk ofC a b c)) (lk uB (lk ofF a b c) (lk ofB a b c) (lk ofC a b c)) (lk ofC a b c) (lk uF
      (lk ofF x y z) (lk ofB x y z) (lk ofC x y z)) (lk uB (lk ofF x y z) (lk ofB x y z) (lk ofC x y z)) (lk ofC x y z))) (lk uB (lk ofF a b c) (lk ofB a b c) (lk ofC a b c))) (lk uB (lk
      ofF a b c) (lk ofB a b c) (lk ofC a b c)) (U.quo .i64 (U.sub .i64 (lk sLast (lk uF (lk ofF a b c) (lk ofB a b c) (lk ofC a b c)) (lk uB (lk ofF a b c) (lk ofB a b c) (lk ofC a b c))
      (lk ofC a b c)) (lk sLast (lk cmFst (lk uF (lk ofF a b c) (lk ofB a b c) (lk ofC a b c)) (lk uB (lk ofF a b c) (lk ofB a b c) (lk ofC a b c)) (lk ofC a b c) (lk uF (lk ofF x y z)
      (lk ofB x y z) (lk ofC x y z)) (lk uB (lk ofF x y z) (lk ofB x y z) (lk ofC x y z)) (lk ofC x y z)) (lk cmBy (lk uF (lk ofF a b c) (lk ofB a b c) (lk ofC a b c)) (lk uB (lk ofF a b
      c) (lk ofB a b c) (lk ofC a b c)) (lk ofC a b c) (lk uF (lk ofF x y z) (lk ofB x y z) (lk ofC x y z)) (lk uB (lk ofF x y z) (lk ofB x y z) (lk ofC x y z)) (lk ofC x y z)) (lk cmCnt
      (lk uF (lk ofF a b c) (lk ofB a b c) (lk ofC a b c)) (lk uB (lk ofF a b c) (lk ofB a b c) (lk ofC a b c)) (lk ofC a b c) (lk uF (lk ofF x y z) (lk ofB x y z) (lk ofC x y z)) (lk uB
      (lk ofF x y z) (lk ofB x y z) (lk ofC x y z)) (lk ofC x y z)))) (lk uB (lk ofF a b c) (lk ofB a b c) (lk ofC a b c))) c + lk kB (U.add .i64 (lk sLast (lk cmFst (lk uF (lk ofF a b c)
      (lk ofB a b c) (lk ofC a b c)) (lk uB (lk ofF a b c) (lk ofB a b c) (lk ofC a b c)) (lk ofC a b c) (lk uF (lk ofF x y z) (lk ofB x y z) (lk ofC x y z)) (lk uB (lk ofF x y z) (lk ofB
      x y z) (lk ofC x y z)) (lk ofC x y z)) (lk cmBy (lk uF (lk ofF a b c) (lk ofB a b c) (lk ofC a b c)) (lk uB (lk ofF a b c) (lk ofB a b c) (lk ofC a b c)) (lk ofC a b c) (lk uF (lk
      ofF x y z) (lk ofB x y z) (lk ofC x y z)) (lk uB (lk ofF x y z) (lk ofB x y z) (lk ofC x y z)) (lk ofC x y z)) (lk cmCnt (lk uF (lk ofF a b c) (lk ofB a b c) (lk ofC a b c)) (lk uB
      (lk ofF a b c) (lk ofB a b c) (lk ofC a b c)) (lk ofC a b c) (lk uF (lk ofF x y z) (lk ofB x y z) (lk ofC x y z)) (lk uB (lk ofF x y z) (lk ofB x y z) (lk ofC x y z)) (lk ofC x y
      z))) (lk uB (lk ofF a b c) (lk ofB a b c) (lk ofC a b c))) (lk uB (lk ofF a b c) (lk ofB a b c) (lk ofC a b c)) (U.quo .i64 (U.sub .i64 (lk sLast (lk uF (lk ofF a b c) (lk ofB a b
      c) (lk ofC a b c)) (lk uB (lk ofF a b c) (lk ofB a b c) (lk ofC a b c)) (lk ofC a b c)) (lk sLast (lk cmFst (lk uF (lk ofF a b c) (lk ofB a b c) (lk ofC a b c)) (lk uB (lk ofF a b
      c) (lk ofB a b c) (lk ofC a b c)) (lk ofC a b c) (lk uF (lk ofF x y z) (lk ofB x y z) (lk ofC x y z)) (lk uB (lk ofF x y z) (lk ofB x y z) (lk ofC x y z)) (lk ofC x y z)) (lk cmBy
      (lk uF (lk ofF a b c) (lk ofB a b c) (lk ofC a b c)) (lk uB (lk ofF a b c) (lk ofB a b c) (lk ofC a b c)) (lk ofC a b c) (lk uF (lk ofF x y z) (lk ofB x y z) (lk ofC x y z)) (lk uB
      (lk ofF x y z) (lk ofB x y z) (lk ofC x y z)) (lk ofC x y z)) (lk cmCnt (lk uF (lk ofF a b c) (lk ofB a b c) (lk ofC a b c)) (lk uB (lk ofF a b c) (lk ofB a b c) (lk ofC a b c)) (lk
      ofC a b c) (lk uF (lk ofF x y z) (lk ofB x y z) (lk ofC x y z)) (lk uB (lk ofF x y z) (lk ofB x y z) (lk ofC x y z)) (lk ofC x y z)))) (lk uB (lk ofF a b c) (lk ofB a b c) (lk ofC a
      b c))) c * (U.quo .i64 (U.sub .i64 (lk sLast (lk uF (lk ofF a b c) (lk ofB a b c) (lk ofC a b c)) (lk uB (lk ofF a b c) (lk ofB a b c) (lk ofC a b c)) (lk ofC a b c)) (lk sLast (lk
      cmFst (lk uF (lk ofF a b c) (lk ofB a b c) (lk ofC a b c)) (lk uB (lk ofF a b c) (lk ofB a b c) (lk ofC a b c)) (lk ofC a b c) (lk uF (lk ofF x y z) (lk ofB x y z) (lk ofC x y z))
      (lk uB (lk ofF x y z) (lk ofB x y z) (lk ofC x y z)) (lk ofC x y z)) (lk cmBy (lk uF (lk ofF a b c) (lk ofB a b c) (lk ofC a b c)) (lk uB (lk ofF a b c) (lk ofB a b c) (lk ofC a b
      c)) (lk ofC a b c) (lk uF (lk ofF x y z) (lk ofB x y z) (lk ofC x y z)) (lk uB (lk ofF x y z) (lk ofB x y z) (lk ofC x y z)) (lk ofC x y z)) (lk cmCnt (lk uF (lk ofF a b c) (lk ofB
      a b c) (lk ofC a b c)) (lk uB (lk ofF a b c) (lk ofB a b c) (lk ofC a b c)) (lk ofC a b c) (lk uF (lk ofF x y z) (lk ofB x y z) (lk ofC x y z)) (lk uB (lk ofF x y z) (lk ofB x y z)
      (lk ofC x y z)) (lk ofC x y z)))) (lk uB (lk ofF a b c) (lk ofB a b c) (lk ofC a b c)) - (1 : Int)))) (.ask (((1 : Nat) + lk pM (lk uB (lk ofF a b c) (lk ofB a b c) (lk ofC a b c))
      (lk cmBy (lk uF (lk ofF a b c) (lk ofB a b c) (lk ofC a b c)) (lk uB (lk ofF a b c) (lk ofB a b c) (lk ofC a b c)) (lk ofC a b c) (lk uF (lk ofF x y z) (lk ofB x y z) (lk ofC x y
      z)) (lk uB (lk ofF x y z) (lk ofB x y z) (lk ofC x y z)) (lk ofC x y z)) (lk cmCnt (lk uF (lk ofF a b c) (lk ofB a b c) (lk ofC a b c)) (lk uB (lk ofF a b c) (lk ofB a b c) (lk ofC
      a b c)) (lk ofC a b c) (lk uF (lk ofF x y z) (lk ofB x y z) (lk ofC x y z)) (lk uB (lk ofF x y z) (lk ofB x y z) (lk ofC x y z)) (lk ofC x y z)) (nat_lit 1) + (1 : Nat)) * nat_lit
      24 ≤ nat_lit 140737488351232) (.br (U.gt (Int.ofNat ((nat_lit 1 + lk pM (lk uB (lk ofF a b c) (lk ofB a b c) (lk ofC a b c)) (lk cmBy (lk uF (lk ofF a b c) (lk ofB a b c) (lk ofC a
      b c)) (lk uB (lk ofF a b c) (lk ofB a b c) (lk ofC a b c)) (lk ofC a b c) (lk uF (lk ofF x y z) (lk ofB x y z) (lk ofC x y z)) (lk uB (lk ofF x y z) (lk ofB x y z) (lk ofC x y z))
      (lk ofC x y z)) (lk cmCnt (lk uF (lk ofF a b c) (lk ofB a b c) (lk ofC a b c)) (lk uB (lk ofF a b c) (lk ofB a b c) (lk ofC a b c)) (lk ofC a b c) (lk uF (lk ofF x y z) (lk ofB x y
      z) (lk ofC x y z)) (lk uB (lk ofF x y z) (lk ofB x y z) (lk ofC x y z)) (lk ofC x y z)) (nat_lit 1)).add (nat_lit 1))) (1000 : Int)) (.ret (.tup [.lit (.slice none (nat_lit 0)
      (nat_lit 0)), .lit (.int .i64 7)])) (.ret (.tup [.row [.int .i64, .int .i64, .int .i64] ((nat_lit 1 + lk pM (lk uB (lk ofF a b c) (lk ofB a b c) (lk ofC a b c)) (lk cmBy (lk uF (lk
      ofF a b c) (lk ofB a b c) (lk ofC a b c)) (lk uB (lk ofF a b c) (lk ofB a b c) (lk ofC a b c)) (lk ofC a b c) (lk uF (lk ofF x y z) (lk ofB x y z) (lk ofC x y z)) (lk uB (lk ofF x y
      z) (lk ofB x y z) (lk ofC x y z)) (lk ofC x y z)) (lk cmCnt (lk uF (lk ofF a b c) (lk ofB a b c) (lk ofC a b c)) (lk uB (lk ofF a b c) (lk ofB a b c) (lk ofC a b c)) (lk ofC a b c)
      (lk uF (lk ofF x y z) (lk ofB x y z) (lk ofC x y z)) (lk uB (lk ofF x y z) (lk ofB x y z) (lk ofC x y z)) (lk ofC x y z)) (nat_lit 1)).add (nat_lit 1)) (U.cat (nat_lit 1 + lk pM (lk
      uB (lk ofF a b c) (lk ofB a b c) (lk ofC a b c)) (lk cmBy (lk uF (lk ofF a b c) (lk ofB a b c) (lk ofC a b c)) (lk uB (lk ofF a b c) (lk ofB a b c) (lk ofC a b c)) (lk ofC a b c)
      (lk uF (lk ofF x y z) (lk ofB x y z) (lk ofC x y z)) (lk uB (lk ofF x y z) (lk ofB x y z) (lk ofC x y z)) (lk ofC x y z)) (lk cmCnt (lk uF (lk ofF a b c) (lk ofB a b c) (lk ofC a b
      c)) (lk uB (lk ofF a b c) (lk ofB a b c) (lk ofC a b c)) (lk ofC a b c) (lk uF (lk ofF x y z) (lk ofB x y z) (lk ofC x y z)) (lk uB (lk ofF x y z) (lk ofB x y z) (lk ofC x y z)) (lk
      ofC x y z)) (nat_lit 1)) (lk ppF c (lk uB (lk ofF a b c) (lk ofB a b c) (lk ofC a b c)) (lk cmFst (lk uF (lk ofF a b c) (lk ofB a b c) (lk ofC a b c)) (lk uB (lk ofF a b c) (lk ofB
      a b c) (lk ofC a b c)) (lk ofC a b c) (lk uF (lk ofF x y z) (lk ofB x y z) (lk ofC x y z)) (lk uB (lk ofF x y z) (lk ofB x y z) (lk ofC x y z)) (lk ofC x y z)) (lk cmBy (lk uF (lk
      ofF a b c) (lk ofB a b c) (lk ofC a b c)) (lk uB (lk ofF a b c) (lk ofB a b c) (lk ofC a b c)) (lk ofC a b c) (lk uF (lk ofF x y z) (lk ofB x y z) (lk ofC x y z)) (lk uB (lk ofF x y
      z) (lk ofB x y z) (lk ofC x y z)) (lk ofC x y z)) (lk cmCnt (lk uF (lk ofF a b c) (lk ofB a b c) (lk ofC a b c)) (lk uB (lk ofF a b c) (lk ofB a b c) (lk ofC a b c)) (lk ofC a b c)
      (lk uF (lk ofF x y z) (lk ofB x y z) (lk ofC x y z)) (lk uB (lk ofF x y z) (lk ofB x y z) (lk ofC x y z)) (lk ofC x y z)) (nat_lit 1) fun x_1 => (lk nLow (lk kF (lk uF (lk ofF a b
      c) (lk ofB a b c) (lk ofC a b c)) (lk uB (lk ofF a b c) (lk ofB a b c) (lk ofC a b c)) (U.quo .i64 (U.sub .i64 (lk cmFst (lk uF (lk ofF a b c) (lk ofB a b c) (lk ofC a b c)) (lk uB
      (lk ofF a b c) (lk ofB a b c) (lk ofC a b c)) (lk ofC a b c) (lk uF (lk ofF x y z) (lk ofB x y z) (lk ofC x y z)) (lk uB (lk ofF x y z) (lk ofB x y z) (lk ofC x y z)) (lk ofC x y
      z)) (lk uF (lk ofF a b c) (lk ofB a b c) (lk ofC a b c))) (lk uB (lk ofF a b c) (lk ofB a b c) (lk ofC a b c))) c) (lk kB (lk uF (lk ofF a b c) (lk ofB a b c) (lk ofC a b c)) (lk uB
      (lk ofF a b c) (lk ofB a b c) (lk ofC a b c)) (U.quo .i64 (U.sub .i64 (lk cmFst (lk uF (lk ofF a b c) (lk ofB a b c) (lk ofC a b c)) (lk uB (lk ofF a b c) (lk ofB a b c) (lk ofC a b
      c)) (lk ofC a b c) (lk uF (lk ofF x y z) (lk ofB x y z) (lk ofC x y z)) (lk uB (lk ofF x y z) (lk ofB x y z) (lk ofC x y z)) (lk ofC x y z)) (lk uF (lk ofF a b c) (lk ofB a b c) (lk
      ofC a b c))) (lk uB (lk ofF a b c) (lk ofB a b c) (lk ofC a b c))) c) (U.quo .i64 (U.sub .i64 (lk cmFst (lk uF (lk ofF a b c) (lk ofB a b c) (lk ofC a b c)) (lk uB (lk ofF a b c)
      (lk ofB a b c) (lk ofC a b c)) (lk ofC a b c) (lk uF (lk ofF x y z) (lk ofB x y z) (lk ofC x y z)) (lk uB (lk ofF x y z) (lk ofB x y z) (lk ofC x y z)) (lk ofC x y z)) (lk uF (lk
      ofF a b c) (lk ofB a b c) (lk ofC a b c))) (lk uB (lk ofF a b c) (lk ofB a b c) (lk ofC a b c))), lk nHigh (lk kF (lk uF (lk ofF a b c) (lk ofB a b c) (lk ofC a b c)) (lk uB (lk ofF
      a b c) (lk ofB a b c) (lk ofC a b c)) (U.quo .i64 (U.sub .i64 (lk cmFst (lk uF (lk ofF a b c) (lk ofB a b c) (lk ofC a b c)) (lk uB (lk ofF a b c) (lk ofB a b c) (lk ofC a b c)) (lk
      ofC a b c) (lk uF (lk ofF x y z) (lk ofB x y z) (lk ofC x y z)) (lk uB (lk ofF x y z) (lk ofB x y z) (lk ofC x y z)) (lk ofC x y z)) (lk uF (lk ofF a b c) (lk ofB a b c) (lk ofC a b
      c))) (lk uB (lk ofF a b c) (lk ofB a b c) (lk ofC a b c))) c) (lk kB (lk uF (lk ofF a b c) (lk ofB a b c) (lk ofC a b c)) (lk uB (lk ofF a b c) (lk ofB a b c) (lk ofC a b c)) (U.quo
      .i64 (U.sub .i64 (lk cmFst (lk uF (lk ofF a b c) (lk ofB a b c) (lk ofC a b c)) (lk uB (lk ofF a b c) (lk ofB a b c) (lk ofC a b c)) (lk ofC a b c) (lk uF (lk ofF x y z) (lk ofB x y
      z) (lk ofC x y z)) (lk uB (lk ofF x y z) (lk ofB x y z) (lk ofC x y z)) (lk ofC x y z)) (lk uF (lk ofF a b c) (lk ofB a b c) (lk ofC a b c))) (lk uB (lk ofF a b c) (lk ofB a b c)
      (lk ofC a b c))) c) (U.quo .i64 (U.sub .i64 (lk cmFst (lk uF (lk ofF a b c) (lk ofB a b c) (lk ofC a b c)) (lk uB (lk ofF a b c) (lk ofB a b c) (lk ofC a b c)) (lk ofC a b c) (lk uF
      (lk ofF x y z) (lk ofB x y z) (lk ofC x y z)) (lk uB (lk ofF x y z) (lk ofB x y z) (lk ofC x y z)) (lk ofC x y z)) (lk uF (lk ofF a b c) (lk ofB a b c) (lk ofC a b c))) (lk uB (lk
      ofF a b c) (lk ofB a b c) (lk ofC a b c))), lk nStr (lk kF (lk uF (lk ofF a b c) (lk ofB a b c) (lk ofC a b c)) (lk uB (lk ofF a b c) (lk ofB a b c) (lk ofC a b c)) (U.quo .i64
      (U.sub .i64 (lk cmFst (lk uF (lk ofF a b c) (lk ofB a b c) (lk ofC a b c)) (lk uB (lk ofF a b c) (lk ofB a b c) (lk ofC a b c)) (lk ofC a b c) (lk uF (lk ofF x y z) (lk ofB x y z)
      (lk ofC x y z)) (lk uB (lk ofF x y z) (lk ofB x y z) (lk ofC x y z)) (lk ofC x y z)) (lk uF (lk ofF a b c) (lk ofB a b c) (lk ofC a b c))) (lk uB (lk ofF a b c) (lk ofB a b c) (lk
      ofC a b c))) c) (lk kB (lk uF (lk ofF a b c) (lk ofB a b c) (lk ofC a b c)) (lk uB (lk ofF a b c) (lk ofB a b c) (lk ofC a b c)) (U.quo .i64 (U.sub .i64 (lk cmFst (lk uF (lk ofF a b
      c) (lk ofB a b c) (lk ofC a b c)) (lk uB (lk ofF a b c) (lk ofB a b c) (lk ofC a b c)) (lk ofC a b c) (lk uF (lk ofF x y z) (lk ofB x y z) (lk ofC x y z)) (lk uB (lk ofF x y z) (lk
      ofB x y z) (lk ofC x y z)) (lk ofC x y z)) (lk uF (lk ofF a b c) (lk ofB a b c) (lk ofC a b c))) (lk uB (lk ofF a b c) (lk ofB a b c) (lk ofC a b c))) c) (U.quo .i64 (U.sub .i64 (lk
      cmFst (lk uF (lk ofF a b c) (lk ofB a b c) (lk ofC a b c)) (lk uB (lk ofF a b c) (lk ofB a b c) (lk ofC a b c)) (lk ofC a b c) (lk uF (lk ofF x y z) (lk ofB x y z) (lk ofC x y z))
      (lk uB (lk ofF x y z) (lk ofB x y z) (lk ofC x y z)) (lk ofC x y z)) (lk uF (lk ofF a b c) (lk ofB a b c) (lk ofC a b c))) (lk uB (lk ofF a b c) (lk ofB a b c) (lk ofC a b c))),
      PUnit.unit)) fun x_1 => (lk nLow (lk kF (U.add .i64 (lk sLast (lk cmFst (lk uF (lk ofF a b c) (lk ofB a b c) (lk ofC a b c)) (lk uB (lk ofF a b c) (lk ofB a b c) (lk ofC a b c)) (lk
      ofC a b c) (lk uF (lk ofF x y z) (lk ofB x y z) (lk ofC x y z)) (lk uB (lk ofF x y z) (lk ofB x y z) (lk ofC x y z)) (lk ofC x y z)) (lk cmBy (lk uF (lk ofF a b c) (lk ofB a b c)
      (lk ofC a b c)) (lk uB (lk ofF a b c) (lk ofB a b c) (lk ofC a b c)) (lk ofC a b c) (lk uF (lk ofF x y z) (lk ofB x y z) (lk ofC x y z)) (lk uB (lk ofF x y z) (lk ofB x y z) (lk ofC
      x y z)) (lk ofC x y z)) (lk cmCnt (lk uF (lk ofF a b c) (lk ofB a b c) (lk ofC a b c)) (lk uB (lk ofF a b c) (lk ofB a b c) (lk ofC a b c)) (lk ofC a b c) (lk uF (lk ofF x y z) (lk
      ofB x y z) (lk ofC x y z)) (lk uB (lk ofF x y z) (lk ofB x y z) (lk ofC x y z)) (lk ofC x y z))) (lk uB (lk ofF a b c) (lk ofB a b c) (lk ofC a b c))) (lk uB (lk ofF a b c) (lk ofB
      a b c) (lk ofC a b c)) (U.quo .i64 (U.sub .i64 (lk sLast (lk uF (lk ofF a b c) (lk ofB a b c) (lk ofC a b c)) (lk uB (lk ofF a b c) (lk ofB a b c) (lk ofC a b c)) (lk ofC a b c))
      (lk sLast (lk cmFst (lk uF (lk ofF a b c) (lk ofB a b c) (lk ofC a b c)) (lk uB (lk ofF a b c) (lk ofB a b c) (lk ofC a b c)) (lk ofC a b c) (lk uF (lk ofF x y z) (lk ofB x y z) (lk
      ofC x y z)) (lk uB (lk ofF x y z) (lk ofB x y z) (lk ofC x y z)) (lk ofC x y z)) (lk cmBy (lk uF (lk ofF a b c) (lk ofB a b c) (lk ofC a b c)) (lk uB (lk ofF a b c) (lk ofB a b c)
      (lk ofC a b c)) (lk ofC a b c) (lk uF (lk ofF x y z) (lk ofB x y z) (lk ofC x y z)) (lk uB (lk ofF x y z) (lk ofB x y z) (lk ofC x y z)) (lk ofC x y z)) (lk cmCnt (lk uF (lk ofF a b
      c) (lk ofB a b c) (lk ofC a b c)) (lk uB (lk ofF a b c) (lk ofB a b c) (lk ofC a b c)) (lk ofC a b c) (lk uF (lk ofF x y z) (lk ofB x y z) (lk ofC x y z)) (lk uB (lk ofF x y z) (lk
      ofB x y z) (lk ofC x y z)) (lk ofC x y z)))) (lk uB (lk ofF a b c) (lk ofB a b c) (lk ofC a b c))) c) (lk kB (U.add .i64 (lk sLast (lk cmFst (lk uF (lk ofF a b c) (lk ofB a b c) (lk
      ofC a b c)) (lk uB (lk ofF a b c) (lk ofB a b c) (lk ofC a b c)) (lk ofC a b c) (lk uF (lk ofF x y z) (lk ofB x y z) (lk ofC x y z)) (lk uB (lk ofF x y z) (lk ofB x y z) (lk ofC x y
      z)) (lk ofC x y z)) (lk cmBy (lk uF (lk ofF a b c) (lk ofB a b c) (lk ofC a b c)) (lk uB (lk ofF a b c) (lk ofB a b c) (lk ofC a b c)) (lk ofC a b c) (lk uF (lk ofF x y z) (lk ofB x
      y z) (lk ofC x y z)) (lk uB (lk ofF x y z) (lk ofB x y z) (lk ofC x y z)) (lk ofC x y z)) (lk cmCnt (lk uF (lk ofF a b c) (lk ofB a b c) (lk ofC a b c)) (lk uB (lk ofF a b c) (lk
      ofB a b c) (lk ofC a b c)) (lk ofC a b c) (lk uF (lk ofF x y z) (lk ofB x y z) (lk ofC x y z)) (lk uB (lk ofF x y z) (lk ofB x y z) (lk ofC x y z)) (lk ofC x y z))) (lk uB (lk ofF a
      b c) (lk ofB a b c) (lk ofC a b c))) (lk uB (lk ofF a b c) (lk ofB a b c) (lk ofC a b c)) (U.quo .i64 (U.sub .i64 (lk sLast (lk uF (lk ofF a b c) (lk ofB a b c) (lk ofC a b c)) (lk
      uB (lk ofF a b c) (lk ofB a b c) (lk ofC a b c)) (lk ofC a b c)) (lk sLast (lk cmFst (lk uF (lk ofF a b c) (lk ofB a b c) (lk ofC a b c)) (lk uB (lk ofF a b c) (lk ofB a b c) (lk
      ofC a b c)) (lk ofC a b c) (lk uF (lk ofF x y z) (lk ofB x y z) (lk ofC x y z)) (lk uB (lk ofF x y z) (lk ofB x y z) (lk ofC x y z)) (lk ofC x y z)) (lk cmBy (lk uF (lk ofF a b c)
      (lk ofB a b c) (lk ofC a b c)) (lk uB (lk ofF a b c) (lk ofB a b c) (lk ofC a b c)) (lk ofC a b c) (lk uF (lk ofF x y z) (lk ofB x y z) (lk ofC x y z)) (lk uB (lk ofF x y z) (lk ofB
      x y z) (lk ofC x y z)) (lk ofC x y z)) (lk cmCnt (lk uF (lk ofF a b c) (lk ofB a b c) (lk ofC a b c)) (lk uB (lk ofF a b c) (lk ofB a b c) (lk ofC a b c)) (lk ofC a b c) (lk uF (lk
      ofF x y z) (lk ofB x y z) (lk ofC x y z)) (lk uB (lk ofF x y z) (lk ofB x y z) (lk ofC x y z)) (lk ofC x y z)))) (lk uB (lk ofF a b c) (lk ofB a b c) (lk ofC a b c))) c) (U.quo .i64
      (U.sub .i64 (lk sLast (lk uF (lk ofF a b c) (lk ofB a b c) (lk ofC a b c)) (lk uB (lk ofF a b c) (lk ofB a b c) (lk ofC a b c)) (lk ofC a b c)) (lk sLast (lk cmFst (lk uF (lk ofF a
      b c) (lk ofB a b c) (lk ofC a b c)) (lk uB (lk ofF a b c) (lk ofB a b c) (lk ofC a b c)) (lk ofC a b c) (lk uF (lk ofF x y z) (lk ofB x y z) (lk ofC x y z)) (lk uB (lk ofF x y z)
      (lk ofB x y z) (lk ofC x y z)) (lk ofC x y z)) (lk cmBy (lk uF (lk ofF a b c) (lk ofB a b c) (lk ofC a b c)) (lk uB (lk ofF a b c) (lk ofB a b c) (lk ofC a b c)) (lk ofC a b c) (lk
      uF (lk ofF x y z) (lk ofB x y z) (lk ofC x y z)) (lk uB (lk ofF x y z) (lk ofB x y z) (lk ofC x y z)) (lk ofC x y z)) (lk cmCnt (lk uF (lk ofF a b c) (lk ofB a b c) (lk ofC a b c))
      (lk uB (lk ofF a b c) (lk ofB a b c) (lk ofC a b c)) (lk ofC a b c) (lk uF (lk ofF x y z) (lk ofB x y z) (lk ofC x y z)) (lk uB (lk ofF x y z) (lk ofB x y z) (lk ofC x y z)) (lk ofC
      x y z)))) (lk uB (lk ofF a b c) (lk ofB a b c) (lk ofC a b c))), lk nHigh (lk kF (U.add .i64 (lk sLast (lk cmFst (lk uF (lk ofF a b c) (lk ofB a b c) (lk ofC a b c)) (lk uB (lk ofF
      a b c) (lk ofB a b c) (lk ofC a b c)) (lk ofC a b c) (lk uF (lk ofF x y z) (lk ofB x y z) (lk ofC x y z)) (lk uB (lk ofF x y z) (lk ofB x y z) (lk ofC x y z)) (lk ofC x y z)) (lk
      cmBy (lk uF (lk ofF a b c) (lk ofB a b c) (lk ofC a b c)) (lk uB (lk ofF a b c) (lk ofB a b c) (lk ofC a b c)) (lk ofC a b c) (lk uF (lk ofF x y z) (lk ofB x y z) (lk ofC x y z))
      (lk uB (lk ofF x y z) (lk ofB x y z) (lk ofC x y z)) (lk ofC x y z)) (lk cmCnt (lk uF (lk ofF a b c) (lk ofB a b c) (lk ofC a b c)) (lk uB (lk ofF a b c) (lk ofB a b c) (lk ofC a b
      c)) (lk ofC a b c) (lk uF (lk ofF x y z) (lk ofB x y z) (lk ofC x y z)) (lk uB (lk ofF x y z) (lk ofB x y z) (lk ofC x y z)) (lk ofC x y z))) (lk uB (lk ofF a b c) (lk ofB a b c)
      (lk ofC a b c))) (lk uB (lk ofF a b c) (lk ofB a b c) (lk ofC a b c)) (U.quo .i64 (U.sub .i64 (lk sLast (lk uF (lk ofF a b c) (lk ofB a b c) (lk ofC a b c)) (lk uB (lk ofF a b c)
      (lk ofB a b c) (lk ofC a b c)) (lk ofC a b c)) (lk sLast (lk cmFst (lk uF (lk ofF a b c) (lk ofB a b c) (lk ofC a b c)) (lk uB (lk ofF a b c) (lk ofB a b c) (lk ofC a b c)) (lk ofC
      a b c) (lk uF (lk ofF x y z) (lk ofB x y z) (lk ofC x y z)) (lk uB (lk ofF x y z) (lk ofB x y z) (lk ofC x y z)) (lk ofC x y z)) (lk cmBy (lk uF (lk ofF a b c) (lk ofB a b c) (lk
      ofC a b c)) (lk uB (lk ofF a b c) (lk ofB a b c) (lk ofC a b c)) (lk ofC a b c) (lk uF (lk ofF x y z) (lk ofB x y z) (lk ofC x y z)) (lk uB (lk ofF x y z) (lk ofB x y z) (lk ofC x y
      z)) (lk ofC x y z)) (lk cmCnt (lk uF (lk ofF a b c) (lk ofB a b c) (lk ofC a b c)) (lk uB (lk ofF a b c) (lk ofB a b c) (lk ofC a b c)) (lk ofC a b c) (lk uF (lk ofF x y z) (lk ofB
      x y z) (lk ofC x y z)) (lk uB (lk ofF x y z) (lk ofB x y z) (lk ofC x y z)) (lk ofC x y z)))) (lk uB (lk ofF a b c) (lk ofB a b c) (lk ofC a b c))) c) (lk kB (U.add .i64 (lk sLast
      (lk cmFst (lk uF (lk ofF a b c) (lk ofB a b c) (lk ofC a b c)) (lk uB (lk ofF a b c) (lk ofB a b c) (lk ofC a b c)) (lk ofC a b c) (lk uF (lk ofF x y z) (lk ofB x y z) (lk ofC x y
      z)) (lk uB (lk ofF x y z) (lk ofB x y z) (lk ofC x y z)) (lk ofC x y z)) (lk cmBy (lk uF (lk ofF a b c) (lk ofB a b c) (lk ofC a b c)) (lk uB (lk ofF a b c) (lk ofB a b c) (lk ofC a
      b c)) (lk ofC a b c) (lk uF (lk ofF x y z) (lk ofB x y z) (lk ofC x y z)) (lk uB (lk ofF x y z) (lk ofB x y z) (lk ofC x y z)) (lk ofC x y z)) (lk cmCnt (lk uF (lk ofF a b c) (lk
      ofB a b c) (lk ofC a b c)) (lk uB (lk ofF a b c) (lk ofB a b c) (lk ofC a b c)) (lk ofC a b c) (lk uF (lk ofF x y z) (lk ofB x y z) (lk ofC x y z)) (lk uB (lk ofF x y z) (lk ofB x y
      z) (lk ofC x y z)) (lk ofC x y z))) (lk uB (lk ofF a b c) (lk ofB a b c) (lk ofC a b c))) (lk uB (lk ofF a b c) (lk ofB a b c) (lk ofC a b c)) (U.quo .i64 (U.sub .i64 (lk sLast (lk
      uF (lk ofF a b c) (lk ofB a b c) (lk ofC a b c)) (lk uB (lk ofF a b c) (lk ofB a b c) (lk ofC a b c)) (lk ofC a b c)) (lk sLast (lk cmFst (lk uF (lk ofF a b c) (lk ofB a b c) (lk
      ofC a b c)) (lk uB (lk ofF a b c) (lk ofB a b c) (lk ofC a b c)) (lk ofC a b c) (lk uF (lk ofF x y z) (lk ofB x y z) (lk ofC x y z)) (lk uB (lk ofF x y z) (lk ofB x y z) (lk ofC x y
      z)) (lk ofC x y z)) (lk cmBy (lk uF (lk ofF a b c) (lk ofB a b c) (lk ofC a b c)) (lk uB (lk ofF a b c) (lk ofB a b c) (lk ofC a b c)) (lk ofC a b c) (lk uF (lk ofF x y z) (lk ofB x
      y z) (lk ofC x y z)) (lk uB (lk ofF x y z) (lk ofB x y z) (lk ofC x y z)) (lk ofC x y z)) (lk cmCnt (lk uF (lk ofF a b c) (lk ofB a b c) (lk ofC a b c)) (lk uB (lk ofF a b c) (lk
      ofB a b c) (lk ofC a b c)) (lk ofC a b c) (lk uF (lk ofF x y z) (lk ofB x y z) (lk ofC x y z)) (lk uB (lk ofF x y z) (lk ofB x y z) (lk ofC x y z)) (lk ofC x y z)))) (lk uB (lk ofF
      a b c) (lk ofB a b c) (lk ofC a b c))) c) (U.quo .i64 (U.sub .i64 (lk sLast (lk uF (lk ofF a b c) (lk ofB a b c) (lk ofC a b c)) (lk uB (lk ofF a b c) (lk ofB a b c) (lk ofC a b c))
      (lk ofC a b c)) (lk sLast (lk cmFst (lk uF (lk ofF a b c) (lk ofB a b c) (lk ofC a b c)) (lk uB (lk ofF a b c) (lk ofB a b c) (lk ofC a b c)) (lk ofC a b c) (lk uF (lk ofF x y z)
      (lk ofB x y z) (lk ofC x y z)) (lk uB (lk ofF x y z) (lk ofB x y z) (lk ofC x y z)) (lk ofC x y z)) (lk cmBy (lk uF (lk ofF a b c) (lk ofB a b c) (lk ofC a b c)) (lk uB (lk ofF a b
      c) (lk ofB a b c) (lk ofC a b c)) (lk ofC a b c) (lk uF (lk ofF x y z) (lk ofB x y z) (lk ofC x y z)) (lk uB (lk ofF x y z) (lk ofB x y z) (lk ofC x y z)) (lk ofC x y z)) (lk cmCnt
      (lk uF (lk ofF a b c) (lk ofB a b c) (lk ofC a b c)) (lk uB (lk ofF a b c) (lk ofB a b c) (lk ofC a b c)) (lk ofC a b c) (lk uF (lk ofF x y z) (lk ofB x y z) (lk ofC x y z)) (lk uB
      (lk ofF x y z) (lk ofB x y z) (lk ofC x y z)) (lk ofC x y z)))) (lk uB (lk ofF a b c) (lk ofB a b c) (lk ofC a b c))), lk nStr (lk kF (U.add .i64 (lk sLast (lk cmFst (lk uF (lk ofF
      a b c) (lk ofB a b c) (lk ofC a b c)) (lk uB (lk ofF a b c) (lk ofB a b c) (lk ofC a b c)) (lk ofC a b c) (lk uF (lk ofF x y z) (lk ofB x y z) (lk ofC x y z)) (lk uB (lk ofF x y z)
      (lk ofB x y z) (lk ofC x y z)) (lk ofC x y z)) (lk cmBy (lk uF (lk ofF a b c) (lk ofB a b c) (lk ofC a b c)) (lk uB (lk ofF a b c) (lk ofB a b c) (lk ofC a b c)) (lk ofC a b c) (lk
      uF (lk ofF x y z) (lk ofB x y z) (lk ofC x y z)) (lk uB (lk ofF x y z) (lk ofB x y z) (lk ofC x y z)) (lk ofC x y z)) (lk cmCnt (lk uF (lk ofF a b c) (lk ofB a b c) (lk ofC a b c))
      (lk uB (lk ofF a b c) (lk ofB a b c) (lk ofC a b c)) (lk ofC a b c) (lk uF (lk ofF x y z) (lk ofB x y z) (lk ofC x y z)) (lk uB (lk ofF x y z) (lk ofB x y z) (lk ofC x y z)) (lk ofC
      x y z))) (lk uB (lk ofF a b c) (lk ofB a b c) (lk ofC a b c))) (lk uB (lk ofF a b c) (lk ofB a b c) (lk ofC a b c)) (U.quo .i64 (U.sub .i64 (lk sLast (lk uF (lk ofF a b c) (lk ofB a
      b c) (lk ofC a b c)) (lk uB (lk ofF a b c) (lk ofB a b c) (lk ofC a b c)) (lk ofC a b c)) (lk sLast (lk cmFst (lk uF (lk ofF a b c) (lk ofB a b c) (lk ofC a b c)) (lk uB (lk ofF a b
      c) (lk ofB a b c) (lk ofC a b c)) (lk ofC a b c) (lk uF (lk ofF x y z) (lk ofB x y z) (lk ofC x y z)) (lk uB (lk ofF x y z) (lk ofB x y z) (lk ofC x y z)) (lk ofC x y z)) (lk cmBy
      (lk uF (lk ofF a b c) (lk ofB a b c) (lk ofC a b c)) (lk uB (lk ofF a b c) (lk ofB a b c) (lk ofC a b c)) (lk ofC a b c) (lk uF (lk ofF x y z) (lk ofB x y z) (lk ofC x y z)) (lk uB
      (lk ofF x y z) (lk ofB x y z) (lk ofC x y z)) (lk ofC x y z)) (lk cmCnt (lk uF (lk ofF a b c) (lk ofB a b c) (lk ofC a b c)) (lk uB (lk ofF a b c) (lk ofB a b c) (lk ofC a b c)) (lk
      ofC a b c) (lk uF (lk ofF x y z) (lk ofB x y z) (lk ofC x y z)) (lk uB (lk ofF x y z) (lk ofB x y z) (lk ofC x y z)) (lk ofC x y z)))) (lk uB (lk ofF a b c) (lk ofB a b c) (lk ofC a
      b c))) c) (lk kB (U.add .i64 (lk sLast (lk cmFst (lk uF (lk ofF a b c) (lk ofB a b c) (lk ofC a b c)) (lk uB (lk ofF a b c) (lk ofB a b c) (lk ofC a b c)) (lk ofC a b c) (lk uF (lk
      ofF x y z) (lk ofB x y z) (lk ofC x y z)) (lk uB (lk ofF x y z) (lk ofB x y z) (lk ofC x y z)) (lk ofC x y z)) (lk cmBy (lk uF (lk ofF a b c) (lk ofB a b c) (lk ofC a b c)) (lk uB
      (lk ofF a b c) (lk ofB a b c) (lk ofC a b c)) (lk ofC a b c) (lk uF (lk ofF x y z) (lk ofB x y z) (lk ofC x y z)) (lk uB (lk ofF x y z) (lk ofB x y z) (lk ofC x y z)) (lk ofC x y
      z)) (lk cmCnt (lk uF (lk ofF a b c) (lk ofB a b c) (lk ofC a b c)) (lk uB (lk ofF a b c) (lk ofB a b c) (lk ofC a b c)) (lk ofC a b c) (lk uF (lk ofF x y z) (lk ofB x y z) (lk ofC x
      y z)) (lk uB (lk ofF x y z) (lk ofB x y z) (lk ofC x y z)) (lk ofC x y z))) (lk uB (lk ofF a b c) (lk ofB a b c) (lk ofC a b c))) (lk uB (lk ofF a b c) (lk ofB a b c) (lk ofC a b
      c)) (U.quo .i64 (U.sub .i64 (lk sLast (lk uF (lk ofF a b c) (lk ofB a b c) (lk ofC a b c)) (lk uB (lk ofF a b c) (lk ofB a b c) (lk ofC a b c)) (lk ofC a b c)) (lk sLast (lk cmFst
      (lk uF (lk ofF a b c) (lk ofB a b c) (lk ofC a b c)) (lk uB (lk ofF a b c) (lk ofB a b c) (lk ofC a b c)) (lk ofC a b c) (lk uF (lk ofF x y z) (lk ofB x y z) (lk ofC x y z)) (lk uB
      (lk ofF x y z) (lk ofB x y z) (lk ofC x y z)) (lk ofC x y z)) (lk cmBy (lk uF (lk ofF a b c) (lk ofB a b c) (lk ofC a b c)) (lk uB (lk ofF a b c) (lk ofB a b c) (lk ofC a b c)) (lk
      ofC a b c) (lk uF (lk ofF x y z) (lk ofB x y z) (lk ofC x y z)) (lk uB (lk ofF x y z) (lk ofB x y z) (lk ofC x y z)) (lk ofC x y z)) (lk cmCnt (lk uF (lk ofF a b c) (lk ofB a b c)
      (lk ofC a b c)) (lk uB (lk ofF a b c) (lk ofB a b c) (lk ofC a b c)) (lk ofC a b c) (lk uF (lk ofF x y z) (lk ofB x y z) (lk ofC x y z)) (lk uB (lk ofF x y z) (lk ofB x y z) (lk ofC
      x y z)) (lk ofC x y z)))) (lk uB (lk ofF a b c) (lk ofB a b c) (lk ofC a b c))) c) (U.quo .i64 (U.sub .i64 (lk sLast (lk uF (lk ofF a b c) (lk ofB a b c) (lk ofC a b c)) (lk uB (lk
      ofF a b c) (lk ofB a b c) (lk ofC a b c)) (lk ofC a b c)) (lk sLast (lk cmFst (lk uF (lk ofF a b c) (lk ofB a b c) (lk ofC a b c)) (lk uB (lk ofF a b c) (lk ofB a b c) (lk ofC a b
      c)) (lk ofC a b c) (lk uF (lk ofF x y z) (lk ofB x y z) (lk ofC x y z)) (lk uB (lk ofF x y z) (lk ofB x y z) (lk ofC x y z)) (lk ofC x y z)) (lk cmBy (lk uF (lk ofF a b c) (lk ofB a
      b c) (lk ofC a b c)) (lk uB (lk ofF a b c) (lk ofB a b c) (lk ofC a b c)) (lk ofC a b c) (lk uF (lk ofF x y z) (lk ofB x y z) (lk ofC x y z)) (lk uB (lk ofF x y z) (lk ofB x y z)
      (lk ofC x y z)) (lk ofC x y z)) (lk cmCnt (lk uF (lk ofF a b c) (lk ofB a b c) (lk ofC a b c)) (lk uB (lk ofF a b c) (lk ofB a b c) (lk ofC a b c)) (lk ofC a b c) (lk uF (lk ofF x y
      z) (lk ofB x y z) (lk ofC x y z)) (lk uB (lk ofF x y z) (lk ofB x y z) (lk ofC x y z)) (lk ofC x y z)))) (lk uB (lk ofF a b c) (lk ofB a b c) (lk ofC a b c))), PUnit.unit)), .lit
      (.int .i64 0)])))))) (.br (U.gt (Int.ofNat (nat_lit 1 + lk pM (lk uB (lk ofF a b c) (lk ofB a b c) (lk ofC a b c)) (lk cmBy (lk uF (lk ofF a b c) (lk ofB a b c) (lk ofC a b c)) (lk
      uB (lk ofF a b c) (lk ofB a b c) (lk ofC a b c)) (lk ofC a b c) (lk uF (lk ofF x y z) (lk ofB x y z) (lk ofC x y z)) (lk uB (lk ofF x y z) (lk ofB x y z) (lk ofC x y z)) (lk ofC x y
      z)) (lk cmCnt (lk uF (lk ofF a b c) (lk ofB a b c) (lk ofC a b c)) (lk uB (lk ofF a b c) (lk ofB a b c) (lk ofC a b c)) (lk ofC a b c) (lk uF (lk ofF x y z) (lk ofB x y z) (lk ofC x
      y z)) (lk uB (lk ofF x y z) (lk ofB x y z) (lk ofC x y z)) (lk ofC x y z)) (nat_lit 1))) (1000 : Int)) (.ret (.tup [.lit (.slice none (nat_lit 0) (nat_lit 0)), .lit (.int .i64 7)]))
      (.ret (.tup [.row [.int .i64, .int .i64, .int .i64] (nat_lit 1 + lk pM (lk uB (lk ofF a b c) (lk ofB a b c) (lk ofC a b c)) (lk cmBy (lk uF (lk ofF a b c) (lk ofB a b c) (lk ofC a b
      c)) (lk uB (lk ofF a b c) (lk ofB a b c) (lk ofC a b c)) (lk ofC a b c) (lk uF (lk ofF x y z) (lk ofB x y z) (lk ofC x y z)) (lk uB (lk ofF x y z) (lk ofB x y z) (lk ofC x y z)) (lk
      ofC x y z)) (lk cmCnt (lk uF (lk ofF a b c) (lk ofB a b c) (lk ofC a b c)) (lk uB (lk ofF a b c) (lk ofB a b c) (lk ofC a b c)) (lk ofC a b c) (lk uF (lk ofF x y z) (lk ofB x y z)
      (lk ofC x y z)) (lk uB (lk ofF x y z) (lk ofB x y z) (lk ofC x y z)) (lk ofC x y z)) (nat_lit 1)) (lk ppF c (lk uB (lk ofF a b c) (lk ofB a b c) (lk ofC a b c)) (lk cmFst (lk uF (lk
      ofF a b c) (lk ofB a b c) (lk ofC a b c)) (lk uB (lk ofF a b c) (lk ofB a b c) (lk ofC a b c)) (lk ofC a b c) (lk uF (lk ofF x y z) (lk ofB x y z) (lk ofC x y z)) (lk uB (lk ofF x y
      z) (lk ofB x y z) (lk ofC x y z)) (lk ofC x y z)) (lk cmBy (lk uF (lk ofF a b c) (lk ofB a b c) (lk ofC a b c)) (lk uB (lk ofF a b c) (lk ofB a b c) (lk ofC a b c)) (lk ofC a b c)
      (lk uF (lk ofF x y z) (lk ofB x y z) (lk ofC x y z)) (lk uB (lk ofF x y z) (lk ofB x y z) (lk ofC x y z)) (lk ofC x y z)) (lk cmCnt (lk uF (lk ofF a b c) (lk ofB a b c) (lk ofC a b
      c)) (lk uB (lk ofF a b c) (lk ofB a b c) (lk ofC a b c)) (lk ofC a b c) (lk uF (lk ofF x y z) (lk ofB x y z) (lk ofC x y z)) (lk uB (lk ofF x y z) (lk ofB x y z) (lk ofC x y z)) (lk
      ofC x y z)) (nat_lit 1) fun x_1 => (lk nLow (lk kF (lk uF (lk ofF a b c) (lk ofB a b c) (lk ofC a b c)) (lk uB (lk ofF a b c) (lk ofB a b c) (lk ofC a b c)) (U.quo .i64 (U.sub .i64
      (lk cmFst (lk uF (lk ofF a b c) (lk ofB a b c) (lk ofC a b c)) (lk uB (lk ofF a b c) (lk ofB a b c) (lk ofC a b c)) (lk ofC a b c) (lk uF (lk ofF x y z) (lk ofB x y z) (lk ofC x y
      z)) (lk uB (lk ofF x y z) (lk ofB x y z) (lk ofC x y z)) (lk ofC x y z)) (lk uF (lk ofF a b c) (lk ofB a b c) (lk ofC a b c))) (lk uB (lk ofF a b c) (lk ofB a b c) (lk ofC a b c)))
      c) (lk kB (lk uF (lk ofF a b c) (lk ofB a b c) (lk ofC a b c)) (lk uB (lk ofF a b c) (lk ofB a b c) (lk ofC a b c)) (U.quo .i64 (U.sub .i64 (lk cmFst (lk uF (lk ofF a b c) (lk ofB a
      b c) (lk ofC a b c)) (lk uB (lk ofF a b c) (lk ofB a b c) (lk ofC a b c)) (lk ofC a b c) (lk uF (lk ofF x y z) (lk ofB x y z) (lk ofC x y z)) (lk uB (lk ofF x y z) (lk ofB x y z)
      (lk ofC x y z)) (lk ofC x y z)) (lk uF (lk ofF a b c) (lk ofB a b c) (lk ofC a b c))) (lk uB (lk ofF a b c) (lk ofB a b c) (lk ofC a b c))) c) (U.quo .i64 (U.sub .i64 (lk cmFst (lk
      uF (lk ofF a b c) (lk ofB a b c) (lk ofC a b c)) (lk uB (lk ofF a b c) (lk ofB a b c) (lk ofC a b c)) (lk ofC a b c) (lk uF (lk ofF x y z) (lk ofB x y z) (lk ofC x y z)) (lk uB (lk
      ofF x y z) (lk ofB x y z) (lk ofC x y z)) (lk ofC x y z)) (lk uF (lk ofF a b c) (lk ofB a b c) (lk ofC a b c))) (lk uB (lk ofF a b c) (lk ofB a b c) (lk ofC a b c))), lk nHigh (lk
      kF (lk uF (lk ofF a b c) (lk ofB a b c) (lk ofC a b c)) (lk uB (lk ofF a b c) (lk ofB a b c) (lk ofC a b c)) (U.quo .i64 (U.sub .i64 (lk cmFst (lk uF (lk ofF a b c) (lk ofB a b c)
      (lk ofC a b c)) (lk uB (lk ofF a b c) (lk ofB a b c) (lk ofC a b c)) (lk ofC a b c) (lk uF (lk ofF x y z) (lk ofB x y z) (lk ofC x y z)) (lk uB (lk ofF x y z) (lk ofB x y z) (lk ofC
      x y z)) (lk ofC x y z)) (lk uF (lk ofF a b c) (lk ofB a b c) (lk ofC a b c))) (lk uB (lk ofF a b c) (lk ofB a b c) (lk ofC a b c))) c) (lk kB (lk uF (lk ofF a b c) (lk ofB a b c)
      (lk ofC a b c)) (lk uB (lk ofF a b c) (lk ofB a b c) (lk ofC a b c)) (U.quo .i64 (U.sub .i64 (lk cmFst (lk uF (lk ofF a b c) (lk ofB a b c) (lk ofC a b c)) (lk uB (lk ofF a b c) (lk
      ofB a b c) (lk ofC a b c)) (lk ofC a b c) (lk uF (lk ofF x y z) (lk ofB x y z) (lk ofC x y z)) (lk uB (lk ofF x y z) (lk ofB x y z) (lk ofC x y z)) (lk ofC x y z)) (lk uF (lk ofF a
      b c) (lk ofB a b c) (lk ofC a b c))) (lk uB (lk ofF a b c) (lk ofB a b c) (lk ofC a b c))) c) (U.quo .i64 (U.sub .i64 (lk cmFst (lk uF (lk ofF a b c) (lk ofB a b c) (lk ofC a b c))
      (lk uB (lk ofF a b c) (lk ofB a b c) (lk ofC a b c)) (lk ofC a b c) (lk uF (lk ofF x y z) (lk ofB x y z) (lk ofC x y z)) (lk uB (lk ofF x y z) (lk ofB x y z) (lk ofC x y z)) (lk ofC
      x y z)) (lk uF (lk ofF a b c) (lk ofB a b c) (lk ofC a b c))) (lk uB (lk ofF a b c) (lk ofB a b c) (lk ofC a b c))), lk nStr (lk kF (lk uF (lk ofF a b c) (lk ofB a b c) (lk ofC a b
      c)) (lk uB (lk ofF a b c) (lk ofB a b c) (lk ofC a b c)) (U.quo .i64 (U.sub .i64 (lk cmFst (lk uF (lk ofF a b c) (lk ofB a b c) (lk ofC a b c)) (lk uB (lk ofF a b c) (lk ofB a b c)
      (lk ofC a b c)) (lk ofC a b c) (lk uF (lk ofF x y z) (lk ofB x y z) (lk ofC x y z)) (lk uB (lk ofF x y z) (lk ofB x y z) (lk ofC x y z)) (lk ofC x y z)) (lk uF (lk ofF a b c) (lk
      ofB a b c) (lk ofC a b c))) (lk uB (lk ofF a b c) (lk ofB a b c) (lk ofC a b c))) c) (lk kB (lk uF (lk ofF a b c) (lk ofB a b c) (lk ofC a b c)) (lk uB (lk ofF a b c) (lk ofB a b c)
      (lk ofC a b c)) (U.quo .i64 (U.sub .i64 (lk cmFst (lk uF (lk ofF a b c) (lk ofB a b c) (lk ofC a b c)) (lk uB (lk ofF a b c) (lk ofB a b c) (lk ofC a b c)) (lk ofC a b c) (lk uF (lk
      ofF x y z) (lk ofB x y z) (lk ofC x y z)) (lk uB (lk ofF x y z) (lk ofB x y z) (lk ofC x y z)) (lk ofC x y z)) (lk uF (lk ofF a b c) (lk ofB a b c) (lk ofC a b c))) (lk uB (lk ofF a
      b c) (lk ofB a b c) (lk ofC a b c))) c) (U.quo .i64 (U.sub .i64 (lk cmFst (lk uF (lk ofF a b c) (lk ofB a b c) (lk ofC a b c)) (lk uB (lk ofF a b c) (lk ofB a b c) (lk ofC a b c))
      (lk ofC a b c) (lk uF (lk ofF x y z) (lk ofB x y z) (lk ofC x y z)) (lk uB (lk ofF x y z) (lk ofB x y z) (lk ofC x y z)) (lk ofC x y z)) (lk uF (lk ofF a b c) (lk ofB a b c) (lk ofC
      a b c))) (lk uB (lk ofF a b c) (lk ofB a b c) (lk ofC a b c))), PUnit.unit)), .lit (.int .i64 0)])))) (.br (U.gt (Int.ofNat (nat_lit 1 + lk pM (lk uB (lk ofF a b c) (lk ofB a b c)
      (lk ofC a b c)) (lk cmBy (lk uF (lk ofF a b c) (lk ofB a b c) (lk ofC a b c)) (lk uB (lk ofF a b c) (lk ofB a b c) (lk ofC a b c)) (lk ofC a b c) (lk uF (lk ofF x y z) (lk ofB x y
      z) (lk ofC x y z)) (lk uB (lk ofF x y z) (lk ofB x y z) (lk ofC x y z)) (lk ofC x y z)) (lk cmCnt (lk uF (lk ofF a b c) (lk ofB a b c) (lk ofC a b c)) (lk uB (lk ofF a b c) (lk ofB
      a b c) (lk ofC a b c)) (lk ofC a b c) (lk uF (lk ofF x y z) (lk ofB x y z) (lk ofC x y z)) (lk uB (lk ofF x y z) (lk ofB x y z) (lk ofC x y z)) (lk ofC x y z)) (nat_lit 1))) (1000 :
      Int)) (.ret (.tup [.lit (.slice none (nat_lit 0) (nat_lit 0)), .lit (.int .i64 7)])) (.ret (.tup [.row [.int .i64, .int .i64, .int .i64] (nat_lit 1 + lk pM (lk uB (lk ofF a b c) (lk
      ofB a b c) (lk ofC a b c)) (lk cmBy (lk uF (lk ofF a b c) (lk ofB a b c) (lk ofC a b c)) (lk uB (lk ofF a b c) (lk ofB a b c) (lk ofC a b c)) (lk ofC a b c) (lk uF (lk ofF x y z)
      (lk ofB x y z) (lk ofC x y z)) (lk uB (lk ofF x y z) (lk ofB x y z) (lk ofC x y z)) (lk ofC x y z)) (lk cmCnt (lk uF (lk ofF a b c) (lk ofB a b c) (lk ofC a b c)) (lk uB (lk ofF a b
      c) (lk ofB a b c) (lk ofC a b c)) (lk ofC a b c) (lk uF (lk ofF x y z) (lk ofB x y z) (lk ofC x y z)) (lk uB (lk ofF x y z) (lk ofB x y z) (lk ofC x y z)) (lk ofC x y z)) (nat_lit
      1)) (lk ppF c (lk uB (lk ofF a b c) (lk ofB a b c) (lk ofC a b c)) (lk cmFst (lk uF (lk ofF a b c) (lk ofB a b c) (lk ofC a b c)) (lk uB (lk ofF a b c) (lk ofB a b c) (lk ofC a b
      c)) (lk ofC a b c) (lk uF (lk ofF x y z) (lk ofB x y z) (lk ofC x y z)) (lk uB (lk ofF x y z) (lk ofB x y z) (lk ofC x y z)) (lk ofC x y z)) (lk cmBy (lk uF (lk ofF a b c) (lk ofB a
      b c) (lk ofC a b c)) (lk uB (lk ofF a b c) (lk ofB a b c) (lk ofC a b c)) (lk ofC a b c) (lk uF (lk ofF x y z) (lk ofB x y z) (lk ofC x y z)) (lk uB (lk ofF x y z) (lk ofB x y z)
      (lk ofC x y z)) (lk ofC x y z)) (lk cmCnt (lk uF (lk ofF a b c) (lk ofB a b c) (lk ofC a b c)) (lk uB (lk ofF a b c) (lk ofB a b c) (lk ofC a b c)) (lk ofC a b c) (lk uF (lk ofF x y
      z) (lk ofB x y z) (lk ofC x y z)) (lk uB (lk ofF x y z) (lk ofB x y z) (lk ofC x y z)) (lk ofC x y z)) (nat_lit 1) fun x_1 => (lk nLow (lk kF (lk uF (lk ofF a b c) (lk ofB a b c)
      (lk ofC a b c)) (lk uB (lk ofF a b c) (lk ofB a b c) (lk ofC a b c)) (U.quo .i64 (U.sub .i64 (lk cmFst (lk uF (lk ofF a b c) (lk ofB a b c) (lk ofC a b c)) (lk uB (lk ofF a b c) (lk
      ofB a b c) (lk ofC a b c)) (lk ofC a b c) (lk uF (lk ofF x y z) (lk ofB x y z) (lk ofC x y z)) (lk uB (lk ofF x y z) (lk ofB x y z) (lk ofC x y z)) (lk ofC x y z)) (lk uF (lk ofF a
      b c) (lk ofB a b c) (lk ofC a b c))) (lk uB (lk ofF a b c) (lk ofB a b c) (lk ofC a b c))) c) (lk kB (lk uF (lk ofF a b c) (lk ofB a b c) (lk ofC a b c)) (lk uB (lk ofF a b c) (lk
      ofB a b c) (lk ofC a b c)) (U.quo .i64 (U.sub .i64 (lk cmFst (lk uF (lk ofF a b c) (lk ofB a b c) (lk ofC a b c)) (lk uB (lk ofF a b c) (lk ofB a b c) (lk ofC a b c)) (lk ofC a b c)
      (lk uF (lk ofF x y z) (lk ofB x y z) (lk ofC x y z)) (lk uB (lk ofF x y z) (lk ofB x y z) (lk ofC x y z)) (lk ofC x y z)) (lk uF (lk ofF a b c) (lk ofB a b c) (lk ofC a b c))) (lk
      uB (lk ofF a b c) (lk ofB a b c) (lk ofC a b c))) c) (U.quo .i64 (U.sub .i64 (lk cmFst (lk uF (lk ofF a b c) (lk ofB a b c) (lk ofC a b c)) (lk uB (lk ofF a b c) (lk ofB a b c) (lk
      ofC a b c)) (lk ofC a b c) (lk uF (lk ofF x y z) (lk ofB x y z) (lk ofC x y z)) (lk uB (lk ofF x y z) (lk ofB x y z) (lk ofC x y z)) (lk ofC x y z)) (lk uF (lk ofF a b c) (lk ofB a
      b c) (lk ofC a b c))) (lk uB (lk ofF a b c) (lk ofB a b c) (lk ofC a b c))), lk nHigh (lk kF (lk uF (lk ofF a b c) (lk ofB a b c) (lk ofC a b c)) (lk uB (lk ofF a b c) (lk ofB a b
      c) (lk ofC a b c)) (U.quo .i64 (U.sub .i64 (lk cmFst (lk uF (lk ofF a b c) (lk ofB a b c) (lk ofC a b c)) (lk uB (lk ofF a b c) (lk ofB a b c) (lk ofC a b c)) (lk ofC a b c) (lk uF
      (lk ofF x y z) (lk ofB x y z) (lk ofC x y z)) (lk uB (lk ofF x y z) (lk ofB x y z) (lk ofC x y z)) (lk ofC x y z)) (lk uF (lk ofF a b c) (lk ofB a b c) (lk ofC a b c))) (lk uB (lk
      ofF a b c) (lk ofB a b c) (lk ofC a b c))) c) (lk kB (lk uF (lk ofF a b c) (lk ofB a b c) (lk ofC a b c)) (lk uB (lk ofF a b c) (lk ofB a b c) (lk ofC a b c)) (U.quo .i64 (U.sub
      .i64 (lk cmFst (lk uF (lk ofF a b c) (lk ofB a b c) (lk ofC a b c)) (lk uB (lk ofF a b c) (lk ofB a b c) (lk ofC a b c)) (lk ofC a b c) (lk uF (lk ofF x y z) (lk ofB x y z) (lk ofC
      x y z)) (lk uB (lk ofF x y z) (lk ofB x y z) (lk ofC x y z)) (lk ofC x y z)) (lk uF (lk ofF a b c) (lk ofB a b c) (lk ofC a b c))) (lk uB (lk ofF a b c) (lk ofB a b c) (lk ofC a b
      c))) c) (U.quo .i64 (U.sub .i64 (lk cmFst (lk uF (lk ofF a b c) (lk ofB a b c) (lk ofC a b c)) (lk uB (lk ofF a b c) (lk ofB a b c) (lk ofC a b c)) (lk ofC a b c) (lk uF (lk ofF x y
      z) (lk ofB x y z) (lk ofC x y z)) (lk uB (lk ofF x y z) (lk ofB x y z) (lk ofC x y z)) (lk ofC x y z)) (lk uF (lk ofF a b c) (lk ofB a b c) (lk ofC a b c))) (lk uB (lk ofF a b c)
      (lk ofB a b c) (lk ofC a b c))), lk nStr (lk kF (lk uF (lk ofF a b c) (lk ofB a b c) (lk ofC a b c)) (lk uB (lk ofF a b c) (lk ofB a b c) (lk ofC a b c)) (U.quo .i64 (U.sub .i64 (lk
      cmFst (lk uF (lk ofF a b c) (lk ofB a b c) (lk ofC a b c)) (lk uB (lk ofF a b c) (lk ofB a b c) (lk ofC a b c)) (lk ofC a b c) (lk uF (lk ofF x y z) (lk ofB x y z) (lk ofC x y z))
      (lk uB (lk ofF x y z) (lk ofB x y z) (lk ofC x y z)) (lk ofC x y z)) (lk uF (lk ofF a b c) (lk ofB a b c) (lk ofC a b c))) (lk uB (lk ofF a b c) (lk ofB a b c) (lk ofC a b c))) c)
      (lk kB (lk uF (lk ofF a b c) (lk ofB a b c) (lk ofC a b c)) (lk uB (lk ofF a b c) (lk ofB a b c) (lk ofC a b c)) (U.quo .i64 (U.sub .i64 (lk cmFst (lk uF (lk ofF a b c) (lk ofB a b
      c) (lk ofC a b c)) (lk uB (lk ofF a b c) (lk ofB a b c) (lk ofC a b c)) (lk ofC a b c) (lk uF (lk ofF x y z) (lk ofB x y z) (lk ofC x y z)) (lk uB (lk ofF x y z) (lk ofB x y z) (lk
      ofC x y z)) (lk ofC x y z)) (lk uF (lk ofF a b c) (lk ofB a b c) (lk ofC a b c))) (lk uB (lk ofF a b c) (lk ofB a b c) (lk ofC a b c))) c) (U.quo .i64 (U.sub .i64 (lk cmFst (lk uF
      (lk ofF a b c) (lk ofB a b c) (lk ofC a b c)) (lk uB (lk ofF a b c) (lk ofB a b c) (lk ofC a b c)) (lk ofC a b c) (lk uF (lk ofF x y z) (lk ofB x y z) (lk ofC x y z)) (lk uB (lk ofF
      x y z) (lk ofB x y z) (lk ofC x y z)) (lk ofC x y z)) (lk uF (lk ofF a b c) (lk ofB a b c) (lk ofC a b c))) (lk uB (lk ofF a b c) (lk ofB a b c) (lk ofC a b c))), PUnit.unit)), .lit
      (.int .i64 0)])))))))))))) (.ask (PreP (nat_lit 0) (lk uB (lk ofF a b c) (lk ofB a b c) (lk ofC a b c)) (lk cmFst (lk uF (lk ofF a b c) (lk ofB a b c) (lk ofC a b c)) (lk uB (lk ofF
      a b c) (lk ofB a b c) (lk ofC a b c)) (lk ofC a b c) (lk uF (lk ofF x y z) (lk ofB x y z) (lk ofC x y z)) (lk uB (lk ofF x y z) (lk ofB x y z) (lk ofC x y z)) (lk ofC x y z)) (lk
      cmBy (lk uF (lk ofF a b c) (lk ofB a b c) (lk ofC a b c)) (lk uB (lk ofF a b c) (lk ofB a b c) (lk ofC a b c)) (lk ofC a b c) (lk uF (lk ofF x y z) (lk ofB x y z) (lk ofC x y z))
      (lk uB (lk ofF x y z) (lk ofB x y z) (lk ofC x y z)) (lk ofC x y z)) (lk cmCnt (lk uF (lk ofF a b c) (lk ofB a b c) (lk ofC a b c)) (lk uB (lk ofF a b c) (lk ofB a b c) (lk ofC a b
      c)) (lk ofC a b c) (lk uF (lk ofF x y z) (lk ofB x y z) (lk ofC x y z)) (lk uB (lk ofF x y z) (lk ofB x y z) (lk ofC x y z)) (lk ofC x y z)) true (0 : Nat) ∧ lk uB (lk ofF a b c)
      (lk ofB a b c) (lk ofC a b c) = lk uB (lk ofF a b c) (lk ofB a b c) (lk ofC a b c)) (.ask (I64 (lk cmCnt (lk uF (lk ofF a b c) (lk ofB a b c) (lk ofC a b c)) (lk uB (lk ofF a b c)
      (lk ofB a b c) (lk ofC a b c)) (lk ofC a b c) (lk uF (lk ofF x y z) (lk ofB x y z) (lk ofC x y z)) (lk uB (lk ofF x y z) (lk ofB x y z) (lk ofC x y z)) (lk ofC x y z) - (1 : Int)) ∧
      I64 (lk cmBy (lk uF (lk ofF a b c) (lk ofB a b c) (lk ofC a b c)) (lk uB (lk ofF a b c) (lk ofB a b c) (lk ofC a b c)) (lk ofC a b c) (lk uF (lk ofF x y z) (lk ofB x y z) (lk ofC x
      y z)) (lk uB (lk ofF x y z) (lk ofB x y z) (lk ofC x y z)) (lk ofC x y z) * (lk cmCnt (lk uF (lk ofF a b c) (lk ofB a b c) (lk ofC a b c)) (lk uB (lk ofF a b c) (lk ofB a b c) (lk
      ofC a b c)) (lk ofC a b c) (lk uF (lk ofF x y z) (lk ofB x y z) (lk ofC x y z)) (lk uB (lk ofF x y z) (lk ofB x y z) (lk ofC x y z)) (lk ofC x y z) - (1 : Int))) ∧ I64 (lk cmFst (lk
      uF (lk ofF a b c) (lk ofB a b c) (lk ofC a b c)) (lk uB (lk ofF a b c) (lk ofB a b c) (lk ofC a b c)) (lk ofC a b c) (lk uF (lk ofF x y z) (lk ofB x y z) (lk ofC x y z)) (lk uB (lk
      ofF x y z) (lk ofB x y z) (lk ofC x y z)) (lk ofC x y z) + lk cmBy (lk uF (lk ofF a b c) (lk ofB a b c) (lk ofC a b c)) (lk uB (lk ofF a b c) (lk ofB a b c) (lk ofC a b c)) (lk ofC
      a b c) (lk uF (lk ofF x y z) (lk ofB x y z) (lk ofC x y z)) (lk uB (lk ofF x y z) (lk ofB x y z) (lk ofC x y z)) (lk ofC x y z) * (lk cmCnt (lk uF (lk ofF a b c) (lk ofB a b c) (lk
      ofC a b c)) (lk uB (lk ofF a b c) (lk ofB a b c) (lk ofC a b c)) (lk ofC a b c) (lk uF (lk ofF x y z) (lk ofB x y z) (lk ofC x y z)) (lk uB (lk ofF x y z) (lk ofB x y z) (lk ofC x y
      z)) (lk ofC x y z) - (1 : Int)))) (.ask (I64 (lk ofC a b c - (1 : Int)) ∧ I64 (lk uB (lk ofF a b c) (lk ofB a b c) (lk ofC a b c) * (lk ofC a b c - (1 : Int))) ∧ I64 (lk uF (lk ofF
      a b c) (lk ofB a b c) (lk ofC a b c) + lk uB (lk ofF a b c) (lk ofB a b c) (lk ofC a b c) * (lk ofC a b c - (1 : Int)))) (.ask (I64 (lk cmCnt (lk uF (lk ofF a b c) (lk ofB a b c)
      (lk ofC a b c)) (lk uB (lk ofF a b c) (lk ofB a b c) (lk ofC a b c)) (lk ofC a b c) (lk uF (lk ofF x y z) (lk ofB x y z) (lk ofC x y z)) (lk uB (lk ofF x y z) (lk ofB x y z) (lk ofC
      x y z)) (lk ofC x y z) - (1 : Int)) ∧ I64 (lk cmBy (lk uF (lk ofF a b c) (lk ofB a b c) (lk ofC a b c)) (lk uB (lk ofF a b c) (lk ofB a b c) (lk ofC a b c)) (lk ofC a b c) (lk uF
      (lk ofF x y z) (lk ofB x y z) (lk ofC x y z)) (lk uB (lk ofF x y z) (lk ofB x y z) (lk ofC x y z)) (lk ofC x y z) * (lk cmCnt (lk uF (lk ofF a b c) (lk ofB a b c) (lk ofC a b c))
      (lk uB (lk ofF a b c) (lk ofB a b c) (lk ofC a b c)) (lk ofC a b c) (lk uF (lk ofF x y z) (lk ofB x y z) (lk ofC x y z)) (lk uB (lk ofF x y z) (lk ofB x y z) (lk ofC x y z)) (lk ofC
      x y z) - (1 : Int))) ∧ I64 (lk cmFst (lk uF (lk ofF a b c) (lk ofB a b c) (lk ofC a b c)) (lk uB (lk ofF a b c) (lk ofB a b c) (lk ofC a b c)) (lk ofC a b c) (lk uF (lk ofF x y z)
      (lk ofB x y z) (lk ofC x y z)) (lk uB (lk ofF x y z) (lk ofB x y z) (lk ofC x y z)) (lk ofC x y z) + lk cmBy (lk uF (lk ofF a b c) (lk ofB a b c) (lk ofC a b c)) (lk uB (lk ofF a b
      c) (lk ofB a b c) (lk ofC a b c)) (lk ofC a b c) (lk uF (lk ofF x y z) (lk ofB x y z) (lk ofC x y z)) (lk uB (lk ofF x y z) (lk ofB x y z) (lk ofC x y z)) (lk ofC x y z) * (lk cmCnt
      (lk uF (lk ofF a b c) (lk ofB a b c) (lk ofC a b c)) (lk uB (lk ofF a b c) (lk ofB a b c) (lk ofC a b c)) (lk ofC a b c) (lk uF (lk ofF x y z) (lk ofB x y z) (lk ofC x y z)) (lk uB
      (lk ofF x y z) (lk ofB x y z) (lk ofC x y z)) (lk ofC x y z) - (1 : Int)))) (.ask (lk uB (lk ofF a b c) (lk ofB a b c) (lk ofC a b c) ≠ (0 : Int)) (.br (U.gt (U.quo .i64 (U.sub .i64
      (lk sLast (lk uF (lk ofF a b c) (lk ofB a b c) (lk ofC a b c)) (lk uB (lk ofF a b c) (lk ofB a b c) (lk ofC a b c)) (lk ofC a b c)) (lk sLast (lk cmFst (lk uF (lk ofF a b c) (lk ofB
      a b c) (lk ofC a b c)) (lk uB (lk ofF a b c) (lk ofB a b c) (lk ofC a b c)) (lk ofC a b c) (lk uF (lk ofF x y z) (lk ofB x y z) (lk ofC x y z)) (lk uB (lk ofF x y z) (lk ofB x y z)
      (lk ofC x y z)) (lk ofC x y z)) (lk cmBy (lk uF (lk ofF a b c) (lk ofB a b c) (lk ofC a b c)) (lk uB (lk ofF a b c) (lk ofB a b c) (lk ofC a b c)) (lk ofC a b c) (lk uF (lk ofF x y
      z) (lk ofB x y z) (lk ofC x y z)) (lk uB (lk ofF x y z) (lk ofB x y z) (lk ofC x y z)) (lk ofC x y z)) (lk cmCnt (lk uF (lk ofF a b c) (lk ofB a b c) (lk ofC a b c)) (lk uB (lk ofF
      a b c) (lk ofB a b c) (lk ofC a b c)) (lk ofC a b c) (lk uF (lk ofF x y z) (lk ofB x y z) (lk ofC x y z)) (lk uB (lk ofF x y z) (lk ofB x y z) (lk ofC x y z)) (lk ofC x y z)))) (lk
      uB (lk ofF a b c) (lk ofB a b c) (lk ofC a b c))) (0 : Int)) (.br (U.le (Int.ofNat (nat_lit 0 + lk pM (lk uB (lk ofF a b c) (lk ofB a b c) (lk ofC a b c)) (lk cmBy (lk uF (lk ofF a
      b c) (lk ofB a b c) (lk ofC a b c)) (lk uB (lk ofF a b c) (lk ofB a b c) (lk ofC a b c)) (lk ofC a b c) (lk uF (lk ofF x y z) (lk ofB x y z) (lk ofC x y z)) (lk uB (lk ofF x y z)
      (lk ofB x y z) (lk ofC x y z)) (lk ofC x y z)) (lk cmCnt (lk uF (lk ofF a b c) (lk ofB a b c) (lk ofC a b c)) (lk uB (lk ofF a b c) (lk ofB a b c) (lk ofC a b c)) (lk ofC a b c) (lk
      uF (lk ofF x y z) (lk ofB x y z) (lk ofC x y z)) (lk uB (lk ofF x y z) (lk ofB x y z) (lk ofC x y z)) (lk ofC x y z)) (nat_lit 0))) (1000 : Int)) (.ask (c < (0 : Int) → U.quo .i64
      (U.sub .i64 (lk sLast (lk uF (lk ofF a b c) (lk ofB a b c) (lk ofC a b c)) (lk uB (lk ofF a b c) (lk ofB a b c) (lk ofC a b c)) (lk ofC a b c)) (lk sLast (lk cmFst (lk uF (lk ofF a
      b c) (lk ofB a b c) (lk ofC a b c)) (lk uB (lk ofF a b c) (lk ofB a b c) (lk ofC a b c)) (lk ofC a b c) (lk uF (lk ofF x y z) (lk ofB x y z) (lk ofC x y z)) (lk uB (lk ofF x y z)
      (lk ofB x y z) (lk ofC x y z)) (lk ofC x y z)) (lk cmBy (lk uF (lk ofF a b c) (lk ofB a b c) (lk ofC a b c)) (lk uB (lk ofF a b c) (lk ofB a b c) (lk ofC a b c)) (lk ofC a b c) (lk
      uF (lk ofF x y z) (lk ofB x y z) (lk ofC x y z)) (lk uB (lk ofF x y z) (lk ofB x y z) (lk ofC x y z)) (lk ofC x y z)) (lk cmCnt (lk uF (lk ofF a b c) (lk ofB a b c) (lk ofC a b c))
      (lk uB (lk ofF a b c) (lk ofB a b c) (lk ofC a b c)) (lk ofC a b c) (lk uF (lk ofF x y z) (lk ofB x y z) (lk ofC x y z)) (lk uB (lk ofF x y z) (lk ofB x y z) (lk ofC x y z)) (lk ofC
      x y z)))) (lk uB (lk ofF a b c) (lk ofB a b c) (lk ofC a b c)) ≠ (0 : Int) → I64 (U.quo .i64 (U.sub .i64 (lk sLast (lk uF (lk ofF a b c) (lk ofB a b c) (lk ofC a b c)) (lk uB (lk
      ofF a b c) (lk ofB a b c) (lk ofC a b c)) (lk ofC a b c)) (lk sLast (lk cmFst (lk uF (lk ofF a b c) (lk ofB a b c) (lk ofC a b c)) (lk uB (lk ofF a b c) (lk ofB a b c) (lk ofC a b
      c)) (lk ofC a b c) (lk uF (lk ofF x y z) (lk ofB x y z) (lk ofC x y z)) (lk uB (lk ofF x y z) (lk ofB x y z) (lk ofC x y z)) (lk ofC x y z)) (lk cmBy (lk uF (lk ofF a b c) (lk ofB a
      b c) (lk ofC a b c)) (lk uB (lk ofF a b c) (lk ofB a b c) (lk ofC a b c)) (lk ofC a b c) (lk uF (lk ofF x y z) (lk ofB x y z) (lk ofC x y z)) (lk uB (lk ofF x y z) (lk ofB x y z)
      (lk ofC x y z)) (lk ofC x y z)) (lk cmCnt (lk uF (lk ofF a b c) (lk ofB a b c) (lk ofC a b c)) (lk uB (lk ofF a b c) (lk ofB a b c) (lk ofC a b c)) (lk ofC a b c) (lk uF (lk ofF x y
      z) (lk ofB x y z) (lk ofC x y z)) (lk uB (lk ofF x y z) (lk ofB x y z) (lk ofC x y z)) (lk ofC x y z)))) (lk uB (lk ofF a b c) (lk ofB a b c) (lk ofC a b c)) - (1 : Int)) ∧ I64 (lk
      uB (lk ofF a b c) (lk ofB a b c) (lk ofC a b c) * (U.quo .i64 (U.sub .i64 (lk sLast (lk uF (lk ofF a b c) (lk ofB a b c) (lk ofC a b c)) (lk uB (lk ofF a b c) (lk ofB a b c) (lk ofC
      a b c)) (lk ofC a b c)) (lk sLast (lk cmFst (lk uF (lk ofF a b c) (lk ofB a b c) (lk ofC a b c)) (lk uB (lk ofF a b c) (lk ofB a b c) (lk ofC a b c)) (lk ofC a b c) (lk uF (lk ofF x
      y z) (lk ofB x y z) (lk ofC x y z)) (lk uB (lk ofF x y z) (lk ofB x y z) (lk ofC x y z)) (lk ofC x y z)) (lk cmBy (lk uF (lk ofF a b c) (lk ofB a b c) (lk ofC a b c)) (lk uB (lk ofF
      a b c) (lk ofB a b c) (lk ofC a b c)) (lk ofC a b c) (lk uF (lk ofF x y z) (lk ofB x y z) (lk ofC x y z)) (lk uB (lk ofF x y z) (lk ofB x y z) (lk ofC x y z)) (lk ofC x y z)) (lk
      cmCnt (lk uF (lk ofF a b c) (lk ofB a b c) (lk ofC a b c)) (lk uB (lk ofF a b c) (lk ofB a b c) (lk ofC a b c)) (lk ofC a b c) (lk uF (lk ofF x y z) (lk ofB x y z) (lk ofC x y z))
      (lk uB (lk ofF x y z) (lk ofB x y z) (lk ofC x y z)) (lk ofC x y z)))) (lk uB (lk ofF a b c) (lk ofB a b c) (lk ofC a b c)) - (1 : Int))) ∧ I64 (U.add .i64 (lk sLast (lk cmFst (lk
      uF (lk ofF a b c) (lk ofB a b c) (lk ofC a b c)) (lk uB (lk ofF a b c) (lk ofB a b c) (lk ofC a b c)) (lk ofC a b c) (lk uF (lk ofF x y z) (lk ofB x y z) (lk ofC x y z)) (lk uB (lk
      ofF x y z) (lk ofB x y z) (lk ofC x y z)) (lk ofC x y z)) (lk cmBy (lk uF (lk ofF a b c) (lk ofB a b c) (lk ofC a b c)) (lk uB (lk ofF a b c) (lk ofB a b c) (lk ofC a b c)) (lk ofC
      a b c) (lk uF (lk ofF x y z) (lk ofB x y z) (lk ofC x y z)) (lk uB (lk ofF x y z) (lk ofB x y z) (lk ofC x y z)) (lk ofC x y z)) (lk cmCnt (lk uF (lk ofF a b c) (lk ofB a b c) (lk
      ofC a b c)) (lk uB (lk ofF a b c) (lk ofB a b c) (lk ofC a b c)) (lk ofC a b c) (lk uF (lk ofF x y z) (lk ofB x y z) (lk ofC x y z)) (lk uB (lk ofF x y z) (lk ofB x y z) (lk ofC x y
      z)) (lk ofC x y z))) (lk uB (lk ofF a b c) (lk ofB a b c) (lk ofC a b c)) + lk uB (lk ofF a b c) (lk ofB a b c) (lk ofC a b c) * (U.quo .i64 (U.sub .i64 (lk sLast (lk uF (lk ofF a b
      c) (lk ofB a b c) (lk ofC a b c)) (lk uB (lk ofF a b c) (lk ofB a b c) (lk ofC a b c)) (lk ofC a b c)) (lk sLast (lk cmFst (lk uF (lk ofF a b c) (lk ofB a b c) (lk ofC a b c)) (lk
      uB (lk ofF a b c) (lk ofB a b c) (lk ofC a b c)) (lk ofC a b c) (lk uF (lk ofF x y z) (lk ofB x y z) (lk ofC x y z)) (lk uB (lk ofF x y z) (lk ofB x y z) (lk ofC x y z)) (lk ofC x y
      z)) (lk cmBy (lk uF (lk ofF a b c) (lk ofB a b c) (lk ofC a b c)) (lk uB (lk ofF a b c) (lk ofB a b c) (lk ofC a b c)) (lk ofC a b c) (lk uF (lk ofF x y z) (lk ofB x y z) (lk ofC x
      y z)) (lk uB (lk ofF x y z) (lk ofB x y z) (lk ofC x y z)) (lk ofC x y z)) (lk cmCnt (lk uF (lk ofF a b c) (lk ofB a b c) (lk ofC a b c)) (lk uB (lk ofF a b c) (lk ofB a b c) (lk
      ofC a b c)) (lk ofC a b c) (lk uF (lk ofF x y z) (lk ofB x y z) (lk ofC x y z)) (lk uB (lk ofF x y z) (lk ofB x y z) (lk ofC x y z)) (lk ofC x y z)))) (lk uB (lk ofF a b c) (lk ofB
      a b c) (lk ofC a b c)) - (1 : Int))) ∧ I64 (-lk uB (lk ofF a b c) (lk ofB a b c) (lk ofC a b c))) (.ask ((0 : Int) < U.quo .i64 (U.sub .i64 (lk sLast (lk uF (lk ofF a b c) (lk ofB a
      b c) (lk ofC a b c)) (lk uB (lk ofF a b c) (lk ofB a b c) (lk ofC a b c)) (lk ofC a b c)) (lk sLast (lk cmFst (lk uF (lk ofF a b c) (lk ofB a b c) (lk ofC a b c)) (lk uB (lk ofF a b
      c) (lk ofB a b c) (lk ofC a b c)) (lk ofC a b c) (lk uF (lk ofF x y z) (lk ofB x y z) (lk ofC x y z)) (lk uB (lk ofF x y z) (lk ofB x y z) (lk ofC x y z)) (lk ofC x y z)) (lk cmBy
      (lk uF (lk ofF a b c) (lk ofB a b c) (lk ofC a b c)) (lk uB (lk ofF a b c) (lk ofB a b c) (lk ofC a b c)) (lk ofC a b c) (lk uF (lk ofF x y z) (lk ofB x y z) (lk ofC x y z)) (lk uB
      (lk ofF x y z) (lk ofB x y z) (lk ofC x y z)) (lk ofC x y z)) (lk cmCnt (lk uF (lk ofF a b c) (lk ofB a b c) (lk ofC a b c)) (lk uB (lk ofF a b c) (lk ofB a b c) (lk ofC a b c)) (lk
      ofC a b c) (lk uF (lk ofF x y z) (lk ofB x y z) (lk ofC x y z)) (lk uB (lk ofF x y z) (lk ofB x y z) (lk ofC x y z)) (lk ofC x y z)))) (lk uB (lk ofF a b c) (lk ofB a b c) (lk ofC a
      b c)) → I64 (U.quo .i64 (U.sub .i64 (lk sLast (lk uF (lk ofF a b c) (lk ofB a b c) (lk ofC a b c)) (lk uB (lk ofF a b c) (lk ofB a b c) (lk ofC a b c)) (lk ofC a b c)) (lk sLast (lk
      cmFst (lk uF (lk ofF a b c) (lk ofB a b c) (lk ofC a b c)) (lk uB (lk ofF a b c) (lk ofB a b c) (lk ofC a b c)) (lk ofC a b c) (lk uF (lk ofF x y z) (lk ofB x y z) (lk ofC x y z))
      (lk uB (lk ofF x y z) (lk ofB x y z) (lk ofC x y z)) (lk ofC x y z)) (lk cmBy (lk uF (lk ofF a b c) (lk ofB a b c) (lk ofC a b c)) (lk uB (lk ofF a b c) (lk ofB a b c) (lk ofC a b
      c)) (lk ofC a b c) (lk uF (lk ofF x y z) (lk ofB x y z) (lk ofC x y z)) (lk uB (lk ofF x y z) (lk ofB x y z) (lk ofC x y z)) (lk ofC x y z)) (lk cmCnt (lk uF (lk ofF a b c) (lk ofB
      a b c) (lk ofC a b c)) (lk uB (lk ofF a b c) (lk ofB a b c) (lk ofC a b c)) (lk ofC a b c) (lk uF (lk ofF x y z) (lk ofB x y z) (lk ofC x y z)) (lk uB (lk ofF x y z) (lk ofB x y z)
      (lk ofC x y z)) (lk ofC x y z)))) (lk uB (lk ofF a b c) (lk ofB a b c) (lk ofC a b c)) - (1 : Int)) ∧ I64 (lk kB (U.add .i64 (lk sLast (lk cmFst (lk uF (lk ofF a b c) (lk ofB a b c)
      (lk ofC a b c)) (lk uB (lk ofF a b c) (lk ofB a b c) (lk ofC a b c)) (lk ofC a b c) (lk uF (lk ofF x y z) (lk ofB x y z) (lk ofC x y z)) (lk uB (lk ofF x y z) (lk ofB x y z) (lk ofC
      x y z)) (lk ofC x y z)) (lk cmBy (lk uF (lk ofF a b c) (lk ofB a b c) (lk ofC a b c)) (lk uB (lk ofF a b c) (lk ofB a b c) (lk ofC a b c)) (lk ofC a b c) (lk uF (lk ofF x y z) (lk
      ofB x y z) (lk ofC x y z)) (lk uB (lk ofF x y z) (lk ofB x y z) (lk ofC x y z)) (lk ofC x y z)) (lk cmCnt (lk uF (lk ofF a b c) (lk ofB a b c) (lk ofC a b c)) (lk uB (lk ofF a b c)
      (lk ofB a b c) (lk ofC a b c)) (lk ofC a b c) (lk uF (lk ofF x y z) (lk ofB x y z) (lk ofC x y z)) (lk uB (lk ofF x y z) (lk ofB x y z) (lk ofC x y z)) (lk ofC x y z))) (lk uB (lk
      ofF a b c) (lk ofB a b c) (lk ofC a b c))) (lk uB (lk ofF a b c) (lk ofB a b c) (lk ofC a b c)) (U.quo .i64 (U.sub .i64 (lk sLast (lk uF (lk ofF a b c) (lk ofB a b c) (lk ofC a b
      c)) (lk uB (lk ofF a b c) (lk ofB a b c) (lk ofC a b c)) (lk ofC a b c)) (lk sLast (lk cmFst (lk uF (lk ofF a b c) (lk ofB a b c) (lk ofC a b c)) (lk uB (lk ofF a b c) (lk ofB a b
      c) (lk ofC a b c)) (lk ofC a b c) (lk uF (lk ofF x y z) (lk ofB x y z) (lk ofC x y z)) (lk uB (lk ofF x y z) (lk ofB x y z) (lk ofC x y z)) (lk ofC x y z)) (lk cmBy (lk uF (lk ofF a
      b c) (lk ofB a b c) (lk ofC a b c)) (lk uB (lk ofF a b c) (lk ofB a b c) (lk ofC a b c)) (lk ofC a b c) (lk uF (lk ofF x y z) (lk ofB x y z) (lk ofC x y z)) (lk uB (lk ofF x y z)
      (lk ofB x y z) (lk ofC x y z)) (lk ofC x y z)) (lk cmCnt (lk uF (lk ofF a b c) (lk ofB a b c) (lk ofC a b c)) (lk uB (lk ofF a b c) (lk ofB a b c) (lk ofC a b c)) (lk ofC a b c) (lk
      uF (lk ofF x y z) (lk ofB x y z) (lk ofC x y z)) (lk uB (lk ofF x y z) (lk ofB x y z) (lk ofC x y z)) (lk ofC x y z)))) (lk uB (lk ofF a b c) (lk ofB a b c) (lk ofC a b c))) c *
      (U.quo .i64 (U.sub .i64 (lk sLast (lk uF (lk ofF a b c) (lk ofB a b c) (lk ofC a b c)) (lk uB (lk ofF a b c) (lk ofB a b c) (lk ofC a b c)) (lk ofC a b c)) (lk sLast (lk cmFst (lk
      uF (lk ofF a b c) (lk ofB a b c) (lk ofC a b c)) (lk uB (lk ofF a b c) (lk ofB a b c) (lk ofC a b c)) (lk ofC a b c) (lk uF (lk ofF x y z) (lk ofB x y z) (lk ofC x y z)) (lk uB (lk
      ofF x y z) (lk ofB x y z) (lk ofC x y z)) (lk ofC x y z)) (lk cmBy (lk uF (lk ofF a b c) (lk ofB a b c) (lk ofC a b c)) (lk uB (lk ofF a b c) (lk ofB a b c) (lk ofC a b c)) (lk ofC
      a b c) (lk uF (lk ofF x y z) (lk ofB x y z) (lk ofC x y z)) (lk uB (lk ofF x y z) (lk ofB x y z) (lk ofC x y z)) (lk ofC x y z)) (lk cmCnt (lk uF (lk ofF a b c) (lk ofB a b c) (lk
      ofC a b c)) (lk uB (lk ofF a b c) (lk ofB a b c) (lk ofC a b c)) (lk ofC a b c) (lk uF (lk ofF x y z) (lk ofB x y z) (lk ofC x y z)) (lk uB (lk ofF x y z) (lk ofB x y z) (lk ofC x y
      z)) (lk ofC x y z)))) (lk uB (lk ofF a b c) (lk ofB a b c) (lk ofC a b c)) - (1 : Int))) ∧ I64 (lk kF (U.add .i64 (lk sLast (lk cmFst (lk uF (lk ofF a b c) (lk ofB a b c) (lk ofC a
      b c)) (lk uB (lk ofF a b c) (lk ofB a b c) (lk ofC a b c)) (lk ofC a b c) (lk uF (lk ofF x y z) (lk ofB x y z) (lk ofC x y z)) (lk uB (lk ofF x y z) (lk ofB x y z) (lk ofC x y z))
      (lk ofC x y z)) (lk cmBy (lk uF (lk ofF a b c) (lk ofB a b c) (lk ofC a b c)) (lk uB (lk ofF a b c) (lk ofB a b c) (lk ofC a b c)) (lk ofC a b c) (lk uF (lk ofF x y z) (lk ofB x y
      z) (lk ofC x y z)) (lk uB (lk ofF x y z) (lk ofB x y z) (lk ofC x y z)) (lk ofC x y z)) (lk cmCnt (lk uF (lk ofF a b c) (lk ofB a b c) (lk ofC a b c)) (lk uB (lk ofF a b c) (lk ofB
      a b c) (lk ofC a b c)) (lk ofC a b c) (lk uF (lk ofF x y z) (lk ofB x y z) (lk ofC x y z)) (lk uB (lk ofF x y z) (lk ofB x y z) (lk ofC x y z)) (lk ofC x y z))) (lk uB (lk ofF a b
      c) (lk ofB a b c) (lk ofC a b c))) (lk uB (lk ofF a b c) (lk ofB a b c) (lk ofC a b c)) (U.quo .i64 (U.sub .i64 (lk sLast (lk uF (lk ofF a b c) (lk ofB a b c) (lk ofC a b c)) (lk uB
      (lk ofF a b c) (lk ofB a b c) (lk ofC a b c)) (lk ofC a b c)) (lk sLast (lk cmFst (lk uF (lk ofF a b c) (lk ofB a b c) (lk ofC a b c)) (lk uB (lk ofF a b c) (lk ofB a b c) (lk ofC a
      b c)) (lk ofC a b c) (lk uF (lk ofF x y z) (lk ofB x y z) (lk ofC x y z)) (lk uB (lk ofF x y z) (lk ofB x y z) (lk ofC x y z)) (lk ofC x y z)) (lk cmBy (lk uF (lk ofF a b c) (lk ofB
      a b c) (lk ofC a b c)) (lk uB (lk ofF a b c) (lk ofB a b c) (lk ofC a b c)) (lk ofC a b c) (lk uF (lk ofF x y z) (lk ofB x y z) (lk ofC x y z)) (lk uB (lk ofF x y z) (lk ofB x y z)
      (lk ofC x y z)) (lk ofC x y z)) (lk cmCnt (lk uF (lk ofF a b c) (lk ofB a b c) (lk ofC a b c)) (lk uB (lk ofF a b c) (lk ofB a b c) (lk ofC a b c)) (lk ofC a b c) (lk uF (lk ofF x y
      z) (lk ofB x y z) (lk ofC x y z)) (lk uB (lk ofF x y z) (lk ofB x y z) (lk ofC x y z)) (lk ofC x y z)))) (lk uB (lk ofF a b c) (lk ofB a b c) (lk ofC a b c))) c + lk kB (U.add .i64
      (lk sLast (lk cmFst (lk uF (lk ofF a b c) (lk ofB a b c) (lk ofC a b c)) (lk uB (lk ofF a b c) (lk ofB a b c) (lk ofC a b c)) (lk ofC a b c) (lk uF (lk ofF x y z) (lk ofB x y z) (lk
      ofC x y z)) (lk uB (lk ofF x y z) (lk ofB x y z) (lk ofC x y z)) (lk ofC x y z)) (lk cmBy (lk uF (lk ofF a b c) (lk ofB a b c) (lk ofC a b c)) (lk uB (lk ofF a b c) (lk ofB a b c)
      (lk ofC a b c)) (lk ofC a b c) (lk uF (lk ofF x y z) (lk ofB x y z) (lk ofC x y z)) (lk uB (lk ofF x y z) (lk ofB x y z) (lk ofC x y z)) (lk ofC x y z)) (lk cmCnt (lk uF (lk ofF a b
      c) (lk ofB a b c) (lk ofC a b c)) (lk uB (lk ofF a b c) (lk ofB a b c) (lk ofC a b c)) (lk ofC a b c) (lk uF (lk ofF x y z) (lk ofB x y z) (lk ofC x y z)) (lk uB (lk ofF x y z) (lk
      ofB x y z) (lk ofC x y z)) (lk ofC x y z))) (lk uB (lk ofF a b c) (lk ofB a b c) (lk ofC a b c))) (lk uB (lk ofF a b c) (lk ofB a b c) (lk ofC a b c)) (U.quo .i64 (U.sub .i64 (lk
      sLast (lk uF (lk ofF a b c) (lk ofB a b c) (lk ofC a b c)) (lk uB (lk ofF a b c) (lk ofB a b c) (lk ofC a b c)) (lk ofC a b c)) (lk sLast (lk cmFst (lk uF (lk ofF a b c) (lk ofB a b
      c) (lk ofC a b c)) (lk uB (lk ofF a b c) (lk ofB a b c) (lk ofC a b c)) (lk ofC a b c) (lk uF (lk ofF x y z) (lk ofB x y z) (lk ofC x y z)) (lk uB (lk ofF x y z) (lk ofB x y z) (lk
      ofC x y z)) (lk ofC x y z)) (lk cmBy (lk uF (lk ofF a b c) (lk ofB a b c) (lk ofC a b c)) (lk uB (lk ofF a b c) (lk ofB a b c) (lk ofC a b c)) (lk ofC a b c) (lk uF (lk ofF x y z)
      (lk ofB x y z) (lk ofC x y z)) (lk uB (lk ofF x y z) (lk ofB x y z) (lk ofC x y z)) (lk ofC x y z)) (lk cmCnt (lk uF (lk ofF a b c) (lk ofB a b c) (lk ofC a b c)) (lk uB (lk ofF a b
      c) (lk ofB a b c) (lk ofC a b c)) (lk ofC a b c) (lk uF (lk ofF x y z) (lk ofB x y z) (lk ofC x y z)) (lk uB (lk ofF x y z) (lk ofB x y z) (lk ofC x y z)) (lk ofC x y z)))) (lk uB
      (lk ofF a b c) (lk ofB a b c) (lk ofC a b c))) c * (U.quo .i64 (U.sub .i64 (lk sLast (lk uF (lk ofF a b c) (lk ofB a b c) (lk ofC a b c)) (lk uB (lk ofF a b c) (lk ofB a b c) (lk
      ofC a b c)) (lk ofC a b c)) (lk sLast (lk cmFst (lk uF (lk ofF a b c) (lk ofB a b c) (lk ofC a b c)) (lk uB (lk ofF a b c) (lk ofB a b c) (lk ofC a b c)) (lk ofC a b c) (lk uF (lk
      ofF x y z) (lk ofB x y z) (lk ofC x y z)) (lk uB (lk ofF x y z) (lk ofB x y z) (lk ofC x y z)) (lk ofC x y z)) (lk cmBy (lk uF (lk ofF a b c) (lk ofB a b c) (lk ofC a b c)) (lk uB
      (lk ofF a b c) (lk ofB a b c) (lk ofC a b c)) (lk ofC a b c) (lk uF (lk ofF x y z) (lk ofB x y z) (lk ofC x y z)) (lk uB (lk ofF x y z) (lk ofB x y z) (lk ofC x y z)) (lk ofC x y
      z)) (lk cmCnt (lk uF (lk ofF a b c) (lk ofB a b c) (lk ofC a b c)) (lk uB (lk ofF a b c) (lk ofB a b c) (lk ofC a b c)) (lk ofC a b c) (lk uF (lk ofF x y z) (lk ofB x y z) (lk ofC x
      y z)) (lk uB (lk ofF x y z) (lk ofB x y z) (lk ofC x y z)) (lk ofC x y z)))) (lk uB (lk ofF a b c) (lk ofB a b c) (lk ofC a b c)) - (1 : Int)))) (.ask (((0 : Nat) + lk pM (lk uB (lk
      ofF a b c) (lk ofB a b c) (lk ofC a b c)) (lk cmBy (lk uF (lk ofF a b c) (lk ofB a b c) (lk ofC a b c)) (lk uB (lk ofF a b c) (lk ofB a b c) (lk ofC a b c)) (lk ofC a b c) (lk uF
      (lk ofF x y z) (lk ofB x y z) (lk ofC x y z)) (lk uB (lk ofF x y z) (lk ofB x y z) (lk ofC x y z)) (lk ofC x y z)) (lk cmCnt (lk uF (lk ofF a b c) (lk ofB a b c) (lk ofC a b c)) (lk
      uB (lk ofF a b c) (lk ofB a b c) (lk ofC a b c)) (lk ofC a b c) (lk uF (lk ofF x y z) (lk ofB x y z) (lk ofC x y z)) (lk uB (lk ofF x y z) (lk ofB x y z) (lk ofC x y z)) (lk ofC x y
      z)) (nat_lit 0) + (1 : Nat)) * nat_lit 24 ≤ nat_lit 140737488351232) (.br (U.gt (Int.ofNat ((nat_lit 0 + lk pM (lk uB (lk ofF a b c) (lk ofB a b c) (lk ofC a b c)) (lk cmBy (lk uF
      (lk ofF a b c) (lk ofB a b c) (lk ofC a b c)) (lk uB (lk ofF a b c) (lk ofB a b c) (lk ofC a b c)) (lk ofC a b c) (lk uF (lk ofF x y z) (lk ofB x y z) (lk ofC x y z)) (lk uB (lk ofF
      x y z) (lk ofB x y z) (lk ofC x y z)) (lk ofC x y z)) (lk cmCnt (lk uF (lk ofF a b c) (lk ofB a b c) (lk ofC a b c)) (lk uB (lk ofF a b c) (lk ofB a b c) (lk ofC a b c)) (lk ofC a b
      c) (lk uF (lk ofF x y z) (lk ofB x y z) (lk ofC x y z)) (lk uB (lk ofF x y z) (lk ofB x y z) (lk ofC x y z)) (lk ofC x y z)) (nat_lit 0)).add (nat_lit 1))) (1000 : Int)) (.ret (.tup
      [.lit (.slice none (nat_lit 0) (nat_lit 0)), .lit (.int .i64 7)])) (.ret (.tup [.row [.int .i64, .int .i64, .int .i64] ((nat_lit 0 + lk pM (lk uB (lk ofF a b c) (lk ofB a b c) (lk
      ofC a b c)) (lk cmBy (lk uF (lk ofF a b c) (lk ofB a b c) (lk ofC a b c)) (lk uB (lk ofF a b c) (lk ofB a b c) (lk ofC a b c)) (lk ofC a b c) (lk uF (lk ofF x y z) (lk ofB x y z)
      (lk ofC x y z)) (lk uB (lk ofF x y z) (lk ofB x y z) (lk ofC x y z)) (lk ofC x y z)) (lk cmCnt (lk uF (lk ofF a b c) (lk ofB a b c) (lk ofC a b c)) (lk uB (lk ofF a b c) (lk ofB a b
      c) (lk ofC a b c)) (lk ofC a b c) (lk uF (lk ofF x y z) (lk ofB x y z) (lk ofC x y z)) (lk uB (lk ofF x y z) (lk ofB x y z) (lk ofC x y z)) (lk ofC x y z)) (nat_lit 0)).add (nat_lit
      1)) (U.cat (nat_lit 0 + lk pM (lk uB (lk ofF a b c) (lk ofB a b c) (lk ofC a b c)) (lk cmBy (lk uF (lk ofF a b c) (lk ofB a b c) (lk ofC a b c)) (lk uB (lk ofF a b c) (lk ofB a b c)
      (lk ofC a b c)) (lk ofC a b c) (lk uF (lk ofF x y z) (lk ofB x y z) (lk ofC x y z)) (lk uB (lk ofF x y z) (lk ofB x y z) (lk ofC x y z)) (lk ofC x y z)) (lk cmCnt (lk uF (lk ofF a b
      c) (lk ofB a b c) (lk ofC a b c)) (lk uB (lk ofF a b c) (lk ofB a b c) (lk ofC a b c)) (lk ofC a b c) (lk uF (lk ofF x y z) (lk ofB x y z) (lk ofC x y z)) (lk uB (lk ofF x y z) (lk
      ofB x y z) (lk ofC x y z)) (lk ofC x y z)) (nat_lit 0)) (lk ppF c (lk uB (lk ofF a b c) (lk ofB a b c) (lk ofC a b c)) (lk cmFst (lk uF (lk ofF a b c) (lk ofB a b c) (lk ofC a b c))
      (lk uB (lk ofF a b c) (lk ofB a b c) (lk ofC a b c)) (lk ofC a b c) (lk uF (lk ofF x y z) (lk ofB x y z) (lk ofC x y z)) (lk uB (lk ofF x y z) (lk ofB x y z) (lk ofC x y z)) (lk ofC
      x y z)) (lk cmBy (lk uF (lk ofF a b c) (lk ofB a b c) (lk ofC a b c)) (lk uB (lk ofF a b c) (lk ofB a b c) (lk ofC a b c)) (lk ofC a b c) (lk uF (lk ofF x y z) (lk ofB x y z) (lk
      ofC x y z)) (lk uB (lk ofF x y z) (lk ofB x y z) (lk ofC x y z)) (lk ofC x y z)) (lk cmCnt (lk uF (lk ofF a b c) (lk ofB a b c) (lk ofC a b c)) (lk uB (lk ofF a b c) (lk ofB a b c)
      (lk ofC a b c)) (lk ofC a b c) (lk uF (lk ofF x y z) (lk ofB x y z) (lk ofC x y z)) (lk uB (lk ofF x y z) (lk ofB x y z) (lk ofC x y z)) (lk ofC x y z)) (nat_lit 0) fun x => ((0 :
      Int), (0 : Int), (0 : Int), PUnit.unit)) fun x_1 => (lk nLow (lk kF (U.add .i64 (lk sLast (lk cmFst (lk uF (lk ofF a b c) (lk ofB a b c) (lk ofC a b c)) (lk uB (lk ofF a b c) (lk
      ofB a b c) (lk ofC a b c)) (lk ofC a b c) (lk uF (lk ofF x y z) (lk ofB x y z) (lk ofC x y z)) (lk uB (lk ofF x y z) (lk ofB x y z) (lk ofC x y z)) (lk ofC x y z)) (lk cmBy (lk uF
      (lk ofF a b c) (lk ofB a b c) (lk ofC a b c)) (lk uB (lk ofF a b c) (lk ofB a b c) (lk ofC a b c)) (lk ofC a b c) (lk uF (lk ofF x y z) (lk ofB x y z) (lk ofC x y z)) (lk uB (lk ofF
      x y z) (lk ofB x y z) (lk ofC x y z)) (lk ofC x y z)) (lk cmCnt (lk uF (lk ofF a b c) (lk ofB a b c) (lk ofC a b c)) (lk uB (lk ofF a b c) (lk ofB a b c) (lk ofC a b c)) (lk ofC a b
      c) (lk uF (lk ofF x y z) (lk ofB x y z) (lk ofC x y z)) (lk uB (lk ofF x y z) (lk ofB x y z) (lk ofC x y z)) (lk ofC x y z))) (lk uB (lk ofF a b c) (lk ofB a b c) (lk ofC a b c)))
      (lk uB (lk ofF a b c) (lk ofB a b c) (lk ofC a b c)) (U.quo .i64 (U.sub .i64 (lk sLast (lk uF (lk ofF a b c) (lk ofB a b c) (lk ofC a b c)) (lk uB (lk ofF a b c) (lk ofB a b c) (lk
      ofC a b c)) (lk ofC a b c)) (lk sLast (lk cmFst (lk uF (lk ofF a b c) (lk ofB a b c) (lk ofC a b c)) (lk uB (lk ofF a b c) (lk ofB a b c) (lk ofC a b c)) (lk ofC a b c) (lk uF (lk
      ofF x y z) (lk ofB x y z) (lk ofC x y z)) (lk uB (lk ofF x y z) (lk ofB x y z) (lk ofC x y z)) (lk ofC x y z)) (lk cmBy (lk uF (lk ofF a b c) (lk ofB a b c) (lk ofC a b c)) (lk uB
      (lk ofF a b c) (lk ofB a b c) (lk ofC a b c)) (lk ofC a b c) (lk uF (lk ofF x y z) (lk ofB x y z) (lk ofC x y z)) (lk uB (lk ofF x y z) (lk ofB x y z) (lk ofC x y z)) (lk ofC x y
      z)) (lk cmCnt (lk uF (lk ofF a b c) (lk ofB a b c) (lk ofC a b c)) (lk uB (lk ofF a b c) (lk ofB a b c) (lk ofC a b c)) (lk ofC a b c) (lk uF (lk ofF x y z) (lk ofB x y z) (lk ofC x
      y z)) (lk uB (lk ofF x y z) (lk ofB x y z) (lk ofC x y z)) (lk ofC x y z)))) (lk uB (lk ofF a b c) (lk ofB a b c) (lk ofC a b c))) c) (lk kB (U.add .i64 (lk sLast (lk cmFst (lk uF
      (lk ofF a b c) (lk ofB a b c) (lk ofC a b c)) (lk uB (lk ofF a b c) (lk ofB a b c) (lk ofC a b c)) (lk ofC a b c) (lk uF (lk ofF x y z) (lk ofB x y z) (lk ofC x y z)) (lk uB (lk ofF
      x y z) (lk ofB x y z) (lk ofC x y z)) (lk ofC x y z)) (lk cmBy (lk uF (lk ofF a b c) (lk ofB a b c) (lk ofC a b c)) (lk uB (lk ofF a b c) (lk ofB a b c) (lk ofC a b c)) (lk ofC a b
      c) (lk uF (lk ofF x y z) (lk ofB x y z) (lk ofC x y z)) (lk uB (lk ofF x y z) (lk ofB x y z) (lk ofC x y z)) (lk ofC x y z)) (lk cmCnt (lk uF (lk ofF a b c) (lk ofB a b c) (lk ofC a
      b c)) (lk uB (lk ofF a b c) (lk ofB a b c) (lk ofC a b c)) (lk ofC a b c) (lk uF (lk ofF x y z) (lk ofB x y z) (lk ofC x y z)) (lk uB (lk ofF x y z) (lk ofB x y z) (lk ofC x y z))
      (lk ofC x y z))) (lk uB (lk ofF a b c) (lk ofB a b c) (lk ofC a b c))) (lk uB (lk ofF a b c) (lk ofB a b c) (lk ofC a b c)) (U.quo .i64 (U.sub .i64 (lk sLast (lk uF (lk ofF a b c)
      (lk ofB a b c) (lk ofC a b c)) (lk uB (lk ofF a b c) (lk ofB a b c) (lk ofC a b c)) (lk ofC a b c)) (lk sLast (lk cmFst (lk uF (lk ofF a b c) (lk ofB a b c) (lk ofC a b c)) (lk uB
      (lk ofF a b c) (lk ofB a b c) (lk ofC a b c)) (lk ofC a b c) (lk uF (lk ofF x y z) (lk ofB x y z) (lk ofC x y z)) (lk uB (lk ofF x y z) (lk ofB x y z) (lk ofC x y z)) (lk ofC x y
      z)) (lk cmBy (lk uF (lk ofF a b c) (lk ofB a b c) (lk ofC a b c)) (lk uB (lk ofF a b c) (lk ofB a b c) (lk ofC a b c)) (lk ofC a b c) (lk uF (lk ofF x y z) (lk ofB x y z) (lk ofC x
      y z)) (lk uB (lk ofF x y z) (lk ofB x y z) (lk ofC x y z)) (lk ofC x y z)) (lk cmCnt (lk uF (lk ofF a b c) (lk ofB a b c) (lk ofC a b c)) (lk uB (lk ofF a b c) (lk ofB a b c) (lk
      ofC a b c)) (lk ofC a b c) (lk uF (lk ofF x y z) (lk ofB x y z) (lk ofC x y z)) (lk uB (lk ofF x y z) (lk ofB x y z) (lk ofC x y z)) (lk ofC x y z)))) (lk uB (lk ofF a b c) (lk ofB
      a b c) (lk ofC a b c))) c) (U.quo .i64 (U.sub .i64 (lk sLast (lk uF (lk ofF a b c) (lk ofB a b c) (lk ofC a b c)) (lk uB (lk ofF a b c) (lk ofB a b c) (lk ofC a b c)) (lk ofC a b
      c)) (lk sLast (lk cmFst (lk uF (lk ofF a b c) (lk ofB a b c) (lk ofC a b c)) (lk uB (lk ofF a b c) (lk ofB a b c) (lk ofC a b c)) (lk ofC a b c) (lk uF (lk ofF x y z) (lk ofB x y z)
      (lk ofC x y z)) (lk uB (lk ofF x y z) (lk ofB x y z) (lk ofC x y z)) (lk ofC x y z)) (lk cmBy (lk uF (lk ofF a b c) (lk ofB a b c) (lk ofC a b c)) (lk uB (lk ofF a b c) (lk ofB a b
      c) (lk ofC a b c)) (lk ofC a b c) (lk uF (lk ofF x y z) (lk ofB x y z) (lk ofC x y z)) (lk uB (lk ofF x y z) (lk ofB x y z) (lk ofC x y z)) (lk ofC x y z)) (lk cmCnt (lk uF (lk ofF
      a b c) (lk ofB a b c) (lk ofC a b c)) (lk uB (lk ofF a b c) (lk ofB a b c) (lk ofC a b c)) (lk ofC a b c) (lk uF (lk ofF x y z) (lk ofB x y z) (lk ofC x y z)) (lk uB (lk ofF x y z)
      (lk ofB x y z) (lk ofC x y z)) (lk ofC x y z)))) (lk uB (lk ofF a b c) (lk ofB a b c) (lk ofC a b c))), lk nHigh (lk kF (U.add .i64 (lk sLast (lk cmFst (lk uF (lk ofF a b c) (lk ofB
      a b c) (lk ofC a b c)) (lk uB (lk ofF a b c) (lk ofB a b c) (lk ofC a b c)) (lk ofC a b c) (lk uF (lk ofF x y z) (lk ofB x y z) (lk ofC x y z)) (lk uB (lk ofF x y z) (lk ofB x y z)
      (lk ofC x y z)) (lk ofC x y z)) (lk cmBy (lk uF (lk ofF a b c) (lk ofB a b c) (lk ofC a b c)) (lk uB (lk ofF a b c) (lk ofB a b c) (lk ofC a b c)) (lk ofC a b c) (lk uF (lk ofF x y
      z) (lk ofB x y z) (lk ofC x y z)) (lk uB (lk ofF x y z) (lk ofB x y z) (lk ofC x y z)) (lk ofC x y z)) (lk cmCnt (lk uF (lk ofF a b c) (lk ofB a b c) (lk ofC a b c)) (lk uB (lk ofF
      a b c) (lk ofB a b c) (lk ofC a b c)) (lk ofC a b c) (lk uF (lk ofF x y z) (lk ofB x y z) (lk ofC x y z)) (lk uB (lk ofF x y z) (lk ofB x y z) (lk ofC x y z)) (lk ofC x y z))) (lk
      uB (lk ofF a b c) (lk ofB a b c) (lk ofC a b c))) (lk uB (lk ofF a b c) (lk ofB a b c) (lk ofC a b c)) (U.quo .i64 (U.sub .i64 (lk sLast (lk uF (lk ofF a b c) (lk ofB a b c) (lk ofC
      a b c)) (lk uB (lk ofF a b c) (lk ofB a b c) (lk ofC a b c)) (lk ofC a b c)) (lk sLast (lk cmFst (lk uF (lk ofF a b c) (lk ofB a b c) (lk ofC a b c)) (lk uB (lk ofF a b c) (lk ofB a
      b c) (lk ofC a b c)) (lk ofC a b c) (lk uF (lk ofF x y z) (lk ofB x y z) (lk ofC x y z)) (lk uB (lk ofF x y z) (lk ofB x y z) (lk ofC x y z)) (lk ofC x y z)) (lk cmBy (lk uF (lk ofF
      a b c) (lk ofB a b c) (lk ofC a b c)) (lk uB (lk ofF a b c) (lk ofB a b c) (lk ofC a b c)) (lk ofC a b c) (lk uF (lk ofF x y z) (lk ofB x y z) (lk ofC x y z)) (lk uB (lk ofF x y z)
      (lk ofB x y z) (lk ofC x y z)) (lk ofC x y z)) (lk cmCnt (lk uF (lk ofF a b c) (lk ofB a b c) (lk ofC a b c)) (lk uB (lk ofF a b c) (lk ofB a b c) (lk ofC a b c)) (lk ofC a b c) (lk
      uF (lk ofF x y z) (lk ofB x y z) (lk ofC x y z)) (lk uB (lk ofF x y z) (lk ofB x y z) (lk ofC x y z)) (lk ofC x y z)))) (lk uB (lk ofF a b c) (lk ofB a b c) (lk ofC a b c))) c) (lk
      kB (U.add .i64 (lk sLast (lk cmFst (lk uF (lk ofF a b c) (lk ofB a b c) (lk ofC a b c)) (lk uB (lk ofF a b c) (lk ofB a b c) (lk ofC a b c)) (lk ofC a b c) (lk uF (lk ofF x y z) (lk
      ofB x y z) (lk ofC x y z)) (lk uB (lk ofF x y z) (lk ofB x y z) (lk ofC x y z)) (lk ofC x y z)) (lk cmBy (lk uF (lk ofF a b c) (lk ofB a b c) (lk ofC a b c)) (lk uB (lk ofF a b c)
      (lk ofB a b c) (lk ofC a b c)) (lk ofC a b c) (lk uF (lk ofF x y z) (lk ofB x y z) (lk ofC x y z)) (lk uB (lk ofF x y z) (lk ofB x y z) (lk ofC x y z)) (lk ofC x y z)) (lk cmCnt (lk
      uF (lk ofF a b c) (lk ofB a b c) (lk ofC a b c)) (lk uB (lk ofF a b c) (lk ofB a b c) (lk ofC a b c)) (lk ofC a b c) (lk uF (lk ofF x y z) (lk ofB x y z) (lk ofC x y z)) (lk uB (lk
      ofF x y z) (lk ofB x y z) (lk ofC x y z)) (lk ofC x y z))) (lk uB (lk ofF a b c) (lk ofB a b c) (lk ofC a b c))) (lk uB (lk ofF a b c) (lk ofB a b c) (lk ofC a b c)) (U.quo .i64
      (U.sub .i64 (lk sLast (lk uF (lk ofF a b c) (lk ofB a b c) (lk ofC a b c)) (lk uB (lk ofF a b c) (lk ofB a b c) (lk ofC a b c)) (lk ofC a b c)) (lk sLast (lk cmFst (lk uF (lk ofF a
      b c) (lk ofB a b c) (lk ofC a b c)) (lk uB (lk ofF a b c) (lk ofB a b c) (lk ofC a b c)) (lk ofC a b c) (lk uF (lk ofF x y z) (lk ofB x y z) (lk ofC x y z)) (lk uB (lk ofF x y z)
      (lk ofB x y z) (lk ofC x y z)) (lk ofC x y z)) (lk cmBy (lk uF (lk ofF a b c) (lk ofB a b c) (lk ofC a b c)) (lk uB (lk ofF a b c) (lk ofB a b c) (lk ofC a b c)) (lk ofC a b c) (lk
      uF (lk ofF x y z) (lk ofB x y z) (lk ofC x y z)) (lk uB (lk ofF x y z) (lk ofB x y z) (lk ofC x y z)) (lk ofC x y z)) (lk cmCnt (lk uF (lk ofF a b c) (lk ofB a b c) (lk ofC a b c))
      (lk uB (lk ofF a b c) (lk ofB a b c) (lk ofC a b c)) (lk ofC a b c) (lk uF (lk ofF x y z) (lk ofB x y z) (lk ofC x y z)) (lk uB (lk ofF x y z) (lk ofB x y z) (lk ofC x y z)) (lk ofC
      x y z)))) (lk uB (lk ofF a b c) (lk ofB a b c) (lk ofC a b c))) c) (U.quo .i64 (U.sub .i64 (lk sLast (lk uF (lk ofF a b c) (lk ofB a b c) (lk ofC a b c)) (lk uB (lk ofF a b c) (lk
      ofB a b c) (lk ofC a b c)) (lk ofC a b c)) (lk sLast (lk cmFst (lk uF (lk ofF a b c) (lk ofB a b c) (lk ofC a b c)) (lk uB (lk ofF a b c) (lk ofB a b c) (lk ofC a b c)) (lk ofC a b
      c) (lk uF (lk ofF x y z) (lk ofB x y z) (lk ofC x y z)) (lk uB (lk ofF x y z) (lk ofB x y z) (lk ofC x y z)) (lk ofC x y z)) (lk cmBy (lk uF (lk ofF a b c) (lk ofB a b c) (lk ofC a
      b c)) (lk uB (lk ofF a b c) (lk ofB a b c) (lk ofC a b c)) (lk ofC a b c) (lk uF (lk ofF x y z) (lk ofB x y z) (lk ofC x y z)) (lk uB (lk ofF x y z) (lk ofB x y z) (lk ofC x y z))
      (lk ofC x y z)) (lk cmCnt (lk uF (lk ofF a b c) (lk ofB a b c) (lk ofC a b c)) (lk uB (lk ofF a b c) (lk ofB a b c) (lk ofC a b c)) (lk ofC a b c) (lk uF (lk ofF x y z) (lk ofB x y
      z) (lk ofC x y z)) (lk uB (lk ofF x y z) (lk ofB x y z) (lk ofC x y z)) (lk ofC x y z)))) (lk uB (lk ofF a b c) (lk ofB a b c) (lk ofC a b c))), lk nStr (lk kF (U.add .i64 (lk sLast
      (lk cmFst (lk uF (lk ofF a b c) (lk ofB a b c) (lk ofC a b c)) (lk uB (lk ofF a b c) (lk ofB a b c) (lk ofC a b c)) (lk ofC a b c) (lk uF (lk ofF x y z) (lk ofB x y z) (lk ofC x y
      z)) (lk uB (lk ofF x y z) (lk ofB x y z) (lk ofC x y z)) (lk ofC x y z)) (lk cmBy (lk uF (lk ofF a b c) (lk ofB a b c) (lk ofC a b c)) (lk uB (lk ofF a b c) (lk ofB a b c) (lk ofC a
      b c)) (lk ofC a b c) (lk uF (lk ofF x y z) (lk ofB x y z) (lk ofC x y z)) (lk uB (lk ofF x y z) (lk ofB x y z) (lk ofC x y z)) (lk ofC x y z)) (lk cmCnt (lk uF (lk ofF a b c) (lk
      ofB a b c) (lk ofC a b c)) (lk uB (lk ofF a b c) (lk ofB a b c) (lk ofC a b c)) (lk ofC a b c) (lk uF (lk ofF x y z) (lk ofB x y z) (lk ofC x y z)) (lk uB (lk ofF x y z) (lk ofB x y
      z) (lk ofC x y z)) (lk ofC x y z))) (lk uB (lk ofF a b c) (lk ofB a b c) (lk ofC a b c))) (lk uB (lk ofF a b c) (lk ofB a b c) (lk ofC a b c)) (U.quo .i64 (U.sub .i64 (lk sLast (lk
      uF (lk ofF a b c) (lk ofB a b c) (lk ofC a b c)) (lk uB (lk ofF a b c) (lk ofB a b c) (lk ofC a b c)) (lk ofC a b c)) (lk sLast (lk cmFst (lk uF (lk ofF a b c) (lk ofB a b c) (lk
      ofC a b c)) (lk uB (lk ofF a b c) (lk ofB a b c) (lk ofC a b c)) (lk ofC a b c) (lk uF (lk ofF x y z) (lk ofB x y z) (lk ofC x y z)) (lk uB (lk ofF x y z) (lk ofB x y z) (lk ofC x y
      z)) (lk ofC x y z)) (lk cmBy (lk uF (lk ofF a b c) (lk ofB a b c) (lk ofC a b c)) (lk uB (lk ofF a b c) (lk ofB a b c) (lk ofC a b c)) (lk ofC a b c) (lk uF (lk ofF x y z) (lk ofB x
      y z) (lk ofC x y z)) (lk uB (lk ofF x y z) (lk ofB x y z) (lk ofC x y z)) (lk ofC x y z)) (lk cmCnt (lk uF (lk ofF a b c) (lk ofB a b c) (lk ofC a b c)) (lk uB (lk ofF a b c) (lk
      ofB a b c) (lk ofC a b c)) (lk ofC a b c) (lk uF (lk ofF x y z) (lk ofB x y z) (lk ofC x y z)) (lk uB (lk ofF x y z) (lk ofB x y z) (lk ofC x y z)) (lk ofC x y z)))) (lk uB (lk ofF
      a b c) (lk ofB a b c) (lk ofC a b c))) c) (lk kB (U.add .i64 (lk sLast (lk cmFst (lk uF (lk ofF a b c) (lk ofB a b c) (lk ofC a b c)) (lk uB (lk ofF a b c) (lk ofB a b c) (lk ofC a
      b c)) (lk ofC a b c) (lk uF (lk ofF x y z) (lk ofB x y z) (lk ofC x y z)) (lk uB (lk ofF x y z) (lk ofB x y z) (lk ofC x y z)) (lk ofC x y z)) (lk cmBy (lk uF (lk ofF a b c) (lk ofB
      a b c) (lk ofC a b c)) (lk uB (lk ofF a b c) (lk ofB a b c) (lk ofC a b c)) (lk ofC a b c) (lk uF (lk ofF x y z) (lk ofB x y z) (lk ofC x y z)) (lk uB (lk ofF x y z) (lk ofB x y z)
      (lk ofC x y z)) (lk ofC x y z)) (lk cmCnt (lk uF (lk ofF a b c) (lk ofB a b c) (lk ofC a b c)) (lk uB (lk ofF a b c) (lk ofB a b c) (lk ofC a b c)) (lk ofC a b c) (lk uF (lk ofF x y
      z) (lk ofB x y z) (lk ofC x y z)) (lk uB (lk ofF x y z) (lk ofB x y z) (lk ofC x y z)) (lk ofC x y z))) (lk uB (lk ofF a b c) (lk ofB a b c) (lk ofC a b c))) (lk uB (lk ofF a b c)
      (lk ofB a b c) (lk ofC a b c)) (U.quo .i64 (U.sub .i64 (lk sLast (lk uF (lk ofF a b c) (lk ofB a b c) (lk ofC a b c)) (lk uB (lk ofF a b c) (lk ofB a b c) (lk ofC a b c)) (lk ofC a
      b c)) (lk sLast (lk cmFst (lk uF (lk ofF a b c) (lk ofB a b c) (lk ofC a b c)) (lk uB (lk ofF a b c) (lk ofB a b c) (lk ofC a b c)) (lk ofC a b c) (lk uF (lk ofF x y z) (lk ofB x y
      z) (lk ofC x y z)) (lk uB (lk ofF x y z) (lk ofB x y z) (lk ofC x y z)) (lk ofC x y z)) (lk cmBy (lk uF (lk ofF a b c) (lk ofB a b c) (lk ofC a b c)) (lk uB (lk ofF a b c) (lk ofB a
      b c) (lk ofC a b c)) (lk ofC a b c) (lk uF (lk ofF x y z) (lk ofB x y z) (lk ofC x y z)) (lk uB (lk ofF x y z) (lk ofB x y z) (lk ofC x y z)) (lk ofC x y z)) (lk cmCnt (lk uF (lk
      ofF a b c) (lk ofB a b c) (lk ofC a b c)) (lk uB (lk ofF a b c) (lk ofB a b c) (lk ofC a b c)) (lk ofC a b c) (lk uF (lk ofF x y z) (lk ofB x y z) (lk ofC x y z)) (lk uB (lk ofF x y
      z) (lk ofB x y z) (lk ofC x y z)) (lk ofC x y z)))) (lk uB (lk ofF a b c) (lk ofB a b c) (lk ofC a b c))) c) (U.quo .i64 (U.sub .i64 (lk sLast (lk uF (lk ofF a b c) (lk ofB a b c)
      (lk ofC a b c)) (lk uB (lk ofF a b c) (lk ofB a b c) (lk ofC a b c)) (lk ofC a b c)) (lk sLast (lk cmFst (lk uF (lk ofF a b c) (lk ofB a b c) (lk ofC a b c)) (lk uB (lk ofF a b c)
      (lk ofB a b c) (lk ofC a b c)) (lk ofC a b c) (lk uF (lk ofF x y z) (lk ofB x y z) (lk ofC x y z)) (lk uB (lk ofF x y z) (lk ofB x y z) (lk ofC x y z)) (lk ofC x y z)) (lk cmBy (lk
      uF (lk ofF a b c) (lk ofB a b c) (lk ofC a b c)) (lk uB (lk ofF a b c) (lk ofB a b c) (lk ofC a b c)) (lk ofC a b c) (lk uF (lk ofF x y z) (lk ofB x y z) (lk ofC x y z)) (lk uB (lk
      ofF x y z) (lk ofB x y z) (lk ofC x y z)) (lk ofC x y z)) (lk cmCnt (lk uF (lk ofF a b c) (lk ofB a b c) (lk ofC a b c)) (lk uB (lk ofF a b c) (lk ofB a b c) (lk ofC a b c)) (lk ofC
      a b c) (lk uF (lk ofF x y z) (lk ofB x y z) (lk ofC x y z)) (lk uB (lk ofF x y z) (lk ofB x y z) (lk ofC x y z)) (lk ofC x y z)))) (lk uB (lk ofF a b c) (lk ofB a b c) (lk ofC a b
      c))), PUnit.unit)), .lit (.int .i64 0)])))))) (.br (U.gt (Int.ofNat (nat_lit 0 + lk pM (lk uB (lk ofF a b c) (lk ofB a b c) (lk ofC a b c)) (lk cmBy (lk uF (lk ofF a b c) (lk ofB a
      b c) (lk ofC a b c)) (lk uB (lk ofF a b c) (lk ofB a b c) (lk ofC a b c)) (lk ofC a b c) (lk uF (lk ofF x y z) (lk ofB x y z) (lk ofC x y z)) (lk uB (lk ofF x y z) (lk ofB x y z)
      (lk ofC x y z)) (lk ofC x y z)) (lk cmCnt (lk uF (lk ofF a b c) (lk ofB a b c) (lk ofC a b c)) (lk uB (lk ofF a b c) (lk ofB a b c) (lk ofC a b c)) (lk ofC a b c) (lk uF (lk ofF x y
      z) (lk ofB x y z) (lk ofC x y z)) (lk uB (lk ofF x y z) (lk ofB x y z) (lk ofC x y z)) (lk ofC x y z)) (nat_lit 0))) (1000 : Int)) (.ret (.tup [.lit (.slice none (nat_lit 0)
      (nat_lit 0)), .lit (.int .i64 7)])) (.ret (.tup [.row [.int .i64, .int .i64, .int .i64] (nat_lit 0 + lk pM (lk uB (lk ofF a b c) (lk ofB a b c) (lk ofC a b c)) (lk cmBy (lk uF (lk
      ofF a b c) (lk ofB a b c) (lk ofC a b c)) (lk uB (lk ofF a b c) (lk ofB a b c) (lk ofC a b c)) (lk ofC a b c) (lk uF (lk ofF x y z) (lk ofB x y z) (lk ofC x y z)) (lk uB (lk ofF x y
      z) (lk ofB x y z) (lk ofC x y z)) (lk ofC x y z)) (lk cmCnt (lk uF (lk ofF a b c) (lk ofB a b c) (lk ofC a b c)) (lk uB (lk ofF a b c) (lk ofB a b c) (lk ofC a b c)) (lk ofC a b c)
      (lk uF (lk ofF x y z) (lk ofB x y z) (lk ofC x y z)) (lk uB (lk ofF x y z) (lk ofB x y z) (lk ofC x y z)) (lk ofC x y z)) (nat_lit 0)) (lk ppF c (lk uB (lk ofF a b c) (lk ofB a b c)
      (lk ofC a b c)) (lk cmFst (lk uF (lk ofF a b c) (lk ofB a b c) (lk ofC a b c)) (lk uB (lk ofF a b c) (lk ofB a b c) (lk ofC a b c)) (lk ofC a b c) (lk uF (lk ofF x y z) (lk ofB x y
      z) (lk ofC x y z)) (lk uB (lk ofF x y z) (lk ofB x y z) (lk ofC x y z)) (lk ofC x y z)) (lk cmBy (lk uF (lk ofF a b c) (lk ofB a b c) (lk ofC a b c)) (lk uB (lk ofF a b c) (lk ofB a
      b c) (lk ofC a b c)) (lk ofC a b c) (lk uF (lk ofF x y z) (lk ofB x y z) (lk ofC x y z)) (lk uB (lk ofF x y z) (lk ofB x y z) (lk ofC x y z)) (lk ofC x y z)) (lk cmCnt (lk uF (lk
      ofF a b c) (lk ofB a b c) (lk ofC a b c)) (lk uB (lk ofF a b c) (lk ofB a b c) (lk ofC a b c)) (lk ofC a b c) (lk uF (lk ofF x y z) (lk ofB x y z) (lk ofC x y z)) (lk uB (lk ofF x y
      z) (lk ofB x y z) (lk ofC x y z)) (lk ofC x y z)) (nat_lit 0) fun x => ((0 : Int), (0 : Int), (0 : Int), PUnit.unit)), .lit (.int .i64 0)])))) (.br (U.gt (Int.ofNat (nat_lit 0 + lk
      pM (lk uB (lk ofF a b c) (lk ofB a b c) (lk ofC a b c)) (lk cmBy (lk uF (lk ofF a b c) (lk ofB a b c) (lk ofC a b c)) (lk uB (lk ofF a b c) (lk ofB a b c) (lk ofC a b c)) (lk ofC a
      b c) (lk uF (lk ofF x y z) (lk ofB x y z) (lk ofC x y z)) (lk uB (lk ofF x y z) (lk ofB x y z) (lk ofC x y z)) (lk ofC x y z)) (lk cmCnt (lk uF (lk ofF a b c) (lk ofB a b c) (lk ofC
      a b c)) (lk uB (lk ofF a b c) (lk ofB a b c) (lk ofC a b c)) (lk ofC a b c) (lk uF (lk ofF x y z) (lk ofB x y z) (lk ofC x y z)) (lk uB (lk ofF x y z) (lk ofB x y z) (lk ofC x y z))
      (lk ofC x y z)) (nat_lit 0))) (1000 : Int)) (.ret (.tup [.lit (.slice none (nat_lit 0) (nat_lit 0)), .lit (.int .i64 7)])) (.ret (.tup [.row [.int .i64, .int .i64, .int .i64]
      (nat_lit 0 + lk pM (lk uB (lk ofF a b c) (lk ofB a b c) (lk ofC a b c)) (lk cmBy (lk uF (lk ofF a b c) (lk ofB a b c) (lk ofC a b c)) (lk uB (lk ofF a b c) (lk ofB a b c) (lk ofC a
      b c)) (lk ofC a b c) (lk uF (lk ofF x y z) (lk ofB x y z) (lk ofC x y z)) (lk uB (lk ofF x y z) (lk ofB x y z) (lk ofC x y z)) (lk ofC x y z)) (lk cmCnt (lk uF (lk ofF a b c) (lk
      ofB a b c) (lk ofC a b c)) (lk uB (lk ofF a b c) (lk ofB a b c) (lk ofC a b c)) (lk ofC a b c) (lk uF (lk ofF x y z) (lk ofB x y z) (lk ofC x y z)) (lk uB (lk ofF x y z) (lk ofB x y
      z) (lk ofC x y z)) (lk ofC x y z)) (nat_lit 0)) (lk ppF c (lk uB (lk ofF a b c) (lk ofB a b c) (lk ofC a b c)) (lk cmFst (lk uF (lk ofF a b c) (lk ofB a b c) (lk ofC a b c)) (lk uB
      (lk ofF a b c) (lk ofB a b c) (lk ofC a b c)) (lk ofC a b c) (lk uF (lk ofF x y z) (lk ofB x y z) (lk ofC x y z)) (lk uB (lk ofF x y z) (lk ofB x y z) (lk ofC x y z)) (lk ofC x y
      z)) (lk cmBy (lk uF (lk ofF a b c) (lk ofB a b c) (lk ofC a b c)) (lk uB (lk ofF a b c) (lk ofB a b c) (lk ofC a b c)) (lk ofC a b c) (lk uF (lk ofF x y z) (lk ofB x y z) (lk ofC x
      y z)) (lk uB (lk ofF x y z) (lk ofB x y z) (lk ofC x y z)) (lk ofC x y z)) (lk cmCnt (lk uF (lk ofF a b c) (lk ofB a b c) (lk ofC a b c)) (lk uB (lk ofF a b c) (lk ofB a b c) (lk
      ofC a b c)) (lk ofC a b c) (lk uF (lk ofF x y z) (lk ofB x y z) (lk ofC x y z)) (lk uB (lk ofF x y z) (lk ofB x y z) (lk ofC x y z)) (lk ofC x y z)) (nat_lit 0) fun x => ((0 : Int),
      (0 : Int), (0 : Int), PUnit.unit)), .lit (.int .i64 0)])))))))))))))))))) := by kernel_rfl
noncomputable def sbR (a b c x y z : Int) : SV := .tup [.row [.int .i64, .int .i64, .int .i64] (sbN a b c x y z) (sbF a b c x y z), .lit (.int .i64 (sbE a b c x y z))]
noncomputable def c_Subtract : Con := fun args => match args with
  | [.agg [.lit (.int .i64 a), .lit (.int .i64 b), .lit (.int .i64 c)], .agg [.lit (.int .i64 x), .lit (.int .i64 y), .lit (.int .i64 z)]] =>
    .ask (I64 a ∧ I64 b ∧ I64 c ∧ I64 x ∧ I64 y ∧ I64 z) (.ret (.tup [.row [.int .i64, .int .i64, .int .i64] (lk sbN a b c x y z) (lk sbF a b c x y z), .lit (.int .i64 (lk sbE a b c x y z))]))
  | _ => .stuck 1
section
variable {a b c x y z : Int}
theorem cl_lit {v w : Value} (h : v = w) : Cl (.lit v) (.lit w) := .inl (by rw [h])
theorem cl_nil0 {n : Nat} {f : Nat → R3} (h : n = 0) : Cl (.lit (.slice none 0 0)) (.row [.int .i64, .int .i64, .int .i64] n f) := .inr ⟨rfl, h⟩
theorem cl_row' {n m : Nat} {f g : Nat → R3} (h : n = m) (hf : ∀ i, i < n → f i = g i) : Cl (.row [.int .i64, .int .i64, .int .i64] n f) (.row [.int .i64, .int .i64, .int .i64] m g) := ⟨h, sameR hf⟩
theorem sbR_err (h0 : ckd a b c x y z ≠ 0) : Cl (.tup [.lit (.slice none 0 0), .lit (.int .i64 (ckd a b c x y z))]) (sbR a b c x y z) :=
  ⟨cl_nil0 (by unfold sbN; rw [if_pos h0]), cl_lit (by unfold sbE; rw [if_pos h0]), rfl⟩
theorem sbR_big (h0 : ¬ ckd a b c x y z ≠ 0) (hC : isC a b c x y z ≠ 0) (hb : 1000 < sbAll a b c x y z) : Cl (.tup [.lit (.slice none 0 0), .lit (.int .i64 7)]) (sbR a b c x y z) :=
  ⟨cl_nil0 (by unfold sbN; rw [if_neg h0, if_neg hC, if_pos hb]), cl_lit (by unfold sbE; rw [if_neg h0, if_neg hC, if_pos hb]), rfl⟩
theorem sbR_ok (h0 : ¬ ckd a b c x y z ≠ 0) (hC : isC a b c x y z ≠ 0) (hb : sbAll a b c x y z ≤ 1000) {n : Nat} {f : Nat → R3} (hn : n = sbAll a b c x y z) (hf : ∀ i, i < n → f i = sbF a b c x y z i) : Cl (.tup [.row [.int .i64, .int .i64, .int .i64] n f, .lit (.int .i64 0)]) (sbR a b c x y z) :=
  ⟨cl_row' (by unfold sbN; rw [if_neg h0, if_neg hC, if_neg (by omega)]; exact hn) hf, cl_lit (by unfold sbE; rw [if_neg h0, if_neg hC, if_neg (by omega)]), rfl⟩
theorem sbR_whole (h0 : ¬ ckd a b c x y z ≠ 0) (hC : isC a b c x y z = 0) (hc : 0 < ofC a b c) {f : Nat → R3} (hf : f 0 = pc (sA a b c) (sS a b c) (ofC a b c) c) : Cl (.tup [.row [.int .i64, .int .i64, .int .i64] 1 f, .lit (.int .i64 0)]) (sbR a b c x y z) :=
  ⟨cl_row' (by unfold sbN; rw [if_neg h0, if_pos hC, if_pos hc]) (fun i hi => by
    obtain rfl : i = 0 := by omega
    unfold sbF; rw [if_pos hC]; exact hf), cl_lit (by unfold sbE; rw [if_neg h0, if_pos hC]), rfl⟩
theorem sbR_none (h0 : ¬ ckd a b c x y z ≠ 0) (hC : isC a b c x y z = 0) (hc : ¬ 0 < ofC a b c) : Cl (.tup [.lit (.slice none 0 0), .lit (.int .i64 0)]) (sbR a b c x y z) :=
  ⟨cl_nil0 (by unfold sbN; rw [if_neg h0, if_pos hC, if_neg hc]), cl_lit (by unfold sbE; rw [if_neg h0, if_pos hC]), rfl⟩
end
set_option maxHeartbeats 4000000 in
theorem Subtract_ok : ConOK P 23 c_Subtract := con_cl (allOKL mixed ku_ok l52_ok) 10 23 fun args r h => by
  unfold c_Subtract at h
  split at h
  · rename_i a b c x y z
    have hp := (T.is_ask h).1
    have h := (T.is_ask h).2
    obtain rfl := T.is_ret h
    rw [t_Subtract]
    obtain ⟨ha, hb, hc, hx, hy, hz⟩ := hp
    have f1 : uF (ofF a b c) (ofB a b c) (ofC a b c) = sA a b c := rfl
    have f2 : uB (ofF a b c) (ofB a b c) (ofC a b c) = sS a b c := rfl
    have f3 : uF (ofF x y z) (ofB x y z) (ofC x y z) = sA x y z := rfl
    have f4 : uB (ofF x y z) (ofB x y z) (ofC x y z) = sS x y z := rfl
    have f5 : cmFst (sA a b c) (sS a b c) (ofC a b c) (sA x y z) (sS x y z) (ofC x y z) = isF a b c x y z := rfl
    have f6 : cmBy (sA a b c) (sS a b c) (ofC a b c) (sA x y z) (sS x y z) (ofC x y z) = isB a b c x y z := rfl
    have f7 : cmCnt (sA a b c) (sS a b c) (ofC a b c) (sA x y z) (sS x y z) (ofC x y z) = isC a b c x y z := rfl
    have f8 : sLast (sA a b c) (sS a b c) (ofC a b c) = sbT a b c := rfl
    have f9 : sLast (isF a b c x y z) (isB a b c x y z) (isC a b c x y z) = sbL a b c x y z := rfl
    simp only [lk_eq, f1, f2, f3, f4, f5, f6, f7, f8, f9]
    refine T.all_mono (K := fun s => Cl s (sbR a b c x y z)) (fun s hs => hs) ?_
    refine ⟨⟨ha, hb, hc, hx, hy, hz⟩, fun h => sbR_err (U.ne_t.mp h), fun h => ?_⟩
    rw [U.ne_f] at h
    obtain ⟨r1, r2⟩ := ckd_right h
    have h0 : ¬ ckd a b c x y z ≠ 0 := by simp [h]
    have hsw := (is_sw r1 r2).1
    have hser := up_ser r1
    refine ⟨of_ask r1 ha hb hc, up_ask r1, of_ask r2 hx hy hz, up_ask r2, ⟨up_ser r1, up_ser r2⟩, fun hC => ?_, fun hC => ?_⟩
    · have hC : isC a b c x y z = 0 := U.eq_t.mp hC
      refine ⟨fun hc0 => ?_, fun hc0 => ?_⟩
      · have hc0 : 0 < ofC a b c := U.gt_t.mp hc0
        obtain ⟨c1, c2, c3, c4, c5, c6⟩ := hser.resolve_left (by omega)
        obtain ⟨l1, l2⟩ := pc_asks (f := sA a b c) (s := sS a b c) (C := ofC a b c) (c := c) c3 (by omega) c1 c2 c5 c6
        exact ⟨l1, l2, by decide, sbR_whole h0 hC hc0 (pc_eq c3)⟩
      · exact sbR_none h0 hC (by have := U.gt_f.mp hc0; omega)
    · have hC : isC a b c x y z ≠ 0 := U.eq_f.mp hC
      obtain ⟨hab, hxy, eA, eS, s1, s2, eT, C1, C2, B1, B2, lo, hi, FL, k0, k1, k0n, k1n, k0b, k1b, eF, eb, eK0, eK1, hm⟩ := sb_facts r1 r2 hC
      have eL : sbL a b c x y z = isF a b c x y z + isB a b c x y z * (isC a b c x y z - 1) := rfl
      have eTT : sbT a b c = sA a b c + sS a b c * (ofC a b c - 1) := rfl
      obtain ⟨c1, c2, c3, c4, c5, c6⟩ := hser.resolve_left (by have := (parts r1 hab).2.2.1; omega)
      have p0 := mulle (s := absI c) (x := 0) (y := k0) s1 k0n
      have p1 := mulle (s := absI c) (x := 0) (y := k1) s1 k1n
      have pB := mulle (s := isB a b c x y z) (x := 0) (y := isC a b c x y z - 1) B1 (by omega)
      rw [Int.mul_zero] at p0 p1 pB
      have aS : I64 (ofC a b c - 1) ∧ I64 (sS a b c * (ofC a b c - 1)) ∧ I64 (sA a b c + sS a b c * (ofC a b c - 1)) := by unfold I64; rw [← eTT, eT]; omega
      have ad : I64 (isC a b c x y z - 1) ∧ I64 (isB a b c x y z * (isC a b c x y z - 1)) ∧ I64 (isF a b c x y z + isB a b c x y z * (isC a b c x y z - 1)) := by unfold I64; omega
      have hs0 : sS a b c ≠ 0 := by omega
      have eK0' : U.quo .i64 (U.sub .i64 (isF a b c x y z) (sA a b c)) (sS a b c) = k0 := by
        rw [U.sub64 (by unfold I64; omega), U.quo64 (by rw [eK0]; unfold I64; omega), eK0]
      have eK1' : U.quo .i64 (U.sub .i64 (sbT a b c) (sbL a b c x y z)) (sS a b c) = k1 := by
        rw [U.sub64 (by unfold I64; omega), U.quo64 (by rw [eK1]; unfold I64; omega), eK1]
      have eS0 : U.add .i64 (sbL a b c x y z) (sS a b c) = sbL a b c x y z + sS a b c := U.add64 (by unfold I64; omega)
      have m0 : absI c * (k0 - 1) = absI c * k0 - absI c := by rw [Int.mul_sub, Int.mul_one]
      have m1 : absI c * (k1 - 1) = absI c * k1 - absI c := by rw [Int.mul_sub, Int.mul_one]
      have pre : ∀ (u : Bool) (n : Nat), n ≤ 1 → PreP 0 (sS a b c) (isF a b c x y z) (isB a b c x y z) (isC a b c x y z) u n := fun u n hn => by
        refine ⟨rfl, by omega, ⟨B1, B2⟩, ⟨C1, C2⟩, by omega, fun h => ?_, hn⟩
        obtain ⟨m, _, _, e, _⟩ := hm h
        exact ⟨m, by rw [eS]; exact e⟩
      have hN1 : (0 < k1 → sbN1 a b c x y z = 1) ∧ (k1 ≤ 0 → sbN1 a b c x y z = 0) := by
        unfold sbN1
        rw [eT]
        constructor
        · intro hk
          have := mulle (s := absI c) (x := 1) (y := k1) s1 (by omega)
          rw [if_pos (by omega)]
        · intro hk
          obtain rfl : k1 = 0 := by omega
          rw [if_neg (by rw [Int.mul_zero] at eb; omega)]
      have hN0 : (0 < k0 → sbN0 a b c x y z = 1) ∧ (k0 ≤ 0 → sbN0 a b c x y z = 0) := by
        unfold sbN0
        rw [eA]
        constructor
        · intro hk
          have := mulle (s := absI c) (x := 1) (y := k0) s1 (by omega)
          rw [if_pos (by omega)]
        · intro hk
          obtain rfl : k0 = 0 := by omega
          rw [if_neg (by rw [Int.mul_zero] at eF; omega)]
      have hpm : ∀ n, n ≤ 1 → pM (sS a b c) (isB a b c x y z) (isC a b c x y z) n = min (sbM a b c x y z) (1001 - n) := fun n hn => by
        unfold pM sbM rM
        by_cases h1 : 1 < isC a b c x y z
        · rw [if_pos h1, if_pos h1]
        · rw [if_neg h1, if_neg h1]; omega
      have hF : ∀ (n : Nat) (f : Nat → R3) (i : Nat), n = sbN0 a b c x y z → (∀ i, i < n → f i = sbF a b c x y z i) → i < n + sbM a b c x y z → ppF c (sS a b c) (isF a b c x y z) (isB a b c x y z) (isC a b c x y z) n f i = sbF a b c x y z i := fun n f i hn hf hi => by
        by_cases hlt : i < n
        · exact (cat_l hlt).trans (hf i hlt)
        · refine (cat_r (by omega)).trans ?_
          unfold sbF
          rw [if_neg hC, if_neg (by omega), if_pos (by omega), hn]
          rfl
      have al := pc_asks (f := sbL a b c x y z + sS a b c) (s := sS a b c) (C := k1) (c := c) c3 (by omega)
      have a0 := pc_asks (f := sA a b c) (s := sS a b c) (C := k0) (c := c) c3 (by omega)
      have hpm0 := hpm 0 (by omega)
      have hpm1 := hpm 1 (by omega)
      simp only [eK0', eK1', eS0]
      refine ⟨hs0, fun hk => ?_, fun hk => ?_⟩
      · have hk : 0 < k0 := U.gt_t.mp hk
        have hN0' := hN0.1 hk
        have al' : U.gt k1 0 = true → _ := fun g1 => by
          have g1' : 0 < k1 := U.gt_t.mp g1
          exact al (by omega) (by omega) (by omega) (by rw [eS, m1]; omega)
        have a0' := a0 (by omega) (by omega) (by omega) (by rw [eS, m0]; omega)
        refine ⟨a0'.1, a0'.2, by decide, ?_⟩
        refine ⟨⟨pre _ _ (by omega), (by first | trivial | rfl), (by first | trivial | rfl)⟩, ad, aS, ad, hs0, fun g1 => ⟨fun g2 => ⟨(al' g1).1, (al' g1).2, ?_, fun g3 => ?_, fun g3 => ?_⟩, fun g2 => ⟨fun g3 => ?_, fun g3 => ?_⟩⟩, fun g1 => ⟨fun g2 => ?_, fun g2 => ?_⟩⟩
        · show (1 + pM _ _ _ 1 + 1) * 24 ≤ 140737488351232
          omega
        · have g3' : (1000 : Int) < ((1 + pM (sS a b c) (isB a b c x y z) (isC a b c x y z) 1 + 1 : Nat) : Int) := U.gt_t.mp g3
          have g2' : ((1 + pM (sS a b c) (isB a b c x y z) (isC a b c x y z) 1 : Nat) : Int) ≤ 1000 := U.le_t.mp g2
          have n1 := hN1.1 (U.gt_t.mp g1)
          exact sbR_big h0 hC (by unfold sbAll; omega)
        · have g3' : ((1 + pM (sS a b c) (isB a b c x y z) (isC a b c x y z) 1 + 1 : Nat) : Int) ≤ 1000 := U.gt_f.mp g3
          have n1 := hN1.1 (U.gt_t.mp g1)
          have hJ : pM (sS a b c) (isB a b c x y z) (isC a b c x y z) 1 = sbM a b c x y z := by omega
          refine sbR_ok h0 hC (by unfold sbAll; omega) (show 1 + pM _ _ _ 1 + 1 = _ by unfold sbAll; omega) fun i hi => ?_
          have hi' : i < 1 + pM (sS a b c) (isB a b c x y z) (isC a b c x y z) 1 + 1 := hi
          by_cases hlt : i < 1 + pM (sS a b c) (isB a b c x y z) (isC a b c x y z) 1
          · refine (cat_l hlt).trans ?_
            exact hF 1 _ i hN0'.symm (fun i hi => by
              obtain rfl : i = 0 := by omega
              refine (pc_eq c3).trans ?_
              unfold sbF
              rw [if_neg hC, if_pos (by omega), eK0]) (by omega)
          · refine (cat_r (show 1 + pM _ _ _ 1 ≤ i by omega)).trans ?_
            refine (pc_eq c3).trans ?_
            unfold sbF
            rw [if_neg hC, if_neg (by omega), if_neg (by omega)]
            rw [eK1]
        · have g2' : (1000 : Int) < ((1 + pM (sS a b c) (isB a b c x y z) (isC a b c x y z) 1 : Nat) : Int) := U.le_f.mp g2
          exact sbR_big h0 hC (by unfold sbAll; omega)
        · have g2' : (1000 : Int) < ((1 + pM (sS a b c) (isB a b c x y z) (isC a b c x y z) 1 : Nat) : Int) := U.le_f.mp g2
          have g3' : ((1 + pM (sS a b c) (isB a b c x y z) (isC a b c x y z) 1 : Nat) : Int) ≤ 1000 := U.gt_f.mp g3
          omega
        · have g2' : (1000 : Int) < ((1 + pM (sS a b c) (isB a b c x y z) (isC a b c x y z) 1 : Nat) : Int) := U.gt_t.mp g2
          exact sbR_big h0 hC (by unfold sbAll; omega)
        · have g2' : ((1 + pM (sS a b c) (isB a b c x y z) (isC a b c x y z) 1 : Nat) : Int) ≤ 1000 := U.gt_f.mp g2
          have n1 := hN1.2 (U.gt_f.mp g1)
          have hJ : pM (sS a b c) (isB a b c x y z) (isC a b c x y z) 1 = sbM a b c x y z := by omega
          refine sbR_ok h0 hC (by unfold sbAll; omega) (show 1 + pM _ _ _ 1 = _ by unfold sbAll; omega) fun i hi => ?_
          have hi' : i < 1 + pM (sS a b c) (isB a b c x y z) (isC a b c x y z) 1 := hi
          exact hF 1 _ i hN0'.symm (fun i hi => by
              obtain rfl : i = 0 := by omega
              refine (pc_eq c3).trans ?_
              unfold sbF
              rw [if_neg hC, if_pos (by omega), eK0]) (by omega)
      · have hk : k0 ≤ 0 := U.gt_f.mp hk
        have hN0' := hN0.2 hk
        have al' : U.gt k1 0 = true → _ := fun g1 => by
          have g1' : 0 < k1 := U.gt_t.mp g1
          exact al (by omega) (by omega) (by omega) (by rw [eS, m1]; omega)
        refine ⟨⟨pre _ _ (by omega), (by first | trivial | rfl)⟩, ad, aS, ad, hs0, fun g1 => ⟨fun g2 => ⟨(al' g1).1, (al' g1).2, ?_, fun g3 => ?_, fun g3 => ?_⟩, fun g2 => ⟨fun g3 => ?_, fun g3 => ?_⟩⟩, fun g1 => ⟨fun g2 => ?_, fun g2 => ?_⟩⟩
        · show (0 + pM _ _ _ 0 + 1) * 24 ≤ 140737488351232
          omega
        · have g3' : (1000 : Int) < ((0 + pM (sS a b c) (isB a b c x y z) (isC a b c x y z) 0 + 1 : Nat) : Int) := U.gt_t.mp g3
          have g2' : ((0 + pM (sS a b c) (isB a b c x y z) (isC a b c x y z) 0 : Nat) : Int) ≤ 1000 := U.le_t.mp g2
          have n1 := hN1.1 (U.gt_t.mp g1)
          exact sbR_big h0 hC (by unfold sbAll; omega)
        · have g3' : ((0 + pM (sS a b c) (isB a b c x y z) (isC a b c x y z) 0 + 1 : Nat) : Int) ≤ 1000 := U.gt_f.mp g3
          have n1 := hN1.1 (U.gt_t.mp g1)
          have hJ : pM (sS a b c) (isB a b c x y z) (isC a b c x y z) 0 = sbM a b c x y z := by omega
          refine sbR_ok h0 hC (by unfold sbAll; omega) (show 0 + pM _ _ _ 0 + 1 = _ by unfold sbAll; omega) fun i hi => ?_
          have hi' : i < 0 + pM (sS a b c) (isB a b c x y z) (isC a b c x y z) 0 + 1 := hi
          by_cases hlt : i < 0 + pM (sS a b c) (isB a b c x y z) (isC a b c x y z) 0
          · refine (cat_l hlt).trans ?_
            exact hF 0 _ i hN0'.symm (fun i hi => by omega) (by omega)
          · refine (cat_r (show 0 + pM _ _ _ 0 ≤ i by omega)).trans ?_
            refine (pc_eq c3).trans ?_
            unfold sbF
            rw [if_neg hC, if_neg (by omega), if_neg (by omega)]
            rw [eK1]
        · have g2' : (1000 : Int) < ((0 + pM (sS a b c) (isB a b c x y z) (isC a b c x y z) 0 : Nat) : Int) := U.le_f.mp g2
          exact sbR_big h0 hC (by unfold sbAll; omega)
        · have g2' : (1000 : Int) < ((0 + pM (sS a b c) (isB a b c x y z) (isC a b c x y z) 0 : Nat) : Int) := U.le_f.mp g2
          have g3' : ((0 + pM (sS a b c) (isB a b c x y z) (isC a b c x y z) 0 : Nat) : Int) ≤ 1000 := U.gt_f.mp g3
          omega
        · have g2' : (1000 : Int) < ((0 + pM (sS a b c) (isB a b c x y z) (isC a b c x y z) 0 : Nat) : Int) := U.gt_t.mp g2
          exact sbR_big h0 hC (by unfold sbAll; omega)
        · have g2' : ((0 + pM (sS a b c) (isB a b c x y z) (isC a b c x y z) 0 : Nat) : Int) ≤ 1000 := U.gt_f.mp g2
          have n1 := hN1.2 (U.gt_f.mp g1)
          have hJ : pM (sS a b c) (isB a b c x y z) (isC a b c x y z) 0 = sbM a b c x y z := by omega
          refine sbR_ok h0 hC (by unfold sbAll; omega) (show 0 + pM _ _ _ 0 = _ by unfold sbAll; omega) fun i hi => ?_
          have hi' : i < 0 + pM (sS a b c) (isB a b c x y z) (isC a b c x y z) 0 := hi
          exact hF 0 _ i hN0'.symm (fun i hi => by omega) (by omega)
  · exact h.elim
end Go.RX.Span

/- Domains: Intersect, Within, Same: the walks. -/
set_option linter.unusedVariables false
set_option linter.unusedSimpArgs false
set_option maxRecDepth 100000
namespace Go.RX.Span
open Go Go.RX
attribute [local irreducible] sx conB

noncomputable abbrev d1 : List (Nat × Con) := (63, c_DCheck) :: d0 --%K
theorem d1_ok : ∀ p ∈ d1, ConOK P p.1 p.2 := by
  intro p hp
  simp only [d1, List.mem_cons] at hp
  rcases hp with rfl | hp
  · exact DCheck_ok
  · exact d0_ok p (by simpa [d0] using hp)
set_option maxRecDepth 100000 in
theorem t_both (n : Nat) (f : Nat → R3) (k s h : Int) (m : Nat) (g : Nat → R3) (k1 s1 h1 : Int) : conB Go.Proofs.Try.prog (conOf d1) noLoops 10 149 [.agg [.row [.int .i64, .int .i64, .int .i64] n f, .lit (.int .i64 k), .lit (.int .i64 s), .lit (.int .i64 h)], .agg [.row [.int .i64, .int .i64, .int .i64] m g, .lit (.int .i64 k1), .lit (.int .i64 s1), .lit (.int .i64 h1)]] =
    T.ask (Row64 n f) (.br (U.ne (lk chD n f k s h) (0 : Int)) (.ret (.lit (.int .i64 (lk chD n f k s h)))) (.ask (Row64 m g) (.br (U.ne (lk chD m g k1 s1 h1) (0 : Int)) (.ret (.lit
      (.int .i64 (lk chD m g k1 s1 h1)))) (.br (U.ne (Int.ofNat n) (Int.ofNat m)) (.ret (.lit (.int .i64 5))) (.ret (.lit (.int .i64 0))))))) := by kernel_rfl
theorem both_ok : ConOK P 149 c_both := con_of (allOK mixed d1_ok) 10 149 fun args r h => by
  unfold c_both at h
  split at h
  · rename_i n f k s h' m g k1 s1 h1
    obtain ⟨hp, hq⟩ := (T.is_ask h).1
    have h := (T.is_ask h).2
    obtain rfl := T.is_ret h
    rw [t_both]
    unfold boE
    by_cases c1 : chD n f k s h' = 0
    · by_cases c2 : chD m g k1 s1 h1 = 0
      · by_cases c3 : n = m
        · subst c3
          simp [T.All, U.ne_eq, lk_eq, hp, hq, c1, c2]
        · have : ¬ ((n : Int) = (m : Int)) := by omega
          simp [T.All, U.ne_eq, lk_eq, hp, hq, c1, c2, c3, this]
      · simp [T.All, U.ne_eq, lk_eq, hp, hq, c1, c2]
    · simp [T.All, U.ne_eq, lk_eq, hp, hq, c1]
  · exact h.elim
set_option maxRecDepth 100000 in
theorem t_columns (n : Nat) (f : Nat → R3) (k s h : Int) : conB Go.Proofs.Try.prog (conOf d1) noLoops 10 128 [.agg [.row [.int .i64, .int .i64, .int .i64] n f, .lit (.int .i64 k), .lit (.int .i64 s), .lit (.int .i64 h)]] =
    T.br (U.eq (Int.ofNat n) (1 : Int)) (.ret (.lit (.int .i64 1))) (.ask ((0 : Int) ≤ (1 : Int) ∧ (1 : Int) < ↑n) (.ask (I64 (f (U.toNat (1 : Int))).1 ∧ I64 (f (U.toNat (1 : Int))).2.1
      ∧ I64 (f (U.toNat (1 : Int))).2.2.1) (.ret (.lit (.int .i64 (lk size (f (U.toNat (1 : Int))).1 (f (U.toNat (1 : Int))).2.1 (f (U.toNat (1 : Int))).2.2.1)))))) := by kernel_rfl
theorem tn1 : U.toNat (1 : Int) = 1 := by rw [U.toNat_eq]; rfl
theorem tn0 : U.toNat (0 : Int) = 0 := by rw [U.toNat_eq]; rfl
theorem columns_ok : ConOK P 128 c_columns := con_of (allOK mixed d1_ok) 10 128 fun args r h => by
  unfold c_columns at h
  split at h
  · rename_i n f k s h'
    obtain ⟨hp, hn⟩ := (T.is_ask h).1
    have h := (T.is_ask h).2
    obtain rfl := T.is_ret h
    rw [t_columns]
    simp only [tn1, lk_eq]
    rcases hn with rfl | rfl
    · simp [T.All, U.eq_eq, colD]
    · have hI : I64 (f 1).1 ∧ I64 (f 1).2.1 ∧ I64 (f 1).2.2.1 := hp 1 (by omega)
      refine ⟨fun h => ?_, fun _ => ⟨by omega, hI, rfl⟩⟩
      rw [U.eq_t] at h
      exact absurd h (by decide)
  · exact h.elim
noncomputable abbrev d2 : List (Nat × Con) := (149, c_both) :: (128, c_columns) :: d1 --%K
theorem d2_ok : ∀ p ∈ d2, ConOK P p.1 p.2 := by
  intro p hp
  simp only [d2, List.mem_cons] at hp
  rcases hp with rfl | rfl | hp
  · exact both_ok
  · exact columns_ok
  · exact d1_ok p (by simpa [d1] using hp)
set_option maxRecDepth 100000 in
theorem t_DSize (n : Nat) (f : Nat → R3) (k s h : Int) : conB Go.Proofs.Try.prog (conOf d2) noLoops 10 41 [.agg [.row [.int .i64, .int .i64, .int .i64] n f, .lit (.int .i64 k), .lit (.int .i64 s), .lit (.int .i64 h)]] =
    T.ask (Row64 n f) (.br (U.ne (lk chD n f k s h) (0 : Int)) (.ret (.lit (.int .i64 0))) (.ask ((0 : Int) ≤ (0 : Int) ∧ (0 : Int) < ↑n) (.ask (I64 (f (U.toNat (0 : Int))).1 ∧ I64 (f
      (U.toNat (0 : Int))).2.1 ∧ I64 (f (U.toNat (0 : Int))).2.2.1) (.ask (Row64 n f ∧ (n = (1 : Nat) ∨ n = (2 : Nat))) (.ret (.lit (.int .i64 (U.mul .i64 (lk size (f (U.toNat (0 :
      Int))).1 (f (U.toNat (0 : Int))).2.1 (f (U.toNat (0 : Int))).2.2.1) (lk colD n f))))))))) := by kernel_rfl
theorem DSize_ok : ConOK P 41 c_DSize := con_of (allOK mixed d2_ok) 10 41 fun args r h => by
  unfold c_DSize at h
  split at h
  · rename_i n f k s h'
    have hp : Row64 n f := (T.is_ask h).1
    have h := (T.is_ask h).2
    obtain rfl := T.is_ret h
    rw [t_DSize]
    simp only [tn0, lk_eq]
    refine ⟨hp, fun hc => ?_, fun hc => ?_⟩
    · have hc : chD n f k s h' ≠ 0 := U.ne_t.mp hc
      have e : szD n f k s h' = 0 := by unfold szD; rw [if_pos hc]
      rw [e]; exact rfl
    · have hc : chD n f k s h' = 0 := U.ne_f.mp hc
      obtain ⟨d1, d2⟩ := chD_zero.1 hc
      have hn := d1.1
      have hb := dr_prod d1
      refine ⟨by omega, hp 0 (by omega), ⟨hp, hn⟩, ?_⟩
      show SV.lit (.int .i64 (U.mul .i64 (szR (f 0)) (colD n f))) = _
      rw [U.mul64 (by unfold I64; omega), szD_right hc]
  · exact h.elim
noncomputable abbrev lDI : List (Nat × Loops) := [(155, [(4, .un 3)])] --%K
theorem lDI_ok : ∀ p ∈ lDI, LoopsOK P p.2 (bodyOf P p.1) := by
  intro p hp
  simp only [lDI, List.mem_singleton] at hp
  subst hp
  exact loopsOK_un fun q hq => by simp only [List.mem_singleton] at hq; subst hq; exact ⟨3, rfl⟩
set_option maxRecDepth 100000 in
theorem t_DIntersect (n : Nat) (f : Nat → R3) (k s h : Int) (m : Nat) (g : Nat → R3) (k1 s1 h1 : Int) : conB Go.Proofs.Try.prog (conOf d2) (loopsOf lDI) 10 76 [.agg [.row [.int .i64, .int .i64, .int .i64] n f, .lit (.int .i64 k), .lit (.int .i64 s), .lit (.int .i64 h)], .agg [.row [.int .i64, .int .i64, .int .i64] m g, .lit (.int .i64 k1), .lit (.int .i64 s1), .lit (.int .i64 h1)]] =
    T.ask (Row64 n f ∧ Row64 m g) (.br (U.ne (lk boE n f k s h m g k1 s1 h1) (0 : Int)) (.ret (.tup [.agg [.lit (.slice none (nat_lit 0) (nat_lit 0)), .lit (.int .i64 0), .lit (.int
      .i64 0), .lit (.int .i64 0)], .lit (.int .i64 (lk boE n f k s h m g k1 s1 h1))])) (.br (U.lt (0 : Int) (Int.ofNat n)) (.ask ((0 : Int) ≤ (0 : Int) ∧ (0 : Int) < ↑n) (.ask ((0 : Int)
      ≤ (0 : Int) ∧ (0 : Int) < ↑m) (.ask (I64 (f (U.toNat (Int.ofNat 0))).1 ∧ I64 (f (U.toNat (Int.ofNat 0))).2.1 ∧ I64 (f (U.toNat (Int.ofNat 0))).2.2.1 ∧ I64 (g (U.toNat (Int.ofNat
      0))).1 ∧ I64 (g (U.toNat (Int.ofNat 0))).2.1 ∧ I64 (g (U.toNat (Int.ofNat 0))).2.2.1) (.br (U.ne (lk isEr (f (U.toNat (Int.ofNat 0))).1 (f (U.toNat (Int.ofNat 0))).2.1 (f (U.toNat
      (Int.ofNat 0))).2.2.1 (g (U.toNat (Int.ofNat 0))).1 (g (U.toNat (Int.ofNat 0))).2.1 (g (U.toNat (Int.ofNat 0))).2.2.1) (0 : Int)) (.br (U.ne (lk isEr (f (U.toNat (Int.ofNat 0))).1
      (f (U.toNat (Int.ofNat 0))).2.1 (f (U.toNat (Int.ofNat 0))).2.2.1 (g (U.toNat (Int.ofNat 0))).1 (g (U.toNat (Int.ofNat 0))).2.1 (g (U.toNat (Int.ofNat 0))).2.2.1) (0 : Int)) (.ret
      (.tup [.agg [.lit (.slice none (nat_lit 0) (nat_lit 0)), .lit (.int .i64 0), .lit (.int .i64 0), .lit (.int .i64 0)], .lit (.int .i64 (lk isEr (f (U.toNat (Int.ofNat 0))).1 (f
      (U.toNat (Int.ofNat 0))).2.1 (f (U.toNat (Int.ofNat 0))).2.2.1 (g (U.toNat (Int.ofNat 0))).1 (g (U.toNat (Int.ofNat 0))).2.1 (g (U.toNat (Int.ofNat 0))).2.2.1))])) (.ret (.tup [.agg
      [.lit (.slice none (nat_lit 0) (nat_lit 0)), .lit (.int .i64 k), .lit (.int .i64 s), .lit (.int .i64 h)], .lit (.int .i64 0)]))) (.ask ((1 : Nat) * nat_lit 24 ≤ nat_lit
      140737488351232) (.br (U.lt (1 : Int) (Int.ofNat n)) (.ask ((0 : Int) ≤ (1 : Int) ∧ (1 : Int) < ↑n) (.ask ((0 : Int) ≤ (1 : Int) ∧ (1 : Int) < ↑m) (.ask (I64 (f (U.toNat (Int.ofNat
      1))).1 ∧ I64 (f (U.toNat (Int.ofNat 1))).2.1 ∧ I64 (f (U.toNat (Int.ofNat 1))).2.2.1 ∧ I64 (g (U.toNat (Int.ofNat 1))).1 ∧ I64 (g (U.toNat (Int.ofNat 1))).2.1 ∧ I64 (g (U.toNat
      (Int.ofNat 1))).2.2.1) (.br (U.ne (lk isEr (f (U.toNat (Int.ofNat 1))).1 (f (U.toNat (Int.ofNat 1))).2.1 (f (U.toNat (Int.ofNat 1))).2.2.1 (g (U.toNat (Int.ofNat 1))).1 (g (U.toNat
      (Int.ofNat 1))).2.1 (g (U.toNat (Int.ofNat 1))).2.2.1) (0 : Int)) (.br (U.ne (lk isEr (f (U.toNat (Int.ofNat 1))).1 (f (U.toNat (Int.ofNat 1))).2.1 (f (U.toNat (Int.ofNat 1))).2.2.1
      (g (U.toNat (Int.ofNat 1))).1 (g (U.toNat (Int.ofNat 1))).2.1 (g (U.toNat (Int.ofNat 1))).2.2.1) (0 : Int)) (.ret (.tup [.agg [.lit (.slice none (nat_lit 0) (nat_lit 0)), .lit (.int
      .i64 0), .lit (.int .i64 0), .lit (.int .i64 0)], .lit (.int .i64 (lk isEr (f (U.toNat (Int.ofNat 1))).1 (f (U.toNat (Int.ofNat 1))).2.1 (f (U.toNat (Int.ofNat 1))).2.2.1 (g
      (U.toNat (Int.ofNat 1))).1 (g (U.toNat (Int.ofNat 1))).2.1 (g (U.toNat (Int.ofNat 1))).2.2.1))])) (.ret (.tup [.agg [.row [.int .i64, .int .i64, .int .i64] (nat_lit 1) fun x => (lk
      isL (f (U.toNat (Int.ofNat 0))).1 (f (U.toNat (Int.ofNat 0))).2.1 (f (U.toNat (Int.ofNat 0))).2.2.1 (g (U.toNat (Int.ofNat 0))).1 (g (U.toNat (Int.ofNat 0))).2.1 (g (U.toNat
      (Int.ofNat 0))).2.2.1, lk isH (f (U.toNat (Int.ofNat 0))).1 (f (U.toNat (Int.ofNat 0))).2.1 (f (U.toNat (Int.ofNat 0))).2.2.1 (g (U.toNat (Int.ofNat 0))).1 (g (U.toNat (Int.ofNat
      0))).2.1 (g (U.toNat (Int.ofNat 0))).2.2.1, lk isS (f (U.toNat (Int.ofNat 0))).1 (f (U.toNat (Int.ofNat 0))).2.1 (f (U.toNat (Int.ofNat 0))).2.2.1 (g (U.toNat (Int.ofNat 0))).1 (g
      (U.toNat (Int.ofNat 0))).2.1 (g (U.toNat (Int.ofNat 0))).2.2.1, PUnit.unit), .lit (.int .i64 k), .lit (.int .i64 s), .lit (.int .i64 h)], .lit (.int .i64 0)]))) (.ask (((1 : Nat) +
      (1 : Nat)) * nat_lit 24 ≤ nat_lit 140737488351232) (.br (U.lt (2 : Int) (Int.ofNat n)) (.ask ((0 : Int) ≤ (2 : Int) ∧ (2 : Int) < ↑n) (.ask ((0 : Int) ≤ (2 : Int) ∧ (2 : Int) < ↑m)
      (.ask (I64 (f (U.toNat (Int.ofNat 2))).1 ∧ I64 (f (U.toNat (Int.ofNat 2))).2.1 ∧ I64 (f (U.toNat (Int.ofNat 2))).2.2.1 ∧ I64 (g (U.toNat (Int.ofNat 2))).1 ∧ I64 (g (U.toNat
      (Int.ofNat 2))).2.1 ∧ I64 (g (U.toNat (Int.ofNat 2))).2.2.1) (.br (U.ne (lk isEr (f (U.toNat (Int.ofNat 2))).1 (f (U.toNat (Int.ofNat 2))).2.1 (f (U.toNat (Int.ofNat 2))).2.2.1 (g
      (U.toNat (Int.ofNat 2))).1 (g (U.toNat (Int.ofNat 2))).2.1 (g (U.toNat (Int.ofNat 2))).2.2.1) (0 : Int)) (.br (U.ne (lk isEr (f (U.toNat (Int.ofNat 2))).1 (f (U.toNat (Int.ofNat
      2))).2.1 (f (U.toNat (Int.ofNat 2))).2.2.1 (g (U.toNat (Int.ofNat 2))).1 (g (U.toNat (Int.ofNat 2))).2.1 (g (U.toNat (Int.ofNat 2))).2.2.1) (0 : Int)) (.ret (.tup [.agg [.lit
      (.slice none (nat_lit 0) (nat_lit 0)), .lit (.int .i64 0), .lit (.int .i64 0), .lit (.int .i64 0)], .lit (.int .i64 (lk isEr (f (U.toNat (Int.ofNat 2))).1 (f (U.toNat (Int.ofNat
      2))).2.1 (f (U.toNat (Int.ofNat 2))).2.2.1 (g (U.toNat (Int.ofNat 2))).1 (g (U.toNat (Int.ofNat 2))).2.1 (g (U.toNat (Int.ofNat 2))).2.2.1))])) (.ret (.tup [.agg [.row [.int .i64,
      .int .i64, .int .i64] (nat_lit 2) (U.cat (nat_lit 1) (fun x => (lk isL (f (U.toNat (Int.ofNat 0))).1 (f (U.toNat (Int.ofNat 0))).2.1 (f (U.toNat (Int.ofNat 0))).2.2.1 (g (U.toNat
      (Int.ofNat 0))).1 (g (U.toNat (Int.ofNat 0))).2.1 (g (U.toNat (Int.ofNat 0))).2.2.1, lk isH (f (U.toNat (Int.ofNat 0))).1 (f (U.toNat (Int.ofNat 0))).2.1 (f (U.toNat (Int.ofNat
      0))).2.2.1 (g (U.toNat (Int.ofNat 0))).1 (g (U.toNat (Int.ofNat 0))).2.1 (g (U.toNat (Int.ofNat 0))).2.2.1, lk isS (f (U.toNat (Int.ofNat 0))).1 (f (U.toNat (Int.ofNat 0))).2.1 (f
      (U.toNat (Int.ofNat 0))).2.2.1 (g (U.toNat (Int.ofNat 0))).1 (g (U.toNat (Int.ofNat 0))).2.1 (g (U.toNat (Int.ofNat 0))).2.2.1, PUnit.unit)) fun x => (lk isL (f (U.toNat (Int.ofNat
      1))).1 (f (U.toNat (Int.ofNat 1))).2.1 (f (U.toNat (Int.ofNat 1))).2.2.1 (g (U.toNat (Int.ofNat 1))).1 (g (U.toNat (Int.ofNat 1))).2.1 (g (U.toNat (Int.ofNat 1))).2.2.1, lk isH (f
      (U.toNat (Int.ofNat 1))).1 (f (U.toNat (Int.ofNat 1))).2.1 (f (U.toNat (Int.ofNat 1))).2.2.1 (g (U.toNat (Int.ofNat 1))).1 (g (U.toNat (Int.ofNat 1))).2.1 (g (U.toNat (Int.ofNat
      1))).2.2.1, lk isS (f (U.toNat (Int.ofNat 1))).1 (f (U.toNat (Int.ofNat 1))).2.1 (f (U.toNat (Int.ofNat 1))).2.2.1 (g (U.toNat (Int.ofNat 1))).1 (g (U.toNat (Int.ofNat 1))).2.1 (g
      (U.toNat (Int.ofNat 1))).2.2.1, PUnit.unit)), .lit (.int .i64 k), .lit (.int .i64 s), .lit (.int .i64 h)], .lit (.int .i64 0)]))) (.ask (((1 : Nat) + (1 : Nat) + (1 : Nat)) *
      nat_lit 24 ≤ nat_lit 140737488351232) (.stuck (nat_lit 105))))))) (.br (U.ne (lk isEr (f (U.toNat (Int.ofNat 1))).1 (f (U.toNat (Int.ofNat 1))).2.1 (f (U.toNat (Int.ofNat 1))).2.2.1
      (g (U.toNat (Int.ofNat 1))).1 (g (U.toNat (Int.ofNat 1))).2.1 (g (U.toNat (Int.ofNat 1))).2.2.1) (0 : Int)) (.ret (.tup [.agg [.lit (.slice none (nat_lit 0) (nat_lit 0)), .lit (.int
      .i64 0), .lit (.int .i64 0), .lit (.int .i64 0)], .lit (.int .i64 (lk isEr (f (U.toNat (Int.ofNat 1))).1 (f (U.toNat (Int.ofNat 1))).2.1 (f (U.toNat (Int.ofNat 1))).2.2.1 (g
      (U.toNat (Int.ofNat 1))).1 (g (U.toNat (Int.ofNat 1))).2.1 (g (U.toNat (Int.ofNat 1))).2.2.1))])) (.ret (.tup [.agg [.row [.int .i64, .int .i64, .int .i64] (nat_lit 2) (U.cat
      (nat_lit 1) (fun x => (lk isL (f (U.toNat (Int.ofNat 0))).1 (f (U.toNat (Int.ofNat 0))).2.1 (f (U.toNat (Int.ofNat 0))).2.2.1 (g (U.toNat (Int.ofNat 0))).1 (g (U.toNat (Int.ofNat
      0))).2.1 (g (U.toNat (Int.ofNat 0))).2.2.1, lk isH (f (U.toNat (Int.ofNat 0))).1 (f (U.toNat (Int.ofNat 0))).2.1 (f (U.toNat (Int.ofNat 0))).2.2.1 (g (U.toNat (Int.ofNat 0))).1 (g
      (U.toNat (Int.ofNat 0))).2.1 (g (U.toNat (Int.ofNat 0))).2.2.1, lk isS (f (U.toNat (Int.ofNat 0))).1 (f (U.toNat (Int.ofNat 0))).2.1 (f (U.toNat (Int.ofNat 0))).2.2.1 (g (U.toNat
      (Int.ofNat 0))).1 (g (U.toNat (Int.ofNat 0))).2.1 (g (U.toNat (Int.ofNat 0))).2.2.1, PUnit.unit)) fun x => (lk isL (f (U.toNat (Int.ofNat 1))).1 (f (U.toNat (Int.ofNat 1))).2.1 (f
      (U.toNat (Int.ofNat 1))).2.2.1 (g (U.toNat (Int.ofNat 1))).1 (g (U.toNat (Int.ofNat 1))).2.1 (g (U.toNat (Int.ofNat 1))).2.2.1, lk isH (f (U.toNat (Int.ofNat 1))).1 (f (U.toNat
      (Int.ofNat 1))).2.1 (f (U.toNat (Int.ofNat 1))).2.2.1 (g (U.toNat (Int.ofNat 1))).1 (g (U.toNat (Int.ofNat 1))).2.1 (g (U.toNat (Int.ofNat 1))).2.2.1, lk isS (f (U.toNat (Int.ofNat
      1))).1 (f (U.toNat (Int.ofNat 1))).2.1 (f (U.toNat (Int.ofNat 1))).2.2.1 (g (U.toNat (Int.ofNat 1))).1 (g (U.toNat (Int.ofNat 1))).2.1 (g (U.toNat (Int.ofNat 1))).2.2.1,
      PUnit.unit)), .lit (.int .i64 k), .lit (.int .i64 s), .lit (.int .i64 h)], .lit (.int .i64 0)]))))))))) (.br (U.ne (lk isEr (f (U.toNat (Int.ofNat 0))).1 (f (U.toNat (Int.ofNat
      0))).2.1 (f (U.toNat (Int.ofNat 0))).2.2.1 (g (U.toNat (Int.ofNat 0))).1 (g (U.toNat (Int.ofNat 0))).2.1 (g (U.toNat (Int.ofNat 0))).2.2.1) (0 : Int)) (.ret (.tup [.agg [.lit
      (.slice none (nat_lit 0) (nat_lit 0)), .lit (.int .i64 0), .lit (.int .i64 0), .lit (.int .i64 0)], .lit (.int .i64 (lk isEr (f (U.toNat (Int.ofNat 0))).1 (f (U.toNat (Int.ofNat
      0))).2.1 (f (U.toNat (Int.ofNat 0))).2.2.1 (g (U.toNat (Int.ofNat 0))).1 (g (U.toNat (Int.ofNat 0))).2.1 (g (U.toNat (Int.ofNat 0))).2.2.1))])) (.ret (.tup [.agg [.row [.int .i64,
      .int .i64, .int .i64] (nat_lit 1) fun x => (lk isL (f (U.toNat (Int.ofNat 0))).1 (f (U.toNat (Int.ofNat 0))).2.1 (f (U.toNat (Int.ofNat 0))).2.2.1 (g (U.toNat (Int.ofNat 0))).1 (g
      (U.toNat (Int.ofNat 0))).2.1 (g (U.toNat (Int.ofNat 0))).2.2.1, lk isH (f (U.toNat (Int.ofNat 0))).1 (f (U.toNat (Int.ofNat 0))).2.1 (f (U.toNat (Int.ofNat 0))).2.2.1 (g (U.toNat
      (Int.ofNat 0))).1 (g (U.toNat (Int.ofNat 0))).2.1 (g (U.toNat (Int.ofNat 0))).2.2.1, lk isS (f (U.toNat (Int.ofNat 0))).1 (f (U.toNat (Int.ofNat 0))).2.1 (f (U.toNat (Int.ofNat
      0))).2.2.1 (g (U.toNat (Int.ofNat 0))).1 (g (U.toNat (Int.ofNat 0))).2.1 (g (U.toNat (Int.ofNat 0))).2.2.1, PUnit.unit), .lit (.int .i64 k), .lit (.int .i64 s), .lit (.int .i64 h)],
      .lit (.int .i64 0)]))))))))) (.ret (.tup [.agg [.lit (.slice none (nat_lit 0) (nat_lit 0)), .lit (.int .i64 k), .lit (.int .i64 s), .lit (.int .i64 h)], .lit (.int .i64 0)])))) := by kernel_rfl
theorem cl_agg {cs cs' : List SV} (h : ClL cs cs') : Cl (.agg cs) (.agg cs') := h
theorem DIntersect_ok : ConOK P 76 c_DIntersect := con_cl (allOKL mixed d2_ok lDI_ok) 10 76 fun args r h => by
  unfold c_DIntersect at h
  split at h
  · rename_i n f k s h' m g k1 s1 h1
    obtain ⟨hp, hq⟩ := (T.is_ask h).1
    have h := (T.is_ask h).2
    obtain rfl := T.is_ret h
    rw [t_DIntersect]
    simp only [tn, lk_eq]
    refine ⟨⟨hp, hq⟩, fun hE => ?_, fun hE => ?_⟩
    · have hE : boE n f k s h' m g k1 s1 h1 ≠ 0 := U.ne_t.mp hE
      have e1 : diN n f k s h' m g k1 s1 h1 = 0 := by unfold diN; rw [if_pos hE]
      have e2 : ∀ x, diX n f k s h' m g k1 s1 h1 x = 0 := fun x => by unfold diX; rw [if_pos hE]
      rw [e1, e2, e2, e2]
      exact ⟨cl_agg ⟨cl_nil0 rfl, cl_lit rfl, cl_lit rfl, cl_lit rfl, rfl⟩, cl_lit rfl, rfl⟩
    · have hE : boE n f k s h' m g k1 s1 h1 = 0 := U.ne_f.mp hE
      obtain ⟨c1, c2, c3⟩ := boE_zero.1 hE
      subst c3
      obtain ⟨d1, d1'⟩ := chD_zero.1 c1
      obtain ⟨d3, d3'⟩ := chD_zero.1 c2
      have e1 : diN n f k s h' n g k1 s1 h1 = n := by unfold diN; rw [if_neg (by simp [hE])]
      have e2 : ∀ x, diX n f k s h' n g k1 s1 h1 x = x := fun x => by unfold diX; rw [if_neg (by simp [hE])]
      rw [e1, e2, e2, e2, hE]
      have ok : ∀ i, i < n → isEr (rA (f i)) (rB (f i)) (rC (f i)) (rA (g i)) (rB (g i)) (rC (g i)) = 0 := fun i hi => (is_set (d1.2 i hi).1 (d3.2 i hi).1).1
      have hn := d1.1
      have o0 : U.ne (isEr (f 0).1 (f 0).2.1 (f 0).2.2.1 (g 0).1 (g 0).2.1 (g 0).2.2.1) 0 = false := U.ne_f.mpr (ok 0 (by omega))
      have hI : ∀ i, i < n → I64 (f i).1 ∧ I64 (f i).2.1 ∧ I64 (f i).2.2.1 ∧ I64 (g i).1 ∧ I64 (g i).2.1 ∧ I64 (g i).2.2.1 := fun i hi => by
        obtain ⟨x1, x2, x3⟩ := hp i hi
        obtain ⟨y1, y2, y3⟩ := hq i hi
        exact ⟨x1, x2, x3, y1, y2, y3⟩
      have l0 : U.lt (0 : Int) (Int.ofNat n) = true := by rw [U.lt_eq]; exact decide_eq_true (by simp only [Int.ofNat_eq_natCast]; omega)
      refine ⟨fun _ => ⟨by omega, by omega, hI 0 (by omega), fun h => (by rw [o0] at h; cases h), fun _ => ⟨by decide, ?_⟩⟩, fun h => (by rw [l0] at h; cases h)⟩
      rcases hn with rfl | rfl
      · refine ⟨fun h => absurd (U.lt_t.mp h) (by decide), fun _ => ⟨fun h => (by rw [o0] at h; cases h), fun _ => ?_⟩⟩
        refine ⟨cl_agg ⟨cl_row' rfl fun i hi => ?_, cl_lit rfl, cl_lit rfl, cl_lit rfl, rfl⟩, cl_lit rfl, rfl⟩
        obtain rfl : i = 0 := by omega
        rfl
      · have o1 : U.ne (isEr (f 1).1 (f 1).2.1 (f 1).2.2.1 (g 1).1 (g 1).2.1 (g 1).2.2.1) 0 = false := U.ne_f.mpr (ok 1 (by omega))
        refine ⟨fun _ => ⟨by omega, by omega, hI 1 (by omega), fun h => (by rw [o1] at h; cases h), fun _ => ⟨by decide, fun h => absurd (U.lt_t.mp h) (by decide), fun _ => ⟨fun h => (by rw [o1] at h; cases h), fun _ => ?_⟩⟩⟩, fun h => absurd (U.lt_f.mp h) (by decide)⟩
        refine ⟨cl_agg ⟨cl_row' rfl fun i hi => ?_, cl_lit rfl, cl_lit rfl, cl_lit rfl, rfl⟩, cl_lit rfl, rfl⟩
        rcases (show i = 0 ∨ i = 1 by omega) with rfl | rfl
        · exact cat_l (by omega)
        · exact cat_r (by omega)
  · exact h.elim
noncomputable abbrev d3 : List (Nat × Con) := (76, c_DIntersect) :: (41, c_DSize) :: (145, c_Equal3) :: d2 --%K
theorem d3_ok : ∀ p ∈ d3, ConOK P p.1 p.2 := by
  intro p hp
  simp only [d3, List.mem_cons] at hp
  rcases hp with rfl | rfl | rfl | hp
  · exact DIntersect_ok
  · exact DSize_ok
  · exact Equal3_ok
  · exact d2_ok p (by simpa [d2] using hp)
end Go.RX.Span

/- Domains: Of, Nth, a slice's copy: the walks. -/
set_option linter.unusedVariables false
set_option linter.unusedSimpArgs false
set_option maxRecDepth 100000
namespace Go.RX.Span
open Go Go.RX
attribute [local irreducible] sx conB

/-- Of: the error, the ranges made ascending. -/
def dofE (n : Nat) (f : Nat → R3) : Int := if n < 1 ∨ 2 < n then 5 else if chk (rA (f 0)) (rB (f 0)) (rC (f 0)) ≠ 0 then chk (rA (f 0)) (rB (f 0)) (rC (f 0)) else if n = 2 ∧ chk (rA (f 1)) (rB (f 1)) (rC (f 1)) ≠ 0 then chk (rA (f 1)) (rB (f 1)) (rC (f 1)) else 0
def dofN (n : Nat) (f : Nat → R3) : Nat := if dofE n f ≠ 0 then 0 else n
def dofR (r : R3) : R3 := (rA r, rB r, absI (rC r), ())
def dofF (f : Nat → R3) : Nat → R3 := fun i => dofR (f i)
noncomputable def c_DOf : Con := fun args => match args with
  | [.row [.int .i64, .int .i64, .int .i64] n f] => .ask (Row64 n f) (.ret (.tup [.agg [.row [.int .i64, .int .i64, .int .i64] (lk dofN n f) (lk dofF f), .lit (.int .i64 0), .lit (.int .i64 0), .lit (.int .i64 0)], .lit (.int .i64 (lk dofE n f))]))
  | _ => .stuck 1
noncomputable abbrev lOf : List (Nat × Loops) := [(82, [(5, .un 3)])] --%K
theorem lOf_ok : ∀ p ∈ lOf, LoopsOK P p.2 (bodyOf P p.1) := by
  intro p hp
  simp only [lOf, List.mem_singleton] at hp
  subst hp
  exact loopsOK_un fun q hq => by simp only [List.mem_singleton] at hq; subst hq; exact ⟨3, rfl⟩
set_option maxRecDepth 100000 in
theorem t_DOf (n : Nat) (f : Nat → R3) : conB Go.Proofs.Try.prog (conOf d3) (loopsOf lOf) 10 82 [.row [.int .i64, .int .i64, .int .i64] n f] =
    T.br (U.lt (Int.ofNat n) (1 : Int)) (.ret (.tup [.agg [.lit (.slice none (nat_lit 0) (nat_lit 0)), .lit (.int .i64 0), .lit (.int .i64 0), .lit (.int .i64 0)], .lit (.int .i64 5)]))
      (.br (U.gt (Int.ofNat n) (2 : Int)) (.ret (.tup [.agg [.lit (.slice none (nat_lit 0) (nat_lit 0)), .lit (.int .i64 0), .lit (.int .i64 0), .lit (.int .i64 0)], .lit (.int .i64 5)]))
      (.br (U.lt (0 : Int) (Int.ofNat n)) (.ask ((0 : Int) ≤ (0 : Int) ∧ (0 : Int) < ↑n) (.ask (I64 (f (U.toNat (Int.ofNat 0))).1 ∧ I64 (f (U.toNat (Int.ofNat 0))).2.1 ∧ I64 (f (U.toNat
      (Int.ofNat 0))).2.2.1) (.br (U.ne (lk chk (f (U.toNat (Int.ofNat 0))).1 (f (U.toNat (Int.ofNat 0))).2.1 (f (U.toNat (Int.ofNat 0))).2.2.1) (0 : Int)) (.ret (.tup [.agg [.lit (.slice
      none (nat_lit 0) (nat_lit 0)), .lit (.int .i64 0), .lit (.int .i64 0), .lit (.int .i64 0)], .lit (.int .i64 (lk chk (f (U.toNat (Int.ofNat 0))).1 (f (U.toNat (Int.ofNat 0))).2.1 (f
      (U.toNat (Int.ofNat 0))).2.2.1))])) (.ask ((1 : Nat) * nat_lit 24 ≤ nat_lit 140737488351232) (.br (U.lt (1 : Int) (Int.ofNat n)) (.ask ((0 : Int) ≤ (1 : Int) ∧ (1 : Int) < ↑n) (.ask
      (I64 (f (U.toNat (Int.ofNat 1))).1 ∧ I64 (f (U.toNat (Int.ofNat 1))).2.1 ∧ I64 (f (U.toNat (Int.ofNat 1))).2.2.1) (.br (U.ne (lk chk (f (U.toNat (Int.ofNat 1))).1 (f (U.toNat
      (Int.ofNat 1))).2.1 (f (U.toNat (Int.ofNat 1))).2.2.1) (0 : Int)) (.ret (.tup [.agg [.lit (.slice none (nat_lit 0) (nat_lit 0)), .lit (.int .i64 0), .lit (.int .i64 0), .lit (.int
      .i64 0)], .lit (.int .i64 (lk chk (f (U.toNat (Int.ofNat 1))).1 (f (U.toNat (Int.ofNat 1))).2.1 (f (U.toNat (Int.ofNat 1))).2.2.1))])) (.ask (((1 : Nat) + (1 : Nat)) * nat_lit 24 ≤
      nat_lit 140737488351232) (.br (U.lt (2 : Int) (Int.ofNat n)) (.ask ((0 : Int) ≤ (2 : Int) ∧ (2 : Int) < ↑n) (.ask (I64 (f (U.toNat (Int.ofNat 2))).1 ∧ I64 (f (U.toNat (Int.ofNat
      2))).2.1 ∧ I64 (f (U.toNat (Int.ofNat 2))).2.2.1) (.br (U.ne (lk chk (f (U.toNat (Int.ofNat 2))).1 (f (U.toNat (Int.ofNat 2))).2.1 (f (U.toNat (Int.ofNat 2))).2.2.1) (0 : Int))
      (.ret (.tup [.agg [.lit (.slice none (nat_lit 0) (nat_lit 0)), .lit (.int .i64 0), .lit (.int .i64 0), .lit (.int .i64 0)], .lit (.int .i64 (lk chk (f (U.toNat (Int.ofNat 2))).1 (f
      (U.toNat (Int.ofNat 2))).2.1 (f (U.toNat (Int.ofNat 2))).2.2.1))])) (.ask (((1 : Nat) + (1 : Nat) + (1 : Nat)) * nat_lit 24 ≤ nat_lit 140737488351232) (.stuck (nat_lit 105))))))
      (.ret (.tup [.agg [.row [.int .i64, .int .i64, .int .i64] (nat_lit 2) (U.cat (nat_lit 1) (fun x => ((f (U.toNat (Int.ofNat 0))).1, (f (U.toNat (Int.ofNat 0))).2.1, U.mm true (f
      (U.toNat (Int.ofNat 0))).2.2.1 (U.sub .i64 0 (f (U.toNat (Int.ofNat 0))).2.2.1), PUnit.unit)) fun x => ((f (U.toNat (Int.ofNat 1))).1, (f (U.toNat (Int.ofNat 1))).2.1, U.mm true (f
      (U.toNat (Int.ofNat 1))).2.2.1 (U.sub .i64 0 (f (U.toNat (Int.ofNat 1))).2.2.1), PUnit.unit)), .lit (.int .i64 0), .lit (.int .i64 0), .lit (.int .i64 0)], .lit (.int .i64
      0)]))))))) (.ret (.tup [.agg [.row [.int .i64, .int .i64, .int .i64] (nat_lit 1) fun x => ((f (U.toNat (Int.ofNat 0))).1, (f (U.toNat (Int.ofNat 0))).2.1, U.mm true (f (U.toNat
      (Int.ofNat 0))).2.2.1 (U.sub .i64 0 (f (U.toNat (Int.ofNat 0))).2.2.1), PUnit.unit), .lit (.int .i64 0), .lit (.int .i64 0), .lit (.int .i64 0)], .lit (.int .i64 0)]))))))) (.ret
      (.tup [.agg [.lit (.slice none (nat_lit 0) (nat_lit 0)), .lit (.int .i64 0), .lit (.int .i64 0), .lit (.int .i64 0)], .lit (.int .i64 0)])))) := by kernel_rfl
theorem stride_up {r : R3} (h : chk (rA r) (rB r) (rC r) = 0) : U.mm true r.2.2.1 (U.sub .i64 0 r.2.2.1) = absI (rC r) := by
  have hc := right_c (chk_zero.1 h)
  show U.mm true (rC r) (U.sub .i64 0 (rC r)) = _
  rw [U.sub64 (by unfold I64; omega), mm_max]
  unfold absI
  split <;> omega
noncomputable def dofV (n : Nat) (f : Nat → R3) : SV := .tup [.agg [.row [.int .i64, .int .i64, .int .i64] (dofN n f) (dofF f), .lit (.int .i64 0), .lit (.int .i64 0), .lit (.int .i64 0)], .lit (.int .i64 (dofE n f))]
theorem dof_err {n : Nat} {f : Nat → R3} {e : Int} (h : dofE n f = e) (he : e ≠ 0) : Cl (.tup [.agg [.lit (.slice none 0 0), .lit (.int .i64 0), .lit (.int .i64 0), .lit (.int .i64 0)], .lit (.int .i64 e)]) (dofV n f) :=
  ⟨cl_agg ⟨cl_nil0 (by unfold dofN; rw [h, if_pos he]), cl_lit rfl, cl_lit rfl, cl_lit rfl, rfl⟩, cl_lit (by rw [h]), rfl⟩
theorem dof_ok {n : Nat} {f : Nat → R3} (h : dofE n f = 0) {g : Nat → R3} (hg : ∀ i, i < n → g i = dofR (f i)) : Cl (.tup [.agg [.row [.int .i64, .int .i64, .int .i64] n g, .lit (.int .i64 0), .lit (.int .i64 0), .lit (.int .i64 0)], .lit (.int .i64 0)]) (dofV n f) :=
  ⟨cl_agg ⟨cl_row' (by unfold dofN; rw [if_neg (by simp [h])]) hg, cl_lit rfl, cl_lit rfl, cl_lit rfl, rfl⟩, cl_lit (by rw [h]), rfl⟩
theorem DOf_ok : ConOK P 82 c_DOf := con_cl (allOKL mixed d3_ok lOf_ok) 10 82 fun args r h => by
  unfold c_DOf at h
  split at h
  · rename_i n f
    have hp : Row64 n f := (T.is_ask h).1
    have h := (T.is_ask h).2
    obtain rfl := T.is_ret h
    rw [t_DOf]
    simp only [tn, lk_eq]
    refine T.all_mono (K := fun s => Cl s (dofV n f)) (fun s hs => hs) ?_
    have big : n < 1 ∨ 2 < n → dofE n f = 5 := fun h => by unfold dofE; rw [if_pos h]
    have ie : (Int.ofNat n) = (n : Int) := rfl
    refine ⟨fun g => ?_, fun g => ⟨fun g2 => ?_, fun g2 => ?_⟩⟩
    · have := U.lt_t.mp g
      exact dof_err (big (.inl (by omega))) (by decide)
    · have := U.gt_t.mp g2
      exact dof_err (big (.inr (by omega))) (by decide)
    have g := U.lt_f.mp g
    have g2 := U.gt_f.mp g2
    rw [ie] at g g2
    have hn : n = 1 ∨ n = 2 := by omega
    have nb : ¬ (n < 1 ∨ 2 < n) := by omega
    refine ⟨fun _ => ⟨by omega, hp 0 (by omega), fun z => ?_, fun z => ⟨by decide, fun g3 => ?_, fun g3 => ?_⟩⟩, fun g3 => ?_⟩
    · have z : chk (rA (f 0)) (rB (f 0)) (rC (f 0)) ≠ 0 := U.ne_t.mp z
      exact dof_err (by unfold dofE; rw [if_neg nb, if_pos z]; rfl) z
    · have z : chk (rA (f 0)) (rB (f 0)) (rC (f 0)) = 0 := U.ne_f.mp z
      have g3 := U.lt_t.mp g3
      rw [ie] at g3
      obtain rfl : n = 2 := by omega
      refine ⟨by omega, hp 1 (by omega), fun z1 => ?_, fun z1 => ⟨by decide, fun g4 => absurd (U.lt_t.mp g4) (by decide), fun _ => ?_⟩⟩
      · have z1 : chk (rA (f 1)) (rB (f 1)) (rC (f 1)) ≠ 0 := U.ne_t.mp z1
        exact dof_err (by unfold dofE; rw [if_neg nb, if_neg (by simp [z]), if_pos ⟨rfl, z1⟩]; rfl) z1
      · have z1 : chk (rA (f 1)) (rB (f 1)) (rC (f 1)) = 0 := U.ne_f.mp z1
        refine dof_ok (by unfold dofE; rw [if_neg nb, if_neg (by simp [z]), if_neg (by simp [z1])]) fun i hi => ?_
        rcases (show i = 0 ∨ i = 1 by omega) with rfl | rfl
        · refine (cat_l (by omega)).trans ?_
          rw [stride_up z]; rfl
        · refine (cat_r (by omega)).trans ?_
          rw [stride_up z1]; rfl
    · have z : chk (rA (f 0)) (rB (f 0)) (rC (f 0)) = 0 := U.ne_f.mp z
      have g3 := U.lt_f.mp g3
      rw [ie] at g3
      obtain rfl : n = 1 := by omega
      refine dof_ok (by unfold dofE; rw [if_neg nb, if_neg (by simp [z]), if_neg (by omega)]) fun i hi => ?_
      obtain rfl : i = 0 := by omega
      rw [stride_up z]; rfl
    · have g3 := U.lt_f.mp g3
      rw [ie] at g3
      omega
  · exact h.elim

/-- Nth: the error, the index. -/
def dnE (n : Nat) (f : Nat → R3) (k s h q : Int) : Int := if chD n f k s h ≠ 0 then chD n f k s h else if q < 0 ∨ q ≥ szD n f k s h then 4 else 0
def dnN (n : Nat) (f : Nat → R3) (k s h q : Int) : Nat := if dnE n f k s h q ≠ 0 then 0 else n
abbrev R1 := Els [.int .i64]
def dnF (n : Nat) (f : Nat → R3) (q : Int) : Nat → R1 := fun i => ((if i = 0 then nth (rA (f 0)) (rB (f 0)) (rC (f 0)) (q.tdiv (colD n f)) else nth (rA (f 1)) (rB (f 1)) (rC (f 1)) (q.tmod (colD n f)) : Int), ())
noncomputable def c_DNth : Con := fun args => match args with
  | [.agg [.row [.int .i64, .int .i64, .int .i64] n f, .lit (.int .i64 k), .lit (.int .i64 s), .lit (.int .i64 h)], .lit (.int .i64 q)] => .ask (Row64 n f ∧ I64 q) (.ret (.tup [.row [.int .i64] (lk dnN n f k s h q) (lk dnF n f q), .lit (.int .i64 (lk dnE n f k s h q))]))
  | _ => .stuck 1
noncomputable abbrev lNt : List (Nat × Loops) := [(68, [(10, .un 3)])] --%K
theorem lNt_ok : ∀ p ∈ lNt, LoopsOK P p.2 (bodyOf P p.1) := by
  intro p hp
  simp only [lNt, List.mem_singleton] at hp
  subst hp
  exact loopsOK_un fun q hq => by simp only [List.mem_singleton] at hq; subst hq; exact ⟨3, rfl⟩
set_option maxRecDepth 100000 in
theorem t_DNth (n : Nat) (f : Nat → R3) (k s h q : Int) : conB Go.Proofs.Try.prog (conOf d3) (loopsOf lNt) 10 68 [.agg [.row [.int .i64, .int .i64, .int .i64] n f, .lit (.int .i64 k), .lit (.int .i64 s), .lit (.int .i64 h)], .lit (.int .i64 q)] =
    T.ask (Row64 n f) (.br (U.ne (lk chD n f k s h) (0 : Int)) (.ret (.tup [.lit (.slice none (nat_lit 0) (nat_lit 0)), .lit (.int .i64 (lk chD n f k s h))])) (.br (U.lt q (0 : Int))
      (.ret (.tup [.lit (.slice none (nat_lit 0) (nat_lit 0)), .lit (.int .i64 4)])) (.ask (Row64 n f) (.br (U.ge q (lk szD n f k s h)) (.ret (.tup [.lit (.slice none (nat_lit 0) (nat_lit
      0)), .lit (.int .i64 4)])) (.ask (Row64 n f ∧ (n = (1 : Nat) ∨ n = (2 : Nat))) (.ask (lk colD n f ≠ (0 : Int)) (.ask (lk colD n f ≠ (0 : Int)) (.br (U.lt (0 : Int) (Int.ofNat n))
      (.ask ((0 : Int) ≤ (0 : Int) ∧ (0 : Int) < ↑n) (.ask (I64 (f (U.toNat (Int.ofNat 0))).1 ∧ I64 (f (U.toNat (Int.ofNat 0))).2.1 ∧ I64 (f (U.toNat (Int.ofNat 0))).2.2.1) (.ask ((1 :
      Nat) * nat_lit 8 ≤ nat_lit 140737488351232) (.br (U.lt (1 : Int) (Int.ofNat n)) (.ask ((0 : Int) ≤ (1 : Int) ∧ (1 : Int) < ↑n) (.ask (I64 (f (U.toNat (Int.ofNat 1))).1 ∧ I64 (f
      (U.toNat (Int.ofNat 1))).2.1 ∧ I64 (f (U.toNat (Int.ofNat 1))).2.2.1) (.ask (((1 : Nat) + (1 : Nat)) * nat_lit 8 ≤ nat_lit 140737488351232) (.br (U.lt (2 : Int) (Int.ofNat n)) (.ask
      ((0 : Int) ≤ (2 : Int) ∧ (2 : Int) < ↑n) (.stuck (nat_lit 40))) (.ret (.tup [.row [.int .i64] (nat_lit 2) (U.cat (nat_lit 1) (fun x => (lk nth (f (U.toNat (Int.ofNat 0))).1 (f
      (U.toNat (Int.ofNat 0))).2.1 (f (U.toNat (Int.ofNat 0))).2.2.1 (U.quo .i64 q (lk colD n f)), PUnit.unit)) fun x => (lk nth (f (U.toNat (Int.ofNat 1))).1 (f (U.toNat (Int.ofNat
      1))).2.1 (f (U.toNat (Int.ofNat 1))).2.2.1 (U.rem q (lk colD n f)), PUnit.unit)), .lit (.int .i64 0)])))))) (.ret (.tup [.row [.int .i64] (nat_lit 1) fun x => (lk nth (f (U.toNat
      (Int.ofNat 0))).1 (f (U.toNat (Int.ofNat 0))).2.1 (f (U.toNat (Int.ofNat 0))).2.2.1 (U.quo .i64 q (lk colD n f)), PUnit.unit), .lit (.int .i64 0)])))))) (.ret (.tup [.lit (.slice
      none (nat_lit 0) (nat_lit 0)), .lit (.int .i64 0)])))))))))) := by kernel_rfl
noncomputable def dnV (n : Nat) (f : Nat → R3) (k s h q : Int) : SV := .tup [.row [.int .i64] (dnN n f k s h q) (dnF n f q), .lit (.int .i64 (dnE n f k s h q))]
theorem dn_err {n : Nat} {f : Nat → R3} {k s h q e : Int} (he : dnE n f k s h q = e) (h0 : e ≠ 0) : Cl (.tup [.lit (.slice none 0 0), .lit (.int .i64 e)]) (dnV n f k s h q) :=
  ⟨.inr ⟨rfl, by unfold dnN; rw [he, if_pos h0]⟩, cl_lit (by rw [he]), rfl⟩
theorem dn_ok {n : Nat} {f : Nat → R3} {k s h q : Int} (he : dnE n f k s h q = 0) {g : Nat → R1} (hg : ∀ i, i < n → g i = dnF n f q i) : Cl (.tup [.row [.int .i64] n g, .lit (.int .i64 0)]) (dnV n f k s h q) :=
  ⟨⟨by unfold dnN; rw [if_neg (by simp [he])], eqShs_refl _, fun i hi => hg i hi⟩, cl_lit (by rw [he]), rfl⟩
theorem cat1_l {n i : Nat} {f g : Nat → R1} (h : i < n) : U.cat n f g i = f i := (U.cat_eq _ _ _ _).trans (if_pos h)
theorem cat1_r {n i : Nat} {f g : Nat → R1} (h : n ≤ i) : U.cat n f g i = g (i - n) := (U.cat_eq _ _ _ _).trans (if_neg (by omega))
theorem DNth_ok : ConOK P 68 c_DNth := con_cl (allOKL mixed d3_ok lNt_ok) 10 68 fun args r h => by
  unfold c_DNth at h
  split at h
  · rename_i n f k s h' q
    obtain ⟨hp, hq⟩ := (T.is_ask h).1
    have h := (T.is_ask h).2
    obtain rfl := T.is_ret h
    rw [t_DNth]
    simp only [tn, lk_eq]
    refine T.all_mono (K := fun v => Cl v (dnV n f k s h' q)) (fun v hv => hv) ?_
    have ie : (Int.ofNat n) = (n : Int) := rfl
    refine ⟨hp, fun z => ?_, fun z => ?_⟩
    · have z : chD n f k s h' ≠ 0 := U.ne_t.mp z
      exact dn_err (by unfold dnE; rw [if_pos z]) z
    have z : chD n f k s h' = 0 := U.ne_f.mp z
    obtain ⟨d1, d1'⟩ := chD_zero.1 z
    have hn := d1.1
    have hc := dr_col d1
    have h0 := rr_size (d1.2 0 (by omega))
    refine ⟨fun g => ?_, fun g => ⟨hp, fun g2 => ?_, fun g2 => ?_⟩⟩
    · have g := U.lt_t.mp g
      exact dn_err (by unfold dnE; rw [if_neg (by simp [z]), if_pos (.inl g)]) (by decide)
    · have g2 := U.ge_t.mp g2
      exact dn_err (by unfold dnE; rw [if_neg (by simp [z]), if_pos (.inr g2)]) (by decide)
    have g := U.lt_f.mp g
    have g2 := U.ge_f.mp g2
    have e0 : dnE n f k s h' q = 0 := by unfold dnE; rw [if_neg (by simp [z]), if_neg (by omega)]
    have hcol : colD n f ≠ 0 := fun hz => by rw [szD_right z, hz, Int.mul_zero] at g2; omega
    have t1 := Int.tdiv_eq_ediv_of_nonneg (b := colD n f) g
    have t2 := Int.ediv_nonneg g hc.1
    have t3 := Int.ediv_le_self (colD n f) g
    have eq1 : U.quo .i64 q (colD n f) = q.tdiv (colD n f) := U.quo64 (by unfold I64 at hq ⊢; omega)
    have eq2 : U.rem q (colD n f) = q.tmod (colD n f) := U.rem_eq _ _
    refine ⟨⟨hp, hn⟩, hcol, hcol, fun _ => ⟨by omega, hp 0 (by omega), by decide, fun g3 => ?_, fun g3 => ?_⟩, fun g3 => ?_⟩
    · have g3 := U.lt_t.mp g3
      rw [ie] at g3
      obtain rfl : n = 2 := by omega
      refine ⟨by omega, hp 1 (by omega), by decide, fun g4 => absurd (U.lt_t.mp g4) (by decide), fun _ => dn_ok e0 fun i hi => ?_⟩
      rcases (show i = 0 ∨ i = 1 by omega) with rfl | rfl
      · refine (cat1_l (by omega)).trans ?_
        rw [eq1]; rfl
      · refine (cat1_r (by omega)).trans ?_
        rw [eq2]; rfl
    · have g3 := U.lt_f.mp g3
      rw [ie] at g3
      obtain rfl : n = 1 := by omega
      refine dn_ok e0 fun i hi => ?_
      obtain rfl : i = 0 := by omega
      rw [eq1]; rfl
    · have g3 := U.lt_f.mp g3
      rw [ie] at g3
      omega
  · exact h.elim

/-- A copy is a slice that is read alone. -/
noncomputable def c_Clone : Con := fun args => match args with
  | [.row [.int .i64, .int .i64, .int .i64] n f] => .ask (0 < n ∧ n ≤ 10000) (.ret (.row [.int .i64, .int .i64, .int .i64] n f))
  | _ => .stuck 1
set_option maxRecDepth 100000 in
theorem t_Clone (n : Nat) (f : Nat → R3) : conB Go.Proofs.Try.prog (conOf []) noLoops 10 160 [.row [.int .i64, .int .i64, .int .i64] n f] =
    T.ask ((0 : Nat) < n) (.ask (((0 : Nat) + n) * nat_lit 24 ≤ nat_lit 140737488351232) (.ret (.row [.int .i64, .int .i64, .int .i64] (nat_lit 0 + n) (U.cat (nat_lit 0) (fun x => ((0 :
      Int), (0 : Int), (0 : Int), PUnit.unit)) f)))) := by kernel_rfl
theorem Clone_ok : ConOK P 160 c_Clone := con_cl (allOK mixed none_ok) 10 160 fun args r h => by
  unfold c_Clone at h
  split at h
  · rename_i n f
    obtain ⟨h0, h1⟩ := (T.is_ask h).1
    have h := (T.is_ask h).2
    obtain rfl := T.is_ret h
    rw [t_Clone]
    refine ⟨h0, ?_, cl_row' (Nat.zero_add n) fun i hi => cat_r (Nat.zero_le i)⟩
    show (0 + n) * 24 ≤ 140737488351232
    omega
  · exact h.elim
end Go.RX.Span

/- The library's slices.Equal and slices.Concat of two, of numbers: the walks. -/
set_option linter.unusedVariables false
set_option linter.unusedSimpArgs false
set_option maxRecDepth 100000
namespace Go.RX.Span
open Go Go.RX

set_option maxRecDepth 100000 in
theorem t_E (n0 n n1 : Nat) (f f1 : Nat → Els [.int .i64]) (len i : Int) : (sx E0 [] n0 (loopOf P 30 4) (mkS 26 [0, 1, 4, 12, 13] [.row [.int .i64] n f, .row [.int .i64] n1 f1, .any, .lit (.int .i64 len), .lit (.int .i64 i)], [])).bind (proj 26 [0, 1, 4, 12, 13]) =
    T.br (U.lt i len) (.ask ((0 : Int) ≤ i ∧ i < ↑n) (.ask ((0 : Int) ≤ i ∧ i < ↑n1) (.br (U.ne (f (U.toNat i)).1 (f1 (U.toNat i)).1) (.ret (Ex.ret, [.row [.int .i64] n f, .row [.int
      .i64] n1 f1, SV.kb false, .lit (.int .i64 len), .lit (.int .i64 i)], [])) (.ret (Ex.normal, [.row [.int .i64] n f, .row [.int .i64] n1 f1, SV.any, .lit (.int .i64 len), .lit (.int
      .i64 (U.add .i64 i (1 : Int)))], []))))) (.ret (Ex.exit (nat_lit 0), [.row [.int .i64] n f, .row [.int .i64] n1 f1, SV.any, .lit (.int .i64 len), .lit (.int .i64 i)], [])) := by kernel_rfl
theorem roundE (n0 : Nat) (x : XE) (hx : PhiE n0 x) : ((sx E0 [] n0 (loopOf P 30 4) (mkS 26 [0, 1, 4, 12, 13] (VE x).1, (VE x).2)).bind (proj 26 [0, 1, 4, 12, 13])).All fun r => match r.1 with
      | .normal => ∃ x', PhiE n0 x' ∧ x'.n - x'.k < x.n - x.k ∧ Wk 26 [0, 1, 4, 12, 13] n0 r.2 (VE x') ∧ ∀ o, ZE x' o → ZE x o
      | e => ∃ s, ZE x (e, s) ∧ Wk 26 [0, 1, 4, 12, 13] n0 r.2 s := by
  obtain ⟨n, n1, f, f1, len, k⟩ := x
  unfold VE
  dsimp only
  refine T.all_of_eq (t_E n0 n n1 f f1 len k) ?_
  obtain ⟨⟨h0, e1, e2, ht⟩, hk, hall⟩ := hx
  simp only [] at h0 e1 e2 ht hk hall
  subst h0; subst e1
  simp only [top] at ht
  have w0 : ∀ {vs vs' : List SV}, RlL (idR 0) vs vs' → Wk 26 [0, 1, 4, 12, 13] 0 (vs, []) (vs', []) := fun h => wk_of (idR 0) rfl (Nat.zero_le _) (fun b hb => by omega) h trivial
  by_cases hlt : k < n
  · have hadd : U.add .i64 (k : Int) 1 = ((k + 1 : Nat) : Int) := by rw [U.add64 (by unfold I64; omega)]; omega
    simp only [T.All, U.le_t, U.le_f, U.lt_t, U.lt_f, U.gt_t, U.gt_f, U.ge_t, U.ge_f, U.eq_t, U.eq_f, U.ne_t, U.ne_f, U.not_t, U.not_f, U.andb_t, U.andb_f, SV.lit.injEq, SV.agg.injEq, SV.tup.injEq, List.cons.injEq, Value.int.injEq, Value.bool.injEq, true_and, and_true, lk_eq, U.toNat_eq, Int.toNat_natCast]
    refine ⟨fun _ => ⟨⟨by omega, by omega⟩, ⟨by omega, by omega⟩, fun hne => ⟨OE'.2, ⟨fun he => absurd ((eqR_t.1 he).2 k hlt) (Eq.mp U.ne_t hne), fun _ => rfl⟩, w0 ⟨trivial, trivial, rfl, trivial, trivial, trivial⟩⟩, fun heq => ?_⟩, fun h => absurd h (by omega)⟩
    refine ⟨⟨n, n, f, f1, len, k + 1⟩, ⟨⟨rfl, rfl, e2, ht⟩, hlt, fun i hi => ?_⟩, by simp only []; omega, w0 ⟨⟨rfl, sameRow_refl _ _⟩, ⟨rfl, sameRow_refl _ _⟩, trivial, rfl, by rw [hadd]; rfl, trivial⟩, fun o ho => ho⟩
    by_cases h : i = k
    · subst h; exact Eq.mp U.ne_f heq
    · have hi' : i < k + 1 := hi
      exact hall i (by omega)
  · have : (k : Int) = n := by omega
    have hkn : k = n := by omega
    simp only [T.All, U.le_t, U.le_f, U.lt_t, U.lt_f, U.gt_t, U.gt_f, U.ge_t, U.ge_f, U.eq_t, U.eq_f, U.ne_t, U.ne_f, U.not_t, U.not_f, U.andb_t, U.andb_f, SV.lit.injEq, SV.agg.injEq, SV.tup.injEq, List.cons.injEq, Value.int.injEq, Value.bool.injEq, true_and, and_true, lk_eq]
    refine ⟨fun h => absurd h (by omega), fun _ => ⟨(OE ⟨n, n, f, f1, len, k⟩).2, ⟨fun _ => rfl, fun he => ?_⟩, w0 ⟨⟨rfl, sameRow_refl _ _⟩, ⟨rfl, sameRow_refl _ _⟩, trivial, trivial, trivial, trivial⟩⟩⟩
    rw [eqR_t.2 ⟨rfl, fun i hi => hall i (by have hi' : i < n := hi; omega)⟩] at he
    cases he
theorem loopE : LoopOK P (loopOf P 30 4) (few 26 [0, 1, 4, 12, 13] gE) :=
  loop_few (E := E0) mixed E0_ok loopsOK_none 26 [0, 1, 4, 12, 13] (X := XE) gE (fun _ x => VE x) PhiE (fun x => x.n - x.k) (fun _ x o => ZE x o)
    (fun n0 s r h => by
      unfold gE at h
      split at h
      · rename_i n0 n f n1 f1 s4 len
        obtain ⟨h0, e1, e2, ht⟩ := (T.is_ask h).1
        have h := (T.is_ask h).2
        rcases h with ⟨he, h⟩ | ⟨he, h⟩ <;> rw [lk_eq] at he <;> obtain rfl := T.is_ret h
        all_goals
          refine ⟨⟨n, n1, f, f1, len, 0⟩, ⟨⟨h0, e1, e2, ht⟩, Nat.zero_le _, fun i hi => by simp only [] at hi; omega⟩, wk_of (idR 0) rfl (by rw [h0]; exact Nat.zero_le _) (fun b hb => by omega) ⟨⟨rfl, sameRow_refl _ _⟩, ⟨rfl, sameRow_refl _ _⟩, rl_any _, rfl, rfl, trivial⟩ trivial, fun o ho => ?_⟩
          first | exact ho.1 he | exact ho.2 he
      · exact h.elim)
    roundE
theorem l36_ok : ∀ p ∈ l36, LoopsOK P p.2 (bodyOf P p.1) := by
  intro p hp
  simp only [l36, List.mem_singleton] at hp
  subst hp
  refine loopsOK_of (by kernel_rfl) fun k g hk => ?_
  simp only [List.mem_singleton, Prod.mk.injEq, LoopC.sum.injEq] at hk
  obtain ⟨rfl, rfl⟩ := hk
  exact loopE

noncomputable def c_Equal : Con := fun args => match args with
  | [.row [.int .i64] n f, .row [.int .i64] n1 f1] => .ask (n ≤ top) (.ret (.lit (.bool (lk eqR n f n1 f1))))
  | _ => .stuck 1
set_option maxRecDepth 100000 in
theorem t_Equal (n n1 : Nat) (f f1 : Nat → Els [.int .i64]) : conB Go.Proofs.Try.prog (conOf []) (loopsOf l36) 10 30 [.row [.int .i64] n f, .row [.int .i64] n1 f1] =
    T.br (U.ne (Int.ofNat n) (Int.ofNat n1)) (.ret (.lit (.bool false))) (.ask (PreE (nat_lit 0) n n1 ↑n) (.br (lk eqR n f n1 f1) (.ret (.lit (.bool true))) (.ret (.lit (.bool
      false))))) := by kernel_rfl
theorem Equal_ok : ConOK P 30 c_Equal := con_of (allOKL mixed none_ok l36_ok) 10 30 fun args r h => by
  unfold c_Equal at h
  split at h
  · rename_i n f n1 f1
    have hp := (T.is_ask h).1
    have h := (T.is_ask h).2
    obtain rfl := T.is_ret h
    rw [t_Equal]
    by_cases hn : n = n1
    · subst hn
      have hpre : PreE 0 n n n := ⟨rfl, rfl, rfl, hp⟩
      have hne : U.ne (Int.ofNat n) (Int.ofNat n) = false := by rw [U.ne_eq]; simp
      simp only [T.All, hne, hpre, lk_eq]
      cases eqR n f n f1 <;> simp
    · have he : eqR n f n1 f1 = false := by
        cases h : eqR n f n1 f1
        · rfl
        · exact absurd (eqR_t.1 h).1 hn
      have hne : U.ne (Int.ofNat n) (Int.ofNat n1) = true := by rw [U.ne_eq]; simp only [Int.ofNat_eq_natCast]; simp; omega
      simp only [T.All, hne, lk_eq, he]
      simp
  · exact h.elim
end Go.RX.Span

/- Domains: the examples of the chapter. -/
set_option linter.unusedVariables false
set_option linter.unusedSimpArgs false
set_option maxRecDepth 100000
namespace Go.RX.Span
open Go Go.RX
attribute [local irreducible] sx conB

/-- A contract made weaker. -/
theorem con_weak {P : Program} {f : FuncId} {c c' : Con} (hc : ConOK P f c) (h : ∀ args r', (c' args).Is r' → ∃ r, (c args).Is r ∧ Cl r r') : ConOK P f c' := by
  intro args r' hr' lv w vals hlv hr
  obtain ⟨r, h1, h2⟩ := h args r' hr'
  refine (hc args r h1 lv w vals hlv hr).mono ?_
  rintro e w' ⟨v, g1, g2, g3⟩
  exact ⟨v, g1, g2, Cl.rep r r' v h2 g3⟩
def mk3 (a b c : Int) : R3 := (a, b, c, ())
def two (p q : R3) : Nat → R3 := fun i => if i = 0 then p else q
/-- Subtract of the example. -/
noncomputable def c_Sub2 : Con := fun args => match args with
  | [.agg [.lit (.int .i64 a), .lit (.int .i64 b), .lit (.int .i64 c)], .agg [.lit (.int .i64 x), .lit (.int .i64 y), .lit (.int .i64 z)]] =>
    .ask (a = 0 ∧ b = 2 ∧ c = 1 ∧ x = 1 ∧ y = 1 ∧ z = 1) (.ret (.tup [.row [.int .i64, .int .i64, .int .i64] 2 (lk two (mk3 0 0 1) (mk3 2 2 1)), .lit (.int .i64 0)]))
  | _ => .stuck 1
theorem Sub2_ok : ConOK P 23 c_Sub2 := con_weak Subtract_ok fun args r' h => by
  unfold c_Sub2 at h
  split at h
  · rename_i a b c x y z
    obtain ⟨rfl, rfl, rfl, rfl, rfl, rfl⟩ := (T.is_ask h).1
    have h := (T.is_ask h).2
    obtain rfl := T.is_ret h
    refine ⟨_, ⟨by unfold I64; omega, rfl⟩, ?_⟩
    simp only [lk_eq]
    have e1 : sbN 0 2 1 1 1 1 = 2 := by kernel_rfl
    have e2 : sbE 0 2 1 1 1 1 = 0 := by kernel_rfl
    refine ⟨cl_row' e1 fun i hi => ?_, cl_lit (by rw [e2]), rfl⟩
    rw [e1] at hi
    rcases (show i = 0 ∨ i = 1 by omega) with rfl | rfl <;> kernel_rfl
  · exact h.elim
/-- Intersect of the example. -/
noncomputable def c_Int2 : Con := fun args => match args with
  | [.agg [.row [.int .i64, .int .i64, .int .i64] 2 f, .lit (.int .i64 (.ofNat 0)), .lit (.int .i64 (.ofNat 0)), .lit (.int .i64 (.ofNat 0))], .agg [.row [.int .i64, .int .i64, .int .i64] 2 g, .lit (.int .i64 (.ofNat 0)), .lit (.int .i64 (.ofNat 0)), .lit (.int .i64 (.ofNat 0))]] =>
    .ask (f 0 = (mk3 0 2 1) ∧ f 1 = (mk3 0 2 1) ∧ g 0 = (mk3 1 1 1) ∧ g 1 = (mk3 1 1 1)) (.ret (.tup [.agg [.row [.int .i64, .int .i64, .int .i64] 2 (lk two (mk3 1 1 1) (mk3 1 1 1)), .lit (.int .i64 0), .lit (.int .i64 0), .lit (.int .i64 0)], .lit (.int .i64 0)]))
  | _ => .stuck 1
theorem Int2_ok : ConOK P 76 c_Int2 := con_weak DIntersect_ok fun args r' h => by
  unfold c_Int2 at h
  split at h
  · rename_i f g
    obtain ⟨f0, f1, g0, g1⟩ := (T.is_ask h).1
    have h := (T.is_ask h).2
    obtain rfl := T.is_ret h
    have c1 : chD 2 f 0 0 0 = 0 := by unfold chD; rw [f0, f1]; kernel_rfl
    have c2 : chD 2 g 0 0 0 = 0 := by unfold chD; rw [g0, g1]; kernel_rfl
    have hE : boE 2 f 0 0 0 2 g 0 0 0 = 0 := boE_zero.2 ⟨c1, c2, rfl⟩
    refine ⟨_, ⟨⟨dr_64 (chD_zero.1 c1).1, dr_64 (chD_zero.1 c2).1⟩, rfl⟩, ?_⟩
    simp only [lk_eq]
    have e1 : diN 2 f 0 0 0 2 g 0 0 0 = 2 := by unfold diN; rw [if_neg (by simp [hE])]
    have e2 : ∀ x, diX 2 f 0 0 0 2 g 0 0 0 x = x := fun x => by unfold diX; rw [if_neg (by simp [hE])]
    refine ⟨cl_agg ⟨cl_row' e1 fun i hi => ?_, cl_lit (congrArg _ (e2 0)), cl_lit (congrArg _ (e2 0)), cl_lit (congrArg _ (e2 0)), rfl⟩, cl_lit (congrArg _ hE), rfl⟩
    have hi2 : i < 2 := Nat.lt_of_lt_of_eq hi e1
    rcases (show i = 0 ∨ i = 1 by omega) with rfl | rfl
    · show isR (f 0) (g 0) = _
      rw [f0, g0]; kernel_rfl
    · show isR (f 1) (g 1) = _
      rw [f1, g1]; kernel_rfl
  · exact h.elim
noncomputable abbrev d4 : List (Nat × Con) := (160, c_Clone) :: (23, c_Sub2) :: (76, c_Int2) :: (41, c_DSize) :: d2
theorem d4_ok : ∀ p ∈ d4, ConOK P p.1 p.2 := by
  intro p hp
  simp only [d4, List.mem_cons] at hp
  rcases hp with rfl | rfl | rfl | rfl | hp
  · exact Clone_ok
  · exact Sub2_ok
  · exact Int2_ok
  · exact DSize_ok
  · exact d2_ok p (by simpa [d2] using hp)
noncomputable abbrev lSu : List (Nat × Loops) := [(78, [(13, .un 3), (23, .un 3)])]
theorem lSu_ok : ∀ p ∈ lSu, LoopsOK P p.2 (bodyOf P p.1) := by
  intro p hp
  simp only [lSu, List.mem_singleton] at hp
  subst hp
  exact loopsOK_un fun q hq => by
    simp only [List.mem_cons, List.not_mem_nil, or_false] at hq
    rcases hq with rfl | rfl <;> exact ⟨3, rfl⟩
def pathS : List Bool := [false, false, false, true, false, true, true, false, true, false, false, false, true, true, true, true, false]
/-- Subtract, by the way that the example takes. -/
noncomputable def c_DSub4 : Con := fun args => (conB Go.Proofs.Try.prog (conOf d4) (loopsOf lSu) 10 78 args).force pathS
theorem DSub4_ok : ConOK P 78 c_DSub4 := fun args r h => conB_ok (allOKL mixed d4_ok lSu_ok) 10 78 args r (T.force_is _ _ h)
noncomputable abbrev d6 : List (Nat × Con) := (78, c_DSub4) :: (82, c_DOf) :: (68, c_DNth) :: (30, c_Equal) :: d3
theorem d6_ok : ∀ p ∈ d6, ConOK P p.1 p.2 := by
  intro p hp
  simp only [d6, List.mem_cons] at hp
  rcases hp with rfl | rfl | rfl | rfl | hp
  · exact DSub4_ok
  · exact DOf_ok
  · exact DNth_ok
  · exact Equal_ok
  · exact d3_ok p (by simpa [d3] using hp)
def pathA : List Bool := [true, true, true, true, true]
end Go.RX.Span

/- Domains: what the law of domains within each other returns. -/
set_option linter.unusedVariables false
set_option linter.unusedSimpArgs false
set_option maxRecDepth 100000
namespace Go.RX.Span
open Go Go.RX
attribute [local irreducible] sx conB

theorem cat_fun {α : Type} (n : Nat) (f g : Nat → α) : U.cat n f g = fun i => if i < n then f i else g (i - n) := funext fun i => U.cat_eq n f g i
theorem castEls_same {ss : List Sh} (h : eqShs ss ss = true) (f : Nat → Els ss) : castEls h f = f := rfl
theorem cutF_some {ss : List Sh} (s : SV) (f : Nat → Els ss) (l : Int) : cutF (some s) f l = fun i => f (i + l.toNat) := by unfold cutF; simp only [U.toNat_eq]
--%R ofList\s+\[\((\S+ : Int\)),\s+\(\)\) => ofList (ss := [.int .i64]) [(\1, ())
--%R ↑\((\d+)\s+:\s+Nat\) => ((\1 : Nat) : Int)
--%R ofList\s+\[ => ofList (ss := [.int .i64, .int .i64, .int .i64]) [
set_option maxRecDepth 100000 in
theorem t_awake2  : (conB Go.Proofs.Try.prog (conOf d6) noLoops 10 64 []).force pathA =
    T.ask (Row64 (2 : Nat) (ofList (ss := [.int .i64, .int .i64, .int .i64]) [((0 : Int), (1 : Int), (1 : Int), ()), ((1 : Int), (5 : Int), (2 : Int), ())].reverse)) (.ask (Row64 (lk
      dofN (nat_lit 2) (ofList (ss := [.int .i64, .int .i64, .int .i64]) [((0 : Int), (1 : Int), (1 : Int), ()), ((1 : Int), (5 : Int), (2 : Int), ())].reverse)) (lk dofF (ofList (ss :=
      [.int .i64, .int .i64, .int .i64]) [((0 : Int), (1 : Int), (1 : Int), ()), ((1 : Int), (5 : Int), (2 : Int), ())].reverse)) ∧ I64 (3 : Int)) (.ask (ofList (ss := [.int .i64, .int
      .i64, .int .i64]) [((0 : Int), (2 : Int), (1 : Int), ()), ((0 : Int), (2 : Int), (1 : Int), ())].reverse (0 : Nat) = mk3 (0 : Int) (2 : Int) (1 : Int) ∧ ofList (ss := [.int .i64,
      .int .i64, .int .i64]) [((0 : Int), (2 : Int), (1 : Int), ()), ((0 : Int), (2 : Int), (1 : Int), ())].reverse (1 : Nat) = mk3 (0 : Int) (2 : Int) (1 : Int) ∧ ofList (ss := [.int
      .i64, .int .i64, .int .i64]) [((1 : Int), (1 : Int), (1 : Int), ()), ((1 : Int), (1 : Int), (1 : Int), ())].reverse (0 : Nat) = mk3 (1 : Int) (1 : Int) (1 : Int) ∧ ofList (ss :=
      [.int .i64, .int .i64, .int .i64]) [((1 : Int), (1 : Int), (1 : Int), ()), ((1 : Int), (1 : Int), (1 : Int), ())].reverse (1 : Nat) = mk3 (1 : Int) (1 : Int) (1 : Int)) (.ask (U.ne
      (0 : Int) (0 : Int) = false) (.ask (Row64 (2 : Nat) (lk two (mk3 (1 : Int) (1 : Int) (1 : Int)) (mk3 (1 : Int) (1 : Int) (1 : Int)))) (.ask (U.eq (lk szD (nat_lit 2) (lk two ((1 :
      Int), (1 : Int), (1 : Int), PUnit.unit) ((1 : Int), (1 : Int), (1 : Int), PUnit.unit)) (0 : Int) (0 : Int) (0 : Int)) (0 : Int) = false) (.ask ((0 : Int) ≤ (0 : Int) ∧ (0 : Int) <
      ((2 : Nat) : Int)) (.ask ((0 : Int) ≤ (0 : Int) ∧ (0 : Int) < ((2 : Nat) : Int)) (.ask ((ofList (ss := [.int .i64, .int .i64, .int .i64]) [(Int.ofNat 0, Int.ofNat 2, Int.ofNat 1,
      ()), (Int.ofNat 0, Int.ofNat 2, Int.ofNat 1, ())].reverse (U.toNat (0 : Int))).1 = (0 : Int) ∧ (ofList (ss := [.int .i64, .int .i64, .int .i64]) [(Int.ofNat 0, Int.ofNat 2,
      Int.ofNat 1, ()), (Int.ofNat 0, Int.ofNat 2, Int.ofNat 1, ())].reverse (U.toNat (0 : Int))).2.1 = (2 : Int) ∧ (ofList (ss := [.int .i64, .int .i64, .int .i64]) [(Int.ofNat 0,
      Int.ofNat 2, Int.ofNat 1, ()), (Int.ofNat 0, Int.ofNat 2, Int.ofNat 1, ())].reverse (U.toNat (0 : Int))).2.2.1 = (1 : Int) ∧ (ofList (ss := [.int .i64, .int .i64, .int .i64])
      [(Int.ofNat 1, Int.ofNat 1, Int.ofNat 1, ()), (Int.ofNat 1, Int.ofNat 1, Int.ofNat 1, ())].reverse (U.toNat (0 : Int))).1 = (1 : Int) ∧ (ofList (ss := [.int .i64, .int .i64, .int
      .i64]) [(Int.ofNat 1, Int.ofNat 1, Int.ofNat 1, ()), (Int.ofNat 1, Int.ofNat 1, Int.ofNat 1, ())].reverse (U.toNat (0 : Int))).2.1 = (1 : Int) ∧ (ofList (ss := [.int .i64, .int
      .i64, .int .i64]) [(Int.ofNat 1, Int.ofNat 1, Int.ofNat 1, ()), (Int.ofNat 1, Int.ofNat 1, Int.ofNat 1, ())].reverse (U.toNat (0 : Int))).2.2.1 = (1 : Int)) (.ask (U.ne (0 : Int) (0
      : Int) = false) (.ask (U.lt (0 : Int) (2 : Int) = true) (.ask ((0 : Int) ≤ (0 : Int) ∧ (0 : Int) < ((2 : Nat) : Int)) (.ask ((0 : Int) ≤ (1 : Int) ∧ (1 : Int) ≤ ((2 : Nat) : Int) ∧
      ((2 : Nat) : Int) ≤ ((2 : Nat) : Int)) (.ask (U.isz (U.nsub (nat_lit 2) (U.toNat (1 : Int))) = false) (.ask ((0 : Nat) < U.nsub (nat_lit 2) (U.toNat (1 : Int)) ∧ ((1 : Nat) + U.nsub
      (nat_lit 2) (U.toNat (1 : Int))) * nat_lit 24 ≤ nat_lit 140737488351232) (.ask ((0 : Nat) < (1 : Nat) + U.nsub (nat_lit 2) (U.toNat (1 : Int)) ∧ (1 : Nat) + U.nsub (nat_lit 2)
      (U.toNat (1 : Int)) ≤ (10000 : Nat)) (.ask (Row64 ((1 : Nat) + U.nsub (nat_lit 2) (U.toNat (1 : Int))) (U.cat (1 : Nat) (ofList (ss := [.int .i64, .int .i64, .int .i64]) [((lk two
      (mk3 (0 : Int) (0 : Int) (1 : Int)) (mk3 (2 : Int) (2 : Int) (1 : Int)) (U.toNat (Int.ofNat 0))).1, (lk two (mk3 (0 : Int) (0 : Int) (1 : Int)) (mk3 (2 : Int) (2 : Int) (1 : Int))
      (U.toNat (Int.ofNat 0))).2.1, (lk two (mk3 (0 : Int) (0 : Int) (1 : Int)) (mk3 (2 : Int) (2 : Int) (1 : Int)) (U.toNat (Int.ofNat 0))).2.2.1, ())].reverse) (castEls rfl (cutF (some
      (SV.ki .i64 1)) (ofList (ss := [.int .i64, .int .i64, .int .i64]) [((0 : Int), (2 : Int), (1 : Int), ()), ((0 : Int), (2 : Int), (1 : Int), ())].reverse) (1 : Int))))) (.ask (U.gt
      (lk szD (nat_lit 1 + U.nsub (nat_lit 2) (U.toNat (1 : Int))) (U.cat (nat_lit 1) (fun x => ((lk two (mk3 (0 : Int) (0 : Int) (1 : Int)) (mk3 (2 : Int) (2 : Int) (1 : Int)) (U.toNat
      (Int.ofNat 0))).1, (lk two (mk3 (0 : Int) (0 : Int) (1 : Int)) (mk3 (2 : Int) (2 : Int) (1 : Int)) (U.toNat (Int.ofNat 0))).2.1, (lk two (mk3 (0 : Int) (0 : Int) (1 : Int)) (mk3 (2
      : Int) (2 : Int) (1 : Int)) (U.toNat (Int.ofNat 0))).2.2.1, PUnit.unit)) (castEls rfl (cutF (some (SV.ki .i64 1)) (ofList (ss := [.int .i64, .int .i64, .int .i64]) [((0 : Int), (2 :
      Int), (1 : Int), ()), ((0 : Int), (2 : Int), (1 : Int), ())].reverse) (1 : Int)))) (0 : Int) (0 : Int) (0 : Int)) (0 : Int) = true) (.ask ((1 : Nat) * nat_lit 48 ≤ nat_lit
      140737488351232) (.ask (U.lt (1 : Int) (2 : Int) = true) (.ask ((0 : Int) ≤ (1 : Int) ∧ (1 : Int) < ((2 : Nat) : Int)) (.ask ((0 : Int) ≤ (1 : Int) ∧ (1 : Int) ≤ ((2 : Nat) : Int) ∧
      ((2 : Nat) : Int) ≤ ((2 : Nat) : Int)) (.ask (U.isz (U.nsub (nat_lit 2) (U.toNat (1 : Int))) = false) (.ask ((0 : Nat) < U.nsub (nat_lit 2) (U.toNat (1 : Int)) ∧ ((1 : Nat) + U.nsub
      (nat_lit 2) (U.toNat (1 : Int))) * nat_lit 24 ≤ nat_lit 140737488351232) (.ask ((0 : Nat) < (1 : Nat) + U.nsub (nat_lit 2) (U.toNat (1 : Int)) ∧ (1 : Nat) + U.nsub (nat_lit 2)
      (U.toNat (1 : Int)) ≤ (10000 : Nat)) (.ask (Row64 ((1 : Nat) + U.nsub (nat_lit 2) (U.toNat (1 : Int))) (U.cat (1 : Nat) (ofList (ss := [.int .i64, .int .i64, .int .i64]) [((lk two
      (mk3 (0 : Int) (0 : Int) (1 : Int)) (mk3 (2 : Int) (2 : Int) (1 : Int)) (U.toNat (Int.ofNat 1))).1, (lk two (mk3 (0 : Int) (0 : Int) (1 : Int)) (mk3 (2 : Int) (2 : Int) (1 : Int))
      (U.toNat (Int.ofNat 1))).2.1, (lk two (mk3 (0 : Int) (0 : Int) (1 : Int)) (mk3 (2 : Int) (2 : Int) (1 : Int)) (U.toNat (Int.ofNat 1))).2.2.1, ())].reverse) (castEls rfl (cutF (some
      (SV.ki .i64 1)) (ofList (ss := [.int .i64, .int .i64, .int .i64]) [((0 : Int), (2 : Int), (1 : Int), ()), ((0 : Int), (2 : Int), (1 : Int), ())].reverse) (1 : Int))))) (.ask (U.gt
      (lk szD (nat_lit 1 + U.nsub (nat_lit 2) (U.toNat (1 : Int))) (U.cat (nat_lit 1) (fun x => ((lk two (mk3 (0 : Int) (0 : Int) (1 : Int)) (mk3 (2 : Int) (2 : Int) (1 : Int)) (U.toNat
      (Int.ofNat 1))).1, (lk two (mk3 (0 : Int) (0 : Int) (1 : Int)) (mk3 (2 : Int) (2 : Int) (1 : Int)) (U.toNat (Int.ofNat 1))).2.1, (lk two (mk3 (0 : Int) (0 : Int) (1 : Int)) (mk3 (2
      : Int) (2 : Int) (1 : Int)) (U.toNat (Int.ofNat 1))).2.2.1, PUnit.unit)) (castEls rfl (cutF (some (SV.ki .i64 1)) (ofList (ss := [.int .i64, .int .i64, .int .i64]) [((0 : Int), (2 :
      Int), (1 : Int), ()), ((0 : Int), (2 : Int), (1 : Int), ())].reverse) (1 : Int)))) (0 : Int) (0 : Int) (0 : Int)) (0 : Int) = true) (.ask (((1 : Nat) + (1 : Nat)) * nat_lit 48 ≤
      nat_lit 140737488351232) (.ask (U.lt (2 : Int) (2 : Int) = false) (.ask (U.eq (2 : Int) (1 : Int) = false) (.ask ((0 : Int) ≤ (1 : Int) ∧ (1 : Int) < ((2 : Nat) : Int)) (.ask ((0 :
      Int) ≤ (1 : Int) ∧ (1 : Int) < ((2 : Nat) : Int)) (.ask ((ofList (ss := [.int .i64, .int .i64, .int .i64]) [(Int.ofNat 0, Int.ofNat 2, Int.ofNat 1, ()), (Int.ofNat 0, Int.ofNat 2,
      Int.ofNat 1, ())].reverse (U.toNat (1 : Int))).1 = (0 : Int) ∧ (ofList (ss := [.int .i64, .int .i64, .int .i64]) [(Int.ofNat 0, Int.ofNat 2, Int.ofNat 1, ()), (Int.ofNat 0,
      Int.ofNat 2, Int.ofNat 1, ())].reverse (U.toNat (1 : Int))).2.1 = (2 : Int) ∧ (ofList (ss := [.int .i64, .int .i64, .int .i64]) [(Int.ofNat 0, Int.ofNat 2, Int.ofNat 1, ()),
      (Int.ofNat 0, Int.ofNat 2, Int.ofNat 1, ())].reverse (U.toNat (1 : Int))).2.2.1 = (1 : Int) ∧ (ofList (ss := [.int .i64, .int .i64, .int .i64]) [(Int.ofNat 1, Int.ofNat 1, Int.ofNat
      1, ()), (Int.ofNat 1, Int.ofNat 1, Int.ofNat 1, ())].reverse (U.toNat (1 : Int))).1 = (1 : Int) ∧ (ofList (ss := [.int .i64, .int .i64, .int .i64]) [(Int.ofNat 1, Int.ofNat 1,
      Int.ofNat 1, ()), (Int.ofNat 1, Int.ofNat 1, Int.ofNat 1, ())].reverse (U.toNat (1 : Int))).2.1 = (1 : Int) ∧ (ofList (ss := [.int .i64, .int .i64, .int .i64]) [(Int.ofNat 1,
      Int.ofNat 1, Int.ofNat 1, ()), (Int.ofNat 1, Int.ofNat 1, Int.ofNat 1, ())].reverse (U.toNat (1 : Int))).2.2.1 = (1 : Int)) (.ask (U.ne (0 : Int) (0 : Int) = false) (.ask (U.lt (0 :
      Int) (2 : Int) = true) (.ask ((0 : Int) ≤ (0 : Int) ∧ (0 : Int) < ((2 : Nat) : Int)) (.ask ((0 : Int) ≤ (0 : Int) ∧ (0 : Int) < ((2 : Nat) : Int)) (.ask ((0 : Nat) < (2 : Nat) ∧ (2
      : Nat) ≤ (10000 : Nat)) (.ask (Row64 (2 : Nat) (ofList (ss := [.int .i64, .int .i64, .int .i64]) [((lk two (mk3 (0 : Int) (0 : Int) (1 : Int)) (mk3 (2 : Int) (2 : Int) (1 : Int))
      (U.toNat (Int.ofNat 0))).1, (lk two (mk3 (0 : Int) (0 : Int) (1 : Int)) (mk3 (2 : Int) (2 : Int) (1 : Int)) (U.toNat (Int.ofNat 0))).2.1, (lk two (mk3 (0 : Int) (0 : Int) (1 : Int))
      (mk3 (2 : Int) (2 : Int) (1 : Int)) (U.toNat (Int.ofNat 0))).2.2.1, ()), ((lk two (mk3 (1 : Int) (1 : Int) (1 : Int)) (mk3 (1 : Int) (1 : Int) (1 : Int)) (U.toNat (0 : Int))).1, (lk
      two (mk3 (1 : Int) (1 : Int) (1 : Int)) (mk3 (1 : Int) (1 : Int) (1 : Int)) (U.toNat (0 : Int))).2.1, (lk two (mk3 (1 : Int) (1 : Int) (1 : Int)) (mk3 (1 : Int) (1 : Int) (1 : Int))
      (U.toNat (0 : Int))).2.2.1, ())].reverse)) (.ask (U.gt (lk szD (nat_lit 2) (ofList (ss := [.int .i64, .int .i64, .int .i64]) [((lk two (mk3 (0 : Int) (0 : Int) (1 : Int)) (mk3 (2 :
      Int) (2 : Int) (1 : Int)) (U.toNat (Int.ofNat 0))).1, (lk two (mk3 (0 : Int) (0 : Int) (1 : Int)) (mk3 (2 : Int) (2 : Int) (1 : Int)) (U.toNat (Int.ofNat 0))).2.1, (lk two (mk3 (0 :
      Int) (0 : Int) (1 : Int)) (mk3 (2 : Int) (2 : Int) (1 : Int)) (U.toNat (Int.ofNat 0))).2.2.1, ()), ((lk two (mk3 (1 : Int) (1 : Int) (1 : Int)) (mk3 (1 : Int) (1 : Int) (1 : Int))
      (U.toNat (0 : Int))).1, (lk two (mk3 (1 : Int) (1 : Int) (1 : Int)) (mk3 (1 : Int) (1 : Int) (1 : Int)) (U.toNat (0 : Int))).2.1, (lk two (mk3 (1 : Int) (1 : Int) (1 : Int)) (mk3 (1
      : Int) (1 : Int) (1 : Int)) (U.toNat (0 : Int))).2.2.1, ())].reverse) (0 : Int) (0 : Int) (0 : Int)) (0 : Int) = true) (.ask (((1 : Nat) + (1 : Nat) + (1 : Nat)) * nat_lit 48 ≤
      nat_lit 140737488351232) (.ask (U.lt (1 : Int) (2 : Int) = true) (.ask ((0 : Int) ≤ (1 : Int) ∧ (1 : Int) < ((2 : Nat) : Int)) (.ask ((0 : Int) ≤ (0 : Int) ∧ (0 : Int) < ((2 : Nat)
      : Int)) (.ask ((0 : Nat) < (2 : Nat) ∧ (2 : Nat) ≤ (10000 : Nat)) (.ask (Row64 (2 : Nat) (ofList (ss := [.int .i64, .int .i64, .int .i64]) [((lk two (mk3 (0 : Int) (0 : Int) (1 :
      Int)) (mk3 (2 : Int) (2 : Int) (1 : Int)) (U.toNat (Int.ofNat 1))).1, (lk two (mk3 (0 : Int) (0 : Int) (1 : Int)) (mk3 (2 : Int) (2 : Int) (1 : Int)) (U.toNat (Int.ofNat 1))).2.1,
      (lk two (mk3 (0 : Int) (0 : Int) (1 : Int)) (mk3 (2 : Int) (2 : Int) (1 : Int)) (U.toNat (Int.ofNat 1))).2.2.1, ()), ((lk two (mk3 (1 : Int) (1 : Int) (1 : Int)) (mk3 (1 : Int) (1 :
      Int) (1 : Int)) (U.toNat (0 : Int))).1, (lk two (mk3 (1 : Int) (1 : Int) (1 : Int)) (mk3 (1 : Int) (1 : Int) (1 : Int)) (U.toNat (0 : Int))).2.1, (lk two (mk3 (1 : Int) (1 : Int) (1
      : Int)) (mk3 (1 : Int) (1 : Int) (1 : Int)) (U.toNat (0 : Int))).2.2.1, ())].reverse)) (.ask (U.gt (lk szD (nat_lit 2) (ofList (ss := [.int .i64, .int .i64, .int .i64]) [((lk two
      (mk3 (0 : Int) (0 : Int) (1 : Int)) (mk3 (2 : Int) (2 : Int) (1 : Int)) (U.toNat (Int.ofNat 1))).1, (lk two (mk3 (0 : Int) (0 : Int) (1 : Int)) (mk3 (2 : Int) (2 : Int) (1 : Int))
      (U.toNat (Int.ofNat 1))).2.1, (lk two (mk3 (0 : Int) (0 : Int) (1 : Int)) (mk3 (2 : Int) (2 : Int) (1 : Int)) (U.toNat (Int.ofNat 1))).2.2.1, ()), ((lk two (mk3 (1 : Int) (1 : Int)
      (1 : Int)) (mk3 (1 : Int) (1 : Int) (1 : Int)) (U.toNat (0 : Int))).1, (lk two (mk3 (1 : Int) (1 : Int) (1 : Int)) (mk3 (1 : Int) (1 : Int) (1 : Int)) (U.toNat (0 : Int))).2.1, (lk
      two (mk3 (1 : Int) (1 : Int) (1 : Int)) (mk3 (1 : Int) (1 : Int) (1 : Int)) (U.toNat (0 : Int))).2.2.1, ())].reverse) (0 : Int) (0 : Int) (0 : Int)) (0 : Int) = true) (.ask (((1 :
      Nat) + (1 : Nat) + (1 : Nat) + (1 : Nat)) * nat_lit 48 ≤ nat_lit 140737488351232) (.ask (U.lt (2 : Int) (2 : Int) = false) (.ask (U.eq (lk dofE (nat_lit 2) (ofList (ss := [.int
      .i64, .int .i64, .int .i64]) [((0 : Int), (1 : Int), (1 : Int), ()), ((1 : Int), (5 : Int), (2 : Int), ())].reverse)) (0 : Int) = true) (.ask (U.eq (lk dnE (lk dofN (nat_lit 2)
      (ofList (ss := [.int .i64, .int .i64, .int .i64]) [((0 : Int), (1 : Int), (1 : Int), ()), ((1 : Int), (5 : Int), (2 : Int), ())].reverse)) (lk dofF (ofList (ss := [.int .i64, .int
      .i64, .int .i64]) [((0 : Int), (1 : Int), (1 : Int), ()), ((1 : Int), (5 : Int), (2 : Int), ())].reverse)) (0 : Int) (0 : Int) (0 : Int) (3 : Int)) (0 : Int) = true) (.ask (U.eq (0
      : Int) (0 : Int) = true) (.ask (Row64 (lk dofN (nat_lit 2) (ofList (ss := [.int .i64, .int .i64, .int .i64]) [((0 : Int), (1 : Int), (1 : Int), ()), ((1 : Int), (5 : Int), (2 :
      Int), ())].reverse)) (lk dofF (ofList (ss := [.int .i64, .int .i64, .int .i64]) [((0 : Int), (1 : Int), (1 : Int), ()), ((1 : Int), (5 : Int), (2 : Int), ())].reverse))) (.ask (U.eq
      (lk szD (lk dofN (nat_lit 2) (ofList (ss := [.int .i64, .int .i64, .int .i64]) [((0 : Int), (1 : Int), (1 : Int), ()), ((1 : Int), (5 : Int), (2 : Int), ())].reverse)) (lk dofF
      (ofList (ss := [.int .i64, .int .i64, .int .i64]) [((0 : Int), (1 : Int), (1 : Int), ()), ((1 : Int), (5 : Int), (2 : Int), ())].reverse)) (0 : Int) (0 : Int) (0 : Int)) (6 : Int) =
      true) (.ask (lk dnN (lk dofN (nat_lit 2) (ofList (ss := [.int .i64, .int .i64, .int .i64]) [((0 : Int), (1 : Int), (1 : Int), ()), ((1 : Int), (5 : Int), (2 : Int), ())].reverse))
      (lk dofF (ofList (ss := [.int .i64, .int .i64, .int .i64]) [((0 : Int), (1 : Int), (1 : Int), ()), ((1 : Int), (5 : Int), (2 : Int), ())].reverse)) (0 : Int) (0 : Int) (0 : Int) (3
      : Int) ≤ nat_lit 9223372036854775807) (.ask (lk eqR (lk dnN (lk dofN (nat_lit 2) (ofList (ss := [.int .i64, .int .i64, .int .i64]) [((0 : Int), (1 : Int), (1 : Int), ()), ((1 :
      Int), (5 : Int), (2 : Int), ())].reverse)) (lk dofF (ofList (ss := [.int .i64, .int .i64, .int .i64]) [((0 : Int), (1 : Int), (1 : Int), ()), ((1 : Int), (5 : Int), (2 : Int),
      ())].reverse)) (0 : Int) (0 : Int) (0 : Int) (3 : Int)) (lk dnF (lk dofN (nat_lit 2) (ofList (ss := [.int .i64, .int .i64, .int .i64]) [((0 : Int), (1 : Int), (1 : Int), ()), ((1 :
      Int), (5 : Int), (2 : Int), ())].reverse)) (lk dofF (ofList (ss := [.int .i64, .int .i64, .int .i64]) [((0 : Int), (1 : Int), (1 : Int), ()), ((1 : Int), (5 : Int), (2 : Int),
      ())].reverse)) (3 : Int)) (nat_lit 2) (ofList (ss := [.int .i64]) [((1 : Int), ()), ((3 : Int), ())].reverse) = true) (.ret (.lit (.bool (U.eq (4 : Int) (4 :
      Int)))))))))))))))))))))))))))))))))))))))))))))))))))))))))))) := by kernel_rfl
set_option maxHeartbeats 2000000 in
theorem awake2_ok : ConOK P 64 c_true := con_force (allOK mixed d6_ok) 10 64 fun args r h => by
  refine ⟨pathA, ?_⟩
  unfold c_true at h
  split at h
  · obtain rfl := T.is_ret h
    rw [t_awake2]
    simp only [T.All, lk_eq, U.nsub_eq, U.toNat_eq, U.isz_eq, U.eq_eq, U.ne_eq, U.lt_eq, U.le_eq, U.gt_eq, U.ge_eq, Row64, I64, cat_fun, castEls_same, cutF_some]
    repeat' apply And.intro
    all_goals first | decide +kernel | rfl | (erw [cat_fun]; decide +kernel) | skip
    · have e0 : dnN (dofN 2 (ofList (ss := [.int .i64, .int .i64, .int .i64]) [((0 : Int), (1 : Int), (1 : Int), ()), ((1 : Int), (5 : Int), (2 : Int), ())].reverse)) (dofF (ofList (ss := [.int .i64, .int .i64, .int .i64]) [((0 : Int), (1 : Int), (1 : Int), ()), ((1 : Int), (5 : Int), (2 : Int), ())].reverse)) 0 0 0 3 = 2 := by decide +kernel
      refine eqR_t.2 ⟨e0, fun i hi => ?_⟩
      have hi2 : i < 2 := Nat.lt_of_lt_of_eq hi e0
      rcases (show i = 0 ∨ i = 1 by omega) with rfl | rfl
      · exact (show ∀ x y : Int, decide (x = y) = true → x = y from fun x y h => of_decide_eq_true h) _ _ (by kernel_rfl)
      · exact (show ∀ x y : Int, decide (x = y) = true → x = y from fun x y h => of_decide_eq_true h) _ _ (by kernel_rfl)
    · exact cl_lit rfl
  · exact h.elim
noncomputable abbrev d5 : List (Nat × Con) := (64, c_true) :: (65, c_DWithin) :: (66, c_DSame) :: d3 --%K
end Go.RX.Span

/- Domains: Position, Has: plain; contracts. -/
set_option linter.unusedVariables false
set_option linter.unusedSimpArgs false
set_option maxRecDepth 100000
namespace Go.RX.Span
open Go Go.RX
attribute [local irreducible] sx conB

abbrev hasR (r : R3) (v : Int) : Bool := has (rA r) (rB r) (rC r) v
abbrev posR (r : R3) (v : Int) : Int := pos (rA r) (rB r) (rC r) v
section
variable (n : Nat) (f : Nat → R3) (k s h : Int) (m : Nat) (e : Nat → R1)
def hasD : Bool := decide (chD n f k s h = 0 ∧ m = n ∧ hasR (f 0) (e 0).1 = true ∧ (n = 2 → hasR (f 1) (e 1).1 = true))
def posD : Int := if hasD n f k s h m e = true then (if n = 1 then posR (f 0) (e 0).1 else posR (f 0) (e 0).1 * szR (f 1) + posR (f 1) (e 1).1) else 0
end
theorem pos_bnd {a b c n : Int} (h : has a b c n = true) : 0 ≤ pos a b c n ∧ pos a b c n ≤ 2000000 := by
  unfold pos
  rw [if_pos h]
  unfold has at h
  obtain ⟨h0, h1, h2, h3⟩ := of_decide_eq_true h
  have hr := chk_zero.1 h0
  have hl := hr.1
  by_cases hc : c < 0
  · rw [if_pos hc]
    have e1 := Int.ediv_nonneg (show 0 ≤ b - n by omega) (show 0 ≤ -c by omega)
    have e2 := Int.ediv_le_self (-c) (show 0 ≤ b - n by omega)
    omega
  · rw [if_neg hc]
    have hc0 := right_c hr
    have e1 := Int.ediv_nonneg (show 0 ≤ n - a by omega) (show 0 ≤ c by omega)
    have e2 := Int.ediv_le_self c (show 0 ≤ n - a by omega)
    omega
noncomputable def c_DPosition : Con := fun args => match args with
  | [.agg [.row [.int .i64, .int .i64, .int .i64] n f, .lit (.int .i64 k), .lit (.int .i64 s), .lit (.int .i64 h)], .row [.int .i64] m e] => .ask (Row64 n f) (.ret (.tup [.lit (.int .i64 (lk posD n f k s h m e)), .lit (.bool (lk hasD n f k s h m e))]))
  | _ => .stuck 1
noncomputable def c_DHas : Con := fun args => match args with
  | [.agg [.row [.int .i64, .int .i64, .int .i64] n f, .lit (.int .i64 k), .lit (.int .i64 s), .lit (.int .i64 h)], .row [.int .i64] m e] => .ask (Row64 n f) (.ret (.lit (.bool (lk hasD n f k s h m e))))
  | _ => .stuck 1
theorem hasD_f {n : Nat} {f : Nat → R3} {k s h : Int} {m : Nat} {e : Nat → R1} (hc : ¬ (chD n f k s h = 0 ∧ m = n ∧ hasR (f 0) (e 0).1 = true ∧ (n = 2 → hasR (f 1) (e 1).1 = true))) : hasD n f k s h m e = false ∧ posD n f k s h m e = 0 := by
  have : hasD n f k s h m e = false := decide_eq_false hc
  exact ⟨this, by unfold posD; rw [this]; rfl⟩
theorem hasD_t {n : Nat} {f : Nat → R3} {k s h : Int} {m : Nat} {e : Nat → R1} (hc : chD n f k s h = 0 ∧ m = n ∧ hasR (f 0) (e 0).1 = true ∧ (n = 2 → hasR (f 1) (e 1).1 = true)) : hasD n f k s h m e = true ∧ posD n f k s h m e = (if n = 1 then posR (f 0) (e 0).1 else posR (f 0) (e 0).1 * szR (f 1) + posR (f 1) (e 1).1) := by
  have : hasD n f k s h m e = true := decide_eq_true hc
  exact ⟨this, by unfold posD; rw [this]; rfl⟩
def Neg64 (c : Int) : Prop := I64 (-c)
noncomputable def c_rup : Con := fun args => match args with
  | [.agg [.lit (.int .i64 a), .lit (.int .i64 b), .lit (.int .i64 c)]] => 
    .ask (Neg64 c) (.ret (.agg [.lit (.int .i64 a), .lit (.int .i64 b), .lit (.int .i64 (lk absI c))]))
  | _ => .stuck 1
noncomputable def eqD (n : Nat) (f : Nat → R3) (k s h : Int) (m : Nat) (g : Nat → R3) (k' s' h' : Int) : Bool := decide (eqR3 n f m g = true ∧ k = k' ∧ s = s' ∧ h = h')
end Go.RX.Span

/- Domains: the reference's functions: the walks. -/
set_option linter.unusedVariables false
set_option linter.unusedSimpArgs false
set_option maxRecDepth 100000
namespace Go.RX.Span
open Go Go.RX
attribute [local irreducible] sx conB
noncomputable abbrev d7 : List (Nat × Con) := (64, c_true) :: d6 --%K
theorem d7_ok : ∀ p ∈ d7, ConOK P p.1 p.2 := by
  intro p hp
  simp only [d7, List.mem_cons] at hp
  rcases hp with rfl | hp
  · exact awake2_ok
  · exact d6_ok p (by simpa [d6] using hp)
set_option maxRecDepth 100000 in
theorem t_DPosition (n : Nat) (f : Nat → R3) (k s h : Int) (m : Nat) (e : Nat → R1) : conB Go.Proofs.Try.prog (conOf d7) noLoops 10 71 [.agg [.row [.int .i64, .int .i64, .int .i64] n f, .lit (.int .i64 k), .lit (.int .i64 s), .lit (.int .i64 h)], .row [.int .i64] m e] =
    T.ask (Row64 n f) (.br (U.ne (lk chD n f k s h) (0 : Int)) (.ret (.tup [.lit (.int .i64 0), .lit (.bool false)])) (.br (U.ne (Int.ofNat m) (Int.ofNat n)) (.ret (.tup [.lit (.int
      .i64 0), .lit (.bool false)])) (.br (U.eq (Int.ofNat m) (1 : Int)) (.ask ((0 : Int) ≤ (0 : Int) ∧ (0 : Int) < ↑n) (.ask ((0 : Int) ≤ (0 : Int) ∧ (0 : Int) < ↑m) (.ask (I64 (f
      (U.toNat (0 : Int))).1 ∧ I64 (f (U.toNat (0 : Int))).2.1 ∧ I64 (f (U.toNat (0 : Int))).2.2.1) (.ret (.tup [.lit (.int .i64 (lk pos (f (U.toNat (0 : Int))).1 (f (U.toNat (0 :
      Int))).2.1 (f (U.toNat (0 : Int))).2.2.1 (e (U.toNat (0 : Int))).1)), .lit (.bool (lk has (f (U.toNat (0 : Int))).1 (f (U.toNat (0 : Int))).2.1 (f (U.toNat (0 : Int))).2.2.1 (e
      (U.toNat (0 : Int))).1))]))))) (.ask (nat_lit 1 + (1 : Nat) ≤ m) (.ask ((0 : Int) ≤ (0 : Int) ∧ (0 : Int) < ↑n) (.ask (I64 (f (U.toNat (0 : Int))).1 ∧ I64 (f (U.toNat (0 :
      Int))).2.1 ∧ I64 (f (U.toNat (0 : Int))).2.2.1) (.ask ((0 : Int) ≤ (1 : Int) ∧ (1 : Int) < ↑n) (.ask (I64 (f (U.toNat (1 : Int))).1 ∧ I64 (f (U.toNat (1 : Int))).2.1 ∧ I64 (f
      (U.toNat (1 : Int))).2.2.1) (.br (U.not (lk has (f (U.toNat (0 : Int))).1 (f (U.toNat (0 : Int))).2.1 (f (U.toNat (0 : Int))).2.2.1 (e (0 : Nat)).1)) (.ret (.tup [.lit (.int .i64
      0), .lit (.bool false)])) (.br (U.not (lk has (f (U.toNat (1 : Int))).1 (f (U.toNat (1 : Int))).2.1 (f (U.toNat (1 : Int))).2.2.1 (e ((0 : Nat) + (1 : Nat))).1)) (.ret (.tup [.lit
      (.int .i64 0), .lit (.bool false)])) (.ask (Row64 n f ∧ (n = (1 : Nat) ∨ n = (2 : Nat))) (.ret (.tup [.lit (.int .i64 (U.add .i64 (U.mul .i64 (lk pos (f (U.toNat (0 : Int))).1 (f
      (U.toNat (0 : Int))).2.1 (f (U.toNat (0 : Int))).2.2.1 (e (0 : Nat)).1) (lk colD n f)) (lk pos (f (U.toNat (1 : Int))).1 (f (U.toNat (1 : Int))).2.1 (f (U.toNat (1 : Int))).2.2.1 (e
      ((0 : Nat) + (1 : Nat))).1))), .lit (.bool true)]))))))))))))) := by kernel_rfl
theorem pv_eq {x y : Int} {b c : Bool} (h1 : x = y) (h2 : b = c) : SV.tup [.lit (.int .i64 x), .lit (.bool b)] = SV.tup [.lit (.int .i64 y), .lit (.bool c)] := by rw [h1, h2]
theorem mul_add_bnd {x y z X : Int} (hx0 : 0 ≤ x) (hx : x ≤ X) (hy0 : 0 ≤ y) (hy : y ≤ 2000001) (hX : X ≤ 2000001) (hz0 : 0 ≤ z) (hz : z ≤ 2000001) : 0 ≤ x * y ∧ x * y ≤ 5000000000000 ∧ 0 ≤ x * y + z ∧ x * y + z ≤ 6000000000000 := by
  have h1 := Int.mul_nonneg hx0 hy0
  have h2 := Int.mul_le_mul (show x ≤ 2000001 by omega) hy hy0 (by omega)
  omega
theorem DPosition_ok : ConOK P 71 c_DPosition := con_of (allOK mixed d7_ok) 10 71 fun args r h => by
  unfold c_DPosition at h
  split at h
  · rename_i n f k s h' m e
    have hp : Row64 n f := (T.is_ask h).1
    have h := (T.is_ask h).2
    obtain rfl := T.is_ret h
    rw [t_DPosition]
    simp only [tn0, tn1, lk_eq]
    have no : ¬ (chD n f k s h' = 0 ∧ m = n ∧ hasR (f 0) (e 0).1 = true ∧ (n = 2 → hasR (f 1) (e 1).1 = true)) → SV.tup [.lit (.int .i64 0), .lit (.bool false)] = SV.tup [.lit (.int .i64 (posD n f k s h' m e)), .lit (.bool (hasD n f k s h' m e))] :=
      fun h => pv_eq (hasD_f h).2.symm (hasD_f h).1.symm
    refine ⟨hp, fun z => ?_, fun z => ⟨fun g => ?_, fun g => ?_⟩⟩
    · have z := U.ne_t.mp z
      exact no fun h => z h.1
    · have g := U.ne_t.mp g
      exact no fun h => g (by rw [h.2.1])
    have z : chD n f k s h' = 0 := U.ne_f.mp z
    have g : (m : Int) = n := U.ne_f.mp g
    obtain rfl : m = n := by omega
    obtain ⟨d1, d1'⟩ := chD_zero.1 z
    have hn := d1.1
    refine ⟨fun g1 => ?_, fun g1 => ?_⟩
    · have g1 : (m : Int) = 1 := U.eq_t.mp g1
      obtain rfl : m = 1 := by omega
      refine ⟨⟨by omega, by omega⟩, ⟨by omega, by omega⟩, hp 0 (by omega), ?_⟩
      by_cases hh : hasR (f 0) (e 0).1 = true
      · obtain ⟨h1, h2⟩ := hasD_t (k := k) (s := s) (h := h') (m := 1) (e := e) ⟨z, rfl, hh, fun h => by omega⟩
        exact pv_eq (by rw [h2, if_pos rfl]; rfl) (by rw [h1]; exact hh)
      · have hf : hasR (f 0) (e 0).1 = false := by simpa using hh
        obtain ⟨h1, h2⟩ := hasD_f (k := k) (s := s) (h := h') (m := 1) (e := e) (n := 1) (f := f) (fun h => hh h.2.2.1)
        have hp0 : posR (f 0) (e 0).1 = 0 := by unfold posR pos; rw [if_neg hh]
        exact pv_eq (by rw [h2]; exact hp0) (by rw [h1]; exact hf)
    · have g1 : (m : Int) ≠ 1 := U.eq_f.mp g1
      obtain rfl : m = 2 := by omega
      refine ⟨by omega, ⟨by omega, by omega⟩, hp 0 (by omega), ⟨by omega, by omega⟩, hp 1 (by omega), fun q => ?_, fun q => ⟨fun q2 => ?_, fun q2 => ⟨⟨hp, .inr rfl⟩, ?_⟩⟩⟩
      · have q : hasR (f 0) (e 0).1 = false := U.not_t.mp q
        exact no fun h => by rw [h.2.2.1] at q; cases q
      · have q2 : hasR (f 1) (e 1).1 = false := U.not_t.mp q2
        exact no fun h => by rw [h.2.2.2 rfl] at q2; cases q2
      · have q : hasR (f 0) (e 0).1 = true := U.not_f.mp q
        have q2 : hasR (f 1) (e 1).1 = true := U.not_f.mp q2
        obtain ⟨h1, h2⟩ := hasD_t (k := k) (s := s) (h := h') (m := 2) (e := e) ⟨z, rfl, q, fun _ => q2⟩
        have b0 : 0 ≤ posR (f 0) (e 0).1 ∧ posR (f 0) (e 0).1 ≤ 2000000 := pos_bnd q
        have b1 : 0 ≤ posR (f 1) (e 1).1 ∧ posR (f 1) (e 1).1 ≤ 2000000 := pos_bnd q2
        have c1 := (rr_size (d1.2 1 (by omega))).2
        have hb := mul_add_bnd (x := posR (f 0) (e 0).1) (y := szR (f 1)) (z := posR (f 1) (e 1).1) b0.1 b0.2 c1.1 c1.2 (by omega) b1.1 (by omega)
        refine pv_eq ?_ h1.symm
        rw [h2, if_neg (by omega)]
        show U.add .i64 (U.mul .i64 (posR (f 0) (e 0).1) (colD 2 f)) (posR (f 1) (e 1).1) = _
        have ec : colD 2 f = szR (f 1) := rfl
        rw [ec, U.mul64 (by unfold I64; omega), U.add64 (by unfold I64; omega)]
  · exact h.elim
set_option maxRecDepth 100000 in
theorem t_DHas (n : Nat) (f : Nat → R3) (k s h : Int) (m : Nat) (e : Nat → R1) : conB Go.Proofs.Try.prog (conOf ((71, c_DPosition) :: d7)) noLoops 10 88 [.agg [.row [.int .i64, .int .i64, .int .i64] n f, .lit (.int .i64 k), .lit (.int .i64 s), .lit (.int .i64 h)], .row [.int .i64] m e] =
    T.ask (Row64 n f) (.ret (.lit (.bool (lk hasD n f k s h m e)))) := by kernel_rfl
theorem d7p_ok : ∀ p ∈ (71, c_DPosition) :: d7, ConOK P p.1 p.2 := by
  intro p hp
  simp only [List.mem_cons] at hp
  rcases hp with rfl | hp
  · exact DPosition_ok
  · exact d7_ok p (by simpa [d7] using hp)
theorem DHas_ok : ConOK P 88 c_DHas := con_of (allOK mixed d7p_ok) 10 88 fun args r h => by
  unfold c_DHas at h
  split at h
  · rename_i n f k s h' m e
    have hp : Row64 n f := (T.is_ask h).1
    have h := (T.is_ask h).2
    obtain rfl := T.is_ret h
    rw [t_DHas]
    exact ⟨hp, rfl⟩
  · exact h.elim

set_option maxRecDepth 100000 in
theorem t_qmapped (k s h : Int) : conB Go.Proofs.Try.prog (conOf []) noLoops 10 167 [.agg [.lit (.int .i64 k), .lit (.int .i64 s), .lit (.int .i64 h)]] =
    T.br (U.eq k (0 : Int)) (.br (U.eq s (0 : Int)) (.br (U.ge h (0 : Int)) (.ret (.lit (.bool (U.lt h (8 : Int))))) (.ret (.lit (.bool false)))) (.ret (.lit (.bool false)))) (.br (U.eq
      k (1 : Int)) (.br (U.eq s (0 : Int)) (.ret (.lit (.bool (U.eq h (0 : Int))))) (.ret (.lit (.bool false)))) (.br (U.eq k (2 : Int)) (.br (U.eq s (0 : Int)) (.ret (.lit (.bool (U.eq h
      (0 : Int))))) (.ret (.lit (.bool false)))) (.br (U.eq k (4 : Int)) (.br (U.eq s (0 : Int)) (.ret (.lit (.bool (U.eq h (0 : Int))))) (.ret (.lit (.bool false)))) (.br (U.eq k (3 :
      Int)) (.br (U.ge s (1 : Int)) (.br (U.le s (1000 : Int)) (.ret (.lit (.bool (U.eq h (0 : Int))))) (.ret (.lit (.bool false)))) (.ret (.lit (.bool false)))) (.ret (.lit (.bool
      false))))))) := by kernel_rfl
theorem qmapped_ok : ConOK P 167 c_fits := con_of (allOK mixed none_ok) 10 167 fun args r h => by
  unfold c_fits at h
  split at h
  · rename_i k s h'
    obtain rfl := T.is_ret h
    rw [t_qmapped]
    unfold fitB
    have key : ∀ {p : Prop} [Decidable p] {b : Bool}, (b = true ↔ p) → SV.lit (.bool b) = SV.lit (.bool (decide p)) := fun h => by
      rw [SV.lit.injEq, Value.bool.injEq, Bool.eq_iff_iff, decide_eq_true_iff]; exact h
    simp only [T.All, lk_eq]
    refine ⟨fun h0 => ?_, fun h0 => ⟨fun h1 => ?_, fun h1 => ⟨fun h2 => ?_, fun h2 => ⟨fun h3 => ?_, fun h3 => ⟨fun h4 => ?_, fun h4 => ?_⟩⟩⟩⟩⟩
    all_goals (try refine ⟨fun h5 => ?_, fun h5 => ?_⟩)
    all_goals (try refine ⟨fun h6 => ?_, fun h6 => ?_⟩)
    all_goals
      refine key ?_
      simp only [U.eq_t, U.eq_f, U.ge_t, U.ge_f, U.lt_t, U.le_t, U.le_f, Bool.false_eq_true, false_iff] at *
      omega
  · exact h.elim
set_option maxRecDepth 100000 in
theorem t_qup (a b c : Int) : conB Go.Proofs.Try.prog (conOf []) noLoops 10 164 [.agg [.lit (.int .i64 a), .lit (.int .i64 b), .lit (.int .i64 c)]] =
    T.br (U.lt c (0 : Int)) (.ret (.agg [.lit (.int .i64 a), .lit (.int .i64 b), .lit (.int .i64 (U.sub .i64 0 c))])) (.ret (.agg [.lit (.int .i64 a), .lit (.int .i64 b), .lit (.int
      .i64 c)])) := by kernel_rfl
noncomputable abbrev lrC : List (Nat × Loops) := [(86, [(4, .un 3)])] --%K
noncomputable abbrev lrS : List (Nat × Loops) := [(87, [(5, .un 3)])] --%K
noncomputable abbrev lrH : List (Nat × Loops) := [(89, [(4, .un 3)])] --%K
noncomputable abbrev d8 : List (Nat × Con) := (167, c_fits) :: (164, c_rup) :: d7 --%K
noncomputable abbrev d9 : List (Nat × Con) := (86, c_DCheck) :: d8 --%K
noncomputable abbrev d10 : List (Nat × Con) := (87, c_DSize) :: (89, c_DHas) :: d9 --%K
set_option maxRecDepth 100000 in
theorem t_qCheck (n : Nat) (f : Nat → R3) (k s h : Int) : conB Go.Proofs.Try.prog (conOf d8) (loopsOf lrC) 10 86 [.agg [.row [.int .i64, .int .i64, .int .i64] n f, .lit (.int .i64 k), .lit (.int .i64 s), .lit (.int .i64 h)]] =
    T.br (U.lt (Int.ofNat n) (1 : Int)) (.ret (.lit (.int .i64 5))) (.br (U.gt (Int.ofNat n) (2 : Int)) (.ret (.lit (.int .i64 5))) (.br (U.lt (0 : Int) (Int.ofNat n)) (.ask ((0 : Int)
      ≤ (0 : Int) ∧ (0 : Int) < ↑n) (.ask (I64 (f (U.toNat (Int.ofNat 0))).1 ∧ I64 (f (U.toNat (Int.ofNat 0))).2.1 ∧ I64 (f (U.toNat (Int.ofNat 0))).2.2.1) (.br (U.ne (lk chk (f (U.toNat
      (Int.ofNat 0))).1 (f (U.toNat (Int.ofNat 0))).2.1 (f (U.toNat (Int.ofNat 0))).2.2.1) (0 : Int)) (.ret (.lit (.int .i64 (lk chk (f (U.toNat (Int.ofNat 0))).1 (f (U.toNat (Int.ofNat
      0))).2.1 (f (U.toNat (Int.ofNat 0))).2.2.1)))) (.ask ((0 : Int) ≤ (0 : Int) ∧ (0 : Int) < ↑n) (.br (U.lt (f (U.toNat (Int.ofNat 0))).2.2.1 (0 : Int)) (.ret (.lit (.int .i64 2)))
      (.br (U.lt (1 : Int) (Int.ofNat n)) (.ask ((0 : Int) ≤ (1 : Int) ∧ (1 : Int) < ↑n) (.ask (I64 (f (U.toNat (Int.ofNat 1))).1 ∧ I64 (f (U.toNat (Int.ofNat 1))).2.1 ∧ I64 (f (U.toNat
      (Int.ofNat 1))).2.2.1) (.br (U.ne (lk chk (f (U.toNat (Int.ofNat 1))).1 (f (U.toNat (Int.ofNat 1))).2.1 (f (U.toNat (Int.ofNat 1))).2.2.1) (0 : Int)) (.ret (.lit (.int .i64 (lk chk
      (f (U.toNat (Int.ofNat 1))).1 (f (U.toNat (Int.ofNat 1))).2.1 (f (U.toNat (Int.ofNat 1))).2.2.1)))) (.ask ((0 : Int) ≤ (1 : Int) ∧ (1 : Int) < ↑n) (.br (U.lt (f (U.toNat (Int.ofNat
      1))).2.2.1 (0 : Int)) (.ret (.lit (.int .i64 2))) (.br (U.lt (2 : Int) (Int.ofNat n)) (.ask ((0 : Int) ≤ (2 : Int) ∧ (2 : Int) < ↑n) (.ask (I64 (f (U.toNat (Int.ofNat 2))).1 ∧ I64
      (f (U.toNat (Int.ofNat 2))).2.1 ∧ I64 (f (U.toNat (Int.ofNat 2))).2.2.1) (.br (U.ne (lk chk (f (U.toNat (Int.ofNat 2))).1 (f (U.toNat (Int.ofNat 2))).2.1 (f (U.toNat (Int.ofNat
      2))).2.2.1) (0 : Int)) (.ret (.lit (.int .i64 (lk chk (f (U.toNat (Int.ofNat 2))).1 (f (U.toNat (Int.ofNat 2))).2.1 (f (U.toNat (Int.ofNat 2))).2.2.1)))) (.ask ((0 : Int) ≤ (2 :
      Int) ∧ (2 : Int) < ↑n) (.br (U.lt (f (U.toNat (Int.ofNat 2))).2.2.1 (0 : Int)) (.ret (.lit (.int .i64 2))) (.stuck (nat_lit 105))))))) (.br (U.not (lk fitB k s h)) (.ret (.lit (.int
      .i64 2))) (.ret (.lit (.int .i64 0)))))))))) (.br (U.not (lk fitB k s h)) (.ret (.lit (.int .i64 2))) (.ret (.lit (.int .i64 0)))))))))) (.br (U.not (lk fitB k s h)) (.ret (.lit
      (.int .i64 2))) (.ret (.lit (.int .i64 0)))))) := by kernel_rfl
set_option maxRecDepth 100000 in
theorem t_qSize (n : Nat) (f : Nat → R3) (k s h : Int) : conB Go.Proofs.Try.prog (conOf d9) (loopsOf lrS) 10 87 [.agg [.row [.int .i64, .int .i64, .int .i64] n f, .lit (.int .i64 k), .lit (.int .i64 s), .lit (.int .i64 h)]] =
    T.ask (Row64 n f) (.br (U.ne (lk chD n f k s h) (0 : Int)) (.ret (.lit (.int .i64 0))) (.br (U.lt (0 : Int) (Int.ofNat n)) (.ask ((0 : Int) ≤ (0 : Int) ∧ (0 : Int) < ↑n) (.ask (I64
      (f (U.toNat (Int.ofNat 0))).1 ∧ I64 (f (U.toNat (Int.ofNat 0))).2.1 ∧ I64 (f (U.toNat (Int.ofNat 0))).2.2.1) (.br (U.lt (1 : Int) (Int.ofNat n)) (.ask ((0 : Int) ≤ (1 : Int) ∧ (1 :
      Int) < ↑n) (.ask (I64 (f (U.toNat (Int.ofNat 1))).1 ∧ I64 (f (U.toNat (Int.ofNat 1))).2.1 ∧ I64 (f (U.toNat (Int.ofNat 1))).2.2.1) (.br (U.lt (2 : Int) (Int.ofNat n)) (.ask ((0 :
      Int) ≤ (2 : Int) ∧ (2 : Int) < ↑n) (.ask (I64 (f (U.toNat (Int.ofNat 2))).1 ∧ I64 (f (U.toNat (Int.ofNat 2))).2.1 ∧ I64 (f (U.toNat (Int.ofNat 2))).2.2.1) (.stuck (nat_lit 105))))
      (.ret (.lit (.int .i64 (U.mul .i64 (U.mul .i64 1 (lk size (f (U.toNat (Int.ofNat 0))).1 (f (U.toNat (Int.ofNat 0))).2.1 (f (U.toNat (Int.ofNat 0))).2.2.1)) (lk size (f (U.toNat
      (Int.ofNat 1))).1 (f (U.toNat (Int.ofNat 1))).2.1 (f (U.toNat (Int.ofNat 1))).2.2.1)))))))) (.ret (.lit (.int .i64 (U.mul .i64 1 (lk size (f (U.toNat (Int.ofNat 0))).1 (f (U.toNat
      (Int.ofNat 0))).2.1 (f (U.toNat (Int.ofNat 0))).2.2.1)))))))) (.ret (.lit (.int .i64 1))))) := by kernel_rfl
set_option maxRecDepth 100000 in
theorem t_qHas (n : Nat) (f : Nat → R3) (k s h : Int) (m : Nat) (e : Nat → R1) : conB Go.Proofs.Try.prog (conOf d9) (loopsOf lrH) 10 89 [.agg [.row [.int .i64, .int .i64, .int .i64] n f, .lit (.int .i64 k), .lit (.int .i64 s), .lit (.int .i64 h)], .row [.int .i64] m e] =
    T.ask (Row64 n f) (.br (U.ne (lk chD n f k s h) (0 : Int)) (.ret (.lit (.bool false))) (.br (U.ne (Int.ofNat m) (Int.ofNat n)) (.ret (.lit (.bool false))) (.br (U.lt (0 : Int)
      (Int.ofNat m)) (.ask ((0 : Int) ≤ (0 : Int) ∧ (0 : Int) < ↑n) (.ask ((0 : Int) ≤ (0 : Int) ∧ (0 : Int) < ↑m) (.ask (I64 (f (U.toNat (Int.ofNat 0))).1 ∧ I64 (f (U.toNat (Int.ofNat
      0))).2.1 ∧ I64 (f (U.toNat (Int.ofNat 0))).2.2.1) (.br (U.not (lk has (f (U.toNat (Int.ofNat 0))).1 (f (U.toNat (Int.ofNat 0))).2.1 (f (U.toNat (Int.ofNat 0))).2.2.1 (e (U.toNat
      (Int.ofNat 0))).1)) (.ret (.lit (.bool false))) (.br (U.lt (1 : Int) (Int.ofNat m)) (.ask ((0 : Int) ≤ (1 : Int) ∧ (1 : Int) < ↑n) (.ask ((0 : Int) ≤ (1 : Int) ∧ (1 : Int) < ↑m)
      (.ask (I64 (f (U.toNat (Int.ofNat 1))).1 ∧ I64 (f (U.toNat (Int.ofNat 1))).2.1 ∧ I64 (f (U.toNat (Int.ofNat 1))).2.2.1) (.br (U.not (lk has (f (U.toNat (Int.ofNat 1))).1 (f (U.toNat
      (Int.ofNat 1))).2.1 (f (U.toNat (Int.ofNat 1))).2.2.1 (e (U.toNat (Int.ofNat 1))).1)) (.ret (.lit (.bool false))) (.br (U.lt (2 : Int) (Int.ofNat m)) (.ask ((0 : Int) ≤ (2 : Int) ∧
      (2 : Int) < ↑n) (.ask ((0 : Int) ≤ (2 : Int) ∧ (2 : Int) < ↑m) (.ask (I64 (f (U.toNat (Int.ofNat 2))).1 ∧ I64 (f (U.toNat (Int.ofNat 2))).2.1 ∧ I64 (f (U.toNat (Int.ofNat
      2))).2.2.1) (.br (U.not (lk has (f (U.toNat (Int.ofNat 2))).1 (f (U.toNat (Int.ofNat 2))).2.1 (f (U.toNat (Int.ofNat 2))).2.2.1 (e (U.toNat (Int.ofNat 2))).1)) (.ret (.lit (.bool
      false))) (.stuck (nat_lit 105)))))) (.ret (.lit (.bool true)))))))) (.ret (.lit (.bool true)))))))) (.ret (.lit (.bool true)))))) := by kernel_rfl
set_option maxRecDepth 100000 in
theorem t_qNth (n : Nat) (f : Nat → R3) (k s h q : Int) : conB Go.Proofs.Try.prog (conOf d10) noLoops 10 84 [.agg [.row [.int .i64, .int .i64, .int .i64] n f, .lit (.int .i64 k), .lit (.int .i64 s), .lit (.int .i64 h)], .lit (.int .i64 q)] =
    T.ask (Row64 n f) (.br (U.ne (lk chD n f k s h) (0 : Int)) (.ret (.tup [.lit (.slice none (nat_lit 0) (nat_lit 0)), .lit (.int .i64 (lk chD n f k s h))])) (.br (U.lt q (0 : Int))
      (.ret (.tup [.lit (.slice none (nat_lit 0) (nat_lit 0)), .lit (.int .i64 4)])) (.ask (Row64 n f) (.br (U.ge q (lk szD n f k s h)) (.ret (.tup [.lit (.slice none (nat_lit 0) (nat_lit
      0)), .lit (.int .i64 4)])) (.br (U.eq (Int.ofNat n) (1 : Int)) (.ask ((0 : Int) ≤ (0 : Int) ∧ (0 : Int) < ↑n) (.ask (I64 (f (U.toNat (0 : Int))).1 ∧ I64 (f (U.toNat (0 : Int))).2.1
      ∧ I64 (f (U.toNat (0 : Int))).2.2.1) (.ret (.tup [.row [.int .i64] (nat_lit 1) fun x => (lk nth (f (U.toNat (0 : Int))).1 (f (U.toNat (0 : Int))).2.1 (f (U.toNat (0 : Int))).2.2.1
      q, PUnit.unit), .lit (.int .i64 0)])))) (.ask ((0 : Int) ≤ (1 : Int) ∧ (1 : Int) < ↑n) (.ask (I64 (f (U.toNat (1 : Int))).1 ∧ I64 (f (U.toNat (1 : Int))).2.1 ∧ I64 (f (U.toNat (1 :
      Int))).2.2.1) (.ask ((0 : Int) ≤ (0 : Int) ∧ (0 : Int) < ↑n) (.ask (lk size (f (U.toNat (1 : Int))).1 (f (U.toNat (1 : Int))).2.1 (f (U.toNat (1 : Int))).2.2.1 ≠ (0 : Int)) (.ask
      (I64 (f (U.toNat (0 : Int))).1 ∧ I64 (f (U.toNat (0 : Int))).2.1 ∧ I64 (f (U.toNat (0 : Int))).2.2.1) (.ask ((0 : Int) ≤ (1 : Int) ∧ (1 : Int) < ↑n) (.ask (lk size (f (U.toNat (1 :
      Int))).1 (f (U.toNat (1 : Int))).2.1 (f (U.toNat (1 : Int))).2.2.1 ≠ (0 : Int)) (.ask (I64 (f (U.toNat (1 : Int))).1 ∧ I64 (f (U.toNat (1 : Int))).2.1 ∧ I64 (f (U.toNat (1 :
      Int))).2.2.1) (.ret (.tup [.row [.int .i64] (nat_lit 2) (ofList [(lk nth (f (U.toNat (1 : Int))).1 (f (U.toNat (1 : Int))).2.1 (f (U.toNat (1 : Int))).2.2.1 (U.rem q (lk size (f
      (U.toNat (1 : Int))).1 (f (U.toNat (1 : Int))).2.1 (f (U.toNat (1 : Int))).2.2.1)), ()), (lk nth (f (U.toNat (0 : Int))).1 (f (U.toNat (0 : Int))).2.1 (f (U.toNat (0 : Int))).2.2.1
      (U.quo .i64 q (lk size (f (U.toNat (1 : Int))).1 (f (U.toNat (1 : Int))).2.1 (f (U.toNat (1 : Int))).2.2.1)), ())].reverse), .lit (.int .i64 0)]))))))))))))))) := by kernel_rfl
theorem lrC_ok : ∀ p ∈ lrC, LoopsOK P p.2 (bodyOf P p.1) := by
  intro p hp
  simp only [lrC, List.mem_singleton] at hp
  subst hp
  exact loopsOK_un fun q hq => by simp only [List.mem_singleton] at hq; subst hq; exact ⟨3, rfl⟩
theorem lrS_ok : ∀ p ∈ lrS, LoopsOK P p.2 (bodyOf P p.1) := by
  intro p hp
  simp only [lrS, List.mem_singleton] at hp
  subst hp
  exact loopsOK_un fun q hq => by simp only [List.mem_singleton] at hq; subst hq; exact ⟨3, rfl⟩
theorem lrH_ok : ∀ p ∈ lrH, LoopsOK P p.2 (bodyOf P p.1) := by
  intro p hp
  simp only [lrH, List.mem_singleton] at hp
  subst hp
  exact loopsOK_un fun q hq => by simp only [List.mem_singleton] at hq; subst hq; exact ⟨3, rfl⟩
theorem qup_ok : ConOK P 164 c_rup := con_of (allOK mixed none_ok) 10 164 fun args r h => by
  unfold c_rup at h
  split at h
  · rename_i a b c
    have hp := (T.is_ask h).1
    have h := (T.is_ask h).2
    obtain rfl := T.is_ret h
    rw [t_qup]
    simp only [lk_eq]
    refine ⟨fun g => ?_, fun g => ?_⟩
    · have g : c < 0 := U.lt_t.mp g
      unfold Neg64 at hp
      rw [U.sub64 (by unfold I64 at hp ⊢; omega), absI_neg g, Int.zero_sub]; exact rfl
    · have g : 0 ≤ c := U.lt_f.mp g
      rw [absI_pos (by omega)]; exact rfl
  · exact h.elim
theorem d8_ok : ∀ p ∈ d8, ConOK P p.1 p.2 := by
  intro p hp
  simp only [d8, List.mem_cons] at hp
  rcases hp with rfl | rfl | hp
  · exact qmapped_ok
  · exact qup_ok
  · exact d7_ok p (by simpa [d7] using hp)
theorem qCheck_ok : ConOK P 86 c_DCheck := con_of (allOKL mixed d8_ok lrC_ok) 10 86 fun args r h => by
  unfold c_DCheck at h
  split at h
  · rename_i n f k s h'
    have hp : Row64 n f := (T.is_ask h).1
    have h := (T.is_ask h).2
    obtain rfl := T.is_ret h
    rw [t_qCheck]
    obtain ⟨a0, b0, c0, hf0⟩ := r3 (f 0)
    obtain ⟨a1, b1, c1, hf1⟩ := r3 (f 1)
    have hI0 : 0 < n → I64 a0 ∧ I64 b0 ∧ I64 c0 := fun hn => by have := hp 0 hn; rw [hf0] at this; exact this
    have hI1 : 1 < n → I64 a1 ∧ I64 b1 ∧ I64 c1 := fun hn => by have := hp 1 hn; rw [hf1] at this; exact this
    have k0 : ck1 (f 0) = if chk a0 b0 c0 ≠ 0 then chk a0 b0 c0 else if c0 < 0 then 2 else 0 := by rw [hf0]; rfl
    have k1 : ck1 (f 1) = if chk a1 b1 c1 ≠ 0 then chk a1 b1 c1 else if c1 < 0 then 2 else 0 := by rw [hf1]; rfl
    simp only [tn, lk_eq, hf0, hf1]
    simp only [Int.ofNat_eq_natCast]
    by_cases h1 : n < 1
    · have : n = 0 := by omega
      subst this
      simp [T.All, U.lt_eq, chD]
    by_cases h2 : 2 < n
    · have e : chD n f k s h' = 5 := by unfold chD; rw [if_pos (.inr h2)]
      have g1 : U.lt (n : Int) 1 = false := by rw [U.lt_eq]; exact decide_eq_false (by omega)
      have g2 : U.gt (n : Int) 2 = true := by rw [U.gt_eq]; exact decide_eq_true (by omega)
      simp only [T.All, g1, g2, e]
      simp
    have hn : n = 1 ∨ n = 2 := by omega
    by_cases z0 : chk a0 b0 c0 = 0
    · by_cases m0 : c0 < 0
      · rw [if_neg (by simp [z0]), if_pos m0] at k0
        have e2 : chD n f k s h' = 2 := by unfold chD; rw [if_neg (by omega), if_pos (by omega), k0]
        rcases hn with rfl | rfl <;> simp [T.All, U.lt_eq, U.gt_eq, U.ne_eq, hI0, z0, m0, e2]
      · rw [if_neg (by simp [z0]), if_neg m0] at k0
        rcases hn with rfl | rfl
        · have e2 : chD 1 f k s h' = if fitB k s h' = true then 0 else 2 := by unfold chD; rw [if_neg (by omega), if_neg (by omega), if_neg (by omega)]
          cases hf : fitB k s h' <;> simp [T.All, U.lt_eq, U.gt_eq, U.ne_eq, U.not_eq, hI0, z0, m0, e2, hf]
        · by_cases z1 : chk a1 b1 c1 = 0
          · by_cases m1 : c1 < 0
            · rw [if_neg (by simp [z1]), if_pos m1] at k1
              have e2 : chD 2 f k s h' = 2 := by unfold chD; rw [if_neg (by omega), if_neg (by omega), if_pos ⟨rfl, by omega⟩, k1]
              simp [T.All, U.lt_eq, U.gt_eq, U.ne_eq, hI0, hI1, z0, m0, z1, m1, e2]
            · rw [if_neg (by simp [z1]), if_neg m1] at k1
              have e2 : chD 2 f k s h' = if fitB k s h' = true then 0 else 2 := by unfold chD; rw [if_neg (by omega), if_neg (by omega), if_neg (fun h => h.2 k1)]
              cases hf : fitB k s h' <;> simp [T.All, U.lt_eq, U.gt_eq, U.ne_eq, U.not_eq, hI0, hI1, z0, m0, z1, m1, e2, hf]
          · rw [if_pos z1] at k1
            have e2 : chD 2 f k s h' = chk a1 b1 c1 := by unfold chD; rw [if_neg (by omega), if_neg (by omega), if_pos ⟨rfl, by rw [k1]; exact z1⟩, k1]
            simp [T.All, U.lt_eq, U.gt_eq, U.ne_eq, hI0, hI1, z0, m0, z1, e2]
    · rw [if_pos z0] at k0
      have e2 : chD n f k s h' = chk a0 b0 c0 := by unfold chD; rw [if_neg (by omega), if_pos (by rw [k0]; exact z0), k0]
      rcases hn with rfl | rfl <;> simp [T.All, U.lt_eq, U.gt_eq, U.ne_eq, hI0, z0, e2]
  · exact h.elim
theorem d9_ok : ∀ p ∈ d9, ConOK P p.1 p.2 := by
  intro p hp
  simp only [d9, List.mem_cons] at hp
  rcases hp with rfl | hp
  · exact qCheck_ok
  · exact d8_ok p (by simpa [d8] using hp)
theorem qSize_ok : ConOK P 87 c_DSize := con_of (allOKL mixed d9_ok lrS_ok) 10 87 fun args r h => by
  unfold c_DSize at h
  split at h
  · rename_i n f k s h'
    have hp : Row64 n f := (T.is_ask h).1
    have h := (T.is_ask h).2
    obtain rfl := T.is_ret h
    rw [t_qSize]
    simp only [tn, lk_eq]
    refine ⟨hp, fun hc => ?_, fun hc => ?_⟩
    · have hc : chD n f k s h' ≠ 0 := U.ne_t.mp hc
      have e : szD n f k s h' = 0 := by unfold szD; rw [if_pos hc]
      rw [e]; exact rfl
    · have hc : chD n f k s h' = 0 := U.ne_f.mp hc
      obtain ⟨d1, d2⟩ := chD_zero.1 hc
      have hn := d1.1
      have hb := dr_prod d1
      have h0 := rr_size (d1.2 0 (by omega))
      refine ⟨fun _ => ⟨⟨by omega, by omega⟩, hp 0 (by omega), fun g => ?_, fun g => ?_⟩, fun g => absurd (U.lt_f.mp g) (by simp only [Int.ofNat_eq_natCast]; omega)⟩
      · have g := U.lt_t.mp g
        simp only [Int.ofNat_eq_natCast] at g
        obtain rfl : n = 2 := by omega
        refine ⟨⟨by omega, by omega⟩, hp 1 (by omega), fun g => absurd (U.lt_t.mp g) (by decide), fun _ => ?_⟩
        show SV.lit (.int .i64 (U.mul .i64 (U.mul .i64 1 (szR (f 0))) (szR (f 1)))) = _
        have ec : colD 2 f = szR (f 1) := rfl
        rw [ec] at hb
        rw [U.mul64 (a := 1) (by unfold I64; omega), Int.one_mul, U.mul64 (by unfold I64; omega), szD_right hc, ec]
      · have g := U.lt_f.mp g
        simp only [Int.ofNat_eq_natCast] at g
        obtain rfl : n = 1 := by omega
        show SV.lit (.int .i64 (U.mul .i64 1 (szR (f 0)))) = _
        have ec : colD 1 f = 1 := rfl
        rw [U.mul64 (a := 1) (by unfold I64; omega), szD_right hc, ec, Int.one_mul, Int.mul_one]
  · exact h.elim
theorem qHas_ok : ConOK P 89 c_DHas := con_of (allOKL mixed d9_ok lrH_ok) 10 89 fun args r h => by
  unfold c_DHas at h
  split at h
  · rename_i n f k s h' m e
    have hp : Row64 n f := (T.is_ask h).1
    have h := (T.is_ask h).2
    obtain rfl := T.is_ret h
    rw [t_qHas]
    simp only [tn, lk_eq]
    have no : ¬ (chD n f k s h' = 0 ∧ m = n ∧ hasR (f 0) (e 0).1 = true ∧ (n = 2 → hasR (f 1) (e 1).1 = true)) → SV.lit (.bool false) = SV.lit (.bool (hasD n f k s h' m e)) :=
      fun h => by rw [(hasD_f h).1]
    refine ⟨hp, fun z => ?_, fun z => ⟨fun g => ?_, fun g => ?_⟩⟩
    · have z := U.ne_t.mp z
      exact no fun h => z h.1
    · have g := U.ne_t.mp g
      exact no fun h => g (by rw [h.2.1])
    have z : chD n f k s h' = 0 := U.ne_f.mp z
    have g : (m : Int) = n := U.ne_f.mp g
    obtain rfl : m = n := by omega
    obtain ⟨d1, d1'⟩ := chD_zero.1 z
    have hn := d1.1
    refine ⟨fun _ => ⟨⟨by omega, by omega⟩, ⟨by omega, by omega⟩, hp 0 (by omega), fun q => ?_, fun q => ⟨fun g1 => ?_, fun g1 => ?_⟩⟩, fun g => absurd (U.lt_f.mp g) (by simp only [Int.ofNat_eq_natCast]; omega)⟩
    · have q : hasR (f 0) (e 0).1 = false := U.not_t.mp q
      exact no fun h => by rw [h.2.2.1] at q; cases q
    · have q : hasR (f 0) (e 0).1 = true := U.not_f.mp q
      have g1 := U.lt_t.mp g1
      simp only [Int.ofNat_eq_natCast] at g1
      obtain rfl : m = 2 := by omega
      refine ⟨⟨by omega, by omega⟩, ⟨by omega, by omega⟩, hp 1 (by omega), fun q2 => ?_, fun q2 => ⟨fun g => absurd (U.lt_t.mp g) (by decide), fun _ => ?_⟩⟩
      · have q2 : hasR (f 1) (e 1).1 = false := U.not_t.mp q2
        exact no fun h => by rw [h.2.2.2 rfl] at q2; cases q2
      · have q2 : hasR (f 1) (e 1).1 = true := U.not_f.mp q2
        rw [(hasD_t (k := k) (s := s) (h := h') (m := 2) (e := e) ⟨z, rfl, q, fun _ => q2⟩).1]; exact rfl
    · have q : hasR (f 0) (e 0).1 = true := U.not_f.mp q
      have g1 := U.lt_f.mp g1
      simp only [Int.ofNat_eq_natCast] at g1
      obtain rfl : m = 1 := by omega
      rw [(hasD_t (k := k) (s := s) (h := h') (m := 1) (e := e) ⟨z, rfl, q, fun h => by omega⟩).1]; exact rfl
  · exact h.elim
theorem d10_ok : ∀ p ∈ d10, ConOK P p.1 p.2 := by
  intro p hp
  simp only [d10, List.mem_cons] at hp
  rcases hp with rfl | rfl | hp
  · exact qSize_ok
  · exact qHas_ok
  · exact d9_ok p (by simpa [d9] using hp)
theorem qNth_ok : ConOK P 84 c_DNth := con_cl (allOK mixed d10_ok) 10 84 fun args r h => by
  unfold c_DNth at h
  split at h
  · rename_i n f k s h' q
    obtain ⟨hp, hq⟩ := (T.is_ask h).1
    have h := (T.is_ask h).2
    obtain rfl := T.is_ret h
    rw [t_qNth]
    simp only [tn0, tn1, lk_eq]
    refine T.all_mono (K := fun v => Cl v (dnV n f k s h' q)) (fun v hv => hv) ?_
    have ie : (Int.ofNat n) = (n : Int) := rfl
    refine ⟨hp, fun z => ?_, fun z => ?_⟩
    · have z : chD n f k s h' ≠ 0 := U.ne_t.mp z
      exact dn_err (by unfold dnE; rw [if_pos z]) z
    have z : chD n f k s h' = 0 := U.ne_f.mp z
    obtain ⟨d1, d1'⟩ := chD_zero.1 z
    have hn := d1.1
    have hc := dr_col d1
    refine ⟨fun g => ?_, fun g => ⟨hp, fun g2 => ?_, fun g2 => ?_⟩⟩
    · have g := U.lt_t.mp g
      exact dn_err (by unfold dnE; rw [if_neg (by simp [z]), if_pos (.inl g)]) (by decide)
    · have g2 := U.ge_t.mp g2
      exact dn_err (by unfold dnE; rw [if_neg (by simp [z]), if_pos (.inr g2)]) (by decide)
    have g := U.lt_f.mp g
    have g2 := U.ge_f.mp g2
    have e0 : dnE n f k s h' q = 0 := by unfold dnE; rw [if_neg (by simp [z]), if_neg (by omega)]
    have hcol : colD n f ≠ 0 := fun hz => by rw [szD_right z, hz, Int.mul_zero] at g2; omega
    refine ⟨fun g3 => ?_, fun g3 => ?_⟩
    · have g3 : (n : Int) = 1 := U.eq_t.mp g3
      obtain rfl : n = 1 := by omega
      refine ⟨⟨by omega, by omega⟩, hp 0 (by omega), dn_ok e0 fun i hi => ?_⟩
      obtain rfl : i = 0 := by omega
      have ec : colD 1 f = 1 := rfl
      show _ = dnF 1 f q 0
      unfold dnF
      rw [if_pos rfl, ec, Int.tdiv_one]; rfl
    · have g3 : (n : Int) ≠ 1 := U.eq_f.mp g3
      obtain rfl : n = 2 := by omega
      have t1 := Int.tdiv_eq_ediv_of_nonneg (b := szR (f 1)) g
      have t2 := Int.ediv_nonneg g hc.1
      have t3 := Int.ediv_le_self (szR (f 1)) g
      have ec : colD 2 f = szR (f 1) := rfl
      rw [ec] at t2 hcol
      have eq1 : U.quo .i64 q (szR (f 1)) = q.tdiv (szR (f 1)) := U.quo64 (by unfold I64 at hq ⊢; omega)
      have eq2 : U.rem q (szR (f 1)) = q.tmod (szR (f 1)) := U.rem_eq _ _
      refine ⟨⟨by omega, by omega⟩, hp 1 (by omega), ⟨by omega, by omega⟩, hcol, hp 0 (by omega), ⟨by omega, by omega⟩, hcol, hp 1 (by omega), dn_ok e0 fun i hi => ?_⟩
      rcases (show i = 0 ∨ i = 1 by omega) with rfl | rfl
      · show ((nth (rA (f 0)) (rB (f 0)) (rC (f 0)) (U.quo .i64 q (szR (f 1))), ()) : R1) = _
        rw [eq1]; unfold dnF; rw [if_pos rfl, ec]
      · show ((nth (rA (f 1)) (rB (f 1)) (rC (f 1)) (U.rem q (szR (f 1))), ()) : R1) = _
        rw [eq2]; unfold dnF; rw [if_neg (by decide), ec]
  · exact h.elim
end Go.RX.Span

/- Domains: what the law of Of and its like returns. -/
set_option linter.unusedVariables false
set_option linter.unusedSimpArgs false
set_option maxRecDepth 100000
namespace Go.RX.Span
open Go Go.RX
attribute [local irreducible] sx conB

end Go.RX.Span

/- Domains: what the law of Of and its like returns. -/
set_option linter.unusedVariables false
set_option linter.unusedSimpArgs false
set_option maxRecDepth 100000
namespace Go.RX.Span
open Go Go.RX
attribute [local irreducible] sx conB

theorem eqR_self (n : Nat) (f : Nat → R1) : eqR n f n f = true := eqR_t.2 ⟨rfl, fun i _ => rfl⟩
end Go.RX.Span

/- Subtract of the reference: the walk. -/
set_option linter.unusedVariables false
set_option linter.unusedSimpArgs false
set_option maxRecDepth 100000
namespace Go.RX.Span
open Go Go.RX
attribute [local irreducible] sx conB

end Go.RX.Span

/- Domains: Subtract: plain. -/
set_option linter.unusedVariables false
set_option linter.unusedSimpArgs false
set_option maxRecDepth 100000
namespace Go.RX.Span
open Go Go.RX
attribute [local irreducible] sx conB

abbrev ssD : List Sh := [.sl [.int .i64, .int .i64, .int .i64], .int .i64, .int .i64, .int .i64]
abbrev DE := Els ssD
def mkD (n : Nat) (f : Nat → R3) (k s h : Int) : DE := ((n, f), k, s, h, ())
def szE (x : DE) : Int := szD x.1.1 x.1.2 x.2.1 x.2.2.1 x.2.2.2.1
/-- A list of domains. -/
abbrev DL := Nat × (Nat → DE)
def noD : DL := (0, fun _ => mkD 0 (fun _ => ((0 : Int), (0 : Int), (0 : Int), ())) 0 0 0)
noncomputable def push (q : DL) (x : DE) : DL := if 0 < szE x then (q.1 + 1, U.cat q.1 q.2 fun _ => x) else q
noncomputable def pushes (c : Nat → DE) (q : DL) : Nat → DL
  | 0 => q
  | j + 1 => push (pushes c q j) (c j)
section
variable (n : Nat) (f : Nat → R3) (k s h : Int) (m : Nat) (g : Nat → R3) (k' s' h' : Int)
def sb0N : Nat := sbN (rA (f 0)) (rB (f 0)) (rC (f 0)) (rA (g 0)) (rB (g 0)) (rC (g 0))
def sb0F : Nat → R3 := sbF (rA (f 0)) (rB (f 0)) (rC (f 0)) (rA (g 0)) (rB (g 0)) (rC (g 0))
def sb1N : Nat := sbN (rA (f 1)) (rB (f 1)) (rC (f 1)) (rA (g 1)) (rB (g 1)) (rC (g 1))
def sb1F : Nat → R3 := sbF (rA (f 1)) (rB (f 1)) (rC (f 1)) (rA (g 1)) (rB (g 1)) (rC (g 1))
def c0F (x : R3) : Nat → R3 := if n = 1 then fun _ => x else fun i => if i = 0 then x else f i
def cnd0 (x : R3) : DE := mkD n (c0F n f x) k s h
noncomputable def cnd1 (x y : R3) : DE := mkD 2 (ofList (ss := [.int .i64, .int .i64, .int .i64]) [x, y]) k s h
noncomputable def ds0 : DL := pushes (fun j => cnd0 n f k s h (sb0F f g j)) noD (sb0N f g)
noncomputable def ds1 : DL := if n = 1 then ds0 n f k s h g else pushes (fun j => cnd1 k s h (diF f g 0) (sb1F f g j)) (ds0 n f k s h g) (sb1N f g)
end
end Go.RX.Span

/- Iterators: the indices of a domain: the states. -/
set_option linter.unusedVariables false
set_option linter.unusedSimpArgs false
set_option maxRecDepth 100000
namespace Go.RX.Span
open Go Go.RX
attribute [local irreducible] sx conB

/-- An index of two columns. -/
def ix2 (x y : Int) : Value := .agg #[.int .i64 x, .int .i64 y]
/-- The inner loop yields, from s on, what is asked for. -/
def ElJ (K : Cons) (s : Nat) (x : Int) (c : Nat) (el : Nat → List Value) : Prop := ∀ j, j < c → ∃ y : Int, el j = [.int .i64 y] ∧ K.el (s + j) = [.int .i64 ((s + j : Nat) : Int), ix2 x y]
def PreJ (n0 : Nat) (K : Cons) (s : Nat) (x : Int) (c : Nat) (el : Nat → List Value) : Prop := n0 ≤ 3 ∧ K.P = P ∧ s + c ≤ K.n ∧ K.n ≤ 5000000000000 ∧ ElJ K s x c el
structure XJ where
  (K : Cons) (s : Nat) (x : Int) (c : Nat) (el : Nat → List Value)
noncomputable abbrev memJ (K : Cons) (i : Nat) (p x : Int) : Mem := [(0, some (.seq true K i)), (0, some (.cells [yieldV K] 193)), (0, some (.cells [.lit (.int .i64 p)] 3)), (0, some (.cells [.lit (.int .i64 x)] 3))]
noncomputable abbrev memJ' (K : Cons) (i : Nat) : Mem := [(0, some (.seq false K i)), (0, none), (0, none), (0, none)]
noncomputable abbrev slJ : List SV := [.ptr 1 0, .ptr 2 0, .ptr 3 0]
noncomputable def gJ : Nat → Nat → (Nat → List Value) → Few → T (Ex × Few)
  | n0, c, el, ([.ptr 1 0, .ptr 2 0, .ptr 3 0], [(_, some (.seq true K s)), (_, some (.cells [.lit (.func (.yield l) ⟨[]⟩ ⟨[]⟩)] t1)), (_, some (.cells [.lit (.int .i64 p)] t2)), (_, some (.cells [.lit (.int .i64 x)] t3))]) =>
    .ask (PreJ n0 K s x c el ∧ K.l = l ∧ p = Int.ofNat s ∧ t1 = 193 ∧ t2 = 3 ∧ t3 = 3) (.br (lk okB K s c) (.ret (.normal, (slJ, memJ K (s + c) (Int.ofNat (s + c)) x))) (.ret (.ret, (slJ, memJ' K (s + lk stopA K s c + 1)))))
  | _, _, _, _ => .stuck 1
noncomputable abbrev Ej : Env := ⟨P, conOf k8, scall P (conOf k8) noLoops 10⟩
end Go.RX.Span

/- Iterators: the indices of a domain: the walk. -/
set_option linter.unusedVariables false
set_option linter.unusedSimpArgs false
set_option maxRecDepth 100000
namespace Go.RX.Span
open Go Go.RX
attribute [local irreducible] sx conB

noncomputable abbrev cdJ : Code := rangeOf P 209 1009 --%K
noncomputable abbrev asJ : Code := match rangeOf P 209 1009 with | .rangeFunc _ _ a _ => a | _ => .skip --%K
noncomputable abbrev bdJ : Code := match rangeOf P 209 1009 with | .rangeFunc _ _ _ b => b | _ => .skip --%K
set_option maxRecDepth 100000 in
theorem t_J (K : Cons) (i : Nat) (p x y : Int) : (sxR Ej [] 4 #[32] asJ bdJ [.int .i64 y] (mkS 42 [2,3,4] slJ, memJ K i p x)).bind (fun r => .ret (r.1, r.2.2)) =
    T.ask (YldAsk Ej.P K.5 K i [.int .i64 p, (fun l => Value.agg l.toArray) [.int .i64 x, .int .i64 y]]) (.br (K.4 i) (.ret (Ex.normal, [(nat_lit 1, some (Blk.seq true K (i.add (nat_lit
      1)))), (nat_lit 0, some (Blk.cells [.lit (Value.func (Fn.yield K.5) { toList := [] } { toList := [] })] (nat_lit 193))), (nat_lit 1, some (Blk.cells [.lit (.int .i64 (U.add .i64 p
      (1 : Int)))] (nat_lit 3))), (nat_lit 0, some (Blk.cells [.lit (.int .i64 x)] (nat_lit 3)))])) (.ret (Ex.ret, [(nat_lit 1, some (Blk.seq false K (i.add (nat_lit 1)))), (nat_lit 0,
      some (Blk.cells [.lit (Value.func (Fn.yield K.5) { toList := [] } { toList := [] })] (nat_lit 193))), (nat_lit 0, some (Blk.cells [.lit (.int .i64 p)] (nat_lit 3))), (nat_lit 0,
      some (Blk.cells [.lit (.int .i64 x)] (nat_lit 3)))]))) := by kernel_rfl
theorem renId {m k : Nat} (hk : k ≤ m) : ∀ b, b < k → Ren.of (idR m) b = some b := fun b hb => by
  unfold Ren.of idR
  simp [show b < m by omega]
theorem rangeJ : RangeC P cdJ (rfew 42 [2,3,4] gJ) := by
  refine range_few (E := Ej) (L := []) mixed (envOK (allOK mixed k8_ok) 10) (g0 := .tmp 31) (ps := #[32]) (assign := asJ) (body := bdJ) (by kernel_rfl) loopsOK_none loopsOK_none 42 [2,3,4] (by decide) (X := XJ) gJ
    (fun _ _ => slJ) (fun _ q i => memJ q.K (q.s + i) (Int.ofNat (q.s + i)) q.x) (fun q => q.c) (fun q => q.el) (fun n0 q => PreJ n0 q.K q.s q.x q.c q.el)
    (fun _ q i => ∀ j, j < i → q.K.ans (q.s + j) = true) (fun _ q o => (okB q.K q.s q.c = true → o = (.normal, (slJ, memJ q.K (q.s + q.c) (Int.ofNat (q.s + q.c)) q.x))) ∧ (okB q.K q.s q.c = false → o = (.ret, (slJ, memJ' q.K (q.s + lk stopA q.K q.s q.c + 1)))))
    (fun _ _ => rfl) ?_ ?_ ?_ ?_ ?_
  · intro m0 c0 el0 st r h
    unfold gJ at h
    split at h
    · rename_i e0 K s e1 l t1 e2 p t2 e3 x t3
      obtain ⟨hp, rfl, rfl, rfl, rfl, rfl⟩ := (T.is_ask h).1
      have hh := (T.is_ask h).2
      have hp' := hp
      obtain ⟨h0, _⟩ := hp'
      have w : Wk 42 [2,3,4] m0 (slJ, [(e0, some (.seq true K s)), (e1, some (.cells [.lit (.func (.yield K.l) ⟨[]⟩ ⟨[]⟩)] 193)), (e2, some (.cells [.lit (.int .i64 (Int.ofNat s))] 3)), (e3, some (.cells [.lit (.int .i64 x)] 3))]) (slJ, memJ K (s + 0) (Int.ofNat (s + 0)) x) :=
        wk_of (idR 4) rfl (Nat.le_trans h0 (show 3 ≤ 4 by omega)) (renId (Nat.le_trans h0 (show 3 ≤ 4 by omega))) ⟨⟨rfl, rfl⟩, ⟨rfl, rfl⟩, ⟨rfl, rfl⟩, trivial⟩ ⟨⟨rfl, rfl, rfl, rfl, rfl⟩, ⟨rfl, rfl, trivial⟩, ⟨rfl, rfl, trivial⟩, ⟨rfl, rfl, trivial⟩, trivial⟩
      refine ⟨⟨K, s, x, c0, el0⟩, hp, rfl, rfl, w, fun j hj => absurd hj (Nat.not_lt_zero j), fun o ho => ?_⟩
      rcases hh with ⟨he, h⟩ | ⟨he, h⟩ <;> rw [lk_eq] at he <;> obtain rfl := T.is_ret h
      · exact ho.1 he
      · exact ho.2 he
    · exact h.elim
  · intro n0 q i hq hi
    obtain ⟨_, _, _, _, hel⟩ := hq
    obtain ⟨y, hy, _⟩ := hel i hi
    show (q.el i).length = 1
    rw [hy]; rfl
  · intro n0 q i hq
    exact Nat.le_trans hq.1 (show 3 ≤ 4 by omega)
  · intro n0 q i hq hi hans
    obtain ⟨K, s, x, c, el⟩ := q
    obtain ⟨h0, hP, hn, hmax, hel⟩ := hq
    simp only [] at h0 hP hn hmax hel hi hans
    obtain ⟨y, hy, hK⟩ := hel i hi
    show ((sxR Ej [] 4 #[32] asJ bdJ (el i) (mkS 42 [2,3,4] slJ, memJ K (s + i) (Int.ofNat (s + i)) x)).bind (fun r => .ret (r.1, r.2.2))).All _
    rw [hy, t_J]
    have e2 : U.add .i64 (Int.ofNat (s + i)) 1 = Int.ofNat (s + (i + 1)) := by
      simp only [Int.ofNat_eq_natCast]
      rw [U.add64 (by unfold I64; omega)]; omega
    rw [e2]
    refine ⟨⟨hP, rfl, by omega, hK.symm⟩, fun ha => ⟨fun j hj => ?_, ?_⟩, fun ha => ⟨(slJ, memJ' K (s + lk stopA K s c + 1)), ⟨fun h => ?_, fun _ => rfl⟩, ?_⟩⟩
    · by_cases e : j = i
      · subst e; exact ha
      · exact hans j (by omega)
    · exact wk_of (idR 4) rfl (Nat.le_trans h0 (show 3 ≤ 4 by omega)) (renId (Nat.le_trans h0 (show 3 ≤ 4 by omega))) ⟨⟨rfl, rfl⟩, ⟨rfl, rfl⟩, ⟨rfl, rfl⟩, trivial⟩ ⟨⟨rfl, rfl, rfl, rfl, rfl⟩, ⟨rfl, rfl, trivial⟩, ⟨rfl, rfl, trivial⟩, ⟨rfl, rfl, trivial⟩, trivial⟩
    · rw [okB_f hi ha] at h; cases h
    · have hs0 : stopA K s c = i := stopA_eq hi ha hans
      exact wk_of (idR 4) rfl (Nat.le_trans h0 (show 3 ≤ 4 by omega)) (renId (Nat.le_trans h0 (show 3 ≤ 4 by omega))) ⟨⟨rfl, rfl⟩, ⟨rfl, rfl⟩, ⟨rfl, rfl⟩, trivial⟩ ⟨⟨rfl, rfl, rfl, rfl, by rw [lk_eq, hs0]⟩, trivial⟩
  · intro n0 q hq hans
    have h0 := hq.1
    refine ⟨_, ⟨fun _ => rfl, fun h => ?_⟩, wk_of (idR 4) rfl (Nat.le_trans h0 (show 3 ≤ 4 by omega)) (renId (Nat.le_trans h0 (show 3 ≤ 4 by omega))) ⟨⟨rfl, rfl⟩, ⟨rfl, rfl⟩, ⟨rfl, rfl⟩, trivial⟩ ⟨⟨rfl, rfl, rfl, rfl, rfl⟩, ⟨rfl, rfl, trivial⟩, ⟨rfl, rfl, trivial⟩, ⟨rfl, rfl, trivial⟩, trivial⟩⟩
    have hall := okB_t.2 hans
    exact absurd (hall.symm.trans h) (by decide)
end Go.RX.Span

/- Iterators: the indices of a domain: the outer loop's states. -/
set_option linter.unusedVariables false
set_option linter.unusedSimpArgs false
set_option maxRecDepth 100000
namespace Go.RX.Span
open Go Go.RX
attribute [local irreducible] sx conB

theorem okB_first {K : Cons} : ∀ {c s : Nat}, okB K s c = false → ∃ j, j < c ∧ K.ans (s + j) = false ∧ ∀ i, i < j → K.ans (s + i) = true
  | 0, s, h => by rw [okB_t.2 fun i hi => absurd hi (Nat.not_lt_zero i)] at h; cases h
  | c + 1, s, h => by
    cases e : okB K s c
    · obtain ⟨j, h1, h2, h3⟩ := okB_first e
      exact ⟨j, by omega, h2, h3⟩
    · have hb := okB_t.1 e
      cases ea : K.ans (s + c)
      · exact ⟨c, by omega, ea, hb⟩
      · have hall : okB K s (c + 1) = true := okB_t.2 fun i hi => by
          by_cases hc : i = c
          · subst hc; exact ea
          · exact hb i (by omega)
        rw [hall] at h; cases h
theorem stopA_at {K : Cons} {s c N : Nat} (h0 : ∀ i, i < s → K.ans i = true) (hN : s + c ≤ N) (h : okB K s c = false) : stopA K 0 N = s + stopA K s c := by
  obtain ⟨j, h1, h2, h3⟩ := okB_first h
  rw [stopA_eq h1 h2 h3]
  refine stopA_eq (by omega) (by rw [Nat.zero_add]; exact h2) fun i hi => ?_
  rw [Nat.zero_add]
  by_cases hi' : i < s
  · exact h0 i hi'
  · have := h3 (i - s) (by omega)
    rwa [show s + (i - s) = i by omega] at this
noncomputable abbrev cdO : Code := rangeOf P 209 1004
noncomputable abbrev asO : Code := match rangeOf P 209 1004 with | .rangeFunc _ _ a _ => a | _ => .skip
noncomputable abbrev bdO : Code := match rangeOf P 209 1004 with | .rangeFunc _ _ _ b => b | _ => .skip
noncomputable abbrev kO : List (Nat × Con) := (63, c_DCheck) :: (119, c_All) :: k8
theorem kO_ok : ∀ p ∈ kO, ConOK P p.1 p.2 := by
  intro p hp
  simp only [kO, List.mem_cons] at hp
  rcases hp with rfl | rfl | hp
  · exact DCheck_ok
  · exact All_ok
  · exact k8_ok p (by simpa [k8] using hp)
noncomputable abbrev lJ : Loops := [(1009, .rng 176 sc176 (rfew 42 [2,3,4] gJ))]
noncomputable abbrev Eo : Env := ⟨P, conOf kO, scall P (conOf kO) noLoops 10⟩
theorem Eo_ok : EnvOK Eo := envOK (allOK mixed kO_ok) 10
theorem lJ_ok : LoopsOK P lJ (bodyOf P 209) := loopsOK_ofR (by kernel_rfl) (by kernel_rfl) (fun k g hk => by simp at hk) fun k gf sc g hk => by
  simp only [List.mem_singleton, Prod.mk.injEq, LoopC.rng.injEq] at hk
  obtain ⟨rfl, rfl, rfl, rfl⟩ := hk
  exact ⟨sc176_ok, rangeJ⟩
theorem lJ_sub : LoopsOK P lJ bdO := lJ_ok.sub (fun l hl => by rw [show loopsIn bdO = [] by kernel_rfl] at hl; cases hl) fun l hl => by
  rw [show rangesIn (bodyOf P 209) = cdO :: (rangesIn asO ++ rangesIn bdO) by kernel_rfl]
  exact List.mem_cons_of_mem _ (List.mem_append_right _ hl)
theorem lJ_subA : LoopsOK P lJ asO := lJ_ok.sub (fun l hl => by rw [show loopsIn asO = [] by kernel_rfl] at hl; cases hl) fun l hl => by
  rw [show rangesIn asO = [] by kernel_rfl] at hl; cases hl
noncomputable abbrev rpD (fd : Nat → DE) : SV := .rptr ssD 1 fd 0 0
noncomputable abbrev slOo (fd : Nat → DE) : List SV := [rpD fd, .ptr 1 0, .ptr 2 0]
noncomputable abbrev memO (K : Cons) (i : Nat) (p : Int) : Mem := [(0, some (.seq true K i)), (0, some (.cells [yieldV K] 193)), (0, some (.cells [.lit (.int .i64 p)] 3))]
noncomputable abbrev memO' (K : Cons) (i : Nat) : Mem := [(0, some (.seq false K i)), (0, none), (0, none)]
structure XOd where
  (K : Cons) (fd : Nat → DE) (c : Nat) (el : Nat → List Value)
/-- How many indices a row has. -/
def inC (fd : Nat → DE) : Nat := if (fd 0).1.1 = 1 then 1 else szN ((fd 0).1.2 1).1 ((fd 0).1.2 1).2.1 ((fd 0).1.2 1).2.2.1
def PreOd (n0 : Nat) (K : Cons) (fd : Nat → DE) (c : Nat) (el : Nat → List Value) : Prop :=
  n0 ≤ 3 ∧ K.P = P ∧ ((fd 0).1.1 = 1 ∨ (fd 0).1.1 = 2) ∧ Row64 (fd 0).1.1 (fd 0).1.2 ∧ K.n = c * inC fd ∧ K.n ≤ 5000000000000 ∧
    ∀ i, i < c → ∃ x : Int, el i = [.int .i64 x] ∧ ((fd 0).1.1 = 1 → K.el (i * inC fd) = [.int .i64 (Int.ofNat (i * inC fd)), ix2 x 0]) ∧ ((fd 0).1.1 = 2 → ElJ K (i * inC fd) x (inC fd) (numE ((fd 0).1.2 1).1 ((fd 0).1.2 1).2.1 ((fd 0).1.2 1).2.2.1))
noncomputable def gOd : Nat → Nat → (Nat → List Value) → Few → T (Ex × Few)
  | n0, c, el, ([.rptr ss 1 fd 0 0, .ptr 1 0, .ptr 2 0], [(_, some (.seq true K 0)), (_, some (.cells [.lit (.func (.yield l) ⟨[]⟩ ⟨[]⟩)] t1)), (_, some (.cells [.ki .i64 (.ofNat 0)] t2))]) =>
    if e : eqShs ss ssD = true then
      .ask (PreOd n0 K (castEls e fd) c el ∧ K.l = l ∧ t1 = 193 ∧ t2 = 3) (.br (lk okB K 0 K.n) (.ret (.normal, (slOo (castEls e fd), memO K K.n (Int.ofNat K.n)))) (.ret (.ret, (slOo (castEls e fd), memO' K (lk stopA K 0 K.n + 1)))))
    else .stuck 2
  | _, _, _, _ => .stuck 1
end Go.RX.Span

/- Iterators: the indices of a domain: the outer loop's walk. -/
set_option linter.unusedVariables false
set_option linter.unusedSimpArgs false
set_option maxRecDepth 100000
namespace Go.RX.Span
open Go Go.RX
attribute [local irreducible] sx conB

set_option maxRecDepth 100000 in
theorem t_O (K : Cons) (fd : Nat → DE) (i : Nat) (p x : Int) : (sxR Eo lJ 3 #[14] asO bdO [.int .i64 x] (mkS 42 [1,2,3] (slOo fd), memO K i p)).bind (fun r => .ret (r.1, r.2.2)) =
    T.br (U.eq (Int.ofNat (fd (0 : Nat)).fst.1) (1 : Int)) (.ask (YldAsk Eo.P K.5 K i [.int .i64 p, (fun l => Value.agg l.toArray) [.int .i64 x, .int .i64 0]]) (.br (K.4 i) (.ret
      (Ex.normal, [(nat_lit 1, some (Blk.seq true K (i.add (nat_lit 1)))), (nat_lit 0, some (Blk.cells [.lit (Value.func (Fn.yield K.5) { toList := [] } { toList := [] })] (nat_lit
      193))), (nat_lit 1, some (Blk.cells [.lit (.int .i64 (U.add .i64 p (1 : Int)))] (nat_lit 3))), (nat_lit 1, some (Blk.cells [.lit (.int .i64 x)] (nat_lit 3)))])) (.ret (Ex.ret,
      [(nat_lit 1, some (Blk.seq false K (i.add (nat_lit 1)))), (nat_lit 0, some (Blk.cells [.lit (Value.func (Fn.yield K.5) { toList := [] } { toList := [] })] (nat_lit 193))), (nat_lit
      0, some (Blk.cells [.lit (.int .i64 p)] (nat_lit 3))), (nat_lit 1, some (Blk.cells [.lit (.int .i64 x)] (nat_lit 3)))])))) (.ask ((0 : Int) ≤ (1 : Int) ∧ (1 : Int) < ↑(fd (0 :
      Nat)).fst.1) (.ask (I64 ((fd (0 : Nat)).fst.snd (U.toNat (1 : Int))).1 ∧ I64 ((fd (0 : Nat)).fst.snd (U.toNat (1 : Int))).2.1 ∧ I64 ((fd (0 : Nat)).fst.snd (U.toNat (1 :
      Int))).2.2.1) (.ask (PreJ (3 : Nat) K i x (lk szN ((fd (0 : Nat)).fst.snd (U.toNat (1 : Int))).1 ((fd (0 : Nat)).fst.snd (U.toNat (1 : Int))).2.1 ((fd (0 : Nat)).fst.snd (U.toNat (1
      : Int))).2.2.1) (lk szN ((fd (0 : Nat)).fst.snd (U.toNat (1 : Int))).1 ((fd (0 : Nat)).fst.snd (U.toNat (1 : Int))).2.1 ((fd (0 : Nat)).fst.snd (U.toNat (1 : Int))).2.2.1, lk numE
      ((fd (0 : Nat)).fst.snd (U.toNat (1 : Int))).1 ((fd (0 : Nat)).fst.snd (U.toNat (1 : Int))).2.1 ((fd (0 : Nat)).fst.snd (U.toNat (1 : Int))).2.2.1).snd ∧ K.5 = K.5 ∧ p = Int.ofNat i
      ∧ (193 : TypeId) = (193 : TypeId) ∧ (3 : TypeId) = (3 : TypeId) ∧ (3 : Nat) = (3 : TypeId)) (.br (lk okB K i (lk szN ((fd (0 : Nat)).fst.snd (U.toNat (1 : Int))).1 ((fd (0 :
      Nat)).fst.snd (U.toNat (1 : Int))).2.1 ((fd (0 : Nat)).fst.snd (U.toNat (1 : Int))).2.2.1)) (.ret (Ex.normal, [(nat_lit 1, some (Blk.seq true K (i + lk szN ((fd (0 : Nat)).fst.snd
      (U.toNat (1 : Int))).1 ((fd (0 : Nat)).fst.snd (U.toNat (1 : Int))).2.1 ((fd (0 : Nat)).fst.snd (U.toNat (1 : Int))).2.2.1))), (nat_lit 1, some (Blk.cells [.lit (Value.func
      (Fn.yield K.5) { toList := [] } { toList := [] })] (nat_lit 193))), (nat_lit 1, some (Blk.cells [.lit (.int .i64 (Int.ofNat (i + lk szN ((fd (0 : Nat)).fst.snd (U.toNat (1 :
      Int))).1 ((fd (0 : Nat)).fst.snd (U.toNat (1 : Int))).2.1 ((fd (0 : Nat)).fst.snd (U.toNat (1 : Int))).2.2.1)))] (nat_lit 3))), (nat_lit 2, some (Blk.cells [.lit (.int .i64 x)]
      (nat_lit 3)))])) (.ret (Ex.ret, [(nat_lit 1, some (Blk.seq false K ((i + lk stopA K i (lk szN ((fd (0 : Nat)).fst.snd (U.toNat (1 : Int))).1 ((fd (0 : Nat)).fst.snd (U.toNat (1 :
      Int))).2.1 ((fd (0 : Nat)).fst.snd (U.toNat (1 : Int))).2.2.1)).add (nat_lit 1)))), (nat_lit 1, none), (nat_lit 1, none), (nat_lit 2, none)])))))) := by kernel_rfl
theorem sameRowD {n : Nat} {f : Nat → DE} : sameRow n f f := ⟨eqShs_refl _, fun i hi => rfl⟩
theorem rangeO : RangeC P cdO (rfew 42 [1,2,3] gOd) := by
  refine range_few (E := Eo) (L := lJ) mixed Eo_ok (g0 := .tmp 13) (ps := #[14]) (assign := asO) (body := bdO) (by kernel_rfl) lJ_subA lJ_sub 42 [1,2,3] (by decide) (X := XOd) gOd
    (fun _ q => slOo q.fd) (fun _ q i => memO q.K (i * inC q.fd) (Int.ofNat (i * inC q.fd))) (fun q => q.c) (fun q => q.el) (fun n0 q => PreOd n0 q.K q.fd q.c q.el)
    (fun _ q i => ∀ j, j < i * inC q.fd → q.K.ans j = true) (fun _ q o => (okB q.K 0 q.K.n = true → o = (.normal, (slOo q.fd, memO q.K q.K.n (Int.ofNat q.K.n)))) ∧ (okB q.K 0 q.K.n = false → o = (.ret, (slOo q.fd, memO' q.K (lk stopA q.K 0 q.K.n + 1)))))
    (fun _ _ => rfl) ?_ ?_ ?_ ?_ ?_
  · intro m0 c0 el0 st r h
    unfold gOd at h
    split at h
    · rename_i ss fd e0 K e1 l t1 e2 t2
      by_cases e : eqShs ss ssD = true
      rotate_left
      · rw [dif_neg e] at h; exact h.elim
      rw [dif_pos e] at h
      have es := eqShs_eq _ _ e
      subst es
      obtain ⟨hp, rfl, rfl, rfl⟩ := (T.is_ask h).1
      have hh := (T.is_ask h).2
      have hp' := hp
      obtain ⟨h0, _⟩ := hp'
      have w : Wk 42 [1,2,3] m0 (slOo fd, [(e0, some (.seq true K 0)), (e1, some (.cells [.lit (.func (.yield K.l) ⟨[]⟩ ⟨[]⟩)] 193)), (e2, some (.cells [.ki .i64 (.ofNat 0)] 3))]) (slOo fd, memO K (0 * inC fd) (Int.ofNat (0 * inC fd))) := by
        rw [Nat.zero_mul]
        exact wk_of (idR 3) rfl h0 (renId h0) ⟨⟨rfl, rfl, rfl, sameRowD⟩, ⟨rfl, rfl⟩, ⟨rfl, rfl⟩, trivial⟩ ⟨⟨rfl, rfl, rfl, rfl, rfl⟩, ⟨rfl, rfl, trivial⟩, ⟨rfl, rfl, trivial⟩, trivial⟩
      refine ⟨⟨K, fd, c0, el0⟩, hp, rfl, rfl, w, fun j hj => by rw [Nat.zero_mul] at hj; exact absurd hj (Nat.not_lt_zero j), fun o ho => ?_⟩
      rcases hh with ⟨he, h⟩ | ⟨he, h⟩ <;> rw [lk_eq] at he <;> obtain rfl := T.is_ret h
      · exact ho.1 he
      · exact ho.2 he
    · exact h.elim
  · intro n0 q i hq hi
    obtain ⟨_, _, _, _, _, _, hel⟩ := hq
    obtain ⟨y, hy, _⟩ := hel i hi
    show (q.el i).length = 1
    rw [hy]; rfl
  · intro n0 q i hq
    exact hq.1
  · intro n0 q i hq hi hans
    obtain ⟨K, fd, c, el⟩ := q
    obtain ⟨h0, hP, hn, h64, hN, hmax, hel⟩ := hq
    simp only [] at h0 hP hn h64 hN hmax hel hi hans
    obtain ⟨x, hx, he1, he2⟩ := hel i hi
    show ((sxR Eo lJ 3 #[14] asO bdO (el i) (mkS 42 [1,2,3] (slOo fd), memO K (i * inC fd) (Int.ofNat (i * inC fd)))).bind (fun r => .ret (r.1, r.2.2))).All _
    rw [hx, t_O]
    have hsuc : (i + 1) * inC fd = i * inC fd + inC fd := Nat.succ_mul _ _
    have hle : i * inC fd + inC fd ≤ K.n := by rw [hN, ← hsuc]; exact Nat.mul_le_mul_right _ hi
    rcases hn with hn | hn
    · have hc1 : inC fd = 1 := by unfold inC; rw [if_pos hn]
      have eN : U.eq (Int.ofNat (fd 0).1.1) 1 = true := by rw [hn, U.eq_t]; rfl
      have e2 : U.add .i64 (Int.ofNat (i * inC fd)) 1 = Int.ofNat ((i + 1) * inC fd) := by
        simp only [Int.ofNat_eq_natCast]
        rw [hsuc, U.add64 (by unfold I64; omega)]; omega
      rw [e2]
      refine ⟨fun _ => ⟨⟨hP, rfl, by omega, (he1 hn).symm⟩, fun ha => ⟨fun j hj => ?_, ?_⟩, fun ha => ⟨(slOo fd, memO' K (lk stopA K 0 K.n + 1)), ⟨fun h => ?_, fun _ => rfl⟩, ?_⟩⟩, fun h => (by rw [eN] at h; cases h)⟩
      · have hj : j < (i + 1) * inC fd := hj
        by_cases e : j = i * inC fd
        · subst e; exact ha
        · exact hans j (by omega)
      · exact wk_of (idR 3) rfl h0 (renId h0) ⟨⟨rfl, rfl, rfl, sameRowD⟩, ⟨rfl, rfl⟩, ⟨rfl, rfl⟩, trivial⟩ ⟨⟨rfl, rfl, rfl, rfl, by rw [hsuc, hc1]⟩, ⟨rfl, rfl, trivial⟩, ⟨rfl, rfl, trivial⟩, trivial⟩
      · rw [okB_f (show i * inC fd < K.n by omega) (by rw [Nat.zero_add]; exact ha)] at h; cases h
      · have hs0 : stopA K 0 K.n = i * inC fd := stopA_eq (by omega) (by rw [Nat.zero_add]; exact ha) (fun j hj => by rw [Nat.zero_add]; exact hans j hj)
        exact wk_of (idR 3) rfl h0 (renId h0) ⟨⟨rfl, rfl, rfl, sameRowD⟩, ⟨rfl, rfl⟩, ⟨rfl, rfl⟩, trivial⟩ ⟨⟨rfl, rfl, rfl, rfl, by rw [lk_eq, hs0]⟩, trivial⟩
    · have hc1 : inC fd = szN ((fd 0).1.2 1).1 ((fd 0).1.2 1).2.1 ((fd 0).1.2 1).2.2.1 := by unfold inC; rw [if_neg (by omega)]
      have eN : U.eq (Int.ofNat (fd 0).1.1) 1 = false := by rw [hn, U.eq_f]; decide
      have hr1 := h64 1 (by omega)
      simp only [tn1, lk_eq]
      refine ⟨fun h => (by rw [eN] at h; cases h), fun _ => ⟨⟨by omega, by omega⟩, hr1, ⟨⟨by omega, hP, by rw [← hc1]; exact hle, hmax, by rw [← hc1]; exact he2 hn⟩, trivial, trivial, trivial, trivial, trivial⟩, fun ha => ⟨fun j hj => ?_, ?_⟩, fun ha => ⟨(slOo fd, memO' K (lk stopA K 0 K.n + 1)), ⟨fun h => ?_, fun _ => by rw [lk_eq]⟩, ?_⟩⟩⟩
      · have hj : j < (i + 1) * inC fd := hj
        rw [← hc1] at ha
        by_cases hj' : j < i * inC fd
        · exact hans j hj'
        · have := okB_t.1 ha (j - i * inC fd) (by omega)
          rwa [show i * inC fd + (j - i * inC fd) = j by omega] at this
      · exact wk_of (idR 3) rfl h0 (renId h0) ⟨⟨rfl, rfl, rfl, sameRowD⟩, ⟨rfl, rfl⟩, ⟨rfl, rfl⟩, trivial⟩ ⟨⟨rfl, rfl, rfl, rfl, by rw [hsuc, hc1]⟩, ⟨rfl, rfl, trivial⟩, ⟨rfl, by rw [hsuc, hc1]; rfl, trivial⟩, trivial⟩
      · rw [← hc1] at ha
        obtain ⟨j, h1, h2, _⟩ := okB_first ha
        rw [okB_f (show i * inC fd + j < K.n by omega) (by rw [Nat.zero_add]; exact h2)] at h; cases h
      · rw [← hc1] at ha
        have hs0 := stopA_at hans hle ha
        exact wk_of (idR 3) rfl h0 (renId h0) ⟨⟨rfl, rfl, rfl, sameRowD⟩, ⟨rfl, rfl⟩, ⟨rfl, rfl⟩, trivial⟩ ⟨⟨rfl, rfl, rfl, rfl, by rw [lk_eq, hs0, hc1]⟩, trivial⟩
  · intro n0 q hq hans
    obtain ⟨K, fd, c, el⟩ := q
    obtain ⟨h0, hP, hn, h64, hN, hmax, hel⟩ := hq
    simp only [] at h0 hN hans
    refine ⟨_, ⟨fun _ => rfl, fun h => ?_⟩, wk_of (idR 3) rfl h0 (renId h0) ⟨⟨rfl, rfl, rfl, sameRowD⟩, ⟨rfl, rfl⟩, ⟨rfl, rfl⟩, trivial⟩ ⟨⟨rfl, rfl, rfl, rfl, hN.symm⟩, ⟨rfl, rfl, trivial⟩, ⟨rfl, by rw [hN]; rfl, trivial⟩, trivial⟩⟩
    have hall : okB K 0 K.n = true := okB_t.2 fun i hi => by rw [Nat.zero_add]; exact hans i (by rw [← hN]; exact hi)
    exact absurd (hall.symm.trans h) (by decide)
end Go.RX.Span

/- Iterators: the indices of a domain: the contract. -/
set_option linter.unusedVariables false
set_option linter.unusedSimpArgs false
set_option maxRecDepth 100000
namespace Go.RX.Span
open Go Go.RX
attribute [local irreducible] sx conB

noncomputable abbrev lO : List (Nat × Loops) := [(209, [(1004, .rng 176 sc176 (rfew 42 [1,2,3] gOd)), (1009, .rng 176 sc176 (rfew 42 [2,3,4] gJ))])]
theorem lO_ok : ∀ p ∈ lO, LoopsOK P p.2 (bodyOf P p.1) := by
  intro p hp
  simp only [lO, List.mem_singleton] at hp
  subst hp
  refine loopsOK_ofR (by kernel_rfl) (by kernel_rfl) (fun k g hk => by simp at hk) fun k gf sc g hk => ?_
  simp only [List.mem_cons, List.not_mem_nil, or_false, Prod.mk.injEq, LoopC.rng.injEq] at hk
  rcases hk with ⟨rfl, rfl, rfl, rfl⟩ | ⟨rfl, rfl, rfl, rfl⟩
  · exact ⟨sc176_ok, rangeO⟩
  · exact ⟨sc176_ok, rangeJ⟩
/-- The p-th index of a domain. -/
def ixD (n : Nat) (f : Nat → R3) (p : Nat) : Value :=
  if n = 1 then ix2 (num (f 0).1 (f 0).2.1 (f 0).2.2.1 p) 0
  else ix2 (num (f 0).1 (f 0).2.1 (f 0).2.2.1 (p / szN (f 1).1 (f 1).2.1 (f 1).2.2.1)) (num (f 1).1 (f 1).2.1 (f 1).2.2.1 (p % szN (f 1).1 (f 1).2.1 (f 1).2.2.1))
def elD (n : Nat) (f : Nat → R3) (p : Nat) : List Value := [.int .i64 (p : Int), ixD n f p]
def szDn (n : Nat) (f : Nat → R3) (k s h : Int) : Nat := (szD n f k s h).toNat
noncomputable def sc209 : SCon := fun args => match args with
  | [.rptr [.sl [.int .i64, .int .i64, .int .i64], .int .i64, .int .i64, .int .i64] 1 fd 0 0] => .ask (Row64 (fd 0).1.1 (fd 0).1.2) (.ret (lk szDn (fd 0).1.1 (fd 0).1.2 (fd 0).2.1 (fd 0).2.2.1 (fd 0).2.2.2.1, lk elD (fd 0).1.1 (fd 0).1.2))
  | _ => .stuck 1
noncomputable def c_DAll : Con := fun args => match args with
  | [.agg [.row [.int .i64, .int .i64, .int .i64] n f, .lit (.int .i64 k), .lit (.int .i64 s), .lit (.int .i64 h)]] => .ret (.fn (.func 209) [] [rpD fun _ => ((n, f), k, s, h, ())])
  | _ => .stuck 1
end Go.RX.Span

/- Iterators: the indices of a domain: what All yields. -/
set_option linter.unusedVariables false
set_option linter.unusedSimpArgs false
set_option maxRecDepth 100000
namespace Go.RX.Span
open Go Go.RX
attribute [local irreducible] sx conB

set_option maxRecDepth 100000 in
theorem t_DAll (n : Nat) (f : Nat → R3) (k s h : Int) : conB Go.Proofs.Try.prog (conOf []) noLoops 10 172 [.agg [.row [.int .i64, .int .i64, .int .i64] n f, .lit (.int .i64 k), .lit (.int .i64 s), .lit (.int .i64 h)]] =
    T.ret (SV.fn (Fn.func (nat_lit 209)) [] [SV.rptr [.sl [.int .i64, .int .i64, .int .i64], .int .i64, .int .i64, .int .i64] (nat_lit 1) (fun x => ((n, f), k, s, h, PUnit.unit))
      (nat_lit 0) (nat_lit 0)]) := by kernel_rfl
set_option maxRecDepth 100000 in
theorem t_209 (K : Cons) (fd : Nat → DE) : scall Go.Proofs.Try.prog (conOf kO) (loopsOf lO) 10 209 [yieldV K, rpD fd] [(0, some (.seq true K 0))] =
    T.ask (Row64 (fd (0 : Nat)).fst.1 (fd (0 : Nat)).fst.snd) (.br (U.ne (lk chD (fd (0 : Nat)).fst.1 (fd (0 : Nat)).fst.2 (fd (0 : Nat)).2.1 (fd (0 : Nat)).2.2.1 (fd (0 :
      Nat)).2.2.2.1) (0 : Int)) (.ret (.tup [], [(nat_lit 0, some (Blk.seq true K (nat_lit 0))), (nat_lit 0, some (Blk.cells [.lit (Value.func (Fn.yield K.5) { toList := [] } { toList :=
      [] })] (nat_lit 193)))])) (.ask ((0 : Int) ≤ (0 : Int) ∧ (0 : Int) < ↑(fd (0 : Nat)).fst.1) (.ask (I64 ((fd (0 : Nat)).fst.snd (U.toNat (0 : Int))).1 ∧ I64 ((fd (0 : Nat)).fst.snd
      (U.toNat (0 : Int))).2.1 ∧ I64 ((fd (0 : Nat)).fst.snd (U.toNat (0 : Int))).2.2.1) (.ask (PreOd (nat_lit 1) K (castEls rfl fd) (lk szN ((fd (0 : Nat)).fst.snd (U.toNat (0 : Int))).1
      ((fd (0 : Nat)).fst.snd (U.toNat (0 : Int))).2.1 ((fd (0 : Nat)).fst.snd (U.toNat (0 : Int))).2.2.1) (lk szN ((fd (0 : Nat)).fst.snd (U.toNat (0 : Int))).1 ((fd (0 : Nat)).fst.snd
      (U.toNat (0 : Int))).2.1 ((fd (0 : Nat)).fst.snd (U.toNat (0 : Int))).2.2.1, lk numE ((fd (0 : Nat)).fst.snd (U.toNat (0 : Int))).1 ((fd (0 : Nat)).fst.snd (U.toNat (0 : Int))).2.1
      ((fd (0 : Nat)).fst.snd (U.toNat (0 : Int))).2.2.1).snd ∧ K.5 = K.5 ∧ (193 : Nat) = (193 : TypeId) ∧ (3 : Nat) = (3 : TypeId)) (.br (lk okB K (nat_lit 0) K.2) (.ret (.tup [],
      [(nat_lit 1, some (Blk.seq true K K.2)), (nat_lit 1, some (Blk.cells [.lit (Value.func (Fn.yield K.5) { toList := [] } { toList := [] })] (nat_lit 193))), (nat_lit 2, some
      (Blk.cells [.lit (.int .i64 (Int.ofNat K.2))] (nat_lit 3)))])) (.ret (.tup [], [(nat_lit 1, some (Blk.seq false K ((lk stopA K (nat_lit 0) K.2).add (nat_lit 1)))), (nat_lit 1,
      none), (nat_lit 2, none)]))))))) := by kernel_rfl
end Go.RX.Span

/- Iterators: the indices of a domain: All yields just these. -/
set_option linter.unusedVariables false
set_option linter.unusedSimpArgs false
set_option maxRecDepth 100000
namespace Go.RX.Span
open Go Go.RX
attribute [local irreducible] sx conB

theorem DAll_ok : ConOK P 172 c_DAll := con_of (allOK mixed none_ok) 10 172 fun args r h => by
  unfold c_DAll at h
  split at h
  · rename_i n f k s h'
    obtain rfl := T.is_ret h
    rw [t_DAll]
    rfl
  · exact h.elim
theorem szN_R {r : R3} (h : RR r) : ((szN r.1 r.2.1 r.2.2.1 : Nat) : Int) = szR r := by
  have := (rr_size h).2.1
  show (((szR r).toNat : Nat) : Int) = szR r
  omega
theorem szDn_right {n : Nat} {f : Nat → R3} {k s h : Int} (hc : chD n f k s h = 0) : szDn n f k s h = szN (f 0).1 (f 0).2.1 (f 0).2.2.1 * (if n = 1 then 1 else szN (f 1).1 (f 1).2.1 (f 1).2.2.1) := by
  obtain ⟨d1, _⟩ := chD_zero.1 hc
  have hn := d1.1
  unfold szDn
  rw [szD_right hc]
  have e0 := szN_R (d1.2 0 (by omega))
  by_cases h1 : n = 1
  · subst h1
    rw [if_pos rfl, ← e0]
    show (((szN (f 0).1 (f 0).2.1 (f 0).2.2.1 : Nat) : Int) * 1).toNat = _
    rw [Int.mul_one, Nat.mul_one]; rfl
  · have e1 := szN_R (d1.2 1 (by omega))
    rw [if_neg h1, ← e0]
    have ec : colD n f = szR (f 1) := by unfold colD; rw [if_neg h1]
    rw [ec, ← e1, ← Int.natCast_mul]; rfl
theorem sc209_ok : SConOK P 209 sc209 := scon_of (allOKL mixed kO_ok lO_ok) 10 209 fun args q h K hK hn hel => by
  unfold sc209 at h
  split at h
  · rename_i fd
    have h64 := (T.is_ask h).1
    obtain rfl := T.is_ret (T.is_ask h).2
    simp only [lk_eq] at hn hel
    rw [t_209]
    obtain ⟨d0, hfd⟩ : ∃ d, fd 0 = d := ⟨_, rfl⟩
    obtain ⟨⟨n, f⟩, k, s, h', u⟩ := d0
    rw [hfd] at h64 hn hel
    simp only [] at h64 hn hel
    simp only [hfd, lk_eq, tn0]
    refine ⟨h64, fun hc => ?_, fun hc => ?_⟩
    · have hc : chD n f k s h' ≠ 0 := U.ne_t.mp hc
      have e0 : szDn n f k s h' = 0 := by unfold szDn szD; rw [if_pos hc]; rfl
      exact .inl (by rw [hn, e0]; rfl)
    · have hc : chD n f k s h' = 0 := U.ne_f.mp hc
      obtain ⟨d1, _⟩ := chD_zero.1 hc
      have hn2 := d1.1
      have hinC : inC fd = if n = 1 then 1 else szN (f 1).1 (f 1).2.1 (f 1).2.2.1 := by unfold inC; rw [hfd]
      refine ⟨⟨by omega, by omega⟩, h64 0 (by omega), ⟨⟨by omega, hK, ?_, ?_, ?_, ?_, fun i hi => ⟨num (f 0).1 (f 0).2.1 (f 0).2.2.1 i, rfl, fun h1 => ?_, fun h2 => ?_⟩⟩, trivial, trivial, trivial⟩, fun _ => .inl rfl, fun _ => .inr ⟨_, rfl⟩⟩
      · show (fd 0).1.1 = 1 ∨ (fd 0).1.1 = 2
        rw [hfd]; exact hn2
      · show Row64 (fd 0).1.1 (fd 0).1.2
        rw [hfd]; exact h64
      · show K.n = _ * inC fd
        rw [hn, szDn_right hc, hinC]
      · rw [hn]
        have := (dr_prod d1).2
        unfold szDn
        rw [szD_right hc]; omega
      · have h1 : (fd 0).1.1 = 1 := h1
        rw [hfd] at h1
        have h1 : n = 1 := h1
        show K.el (i * inC fd) = _
        rw [hinC, if_pos h1, Nat.mul_one, hel]
        show elD n f i = [.int .i64 (Int.ofNat (i * inC fd)), _]
        rw [hinC, if_pos h1, Nat.mul_one]
        unfold elD ixD
        rw [if_pos h1]; rfl
      · have h2 : (fd 0).1.1 = 2 := h2
        rw [hfd] at h2
        have h2 : n = 2 := h2
        have e1 : inC fd = szN (f 1).1 (f 1).2.1 (f 1).2.2.1 := by rw [hinC, if_neg (by omega)]
        show ElJ K (i * inC fd) (num (f 0).1 (f 0).2.1 (f 0).2.2.1 i) (inC fd) (numE ((fd 0).1.2 1).1 ((fd 0).1.2 1).2.1 ((fd 0).1.2 1).2.2.1)
        rw [hfd]
        intro j hj
        refine ⟨num (f 1).1 (f 1).2.1 (f 1).2.2.1 j, rfl, ?_⟩
        rw [hel]
        unfold elD ixD
        rw [if_neg (by omega), ← e1, Nat.add_comm (i * inC fd) j, Nat.add_mul_div_right _ _ (by omega), Nat.add_mul_mod_self_right, Nat.div_eq_of_lt hj, Nat.mod_eq_of_lt hj, Nat.zero_add]
  · exact h.elim
end Go.RX.Span

/- The law's list of all indices: the states. -/
set_option linter.unusedVariables false
set_option linter.unusedSimpArgs false
set_option maxRecDepth 100000
namespace Go.RX.Span
open Go Go.RX
attribute [local irreducible] sx conB

def idX (n : Nat) (f : Nat → R3) (p : Nat) : Int := if n = 1 then num (f 0).1 (f 0).2.1 (f 0).2.2.1 p else num (f 0).1 (f 0).2.1 (f 0).2.2.1 (p / szN (f 1).1 (f 1).2.1 (f 1).2.2.1)
def idY (n : Nat) (f : Nat → R3) (p : Nat) : Int := if n = 1 then 0 else num (f 1).1 (f 1).2.1 (f 1).2.2.1 (p % szN (f 1).1 (f 1).2.1 (f 1).2.2.1)
theorem ixD_eq (n : Nat) (f : Nat → R3) (p : Nat) : ixD n f p = ix2 (idX n f p) (idY n f p) := by
  unfold ixD idX idY; split <;> rfl
noncomputable abbrev El : Env := ⟨P, conOf [], scall P (conOf []) noLoops 10⟩
end Go.RX.Span

/- The law's list of all indices: the walk. -/
set_option linter.unusedVariables false
set_option linter.unusedSimpArgs false
set_option maxRecDepth 100000
namespace Go.RX.Span
open Go Go.RX
attribute [local irreducible] sx conB

end Go.RX.Span

/- Indices compared, sorted: contracts. -/
set_option linter.unusedVariables false
set_option linter.unusedSimpArgs false
set_option maxRecDepth 100000
namespace Go.RX.Span
open Go Go.RX
attribute [local irreducible] sx conB

end Go.RX.Span

/- Indices compared: the walks. -/
set_option linter.unusedVariables false
set_option linter.unusedSimpArgs false
set_option maxRecDepth 100000
namespace Go.RX.Span
open Go Go.RX
attribute [local irreducible] sx conB

--%R ↑\((\d+)\s+:\s+Nat\) => ((\1 : Nat) : Int)
--%R ofList\s+\[\((\S+),\s+\(\)\) => ofList (ss := [.int .i64]) [(\1, ())
end Go.RX.Span

/- A list of indices is sorted: the states. -/
set_option linter.unusedVariables false
set_option linter.unusedSimpArgs false
set_option maxRecDepth 100000
namespace Go.RX.Span
open Go Go.RX
attribute [local irreducible] sx conB

end Go.RX.Span

/- A list of indices is sorted: the walk. -/
set_option linter.unusedVariables false
set_option linter.unusedSimpArgs false
set_option maxRecDepth 100000
namespace Go.RX.Span
open Go Go.RX
attribute [local irreducible] sx conB

end Go.RX.Span

/- The law's small domains, and its indices as slices. -/
set_option linter.unusedVariables false
set_option linter.unusedSimpArgs false
set_option maxRecDepth 100000
namespace Go.RX.Span
open Go Go.RX
attribute [local irreducible] sx conB

noncomputable def ixF (x y : Int) : Nat → R1 := ofList (ss := [.int .i64]) [(x, ()), (y, ())]
--%R ofList\s+\[\((\S+),\s+\(\)\) => ofList (ss := [.int .i64]) [(\1, ())
end Go.RX.Span

/- The order of a domain's indices, in plain Lean. -/
set_option linter.unusedVariables false
set_option linter.unusedSimpArgs false
namespace Go.RX.Span
open Go Go.RX

/-- What is known of a right range that has numbers. -/
theorem szN_pos {r : R3} (h : RR r) (hp : 0 < szN r.1 r.2.1 r.2.2.1) : ∃ a b c : Int, a = r.1 ∧ b = r.2.1 ∧ c = r.2.2.1 ∧ Right a b c ∧ a ≤ b ∧ 0 < c ∧ ((szN a b c : Nat) : Int) = ofC a b c := by
  obtain ⟨a, ha⟩ : ∃ a : Int, a = r.1 := ⟨_, rfl⟩
  obtain ⟨b, hb⟩ : ∃ b : Int, b = r.2.1 := ⟨_, rfl⟩
  obtain ⟨c, hc⟩ : ∃ c : Int, c = r.2.2.1 := ⟨_, rfl⟩
  have hR : Right a b c := by rw [ha, hb, hc]; exact h.1
  have hC : 0 < c := by rw [hc]; exact h.2
  rw [← ha, ← hb, ← hc] at hp
  have e := (rr_size h).1
  have e' : szR r = size a b c := by rw [ha, hb, hc]; rfl
  have e'' : ofC (rA r) (rB r) (rC r) = ofC a b c := by rw [ha, hb, hc]; rfl
  rw [e', e''] at e
  have hs : 0 < size a b c := by unfold szN at hp; omega
  refine ⟨a, b, c, ha, hb, hc, hR, ?_, hC, by unfold szN; omega⟩
  by_cases hab : a ≤ b
  · exact hab
  · have := (empty_of (c := c) hab).2.2
    omega
end Go.RX.Span

/- A domain's i-th index: Nth has it, Position finds it, in plain Lean. -/
set_option linter.unusedVariables false
set_option linter.unusedSimpArgs false
namespace Go.RX.Span
open Go Go.RX

theorem ixF0 (x y : Int) : ixF x y 0 = (x, ()) := rfl
theorem ixF1 (x y : Int) : ixF x y 1 = (y, ()) := rfl
/-- The k-th number of a right range that has so many. -/
theorem num_all {r : R3} (h : RR r) {k : Nat} (hk : k < szN r.1 r.2.1 r.2.2.1) : nth (rA r) (rB r) (rC r) k = num r.1 r.2.1 r.2.2.1 k ∧ hasR r (num r.1 r.2.1 r.2.2.1 k) = true ∧ posR r (num r.1 r.2.1 r.2.2.1 k) = k := by
  obtain ⟨a, b, c, ha, hb, hc, hr, hab, h0, hN⟩ := szN_pos h (Nat.lt_of_le_of_lt (Nat.zero_le _) hk)
  show nth r.1 r.2.1 r.2.2.1 k = _ ∧ has r.1 r.2.1 r.2.2.1 _ = true ∧ pos r.1 r.2.1 r.2.2.1 _ = k
  rw [← ha, ← hb, ← hc] at hk ⊢
  have hk' : (k : Int) < ofC a b c := by omega
  exact ⟨(num_nth hr hk').2, num_has hr hab hk', num_pos hr hab hk'⟩
theorem dn_zero {n : Nat} {f : Nat → R3} {k s h : Int} {i : Nat} (hc : chD n f k s h = 0) (hi : i < szDn n f k s h) : dnE n f k s h i = 0 ∧ dnN n f k s h i = n := by
  have e : dnE n f k s h i = 0 := by
    unfold dnE
    rw [if_neg (by simp [hc]), if_neg (by unfold szDn at hi; omega)]
  exact ⟨e, by unfold dnN; rw [if_neg (by simp [e])]⟩
theorem ix_all {n : Nat} {f : Nat → R3} {k s h : Int} {i : Nat} (hc : chD n f k s h = 0) (hi : i < szDn n f k s h) :
    (∀ j, j < n → dnF n f i j = ixF (idX n f i) (idY n f i) j) ∧ hasD n f k s h n (ixF (idX n f i) (idY n f i)) = true ∧ posD n f k s h n (ixF (idX n f i) (idY n f i)) = i := by
  obtain ⟨d1, _⟩ := chD_zero.1 hc
  have hn := d1.1
  rw [szDn_right hc] at hi
  rcases hn with rfl | rfl
  · rw [if_pos rfl, Nat.mul_one] at hi
    obtain ⟨e1, e2, e3⟩ := num_all (d1.2 0 (by omega)) hi
    have eX : idX 1 f i = num (f 0).1 (f 0).2.1 (f 0).2.2.1 i := by unfold idX; rw [if_pos rfl]
    obtain ⟨h1, h2⟩ := hasD_t (k := k) (s := s) (h := h) (n := 1) (f := f) (m := 1) (e := ixF (idX 1 f i) (idY 1 f i)) ⟨hc, rfl, by rw [ixF0, eX]; exact e2, fun h => by omega⟩
    refine ⟨fun j hj => ?_, h1, ?_⟩
    · obtain rfl : j = 0 := by omega
      rw [ixF0, eX]
      unfold dnF colD
      rw [if_pos rfl, if_pos rfl, Int.tdiv_one, e1]; rfl
    · rw [h2, if_pos rfl, ixF0, eX]; exact e3
  · rw [if_neg (by omega)] at hi
    have hq : 0 < szN (f 1).1 (f 1).2.1 (f 1).2.2.1 := Nat.pos_of_ne_zero fun h0 => by rw [h0, Nat.mul_zero] at hi; omega
    have hd : i / szN (f 1).1 (f 1).2.1 (f 1).2.2.1 < szN (f 0).1 (f 0).2.1 (f 0).2.2.1 := Nat.div_lt_of_lt_mul (by rw [Nat.mul_comm]; exact hi)
    have hm := Nat.mod_lt i hq
    obtain ⟨e1, e2, e3⟩ := num_all (d1.2 0 (by omega)) hd
    obtain ⟨g1, g2, g3⟩ := num_all (d1.2 1 (by omega)) hm
    have eX : idX 2 f i = num (f 0).1 (f 0).2.1 (f 0).2.2.1 (i / szN (f 1).1 (f 1).2.1 (f 1).2.2.1) := by unfold idX; rw [if_neg (by omega)]
    have eY : idY 2 f i = num (f 1).1 (f 1).2.1 (f 1).2.2.1 (i % szN (f 1).1 (f 1).2.1 (f 1).2.2.1) := by unfold idY; rw [if_neg (by omega)]
    have ec : colD 2 f = ((szN (f 1).1 (f 1).2.1 (f 1).2.2.1 : Nat) : Int) := by unfold colD; rw [if_neg (by omega)]; exact (szN_R (d1.2 1 (by omega))).symm
    obtain ⟨h1, h2⟩ := hasD_t (k := k) (s := s) (h := h) (n := 2) (f := f) (m := 2) (e := ixF (idX 2 f i) (idY 2 f i)) ⟨hc, rfl, by rw [ixF0, eX]; exact e2, fun _ => by rw [ixF1, eY]; exact g2⟩
    refine ⟨fun j hj => ?_, h1, ?_⟩
    · rcases (show j = 0 ∨ j = 1 by omega) with rfl | rfl
      · rw [ixF0, eX]
        unfold dnF
        rw [if_pos rfl, ec, ← Int.ofNat_tdiv, e1]; rfl
      · rw [ixF1, eY]
        unfold dnF
        rw [if_neg (by omega), ec, ← Int.ofNat_tmod, g1]; rfl
    · rw [h2, if_neg (by omega), ixF0, ixF1, eX, eY]
      show posR (f 0) _ * szR (f 1) + posR (f 1) _ = _
      rw [e3, g3, ← szN_R (d1.2 1 (by omega)), ← Int.natCast_mul, ← Int.natCast_add, Nat.mul_comm, Nat.div_add_mod]
end Go.RX.Span

/- Domain maps: plain specifications. -/
set_option linter.unusedVariables false
set_option linter.unusedSimpArgs false
namespace Go.RX.Span
open Go Go.RX

/-- A number of a list. -/
def nv (e : Nat → R1) (j : Nat) : Int := (e j).1
/-- The remainder from 0 on. -/
def emd (a b : Int) : Int := a % b
/-- The hash of the first so many numbers. -/
def hashN (e : Nat → R1) : Nat → Int
  | 0 => 7
  | j + 1 => (31 * hashN e j + nv e j % 1000003) % 1000003
theorem hashN_bnd (e : Nat → R1) (j : Nat) : 0 ≤ hashN e j ∧ hashN e j < 1000003 := by
  cases j with
  | zero => exact ⟨(by decide : (0 : Int) ≤ 7), (by decide : (7 : Int) < 1000003)⟩
  | succ j => exact ⟨Int.emod_nonneg (31 * hashN e j + nv e j % 1000003) (show (1000003 : Int) ≠ 0 by decide), Int.emod_lt_of_pos (31 * hashN e j + nv e j % 1000003) (show (0 : Int) < 1000003 by decide)⟩
section
variable (n : Nat) (f : Nat → R3) (k s h : Int) (L : Int)
/-- The error of a domain over a number of locales. -/
def dmE : Int := if L < 1 ∨ 8 < L then 4 else if chD n f k s h ≠ 0 then chD n f k s h else if k = 0 ∧ L ≤ h then 70 else 0
/-- The owner of an index whose first number has a position. -/
def owQ (q : Int) (e : Nat → R1) : Int :=
  if k = 0 then h else if k = 1 then (q * L).tdiv (szR (f 0)) else if k = 2 then q.tmod L else if k = 3 then (q.tdiv s).tmod L else (hashN e n).tmod L
def colN : Nat := if n = 1 then 1 else szN (f 1).1 (f 1).2.1 (f 1).2.2.1
/-- The owner of the p-th index. -/
noncomputable def owP (p : Nat) : Int := owQ n f k s h L ((p / colN n f : Nat) : Int) (ixF (idX n f p) (idY n f p))
/-- The local part of a locale. -/
noncomputable def partL (l : Int) : List Nat := (List.range (szDn n f k s h)).filter fun p => decide (owP n f k s h L p = l)
end
/-- Lists of positions as rows. -/
def rowN (l : List Nat) (i : Nat) : R1 := (((l.getD i 0 : Nat) : Int), ())
section
variable {n : Nat} {f : Nat → R3} {k s h : Int} {L : Int}
theorem dmE_zero : dmE n f k s h L = 0 ↔ 1 ≤ L ∧ L ≤ 8 ∧ chD n f k s h = 0 ∧ (k = 0 → h < L) := by
  unfold dmE
  by_cases h1 : L < 1 ∨ 8 < L
  · rw [if_pos h1]; constructor
    · intro h; omega
    · rintro ⟨a, b, _⟩; omega
  rw [if_neg h1]
  by_cases h2 : chD n f k s h = 0
  · rw [if_neg (by simp [h2])]
    by_cases h3 : k = 0 ∧ L ≤ h
    · rw [if_pos h3]; constructor
      · intro h; omega
      · rintro ⟨_, _, _, g⟩; have := g h3.1; omega
    · rw [if_neg h3]
      exact ⟨fun _ => ⟨by omega, by omega, h2, fun hk => Classical.byContradiction fun g => h3 ⟨hk, by omega⟩⟩, fun _ => rfl⟩
  · rw [if_pos h2]
    exact ⟨fun g => absurd g h2, fun g => absurd g.2.2.1 h2⟩
theorem owQ_bnd (hd : dmE n f k s h L = 0) {q : Int} (h0 : 0 ≤ q) (hq : q < szR (f 0)) (e : Nat → R1) : 0 ≤ owQ n f k s h L q e ∧ owQ n f k s h L q e < L := by
  obtain ⟨l1, l8, hc, hl⟩ := dmE_zero.1 hd
  obtain ⟨_, fit⟩ := chD_zero.1 hc
  have fit := of_decide_eq_true fit
  have modb : ∀ x : Int, 0 ≤ x → 0 ≤ x.tmod L ∧ x.tmod L < L := fun x hx => ⟨Int.tmod_nonneg _ hx, Int.tmod_lt_of_pos _ (by omega)⟩
  unfold owQ
  by_cases k0 : k = 0
  · rw [if_pos k0]; have := hl k0; omega
  rw [if_neg k0]
  by_cases k1 : k = 1
  · rw [if_pos k1]
    have hm : 0 ≤ q * L := Int.mul_nonneg h0 (by omega)
    refine ⟨Int.tdiv_nonneg hm (by omega), ?_⟩
    rw [Int.tdiv_eq_ediv_of_nonneg hm]
    refine Int.ediv_lt_of_lt_mul (by omega) ?_
    rw [Int.mul_comm L]
    exact Int.mul_lt_mul_of_pos_right hq (by omega)
  rw [if_neg k1]
  by_cases k2 : k = 2
  · rw [if_pos k2]; exact modb q h0
  rw [if_neg k2]
  by_cases k3 : k = 3
  · rw [if_pos k3]; exact modb _ (Int.tdiv_nonneg h0 (by omega))
  · rw [if_neg k3]; exact modb _ (hashN_bnd _ _).1
theorem mem_partL {l : Int} {p : Nat} : p ∈ partL n f k s h L l ↔ p < szDn n f k s h ∧ owP n f k s h L p = l := by
  unfold partL
  rw [List.mem_filter, List.mem_range, decide_eq_true_eq]
theorem partL_sorted (l : Int) : (partL n f k s h L l).Pairwise (· < ·) := List.Pairwise.filter _ List.pairwise_lt_range
theorem partL_len (l : Int) : (partL n f k s h L l).length ≤ szDn n f k s h := by
  unfold partL
  exact Nat.le_trans (List.length_filter_le _ _) (by simp)
/-- The position of an index among the rows. -/
theorem row_lt (hc : chD n f k s h = 0) {p : Nat} (hp : p < szDn n f k s h) : ((p / colN n f : Nat) : Int) < szR (f 0) ∧ posR (f 0) (idX n f p) = ((p / colN n f : Nat) : Int) := by
  obtain ⟨d1, _⟩ := chD_zero.1 hc
  rw [szDn_right hc] at hp
  have e0 := szN_R (d1.2 0 (by have := d1.1; omega))
  have hlt : p / colN n f < szN (f 0).1 (f 0).2.1 (f 0).2.2.1 := by
    unfold colN
    refine Nat.div_lt_of_lt_mul ?_
    rw [Nat.mul_comm]; exact hp
  refine ⟨by omega, ?_⟩
  obtain ⟨_, _, h3⟩ := num_all (d1.2 0 (by have := d1.1; omega)) hlt
  have : idX n f p = num (f 0).1 (f 0).2.1 (f 0).2.2.1 (p / colN n f) := by
    unfold idX colN
    by_cases h1 : n = 1
    · rw [if_pos h1, if_pos h1, Nat.div_one]
    · rw [if_neg h1, if_neg h1]
  rw [this]; exact h3
theorem owP_bnd (hd : dmE n f k s h L = 0) {p : Nat} (hp : p < szDn n f k s h) : 0 ≤ owP n f k s h L p ∧ owP n f k s h L p < L :=
  owQ_bnd hd (Int.natCast_nonneg _) (row_lt (dmE_zero.1 hd).2.2.1 hp).1 _
end
end Go.RX.Span

/- The hash of an index: what its loops leave. -/
set_option linter.unusedVariables false
set_option linter.unusedSimpArgs false
set_option maxRecDepth 100000
namespace Go.RX.Span
open Go Go.RX
attribute [local irreducible] sx conB

noncomputable def c_dmod : Con := fun args => match args with
  | [.lit (.int .i64 a), .lit (.int .i64 b)] => .ask (0 < b ∧ b ≤ 4000000 ∧ I64 a) (.ret (.lit (.int .i64 (lk emd a b))))
  | _ => .stuck 1
noncomputable abbrev kHm : List (Nat × Con) := [(138, c_dmod)]
noncomputable abbrev EHm : Env := ⟨P, conOf kHm, scall P (conOf kHm) noLoops 10⟩
def I64s (n : Nat) (e : Nat → R1) : Prop := ∀ i, i < n → I64 (e i).1
def PreH (n0 n : Nat) (e : Nat → R1) : Prop := n0 = 0 ∧ n ≤ 1000000 ∧ I64s n e
/-- The program's loop. -/
noncomputable def gHp : Nat → Few → T (Ex × Few)
  | n0, ([.ki .i64 7, .row [.int .i64] n e, .lit (.int .i64 N'), .ki .i64 0], []) => .ask (lk PreH n0 n e ∧ N' = (n : Int)) (.ret (.exit 0, ([.lit (.int .i64 (lk hashN e n)), .row [.int .i64] n e, .lit (.int .i64 (n : Int)), .lit (.int .i64 (n : Int))], [])))
  | _, _ => .stuck 1
/-- The reference's loop. -/
noncomputable def gHr : Nat → Few → T (Ex × Few)
  | n0, ([.row [.int .i64] n e, .ki .i64 7, .ki .i64 0], []) => .ask (lk PreH n0 n e) (.ret (.exit 0, ([.row [.int .i64] n e, .lit (.int .i64 (lk hashN e n)), .lit (.int .i64 (n : Int))], [])))
  | _, _ => .stuck 1
noncomputable def c_Hash : Con := fun args => match args with
  | [.row [.int .i64] n e] => .ask (n ≤ 1000000 ∧ I64s n e) (.ret (.lit (.int .i64 (lk hashN e n))))
  | _ => .stuck 1
noncomputable abbrev lHp : List (Nat × Loops) := [(53, [(3, .sum (few 20 [3,6,7,8] gHp))])] --%K
noncomputable abbrev lHr : List (Nat × Loops) := [(54, [(3, .sum (few 27 [0,3,4] gHr))])] --%K
end Go.RX.Span

/- The hash of an index: the walks. -/
set_option linter.unusedVariables false
set_option linter.unusedSimpArgs false
set_option maxRecDepth 100000
namespace Go.RX.Span
open Go Go.RX
attribute [local irreducible] sx conB

set_option maxRecDepth 100000 in
theorem t_dmod (a b : Int) : conB Go.Proofs.Try.prog (conOf []) noLoops 10 138 [.lit (.int .i64 a), .lit (.int .i64 b)] =
    T.ask (b ≠ (0 : Int)) (.br (U.lt (U.rem a b) (0 : Int)) (.ret (.lit (.int .i64 (U.add .i64 (U.rem a b) b)))) (.ret (.lit (.int .i64 (U.rem a b))))) := by kernel_rfl
set_option maxRecDepth 100000 in
theorem t_Hp (n0 : Nat) (n : Nat) (e : Nat → R1) (h i : Int) : (sx EHm [] n0 (loopOf P 53 3) (mkS 20 [3,6,7,8] [.lit (.int .i64 h), .row [.int .i64] n e, .lit (.int .i64 (n : Int)), .lit (.int .i64 i)], [])).bind (proj 20 [3,6,7,8]) =
    T.br (U.lt i (Int.ofNat n)) (.ask ((0 : Int) ≤ i ∧ i < ↑n) (.ask ((0 : Int) < (1000003 : Int) ∧ (1000003 : Int) ≤ (4000000 : Int) ∧ I64 (e (U.toNat i)).1) (.ask ((1000003 : Int) ≠
      (0 : Int)) (.ret (Ex.normal, [.lit (.int .i64 (U.rem (U.add .i64 (U.mul .i64 31 h) (lk emd (e (U.toNat i)).1 (1000003 : Int))) (1000003 : Int))), .row [.int .i64] n e, .lit (.int
      .i64 (Int.ofNat n)), .lit (.int .i64 (U.add .i64 i (1 : Int)))], []))))) (.ret (Ex.exit (nat_lit 0), [.lit (.int .i64 h), .row [.int .i64] n e, .lit (.int .i64 (Int.ofNat n)), .lit
      (.int .i64 i)], [])) := by kernel_rfl
set_option maxRecDepth 100000 in
theorem t_Hr (n0 : Nat) (n : Nat) (e : Nat → R1) (h i : Int) : (sx E0 [] n0 (loopOf P 54 3) (mkS 27 [0,3,4] [.row [.int .i64] n e, .lit (.int .i64 h), .lit (.int .i64 i)], [])).bind (proj 27 [0,3,4]) =
    T.br (U.lt i (Int.ofNat n)) (.ask ((0 : Int) ≤ i ∧ i < ↑n) (.ask ((1000003 : Int) ≠ (0 : Int)) (.br (U.lt (U.rem (e (U.toNat i)).1 (1000003 : Int)) (0 : Int)) (.ask ((1000003 : Int)
      ≠ (0 : Int)) (.ret (Ex.normal, [.row [.int .i64] n e, .lit (.int .i64 (U.rem (U.add .i64 (U.mul .i64 31 h) (U.add .i64 (U.rem (e (U.toNat i)).1 (1000003 : Int)) (1000003 : Int)))
      (1000003 : Int))), .lit (.int .i64 (U.add .i64 i (1 : Int)))], []))) (.ask ((1000003 : Int) ≠ (0 : Int)) (.ret (Ex.normal, [.row [.int .i64] n e, .lit (.int .i64 (U.rem (U.add .i64
      (U.mul .i64 31 h) (U.rem (e (U.toNat i)).1 (1000003 : Int))) (1000003 : Int))), .lit (.int .i64 (U.add .i64 i (1 : Int)))], [])))))) (.ret (Ex.exit (nat_lit 0), [.row [.int .i64] n
      e, .lit (.int .i64 h), .lit (.int .i64 i)], [])) := by kernel_rfl
end Go.RX.Span

