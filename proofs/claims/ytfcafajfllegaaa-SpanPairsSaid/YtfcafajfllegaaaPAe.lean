/- The reference's Hull and Within: the walks. -/
import Derived.Test.YtfcafajfllegaaaPAd
import Derived.Test.YtfcafajfllegaaaPAb
set_option linter.unusedVariables false
set_option linter.unusedSimpArgs false
set_option maxRecDepth 100000
namespace Go.RX.Span
open Go Go.RX
attribute [local irreducible] sx conB

set_option maxRecDepth 100000 in
theorem t_rHull (a b c x y z : Int) : conB Go.Proofs.Try.prog (conOf kr) noLoops 10 54 [.agg [.lit (.int .i64 a), .lit (.int .i64 b), .lit (.int .i64 c)], .agg [.lit (.int .i64 x), .lit (.int .i64 y), .lit (.int .i64 z)]] =
    T.ask (I64 a ∧ I64 b ∧ I64 c) (T.br (U.ne (lk chk a b c) (0 : Int)) (T.ret (SV.tup [SV.agg [SV.lit (Value.int IntKind.i64 (0 : Int)), SV.lit (Value.int IntKind.i64 (0 : Int)),
      SV.lit (Value.int IntKind.i64 (0 : Int))], SV.lit (Value.int IntKind.i64 (lk chk a b c))])) (T.ask (I64 x ∧ I64 y ∧ I64 z) (T.br (U.ne (lk chk x y z) (0 : Int)) (T.ret (SV.tup
      [SV.agg [SV.lit (Value.int IntKind.i64 (0 : Int)), SV.lit (Value.int IntKind.i64 (0 : Int)), SV.lit (Value.int IntKind.i64 (0 : Int))], SV.lit (Value.int IntKind.i64 (lk chk x y
      z))])) (T.br (lk isE a b c) (T.br (lk isE x y z) (T.br (lk isE x y z) (T.ret (SV.tup [SV.agg [SV.lit (Value.int IntKind.i64 (1 : Int)), SV.lit (Value.int IntKind.i64 (0 : Int)),
      SV.lit (Value.int IntKind.i64 (1 : Int))], SV.lit (Value.int IntKind.i64 (0 : Int))])) (T.br (U.lt (U.sub IntKind.i64 x x) (0 : Int)) (T.br (U.lt x y) (T.ask (I64 (-z)) (T.ask ((0 :
      Int) ≤ U.sub IntKind.i64 (0 : Int) (U.sub IntKind.i64 x x) ∧ (0 : Int) ≤ lk absI z) (T.br (U.lt x y) (T.ask (I64 (-z)) (T.ask ((0 : Int) ≤ lk gcdI (U.sub IntKind.i64 (0 : Int)
      (U.sub IntKind.i64 x x)) (lk absI z) ∧ (0 : Int) ≤ lk absI z) (T.ask (U.mm false x x < U.mm true y y → false = true → I64 (-lk gcdI (lk gcdI (U.sub IntKind.i64 (0 : Int) (U.sub
      IntKind.i64 x x)) (lk absI z)) (lk absI z))) (T.ret (SV.tup [SV.agg [SV.lit (Value.int IntKind.i64 (lk rnL (U.mm false x x) (U.mm true y y) (lk gcdI (lk gcdI (U.sub IntKind.i64 (0 :
      Int) (U.sub IntKind.i64 x x)) (lk absI z)) (lk absI z)) false)), SV.lit (Value.int IntKind.i64 (lk rnH (U.mm false x x) (U.mm true y y) (lk gcdI (lk gcdI (U.sub IntKind.i64 (0 :
      Int) (U.sub IntKind.i64 x x)) (lk absI z)) (lk absI z)) false)), SV.lit (Value.int IntKind.i64 (lk rnS (U.mm false x x) (U.mm true y y) (lk gcdI (lk gcdI (U.sub IntKind.i64 (0 :
      Int) (U.sub IntKind.i64 x x)) (lk absI z)) (lk absI z)) false))], SV.lit (Value.int IntKind.i64 (0 : Int))]))))) (T.ask (U.mm false x x < U.mm true y y → false = true → I64 (-lk
      gcdI (U.sub IntKind.i64 (0 : Int) (U.sub IntKind.i64 x x)) (lk absI z))) (T.ret (SV.tup [SV.agg [SV.lit (Value.int IntKind.i64 (lk rnL (U.mm false x x) (U.mm true y y) (lk gcdI
      (U.sub IntKind.i64 (0 : Int) (U.sub IntKind.i64 x x)) (lk absI z)) false)), SV.lit (Value.int IntKind.i64 (lk rnH (U.mm false x x) (U.mm true y y) (lk gcdI (U.sub IntKind.i64 (0 :
      Int) (U.sub IntKind.i64 x x)) (lk absI z)) false)), SV.lit (Value.int IntKind.i64 (lk rnS (U.mm false x x) (U.mm true y y) (lk gcdI (U.sub IntKind.i64 (0 : Int) (U.sub IntKind.i64 x
      x)) (lk absI z)) false))], SV.lit (Value.int IntKind.i64 (0 : Int))])))))) (T.br (U.lt x y) (T.ask (I64 (-z)) (T.ask ((0 : Int) ≤ U.sub IntKind.i64 (0 : Int) (U.sub IntKind.i64 x x)
      ∧ (0 : Int) ≤ lk absI z) (T.ask (U.mm false x x < U.mm true y y → false = true → I64 (-lk gcdI (U.sub IntKind.i64 (0 : Int) (U.sub IntKind.i64 x x)) (lk absI z))) (T.ret (SV.tup
      [SV.agg [SV.lit (Value.int IntKind.i64 (lk rnL (U.mm false x x) (U.mm true y y) (lk gcdI (U.sub IntKind.i64 (0 : Int) (U.sub IntKind.i64 x x)) (lk absI z)) false)), SV.lit
      (Value.int IntKind.i64 (lk rnH (U.mm false x x) (U.mm true y y) (lk gcdI (U.sub IntKind.i64 (0 : Int) (U.sub IntKind.i64 x x)) (lk absI z)) false)), SV.lit (Value.int IntKind.i64
      (lk rnS (U.mm false x x) (U.mm true y y) (lk gcdI (U.sub IntKind.i64 (0 : Int) (U.sub IntKind.i64 x x)) (lk absI z)) false))], SV.lit (Value.int IntKind.i64 (0 : Int))]))))) (T.ask
      (U.mm false x x < U.mm true y y → false = true → I64 (-U.sub IntKind.i64 (0 : Int) (U.sub IntKind.i64 x x))) (T.ret (SV.tup [SV.agg [SV.lit (Value.int IntKind.i64 (lk rnL (U.mm
      false x x) (U.mm true y y) (U.sub IntKind.i64 (0 : Int) (U.sub IntKind.i64 x x)) false)), SV.lit (Value.int IntKind.i64 (lk rnH (U.mm false x x) (U.mm true y y) (U.sub IntKind.i64
      (0 : Int) (U.sub IntKind.i64 x x)) false)), SV.lit (Value.int IntKind.i64 (lk rnS (U.mm false x x) (U.mm true y y) (U.sub IntKind.i64 (0 : Int) (U.sub IntKind.i64 x x)) false))],
      SV.lit (Value.int IntKind.i64 (0 : Int))]))))) (T.br (U.lt x y) (T.ask (I64 (-z)) (T.ask ((0 : Int) ≤ U.sub IntKind.i64 x x ∧ (0 : Int) ≤ lk absI z) (T.br (U.lt x y) (T.ask (I64
      (-z)) (T.ask ((0 : Int) ≤ lk gcdI (U.sub IntKind.i64 x x) (lk absI z) ∧ (0 : Int) ≤ lk absI z) (T.ask (U.mm false x x < U.mm true y y → false = true → I64 (-lk gcdI (lk gcdI (U.sub
      IntKind.i64 x x) (lk absI z)) (lk absI z))) (T.ret (SV.tup [SV.agg [SV.lit (Value.int IntKind.i64 (lk rnL (U.mm false x x) (U.mm true y y) (lk gcdI (lk gcdI (U.sub IntKind.i64 x x)
      (lk absI z)) (lk absI z)) false)), SV.lit (Value.int IntKind.i64 (lk rnH (U.mm false x x) (U.mm true y y) (lk gcdI (lk gcdI (U.sub IntKind.i64 x x) (lk absI z)) (lk absI z))
      false)), SV.lit (Value.int IntKind.i64 (lk rnS (U.mm false x x) (U.mm true y y) (lk gcdI (lk gcdI (U.sub IntKind.i64 x x) (lk absI z)) (lk absI z)) false))], SV.lit (Value.int
      IntKind.i64 (0 : Int))]))))) (T.ask (U.mm false x x < U.mm true y y → false = true → I64 (-lk gcdI (U.sub IntKind.i64 x x) (lk absI z))) (T.ret (SV.tup [SV.agg [SV.lit (Value.int
      IntKind.i64 (lk rnL (U.mm false x x) (U.mm true y y) (lk gcdI (U.sub IntKind.i64 x x) (lk absI z)) false)), SV.lit (Value.int IntKind.i64 (lk rnH (U.mm false x x) (U.mm true y y)
      (lk gcdI (U.sub IntKind.i64 x x) (lk absI z)) false)), SV.lit (Value.int IntKind.i64 (lk rnS (U.mm false x x) (U.mm true y y) (lk gcdI (U.sub IntKind.i64 x x) (lk absI z)) false))],
      SV.lit (Value.int IntKind.i64 (0 : Int))])))))) (T.br (U.lt x y) (T.ask (I64 (-z)) (T.ask ((0 : Int) ≤ U.sub IntKind.i64 x x ∧ (0 : Int) ≤ lk absI z) (T.ask (U.mm false x x < U.mm
      true y y → false = true → I64 (-lk gcdI (U.sub IntKind.i64 x x) (lk absI z))) (T.ret (SV.tup [SV.agg [SV.lit (Value.int IntKind.i64 (lk rnL (U.mm false x x) (U.mm true y y) (lk gcdI
      (U.sub IntKind.i64 x x) (lk absI z)) false)), SV.lit (Value.int IntKind.i64 (lk rnH (U.mm false x x) (U.mm true y y) (lk gcdI (U.sub IntKind.i64 x x) (lk absI z)) false)), SV.lit
      (Value.int IntKind.i64 (lk rnS (U.mm false x x) (U.mm true y y) (lk gcdI (U.sub IntKind.i64 x x) (lk absI z)) false))], SV.lit (Value.int IntKind.i64 (0 : Int))]))))) (T.ask (U.mm
      false x x < U.mm true y y → false = true → I64 (-U.sub IntKind.i64 x x)) (T.ret (SV.tup [SV.agg [SV.lit (Value.int IntKind.i64 (lk rnL (U.mm false x x) (U.mm true y y) (U.sub
      IntKind.i64 x x) false)), SV.lit (Value.int IntKind.i64 (lk rnH (U.mm false x x) (U.mm true y y) (U.sub IntKind.i64 x x) false)), SV.lit (Value.int IntKind.i64 (lk rnS (U.mm false x
      x) (U.mm true y y) (U.sub IntKind.i64 x x) false))], SV.lit (Value.int IntKind.i64 (0 : Int))]))))))) (T.br (lk isE x y z) (T.ret (SV.tup [SV.agg [SV.lit (Value.int IntKind.i64 (1 :
      Int)), SV.lit (Value.int IntKind.i64 (0 : Int)), SV.lit (Value.int IntKind.i64 (1 : Int))], SV.lit (Value.int IntKind.i64 (0 : Int))])) (T.br (U.lt (U.sub IntKind.i64 x x) (0 :
      Int)) (T.br (U.lt x y) (T.ask (I64 (-z)) (T.ask ((0 : Int) ≤ U.sub IntKind.i64 (0 : Int) (U.sub IntKind.i64 x x) ∧ (0 : Int) ≤ lk absI z) (T.br (U.lt x y) (T.ask (I64 (-z)) (T.ask
      ((0 : Int) ≤ lk gcdI (U.sub IntKind.i64 (0 : Int) (U.sub IntKind.i64 x x)) (lk absI z) ∧ (0 : Int) ≤ lk absI z) (T.ask (U.mm false x x < U.mm true y y → false = true → I64 (-lk gcdI
      (lk gcdI (U.sub IntKind.i64 (0 : Int) (U.sub IntKind.i64 x x)) (lk absI z)) (lk absI z))) (T.ret (SV.tup [SV.agg [SV.lit (Value.int IntKind.i64 (lk rnL (U.mm false x x) (U.mm true y
      y) (lk gcdI (lk gcdI (U.sub IntKind.i64 (0 : Int) (U.sub IntKind.i64 x x)) (lk absI z)) (lk absI z)) false)), SV.lit (Value.int IntKind.i64 (lk rnH (U.mm false x x) (U.mm true y y)
      (lk gcdI (lk gcdI (U.sub IntKind.i64 (0 : Int) (U.sub IntKind.i64 x x)) (lk absI z)) (lk absI z)) false)), SV.lit (Value.int IntKind.i64 (lk rnS (U.mm false x x) (U.mm true y y) (lk
      gcdI (lk gcdI (U.sub IntKind.i64 (0 : Int) (U.sub IntKind.i64 x x)) (lk absI z)) (lk absI z)) false))], SV.lit (Value.int IntKind.i64 (0 : Int))]))))) (T.ask (U.mm false x x < U.mm
      true y y → false = true → I64 (-lk gcdI (U.sub IntKind.i64 (0 : Int) (U.sub IntKind.i64 x x)) (lk absI z))) (T.ret (SV.tup [SV.agg [SV.lit (Value.int IntKind.i64 (lk rnL (U.mm false
      x x) (U.mm true y y) (lk gcdI (U.sub IntKind.i64 (0 : Int) (U.sub IntKind.i64 x x)) (lk absI z)) false)), SV.lit (Value.int IntKind.i64 (lk rnH (U.mm false x x) (U.mm true y y) (lk
      gcdI (U.sub IntKind.i64 (0 : Int) (U.sub IntKind.i64 x x)) (lk absI z)) false)), SV.lit (Value.int IntKind.i64 (lk rnS (U.mm false x x) (U.mm true y y) (lk gcdI (U.sub IntKind.i64
      (0 : Int) (U.sub IntKind.i64 x x)) (lk absI z)) false))], SV.lit (Value.int IntKind.i64 (0 : Int))])))))) (T.br (U.lt x y) (T.ask (I64 (-z)) (T.ask ((0 : Int) ≤ U.sub IntKind.i64 (0
      : Int) (U.sub IntKind.i64 x x) ∧ (0 : Int) ≤ lk absI z) (T.ask (U.mm false x x < U.mm true y y → false = true → I64 (-lk gcdI (U.sub IntKind.i64 (0 : Int) (U.sub IntKind.i64 x x))
      (lk absI z))) (T.ret (SV.tup [SV.agg [SV.lit (Value.int IntKind.i64 (lk rnL (U.mm false x x) (U.mm true y y) (lk gcdI (U.sub IntKind.i64 (0 : Int) (U.sub IntKind.i64 x x)) (lk absI
      z)) false)), SV.lit (Value.int IntKind.i64 (lk rnH (U.mm false x x) (U.mm true y y) (lk gcdI (U.sub IntKind.i64 (0 : Int) (U.sub IntKind.i64 x x)) (lk absI z)) false)), SV.lit
      (Value.int IntKind.i64 (lk rnS (U.mm false x x) (U.mm true y y) (lk gcdI (U.sub IntKind.i64 (0 : Int) (U.sub IntKind.i64 x x)) (lk absI z)) false))], SV.lit (Value.int IntKind.i64
      (0 : Int))]))))) (T.ask (U.mm false x x < U.mm true y y → false = true → I64 (-U.sub IntKind.i64 (0 : Int) (U.sub IntKind.i64 x x))) (T.ret (SV.tup [SV.agg [SV.lit (Value.int
      IntKind.i64 (lk rnL (U.mm false x x) (U.mm true y y) (U.sub IntKind.i64 (0 : Int) (U.sub IntKind.i64 x x)) false)), SV.lit (Value.int IntKind.i64 (lk rnH (U.mm false x x) (U.mm true
      y y) (U.sub IntKind.i64 (0 : Int) (U.sub IntKind.i64 x x)) false)), SV.lit (Value.int IntKind.i64 (lk rnS (U.mm false x x) (U.mm true y y) (U.sub IntKind.i64 (0 : Int) (U.sub
      IntKind.i64 x x)) false))], SV.lit (Value.int IntKind.i64 (0 : Int))]))))) (T.br (U.lt x y) (T.ask (I64 (-z)) (T.ask ((0 : Int) ≤ U.sub IntKind.i64 x x ∧ (0 : Int) ≤ lk absI z)
      (T.br (U.lt x y) (T.ask (I64 (-z)) (T.ask ((0 : Int) ≤ lk gcdI (U.sub IntKind.i64 x x) (lk absI z) ∧ (0 : Int) ≤ lk absI z) (T.ask (U.mm false x x < U.mm true y y → false = true →
      I64 (-lk gcdI (lk gcdI (U.sub IntKind.i64 x x) (lk absI z)) (lk absI z))) (T.ret (SV.tup [SV.agg [SV.lit (Value.int IntKind.i64 (lk rnL (U.mm false x x) (U.mm true y y) (lk gcdI (lk
      gcdI (U.sub IntKind.i64 x x) (lk absI z)) (lk absI z)) false)), SV.lit (Value.int IntKind.i64 (lk rnH (U.mm false x x) (U.mm true y y) (lk gcdI (lk gcdI (U.sub IntKind.i64 x x) (lk
      absI z)) (lk absI z)) false)), SV.lit (Value.int IntKind.i64 (lk rnS (U.mm false x x) (U.mm true y y) (lk gcdI (lk gcdI (U.sub IntKind.i64 x x) (lk absI z)) (lk absI z)) false))],
      SV.lit (Value.int IntKind.i64 (0 : Int))]))))) (T.ask (U.mm false x x < U.mm true y y → false = true → I64 (-lk gcdI (U.sub IntKind.i64 x x) (lk absI z))) (T.ret (SV.tup [SV.agg
      [SV.lit (Value.int IntKind.i64 (lk rnL (U.mm false x x) (U.mm true y y) (lk gcdI (U.sub IntKind.i64 x x) (lk absI z)) false)), SV.lit (Value.int IntKind.i64 (lk rnH (U.mm false x x)
      (U.mm true y y) (lk gcdI (U.sub IntKind.i64 x x) (lk absI z)) false)), SV.lit (Value.int IntKind.i64 (lk rnS (U.mm false x x) (U.mm true y y) (lk gcdI (U.sub IntKind.i64 x x) (lk
      absI z)) false))], SV.lit (Value.int IntKind.i64 (0 : Int))])))))) (T.br (U.lt x y) (T.ask (I64 (-z)) (T.ask ((0 : Int) ≤ U.sub IntKind.i64 x x ∧ (0 : Int) ≤ lk absI z) (T.ask (U.mm
      false x x < U.mm true y y → false = true → I64 (-lk gcdI (U.sub IntKind.i64 x x) (lk absI z))) (T.ret (SV.tup [SV.agg [SV.lit (Value.int IntKind.i64 (lk rnL (U.mm false x x) (U.mm
      true y y) (lk gcdI (U.sub IntKind.i64 x x) (lk absI z)) false)), SV.lit (Value.int IntKind.i64 (lk rnH (U.mm false x x) (U.mm true y y) (lk gcdI (U.sub IntKind.i64 x x) (lk absI z))
      false)), SV.lit (Value.int IntKind.i64 (lk rnS (U.mm false x x) (U.mm true y y) (lk gcdI (U.sub IntKind.i64 x x) (lk absI z)) false))], SV.lit (Value.int IntKind.i64 (0 :
      Int))]))))) (T.ask (U.mm false x x < U.mm true y y → false = true → I64 (-U.sub IntKind.i64 x x)) (T.ret (SV.tup [SV.agg [SV.lit (Value.int IntKind.i64 (lk rnL (U.mm false x x)
      (U.mm true y y) (U.sub IntKind.i64 x x) false)), SV.lit (Value.int IntKind.i64 (lk rnH (U.mm false x x) (U.mm true y y) (U.sub IntKind.i64 x x) false)), SV.lit (Value.int
      IntKind.i64 (lk rnS (U.mm false x x) (U.mm true y y) (U.sub IntKind.i64 x x) false))], SV.lit (Value.int IntKind.i64 (0 : Int))])))))))) (T.br (lk isE x y z) (T.br (lk isE a b c)
      (T.ret (SV.tup [SV.agg [SV.lit (Value.int IntKind.i64 (1 : Int)), SV.lit (Value.int IntKind.i64 (0 : Int)), SV.lit (Value.int IntKind.i64 (1 : Int))], SV.lit (Value.int IntKind.i64
      (0 : Int))])) (T.br (U.lt (U.sub IntKind.i64 a a) (0 : Int)) (T.br (U.lt a b) (T.ask (I64 (-c)) (T.ask ((0 : Int) ≤ U.sub IntKind.i64 (0 : Int) (U.sub IntKind.i64 a a) ∧ (0 : Int) ≤
      lk absI c) (T.br (U.lt a b) (T.ask (I64 (-c)) (T.ask ((0 : Int) ≤ lk gcdI (U.sub IntKind.i64 (0 : Int) (U.sub IntKind.i64 a a)) (lk absI c) ∧ (0 : Int) ≤ lk absI c) (T.ask (U.mm
      false a a < U.mm true b b → false = true → I64 (-lk gcdI (lk gcdI (U.sub IntKind.i64 (0 : Int) (U.sub IntKind.i64 a a)) (lk absI c)) (lk absI c))) (T.ret (SV.tup [SV.agg [SV.lit
      (Value.int IntKind.i64 (lk rnL (U.mm false a a) (U.mm true b b) (lk gcdI (lk gcdI (U.sub IntKind.i64 (0 : Int) (U.sub IntKind.i64 a a)) (lk absI c)) (lk absI c)) false)), SV.lit
      (Value.int IntKind.i64 (lk rnH (U.mm false a a) (U.mm true b b) (lk gcdI (lk gcdI (U.sub IntKind.i64 (0 : Int) (U.sub IntKind.i64 a a)) (lk absI c)) (lk absI c)) false)), SV.lit
      (Value.int IntKind.i64 (lk rnS (U.mm false a a) (U.mm true b b) (lk gcdI (lk gcdI (U.sub IntKind.i64 (0 : Int) (U.sub IntKind.i64 a a)) (lk absI c)) (lk absI c)) false))], SV.lit
      (Value.int IntKind.i64 (0 : Int))]))))) (T.ask (U.mm false a a < U.mm true b b → false = true → I64 (-lk gcdI (U.sub IntKind.i64 (0 : Int) (U.sub IntKind.i64 a a)) (lk absI c)))
      (T.ret (SV.tup [SV.agg [SV.lit (Value.int IntKind.i64 (lk rnL (U.mm false a a) (U.mm true b b) (lk gcdI (U.sub IntKind.i64 (0 : Int) (U.sub IntKind.i64 a a)) (lk absI c)) false)),
      SV.lit (Value.int IntKind.i64 (lk rnH (U.mm false a a) (U.mm true b b) (lk gcdI (U.sub IntKind.i64 (0 : Int) (U.sub IntKind.i64 a a)) (lk absI c)) false)), SV.lit (Value.int
      IntKind.i64 (lk rnS (U.mm false a a) (U.mm true b b) (lk gcdI (U.sub IntKind.i64 (0 : Int) (U.sub IntKind.i64 a a)) (lk absI c)) false))], SV.lit (Value.int IntKind.i64 (0 :
      Int))])))))) (T.br (U.lt a b) (T.ask (I64 (-c)) (T.ask ((0 : Int) ≤ U.sub IntKind.i64 (0 : Int) (U.sub IntKind.i64 a a) ∧ (0 : Int) ≤ lk absI c) (T.ask (U.mm false a a < U.mm true b
      b → false = true → I64 (-lk gcdI (U.sub IntKind.i64 (0 : Int) (U.sub IntKind.i64 a a)) (lk absI c))) (T.ret (SV.tup [SV.agg [SV.lit (Value.int IntKind.i64 (lk rnL (U.mm false a a)
      (U.mm true b b) (lk gcdI (U.sub IntKind.i64 (0 : Int) (U.sub IntKind.i64 a a)) (lk absI c)) false)), SV.lit (Value.int IntKind.i64 (lk rnH (U.mm false a a) (U.mm true b b) (lk gcdI
      (U.sub IntKind.i64 (0 : Int) (U.sub IntKind.i64 a a)) (lk absI c)) false)), SV.lit (Value.int IntKind.i64 (lk rnS (U.mm false a a) (U.mm true b b) (lk gcdI (U.sub IntKind.i64 (0 :
      Int) (U.sub IntKind.i64 a a)) (lk absI c)) false))], SV.lit (Value.int IntKind.i64 (0 : Int))]))))) (T.ask (U.mm false a a < U.mm true b b → false = true → I64 (-U.sub IntKind.i64
      (0 : Int) (U.sub IntKind.i64 a a))) (T.ret (SV.tup [SV.agg [SV.lit (Value.int IntKind.i64 (lk rnL (U.mm false a a) (U.mm true b b) (U.sub IntKind.i64 (0 : Int) (U.sub IntKind.i64 a
      a)) false)), SV.lit (Value.int IntKind.i64 (lk rnH (U.mm false a a) (U.mm true b b) (U.sub IntKind.i64 (0 : Int) (U.sub IntKind.i64 a a)) false)), SV.lit (Value.int IntKind.i64 (lk
      rnS (U.mm false a a) (U.mm true b b) (U.sub IntKind.i64 (0 : Int) (U.sub IntKind.i64 a a)) false))], SV.lit (Value.int IntKind.i64 (0 : Int))]))))) (T.br (U.lt a b) (T.ask (I64
      (-c)) (T.ask ((0 : Int) ≤ U.sub IntKind.i64 a a ∧ (0 : Int) ≤ lk absI c) (T.br (U.lt a b) (T.ask (I64 (-c)) (T.ask ((0 : Int) ≤ lk gcdI (U.sub IntKind.i64 a a) (lk absI c) ∧ (0 :
      Int) ≤ lk absI c) (T.ask (U.mm false a a < U.mm true b b → false = true → I64 (-lk gcdI (lk gcdI (U.sub IntKind.i64 a a) (lk absI c)) (lk absI c))) (T.ret (SV.tup [SV.agg [SV.lit
      (Value.int IntKind.i64 (lk rnL (U.mm false a a) (U.mm true b b) (lk gcdI (lk gcdI (U.sub IntKind.i64 a a) (lk absI c)) (lk absI c)) false)), SV.lit (Value.int IntKind.i64 (lk rnH
      (U.mm false a a) (U.mm true b b) (lk gcdI (lk gcdI (U.sub IntKind.i64 a a) (lk absI c)) (lk absI c)) false)), SV.lit (Value.int IntKind.i64 (lk rnS (U.mm false a a) (U.mm true b b)
      (lk gcdI (lk gcdI (U.sub IntKind.i64 a a) (lk absI c)) (lk absI c)) false))], SV.lit (Value.int IntKind.i64 (0 : Int))]))))) (T.ask (U.mm false a a < U.mm true b b → false = true →
      I64 (-lk gcdI (U.sub IntKind.i64 a a) (lk absI c))) (T.ret (SV.tup [SV.agg [SV.lit (Value.int IntKind.i64 (lk rnL (U.mm false a a) (U.mm true b b) (lk gcdI (U.sub IntKind.i64 a a)
      (lk absI c)) false)), SV.lit (Value.int IntKind.i64 (lk rnH (U.mm false a a) (U.mm true b b) (lk gcdI (U.sub IntKind.i64 a a) (lk absI c)) false)), SV.lit (Value.int IntKind.i64 (lk
      rnS (U.mm false a a) (U.mm true b b) (lk gcdI (U.sub IntKind.i64 a a) (lk absI c)) false))], SV.lit (Value.int IntKind.i64 (0 : Int))])))))) (T.br (U.lt a b) (T.ask (I64 (-c))
      (T.ask ((0 : Int) ≤ U.sub IntKind.i64 a a ∧ (0 : Int) ≤ lk absI c) (T.ask (U.mm false a a < U.mm true b b → false = true → I64 (-lk gcdI (U.sub IntKind.i64 a a) (lk absI c))) (T.ret
      (SV.tup [SV.agg [SV.lit (Value.int IntKind.i64 (lk rnL (U.mm false a a) (U.mm true b b) (lk gcdI (U.sub IntKind.i64 a a) (lk absI c)) false)), SV.lit (Value.int IntKind.i64 (lk rnH
      (U.mm false a a) (U.mm true b b) (lk gcdI (U.sub IntKind.i64 a a) (lk absI c)) false)), SV.lit (Value.int IntKind.i64 (lk rnS (U.mm false a a) (U.mm true b b) (lk gcdI (U.sub
      IntKind.i64 a a) (lk absI c)) false))], SV.lit (Value.int IntKind.i64 (0 : Int))]))))) (T.ask (U.mm false a a < U.mm true b b → false = true → I64 (-U.sub IntKind.i64 a a)) (T.ret
      (SV.tup [SV.agg [SV.lit (Value.int IntKind.i64 (lk rnL (U.mm false a a) (U.mm true b b) (U.sub IntKind.i64 a a) false)), SV.lit (Value.int IntKind.i64 (lk rnH (U.mm false a a) (U.mm
      true b b) (U.sub IntKind.i64 a a) false)), SV.lit (Value.int IntKind.i64 (lk rnS (U.mm false a a) (U.mm true b b) (U.sub IntKind.i64 a a) false))], SV.lit (Value.int IntKind.i64 (0
      : Int))]))))))) (T.br (lk isE a b c) (T.ret (SV.tup [SV.agg [SV.lit (Value.int IntKind.i64 (1 : Int)), SV.lit (Value.int IntKind.i64 (0 : Int)), SV.lit (Value.int IntKind.i64 (1 :
      Int))], SV.lit (Value.int IntKind.i64 (0 : Int))])) (T.br (U.lt (U.sub IntKind.i64 a x) (0 : Int)) (T.br (U.lt a b) (T.ask (I64 (-c)) (T.ask ((0 : Int) ≤ U.sub IntKind.i64 (0 : Int)
      (U.sub IntKind.i64 a x) ∧ (0 : Int) ≤ lk absI c) (T.br (U.lt x y) (T.ask (I64 (-z)) (T.ask ((0 : Int) ≤ lk gcdI (U.sub IntKind.i64 (0 : Int) (U.sub IntKind.i64 a x)) (lk absI c) ∧
      (0 : Int) ≤ lk absI z) (T.ask (U.mm false a x < U.mm true b y → false = true → I64 (-lk gcdI (lk gcdI (U.sub IntKind.i64 (0 : Int) (U.sub IntKind.i64 a x)) (lk absI c)) (lk absI
      z))) (T.ret (SV.tup [SV.agg [SV.lit (Value.int IntKind.i64 (lk rnL (U.mm false a x) (U.mm true b y) (lk gcdI (lk gcdI (U.sub IntKind.i64 (0 : Int) (U.sub IntKind.i64 a x)) (lk absI
      c)) (lk absI z)) false)), SV.lit (Value.int IntKind.i64 (lk rnH (U.mm false a x) (U.mm true b y) (lk gcdI (lk gcdI (U.sub IntKind.i64 (0 : Int) (U.sub IntKind.i64 a x)) (lk absI c))
      (lk absI z)) false)), SV.lit (Value.int IntKind.i64 (lk rnS (U.mm false a x) (U.mm true b y) (lk gcdI (lk gcdI (U.sub IntKind.i64 (0 : Int) (U.sub IntKind.i64 a x)) (lk absI c)) (lk
      absI z)) false))], SV.lit (Value.int IntKind.i64 (0 : Int))]))))) (T.ask (U.mm false a x < U.mm true b y → false = true → I64 (-lk gcdI (U.sub IntKind.i64 (0 : Int) (U.sub
      IntKind.i64 a x)) (lk absI c))) (T.ret (SV.tup [SV.agg [SV.lit (Value.int IntKind.i64 (lk rnL (U.mm false a x) (U.mm true b y) (lk gcdI (U.sub IntKind.i64 (0 : Int) (U.sub
      IntKind.i64 a x)) (lk absI c)) false)), SV.lit (Value.int IntKind.i64 (lk rnH (U.mm false a x) (U.mm true b y) (lk gcdI (U.sub IntKind.i64 (0 : Int) (U.sub IntKind.i64 a x)) (lk
      absI c)) false)), SV.lit (Value.int IntKind.i64 (lk rnS (U.mm false a x) (U.mm true b y) (lk gcdI (U.sub IntKind.i64 (0 : Int) (U.sub IntKind.i64 a x)) (lk absI c)) false))], SV.lit
      (Value.int IntKind.i64 (0 : Int))])))))) (T.br (U.lt x y) (T.ask (I64 (-z)) (T.ask ((0 : Int) ≤ U.sub IntKind.i64 (0 : Int) (U.sub IntKind.i64 a x) ∧ (0 : Int) ≤ lk absI z) (T.ask
      (U.mm false a x < U.mm true b y → false = true → I64 (-lk gcdI (U.sub IntKind.i64 (0 : Int) (U.sub IntKind.i64 a x)) (lk absI z))) (T.ret (SV.tup [SV.agg [SV.lit (Value.int
      IntKind.i64 (lk rnL (U.mm false a x) (U.mm true b y) (lk gcdI (U.sub IntKind.i64 (0 : Int) (U.sub IntKind.i64 a x)) (lk absI z)) false)), SV.lit (Value.int IntKind.i64 (lk rnH (U.mm
      false a x) (U.mm true b y) (lk gcdI (U.sub IntKind.i64 (0 : Int) (U.sub IntKind.i64 a x)) (lk absI z)) false)), SV.lit (Value.int IntKind.i64 (lk rnS (U.mm false a x) (U.mm true b
      y) (lk gcdI (U.sub IntKind.i64 (0 : Int) (U.sub IntKind.i64 a x)) (lk absI z)) false))], SV.lit (Value.int IntKind.i64 (0 : Int))]))))) (T.ask (U.mm false a x < U.mm true b y →
      false = true → I64 (-U.sub IntKind.i64 (0 : Int) (U.sub IntKind.i64 a x))) (T.ret (SV.tup [SV.agg [SV.lit (Value.int IntKind.i64 (lk rnL (U.mm false a x) (U.mm true b y) (U.sub
      IntKind.i64 (0 : Int) (U.sub IntKind.i64 a x)) false)), SV.lit (Value.int IntKind.i64 (lk rnH (U.mm false a x) (U.mm true b y) (U.sub IntKind.i64 (0 : Int) (U.sub IntKind.i64 a x))
      false)), SV.lit (Value.int IntKind.i64 (lk rnS (U.mm false a x) (U.mm true b y) (U.sub IntKind.i64 (0 : Int) (U.sub IntKind.i64 a x)) false))], SV.lit (Value.int IntKind.i64 (0 :
      Int))]))))) (T.br (U.lt a b) (T.ask (I64 (-c)) (T.ask ((0 : Int) ≤ U.sub IntKind.i64 a x ∧ (0 : Int) ≤ lk absI c) (T.br (U.lt x y) (T.ask (I64 (-z)) (T.ask ((0 : Int) ≤ lk gcdI
      (U.sub IntKind.i64 a x) (lk absI c) ∧ (0 : Int) ≤ lk absI z) (T.ask (U.mm false a x < U.mm true b y → false = true → I64 (-lk gcdI (lk gcdI (U.sub IntKind.i64 a x) (lk absI c)) (lk
      absI z))) (T.ret (SV.tup [SV.agg [SV.lit (Value.int IntKind.i64 (lk rnL (U.mm false a x) (U.mm true b y) (lk gcdI (lk gcdI (U.sub IntKind.i64 a x) (lk absI c)) (lk absI z)) false)),
      SV.lit (Value.int IntKind.i64 (lk rnH (U.mm false a x) (U.mm true b y) (lk gcdI (lk gcdI (U.sub IntKind.i64 a x) (lk absI c)) (lk absI z)) false)), SV.lit (Value.int IntKind.i64 (lk
      rnS (U.mm false a x) (U.mm true b y) (lk gcdI (lk gcdI (U.sub IntKind.i64 a x) (lk absI c)) (lk absI z)) false))], SV.lit (Value.int IntKind.i64 (0 : Int))]))))) (T.ask (U.mm false
      a x < U.mm true b y → false = true → I64 (-lk gcdI (U.sub IntKind.i64 a x) (lk absI c))) (T.ret (SV.tup [SV.agg [SV.lit (Value.int IntKind.i64 (lk rnL (U.mm false a x) (U.mm true b
      y) (lk gcdI (U.sub IntKind.i64 a x) (lk absI c)) false)), SV.lit (Value.int IntKind.i64 (lk rnH (U.mm false a x) (U.mm true b y) (lk gcdI (U.sub IntKind.i64 a x) (lk absI c))
      false)), SV.lit (Value.int IntKind.i64 (lk rnS (U.mm false a x) (U.mm true b y) (lk gcdI (U.sub IntKind.i64 a x) (lk absI c)) false))], SV.lit (Value.int IntKind.i64 (0 :
      Int))])))))) (T.br (U.lt x y) (T.ask (I64 (-z)) (T.ask ((0 : Int) ≤ U.sub IntKind.i64 a x ∧ (0 : Int) ≤ lk absI z) (T.ask (U.mm false a x < U.mm true b y → false = true → I64 (-lk
      gcdI (U.sub IntKind.i64 a x) (lk absI z))) (T.ret (SV.tup [SV.agg [SV.lit (Value.int IntKind.i64 (lk rnL (U.mm false a x) (U.mm true b y) (lk gcdI (U.sub IntKind.i64 a x) (lk absI
      z)) false)), SV.lit (Value.int IntKind.i64 (lk rnH (U.mm false a x) (U.mm true b y) (lk gcdI (U.sub IntKind.i64 a x) (lk absI z)) false)), SV.lit (Value.int IntKind.i64 (lk rnS
      (U.mm false a x) (U.mm true b y) (lk gcdI (U.sub IntKind.i64 a x) (lk absI z)) false))], SV.lit (Value.int IntKind.i64 (0 : Int))]))))) (T.ask (U.mm false a x < U.mm true b y →
      false = true → I64 (-U.sub IntKind.i64 a x)) (T.ret (SV.tup [SV.agg [SV.lit (Value.int IntKind.i64 (lk rnL (U.mm false a x) (U.mm true b y) (U.sub IntKind.i64 a x) false)), SV.lit
      (Value.int IntKind.i64 (lk rnH (U.mm false a x) (U.mm true b y) (U.sub IntKind.i64 a x) false)), SV.lit (Value.int IntKind.i64 (lk rnS (U.mm false a x) (U.mm true b y) (U.sub
      IntKind.i64 a x) false))], SV.lit (Value.int IntKind.i64 (0 : Int))])))))))))))) := by kernel_rfl
noncomputable abbrev ks : List (Nat × Con) := (48, c_Intersect) :: (51, c_Intersect) :: (116, c_checked) :: (117, c_common) :: kr --%K
theorem ks_ok : ∀ p ∈ ks, ConOK P p.1 p.2 := by
  intro p hp
  simp only [ks, List.mem_cons] at hp
  rcases hp with rfl | rfl | rfl | rfl | hp
  · exact Intersect_ok
  · exact rIntersect_ok
  · exact checked_ok
  · exact common_ok
  · exact kr_ok p (by simpa [kr] using hp)
set_option maxRecDepth 100000 in
theorem t_rWithin (a b c x y z : Int) : conB Go.Proofs.Try.prog (conOf ks) noLoops 10 55 [.agg [.lit (.int .i64 a), .lit (.int .i64 b), .lit (.int .i64 c)], .agg [.lit (.int .i64 x), .lit (.int .i64 y), .lit (.int .i64 z)]] =
    T.ask (I64 a ∧ I64 b ∧ I64 c ∧ I64 x ∧ I64 y ∧ I64 z) (T.br (U.ne (lk isEr a b c x y z) (0 : Int)) (T.ret (SV.tup [SV.lit (Value.bool false), SV.lit (Value.int IntKind.i64 (lk isEr
      a b c x y z))])) (T.ask (I64 (lk isL a b c x y z) ∧ I64 (lk isH a b c x y z) ∧ I64 (lk isS a b c x y z)) (T.ask (I64 a ∧ I64 b ∧ I64 c) (T.ret (SV.tup [SV.lit (Value.bool (U.eq (lk
      size (lk isL a b c x y z) (lk isH a b c x y z) (lk isS a b c x y z)) (lk size a b c))), SV.lit (Value.int IntKind.i64 (0 : Int))]))))) := by kernel_rfl
noncomputable def tailH (a b c x y z : Int) : T SV :=
    (T.br (U.lt (U.sub IntKind.i64 a x) (0 : Int)) (T.br (U.lt a b) (T.ask (I64 (-c)) (T.ask ((0 : Int) ≤ U.sub IntKind.i64 (0 : Int) (U.sub IntKind.i64 a x) ∧ (0 : Int) ≤ lk absI c) (T.br (U.lt x y) (T.ask (I64 (-z)) (T.ask ((0 : Int) ≤ lk gcdI (U.sub IntKind.i64 (0 : Int) (U.sub IntKind.i64 a x)) (lk absI c) ∧ (0 : Int) ≤ lk absI z) (T.ask (U.mm false a x < U.mm true b y → false = true → I64 (-lk gcdI (lk gcdI (U.sub IntKind.i64 (0 : Int) (U.sub IntKind.i64 a x)) (lk absI c)) (lk absI z))) (T.ret (SV.tup [SV.agg [SV.lit (Value.int IntKind.i64 (lk rnL (U.mm false a x) (U.mm true b y) (lk gcdI (lk gcdI (U.sub IntKind.i64 (0 : Int) (U.sub IntKind.i64 a x)) (lk absI c)) (lk absI z)) false)), SV.lit (Value.int IntKind.i64 (lk rnH (U.mm false a x) (U.mm true b y) (lk gcdI (lk gcdI (U.sub IntKind.i64 (0 : Int) (U.sub IntKind.i64 a x)) (lk absI c)) (lk absI z)) false)), SV.lit (Value.int IntKind.i64 (lk rnS (U.mm false a x) (U.mm true b y) (lk gcdI (lk gcdI (U.sub IntKind.i64 (0 : Int) (U.sub IntKind.i64 a x)) (lk absI c)) (lk absI z)) false))], SV.lit (Value.int IntKind.i64 (0 : Int))]))))) (T.ask (U.mm false a x < U.mm true b y → false = true → I64 (-lk gcdI (U.sub IntKind.i64 (0 : Int) (U.sub IntKind.i64 a x)) (lk absI c))) (T.ret (SV.tup [SV.agg [SV.lit (Value.int IntKind.i64 (lk rnL (U.mm false a x) (U.mm true b y) (lk gcdI (U.sub IntKind.i64 (0 : Int) (U.sub IntKind.i64 a x)) (lk absI c)) false)), SV.lit (Value.int IntKind.i64 (lk rnH (U.mm false a x) (U.mm true b y) (lk gcdI (U.sub IntKind.i64 (0 : Int) (U.sub IntKind.i64 a x)) (lk absI c)) false)), SV.lit (Value.int IntKind.i64 (lk rnS (U.mm false a x) (U.mm true b y) (lk gcdI (U.sub IntKind.i64 (0 : Int) (U.sub IntKind.i64 a x)) (lk absI c)) false))], SV.lit (Value.int IntKind.i64 (0 : Int))])))))) (T.br (U.lt x y) (T.ask (I64 (-z)) (T.ask ((0 : Int) ≤ U.sub IntKind.i64 (0 : Int) (U.sub IntKind.i64 a x) ∧ (0 : Int) ≤ lk absI z) (T.ask (U.mm false a x < U.mm true b y → false = true → I64 (-lk gcdI (U.sub IntKind.i64 (0 : Int) (U.sub IntKind.i64 a x)) (lk absI z))) (T.ret (SV.tup [SV.agg [SV.lit (Value.int IntKind.i64 (lk rnL (U.mm false a x) (U.mm true b y) (lk gcdI (U.sub IntKind.i64 (0 : Int) (U.sub IntKind.i64 a x)) (lk absI z)) false)), SV.lit (Value.int IntKind.i64 (lk rnH (U.mm false a x) (U.mm true b y) (lk gcdI (U.sub IntKind.i64 (0 : Int) (U.sub IntKind.i64 a x)) (lk absI z)) false)), SV.lit (Value.int IntKind.i64 (lk rnS (U.mm false a x) (U.mm true b y) (lk gcdI (U.sub IntKind.i64 (0 : Int) (U.sub IntKind.i64 a x)) (lk absI z)) false))], SV.lit (Value.int IntKind.i64 (0 : Int))]))))) (T.ask (U.mm false a x < U.mm true b y → false = true → I64 (-U.sub IntKind.i64 (0 : Int) (U.sub IntKind.i64 a x))) (T.ret (SV.tup [SV.agg [SV.lit (Value.int IntKind.i64 (lk rnL (U.mm false a x) (U.mm true b y) (U.sub IntKind.i64 (0 : Int) (U.sub IntKind.i64 a x)) false)), SV.lit (Value.int IntKind.i64 (lk rnH (U.mm false a x) (U.mm true b y) (U.sub IntKind.i64 (0 : Int) (U.sub IntKind.i64 a x)) false)), SV.lit (Value.int IntKind.i64 (lk rnS (U.mm false a x) (U.mm true b y) (U.sub IntKind.i64 (0 : Int) (U.sub IntKind.i64 a x)) false))], SV.lit (Value.int IntKind.i64 (0 : Int))]))))) (T.br (U.lt a b) (T.ask (I64 (-c)) (T.ask ((0 : Int) ≤ U.sub IntKind.i64 a x ∧ (0 : Int) ≤ lk absI c) (T.br (U.lt x y) (T.ask (I64 (-z)) (T.ask ((0 : Int) ≤ lk gcdI (U.sub IntKind.i64 a x) (lk absI c) ∧ (0 : Int) ≤ lk absI z) (T.ask (U.mm false a x < U.mm true b y → false = true → I64 (-lk gcdI (lk gcdI (U.sub IntKind.i64 a x) (lk absI c)) (lk absI z))) (T.ret (SV.tup [SV.agg [SV.lit (Value.int IntKind.i64 (lk rnL (U.mm false a x) (U.mm true b y) (lk gcdI (lk gcdI (U.sub IntKind.i64 a x) (lk absI c)) (lk absI z)) false)), SV.lit (Value.int IntKind.i64 (lk rnH (U.mm false a x) (U.mm true b y) (lk gcdI (lk gcdI (U.sub IntKind.i64 a x) (lk absI c)) (lk absI z)) false)), SV.lit (Value.int IntKind.i64 (lk rnS (U.mm false a x) (U.mm true b y) (lk gcdI (lk gcdI (U.sub IntKind.i64 a x) (lk absI c)) (lk absI z)) false))], SV.lit (Value.int IntKind.i64 (0 : Int))]))))) (T.ask (U.mm false a x < U.mm true b y → false = true → I64 (-lk gcdI (U.sub IntKind.i64 a x) (lk absI c))) (T.ret (SV.tup [SV.agg [SV.lit (Value.int IntKind.i64 (lk rnL (U.mm false a x) (U.mm true b y) (lk gcdI (U.sub IntKind.i64 a x) (lk absI c)) false)), SV.lit (Value.int IntKind.i64 (lk rnH (U.mm false a x) (U.mm true b y) (lk gcdI (U.sub IntKind.i64 a x) (lk absI c)) false)), SV.lit (Value.int IntKind.i64 (lk rnS (U.mm false a x) (U.mm true b y) (lk gcdI (U.sub IntKind.i64 a x) (lk absI c)) false))], SV.lit (Value.int IntKind.i64 (0 : Int))])))))) (T.br (U.lt x y) (T.ask (I64 (-z)) (T.ask ((0 : Int) ≤ U.sub IntKind.i64 a x ∧ (0 : Int) ≤ lk absI z) (T.ask (U.mm false a x < U.mm true b y → false = true → I64 (-lk gcdI (U.sub IntKind.i64 a x) (lk absI z))) (T.ret (SV.tup [SV.agg [SV.lit (Value.int IntKind.i64 (lk rnL (U.mm false a x) (U.mm true b y) (lk gcdI (U.sub IntKind.i64 a x) (lk absI z)) false)), SV.lit (Value.int IntKind.i64 (lk rnH (U.mm false a x) (U.mm true b y) (lk gcdI (U.sub IntKind.i64 a x) (lk absI z)) false)), SV.lit (Value.int IntKind.i64 (lk rnS (U.mm false a x) (U.mm true b y) (lk gcdI (U.sub IntKind.i64 a x) (lk absI z)) false))], SV.lit (Value.int IntKind.i64 (0 : Int))]))))) (T.ask (U.mm false a x < U.mm true b y → false = true → I64 (-U.sub IntKind.i64 a x)) (T.ret (SV.tup [SV.agg [SV.lit (Value.int IntKind.i64 (lk rnL (U.mm false a x) (U.mm true b y) (U.sub IntKind.i64 a x) false)), SV.lit (Value.int IntKind.i64 (lk rnH (U.mm false a x) (U.mm true b y) (U.sub IntKind.i64 a x) false)), SV.lit (Value.int IntKind.i64 (lk rnS (U.mm false a x) (U.mm true b y) (U.sub IntKind.i64 a x) false))], SV.lit (Value.int IntKind.i64 (0 : Int))]))))))
/-- The reference's step of a hull. -/
def rh0 (a x : Int) : Int := if a - x < 0 then -(a - x) else a - x
def rh1 (a b c x : Int) : Int := if a < b then gcdI (rh0 a x) (absI c) else rh0 a x
def rhG (a b c x y z : Int) : Int := if x < y then gcdI (rh1 a b c x) (absI z) else rh1 a b c x
noncomputable def rhR (a b c x y z : Int) : SV := .tup [.agg [.lit (.int .i64 (rnL (min a x) (max b y) (rhG a b c x y z) false)), .lit (.int .i64 (rnH (min a x) (max b y) (rhG a b c x y z) false)), .lit (.int .i64 (rnS (min a x) (max b y) (rhG a b c x y z) false))], .lit (.int .i64 0)]
theorem gcd_nn {a b : Int} : 0 ≤ gcdI a b := by unfold gcdI; omega
theorem tailH_all {a b c x y z : Int} (h : Right a b c) (h' : Right x y z) (he : isE a b c = false) : T.All (fun s => s = rhR a b c x y z) (tailH a b c x y z) := by
  have hla := h.1
  have hlx := h'.1
  have rc := right_c h
  have rz := right_c h'
  have e1 : U.sub .i64 a x = a - x := U.sub64 (by unfold I64; omega)
  have e2 : U.sub .i64 0 (a - x) = -(a - x) := by rw [U.sub64 (by unfold I64; omega)]; omega
  have negc : I64 (-c) := by unfold I64; omega
  have negz : I64 (-z) := by unfold I64; omega
  have pc : 0 ≤ absI c := by unfold absI; split <;> omega
  have pz : 0 ≤ absI z := by unfold absI; split <;> omega
  unfold tailH rhR rhG rh1 rh0
  simp only [lk_eq, e1, e2, mm_max, mm_min]
  by_cases k1 : a - x < 0 <;> by_cases k2 : a < b <;> by_cases k3 : x < y <;>
    simp [T.All, U.lt_eq, he, k1, k2, k3, negc, negz, pc, pz, gcd_nn] <;> omega
theorem gcd_eu {a b : Int} (ha : 0 ≤ a) (hb : 0 ≤ b) : gcdI a b = euG a b := (eu_spec ha hb).1.symm
theorem gcd_0 {b : Int} (hb : 0 ≤ b) : gcdI 0 b = b := by unfold gcdI; rw [Int.gcd_zero_left]; omega
theorem gcd_s {b : Int} (hb : 0 ≤ b) : gcdI b b = b := by unfold gcdI; rw [Int.gcd_self]; omega
/-- A series upwards as a range upwards. -/
theorem nrm_up {f s C : Int} (hs : 1 ≤ s) (hC : 1 ≤ C) (h1 : -1000000 ≤ f) (h2 : f + s * (C - 1) ≤ 1000000) :
    nLow f s C = f ∧ nHigh f s C = f + s * (C - 1) ∧ nStr f s C = (if C = 1 then 1 else s) := by
  have m0 := mulle (x := 0) (y := C - 1) hs (by omega)
  rw [Int.mul_zero] at m0
  obtain ⟨q1, q2, q3, q4⟩ := nrm_like (f := f) (s := s) (C := C) (c := 0) hs
  simp only [kF, kB, Int.lt_irrefl, if_false] at q1 q2 q3 q4
  have n1 : ¬ C ≤ 0 := by omega
  have e0 : mvE f s C = 0 := by unfold mvE; rw [if_neg n1, if_pos (by omega)]
  rw [q2, q3, q4]
  simp only [mvLow, mvHigh, mvStr, e0, if_neg n1, if_true, Int.lt_irrefl, if_false]
  exact ⟨trivial, trivial, trivial⟩
theorem hl_ne {a b c x y z : Int} (h : Right a b c) (h' : Right x y z) (hab : a ≤ b) (hxy : x ≤ y) :
    hlL a b c x y z = rnL (min a x) (max b y) (rhG a b c x y z) false ∧ hlH a b c x y z = rnH (min a x) (max b y) (rhG a b c x y z) false ∧ hlS a b c x y z = rnS (min a x) (max b y) (rhG a b c x y z) false := by
  have hn : ¬ ckd a b c x y z ≠ 0 := by simp [ckd_zero h h']
  obtain ⟨w1, w2, w3, _⟩ := hu_set (up_ser h) (up_ser h')
  obtain ⟨p1, p2, p3, p4, p5, _⟩ := parts h hab
  obtain ⟨v1, v2, v3, v4, v5, _⟩ := parts h' hxy
  have eA : sA a b c = a := (up_of h hab).1
  have eS : sS a b c = absI c := (up_of h hab).2
  have eX : sA x y z = x := (up_of h' hxy).1
  have eZ : sS x y z = absI z := (up_of h' hxy).2
  have hla := h.1
  have hlx := h'.1
  have l1 := (w2 _ (sIn_last (by rw [eS]; exact p1) p3)).2.1
  have l2 := (w3 _ (sIn_last (by rw [eZ]; exact v1) v3)).2.1
  simp only [hlL, hlH, hlS, if_neg hn, haF, haB, haC]
  rw [eA, eS, eX, eZ] at w1 l1 l2 ⊢
  have k1 : absI c * (ofC a b c - 1) = b - a := p5
  have k2 : absI z * (ofC x y z - 1) = y - x := v5
  have cC : ofC a b c > 1 ↔ a < b := by
    constructor
    · intro hc
      have := mulle (s := absI c) (x := 1) (y := ofC a b c - 1) p1 (by omega)
      omega
    · intro hlt
      rcases Int.lt_or_le 1 (ofC a b c) with h | h
      · exact h
      · rw [show ofC a b c - 1 = 0 by omega, Int.mul_zero] at k1; omega
  have cD : ofC x y z > 1 ↔ x < y := by
    constructor
    · intro hc
      have := mulle (s := absI z) (x := 1) (y := ofC x y z - 1) v1 (by omega)
      omega
    · intro hlt
      rcases Int.lt_or_le 1 (ofC x y z) with h | h
      · exact h
      · rw [show ofC x y z - 1 = 0 by omega, Int.mul_zero] at k2; omega
  have g0 : huD a x = rh0 a x := by unfold huD rh0; split <;> omega
  have g0n : 0 ≤ rh0 a x := by unfold rh0; split <;> omega
  have g1 : hu1 a (absI c) (ofC a b c) x = rh1 a b c x := by
    unfold hu1 rh1
    rw [g0]
    by_cases hlt : a < b
    · rw [if_pos (cC.2 hlt), if_pos hlt, gcd_eu g0n (by omega)]
    · rw [if_neg (fun h => hlt (cC.1 h)), if_neg hlt]
  have g1n : 0 ≤ rh1 a b c x := by unfold rh1; split; exact gcd_nn; exact g0n
  have g2 : hu2 a (absI c) (ofC a b c) x (absI z) (ofC x y z) = rhG a b c x y z := by
    unfold hu2 rhG
    rw [g1]
    by_cases hlt : x < y
    · rw [if_pos (cD.2 hlt), if_pos hlt, gcd_eu g1n (by omega)]
    · rw [if_neg (fun h => hlt (cD.1 h)), if_neg hlt]
  have g2n : 0 ≤ rhG a b c x y z := by unfold rhG; split; exact gcd_nn; exact g1n
  have eXX : huX a (absI c) (ofC a b c) x (absI z) (ofC x y z) = max b y := by
    unfold huX sLast
    rw [k1, k2]; omega
  have n1 : ¬ ofC a b c = 0 := by omega
  have n2 : ¬ ofC x y z = 0 := by omega
  simp only [huF, huB, huC, if_neg n1, if_neg n2, g2, eXX] at w1 l1 l2 ⊢
  rw [k1] at l1
  rw [k2] at l2
  generalize rhG a b c x y z = g at *
  by_cases hz : g = 0
  · subst hz
    simp only [if_true] at w1 l1 l2 ⊢
    obtain ⟨q1, q2, q3⟩ := nrm_up (f := min a x) (s := 1) (C := 1) (by omega) (by omega) (by omega) (by omega)
    rw [q1, q2, q3]
    unfold rnL rnH rnS
    rw [if_neg (by omega), if_neg (by omega), if_pos rfl, if_pos (by omega)]
    exact ⟨rfl, by omega, rfl⟩
  · simp only [if_neg hz] at w1 l1 l2 ⊢
    have hg : 1 ≤ g := by omega
    have t1 := Int.tdiv_eq_ediv_of_nonneg (b := g) (show 0 ≤ max b y - min a x by omega)
    have t2 := Int.mul_ediv_add_emod (max b y - min a x) g
    have t3 := Int.emod_nonneg (max b y - min a x) (show g ≠ 0 by omega)
    have t5 := Int.ediv_nonneg (show 0 ≤ max b y - min a x by omega) (show 0 ≤ g by omega)
    rw [t1] at l1 l2 ⊢
    generalize (max b y - min a x) / g = q at *
    rw [show q + 1 - 1 = q by omega] at l1 l2
    obtain ⟨q1, q2, q3⟩ := nrm_up (f := min a x) (s := g) (C := q + 1) hg (by omega) (by omega) (by rw [show q + 1 - 1 = q by omega]; omega)
    rw [q1, q2, q3, show q + 1 - 1 = q by omega]
    unfold rnL rnH rnS
    rw [if_neg (by omega), if_neg (by omega)]
    refine ⟨rfl, by omega, ?_⟩
    by_cases hq : q = 0
    · subst hq
      rw [Int.mul_zero] at *
      rw [if_pos (by omega), if_pos (by omega)]
    · have := mulle (s := g) (x := 1) (y := q) hg (by omega)
      rw [if_neg (by omega), if_neg (by omega), if_neg (by simp)]
theorem rhG_self {x y z : Int} (hz : 1 ≤ absI z) : rnL (min x x) (max y y) (rhG x y z x y z) false = rnL x y (absI z) false ∧ rnH (min x x) (max y y) (rhG x y z x y z) false = rnH x y (absI z) false ∧ rnS (min x x) (max y y) (rhG x y z x y z) false = rnS x y (absI z) false := by
  rw [Int.min_self, Int.max_self]
  refine ⟨rfl, rfl, ?_⟩
  by_cases h : x < y
  · have e : rhG x y z x y z = absI z := by
      unfold rhG rh1 rh0
      rw [if_pos h, if_pos h, Int.sub_self, if_neg (by omega), gcd_0 (by omega), gcd_s (by omega)]
    rw [e]
  · unfold rnS
    rw [if_pos (by omega), if_pos (by omega)]
theorem up_nrm {x y z : Int} (h' : Right x y z) (hxy : x ≤ y) : nLow (sA x y z) (sS x y z) (ofC x y z) = rnL x y (absI z) false ∧ nHigh (sA x y z) (sS x y z) (ofC x y z) = rnH x y (absI z) false ∧ nStr (sA x y z) (sS x y z) (ofC x y z) = rnS x y (absI z) false := by
  obtain ⟨v1, v2, v3, v4, v5, _⟩ := parts h' hxy
  have eX : sA x y z = x := (up_of h' hxy).1
  have eZ : sS x y z = absI z := (up_of h' hxy).2
  have hlx := h'.1
  obtain ⟨q1, q2, q3⟩ := nrm_up (f := x) (s := absI z) (C := ofC x y z) v1 v3 (by omega) (by omega)
  rw [eX, eZ, q1, q2, q3, v5]
  unfold rnL rnH rnS
  rw [if_neg (by omega), if_neg (by omega)]
  refine ⟨rfl, by omega, ?_⟩
  by_cases hq : ofC x y z = 1
  · rw [hq, Int.sub_self, Int.mul_zero] at v5
    rw [if_pos hq, if_pos (by omega)]
  · have := mulle (s := absI z) (x := 1) (y := ofC x y z - 1) v1 (by omega)
    rw [if_neg hq, if_neg (by omega), if_neg (by simp)]
theorem hl_l {a b c x y z : Int} (h : Right a b c) (h' : Right x y z) (hab : ¬ a ≤ b) (hxy : x ≤ y) :
    hlL a b c x y z = rnL (min x x) (max y y) (rhG x y z x y z) false ∧ hlH a b c x y z = rnH (min x x) (max y y) (rhG x y z x y z) false ∧ hlS a b c x y z = rnS (min x x) (max y y) (rhG x y z x y z) false := by
  have hn : ¬ ckd a b c x y z ≠ 0 := by simp [ckd_zero h h']
  have e := (empty_of (c := c) hab).2.2
  obtain ⟨v1, _⟩ := parts h' hxy
  obtain ⟨q1, q2, q3⟩ := rhG_self (x := x) (y := y) v1
  simp only [hlL, hlH, hlS, if_neg hn, haF, haB, haC, huF, huB, huC, e, if_true]
  rw [q1, q2, q3]
  exact up_nrm h' hxy
theorem hl_r {a b c x y z : Int} (h : Right a b c) (h' : Right x y z) (hab : a ≤ b) (hxy : ¬ x ≤ y) :
    hlL a b c x y z = rnL (min a a) (max b b) (rhG a b c a b c) false ∧ hlH a b c x y z = rnH (min a a) (max b b) (rhG a b c a b c) false ∧ hlS a b c x y z = rnS (min a a) (max b b) (rhG a b c a b c) false := by
  have hn : ¬ ckd a b c x y z ≠ 0 := by simp [ckd_zero h h']
  have e := (empty_of (c := z) hxy).2.2
  obtain ⟨v1, _, v3, _⟩ := parts h hab
  have n1 : ¬ ofC a b c = 0 := by omega
  obtain ⟨q1, q2, q3⟩ := rhG_self (x := a) (y := b) v1
  simp only [hlL, hlH, hlS, if_neg hn, haF, haB, haC, huF, huB, huC, e, if_neg n1, if_true]
  rw [q1, q2, q3]
  exact up_nrm h hab
theorem hl_e {a b c x y z : Int} (h : Right a b c) (h' : Right x y z) (hab : ¬ a ≤ b) (hxy : ¬ x ≤ y) : hlL a b c x y z = 1 ∧ hlH a b c x y z = 0 ∧ hlS a b c x y z = 1 := by
  have hn : ¬ ckd a b c x y z ≠ 0 := by simp [ckd_zero h h']
  have e := (empty_of (c := c) hab).2.2
  have e' := (empty_of (c := z) hxy).2.2
  simp only [hlL, hlH, hlS, if_neg hn, haF, haB, haC, huF, huB, huC, e, e', if_true, nLow, nHigh, nStr, Int.le_refl]
  exact ⟨trivial, trivial, trivial⟩
theorem isE_iff {a b c : Int} (h : Right a b c) : isE a b c = true ↔ ¬ a ≤ b := by
  rw [isE_t]
  constructor
  · omega
  · intro hab; exact empty_is h hab
theorem rHull_ok : ConOK P 54 c_Hull := con_of (allOK mixed kr_ok) 10 54 fun args r h => by
  unfold c_Hull at h
  split at h
  · rename_i a b c x y z
    have hp := (T.is_ask h).1
    have h := (T.is_ask h).2
    obtain rfl := T.is_ret h
    rw [t_rHull]
    obtain ⟨ha, hb, hc, hx, hy, hz⟩ := hp
    by_cases h1 : chk a b c = 0
    · by_cases h2 : chk x y z = 0
      · have r1 := chk_zero.1 h1
        have r2 := chk_zero.1 h2
        have er := (hl_set r1 r2).1
        have q1 := isE_iff r1
        have q2 := isE_iff r2
        refine ⟨⟨ha, hb, hc⟩, fun h => (by rw [U.ne_t, lk_eq] at h; exact absurd h1 h), fun _ => ⟨⟨hx, hy, hz⟩, fun h => (by rw [U.ne_t, lk_eq] at h; exact absurd h2 h), fun _ => ⟨fun i1 => ?_, fun i1 => ?_⟩⟩⟩
        · rw [lk_eq] at i1
          refine ⟨fun i2 => ?_, fun i2 => ?_⟩
          · rw [lk_eq] at i2
            obtain ⟨e1, e2, e3⟩ := hl_e r1 r2 (q1.1 i1) (q2.1 i2)
            refine ⟨fun _ => ?_, fun h => (by rw [lk_eq, i2] at h; cases h)⟩
            simp [T.All, lk_eq, e1, e2, e3, er]
          · rw [lk_eq] at i2
            have hxy : x ≤ y := Classical.byContradiction fun h => by rw [q2.2 h] at i2; cases i2
            obtain ⟨e1, e2, e3⟩ := hl_l r1 r2 (q1.1 i1) hxy
            refine ⟨fun h => (by rw [lk_eq, i2] at h; cases h), fun _ => ?_⟩
            rw [lk_eq, lk_eq, lk_eq, lk_eq, e1, e2, e3, er]
            exact tailH_all r2 r2 i2
        · rw [lk_eq] at i1
          have hab : a ≤ b := Classical.byContradiction fun h => by rw [q1.2 h] at i1; cases i1
          refine ⟨fun i2 => ?_, fun i2 => ?_⟩
          · rw [lk_eq] at i2
            obtain ⟨e1, e2, e3⟩ := hl_r r1 r2 hab (q2.1 i2)
            refine ⟨fun h => (by rw [lk_eq, i1] at h; cases h), fun _ => ?_⟩
            rw [lk_eq, lk_eq, lk_eq, lk_eq, e1, e2, e3, er]
            exact tailH_all r1 r1 i1
          · rw [lk_eq] at i2
            have hxy : x ≤ y := Classical.byContradiction fun h => by rw [q2.2 h] at i2; cases i2
            obtain ⟨e1, e2, e3⟩ := hl_ne r1 r2 hab hxy
            refine ⟨fun h => (by rw [lk_eq, i1] at h; cases h), fun _ => ?_⟩
            rw [lk_eq, lk_eq, lk_eq, lk_eq, e1, e2, e3, er]
            exact tailH_all r1 r2 i1
      · simp [T.All, U.ne_eq, lk_eq, hlL, hlH, hlS, hlE, ckd, h1, h2, ha, hb, hc, hx, hy, hz]
    · simp [T.All, U.ne_eq, lk_eq, hlL, hlH, hlS, hlE, ckd, h1, ha, hb, hc]
  · exact h.elim
theorem right_i6 {a b c : Int} (h : Right a b c) : I64 a ∧ I64 b ∧ I64 c := by
  have h1 := h.1
  have h2 := right_c h
  unfold I64
  omega
theorem rWithin_ok : ConOK P 55 c_Within := con_of (allOK mixed ks_ok) 10 55 fun args r h => by
  unfold c_Within at h
  split at h
  · rename_i a b c x y z
    have hp := (T.is_ask h).1
    have h := (T.is_ask h).2
    obtain rfl := T.is_ret h
    rw [t_rWithin]
    have hp' := hp
    obtain ⟨ha, hb, hc, hx, hy, hz⟩ := hp'
    by_cases h0 : ckd a b c x y z = 0
    · obtain ⟨r1, r2⟩ := ckd_right h0
      have hn : ¬ ckd a b c x y z ≠ 0 := by simp [h0]
      obtain ⟨i1, i2, i3⟩ := is_set r1 r2
      obtain ⟨w1, w2⟩ := is_sw r1 r2
      obtain ⟨I1, I2, I3⟩ := right_i6 i2
      obtain ⟨e1, _⟩ := sIn_ext (up_ser i2).sw w1 (fun n => (i3 n).trans (w2 n).symm)
      have e : U.eq (size (isL a b c x y z) (isH a b c x y z) (isS a b c x y z)) (size a b c) = wiB a b c x y z := by
        rw [size_eq' i2, size_eq' r1, e1, U.eq_eq, wiB, if_neg hn]
        by_cases hq : isC a b c x y z = ofC a b c <;> simp [hq]
      simp [T.All, U.ne_eq, lk_eq, hp, i1, h0, I1, I2, I3, e, ha, hb, hc]
    · have e1 : isEr a b c x y z = ckd a b c x y z := by unfold isEr; rw [if_pos h0]
      have e2 : wiB a b c x y z = false := by unfold wiB; rw [if_pos h0]
      simp [T.All, U.ne_eq, lk_eq, hp, e1, e2, h0]
  · exact h.elim
end Go.RX.Span

/- The reference's Subtract: the loop's states. -/
set_option linter.unusedVariables false
set_option linter.unusedSimpArgs false
namespace Go.RX.Span
open Go Go.RX

def upT (low high st : Int) : Int := if high < low then low - 1 else low + (high - low).tdiv st * st
noncomputable def c_upto : Con := fun args => match args with
  | [.lit (.int .i64 l), .lit (.int .i64 h), .lit (.int .i64 s)] => .ask (-10000000 ≤ l ∧ l ≤ 10000000 ∧ -10000000 ≤ h ∧ h ≤ 10000000 ∧ 1 ≤ s ∧ s ≤ 10000000) (.ret (.lit (.int .i64 (lk upT l h s))))
  | _ => .stuck 1
theorem cat_l {n i : Nat} {f g : Nat → R3} (h : i < n) : U.cat n f g i = f i := (U.cat_eq _ _ _ _).trans (if_pos h)
theorem cat_r {n i : Nat} {f g : Nat → R3} (h : n ≤ i) : U.cat n f g i = g (i - n) := (U.cat_eq _ _ _ _).trans (if_neg (by omega))
/-- The reference's i-th inner piece. -/
def rpc (cl ch s t : Int) (d : Bool) (i : Nat) : R3 := (rnL (cl + (i + 1) * s) (upT (cl + (i + 1) * s) ch t) t d, rnH (cl + (i + 1) * s) (upT (cl + (i + 1) * s) ch t) t d, rnS (cl + (i + 1) * s) (upT (cl + (i + 1) * s) ch t) t d, ())
def rM (s t : Int) : Nat := (t.tdiv s - 1).toNat
structure XR where
  (a b c x y z cl ch cs s t : Int) (d : Bool) (n : Nat) (f : Nat → R3) (j : Nat)
/-- The pieces ahead, and so many inner ones. -/
noncomputable def rpF (cl ch s t : Int) (d : Bool) (n : Nat) (f : Nat → R3) : Nat → R3 := U.cat n f (rpc cl ch s t d)
def PreR (n0 : Nat) (cl ch s t : Int) (n : Nat) : Prop := n0 = 0 ∧ 1 ≤ s ∧ s ≤ 2000000 ∧ -1000000 ≤ cl ∧ ch ≤ 1000000 ∧ cl + t ≤ ch ∧ (∃ m : Int, t = s * m) ∧ 1 ≤ t ∧ t ≤ 2000000 ∧ n ≤ 1 ∧ rM s t ≤ 1002
noncomputable def memR (a b c x y z cl ch cs : Int) (n : Nat) (f : Nat → R3) : Mem := [(0, some (.cells [.lit (.int .i64 a), .lit (.int .i64 b), .lit (.int .i64 c)] 23)), (0, some (.cells [.lit (.int .i64 x), .lit (.int .i64 y), .lit (.int .i64 z)] 23)), (0, some (.cells [.lit (.int .i64 cl), .lit (.int .i64 ch), .lit (.int .i64 cs)] 23)), (0, none), (0, none), (0, none), (0, some (.row false n [.int .i64, .int .i64, .int .i64] f 23))]
noncomputable def VR (q : XR) : Few := ([.ptr 0 0, .ptr 2 0, .own false 6 (q.n + q.j), .lit (.int .i64 q.s), .lit (.bool q.d), .lit (.int .i64 q.t), .lit (.int .i64 ((q.j + 1 : Nat) : Int))], memR q.a q.b q.c q.x q.y q.z q.cl q.ch q.cs (q.n + q.j) (rpF q.cl q.ch q.s q.t q.d q.n q.f))
noncomputable def OR (q : XR) : Ex × Few := (.exit 0, ([.ptr 0 0, .ptr 2 0, .own false 6 (q.n + rM q.s q.t), .lit (.int .i64 q.s), .lit (.bool q.d), .lit (.int .i64 q.t), .any], memR q.a q.b q.c q.x q.y q.z q.cl q.ch q.cs (q.n + rM q.s q.t) (rpF q.cl q.ch q.s q.t q.d q.n q.f)))
def PhiR (n0 : Nat) (q : XR) : Prop := PreR n0 q.cl q.ch q.s q.t q.n ∧ q.j ≤ rM q.s q.t
noncomputable def oR (a b c x y z cl ch cs s t : Int) (d : Bool) (n : Nat) (f : Nat → R3) : Ex × Few := (.exit 0, ([.ptr 0 0, .ptr 2 0, .own false 6 (n + lk rM s t), .lit (.int .i64 s), .lit (.bool d), .lit (.int .i64 t), .any], [(0, some (.cells [.lit (.int .i64 a), .lit (.int .i64 b), .lit (.int .i64 c)] 23)), (0, some (.cells [.lit (.int .i64 x), .lit (.int .i64 y), .lit (.int .i64 z)] 23)), (0, some (.cells [.lit (.int .i64 cl), .lit (.int .i64 ch), .lit (.int .i64 cs)] 23)), (0, none), (0, none), (0, none), (0, some (.row false (n + lk rM s t) [.int .i64, .int .i64, .int .i64] (lk rpF cl ch s t d n f) 23))]))
noncomputable def gR : Nat → Few → T (Ex × Few)
  | n0, ([.ptr 0 0, .ptr 2 0, .own false 3 n', .lit (.int .i64 s), .lit (.bool d), .lit (.int .i64 t), .ki .i64 (.ofNat 1)], [(_, some (.cells [.lit (.int .i64 a), .lit (.int .i64 b), .lit (.int .i64 c)] 23)), (_, some (.cells [.lit (.int .i64 x), .lit (.int .i64 y), .lit (.int .i64 z)] 23)), (_, some (.cells [.lit (.int .i64 cl), .lit (.int .i64 ch), .lit (.int .i64 cs)] 23)), (_, some (.row false n [.int .i64, .int .i64, .int .i64] f 23)), _]) =>
    .ask (PreR n0 cl ch s t n ∧ n' = n) (.ret (oR a b c x y z cl ch cs s t d n f))
  | n0, ([.ptr 0 0, .ptr 2 0, .own false 6 n', .lit (.int .i64 s), .lit (.bool d), .lit (.int .i64 t), .ki .i64 (.ofNat 1)], [(_, some (.cells [.lit (.int .i64 a), .lit (.int .i64 b), .lit (.int .i64 c)] 23)), (_, some (.cells [.lit (.int .i64 x), .lit (.int .i64 y), .lit (.int .i64 z)] 23)), (_, some (.cells [.lit (.int .i64 cl), .lit (.int .i64 ch), .lit (.int .i64 cs)] 23)), _, _, _, (_, some (.row false n [.int .i64, .int .i64, .int .i64] f 23))]) =>
    .ask (PreR n0 cl ch s t n ∧ n' = n) (.ret (oR a b c x y z cl ch cs s t d n f))
  | _, _ => .stuck 1
noncomputable abbrev l53 : List (Nat × Loops) := [(53, [(14, .sum (few 95 [2, 6, 8, 9, 10, 11, 12] gR))])]
theorem E1_ok' {l : List (Nat × Con)} (h : ∀ p ∈ l, ConOK P p.1 p.2) : EnvOK ⟨P, conOf l, scall P (conOf l) noLoops 10⟩ := envOK (allOK mixed h) 10
end Go.RX.Span

/- The reference's Subtract: the walks. -/
set_option linter.unusedVariables false
set_option linter.unusedSimpArgs false
set_option maxRecDepth 100000
namespace Go.RX.Span
open Go Go.RX
attribute [local irreducible] sx conB

set_option maxRecDepth 100000 in
theorem t_upto (l h s : Int) : conB Go.Proofs.Try.prog (conOf []) noLoops 10 122 [.lit (.int .i64 l), .lit (.int .i64 h), .lit (.int .i64 s)] =
    T.br (U.lt h l) (T.ret (SV.lit (Value.int IntKind.i64 (U.sub IntKind.i64 l (1 : Int))))) (T.ask (s ≠ (0 : Int)) (T.ret (SV.lit (Value.int IntKind.i64 (U.add IntKind.i64 l (U.mul
      IntKind.i64 (U.quo IntKind.i64 (U.sub IntKind.i64 h l) s) s)))))) := by kernel_rfl
theorem upto_ok : ConOK P 122 c_upto := con_of (allOK mixed none_ok) 10 122 fun args r h => by
  unfold c_upto at h
  split at h
  · rename_i l h' s
    have hp := (T.is_ask h).1
    have h := (T.is_ask h).2
    obtain rfl := T.is_ret h
    rw [t_upto]
    obtain ⟨l1, l2, h1, h2, s1, s2⟩ := hp
    simp only [T.All, U.le_t, U.le_f, U.lt_t, U.lt_f, U.gt_t, U.gt_f, U.ge_t, U.ge_f, U.eq_t, U.eq_f, U.ne_t, U.ne_f, U.not_t, U.not_f, U.andb_t, U.andb_f, SV.lit.injEq, SV.agg.injEq, SV.tup.injEq, List.cons.injEq, Value.int.injEq, Value.bool.injEq, true_and, and_true, lk_eq, upT]
    refine ⟨fun hlt => ?_, fun hle => ⟨by omega, ?_⟩⟩
    · rw [if_pos hlt, U.sub64 (by unfold I64; omega)]
    · rw [if_neg (by omega)]
      have e1 := Int.tdiv_eq_ediv_of_nonneg (b := s) (show 0 ≤ h' - l by omega)
      have e2 := Int.ediv_nonneg (show 0 ≤ h' - l by omega) (show 0 ≤ s by omega)
      have e3 := Int.ediv_mul_le (h' - l) (show s ≠ 0 by omega)
      have e4 := Int.mul_nonneg e2 (show 0 ≤ s by omega)
      have e5 := Int.ediv_le_self s (show 0 ≤ h' - l by omega)
      rw [U.sub64 (by unfold I64; omega), U.quo64 (by rw [e1]; unfold I64; omega), U.mul64 (by rw [e1]; unfold I64; omega), U.add64 (by rw [e1]; unfold I64; omega)]
  · exact h.elim
noncomputable abbrev kt : List (Nat × Con) := (122, c_upto) :: ks --%K
theorem kt_ok : ∀ p ∈ kt, ConOK P p.1 p.2 := by
  intro p hp
  simp only [kt, List.mem_cons] at hp
  rcases hp with rfl | hp
  · exact upto_ok
  · exact ks_ok p (by simpa [ks] using hp)
noncomputable abbrev Et : Env := ⟨P, conOf kt, scall P (conOf kt) noLoops 10⟩ --%K
theorem Et_ok : EnvOK Et := envOK (allOK mixed kt_ok) 10
set_option maxRecDepth 100000 in
theorem t_R (n0 : Nat) (a b c x y z cl ch cs s t k : Int) (d : Bool) (n : Nat) (f : Nat → R3) : (sx Et [] n0 (loopOf P 53 14) (mkS 95 [2, 6, 8, 9, 10, 11, 12] [.ptr 0 0, .ptr 2 0, .own false 6 n, .lit (.int .i64 s), .lit (.bool d), .lit (.int .i64 t), .lit (.int .i64 k)], memR a b c x y z cl ch cs n f)).bind (proj 95 [2, 6, 8, 9, 10, 11, 12]) =
    T.br (U.lt (U.mul IntKind.i64 k s) t) (T.ask ((-10000000 : Int) ≤ U.add IntKind.i64 cl (U.mul IntKind.i64 k s) ∧ U.add IntKind.i64 cl (U.mul IntKind.i64 k s) ≤ (10000000 : Int) ∧
      (-10000000 : Int) ≤ ch ∧ ch ≤ (10000000 : Int) ∧ (1 : Int) ≤ t ∧ t ≤ (10000000 : Int)) (T.ask (U.add IntKind.i64 cl (U.mul IntKind.i64 k s) < lk upT (U.add IntKind.i64 cl (U.mul
      IntKind.i64 k s)) ch t → d = true → I64 (-t)) (T.br (lk isE (lk rnL (U.add IntKind.i64 cl (U.mul IntKind.i64 k s)) (lk upT (U.add IntKind.i64 cl (U.mul IntKind.i64 k s)) ch t) t d)
      (lk rnH (U.add IntKind.i64 cl (U.mul IntKind.i64 k s)) (lk upT (U.add IntKind.i64 cl (U.mul IntKind.i64 k s)) ch t) t d) (lk rnS (U.add IntKind.i64 cl (U.mul IntKind.i64 k s)) (lk
      upT (U.add IntKind.i64 cl (U.mul IntKind.i64 k s)) ch t) t d)) (T.ret (Ex.normal, [SV.ptr (nat_lit 0) (nat_lit 0), SV.ptr (nat_lit 2) (nat_lit 0), SV.own false (nat_lit 6) n, SV.lit
      (Value.int IntKind.i64 s), SV.lit (Value.bool d), SV.lit (Value.int IntKind.i64 t), SV.lit (Value.int IntKind.i64 (U.add IntKind.i64 k (1 : Int)))], [(nat_lit 0, some (Blk.cells
      [SV.lit (Value.int IntKind.i64 a), SV.lit (Value.int IntKind.i64 b), SV.lit (Value.int IntKind.i64 c)] (nat_lit 23))), (nat_lit 0, some (Blk.cells [SV.lit (Value.int IntKind.i64 x),
      SV.lit (Value.int IntKind.i64 y), SV.lit (Value.int IntKind.i64 z)] (nat_lit 23))), (nat_lit 0, some (Blk.cells [SV.lit (Value.int IntKind.i64 cl), SV.lit (Value.int IntKind.i64
      ch), SV.lit (Value.int IntKind.i64 cs)] (nat_lit 23))), (nat_lit 0, none), (nat_lit 0, none), (nat_lit 0, none), (nat_lit 0, some (Blk.row false n [Sh.int IntKind.i64, Sh.int
      IntKind.i64, Sh.int IntKind.i64] f (nat_lit 23))), (nat_lit 0, some (Blk.cells [SV.lit (Value.int IntKind.i64 (lk rnL (U.add IntKind.i64 cl (U.mul IntKind.i64 k s)) (lk upT (U.add
      IntKind.i64 cl (U.mul IntKind.i64 k s)) ch t) t d)), SV.lit (Value.int IntKind.i64 (lk rnH (U.add IntKind.i64 cl (U.mul IntKind.i64 k s)) (lk upT (U.add IntKind.i64 cl (U.mul
      IntKind.i64 k s)) ch t) t d)), SV.lit (Value.int IntKind.i64 (lk rnS (U.add IntKind.i64 cl (U.mul IntKind.i64 k s)) (lk upT (U.add IntKind.i64 cl (U.mul IntKind.i64 k s)) ch t) t
      d))] (nat_lit 23)))])) (T.ask ((n + (1 : Nat)) * nat_lit 24 ≤ nat_lit 140737488351232) (T.ret (Ex.normal, [SV.ptr (nat_lit 0) (nat_lit 0), SV.ptr (nat_lit 2) (nat_lit 0), SV.own
      false (nat_lit 9) (n.add (nat_lit 1)), SV.lit (Value.int IntKind.i64 s), SV.lit (Value.bool d), SV.lit (Value.int IntKind.i64 t), SV.lit (Value.int IntKind.i64 (U.add IntKind.i64 k
      (1 : Int)))], [(nat_lit 0, some (Blk.cells [SV.lit (Value.int IntKind.i64 a), SV.lit (Value.int IntKind.i64 b), SV.lit (Value.int IntKind.i64 c)] (nat_lit 23))), (nat_lit 0, some
      (Blk.cells [SV.lit (Value.int IntKind.i64 x), SV.lit (Value.int IntKind.i64 y), SV.lit (Value.int IntKind.i64 z)] (nat_lit 23))), (nat_lit 0, some (Blk.cells [SV.lit (Value.int
      IntKind.i64 cl), SV.lit (Value.int IntKind.i64 ch), SV.lit (Value.int IntKind.i64 cs)] (nat_lit 23))), (nat_lit 0, none), (nat_lit 0, none), (nat_lit 0, none), (nat_lit 1, none),
      (nat_lit 0, some (Blk.cells [SV.lit (Value.int IntKind.i64 (lk rnL (U.add IntKind.i64 cl (U.mul IntKind.i64 k s)) (lk upT (U.add IntKind.i64 cl (U.mul IntKind.i64 k s)) ch t) t d)),
      SV.lit (Value.int IntKind.i64 (lk rnH (U.add IntKind.i64 cl (U.mul IntKind.i64 k s)) (lk upT (U.add IntKind.i64 cl (U.mul IntKind.i64 k s)) ch t) t d)), SV.lit (Value.int
      IntKind.i64 (lk rnS (U.add IntKind.i64 cl (U.mul IntKind.i64 k s)) (lk upT (U.add IntKind.i64 cl (U.mul IntKind.i64 k s)) ch t) t d))] (nat_lit 23))), (nat_lit 0, some (Blk.cells
      [SV.lit (Value.int IntKind.i64 (lk rnL (U.add IntKind.i64 cl (U.mul IntKind.i64 k s)) (lk upT (U.add IntKind.i64 cl (U.mul IntKind.i64 k s)) ch t) t d)), SV.lit (Value.int
      IntKind.i64 (lk rnH (U.add IntKind.i64 cl (U.mul IntKind.i64 k s)) (lk upT (U.add IntKind.i64 cl (U.mul IntKind.i64 k s)) ch t) t d)), SV.lit (Value.int IntKind.i64 (lk rnS (U.add
      IntKind.i64 cl (U.mul IntKind.i64 k s)) (lk upT (U.add IntKind.i64 cl (U.mul IntKind.i64 k s)) ch t) t d))] (nat_lit 23))), (nat_lit 0, some (Blk.row false (n.add (nat_lit 1))
      [Sh.int IntKind.i64, Sh.int IntKind.i64, Sh.int IntKind.i64] (U.cat n f fun x => (lk rnL (U.add IntKind.i64 cl (U.mul IntKind.i64 k s)) (lk upT (U.add IntKind.i64 cl (U.mul
      IntKind.i64 k s)) ch t) t d, lk rnH (U.add IntKind.i64 cl (U.mul IntKind.i64 k s)) (lk upT (U.add IntKind.i64 cl (U.mul IntKind.i64 k s)) ch t) t d, lk rnS (U.add IntKind.i64 cl
      (U.mul IntKind.i64 k s)) (lk upT (U.add IntKind.i64 cl (U.mul IntKind.i64 k s)) ch t) t d, PUnit.unit)) (nat_lit 23)))])))))) (T.ret (Ex.exit (nat_lit 0), [SV.ptr (nat_lit 0)
      (nat_lit 0), SV.ptr (nat_lit 2) (nat_lit 0), SV.own false (nat_lit 6) n, SV.lit (Value.int IntKind.i64 s), SV.lit (Value.bool d), SV.lit (Value.int IntKind.i64 t), SV.lit (Value.int
      IntKind.i64 k)], [(nat_lit 0, some (Blk.cells [SV.lit (Value.int IntKind.i64 a), SV.lit (Value.int IntKind.i64 b), SV.lit (Value.int IntKind.i64 c)] (nat_lit 23))), (nat_lit 0, some
      (Blk.cells [SV.lit (Value.int IntKind.i64 x), SV.lit (Value.int IntKind.i64 y), SV.lit (Value.int IntKind.i64 z)] (nat_lit 23))), (nat_lit 0, some (Blk.cells [SV.lit (Value.int
      IntKind.i64 cl), SV.lit (Value.int IntKind.i64 ch), SV.lit (Value.int IntKind.i64 cs)] (nat_lit 23))), (nat_lit 0, none), (nat_lit 0, none), (nat_lit 0, none), (nat_lit 0, some
      (Blk.row false n [Sh.int IntKind.i64, Sh.int IntKind.i64, Sh.int IntKind.i64] f (nat_lit 23)))])) := by kernel_rfl
theorem upT_ge {l h t : Int} (hl : l ≤ h) (ht : 1 ≤ t) : l ≤ upT l h t ∧ upT l h t ≤ h := by
  unfold upT
  rw [if_neg (by omega)]
  have e1 := Int.tdiv_eq_ediv_of_nonneg (b := t) (show 0 ≤ h - l by omega)
  have e2 := Int.ediv_nonneg (show 0 ≤ h - l by omega) (show 0 ≤ t by omega)
  have e3 := Int.ediv_mul_le (h - l) (show t ≠ 0 by omega)
  have e4 := Int.mul_nonneg e2 (show 0 ≤ t by omega)
  rw [e1]; omega
theorem rn_not {l h t : Int} {d : Bool} (hl : l ≤ h) : isE (rnL l h t d) (rnH l h t d) (rnS l h t d) = false := by
  rw [isE_f]
  unfold rnL rnH
  rw [if_neg (by omega), if_neg (by omega)]
  omega
theorem sameR {n : Nat} {f g : Nat → R3} (h : ∀ i, i < n → f i = g i) : sameRow n f g := ⟨eqShs_refl _, fun i hi => h i hi⟩
theorem rM_spec {s t : Int} (hs : 1 ≤ s) (ht : 1 ≤ t) (h : ∃ m : Int, t = s * m) : s * ((rM s t : Int) + 1) = t := by
  obtain ⟨m, rfl⟩ := h
  have e : (s * m).tdiv s = m := Int.mul_tdiv_cancel_left _ (by omega)
  have hm : 1 ≤ m := by
    rcases Int.lt_or_le 0 m with h | h
    · omega
    · have := Int.mul_le_mul_of_nonneg_left h (show (0 : Int) ≤ s by omega); omega
  unfold rM
  rw [e, Int.toNat_of_nonneg (by omega), show m - 1 + 1 = m by omega]
theorem roundR (n0 : Nat) (q : XR) (hq : PhiR n0 q) : ((sx Et [] n0 (loopOf P 53 14) (mkS 95 [2, 6, 8, 9, 10, 11, 12] (VR q).1, (VR q).2)).bind (proj 95 [2, 6, 8, 9, 10, 11, 12])).All fun r => match r.1 with
      | .normal => ∃ q', PhiR n0 q' ∧ rM q'.s q'.t - q'.j < rM q.s q.t - q.j ∧ Wk 95 [2, 6, 8, 9, 10, 11, 12] n0 r.2 (VR q') ∧ ∀ o, o = OR q' → o = OR q
      | e => ∃ s, (e, s) = OR q ∧ Wk 95 [2, 6, 8, 9, 10, 11, 12] n0 r.2 s := by
  unfold VR
  dsimp only
  rw [t_R]
  obtain ⟨a, b, c, x, y, z, cl, ch, cs, s, t, d, n, f, j⟩ := q
  obtain ⟨⟨h0, s1, s2, c1, c2, c3, hm, t1, t2, hn, hM⟩, hj⟩ := hq
  simp only [] at h0 s1 s2 c1 c2 c3 hm t1 t2 hn hM hj
  subst h0
  have hMs := rM_spec s1 t1 hm
  have hMs' := hMs
  dsimp only
  have mle := mulle (s := s) (x := ((j + 1 : Nat) : Int)) (y := (rM s t : Int) + 1) s1 (by omega)
  have mge := mulle (s := s) (x := 0) (y := ((j + 1 : Nat) : Int)) s1 (by omega)
  have e1 : U.mul .i64 ((j + 1 : Nat) : Int) s = s * ((j + 1 : Nat) : Int) := by rw [U.mul64 (by rw [Int.mul_comm]; unfold I64; omega), Int.mul_comm]
  have e2 : U.add .i64 ((j + 1 : Nat) : Int) 1 = ((j + 1 + 1 : Nat) : Int) := by rw [U.add64 (by unfold I64; omega)]; omega
  have e3 : U.add .i64 cl (s * ((j + 1 : Nat) : Int)) = cl + s * ((j + 1 : Nat) : Int) := U.add64 (by unfold I64; omega)
  simp only [e1, e2, e3]
  by_cases hlt : j < rM s t
  · have mlt := mulle (s := s) (x := ((j + 1 : Nat) : Int) + 1) (y := (rM s t : Int) + 1) s1 (by omega)
    have hcond : s * ((j + 1 : Nat) : Int) < t := by rw [Int.mul_add] at mlt; omega
    obtain ⟨u1, u2⟩ := upT_ge (l := cl + s * ((j + 1 : Nat) : Int)) (h := ch) (t := t) (by omega) t1
    have hE := rn_not (t := t) (d := d) u1
    simp only [T.All, U.le_t, U.le_f, U.lt_t, U.lt_f, U.gt_t, U.gt_f, U.ge_t, U.ge_f, U.eq_t, U.eq_f, U.ne_t, U.ne_f, U.not_t, U.not_f, U.andb_t, U.andb_f, SV.lit.injEq, SV.agg.injEq, SV.tup.injEq, List.cons.injEq, Value.int.injEq, Value.bool.injEq, true_and, and_true, lk_eq, hE, Bool.false_eq_true, false_implies]
    refine ⟨fun _ => ⟨by omega, fun _ _ => by unfold I64; omega, fun _ => ⟨by omega, ?_⟩⟩, fun h => by omega⟩
    · refine ⟨⟨a, b, c, x, y, z, cl, ch, cs, s, t, d, n, f, j + 1⟩, ⟨⟨rfl, s1, s2, c1, c2, c3, hm, t1, t2, hn, hM⟩, by simp only []; omega⟩, by simp only []; omega, ?_, fun o ho => ho⟩
      refine wk_of [some 0, some 1, some 2, none, none, none, some 9] rfl (Nat.zero_le _) (fun b hb => by omega) ⟨⟨rfl, rfl⟩, ⟨rfl, rfl⟩, ⟨rfl, rfl, rfl⟩, rfl, rfl, rfl, rfl, trivial⟩ ⟨⟨rfl, rfl, rfl, rfl, trivial⟩, ⟨rfl, rfl, rfl, rfl, trivial⟩, ⟨rfl, rfl, rfl, rfl, trivial⟩, ⟨rfl, rfl, rfl, sameR fun i hi => ?_⟩, trivial⟩
      by_cases hi' : i < n + j
      · exact cat_l hi'
      · have : i = n + j := by have hi2 : i < n + j + 1 := hi; omega
        subst this
        refine (cat_r (Nat.le_refl _)).trans ?_
        show _ = rpF cl ch s t d n f (n + j)
        unfold rpF
        refine Eq.trans ?_ (cat_r (by omega)).symm
        rw [show n + j - n = j by omega]
        unfold rpc
        rw [show cl + ((j : Int) + 1) * s = cl + s * ((j + 1 : Nat) : Int) by rw [Int.mul_comm]; rfl]
  · have hj' : j = rM s t := by omega
    subst hj'
    have hcond : ¬ s * ((rM s t + 1 : Nat) : Int) < t := by
      have : ((rM s t + 1 : Nat) : Int) = (rM s t : Int) + 1 := rfl
      rw [this]; omega
    simp only [T.All, U.le_t, U.le_f, U.lt_t, U.lt_f, U.gt_t, U.gt_f, U.ge_t, U.ge_f, U.eq_t, U.eq_f, U.ne_t, U.ne_f, U.not_t, U.not_f, U.andb_t, U.andb_f, SV.lit.injEq, SV.agg.injEq, SV.tup.injEq, List.cons.injEq, Value.int.injEq, Value.bool.injEq, true_and, and_true, lk_eq]
    refine ⟨fun h => absurd h hcond, fun _ => ⟨_, rfl, ?_⟩⟩
    exact wk_of (idR 7) rfl (Nat.zero_le _) (fun b hb => by omega) ⟨⟨rfl, rfl⟩, ⟨rfl, rfl⟩, ⟨rfl, rfl, rfl⟩, rfl, rfl, rfl, trivial, trivial⟩ ⟨⟨rfl, rfl, rfl, rfl, trivial⟩, ⟨rfl, rfl, rfl, rfl, trivial⟩, ⟨rfl, rfl, rfl, rfl, trivial⟩, ⟨rfl, rfl, rfl, sameRow_refl _ _⟩, trivial⟩
theorem loopR : LoopOK P (loopOf P 53 14) (few 95 [2, 6, 8, 9, 10, 11, 12] gR) :=
  loop_few (E := Et) mixed Et_ok loopsOK_none 95 [2, 6, 8, 9, 10, 11, 12] (X := XR) gR (fun _ x => VR x) PhiR (fun q => rM q.s q.t - q.j) (fun _ x o => o = OR x)
    (fun n0 st r h => by
      have key : ∀ (a b c x y z cl ch cs s t : Int) (d : Bool) (n : Nat) (f : Nat → R3) (o : Ex × Few), o = OR ⟨a, b, c, x, y, z, cl, ch, cs, s, t, d, n, f, 0⟩ → o = oR a b c x y z cl ch cs s t d n f := fun a b c x y z cl ch cs s t d n f o ho => by
        rw [ho]; simp only [OR, oR, lk_eq, memR]
      have same0 : ∀ (cl ch s t : Int) (d : Bool) (n : Nat) (f : Nat → R3) (i : Nat), i < n → f i = rpF cl ch s t d n f i := fun cl ch s t d n f i hi => by
        exact (cat_l hi).symm
      unfold gR at h
      split at h
      · rename_i n0 n' s d t g0 a b c g1 x y z g2 cl ch cs g3 n f g4
        obtain ⟨hp, hnn⟩ := (T.is_ask h).1
        obtain rfl := T.is_ret (T.is_ask h).2
        have hp' := hp
        obtain ⟨h0, _⟩ := hp'
        subst h0; subst hnn
        refine ⟨⟨a, b, c, x, y, z, cl, ch, cs, s, t, d, n', f, 0⟩, ⟨hp, Nat.zero_le _⟩, ?_, fun o ho => key _ _ _ _ _ _ _ _ _ _ _ _ _ _ o ho⟩
        exact wk_of [some 0, some 1, some 2, none, none, none, some 3] rfl (Nat.zero_le _) (fun b hb => by omega) ⟨⟨rfl, rfl⟩, ⟨rfl, rfl⟩, ⟨rfl, rfl, rfl⟩, rfl, rfl, rfl, rfl, trivial⟩ ⟨⟨rfl, rfl, rfl, rfl, trivial⟩, ⟨rfl, rfl, rfl, rfl, trivial⟩, ⟨rfl, rfl, rfl, rfl, trivial⟩, ⟨rfl, rfl, rfl, sameR fun i hi => same0 _ _ _ _ _ _ _ i hi⟩, trivial⟩
      · rename_i n0 n' s d t g0 a b c g1 x y z g2 cl ch cs m1 m2 m3 g3 n f
        obtain ⟨hp, hnn⟩ := (T.is_ask h).1
        obtain rfl := T.is_ret (T.is_ask h).2
        have hp' := hp
        obtain ⟨h0, _⟩ := hp'
        subst h0; subst hnn
        refine ⟨⟨a, b, c, x, y, z, cl, ch, cs, s, t, d, n', f, 0⟩, ⟨hp, Nat.zero_le _⟩, ?_, fun o ho => key _ _ _ _ _ _ _ _ _ _ _ _ _ _ o ho⟩
        exact wk_of (idR 7) rfl (Nat.zero_le _) (fun b hb => by omega) ⟨⟨rfl, rfl⟩, ⟨rfl, rfl⟩, ⟨rfl, rfl, rfl⟩, rfl, rfl, rfl, rfl, trivial⟩ ⟨⟨rfl, rfl, rfl, rfl, trivial⟩, ⟨rfl, rfl, rfl, rfl, trivial⟩, ⟨rfl, rfl, rfl, rfl, trivial⟩, ⟨rfl, rfl, rfl, sameR fun i hi => same0 _ _ _ _ _ _ _ i hi⟩, trivial⟩
      · exact h.elim)
    roundR
theorem l53_ok : ∀ p ∈ l53, LoopsOK P p.2 (bodyOf P p.1) := by
  intro p hp
  simp only [l53, List.mem_singleton] at hp
  subst hp
  refine loopsOK_of (by kernel_rfl) fun k g hk => ?_
  simp only [List.mem_singleton, Prod.mk.injEq, LoopC.sum.injEq] at hk
  obtain ⟨rfl, rfl⟩ := hk
  exact loopR
set_option maxRecDepth 100000 in
theorem t_rSubtract (a b c x y z : Int) : conB Go.Proofs.Try.prog (conOf kt) (loopsOf l53) 10 53 [.agg [.lit (.int .i64 a), .lit (.int .i64 b), .lit (.int .i64 c)], .agg [.lit (.int .i64 x), .lit (.int .i64 y), .lit (.int .i64 z)]] =
    T.ask (I64 a ∧ I64 b ∧ I64 c ∧ I64 x ∧ I64 y ∧ I64 z) (T.br (U.ne (lk isEr a b c x y z) (0 : Int)) (T.ret (SV.tup [SV.lit (Value.slice none (nat_lit 0) (nat_lit 0)), SV.lit
      (Value.int IntKind.i64 (lk isEr a b c x y z))])) (T.br (lk isE (lk isL a b c x y z) (lk isH a b c x y z) (lk isS a b c x y z)) (T.br (lk isE a b c) (T.ret (SV.tup [SV.row [Sh.int
      IntKind.i64, Sh.int IntKind.i64, Sh.int IntKind.i64] (nat_lit 0) fun x => ((0 : Int), (0 : Int), (0 : Int), PUnit.unit), SV.lit (Value.int IntKind.i64 (0 : Int))])) (T.ask (((0 :
      Nat) + (1 : Nat)) * nat_lit 24 ≤ nat_lit 140737488351232) (T.ret (SV.tup [SV.row [Sh.int IntKind.i64, Sh.int IntKind.i64, Sh.int IntKind.i64] (nat_lit 1) (U.cat (nat_lit 0) (fun x
      => ((0 : Int), (0 : Int), (0 : Int), PUnit.unit)) fun x => (a, b, c, PUnit.unit)), SV.lit (Value.int IntKind.i64 (0 : Int))])))) (T.ask (I64 (-c)) (T.ask (a < U.sub IntKind.i64 (lk
      isL a b c x y z) (lk absI c) → U.lt c (0 : Int) = true → I64 (-lk absI c)) (T.br (lk isE (lk rnL a (U.sub IntKind.i64 (lk isL a b c x y z) (lk absI c)) (lk absI c) (U.lt c (0 :
      Int))) (lk rnH a (U.sub IntKind.i64 (lk isL a b c x y z) (lk absI c)) (lk absI c) (U.lt c (0 : Int))) (lk rnS a (U.sub IntKind.i64 (lk isL a b c x y z) (lk absI c)) (lk absI c)
      (U.lt c (0 : Int)))) (T.br (U.lt (lk isL a b c x y z) (lk isH a b c x y z)) (T.ask (I64 (-lk isS a b c x y z)) (T.ask (lk absI c ≠ (0 : Int)) (T.br (U.gt (U.quo IntKind.i64 (lk absI
      (lk isS a b c x y z)) (lk absI c)) (1002 : Int)) (T.ret (SV.tup [SV.lit (Value.slice none (nat_lit 0) (nat_lit 0)), SV.lit (Value.int IntKind.i64 (7 : Int))])) (T.ask (PreR (nat_lit
      0) (lk isL a b c x y z) (lk isH a b c x y z) (lk absI c) (lk absI (lk isS a b c x y z)) (0 : Nat) ∧ (0 : Nat) = (0 : Nat)) (T.ask (U.add IntKind.i64 (lk isH a b c x y z) (lk absI c)
      < b → U.lt c (0 : Int) = true → I64 (-lk absI c)) (T.br (lk isE (lk rnL (U.add IntKind.i64 (lk isH a b c x y z) (lk absI c)) b (lk absI c) (U.lt c (0 : Int))) (lk rnH (U.add
      IntKind.i64 (lk isH a b c x y z) (lk absI c)) b (lk absI c) (U.lt c (0 : Int))) (lk rnS (U.add IntKind.i64 (lk isH a b c x y z) (lk absI c)) b (lk absI c) (U.lt c (0 : Int)))) (T.br
      (U.gt (Int.ofNat (nat_lit 0 + lk rM (lk absI c) (lk absI (lk isS a b c x y z)))) (1000 : Int)) (T.ret (SV.tup [SV.lit (Value.slice none (nat_lit 0) (nat_lit 0)), SV.lit (Value.int
      IntKind.i64 (7 : Int))])) (T.ret (SV.tup [SV.row [Sh.int IntKind.i64, Sh.int IntKind.i64, Sh.int IntKind.i64] (nat_lit 0 + lk rM (lk absI c) (lk absI (lk isS a b c x y z))) (lk rpF
      (lk isL a b c x y z) (lk isH a b c x y z) (lk absI c) (lk absI (lk isS a b c x y z)) (U.lt c (0 : Int)) (nat_lit 0) fun x => ((0 : Int), (0 : Int), (0 : Int), PUnit.unit)), SV.lit
      (Value.int IntKind.i64 (0 : Int))]))) (T.ask (((0 : Nat) + lk rM (lk absI c) (lk absI (lk isS a b c x y z)) + (1 : Nat)) * nat_lit 24 ≤ nat_lit 140737488351232) (T.br (U.gt
      (Int.ofNat ((nat_lit 0 + lk rM (lk absI c) (lk absI (lk isS a b c x y z))).add (nat_lit 1))) (1000 : Int)) (T.ret (SV.tup [SV.lit (Value.slice none (nat_lit 0) (nat_lit 0)), SV.lit
      (Value.int IntKind.i64 (7 : Int))])) (T.ret (SV.tup [SV.row [Sh.int IntKind.i64, Sh.int IntKind.i64, Sh.int IntKind.i64] ((nat_lit 0 + lk rM (lk absI c) (lk absI (lk isS a b c x y
      z))).add (nat_lit 1)) (U.cat (nat_lit 0 + lk rM (lk absI c) (lk absI (lk isS a b c x y z))) (lk rpF (lk isL a b c x y z) (lk isH a b c x y z) (lk absI c) (lk absI (lk isS a b c x y
      z)) (U.lt c (0 : Int)) (nat_lit 0) fun x => ((0 : Int), (0 : Int), (0 : Int), PUnit.unit)) fun x_1 => (lk rnL (U.add IntKind.i64 (lk isH a b c x y z) (lk absI c)) b (lk absI c)
      (U.lt c (0 : Int)), lk rnH (U.add IntKind.i64 (lk isH a b c x y z) (lk absI c)) b (lk absI c) (U.lt c (0 : Int)), lk rnS (U.add IntKind.i64 (lk isH a b c x y z) (lk absI c)) b (lk
      absI c) (U.lt c (0 : Int)), PUnit.unit)), SV.lit (Value.int IntKind.i64 (0 : Int))])))))))))) (T.ask (U.add IntKind.i64 (lk isH a b c x y z) (lk absI c) < b → U.lt c (0 : Int) =
      true → I64 (-lk absI c)) (T.br (lk isE (lk rnL (U.add IntKind.i64 (lk isH a b c x y z) (lk absI c)) b (lk absI c) (U.lt c (0 : Int))) (lk rnH (U.add IntKind.i64 (lk isH a b c x y z)
      (lk absI c)) b (lk absI c) (U.lt c (0 : Int))) (lk rnS (U.add IntKind.i64 (lk isH a b c x y z) (lk absI c)) b (lk absI c) (U.lt c (0 : Int)))) (T.br (U.gt (0 : Int) (1000 : Int))
      (T.ret (SV.tup [SV.lit (Value.slice none (nat_lit 0) (nat_lit 0)), SV.lit (Value.int IntKind.i64 (7 : Int))])) (T.ret (SV.tup [SV.row [Sh.int IntKind.i64, Sh.int IntKind.i64, Sh.int
      IntKind.i64] (nat_lit 0) fun x => ((0 : Int), (0 : Int), (0 : Int), PUnit.unit), SV.lit (Value.int IntKind.i64 (0 : Int))]))) (T.ask (((0 : Nat) + (1 : Nat)) * nat_lit 24 ≤ nat_lit
      140737488351232) (T.br (U.gt (1 : Int) (1000 : Int)) (T.ret (SV.tup [SV.lit (Value.slice none (nat_lit 0) (nat_lit 0)), SV.lit (Value.int IntKind.i64 (7 : Int))])) (T.ret (SV.tup
      [SV.row [Sh.int IntKind.i64, Sh.int IntKind.i64, Sh.int IntKind.i64] (nat_lit 1) (U.cat (nat_lit 0) (fun x => ((0 : Int), (0 : Int), (0 : Int), PUnit.unit)) fun x_1 => (lk rnL
      (U.add IntKind.i64 (lk isH a b c x y z) (lk absI c)) b (lk absI c) (U.lt c (0 : Int)), lk rnH (U.add IntKind.i64 (lk isH a b c x y z) (lk absI c)) b (lk absI c) (U.lt c (0 : Int)),
      lk rnS (U.add IntKind.i64 (lk isH a b c x y z) (lk absI c)) b (lk absI c) (U.lt c (0 : Int)), PUnit.unit)), SV.lit (Value.int IntKind.i64 (0 : Int))]))))))) (T.ask (((0 : Nat) + (1
      : Nat)) * nat_lit 24 ≤ nat_lit 140737488351232) (T.br (U.lt (lk isL a b c x y z) (lk isH a b c x y z)) (T.ask (I64 (-lk isS a b c x y z)) (T.ask (lk absI c ≠ (0 : Int)) (T.br (U.gt
      (U.quo IntKind.i64 (lk absI (lk isS a b c x y z)) (lk absI c)) (1002 : Int)) (T.ret (SV.tup [SV.lit (Value.slice none (nat_lit 0) (nat_lit 0)), SV.lit (Value.int IntKind.i64 (7 :
      Int))])) (T.ask (PreR (nat_lit 0) (lk isL a b c x y z) (lk isH a b c x y z) (lk absI c) (lk absI (lk isS a b c x y z)) ((0 : Nat) + (1 : Nat)) ∧ (0 : Nat) + (1 : Nat) = (0 : Nat) +
      (1 : Nat)) (T.ask (U.add IntKind.i64 (lk isH a b c x y z) (lk absI c) < b → U.lt c (0 : Int) = true → I64 (-lk absI c)) (T.br (lk isE (lk rnL (U.add IntKind.i64 (lk isH a b c x y z)
      (lk absI c)) b (lk absI c) (U.lt c (0 : Int))) (lk rnH (U.add IntKind.i64 (lk isH a b c x y z) (lk absI c)) b (lk absI c) (U.lt c (0 : Int))) (lk rnS (U.add IntKind.i64 (lk isH a b
      c x y z) (lk absI c)) b (lk absI c) (U.lt c (0 : Int)))) (T.br (U.gt (Int.ofNat (nat_lit 1 + lk rM (lk absI c) (lk absI (lk isS a b c x y z)))) (1000 : Int)) (T.ret (SV.tup [SV.lit
      (Value.slice none (nat_lit 0) (nat_lit 0)), SV.lit (Value.int IntKind.i64 (7 : Int))])) (T.ret (SV.tup [SV.row [Sh.int IntKind.i64, Sh.int IntKind.i64, Sh.int IntKind.i64] (nat_lit
      1 + lk rM (lk absI c) (lk absI (lk isS a b c x y z))) (lk rpF (lk isL a b c x y z) (lk isH a b c x y z) (lk absI c) (lk absI (lk isS a b c x y z)) (U.lt c (0 : Int)) (nat_lit 1)
      (U.cat (nat_lit 0) (fun x => ((0 : Int), (0 : Int), (0 : Int), PUnit.unit)) fun x_1 => (lk rnL a (U.sub IntKind.i64 (lk isL a b c x y z) (lk absI c)) (lk absI c) (U.lt c (0 : Int)),
      lk rnH a (U.sub IntKind.i64 (lk isL a b c x y z) (lk absI c)) (lk absI c) (U.lt c (0 : Int)), lk rnS a (U.sub IntKind.i64 (lk isL a b c x y z) (lk absI c)) (lk absI c) (U.lt c (0 :
      Int)), PUnit.unit))), SV.lit (Value.int IntKind.i64 (0 : Int))]))) (T.ask (((0 : Nat) + (1 : Nat) + lk rM (lk absI c) (lk absI (lk isS a b c x y z)) + (1 : Nat)) * nat_lit 24 ≤
      nat_lit 140737488351232) (T.br (U.gt (Int.ofNat ((nat_lit 1 + lk rM (lk absI c) (lk absI (lk isS a b c x y z))).add (nat_lit 1))) (1000 : Int)) (T.ret (SV.tup [SV.lit (Value.slice
      none (nat_lit 0) (nat_lit 0)), SV.lit (Value.int IntKind.i64 (7 : Int))])) (T.ret (SV.tup [SV.row [Sh.int IntKind.i64, Sh.int IntKind.i64, Sh.int IntKind.i64] ((nat_lit 1 + lk rM
      (lk absI c) (lk absI (lk isS a b c x y z))).add (nat_lit 1)) (U.cat (nat_lit 1 + lk rM (lk absI c) (lk absI (lk isS a b c x y z))) (lk rpF (lk isL a b c x y z) (lk isH a b c x y z)
      (lk absI c) (lk absI (lk isS a b c x y z)) (U.lt c (0 : Int)) (nat_lit 1) (U.cat (nat_lit 0) (fun x => ((0 : Int), (0 : Int), (0 : Int), PUnit.unit)) fun x_1 => (lk rnL a (U.sub
      IntKind.i64 (lk isL a b c x y z) (lk absI c)) (lk absI c) (U.lt c (0 : Int)), lk rnH a (U.sub IntKind.i64 (lk isL a b c x y z) (lk absI c)) (lk absI c) (U.lt c (0 : Int)), lk rnS a
      (U.sub IntKind.i64 (lk isL a b c x y z) (lk absI c)) (lk absI c) (U.lt c (0 : Int)), PUnit.unit))) fun x_1 => (lk rnL (U.add IntKind.i64 (lk isH a b c x y z) (lk absI c)) b (lk absI
      c) (U.lt c (0 : Int)), lk rnH (U.add IntKind.i64 (lk isH a b c x y z) (lk absI c)) b (lk absI c) (U.lt c (0 : Int)), lk rnS (U.add IntKind.i64 (lk isH a b c x y z) (lk absI c)) b
      (lk absI c) (U.lt c (0 : Int)), PUnit.unit)), SV.lit (Value.int IntKind.i64 (0 : Int))])))))))))) (T.ask (U.add IntKind.i64 (lk isH a b c x y z) (lk absI c) < b → U.lt c (0 : Int) =
      true → I64 (-lk absI c)) (T.br (lk isE (lk rnL (U.add IntKind.i64 (lk isH a b c x y z) (lk absI c)) b (lk absI c) (U.lt c (0 : Int))) (lk rnH (U.add IntKind.i64 (lk isH a b c x y z)
      (lk absI c)) b (lk absI c) (U.lt c (0 : Int))) (lk rnS (U.add IntKind.i64 (lk isH a b c x y z) (lk absI c)) b (lk absI c) (U.lt c (0 : Int)))) (T.br (U.gt (1 : Int) (1000 : Int))
      (T.ret (SV.tup [SV.lit (Value.slice none (nat_lit 0) (nat_lit 0)), SV.lit (Value.int IntKind.i64 (7 : Int))])) (T.ret (SV.tup [SV.row [Sh.int IntKind.i64, Sh.int IntKind.i64, Sh.int
      IntKind.i64] (nat_lit 1) (U.cat (nat_lit 0) (fun x => ((0 : Int), (0 : Int), (0 : Int), PUnit.unit)) fun x_1 => (lk rnL a (U.sub IntKind.i64 (lk isL a b c x y z) (lk absI c)) (lk
      absI c) (U.lt c (0 : Int)), lk rnH a (U.sub IntKind.i64 (lk isL a b c x y z) (lk absI c)) (lk absI c) (U.lt c (0 : Int)), lk rnS a (U.sub IntKind.i64 (lk isL a b c x y z) (lk absI
      c)) (lk absI c) (U.lt c (0 : Int)), PUnit.unit)), SV.lit (Value.int IntKind.i64 (0 : Int))]))) (T.ask (((0 : Nat) + (1 : Nat) + (1 : Nat)) * nat_lit 24 ≤ nat_lit 140737488351232)
      (T.br (U.gt (2 : Int) (1000 : Int)) (T.ret (SV.tup [SV.lit (Value.slice none (nat_lit 0) (nat_lit 0)), SV.lit (Value.int IntKind.i64 (7 : Int))])) (T.ret (SV.tup [SV.row [Sh.int
      IntKind.i64, Sh.int IntKind.i64, Sh.int IntKind.i64] (nat_lit 2) (U.cat (nat_lit 1) (U.cat (nat_lit 0) (fun x => ((0 : Int), (0 : Int), (0 : Int), PUnit.unit)) fun x_1 => (lk rnL a
      (U.sub IntKind.i64 (lk isL a b c x y z) (lk absI c)) (lk absI c) (U.lt c (0 : Int)), lk rnH a (U.sub IntKind.i64 (lk isL a b c x y z) (lk absI c)) (lk absI c) (U.lt c (0 : Int)), lk
      rnS a (U.sub IntKind.i64 (lk isL a b c x y z) (lk absI c)) (lk absI c) (U.lt c (0 : Int)), PUnit.unit)) fun x_1 => (lk rnL (U.add IntKind.i64 (lk isH a b c x y z) (lk absI c)) b (lk
      absI c) (U.lt c (0 : Int)), lk rnH (U.add IntKind.i64 (lk isH a b c x y z) (lk absI c)) b (lk absI c) (U.lt c (0 : Int)), lk rnS (U.add IntKind.i64 (lk isH a b c x y z) (lk absI c))
      b (lk absI c) (U.lt c (0 : Int)), PUnit.unit)), SV.lit (Value.int IntKind.i64 (0 : Int))]))))))))))))) := by kernel_rfl
end Go.RX.Span

/- The program's Subtract: the loop's states. -/
set_option linter.unusedVariables false
set_option linter.unusedSimpArgs false
namespace Go.RX.Span
open Go Go.RX

noncomputable abbrev ku : List (Nat × Con) := (116, c_checked) :: (117, c_common) :: k8
theorem ku_ok : ∀ p ∈ ku, ConOK P p.1 p.2 := by
  intro p hp
  simp only [ku, List.mem_cons] at hp
  rcases hp with rfl | rfl | hp
  · exact checked_ok
  · exact common_ok
  · exact k8_ok p (by simpa [k8] using hp)
noncomputable abbrev Eu : Env := ⟨P, conOf ku, scall P (conOf ku) noLoops 10⟩
theorem Eu_ok : EnvOK Eu := envOK (allOK mixed ku_ok) 10
structure XP where
  (a b c x y z F S C G B D : Int) (u : Bool) (n : Nat) (f : Nat → R3) (j : Nat)
/-- The program's i-th inner piece. -/
def ppc (c S G B D : Int) (i : Nat) : R3 := pc (G + S * (i + 1)) B (D - 1) c
def pM (S B D : Int) (n : Nat) : Nat := if 1 < D then min (rM S B) (1001 - n) else 0
noncomputable def ppF (c S G B D : Int) (n : Nat) (f : Nat → R3) : Nat → R3 := U.cat n f (ppc c S G B D)
def Dv (s t : Int) : Prop := ∃ m : Int, t = s * m
def PreP (n0 : Nat) (S G B D : Int) (u : Bool) (n : Nat) : Prop := n0 = 0 ∧ (1 ≤ S ∧ S ≤ 2000000) ∧ (1 ≤ B ∧ B ≤ 4000000000000) ∧ (1 ≤ D ∧ D ≤ 2000001) ∧ (-1000000 ≤ G ∧ G + B * (D - 1) ≤ 1000000) ∧ (1 < D → Dv S B) ∧ n ≤ 1
noncomputable def memP (a b c x y z F S C G B D : Int) (u : Bool) (n : Nat) (f : Nat → R3) : Mem := [(0, some (.cells [.lit (.int .i64 a), .lit (.int .i64 b), .lit (.int .i64 c)] 23)), (0, some (.cells [.lit (.int .i64 x), .lit (.int .i64 y), .lit (.int .i64 z)] 23)), (0, some (.cells [.lit (.int .i64 F), .lit (.int .i64 S), .lit (.int .i64 C)] 99)), (0, some (.cells [.lit (.int .i64 G), .lit (.int .i64 B), .lit (.int .i64 D)] 99)), (0, some (.cells [.own u 8 n] 50)), (0, none), (0, none), (0, none), (0, some (.row u n [.int .i64, .int .i64, .int .i64] f 23))]
def pU (u : Bool) (j : Nat) : Bool := u && decide (j = 0)
noncomputable def VP (q : XP) : Few := ([.ptr 0 0, .ptr 2 0, .ptr 3 0, .ptr 4 0, .fn (.func 120) [] [.ptr 4 0, .ptr 0 0], .lit (.int .i64 (q.S * ((q.j + 1 : Nat) : Int)))], memP q.a q.b q.c q.x q.y q.z q.F q.S q.C q.G q.B q.D (pU q.u q.j) (q.n + q.j) (ppF q.c q.S q.G q.B q.D q.n q.f))
noncomputable def OP (q : XP) : Ex × Few := (.exit 0, ([.ptr 0 0, .ptr 2 0, .ptr 3 0, .ptr 4 0, .fn (.func 120) [] [.ptr 4 0, .ptr 0 0], .any], memP q.a q.b q.c q.x q.y q.z q.F q.S q.C q.G q.B q.D (pU q.u (pM q.S q.B q.D q.n)) (q.n + pM q.S q.B q.D q.n) (ppF q.c q.S q.G q.B q.D q.n q.f)))
def PhiP (n0 : Nat) (q : XP) : Prop := PreP n0 q.S q.G q.B q.D q.u q.n ∧ q.j ≤ pM q.S q.B q.D q.n
noncomputable def oP (a b c x y z F S C G B D : Int) (u : Bool) (n : Nat) (f : Nat → R3) : Ex × Few := (.exit 0, ([.ptr 0 0, .ptr 2 0, .ptr 3 0, .ptr 4 0, .fn (.func 120) [] [.ptr 4 0, .ptr 0 0], .any],
  [(0, some (.cells [.lit (.int .i64 a), .lit (.int .i64 b), .lit (.int .i64 c)] 23)), (0, some (.cells [.lit (.int .i64 x), .lit (.int .i64 y), .lit (.int .i64 z)] 23)), (0, some (.cells [.lit (.int .i64 F), .lit (.int .i64 S), .lit (.int .i64 C)] 99)), (0, some (.cells [.lit (.int .i64 G), .lit (.int .i64 B), .lit (.int .i64 D)] 99)), (0, some (.cells [.own (lk pU u (pM S B D n)) 8 (n + lk pM S B D n)] 50)), (0, none), (0, none), (0, none), (0, some (.row (lk pU u (pM S B D n)) (n + lk pM S B D n) [.int .i64, .int .i64, .int .i64] (lk ppF c S G B D n f) 23))]))
noncomputable def gP : Nat → Few → T (Ex × Few)
  | n0, ([.ptr 0 0, .ptr 2 0, .ptr 3 0, .ptr 4 0, .fn (.func 120) [] [.ptr 4 0, .ptr 0 0], .lit (.int .i64 k)], [(_, some (.cells [.lit (.int .i64 a), .lit (.int .i64 b), .lit (.int .i64 c)] 23)), (_, some (.cells [.lit (.int .i64 x), .lit (.int .i64 y), .lit (.int .i64 z)] 23)), (_, some (.cells [.lit (.int .i64 F), .lit (.int .i64 S), .lit (.int .i64 C)] 99)), (_, some (.cells [.lit (.int .i64 G), .lit (.int .i64 B), .lit (.int .i64 D)] 99)), (_, some (.cells [.lit (.slice none 0 0)] 50)), _]) =>
    .ask (PreP n0 S G B D true 0 ∧ k = S) (.ret (oP a b c x y z F S C G B D true 0 fun _ => ((0 : Int), (0 : Int), (0 : Int), ())))
  | n0, ([.ptr 0 0, .ptr 2 0, .ptr 3 0, .ptr 4 0, .fn (.func 120) [] [.ptr 4 0, .ptr 0 0], .lit (.int .i64 k)], [(_, some (.cells [.lit (.int .i64 a), .lit (.int .i64 b), .lit (.int .i64 c)] 23)), (_, some (.cells [.lit (.int .i64 x), .lit (.int .i64 y), .lit (.int .i64 z)] 23)), (_, some (.cells [.lit (.int .i64 F), .lit (.int .i64 S), .lit (.int .i64 C)] 99)), (_, some (.cells [.lit (.int .i64 G), .lit (.int .i64 B), .lit (.int .i64 D)] 99)), (_, some (.cells [.own false 8 n'] 50)), _, _, _, (_, some (.row false n [.int .i64, .int .i64, .int .i64] f 23))]) =>
    .ask (PreP n0 S G B D false n ∧ k = S ∧ n' = n) (.ret (oP a b c x y z F S C G B D false n f))
  | _, _ => .stuck 1
noncomputable abbrev l52 : List (Nat × Loops) := [(52, [(13, .sum (few 103 [2, 7, 8, 9, 10, 11] gP))])]
theorem pc_asks {f s C c : Int} (hs : 1 ≤ s) (hs2 : s ≤ 4000000000000) (hC : 1 ≤ C) (hC2 : C ≤ 2000001) (h1 : -1000000 ≤ f) (h2 : f + s * (C - 1) ≤ 1000000) :
    (c < 0 → C ≠ 0 → I64 (C - 1) ∧ I64 (s * (C - 1)) ∧ I64 (f + s * (C - 1)) ∧ I64 (-s)) ∧ (0 < C → I64 (C - 1) ∧ I64 (kB f s C c * (C - 1)) ∧ I64 (kF f s C c + kB f s C c * (C - 1))) := by
  have m0 := mulle (x := 0) (y := C - 1) hs (by omega)
  rw [Int.mul_zero] at m0
  obtain ⟨q1, q2⟩ := like_bnd (f := f) (s := s) (C := C) (c := c) (by omega)
  unfold I64
  refine ⟨fun _ _ => by omega, fun _ => ⟨by omega, ?_, ?_⟩⟩
  · rcases q1 with h | h <;> omega
  · rcases q2 with h | h <;> omega
theorem pc_eq {f s C c : Int} (hs : 1 ≤ s) : (nLow (kF f s C c) (kB f s C c) C, nHigh (kF f s C c) (kB f s C c) C, nStr (kF f s C c) (kB f s C c) C, ()) = pc f s C c := by
  obtain ⟨q1, q2, q3, q4⟩ := nrm_like (f := f) (s := s) (C := C) (c := c) hs
  unfold pc
  rw [q2, q3, q4]
  rfl
end Go.RX.Span

/- The program's Subtract: the walks. -/
set_option linter.unusedVariables false
set_option linter.unusedSimpArgs false
set_option maxRecDepth 100000
namespace Go.RX.Span
open Go Go.RX
attribute [local irreducible] sx conB

set_option maxRecDepth 100000 in
theorem t_P (n0 : Nat) (a b c x y z F S C G B D k : Int) (u : Bool) (n : Nat) (f : Nat → R3) : (sx Eu [] n0 (loopOf P 52 13) (mkS 103 [2, 7, 8, 9, 10, 11] [.ptr 0 0, .ptr 2 0, .ptr 3 0, .ptr 4 0, .fn (.func 120) [] [.ptr 4 0, .ptr 0 0], .lit (.int .i64 k)], memP a b c x y z F S C G B D u n f)).bind (proj 103 [2, 7, 8, 9, 10, 11]) =
    T.br (U.gt D (1 : Int)) (T.br (U.lt k B) (T.br (U.le (Int.ofNat n) (1000 : Int)) (T.br (U.gt (U.sub IntKind.i64 D (1 : Int)) (0 : Int)) (T.br (U.le (Int.ofNat n) (1000 : Int))
      (T.ask (c < (0 : Int) → U.sub IntKind.i64 D (1 : Int) ≠ (0 : Int) → I64 (U.sub IntKind.i64 D (1 : Int) - (1 : Int)) ∧ I64 (B * (U.sub IntKind.i64 D (1 : Int) - (1 : Int))) ∧ I64
      (U.add IntKind.i64 G k + B * (U.sub IntKind.i64 D (1 : Int) - (1 : Int))) ∧ I64 (-B)) (T.ask ((0 : Int) < U.sub IntKind.i64 D (1 : Int) → I64 (U.sub IntKind.i64 D (1 : Int) - (1 :
      Int)) ∧ I64 (lk kB (U.add IntKind.i64 G k) B (U.sub IntKind.i64 D (1 : Int)) c * (U.sub IntKind.i64 D (1 : Int) - (1 : Int))) ∧ I64 (lk kF (U.add IntKind.i64 G k) B (U.sub
      IntKind.i64 D (1 : Int)) c + lk kB (U.add IntKind.i64 G k) B (U.sub IntKind.i64 D (1 : Int)) c * (U.sub IntKind.i64 D (1 : Int) - (1 : Int)))) (T.ask ((n + (1 : Nat)) * nat_lit 24 ≤
      nat_lit 140737488351232) (T.ret (Ex.normal, [SV.ptr (nat_lit 0) (nat_lit 0), SV.ptr (nat_lit 2) (nat_lit 0), SV.ptr (nat_lit 3) (nat_lit 0), SV.ptr (nat_lit 4) (nat_lit 0), SV.fn
      (Fn.func (nat_lit 120)) [] [SV.ptr (nat_lit 4) (nat_lit 0), SV.ptr (nat_lit 0) (nat_lit 0)], SV.lit (Value.int IntKind.i64 (U.add IntKind.i64 k S))], [(nat_lit 0, some (Blk.cells
      [SV.lit (Value.int IntKind.i64 a), SV.lit (Value.int IntKind.i64 b), SV.lit (Value.int IntKind.i64 c)] (nat_lit 23))), (nat_lit 0, some (Blk.cells [SV.lit (Value.int IntKind.i64 x),
      SV.lit (Value.int IntKind.i64 y), SV.lit (Value.int IntKind.i64 z)] (nat_lit 23))), (nat_lit 0, some (Blk.cells [SV.lit (Value.int IntKind.i64 F), SV.lit (Value.int IntKind.i64 S),
      SV.lit (Value.int IntKind.i64 C)] (nat_lit 99))), (nat_lit 0, some (Blk.cells [SV.lit (Value.int IntKind.i64 G), SV.lit (Value.int IntKind.i64 B), SV.lit (Value.int IntKind.i64 D)]
      (nat_lit 99))), (nat_lit 1, some (Blk.cells [SV.own false (nat_lit 12) (n.add (nat_lit 1))] (nat_lit 50))), (nat_lit 0, none), (nat_lit 0, none), (nat_lit 0, none), (nat_lit 1,
      none), (nat_lit 0, some (Blk.cells [SV.lit (Value.int IntKind.i64 (U.add IntKind.i64 G k)), SV.lit (Value.int IntKind.i64 B), SV.lit (Value.int IntKind.i64 (U.sub IntKind.i64 D (1 :
      Int)))] (nat_lit 99))), (nat_lit 0, some (Blk.cells [SV.lit (Value.int IntKind.i64 (lk nLow (lk kF (U.add IntKind.i64 G k) B (U.sub IntKind.i64 D (1 : Int)) c) (lk kB (U.add
      IntKind.i64 G k) B (U.sub IntKind.i64 D (1 : Int)) c) (U.sub IntKind.i64 D (1 : Int)))), SV.lit (Value.int IntKind.i64 (lk nHigh (lk kF (U.add IntKind.i64 G k) B (U.sub IntKind.i64
      D (1 : Int)) c) (lk kB (U.add IntKind.i64 G k) B (U.sub IntKind.i64 D (1 : Int)) c) (U.sub IntKind.i64 D (1 : Int)))), SV.lit (Value.int IntKind.i64 (lk nStr (lk kF (U.add
      IntKind.i64 G k) B (U.sub IntKind.i64 D (1 : Int)) c) (lk kB (U.add IntKind.i64 G k) B (U.sub IntKind.i64 D (1 : Int)) c) (U.sub IntKind.i64 D (1 : Int))))] (nat_lit 23))), (nat_lit
      0, some (Blk.cells [SV.lit (Value.int IntKind.i64 (lk nLow (lk kF (U.add IntKind.i64 G k) B (U.sub IntKind.i64 D (1 : Int)) c) (lk kB (U.add IntKind.i64 G k) B (U.sub IntKind.i64 D
      (1 : Int)) c) (U.sub IntKind.i64 D (1 : Int)))), SV.lit (Value.int IntKind.i64 (lk nHigh (lk kF (U.add IntKind.i64 G k) B (U.sub IntKind.i64 D (1 : Int)) c) (lk kB (U.add
      IntKind.i64 G k) B (U.sub IntKind.i64 D (1 : Int)) c) (U.sub IntKind.i64 D (1 : Int)))), SV.lit (Value.int IntKind.i64 (lk nStr (lk kF (U.add IntKind.i64 G k) B (U.sub IntKind.i64 D
      (1 : Int)) c) (lk kB (U.add IntKind.i64 G k) B (U.sub IntKind.i64 D (1 : Int)) c) (U.sub IntKind.i64 D (1 : Int))))] (nat_lit 23))), (nat_lit 0, some (Blk.row false (n.add (nat_lit
      1)) [Sh.int IntKind.i64, Sh.int IntKind.i64, Sh.int IntKind.i64] (U.cat n f fun x => (lk nLow (lk kF (U.add IntKind.i64 G k) B (U.sub IntKind.i64 D (1 : Int)) c) (lk kB (U.add
      IntKind.i64 G k) B (U.sub IntKind.i64 D (1 : Int)) c) (U.sub IntKind.i64 D (1 : Int)), lk nHigh (lk kF (U.add IntKind.i64 G k) B (U.sub IntKind.i64 D (1 : Int)) c) (lk kB (U.add
      IntKind.i64 G k) B (U.sub IntKind.i64 D (1 : Int)) c) (U.sub IntKind.i64 D (1 : Int)), lk nStr (lk kF (U.add IntKind.i64 G k) B (U.sub IntKind.i64 D (1 : Int)) c) (lk kB (U.add
      IntKind.i64 G k) B (U.sub IntKind.i64 D (1 : Int)) c) (U.sub IntKind.i64 D (1 : Int)), PUnit.unit)) (nat_lit 23)))]))))) (T.ret (Ex.normal, [SV.ptr (nat_lit 0) (nat_lit 0), SV.ptr
      (nat_lit 2) (nat_lit 0), SV.ptr (nat_lit 3) (nat_lit 0), SV.ptr (nat_lit 4) (nat_lit 0), SV.fn (Fn.func (nat_lit 120)) [] [SV.ptr (nat_lit 4) (nat_lit 0), SV.ptr (nat_lit 0)
      (nat_lit 0)], SV.lit (Value.int IntKind.i64 (U.add IntKind.i64 k S))], [(nat_lit 0, some (Blk.cells [SV.lit (Value.int IntKind.i64 a), SV.lit (Value.int IntKind.i64 b), SV.lit
      (Value.int IntKind.i64 c)] (nat_lit 23))), (nat_lit 0, some (Blk.cells [SV.lit (Value.int IntKind.i64 x), SV.lit (Value.int IntKind.i64 y), SV.lit (Value.int IntKind.i64 z)]
      (nat_lit 23))), (nat_lit 0, some (Blk.cells [SV.lit (Value.int IntKind.i64 F), SV.lit (Value.int IntKind.i64 S), SV.lit (Value.int IntKind.i64 C)] (nat_lit 99))), (nat_lit 0, some
      (Blk.cells [SV.lit (Value.int IntKind.i64 G), SV.lit (Value.int IntKind.i64 B), SV.lit (Value.int IntKind.i64 D)] (nat_lit 99))), (nat_lit 0, some (Blk.cells [SV.own u (nat_lit 8)
      n] (nat_lit 50))), (nat_lit 0, none), (nat_lit 0, none), (nat_lit 0, none), (nat_lit 0, some (Blk.row u n [Sh.int IntKind.i64, Sh.int IntKind.i64, Sh.int IntKind.i64] f (nat_lit
      23))), (nat_lit 0, some (Blk.cells [SV.lit (Value.int IntKind.i64 (U.add IntKind.i64 G k)), SV.lit (Value.int IntKind.i64 B), SV.lit (Value.int IntKind.i64 (U.sub IntKind.i64 D (1 :
      Int)))] (nat_lit 99)))]))) (T.ret (Ex.normal, [SV.ptr (nat_lit 0) (nat_lit 0), SV.ptr (nat_lit 2) (nat_lit 0), SV.ptr (nat_lit 3) (nat_lit 0), SV.ptr (nat_lit 4) (nat_lit 0), SV.fn
      (Fn.func (nat_lit 120)) [] [SV.ptr (nat_lit 4) (nat_lit 0), SV.ptr (nat_lit 0) (nat_lit 0)], SV.lit (Value.int IntKind.i64 (U.add IntKind.i64 k S))], [(nat_lit 0, some (Blk.cells
      [SV.lit (Value.int IntKind.i64 a), SV.lit (Value.int IntKind.i64 b), SV.lit (Value.int IntKind.i64 c)] (nat_lit 23))), (nat_lit 0, some (Blk.cells [SV.lit (Value.int IntKind.i64 x),
      SV.lit (Value.int IntKind.i64 y), SV.lit (Value.int IntKind.i64 z)] (nat_lit 23))), (nat_lit 0, some (Blk.cells [SV.lit (Value.int IntKind.i64 F), SV.lit (Value.int IntKind.i64 S),
      SV.lit (Value.int IntKind.i64 C)] (nat_lit 99))), (nat_lit 0, some (Blk.cells [SV.lit (Value.int IntKind.i64 G), SV.lit (Value.int IntKind.i64 B), SV.lit (Value.int IntKind.i64 D)]
      (nat_lit 99))), (nat_lit 0, some (Blk.cells [SV.own u (nat_lit 8) n] (nat_lit 50))), (nat_lit 0, none), (nat_lit 0, none), (nat_lit 0, none), (nat_lit 0, some (Blk.row u n [Sh.int
      IntKind.i64, Sh.int IntKind.i64, Sh.int IntKind.i64] f (nat_lit 23))), (nat_lit 0, some (Blk.cells [SV.lit (Value.int IntKind.i64 (U.add IntKind.i64 G k)), SV.lit (Value.int
      IntKind.i64 B), SV.lit (Value.int IntKind.i64 (U.sub IntKind.i64 D (1 : Int)))] (nat_lit 99)))]))) (T.ret (Ex.exit (nat_lit 0), [SV.ptr (nat_lit 0) (nat_lit 0), SV.ptr (nat_lit 2)
      (nat_lit 0), SV.ptr (nat_lit 3) (nat_lit 0), SV.ptr (nat_lit 4) (nat_lit 0), SV.fn (Fn.func (nat_lit 120)) [] [SV.ptr (nat_lit 4) (nat_lit 0), SV.ptr (nat_lit 0) (nat_lit 0)],
      SV.lit (Value.int IntKind.i64 k)], [(nat_lit 0, some (Blk.cells [SV.lit (Value.int IntKind.i64 a), SV.lit (Value.int IntKind.i64 b), SV.lit (Value.int IntKind.i64 c)] (nat_lit
      23))), (nat_lit 0, some (Blk.cells [SV.lit (Value.int IntKind.i64 x), SV.lit (Value.int IntKind.i64 y), SV.lit (Value.int IntKind.i64 z)] (nat_lit 23))), (nat_lit 0, some (Blk.cells
      [SV.lit (Value.int IntKind.i64 F), SV.lit (Value.int IntKind.i64 S), SV.lit (Value.int IntKind.i64 C)] (nat_lit 99))), (nat_lit 0, some (Blk.cells [SV.lit (Value.int IntKind.i64 G),
      SV.lit (Value.int IntKind.i64 B), SV.lit (Value.int IntKind.i64 D)] (nat_lit 99))), (nat_lit 0, some (Blk.cells [SV.own u (nat_lit 8) n] (nat_lit 50))), (nat_lit 0, none), (nat_lit
      0, none), (nat_lit 0, none), (nat_lit 0, some (Blk.row u n [Sh.int IntKind.i64, Sh.int IntKind.i64, Sh.int IntKind.i64] f (nat_lit 23)))]))) (T.ret (Ex.exit (nat_lit 0), [SV.ptr
      (nat_lit 0) (nat_lit 0), SV.ptr (nat_lit 2) (nat_lit 0), SV.ptr (nat_lit 3) (nat_lit 0), SV.ptr (nat_lit 4) (nat_lit 0), SV.fn (Fn.func (nat_lit 120)) [] [SV.ptr (nat_lit 4)
      (nat_lit 0), SV.ptr (nat_lit 0) (nat_lit 0)], SV.lit (Value.int IntKind.i64 k)], [(nat_lit 0, some (Blk.cells [SV.lit (Value.int IntKind.i64 a), SV.lit (Value.int IntKind.i64 b),
      SV.lit (Value.int IntKind.i64 c)] (nat_lit 23))), (nat_lit 0, some (Blk.cells [SV.lit (Value.int IntKind.i64 x), SV.lit (Value.int IntKind.i64 y), SV.lit (Value.int IntKind.i64 z)]
      (nat_lit 23))), (nat_lit 0, some (Blk.cells [SV.lit (Value.int IntKind.i64 F), SV.lit (Value.int IntKind.i64 S), SV.lit (Value.int IntKind.i64 C)] (nat_lit 99))), (nat_lit 0, some
      (Blk.cells [SV.lit (Value.int IntKind.i64 G), SV.lit (Value.int IntKind.i64 B), SV.lit (Value.int IntKind.i64 D)] (nat_lit 99))), (nat_lit 0, some (Blk.cells [SV.own u (nat_lit 8)
      n] (nat_lit 50))), (nat_lit 0, none), (nat_lit 0, none), (nat_lit 0, none), (nat_lit 0, some (Blk.row u n [Sh.int IntKind.i64, Sh.int IntKind.i64, Sh.int IntKind.i64] f (nat_lit
      23)))]))) (T.ret (Ex.exit (nat_lit 0), [SV.ptr (nat_lit 0) (nat_lit 0), SV.ptr (nat_lit 2) (nat_lit 0), SV.ptr (nat_lit 3) (nat_lit 0), SV.ptr (nat_lit 4) (nat_lit 0), SV.fn
      (Fn.func (nat_lit 120)) [] [SV.ptr (nat_lit 4) (nat_lit 0), SV.ptr (nat_lit 0) (nat_lit 0)], SV.lit (Value.int IntKind.i64 k)], [(nat_lit 0, some (Blk.cells [SV.lit (Value.int
      IntKind.i64 a), SV.lit (Value.int IntKind.i64 b), SV.lit (Value.int IntKind.i64 c)] (nat_lit 23))), (nat_lit 0, some (Blk.cells [SV.lit (Value.int IntKind.i64 x), SV.lit (Value.int
      IntKind.i64 y), SV.lit (Value.int IntKind.i64 z)] (nat_lit 23))), (nat_lit 0, some (Blk.cells [SV.lit (Value.int IntKind.i64 F), SV.lit (Value.int IntKind.i64 S), SV.lit (Value.int
      IntKind.i64 C)] (nat_lit 99))), (nat_lit 0, some (Blk.cells [SV.lit (Value.int IntKind.i64 G), SV.lit (Value.int IntKind.i64 B), SV.lit (Value.int IntKind.i64 D)] (nat_lit 99))),
      (nat_lit 0, some (Blk.cells [SV.own u (nat_lit 8) n] (nat_lit 50))), (nat_lit 0, none), (nat_lit 0, none), (nat_lit 0, none), (nat_lit 0, some (Blk.row u n [Sh.int IntKind.i64,
      Sh.int IntKind.i64, Sh.int IntKind.i64] f (nat_lit 23)))])) := by kernel_rfl
theorem roundP (n0 : Nat) (q : XP) (hq : PhiP n0 q) : ((sx Eu [] n0 (loopOf P 52 13) (mkS 103 [2, 7, 8, 9, 10, 11] (VP q).1, (VP q).2)).bind (proj 103 [2, 7, 8, 9, 10, 11])).All fun r => match r.1 with
      | .normal => ∃ q', PhiP n0 q' ∧ pM q'.S q'.B q'.D q'.n - q'.j < pM q.S q.B q.D q.n - q.j ∧ Wk 103 [2, 7, 8, 9, 10, 11] n0 r.2 (VP q') ∧ ∀ o, o = OP q' → o = OP q
      | e => ∃ s, (e, s) = OP q ∧ Wk 103 [2, 7, 8, 9, 10, 11] n0 r.2 s := by
  unfold VP
  dsimp only
  rw [t_P]
  obtain ⟨a, b, c, x, y, z, F, S, C, G, B, D, u, n, f, j⟩ := q
  obtain ⟨⟨h0, ⟨s1, s2⟩, ⟨b1, b2⟩, ⟨d1, d2⟩, ⟨g1, g2⟩, hm, hn⟩, hj⟩ := hq
  simp only [] at h0 s1 s2 b1 b2 d1 d2 g1 g2 hm hn hj
  subst h0
  dsimp only
  have hu : pU u (j + 1) = false := by unfold pU; simp
  have fin : j = pM S B D n → ∃ s, ((Ex.exit 0, s) : Ex × Few) = OP ⟨a, b, c, x, y, z, F, S, C, G, B, D, u, n, f, j⟩ ∧ Wk 103 [2, 7, 8, 9, 10, 11] 0 ([.ptr 0 0, .ptr 2 0, .ptr 3 0, .ptr 4 0, .fn (.func 120) [] [.ptr 4 0, .ptr 0 0], .lit (.int .i64 (S * ((j + 1 : Nat) : Int)))], memP a b c x y z F S C G B D (pU u j) (n + j) (ppF c S G B D n f)) s := fun hj => by
    refine ⟨_, rfl, ?_⟩
    subst hj
    exact wk_of (idR 9) rfl (Nat.zero_le _) (fun b hb => by omega) ⟨⟨rfl, rfl⟩, ⟨rfl, rfl⟩, ⟨rfl, rfl⟩, ⟨rfl, rfl⟩, ⟨rfl, trivial, ⟨rfl, rfl⟩, ⟨rfl, rfl⟩, trivial⟩, trivial, trivial⟩ ⟨⟨rfl, rfl, rfl, rfl, trivial⟩, ⟨rfl, rfl, rfl, rfl, trivial⟩, ⟨rfl, rfl, rfl, rfl, trivial⟩, ⟨rfl, rfl, rfl, rfl, trivial⟩, ⟨rfl, ⟨rfl, rfl, rfl⟩, trivial⟩, ⟨rfl, rfl, rfl, sameRow_refl _ _⟩, trivial⟩
  by_cases hD : 1 < D
  · have hMs := rM_spec s1 b1 (hm hD)
    have hp : pM S B D n = min (rM S B) (1001 - n) := by unfold pM; rw [if_pos hD]
    rw [hp] at hj fin
    have m0 := mulle (s := S) (x := 0) (y := ((j + 1 : Nat) : Int)) s1 (by omega)
    have m1 := mulle (s := S) (x := ((j + 1 : Nat) : Int)) (y := (rM S B : Int) + 1) s1 (by omega)
    have hBD := mulle (s := B) (x := 1) (y := D - 1) b1 (by omega)
    have hB2 : B ≤ 2000000 := by omega
    by_cases hlt : j < rM S B
    · have m2 := mulle (s := S) (x := ((j + 1 : Nat) : Int) + 1) (y := (rM S B : Int) + 1) s1 (by omega)
      rw [Int.mul_add, Int.mul_one] at m2
      by_cases hle : n + j ≤ 1000
      · have e1 : U.sub .i64 D 1 = D - 1 := U.sub64 (by unfold I64; omega)
        have e2 : U.add .i64 G (S * ((j + 1 : Nat) : Int)) = G + S * ((j + 1 : Nat) : Int) := U.add64 (by unfold I64; omega)
        have e4 : S * ((j + 1 + 1 : Nat) : Int) = S * ((j + 1 : Nat) : Int) + S := by
          have : ((j + 1 + 1 : Nat) : Int) = ((j + 1 : Nat) : Int) + 1 := rfl
          rw [this, Int.mul_add, Int.mul_one]
        have e3 : U.add .i64 (S * ((j + 1 : Nat) : Int)) S = S * ((j + 1 + 1 : Nat) : Int) := by rw [U.add64 (by unfold I64; omega), e4]
        have hlast : B * (D - 1 - 1) = B * (D - 1) - B := by rw [Int.mul_sub B (D - 1) 1, Int.mul_one]
        obtain ⟨a1, a2⟩ := pc_asks (f := G + S * ((j + 1 : Nat) : Int)) (s := B) (C := D - 1) (c := c) b1 b2 (by omega) (by omega) (by omega) (by omega)
        have ep := pc_eq (f := G + S * ((j + 1 : Nat) : Int)) (s := B) (C := D - 1) (c := c) b1
        simp only [e1, e2, e3]
        simp only [T.All, U.le_t, U.le_f, U.lt_t, U.lt_f, U.gt_t, U.gt_f, U.ge_t, U.ge_f, U.eq_t, U.eq_f, U.ne_t, U.ne_f, U.not_t, U.not_f, U.andb_t, U.andb_f, SV.lit.injEq, SV.agg.injEq, SV.tup.injEq, List.cons.injEq, Value.int.injEq, Value.bool.injEq, true_and, and_true, lk_eq, Int.ofNat_eq_natCast]
        refine ⟨fun _ => ⟨fun _ => ⟨fun _ => ⟨fun _ => ⟨fun _ => ⟨a1, a2, by omega, ?_⟩, fun h => by omega⟩, fun h => by omega⟩, fun h => by omega⟩, fun h => by omega⟩, fun h => by omega⟩
        refine ⟨⟨a, b, c, x, y, z, F, S, C, G, B, D, u, n, f, j + 1⟩, ⟨⟨rfl, ⟨s1, s2⟩, ⟨b1, b2⟩, ⟨d1, d2⟩, ⟨g1, g2⟩, hm, hn⟩, ?_⟩, ?_, ?_, fun o ho => ho⟩
        · show j + 1 ≤ pM S B D n
          rw [hp]; omega
        · show pM S B D n - (j + 1) < pM S B D n - j
          rw [hp]; omega
        refine wk_of [some 0, some 1, some 2, some 3, some 4, none, none, none, some 12] rfl (Nat.zero_le _) (fun b hb => by omega) ⟨⟨rfl, rfl⟩, ⟨rfl, rfl⟩, ⟨rfl, rfl⟩, ⟨rfl, rfl⟩, ⟨rfl, trivial, ⟨rfl, rfl⟩, ⟨rfl, rfl⟩, trivial⟩, rfl, trivial⟩ ⟨⟨rfl, rfl, rfl, rfl, trivial⟩, ⟨rfl, rfl, rfl, rfl, trivial⟩, ⟨rfl, rfl, rfl, rfl, trivial⟩, ⟨rfl, rfl, rfl, rfl, trivial⟩, ⟨rfl, ⟨hu.symm, rfl, rfl⟩, trivial⟩, ⟨rfl, hu.symm, rfl, sameR fun i hi => ?_⟩, trivial⟩
        by_cases hi' : i < n + j
        · exact cat_l hi'
        · have : i = n + j := by have hi2 : i < n + j + 1 := hi; omega
          subst this
          refine (cat_r (Nat.le_refl _)).trans ?_
          show _ = ppF c S G B D n f (n + j)
          unfold ppF
          refine Eq.trans ?_ (cat_r (by omega)).symm
          rw [show n + j - n = j by omega]
          exact ep
      · simp only [T.All, U.le_t, U.le_f, U.lt_t, U.lt_f, U.gt_t, U.gt_f, U.ge_t, U.ge_f, U.eq_t, U.eq_f, U.ne_t, U.ne_f, U.not_t, U.not_f, U.andb_t, U.andb_f, SV.lit.injEq, SV.agg.injEq, SV.tup.injEq, List.cons.injEq, Value.int.injEq, Value.bool.injEq, true_and, and_true, lk_eq, Int.ofNat_eq_natCast]
        refine ⟨fun _ => ⟨fun _ => ⟨fun h => by omega, fun _ => fin (by omega)⟩, fun _ => fin (by omega)⟩, fun _ => fin (by omega)⟩
    · have hjM : j = rM S B := by omega
      have hnot : ¬ S * ((j + 1 : Nat) : Int) < B := by
        have : ((j + 1 : Nat) : Int) = (rM S B : Int) + 1 := by omega
        rw [this]; omega
      simp only [T.All, U.le_t, U.le_f, U.lt_t, U.lt_f, U.gt_t, U.gt_f, U.ge_t, U.ge_f, U.eq_t, U.eq_f, U.ne_t, U.ne_f, U.not_t, U.not_f, U.andb_t, U.andb_f, SV.lit.injEq, SV.agg.injEq, SV.tup.injEq, List.cons.injEq, Value.int.injEq, Value.bool.injEq, true_and, and_true, lk_eq]
      refine ⟨fun _ => ⟨fun h => absurd h hnot, fun _ => fin (by omega)⟩, fun _ => fin (by omega)⟩
  · have hp : pM S B D n = 0 := by unfold pM; rw [if_neg hD]
    rw [hp] at hj fin
    simp only [T.All, U.le_t, U.le_f, U.lt_t, U.lt_f, U.gt_t, U.gt_f, U.ge_t, U.ge_f, U.eq_t, U.eq_f, U.ne_t, U.ne_f, U.not_t, U.not_f, U.andb_t, U.andb_f, SV.lit.injEq, SV.agg.injEq, SV.tup.injEq, List.cons.injEq, Value.int.injEq, Value.bool.injEq, true_and, and_true, lk_eq]
    exact ⟨fun h => absurd h hD, fun _ => fin (by omega)⟩
theorem loopP : LoopOK P (loopOf P 52 13) (few 103 [2, 7, 8, 9, 10, 11] gP) :=
  loop_few (E := Eu) mixed Eu_ok loopsOK_none 103 [2, 7, 8, 9, 10, 11] (X := XP) gP (fun _ x => VP x) PhiP (fun q => pM q.S q.B q.D q.n - q.j) (fun _ x o => o = OP x)
    (fun n0 st r h => by
      have key : ∀ (a b c x y z F S C G B D : Int) (u : Bool) (n : Nat) (f : Nat → R3) (o : Ex × Few), o = OP ⟨a, b, c, x, y, z, F, S, C, G, B, D, u, n, f, 0⟩ → o = oP a b c x y z F S C G B D u n f := fun a b c x y z F S C G B D u n f o ho => by
        rw [ho]; simp only [OP, oP, lk_eq, memP]
      have same0 : ∀ (c S G B D : Int) (n : Nat) (f : Nat → R3) (i : Nat), i < n → f i = ppF c S G B D n f i := fun c S G B D n f i hi => (cat_l hi).symm
      unfold gP at h
      split at h
      · rename_i n0 k g0 a b c g1 x y z g2 F S C g3 G B D g4 g5
        obtain ⟨hp, hk⟩ := (T.is_ask h).1
        obtain rfl := T.is_ret (T.is_ask h).2
        have hp' := hp
        obtain ⟨h0, _⟩ := hp'
        subst h0; subst hk
        refine ⟨⟨a, b, c, x, y, z, F, k, C, G, B, D, true, 0, fun _ => ((0 : Int), (0 : Int), (0 : Int), ()), 0⟩, ⟨hp, Nat.zero_le _⟩, ?_, fun o ho => key _ _ _ _ _ _ _ _ _ _ _ _ _ _ _ o ho⟩
        exact wk_of [some 0, some 1, some 2, some 3, some 4, none, none, none, none] rfl (Nat.zero_le _) (fun b hb => by omega) ⟨⟨rfl, rfl⟩, ⟨rfl, rfl⟩, ⟨rfl, rfl⟩, ⟨rfl, rfl⟩, ⟨rfl, trivial, ⟨rfl, rfl⟩, ⟨rfl, rfl⟩, trivial⟩, by show Value.int .i64 k = Value.int .i64 (k * 1); rw [Int.mul_one], trivial⟩ ⟨⟨rfl, rfl, rfl, rfl, trivial⟩, ⟨rfl, rfl, rfl, rfl, trivial⟩, ⟨rfl, rfl, rfl, rfl, trivial⟩, ⟨rfl, rfl, rfl, rfl, trivial⟩, ⟨rfl, ⟨rfl, rfl, rfl⟩, trivial⟩, ⟨rfl, rfl⟩, trivial⟩
      · rename_i n0 k g0 a b c g1 x y z g2 F S C g3 G B D g4 n' m1 m2 m3 g5 n f
        obtain ⟨hp, hk, hnn⟩ := (T.is_ask h).1
        obtain rfl := T.is_ret (T.is_ask h).2
        have hp' := hp
        obtain ⟨h0, _⟩ := hp'
        subst h0; subst hk; subst hnn
        refine ⟨⟨a, b, c, x, y, z, F, k, C, G, B, D, false, n', f, 0⟩, ⟨hp, Nat.zero_le _⟩, ?_, fun o ho => key _ _ _ _ _ _ _ _ _ _ _ _ _ _ _ o ho⟩
        exact wk_of (idR 9) rfl (Nat.zero_le _) (fun b hb => by omega) ⟨⟨rfl, rfl⟩, ⟨rfl, rfl⟩, ⟨rfl, rfl⟩, ⟨rfl, rfl⟩, ⟨rfl, trivial, ⟨rfl, rfl⟩, ⟨rfl, rfl⟩, trivial⟩, by show Value.int .i64 k = Value.int .i64 (k * 1); rw [Int.mul_one], trivial⟩ ⟨⟨rfl, rfl, rfl, rfl, trivial⟩, ⟨rfl, rfl, rfl, rfl, trivial⟩, ⟨rfl, rfl, rfl, rfl, trivial⟩, ⟨rfl, rfl, rfl, rfl, trivial⟩, ⟨rfl, ⟨rfl, rfl, rfl⟩, trivial⟩, ⟨rfl, rfl, rfl, sameR fun i hi => same0 _ _ _ _ _ _ _ i hi⟩, trivial⟩
      · exact h.elim)
    roundP
theorem l52_ok : ∀ p ∈ l52, LoopsOK P p.2 (bodyOf P p.1) := by
  intro p hp
  simp only [l52, List.mem_singleton] at hp
  subst hp
  refine loopsOK_of (by kernel_rfl) fun k g hk => ?_
  simp only [List.mem_singleton, Prod.mk.injEq, LoopC.sum.injEq] at hk
  obtain ⟨rfl, rfl⟩ := hk
  exact loopP
end Go.RX.Span

/- Subtract of the program: the walk. -/
set_option linter.unusedVariables false
set_option linter.unusedSimpArgs false
set_option maxRecDepth 100000
namespace Go.RX.Span
open Go Go.RX
attribute [local irreducible] sx conB

set_option maxRecDepth 100000 in
theorem t_Subtract (a b c x y z : Int) : conB Go.Proofs.Try.prog (conOf ku) (loopsOf l52) 10 52 [.agg [.lit (.int .i64 a), .lit (.int .i64 b), .lit (.int .i64 c)], .agg [.lit (.int .i64 x), .lit (.int .i64 y), .lit (.int .i64 z)]] =
    T.ask (I64 a ∧ I64 b ∧ I64 c ∧ I64 x ∧ I64 y ∧ I64 z) (T.br (U.ne (lk ckd a b c x y z) (0 : Int)) (T.ret (SV.tup [SV.lit (Value.slice none (nat_lit 0) (nat_lit 0)), SV.lit
      (Value.int IntKind.i64 (lk ckd a b c x y z))])) (T.ask (a ≤ b → c ≠ (0 : Int) ∧ (-9223372036854775807 : Int) ≤ c ∧ b - a < (9223372036854775807 : Int) ∧ I64 a ∧ I64 b ∧ I64 c)
      (T.ask (lk ofB a b c < (0 : Int) → lk ofC a b c ≠ (0 : Int) → I64 (lk ofC a b c - (1 : Int)) ∧ I64 (lk ofB a b c * (lk ofC a b c - (1 : Int))) ∧ I64 (lk ofF a b c + lk ofB a b c *
      (lk ofC a b c - (1 : Int))) ∧ I64 (-lk ofB a b c)) (T.ask (x ≤ y → z ≠ (0 : Int) ∧ (-9223372036854775807 : Int) ≤ z ∧ y - x < (9223372036854775807 : Int) ∧ I64 x ∧ I64 y ∧ I64 z)
      (T.ask (lk ofB x y z < (0 : Int) → lk ofC x y z ≠ (0 : Int) → I64 (lk ofC x y z - (1 : Int)) ∧ I64 (lk ofB x y z * (lk ofC x y z - (1 : Int))) ∧ I64 (lk ofF x y z + lk ofB x y z *
      (lk ofC x y z - (1 : Int))) ∧ I64 (-lk ofB x y z)) (T.ask (Ser (lk uF (lk ofF a b c) (lk ofB a b c) (lk ofC a b c)) (lk uB (lk ofF a b c) (lk ofB a b c) (lk ofC a b c)) (lk ofC a b
      c) ∧ Ser (lk uF (lk ofF x y z) (lk ofB x y z) (lk ofC x y z)) (lk uB (lk ofF x y z) (lk ofB x y z) (lk ofC x y z)) (lk ofC x y z)) (T.br (U.eq (lk cmCnt (lk uF (lk ofF a b c) (lk
      ofB a b c) (lk ofC a b c)) (lk uB (lk ofF a b c) (lk ofB a b c) (lk ofC a b c)) (lk ofC a b c) (lk uF (lk ofF x y z) (lk ofB x y z) (lk ofC x y z)) (lk uB (lk ofF x y z) (lk ofB x y
      z) (lk ofC x y z)) (lk ofC x y z)) (0 : Int)) (T.br (U.gt (lk ofC a b c) (0 : Int)) (T.ask (c < (0 : Int) → lk ofC a b c ≠ (0 : Int) → I64 (lk ofC a b c - (1 : Int)) ∧ I64 (lk uB
      (lk ofF a b c) (lk ofB a b c) (lk ofC a b c) * (lk ofC a b c - (1 : Int))) ∧ I64 (lk uF (lk ofF a b c) (lk ofB a b c) (lk ofC a b c) + lk uB (lk ofF a b c) (lk ofB a b c) (lk ofC a
      b c) * (lk ofC a b c - (1 : Int))) ∧ I64 (-lk uB (lk ofF a b c) (lk ofB a b c) (lk ofC a b c))) (T.ask ((0 : Int) < lk ofC a b c → I64 (lk ofC a b c - (1 : Int)) ∧ I64 (lk kB (lk uF
      (lk ofF a b c) (lk ofB a b c) (lk ofC a b c)) (lk uB (lk ofF a b c) (lk ofB a b c) (lk ofC a b c)) (lk ofC a b c) c * (lk ofC a b c - (1 : Int))) ∧ I64 (lk kF (lk uF (lk ofF a b c)
      (lk ofB a b c) (lk ofC a b c)) (lk uB (lk ofF a b c) (lk ofB a b c) (lk ofC a b c)) (lk ofC a b c) c + lk kB (lk uF (lk ofF a b c) (lk ofB a b c) (lk ofC a b c)) (lk uB (lk ofF a b
      c) (lk ofB a b c) (lk ofC a b c)) (lk ofC a b c) c * (lk ofC a b c - (1 : Int)))) (T.ask ((1 : Nat) * nat_lit 24 ≤ nat_lit 140737488351232) (T.ret (SV.tup [SV.row [Sh.int
      IntKind.i64, Sh.int IntKind.i64, Sh.int IntKind.i64] (nat_lit 1) fun x => (lk nLow (lk kF (lk uF (lk ofF a b c) (lk ofB a b c) (lk ofC a b c)) (lk uB (lk ofF a b c) (lk ofB a b c)
      (lk ofC a b c)) (lk ofC a b c) c) (lk kB (lk uF (lk ofF a b c) (lk ofB a b c) (lk ofC a b c)) (lk uB (lk ofF a b c) (lk ofB a b c) (lk ofC a b c)) (lk ofC a b c) c) (lk ofC a b c),
      lk nHigh (lk kF (lk uF (lk ofF a b c) (lk ofB a b c) (lk ofC a b c)) (lk uB (lk ofF a b c) (lk ofB a b c) (lk ofC a b c)) (lk ofC a b c) c) (lk kB (lk uF (lk ofF a b c) (lk ofB a b
      c) (lk ofC a b c)) (lk uB (lk ofF a b c) (lk ofB a b c) (lk ofC a b c)) (lk ofC a b c) c) (lk ofC a b c), lk nStr (lk kF (lk uF (lk ofF a b c) (lk ofB a b c) (lk ofC a b c)) (lk uB
      (lk ofF a b c) (lk ofB a b c) (lk ofC a b c)) (lk ofC a b c) c) (lk kB (lk uF (lk ofF a b c) (lk ofB a b c) (lk ofC a b c)) (lk uB (lk ofF a b c) (lk ofB a b c) (lk ofC a b c)) (lk
      ofC a b c) c) (lk ofC a b c), PUnit.unit), SV.lit (Value.int IntKind.i64 (0 : Int))]))))) (T.ret (SV.tup [SV.lit (Value.slice none (nat_lit 0) (nat_lit 0)), SV.lit (Value.int
      IntKind.i64 (0 : Int))]))) (T.ask (lk uB (lk ofF a b c) (lk ofB a b c) (lk ofC a b c) ≠ (0 : Int)) (T.br (U.gt (U.quo IntKind.i64 (U.sub IntKind.i64 (lk cmFst (lk uF (lk ofF a b c)
      (lk ofB a b c) (lk ofC a b c)) (lk uB (lk ofF a b c) (lk ofB a b c) (lk ofC a b c)) (lk ofC a b c) (lk uF (lk ofF x y z) (lk ofB x y z) (lk ofC x y z)) (lk uB (lk ofF x y z) (lk ofB
      x y z) (lk ofC x y z)) (lk ofC x y z)) (lk uF (lk ofF a b c) (lk ofB a b c) (lk ofC a b c))) (lk uB (lk ofF a b c) (lk ofB a b c) (lk ofC a b c))) (0 : Int)) (T.ask (c < (0 : Int) →
      U.quo IntKind.i64 (U.sub IntKind.i64 (lk cmFst (lk uF (lk ofF a b c) (lk ofB a b c) (lk ofC a b c)) (lk uB (lk ofF a b c) (lk ofB a b c) (lk ofC a b c)) (lk ofC a b c) (lk uF (lk
      ofF x y z) (lk ofB x y z) (lk ofC x y z)) (lk uB (lk ofF x y z) (lk ofB x y z) (lk ofC x y z)) (lk ofC x y z)) (lk uF (lk ofF a b c) (lk ofB a b c) (lk ofC a b c))) (lk uB (lk ofF a
      b c) (lk ofB a b c) (lk ofC a b c)) ≠ (0 : Int) → I64 (U.quo IntKind.i64 (U.sub IntKind.i64 (lk cmFst (lk uF (lk ofF a b c) (lk ofB a b c) (lk ofC a b c)) (lk uB (lk ofF a b c) (lk
      ofB a b c) (lk ofC a b c)) (lk ofC a b c) (lk uF (lk ofF x y z) (lk ofB x y z) (lk ofC x y z)) (lk uB (lk ofF x y z) (lk ofB x y z) (lk ofC x y z)) (lk ofC x y z)) (lk uF (lk ofF a
      b c) (lk ofB a b c) (lk ofC a b c))) (lk uB (lk ofF a b c) (lk ofB a b c) (lk ofC a b c)) - (1 : Int)) ∧ I64 (lk uB (lk ofF a b c) (lk ofB a b c) (lk ofC a b c) * (U.quo IntKind.i64
      (U.sub IntKind.i64 (lk cmFst (lk uF (lk ofF a b c) (lk ofB a b c) (lk ofC a b c)) (lk uB (lk ofF a b c) (lk ofB a b c) (lk ofC a b c)) (lk ofC a b c) (lk uF (lk ofF x y z) (lk ofB x
      y z) (lk ofC x y z)) (lk uB (lk ofF x y z) (lk ofB x y z) (lk ofC x y z)) (lk ofC x y z)) (lk uF (lk ofF a b c) (lk ofB a b c) (lk ofC a b c))) (lk uB (lk ofF a b c) (lk ofB a b c)
      (lk ofC a b c)) - (1 : Int))) ∧ I64 (lk uF (lk ofF a b c) (lk ofB a b c) (lk ofC a b c) + lk uB (lk ofF a b c) (lk ofB a b c) (lk ofC a b c) * (U.quo IntKind.i64 (U.sub IntKind.i64
      (lk cmFst (lk uF (lk ofF a b c) (lk ofB a b c) (lk ofC a b c)) (lk uB (lk ofF a b c) (lk ofB a b c) (lk ofC a b c)) (lk ofC a b c) (lk uF (lk ofF x y z) (lk ofB x y z) (lk ofC x y
      z)) (lk uB (lk ofF x y z) (lk ofB x y z) (lk ofC x y z)) (lk ofC x y z)) (lk uF (lk ofF a b c) (lk ofB a b c) (lk ofC a b c))) (lk uB (lk ofF a b c) (lk ofB a b c) (lk ofC a b c)) -
      (1 : Int))) ∧ I64 (-lk uB (lk ofF a b c) (lk ofB a b c) (lk ofC a b c))) (T.ask ((0 : Int) < U.quo IntKind.i64 (U.sub IntKind.i64 (lk cmFst (lk uF (lk ofF a b c) (lk ofB a b c) (lk
      ofC a b c)) (lk uB (lk ofF a b c) (lk ofB a b c) (lk ofC a b c)) (lk ofC a b c) (lk uF (lk ofF x y z) (lk ofB x y z) (lk ofC x y z)) (lk uB (lk ofF x y z) (lk ofB x y z) (lk ofC x y
      z)) (lk ofC x y z)) (lk uF (lk ofF a b c) (lk ofB a b c) (lk ofC a b c))) (lk uB (lk ofF a b c) (lk ofB a b c) (lk ofC a b c)) → I64 (U.quo IntKind.i64 (U.sub IntKind.i64 (lk cmFst
      (lk uF (lk ofF a b c) (lk ofB a b c) (lk ofC a b c)) (lk uB (lk ofF a b c) (lk ofB a b c) (lk ofC a b c)) (lk ofC a b c) (lk uF (lk ofF x y z) (lk ofB x y z) (lk ofC x y z)) (lk uB
      (lk ofF x y z) (lk ofB x y z) (lk ofC x y z)) (lk ofC x y z)) (lk uF (lk ofF a b c) (lk ofB a b c) (lk ofC a b c))) (lk uB (lk ofF a b c) (lk ofB a b c) (lk ofC a b c)) - (1 : Int))
      ∧ I64 (lk kB (lk uF (lk ofF a b c) (lk ofB a b c) (lk ofC a b c)) (lk uB (lk ofF a b c) (lk ofB a b c) (lk ofC a b c)) (U.quo IntKind.i64 (U.sub IntKind.i64 (lk cmFst (lk uF (lk ofF
      a b c) (lk ofB a b c) (lk ofC a b c)) (lk uB (lk ofF a b c) (lk ofB a b c) (lk ofC a b c)) (lk ofC a b c) (lk uF (lk ofF x y z) (lk ofB x y z) (lk ofC x y z)) (lk uB (lk ofF x y z)
      (lk ofB x y z) (lk ofC x y z)) (lk ofC x y z)) (lk uF (lk ofF a b c) (lk ofB a b c) (lk ofC a b c))) (lk uB (lk ofF a b c) (lk ofB a b c) (lk ofC a b c))) c * (U.quo IntKind.i64
      (U.sub IntKind.i64 (lk cmFst (lk uF (lk ofF a b c) (lk ofB a b c) (lk ofC a b c)) (lk uB (lk ofF a b c) (lk ofB a b c) (lk ofC a b c)) (lk ofC a b c) (lk uF (lk ofF x y z) (lk ofB x
      y z) (lk ofC x y z)) (lk uB (lk ofF x y z) (lk ofB x y z) (lk ofC x y z)) (lk ofC x y z)) (lk uF (lk ofF a b c) (lk ofB a b c) (lk ofC a b c))) (lk uB (lk ofF a b c) (lk ofB a b c)
      (lk ofC a b c)) - (1 : Int))) ∧ I64 (lk kF (lk uF (lk ofF a b c) (lk ofB a b c) (lk ofC a b c)) (lk uB (lk ofF a b c) (lk ofB a b c) (lk ofC a b c)) (U.quo IntKind.i64 (U.sub
      IntKind.i64 (lk cmFst (lk uF (lk ofF a b c) (lk ofB a b c) (lk ofC a b c)) (lk uB (lk ofF a b c) (lk ofB a b c) (lk ofC a b c)) (lk ofC a b c) (lk uF (lk ofF x y z) (lk ofB x y z)
      (lk ofC x y z)) (lk uB (lk ofF x y z) (lk ofB x y z) (lk ofC x y z)) (lk ofC x y z)) (lk uF (lk ofF a b c) (lk ofB a b c) (lk ofC a b c))) (lk uB (lk ofF a b c) (lk ofB a b c) (lk
      ofC a b c))) c + lk kB (lk uF (lk ofF a b c) (lk ofB a b c) (lk ofC a b c)) (lk uB (lk ofF a b c) (lk ofB a b c) (lk ofC a b c)) (U.quo IntKind.i64 (U.sub IntKind.i64 (lk cmFst (lk
      uF (lk ofF a b c) (lk ofB a b c) (lk ofC a b c)) (lk uB (lk ofF a b c) (lk ofB a b c) (lk ofC a b c)) (lk ofC a b c) (lk uF (lk ofF x y z) (lk ofB x y z) (lk ofC x y z)) (lk uB (lk
      ofF x y z) (lk ofB x y z) (lk ofC x y z)) (lk ofC x y z)) (lk uF (lk ofF a b c) (lk ofB a b c) (lk ofC a b c))) (lk uB (lk ofF a b c) (lk ofB a b c) (lk ofC a b c))) c * (U.quo
      IntKind.i64 (U.sub IntKind.i64 (lk cmFst (lk uF (lk ofF a b c) (lk ofB a b c) (lk ofC a b c)) (lk uB (lk ofF a b c) (lk ofB a b c) (lk ofC a b c)) (lk ofC a b c) (lk uF (lk ofF x y
      z) (lk ofB x y z) (lk ofC x y z)) (lk uB (lk ofF x y z) (lk ofB x y z) (lk ofC x y z)) (lk ofC x y z)) (lk uF (lk ofF a b c) (lk ofB a b c) (lk ofC a b c))) (lk uB (lk ofF a b c)
      (lk ofB a b c) (lk ofC a b c)) - (1 : Int)))) (T.ask ((1 : Nat) * nat_lit 24 ≤ nat_lit 140737488351232) (T.ask (PreP (nat_lit 0) (lk uB (lk ofF a b c) (lk ofB a b c) (lk ofC a b c))
      (lk cmFst (lk uF (lk ofF a b c) (lk ofB a b c) (lk ofC a b c)) (lk uB (lk ofF a b c) (lk ofB a b c) (lk ofC a b c)) (lk ofC a b c) (lk uF (lk ofF x y z) (lk ofB x y z) (lk ofC x y
      z)) (lk uB (lk ofF x y z) (lk ofB x y z) (lk ofC x y z)) (lk ofC x y z)) (lk cmBy (lk uF (lk ofF a b c) (lk ofB a b c) (lk ofC a b c)) (lk uB (lk ofF a b c) (lk ofB a b c) (lk ofC a
      b c)) (lk ofC a b c) (lk uF (lk ofF x y z) (lk ofB x y z) (lk ofC x y z)) (lk uB (lk ofF x y z) (lk ofB x y z) (lk ofC x y z)) (lk ofC x y z)) (lk cmCnt (lk uF (lk ofF a b c) (lk
      ofB a b c) (lk ofC a b c)) (lk uB (lk ofF a b c) (lk ofB a b c) (lk ofC a b c)) (lk ofC a b c) (lk uF (lk ofF x y z) (lk ofB x y z) (lk ofC x y z)) (lk uB (lk ofF x y z) (lk ofB x y
      z) (lk ofC x y z)) (lk ofC x y z)) false (1 : Nat) ∧ lk uB (lk ofF a b c) (lk ofB a b c) (lk ofC a b c) = lk uB (lk ofF a b c) (lk ofB a b c) (lk ofC a b c) ∧ (1 : Nat) = (1 : Nat))
      (T.ask (I64 (lk cmCnt (lk uF (lk ofF a b c) (lk ofB a b c) (lk ofC a b c)) (lk uB (lk ofF a b c) (lk ofB a b c) (lk ofC a b c)) (lk ofC a b c) (lk uF (lk ofF x y z) (lk ofB x y z)
      (lk ofC x y z)) (lk uB (lk ofF x y z) (lk ofB x y z) (lk ofC x y z)) (lk ofC x y z) - (1 : Int)) ∧ I64 (lk cmBy (lk uF (lk ofF a b c) (lk ofB a b c) (lk ofC a b c)) (lk uB (lk ofF a
      b c) (lk ofB a b c) (lk ofC a b c)) (lk ofC a b c) (lk uF (lk ofF x y z) (lk ofB x y z) (lk ofC x y z)) (lk uB (lk ofF x y z) (lk ofB x y z) (lk ofC x y z)) (lk ofC x y z) * (lk
      cmCnt (lk uF (lk ofF a b c) (lk ofB a b c) (lk ofC a b c)) (lk uB (lk ofF a b c) (lk ofB a b c) (lk ofC a b c)) (lk ofC a b c) (lk uF (lk ofF x y z) (lk ofB x y z) (lk ofC x y z))
      (lk uB (lk ofF x y z) (lk ofB x y z) (lk ofC x y z)) (lk ofC x y z) - (1 : Int))) ∧ I64 (lk cmFst (lk uF (lk ofF a b c) (lk ofB a b c) (lk ofC a b c)) (lk uB (lk ofF a b c) (lk ofB
      a b c) (lk ofC a b c)) (lk ofC a b c) (lk uF (lk ofF x y z) (lk ofB x y z) (lk ofC x y z)) (lk uB (lk ofF x y z) (lk ofB x y z) (lk ofC x y z)) (lk ofC x y z) + lk cmBy (lk uF (lk
      ofF a b c) (lk ofB a b c) (lk ofC a b c)) (lk uB (lk ofF a b c) (lk ofB a b c) (lk ofC a b c)) (lk ofC a b c) (lk uF (lk ofF x y z) (lk ofB x y z) (lk ofC x y z)) (lk uB (lk ofF x y
      z) (lk ofB x y z) (lk ofC x y z)) (lk ofC x y z) * (lk cmCnt (lk uF (lk ofF a b c) (lk ofB a b c) (lk ofC a b c)) (lk uB (lk ofF a b c) (lk ofB a b c) (lk ofC a b c)) (lk ofC a b c)
      (lk uF (lk ofF x y z) (lk ofB x y z) (lk ofC x y z)) (lk uB (lk ofF x y z) (lk ofB x y z) (lk ofC x y z)) (lk ofC x y z) - (1 : Int)))) (T.ask (I64 (lk ofC a b c - (1 : Int)) ∧ I64
      (lk uB (lk ofF a b c) (lk ofB a b c) (lk ofC a b c) * (lk ofC a b c - (1 : Int))) ∧ I64 (lk uF (lk ofF a b c) (lk ofB a b c) (lk ofC a b c) + lk uB (lk ofF a b c) (lk ofB a b c) (lk
      ofC a b c) * (lk ofC a b c - (1 : Int)))) (T.ask (I64 (lk cmCnt (lk uF (lk ofF a b c) (lk ofB a b c) (lk ofC a b c)) (lk uB (lk ofF a b c) (lk ofB a b c) (lk ofC a b c)) (lk ofC a b
      c) (lk uF (lk ofF x y z) (lk ofB x y z) (lk ofC x y z)) (lk uB (lk ofF x y z) (lk ofB x y z) (lk ofC x y z)) (lk ofC x y z) - (1 : Int)) ∧ I64 (lk cmBy (lk uF (lk ofF a b c) (lk ofB
      a b c) (lk ofC a b c)) (lk uB (lk ofF a b c) (lk ofB a b c) (lk ofC a b c)) (lk ofC a b c) (lk uF (lk ofF x y z) (lk ofB x y z) (lk ofC x y z)) (lk uB (lk ofF x y z) (lk ofB x y z)
      (lk ofC x y z)) (lk ofC x y z) * (lk cmCnt (lk uF (lk ofF a b c) (lk ofB a b c) (lk ofC a b c)) (lk uB (lk ofF a b c) (lk ofB a b c) (lk ofC a b c)) (lk ofC a b c) (lk uF (lk ofF x
      y z) (lk ofB x y z) (lk ofC x y z)) (lk uB (lk ofF x y z) (lk ofB x y z) (lk ofC x y z)) (lk ofC x y z) - (1 : Int))) ∧ I64 (lk cmFst (lk uF (lk ofF a b c) (lk ofB a b c) (lk ofC a
      b c)) (lk uB (lk ofF a b c) (lk ofB a b c) (lk ofC a b c)) (lk ofC a b c) (lk uF (lk ofF x y z) (lk ofB x y z) (lk ofC x y z)) (lk uB (lk ofF x y z) (lk ofB x y z) (lk ofC x y z))
      (lk ofC x y z) + lk cmBy (lk uF (lk ofF a b c) (lk ofB a b c) (lk ofC a b c)) (lk uB (lk ofF a b c) (lk ofB a b c) (lk ofC a b c)) (lk ofC a b c) (lk uF (lk ofF x y z) (lk ofB x y
      z) (lk ofC x y z)) (lk uB (lk ofF x y z) (lk ofB x y z) (lk ofC x y z)) (lk ofC x y z) * (lk cmCnt (lk uF (lk ofF a b c) (lk ofB a b c) (lk ofC a b c)) (lk uB (lk ofF a b c) (lk ofB
      a b c) (lk ofC a b c)) (lk ofC a b c) (lk uF (lk ofF x y z) (lk ofB x y z) (lk ofC x y z)) (lk uB (lk ofF x y z) (lk ofB x y z) (lk ofC x y z)) (lk ofC x y z) - (1 : Int)))) (T.ask
      (lk uB (lk ofF a b c) (lk ofB a b c) (lk ofC a b c) ≠ (0 : Int)) (T.br (U.gt (U.quo IntKind.i64 (U.sub IntKind.i64 (lk sLast (lk uF (lk ofF a b c) (lk ofB a b c) (lk ofC a b c)) (lk
      uB (lk ofF a b c) (lk ofB a b c) (lk ofC a b c)) (lk ofC a b c)) (lk sLast (lk cmFst (lk uF (lk ofF a b c) (lk ofB a b c) (lk ofC a b c)) (lk uB (lk ofF a b c) (lk ofB a b c) (lk
      ofC a b c)) (lk ofC a b c) (lk uF (lk ofF x y z) (lk ofB x y z) (lk ofC x y z)) (lk uB (lk ofF x y z) (lk ofB x y z) (lk ofC x y z)) (lk ofC x y z)) (lk cmBy (lk uF (lk ofF a b c)
      (lk ofB a b c) (lk ofC a b c)) (lk uB (lk ofF a b c) (lk ofB a b c) (lk ofC a b c)) (lk ofC a b c) (lk uF (lk ofF x y z) (lk ofB x y z) (lk ofC x y z)) (lk uB (lk ofF x y z) (lk ofB
      x y z) (lk ofC x y z)) (lk ofC x y z)) (lk cmCnt (lk uF (lk ofF a b c) (lk ofB a b c) (lk ofC a b c)) (lk uB (lk ofF a b c) (lk ofB a b c) (lk ofC a b c)) (lk ofC a b c) (lk uF (lk
      ofF x y z) (lk ofB x y z) (lk ofC x y z)) (lk uB (lk ofF x y z) (lk ofB x y z) (lk ofC x y z)) (lk ofC x y z)))) (lk uB (lk ofF a b c) (lk ofB a b c) (lk ofC a b c))) (0 : Int))
      (T.br (U.le (Int.ofNat (nat_lit 1 + lk pM (lk uB (lk ofF a b c) (lk ofB a b c) (lk ofC a b c)) (lk cmBy (lk uF (lk ofF a b c) (lk ofB a b c) (lk ofC a b c)) (lk uB (lk ofF a b c)
      (lk ofB a b c) (lk ofC a b c)) (lk ofC a b c) (lk uF (lk ofF x y z) (lk ofB x y z) (lk ofC x y z)) (lk uB (lk ofF x y z) (lk ofB x y z) (lk ofC x y z)) (lk ofC x y z)) (lk cmCnt (lk
      uF (lk ofF a b c) (lk ofB a b c) (lk ofC a b c)) (lk uB (lk ofF a b c) (lk ofB a b c) (lk ofC a b c)) (lk ofC a b c) (lk uF (lk ofF x y z) (lk ofB x y z) (lk ofC x y z)) (lk uB (lk
      ofF x y z) (lk ofB x y z) (lk ofC x y z)) (lk ofC x y z)) (nat_lit 1))) (1000 : Int)) (T.ask (c < (0 : Int) → U.quo IntKind.i64 (U.sub IntKind.i64 (lk sLast (lk uF (lk ofF a b c)
      (lk ofB a b c) (lk ofC a b c)) (lk uB (lk ofF a b c) (lk ofB a b c) (lk ofC a b c)) (lk ofC a b c)) (lk sLast (lk cmFst (lk uF (lk ofF a b c) (lk ofB a b c) (lk ofC a b c)) (lk uB
      (lk ofF a b c) (lk ofB a b c) (lk ofC a b c)) (lk ofC a b c) (lk uF (lk ofF x y z) (lk ofB x y z) (lk ofC x y z)) (lk uB (lk ofF x y z) (lk ofB x y z) (lk ofC x y z)) (lk ofC x y
      z)) (lk cmBy (lk uF (lk ofF a b c) (lk ofB a b c) (lk ofC a b c)) (lk uB (lk ofF a b c) (lk ofB a b c) (lk ofC a b c)) (lk ofC a b c) (lk uF (lk ofF x y z) (lk ofB x y z) (lk ofC x
      y z)) (lk uB (lk ofF x y z) (lk ofB x y z) (lk ofC x y z)) (lk ofC x y z)) (lk cmCnt (lk uF (lk ofF a b c) (lk ofB a b c) (lk ofC a b c)) (lk uB (lk ofF a b c) (lk ofB a b c) (lk
      ofC a b c)) (lk ofC a b c) (lk uF (lk ofF x y z) (lk ofB x y z) (lk ofC x y z)) (lk uB (lk ofF x y z) (lk ofB x y z) (lk ofC x y z)) (lk ofC x y z)))) (lk uB (lk ofF a b c) (lk ofB
      a b c) (lk ofC a b c)) ≠ (0 : Int) → I64 (U.quo IntKind.i64 (U.sub IntKind.i64 (lk sLast (lk uF (lk ofF a b c) (lk ofB a b c) (lk ofC a b c)) (lk uB (lk ofF a b c) (lk ofB a b c)
      (lk ofC a b c)) (lk ofC a b c)) (lk sLast (lk cmFst (lk uF (lk ofF a b c) (lk ofB a b c) (lk ofC a b c)) (lk uB (lk ofF a b c) (lk ofB a b c) (lk ofC a b c)) (lk ofC a b c) (lk uF
      (lk ofF x y z) (lk ofB x y z) (lk ofC x y z)) (lk uB (lk ofF x y z) (lk ofB x y z) (lk ofC x y z)) (lk ofC x y z)) (lk cmBy (lk uF (lk ofF a b c) (lk ofB a b c) (lk ofC a b c)) (lk
      uB (lk ofF a b c) (lk ofB a b c) (lk ofC a b c)) (lk ofC a b c) (lk uF (lk ofF x y z) (lk ofB x y z) (lk ofC x y z)) (lk uB (lk ofF x y z) (lk ofB x y z) (lk ofC x y z)) (lk ofC x y
      z)) (lk cmCnt (lk uF (lk ofF a b c) (lk ofB a b c) (lk ofC a b c)) (lk uB (lk ofF a b c) (lk ofB a b c) (lk ofC a b c)) (lk ofC a b c) (lk uF (lk ofF x y z) (lk ofB x y z) (lk ofC x
      y z)) (lk uB (lk ofF x y z) (lk ofB x y z) (lk ofC x y z)) (lk ofC x y z)))) (lk uB (lk ofF a b c) (lk ofB a b c) (lk ofC a b c)) - (1 : Int)) ∧ I64 (lk uB (lk ofF a b c) (lk ofB a
      b c) (lk ofC a b c) * (U.quo IntKind.i64 (U.sub IntKind.i64 (lk sLast (lk uF (lk ofF a b c) (lk ofB a b c) (lk ofC a b c)) (lk uB (lk ofF a b c) (lk ofB a b c) (lk ofC a b c)) (lk
      ofC a b c)) (lk sLast (lk cmFst (lk uF (lk ofF a b c) (lk ofB a b c) (lk ofC a b c)) (lk uB (lk ofF a b c) (lk ofB a b c) (lk ofC a b c)) (lk ofC a b c) (lk uF (lk ofF x y z) (lk
      ofB x y z) (lk ofC x y z)) (lk uB (lk ofF x y z) (lk ofB x y z) (lk ofC x y z)) (lk ofC x y z)) (lk cmBy (lk uF (lk ofF a b c) (lk ofB a b c) (lk ofC a b c)) (lk uB (lk ofF a b c)
      (lk ofB a b c) (lk ofC a b c)) (lk ofC a b c) (lk uF (lk ofF x y z) (lk ofB x y z) (lk ofC x y z)) (lk uB (lk ofF x y z) (lk ofB x y z) (lk ofC x y z)) (lk ofC x y z)) (lk cmCnt (lk
      uF (lk ofF a b c) (lk ofB a b c) (lk ofC a b c)) (lk uB (lk ofF a b c) (lk ofB a b c) (lk ofC a b c)) (lk ofC a b c) (lk uF (lk ofF x y z) (lk ofB x y z) (lk ofC x y z)) (lk uB (lk
      ofF x y z) (lk ofB x y z) (lk ofC x y z)) (lk ofC x y z)))) (lk uB (lk ofF a b c) (lk ofB a b c) (lk ofC a b c)) - (1 : Int))) ∧ I64 (U.add IntKind.i64 (lk sLast (lk cmFst (lk uF
      (lk ofF a b c) (lk ofB a b c) (lk ofC a b c)) (lk uB (lk ofF a b c) (lk ofB a b c) (lk ofC a b c)) (lk ofC a b c) (lk uF (lk ofF x y z) (lk ofB x y z) (lk ofC x y z)) (lk uB (lk ofF
      x y z) (lk ofB x y z) (lk ofC x y z)) (lk ofC x y z)) (lk cmBy (lk uF (lk ofF a b c) (lk ofB a b c) (lk ofC a b c)) (lk uB (lk ofF a b c) (lk ofB a b c) (lk ofC a b c)) (lk ofC a b
      c) (lk uF (lk ofF x y z) (lk ofB x y z) (lk ofC x y z)) (lk uB (lk ofF x y z) (lk ofB x y z) (lk ofC x y z)) (lk ofC x y z)) (lk cmCnt (lk uF (lk ofF a b c) (lk ofB a b c) (lk ofC a
      b c)) (lk uB (lk ofF a b c) (lk ofB a b c) (lk ofC a b c)) (lk ofC a b c) (lk uF (lk ofF x y z) (lk ofB x y z) (lk ofC x y z)) (lk uB (lk ofF x y z) (lk ofB x y z) (lk ofC x y z))
      (lk ofC x y z))) (lk uB (lk ofF a b c) (lk ofB a b c) (lk ofC a b c)) + lk uB (lk ofF a b c) (lk ofB a b c) (lk ofC a b c) * (U.quo IntKind.i64 (U.sub IntKind.i64 (lk sLast (lk uF
      (lk ofF a b c) (lk ofB a b c) (lk ofC a b c)) (lk uB (lk ofF a b c) (lk ofB a b c) (lk ofC a b c)) (lk ofC a b c)) (lk sLast (lk cmFst (lk uF (lk ofF a b c) (lk ofB a b c) (lk ofC a
      b c)) (lk uB (lk ofF a b c) (lk ofB a b c) (lk ofC a b c)) (lk ofC a b c) (lk uF (lk ofF x y z) (lk ofB x y z) (lk ofC x y z)) (lk uB (lk ofF x y z) (lk ofB x y z) (lk ofC x y z))
      (lk ofC x y z)) (lk cmBy (lk uF (lk ofF a b c) (lk ofB a b c) (lk ofC a b c)) (lk uB (lk ofF a b c) (lk ofB a b c) (lk ofC a b c)) (lk ofC a b c) (lk uF (lk ofF x y z) (lk ofB x y
      z) (lk ofC x y z)) (lk uB (lk ofF x y z) (lk ofB x y z) (lk ofC x y z)) (lk ofC x y z)) (lk cmCnt (lk uF (lk ofF a b c) (lk ofB a b c) (lk ofC a b c)) (lk uB (lk ofF a b c) (lk ofB
      a b c) (lk ofC a b c)) (lk ofC a b c) (lk uF (lk ofF x y z) (lk ofB x y z) (lk ofC x y z)) (lk uB (lk ofF x y z) (lk ofB x y z) (lk ofC x y z)) (lk ofC x y z)))) (lk uB (lk ofF a b
      c) (lk ofB a b c) (lk ofC a b c)) - (1 : Int))) ∧ I64 (-lk uB (lk ofF a b c) (lk ofB a b c) (lk ofC a b c))) (T.ask ((0 : Int) < U.quo IntKind.i64 (U.sub IntKind.i64 (lk sLast (lk
      uF (lk ofF a b c) (lk ofB a b c) (lk ofC a b c)) (lk uB (lk ofF a b c) (lk ofB a b c) (lk ofC a b c)) (lk ofC a b c)) (lk sLast (lk cmFst (lk uF (lk ofF a b c) (lk ofB a b c) (lk
      ofC a b c)) (lk uB (lk ofF a b c) (lk ofB a b c) (lk ofC a b c)) (lk ofC a b c) (lk uF (lk ofF x y z) (lk ofB x y z) (lk ofC x y z)) (lk uB (lk ofF x y z) (lk ofB x y z) (lk ofC x y
      z)) (lk ofC x y z)) (lk cmBy (lk uF (lk ofF a b c) (lk ofB a b c) (lk ofC a b c)) (lk uB (lk ofF a b c) (lk ofB a b c) (lk ofC a b c)) (lk ofC a b c) (lk uF (lk ofF x y z) (lk ofB x
      y z) (lk ofC x y z)) (lk uB (lk ofF x y z) (lk ofB x y z) (lk ofC x y z)) (lk ofC x y z)) (lk cmCnt (lk uF (lk ofF a b c) (lk ofB a b c) (lk ofC a b c)) (lk uB (lk ofF a b c) (lk
      ofB a b c) (lk ofC a b c)) (lk ofC a b c) (lk uF (lk ofF x y z) (lk ofB x y z) (lk ofC x y z)) (lk uB (lk ofF x y z) (lk ofB x y z) (lk ofC x y z)) (lk ofC x y z)))) (lk uB (lk ofF
      a b c) (lk ofB a b c) (lk ofC a b c)) → I64 (U.quo IntKind.i64 (U.sub IntKind.i64 (lk sLast (lk uF (lk ofF a b c) (lk ofB a b c) (lk ofC a b c)) (lk uB (lk ofF a b c) (lk ofB a b c)
      (lk ofC a b c)) (lk ofC a b c)) (lk sLast (lk cmFst (lk uF (lk ofF a b c) (lk ofB a b c) (lk ofC a b c)) (lk uB (lk ofF a b c) (lk ofB a b c) (lk ofC a b c)) (lk ofC a b c) (lk uF
      (lk ofF x y z) (lk ofB x y z) (lk ofC x y z)) (lk uB (lk ofF x y z) (lk ofB x y z) (lk ofC x y z)) (lk ofC x y z)) (lk cmBy (lk uF (lk ofF a b c) (lk ofB a b c) (lk ofC a b c)) (lk
      uB (lk ofF a b c) (lk ofB a b c) (lk ofC a b c)) (lk ofC a b c) (lk uF (lk ofF x y z) (lk ofB x y z) (lk ofC x y z)) (lk uB (lk ofF x y z) (lk ofB x y z) (lk ofC x y z)) (lk ofC x y
      z)) (lk cmCnt (lk uF (lk ofF a b c) (lk ofB a b c) (lk ofC a b c)) (lk uB (lk ofF a b c) (lk ofB a b c) (lk ofC a b c)) (lk ofC a b c) (lk uF (lk ofF x y z) (lk ofB x y z) (lk ofC x
      y z)) (lk uB (lk ofF x y z) (lk ofB x y z) (lk ofC x y z)) (lk ofC x y z)))) (lk uB (lk ofF a b c) (lk ofB a b c) (lk ofC a b c)) - (1 : Int)) ∧ I64 (lk kB (U.add IntKind.i64 (lk
      sLast (lk cmFst (lk uF (lk ofF a b c) (lk ofB a b c) (lk ofC a b c)) (lk uB (lk ofF a b c) (lk ofB a b c) (lk ofC a b c)) (lk ofC a b c) (lk uF (lk ofF x y z) (lk ofB x y z) (lk ofC
      x y z)) (lk uB (lk ofF x y z) (lk ofB x y z) (lk ofC x y z)) (lk ofC x y z)) (lk cmBy (lk uF (lk ofF a b c) (lk ofB a b c) (lk ofC a b c)) (lk uB (lk ofF a b c) (lk ofB a b c) (lk
      ofC a b c)) (lk ofC a b c) (lk uF (lk ofF x y z) (lk ofB x y z) (lk ofC x y z)) (lk uB (lk ofF x y z) (lk ofB x y z) (lk ofC x y z)) (lk ofC x y z)) (lk cmCnt (lk uF (lk ofF a b c)
      (lk ofB a b c) (lk ofC a b c)) (lk uB (lk ofF a b c) (lk ofB a b c) (lk ofC a b c)) (lk ofC a b c) (lk uF (lk ofF x y z) (lk ofB x y z) (lk ofC x y z)) (lk uB (lk ofF x y z) (lk ofB
      x y z) (lk ofC x y z)) (lk ofC x y z))) (lk uB (lk ofF a b c) (lk ofB a b c) (lk ofC a b c))) (lk uB (lk ofF a b c) (lk ofB a b c) (lk ofC a b c)) (U.quo IntKind.i64 (U.sub
      IntKind.i64 (lk sLast (lk uF (lk ofF a b c) (lk ofB a b c) (lk ofC a b c)) (lk uB (lk ofF a b c) (lk ofB a b c) (lk ofC a b c)) (lk ofC a b c)) (lk sLast (lk cmFst (lk uF (lk ofF a
      b c) (lk ofB a b c) (lk ofC a b c)) (lk uB (lk ofF a b c) (lk ofB a b c) (lk ofC a b c)) (lk ofC a b c) (lk uF (lk ofF x y z) (lk ofB x y z) (lk ofC x y z)) (lk uB (lk ofF x y z)
      (lk ofB x y z) (lk ofC x y z)) (lk ofC x y z)) (lk cmBy (lk uF (lk ofF a b c) (lk ofB a b c) (lk ofC a b c)) (lk uB (lk ofF a b c) (lk ofB a b c) (lk ofC a b c)) (lk ofC a b c) (lk
      uF (lk ofF x y z) (lk ofB x y z) (lk ofC x y z)) (lk uB (lk ofF x y z) (lk ofB x y z) (lk ofC x y z)) (lk ofC x y z)) (lk cmCnt (lk uF (lk ofF a b c) (lk ofB a b c) (lk ofC a b c))
      (lk uB (lk ofF a b c) (lk ofB a b c) (lk ofC a b c)) (lk ofC a b c) (lk uF (lk ofF x y z) (lk ofB x y z) (lk ofC x y z)) (lk uB (lk ofF x y z) (lk ofB x y z) (lk ofC x y z)) (lk ofC
      x y z)))) (lk uB (lk ofF a b c) (lk ofB a b c) (lk ofC a b c))) c * (U.quo IntKind.i64 (U.sub IntKind.i64 (lk sLast (lk uF (lk ofF a b c) (lk ofB a b c) (lk ofC a b c)) (lk uB (lk
      ofF a b c) (lk ofB a b c) (lk ofC a b c)) (lk ofC a b c)) (lk sLast (lk cmFst (lk uF (lk ofF a b c) (lk ofB a b c) (lk ofC a b c)) (lk uB (lk ofF a b c) (lk ofB a b c) (lk ofC a b
      c)) (lk ofC a b c) (lk uF (lk ofF x y z) (lk ofB x y z) (lk ofC x y z)) (lk uB (lk ofF x y z) (lk ofB x y z) (lk ofC x y z)) (lk ofC x y z)) (lk cmBy (lk uF (lk ofF a b c) (lk ofB a
      b c) (lk ofC a b c)) (lk uB (lk ofF a b c) (lk ofB a b c) (lk ofC a b c)) (lk ofC a b c) (lk uF (lk ofF x y z) (lk ofB x y z) (lk ofC x y z)) (lk uB (lk ofF x y z) (lk ofB x y z)
      (lk ofC x y z)) (lk ofC x y z)) (lk cmCnt (lk uF (lk ofF a b c) (lk ofB a b c) (lk ofC a b c)) (lk uB (lk ofF a b c) (lk ofB a b c) (lk ofC a b c)) (lk ofC a b c) (lk uF (lk ofF x y
      z) (lk ofB x y z) (lk ofC x y z)) (lk uB (lk ofF x y z) (lk ofB x y z) (lk ofC x y z)) (lk ofC x y z)))) (lk uB (lk ofF a b c) (lk ofB a b c) (lk ofC a b c)) - (1 : Int))) ∧ I64 (lk
      kF (U.add IntKind.i64 (lk sLast (lk cmFst (lk uF (lk ofF a b c) (lk ofB a b c) (lk ofC a b c)) (lk uB (lk ofF a b c) (lk ofB a b c) (lk ofC a b c)) (lk ofC a b c) (lk uF (lk ofF x y
      z) (lk ofB x y z) (lk ofC x y z)) (lk uB (lk ofF x y z) (lk ofB x y z) (lk ofC x y z)) (lk ofC x y z)) (lk cmBy (lk uF (lk ofF a b c) (lk ofB a b c) (lk ofC a b c)) (lk uB (lk ofF a
      b c) (lk ofB a b c) (lk ofC a b c)) (lk ofC a b c) (lk uF (lk ofF x y z) (lk ofB x y z) (lk ofC x y z)) (lk uB (lk ofF x y z) (lk ofB x y z) (lk ofC x y z)) (lk ofC x y z)) (lk
      cmCnt (lk uF (lk ofF a b c) (lk ofB a b c) (lk ofC a b c)) (lk uB (lk ofF a b c) (lk ofB a b c) (lk ofC a b c)) (lk ofC a b c) (lk uF (lk ofF x y z) (lk ofB x y z) (lk ofC x y z))
      (lk uB (lk ofF x y z) (lk ofB x y z) (lk ofC x y z)) (lk ofC x y z))) (lk uB (lk ofF a b c) (lk ofB a b c) (lk ofC a b c))) (lk uB (lk ofF a b c) (lk ofB a b c) (lk ofC a b c))
      (U.quo IntKind.i64 (U.sub IntKind.i64 (lk sLast (lk uF (lk ofF a b c) (lk ofB a b c) (lk ofC a b c)) (lk uB (lk ofF a b c) (lk ofB a b c) (lk ofC a b c)) (lk ofC a b c)) (lk sLast
      (lk cmFst (lk uF (lk ofF a b c) (lk ofB a b c) (lk ofC a b c)) (lk uB (lk ofF a b c) (lk ofB a b c) (lk ofC a b c)) (lk ofC a b c) (lk uF (lk ofF x y z) (lk ofB x y z) (lk ofC x y
      z)) (lk uB (lk ofF x y z) (lk ofB x y z) (lk ofC x y z)) (lk ofC x y z)) (lk cmBy (lk uF (lk ofF a b c) (lk ofB a b c) (lk ofC a b c)) (lk uB (lk ofF a b c) (lk ofB a b c) (lk ofC a
      b c)) (lk ofC a b c) (lk uF (lk ofF x y z) (lk ofB x y z) (lk ofC x y z)) (lk uB (lk ofF x y z) (lk ofB x y z) (lk ofC x y z)) (lk ofC x y z)) (lk cmCnt (lk uF (lk ofF a b c) (lk
      ofB a b c) (lk ofC a b c)) (lk uB (lk ofF a b c) (lk ofB a b c) (lk ofC a b c)) (lk ofC a b c) (lk uF (lk ofF x y z) (lk ofB x y z) (lk ofC x y z)) (lk uB (lk ofF x y z) (lk ofB x y
      z) (lk ofC x y z)) (lk ofC x y z)))) (lk uB (lk ofF a b c) (lk ofB a b c) (lk ofC a b c))) c + lk kB (U.add IntKind.i64 (lk sLast (lk cmFst (lk uF (lk ofF a b c) (lk ofB a b c) (lk
      ofC a b c)) (lk uB (lk ofF a b c) (lk ofB a b c) (lk ofC a b c)) (lk ofC a b c) (lk uF (lk ofF x y z) (lk ofB x y z) (lk ofC x y z)) (lk uB (lk ofF x y z) (lk ofB x y z) (lk ofC x y
      z)) (lk ofC x y z)) (lk cmBy (lk uF (lk ofF a b c) (lk ofB a b c) (lk ofC a b c)) (lk uB (lk ofF a b c) (lk ofB a b c) (lk ofC a b c)) (lk ofC a b c) (lk uF (lk ofF x y z) (lk ofB x
      y z) (lk ofC x y z)) (lk uB (lk ofF x y z) (lk ofB x y z) (lk ofC x y z)) (lk ofC x y z)) (lk cmCnt (lk uF (lk ofF a b c) (lk ofB a b c) (lk ofC a b c)) (lk uB (lk ofF a b c) (lk
      ofB a b c) (lk ofC a b c)) (lk ofC a b c) (lk uF (lk ofF x y z) (lk ofB x y z) (lk ofC x y z)) (lk uB (lk ofF x y z) (lk ofB x y z) (lk ofC x y z)) (lk ofC x y z))) (lk uB (lk ofF a
      b c) (lk ofB a b c) (lk ofC a b c))) (lk uB (lk ofF a b c) (lk ofB a b c) (lk ofC a b c)) (U.quo IntKind.i64 (U.sub IntKind.i64 (lk sLast (lk uF (lk ofF a b c) (lk ofB a b c) (lk
      ofC a b c)) (lk uB (lk ofF a b c) (lk ofB a b c) (lk ofC a b c)) (lk ofC a b c)) (lk sLast (lk cmFst (lk uF (lk ofF a b c) (lk ofB a b c) (lk ofC a b c)) (lk uB (lk ofF a b c) (lk
      ofB a b c) (lk ofC a b c)) (lk ofC a b c) (lk uF (lk ofF x y z) (lk ofB x y z) (lk ofC x y z)) (lk uB (lk ofF x y z) (lk ofB x y z) (lk ofC x y z)) (lk ofC x y z)) (lk cmBy (lk uF
      (lk ofF a b c) (lk ofB a b c) (lk ofC a b c)) (lk uB (lk ofF a b c) (lk ofB a b c) (lk ofC a b c)) (lk ofC a b c) (lk uF (lk ofF x y z) (lk ofB x y z) (lk ofC x y z)) (lk uB (lk ofF
      x y z) (lk ofB x y z) (lk ofC x y z)) (lk ofC x y z)) (lk cmCnt (lk uF (lk ofF a b c) (lk ofB a b c) (lk ofC a b c)) (lk uB (lk ofF a b c) (lk ofB a b c) (lk ofC a b c)) (lk ofC a b
      c) (lk uF (lk ofF x y z) (lk ofB x y z) (lk ofC x y z)) (lk uB (lk ofF x y z) (lk ofB x y z) (lk ofC x y z)) (lk ofC x y z)))) (lk uB (lk ofF a b c) (lk ofB a b c) (lk ofC a b c)))
      c * (U.quo IntKind.i64 (U.sub IntKind.i64 (lk sLast (lk uF (lk ofF a b c) (lk ofB a b c) (lk ofC a b c)) (lk uB (lk ofF a b c) (lk ofB a b c) (lk ofC a b c)) (lk ofC a b c)) (lk
      sLast (lk cmFst (lk uF (lk ofF a b c) (lk ofB a b c) (lk ofC a b c)) (lk uB (lk ofF a b c) (lk ofB a b c) (lk ofC a b c)) (lk ofC a b c) (lk uF (lk ofF x y z) (lk ofB x y z) (lk ofC
      x y z)) (lk uB (lk ofF x y z) (lk ofB x y z) (lk ofC x y z)) (lk ofC x y z)) (lk cmBy (lk uF (lk ofF a b c) (lk ofB a b c) (lk ofC a b c)) (lk uB (lk ofF a b c) (lk ofB a b c) (lk
      ofC a b c)) (lk ofC a b c) (lk uF (lk ofF x y z) (lk ofB x y z) (lk ofC x y z)) (lk uB (lk ofF x y z) (lk ofB x y z) (lk ofC x y z)) (lk ofC x y z)) (lk cmCnt (lk uF (lk ofF a b c)
      (lk ofB a b c) (lk ofC a b c)) (lk uB (lk ofF a b c) (lk ofB a b c) (lk ofC a b c)) (lk ofC a b c) (lk uF (lk ofF x y z) (lk ofB x y z) (lk ofC x y z)) (lk uB (lk ofF x y z) (lk ofB
      x y z) (lk ofC x y z)) (lk ofC x y z)))) (lk uB (lk ofF a b c) (lk ofB a b c) (lk ofC a b c)) - (1 : Int)))) (T.ask (((1 : Nat) + lk pM (lk uB (lk ofF a b c) (lk ofB a b c) (lk ofC
      a b c)) (lk cmBy (lk uF (lk ofF a b c) (lk ofB a b c) (lk ofC a b c)) (lk uB (lk ofF a b c) (lk ofB a b c) (lk ofC a b c)) (lk ofC a b c) (lk uF (lk ofF x y z) (lk ofB x y z) (lk
      ofC x y z)) (lk uB (lk ofF x y z) (lk ofB x y z) (lk ofC x y z)) (lk ofC x y z)) (lk cmCnt (lk uF (lk ofF a b c) (lk ofB a b c) (lk ofC a b c)) (lk uB (lk ofF a b c) (lk ofB a b c)
      (lk ofC a b c)) (lk ofC a b c) (lk uF (lk ofF x y z) (lk ofB x y z) (lk ofC x y z)) (lk uB (lk ofF x y z) (lk ofB x y z) (lk ofC x y z)) (lk ofC x y z)) (nat_lit 1) + (1 : Nat)) *
      nat_lit 24 ≤ nat_lit 140737488351232) (T.br (U.gt (Int.ofNat ((nat_lit 1 + lk pM (lk uB (lk ofF a b c) (lk ofB a b c) (lk ofC a b c)) (lk cmBy (lk uF (lk ofF a b c) (lk ofB a b c)
      (lk ofC a b c)) (lk uB (lk ofF a b c) (lk ofB a b c) (lk ofC a b c)) (lk ofC a b c) (lk uF (lk ofF x y z) (lk ofB x y z) (lk ofC x y z)) (lk uB (lk ofF x y z) (lk ofB x y z) (lk ofC
      x y z)) (lk ofC x y z)) (lk cmCnt (lk uF (lk ofF a b c) (lk ofB a b c) (lk ofC a b c)) (lk uB (lk ofF a b c) (lk ofB a b c) (lk ofC a b c)) (lk ofC a b c) (lk uF (lk ofF x y z) (lk
      ofB x y z) (lk ofC x y z)) (lk uB (lk ofF x y z) (lk ofB x y z) (lk ofC x y z)) (lk ofC x y z)) (nat_lit 1)).add (nat_lit 1))) (1000 : Int)) (T.ret (SV.tup [SV.lit (Value.slice none
      (nat_lit 0) (nat_lit 0)), SV.lit (Value.int IntKind.i64 (7 : Int))])) (T.ret (SV.tup [SV.row [Sh.int IntKind.i64, Sh.int IntKind.i64, Sh.int IntKind.i64] ((nat_lit 1 + lk pM (lk uB
      (lk ofF a b c) (lk ofB a b c) (lk ofC a b c)) (lk cmBy (lk uF (lk ofF a b c) (lk ofB a b c) (lk ofC a b c)) (lk uB (lk ofF a b c) (lk ofB a b c) (lk ofC a b c)) (lk ofC a b c) (lk
      uF (lk ofF x y z) (lk ofB x y z) (lk ofC x y z)) (lk uB (lk ofF x y z) (lk ofB x y z) (lk ofC x y z)) (lk ofC x y z)) (lk cmCnt (lk uF (lk ofF a b c) (lk ofB a b c) (lk ofC a b c))
      (lk uB (lk ofF a b c) (lk ofB a b c) (lk ofC a b c)) (lk ofC a b c) (lk uF (lk ofF x y z) (lk ofB x y z) (lk ofC x y z)) (lk uB (lk ofF x y z) (lk ofB x y z) (lk ofC x y z)) (lk ofC
      x y z)) (nat_lit 1)).add (nat_lit 1)) (U.cat (nat_lit 1 + lk pM (lk uB (lk ofF a b c) (lk ofB a b c) (lk ofC a b c)) (lk cmBy (lk uF (lk ofF a b c) (lk ofB a b c) (lk ofC a b c))
      (lk uB (lk ofF a b c) (lk ofB a b c) (lk ofC a b c)) (lk ofC a b c) (lk uF (lk ofF x y z) (lk ofB x y z) (lk ofC x y z)) (lk uB (lk ofF x y z) (lk ofB x y z) (lk ofC x y z)) (lk ofC
      x y z)) (lk cmCnt (lk uF (lk ofF a b c) (lk ofB a b c) (lk ofC a b c)) (lk uB (lk ofF a b c) (lk ofB a b c) (lk ofC a b c)) (lk ofC a b c) (lk uF (lk ofF x y z) (lk ofB x y z) (lk
      ofC x y z)) (lk uB (lk ofF x y z) (lk ofB x y z) (lk ofC x y z)) (lk ofC x y z)) (nat_lit 1)) (lk ppF c (lk uB (lk ofF a b c) (lk ofB a b c) (lk ofC a b c)) (lk cmFst (lk uF (lk ofF
      a b c) (lk ofB a b c) (lk ofC a b c)) (lk uB (lk ofF a b c) (lk ofB a b c) (lk ofC a b c)) (lk ofC a b c) (lk uF (lk ofF x y z) (lk ofB x y z) (lk ofC x y z)) (lk uB (lk ofF x y z)
      (lk ofB x y z) (lk ofC x y z)) (lk ofC x y z)) (lk cmBy (lk uF (lk ofF a b c) (lk ofB a b c) (lk ofC a b c)) (lk uB (lk ofF a b c) (lk ofB a b c) (lk ofC a b c)) (lk ofC a b c) (lk
      uF (lk ofF x y z) (lk ofB x y z) (lk ofC x y z)) (lk uB (lk ofF x y z) (lk ofB x y z) (lk ofC x y z)) (lk ofC x y z)) (lk cmCnt (lk uF (lk ofF a b c) (lk ofB a b c) (lk ofC a b c))
      (lk uB (lk ofF a b c) (lk ofB a b c) (lk ofC a b c)) (lk ofC a b c) (lk uF (lk ofF x y z) (lk ofB x y z) (lk ofC x y z)) (lk uB (lk ofF x y z) (lk ofB x y z) (lk ofC x y z)) (lk ofC
      x y z)) (nat_lit 1) fun x_1 => (lk nLow (lk kF (lk uF (lk ofF a b c) (lk ofB a b c) (lk ofC a b c)) (lk uB (lk ofF a b c) (lk ofB a b c) (lk ofC a b c)) (U.quo IntKind.i64 (U.sub
      IntKind.i64 (lk cmFst (lk uF (lk ofF a b c) (lk ofB a b c) (lk ofC a b c)) (lk uB (lk ofF a b c) (lk ofB a b c) (lk ofC a b c)) (lk ofC a b c) (lk uF (lk ofF x y z) (lk ofB x y z)
      (lk ofC x y z)) (lk uB (lk ofF x y z) (lk ofB x y z) (lk ofC x y z)) (lk ofC x y z)) (lk uF (lk ofF a b c) (lk ofB a b c) (lk ofC a b c))) (lk uB (lk ofF a b c) (lk ofB a b c) (lk
      ofC a b c))) c) (lk kB (lk uF (lk ofF a b c) (lk ofB a b c) (lk ofC a b c)) (lk uB (lk ofF a b c) (lk ofB a b c) (lk ofC a b c)) (U.quo IntKind.i64 (U.sub IntKind.i64 (lk cmFst (lk
      uF (lk ofF a b c) (lk ofB a b c) (lk ofC a b c)) (lk uB (lk ofF a b c) (lk ofB a b c) (lk ofC a b c)) (lk ofC a b c) (lk uF (lk ofF x y z) (lk ofB x y z) (lk ofC x y z)) (lk uB (lk
      ofF x y z) (lk ofB x y z) (lk ofC x y z)) (lk ofC x y z)) (lk uF (lk ofF a b c) (lk ofB a b c) (lk ofC a b c))) (lk uB (lk ofF a b c) (lk ofB a b c) (lk ofC a b c))) c) (U.quo
      IntKind.i64 (U.sub IntKind.i64 (lk cmFst (lk uF (lk ofF a b c) (lk ofB a b c) (lk ofC a b c)) (lk uB (lk ofF a b c) (lk ofB a b c) (lk ofC a b c)) (lk ofC a b c) (lk uF (lk ofF x y
      z) (lk ofB x y z) (lk ofC x y z)) (lk uB (lk ofF x y z) (lk ofB x y z) (lk ofC x y z)) (lk ofC x y z)) (lk uF (lk ofF a b c) (lk ofB a b c) (lk ofC a b c))) (lk uB (lk ofF a b c)
      (lk ofB a b c) (lk ofC a b c))), lk nHigh (lk kF (lk uF (lk ofF a b c) (lk ofB a b c) (lk ofC a b c)) (lk uB (lk ofF a b c) (lk ofB a b c) (lk ofC a b c)) (U.quo IntKind.i64 (U.sub
      IntKind.i64 (lk cmFst (lk uF (lk ofF a b c) (lk ofB a b c) (lk ofC a b c)) (lk uB (lk ofF a b c) (lk ofB a b c) (lk ofC a b c)) (lk ofC a b c) (lk uF (lk ofF x y z) (lk ofB x y z)
      (lk ofC x y z)) (lk uB (lk ofF x y z) (lk ofB x y z) (lk ofC x y z)) (lk ofC x y z)) (lk uF (lk ofF a b c) (lk ofB a b c) (lk ofC a b c))) (lk uB (lk ofF a b c) (lk ofB a b c) (lk
      ofC a b c))) c) (lk kB (lk uF (lk ofF a b c) (lk ofB a b c) (lk ofC a b c)) (lk uB (lk ofF a b c) (lk ofB a b c) (lk ofC a b c)) (U.quo IntKind.i64 (U.sub IntKind.i64 (lk cmFst (lk
      uF (lk ofF a b c) (lk ofB a b c) (lk ofC a b c)) (lk uB (lk ofF a b c) (lk ofB a b c) (lk ofC a b c)) (lk ofC a b c) (lk uF (lk ofF x y z) (lk ofB x y z) (lk ofC x y z)) (lk uB (lk
      ofF x y z) (lk ofB x y z) (lk ofC x y z)) (lk ofC x y z)) (lk uF (lk ofF a b c) (lk ofB a b c) (lk ofC a b c))) (lk uB (lk ofF a b c) (lk ofB a b c) (lk ofC a b c))) c) (U.quo
      IntKind.i64 (U.sub IntKind.i64 (lk cmFst (lk uF (lk ofF a b c) (lk ofB a b c) (lk ofC a b c)) (lk uB (lk ofF a b c) (lk ofB a b c) (lk ofC a b c)) (lk ofC a b c) (lk uF (lk ofF x y
      z) (lk ofB x y z) (lk ofC x y z)) (lk uB (lk ofF x y z) (lk ofB x y z) (lk ofC x y z)) (lk ofC x y z)) (lk uF (lk ofF a b c) (lk ofB a b c) (lk ofC a b c))) (lk uB (lk ofF a b c)
      (lk ofB a b c) (lk ofC a b c))), lk nStr (lk kF (lk uF (lk ofF a b c) (lk ofB a b c) (lk ofC a b c)) (lk uB (lk ofF a b c) (lk ofB a b c) (lk ofC a b c)) (U.quo IntKind.i64 (U.sub
      IntKind.i64 (lk cmFst (lk uF (lk ofF a b c) (lk ofB a b c) (lk ofC a b c)) (lk uB (lk ofF a b c) (lk ofB a b c) (lk ofC a b c)) (lk ofC a b c) (lk uF (lk ofF x y z) (lk ofB x y z)
      (lk ofC x y z)) (lk uB (lk ofF x y z) (lk ofB x y z) (lk ofC x y z)) (lk ofC x y z)) (lk uF (lk ofF a b c) (lk ofB a b c) (lk ofC a b c))) (lk uB (lk ofF a b c) (lk ofB a b c) (lk
      ofC a b c))) c) (lk kB (lk uF (lk ofF a b c) (lk ofB a b c) (lk ofC a b c)) (lk uB (lk ofF a b c) (lk ofB a b c) (lk ofC a b c)) (U.quo IntKind.i64 (U.sub IntKind.i64 (lk cmFst (lk
      uF (lk ofF a b c) (lk ofB a b c) (lk ofC a b c)) (lk uB (lk ofF a b c) (lk ofB a b c) (lk ofC a b c)) (lk ofC a b c) (lk uF (lk ofF x y z) (lk ofB x y z) (lk ofC x y z)) (lk uB (lk
      ofF x y z) (lk ofB x y z) (lk ofC x y z)) (lk ofC x y z)) (lk uF (lk ofF a b c) (lk ofB a b c) (lk ofC a b c))) (lk uB (lk ofF a b c) (lk ofB a b c) (lk ofC a b c))) c) (U.quo
      IntKind.i64 (U.sub IntKind.i64 (lk cmFst (lk uF (lk ofF a b c) (lk ofB a b c) (lk ofC a b c)) (lk uB (lk ofF a b c) (lk ofB a b c) (lk ofC a b c)) (lk ofC a b c) (lk uF (lk ofF x y
      z) (lk ofB x y z) (lk ofC x y z)) (lk uB (lk ofF x y z) (lk ofB x y z) (lk ofC x y z)) (lk ofC x y z)) (lk uF (lk ofF a b c) (lk ofB a b c) (lk ofC a b c))) (lk uB (lk ofF a b c)
      (lk ofB a b c) (lk ofC a b c))), PUnit.unit)) fun x_1 => (lk nLow (lk kF (U.add IntKind.i64 (lk sLast (lk cmFst (lk uF (lk ofF a b c) (lk ofB a b c) (lk ofC a b c)) (lk uB (lk ofF a
      b c) (lk ofB a b c) (lk ofC a b c)) (lk ofC a b c) (lk uF (lk ofF x y z) (lk ofB x y z) (lk ofC x y z)) (lk uB (lk ofF x y z) (lk ofB x y z) (lk ofC x y z)) (lk ofC x y z)) (lk cmBy
      (lk uF (lk ofF a b c) (lk ofB a b c) (lk ofC a b c)) (lk uB (lk ofF a b c) (lk ofB a b c) (lk ofC a b c)) (lk ofC a b c) (lk uF (lk ofF x y z) (lk ofB x y z) (lk ofC x y z)) (lk uB
      (lk ofF x y z) (lk ofB x y z) (lk ofC x y z)) (lk ofC x y z)) (lk cmCnt (lk uF (lk ofF a b c) (lk ofB a b c) (lk ofC a b c)) (lk uB (lk ofF a b c) (lk ofB a b c) (lk ofC a b c)) (lk
      ofC a b c) (lk uF (lk ofF x y z) (lk ofB x y z) (lk ofC x y z)) (lk uB (lk ofF x y z) (lk ofB x y z) (lk ofC x y z)) (lk ofC x y z))) (lk uB (lk ofF a b c) (lk ofB a b c) (lk ofC a
      b c))) (lk uB (lk ofF a b c) (lk ofB a b c) (lk ofC a b c)) (U.quo IntKind.i64 (U.sub IntKind.i64 (lk sLast (lk uF (lk ofF a b c) (lk ofB a b c) (lk ofC a b c)) (lk uB (lk ofF a b
      c) (lk ofB a b c) (lk ofC a b c)) (lk ofC a b c)) (lk sLast (lk cmFst (lk uF (lk ofF a b c) (lk ofB a b c) (lk ofC a b c)) (lk uB (lk ofF a b c) (lk ofB a b c) (lk ofC a b c)) (lk
      ofC a b c) (lk uF (lk ofF x y z) (lk ofB x y z) (lk ofC x y z)) (lk uB (lk ofF x y z) (lk ofB x y z) (lk ofC x y z)) (lk ofC x y z)) (lk cmBy (lk uF (lk ofF a b c) (lk ofB a b c)
      (lk ofC a b c)) (lk uB (lk ofF a b c) (lk ofB a b c) (lk ofC a b c)) (lk ofC a b c) (lk uF (lk ofF x y z) (lk ofB x y z) (lk ofC x y z)) (lk uB (lk ofF x y z) (lk ofB x y z) (lk ofC
      x y z)) (lk ofC x y z)) (lk cmCnt (lk uF (lk ofF a b c) (lk ofB a b c) (lk ofC a b c)) (lk uB (lk ofF a b c) (lk ofB a b c) (lk ofC a b c)) (lk ofC a b c) (lk uF (lk ofF x y z) (lk
      ofB x y z) (lk ofC x y z)) (lk uB (lk ofF x y z) (lk ofB x y z) (lk ofC x y z)) (lk ofC x y z)))) (lk uB (lk ofF a b c) (lk ofB a b c) (lk ofC a b c))) c) (lk kB (U.add IntKind.i64
      (lk sLast (lk cmFst (lk uF (lk ofF a b c) (lk ofB a b c) (lk ofC a b c)) (lk uB (lk ofF a b c) (lk ofB a b c) (lk ofC a b c)) (lk ofC a b c) (lk uF (lk ofF x y z) (lk ofB x y z) (lk
      ofC x y z)) (lk uB (lk ofF x y z) (lk ofB x y z) (lk ofC x y z)) (lk ofC x y z)) (lk cmBy (lk uF (lk ofF a b c) (lk ofB a b c) (lk ofC a b c)) (lk uB (lk ofF a b c) (lk ofB a b c)
      (lk ofC a b c)) (lk ofC a b c) (lk uF (lk ofF x y z) (lk ofB x y z) (lk ofC x y z)) (lk uB (lk ofF x y z) (lk ofB x y z) (lk ofC x y z)) (lk ofC x y z)) (lk cmCnt (lk uF (lk ofF a b
      c) (lk ofB a b c) (lk ofC a b c)) (lk uB (lk ofF a b c) (lk ofB a b c) (lk ofC a b c)) (lk ofC a b c) (lk uF (lk ofF x y z) (lk ofB x y z) (lk ofC x y z)) (lk uB (lk ofF x y z) (lk
      ofB x y z) (lk ofC x y z)) (lk ofC x y z))) (lk uB (lk ofF a b c) (lk ofB a b c) (lk ofC a b c))) (lk uB (lk ofF a b c) (lk ofB a b c) (lk ofC a b c)) (U.quo IntKind.i64 (U.sub
      IntKind.i64 (lk sLast (lk uF (lk ofF a b c) (lk ofB a b c) (lk ofC a b c)) (lk uB (lk ofF a b c) (lk ofB a b c) (lk ofC a b c)) (lk ofC a b c)) (lk sLast (lk cmFst (lk uF (lk ofF a
      b c) (lk ofB a b c) (lk ofC a b c)) (lk uB (lk ofF a b c) (lk ofB a b c) (lk ofC a b c)) (lk ofC a b c) (lk uF (lk ofF x y z) (lk ofB x y z) (lk ofC x y z)) (lk uB (lk ofF x y z)
      (lk ofB x y z) (lk ofC x y z)) (lk ofC x y z)) (lk cmBy (lk uF (lk ofF a b c) (lk ofB a b c) (lk ofC a b c)) (lk uB (lk ofF a b c) (lk ofB a b c) (lk ofC a b c)) (lk ofC a b c) (lk
      uF (lk ofF x y z) (lk ofB x y z) (lk ofC x y z)) (lk uB (lk ofF x y z) (lk ofB x y z) (lk ofC x y z)) (lk ofC x y z)) (lk cmCnt (lk uF (lk ofF a b c) (lk ofB a b c) (lk ofC a b c))
      (lk uB (lk ofF a b c) (lk ofB a b c) (lk ofC a b c)) (lk ofC a b c) (lk uF (lk ofF x y z) (lk ofB x y z) (lk ofC x y z)) (lk uB (lk ofF x y z) (lk ofB x y z) (lk ofC x y z)) (lk ofC
      x y z)))) (lk uB (lk ofF a b c) (lk ofB a b c) (lk ofC a b c))) c) (U.quo IntKind.i64 (U.sub IntKind.i64 (lk sLast (lk uF (lk ofF a b c) (lk ofB a b c) (lk ofC a b c)) (lk uB (lk
      ofF a b c) (lk ofB a b c) (lk ofC a b c)) (lk ofC a b c)) (lk sLast (lk cmFst (lk uF (lk ofF a b c) (lk ofB a b c) (lk ofC a b c)) (lk uB (lk ofF a b c) (lk ofB a b c) (lk ofC a b
      c)) (lk ofC a b c) (lk uF (lk ofF x y z) (lk ofB x y z) (lk ofC x y z)) (lk uB (lk ofF x y z) (lk ofB x y z) (lk ofC x y z)) (lk ofC x y z)) (lk cmBy (lk uF (lk ofF a b c) (lk ofB a
      b c) (lk ofC a b c)) (lk uB (lk ofF a b c) (lk ofB a b c) (lk ofC a b c)) (lk ofC a b c) (lk uF (lk ofF x y z) (lk ofB x y z) (lk ofC x y z)) (lk uB (lk ofF x y z) (lk ofB x y z)
      (lk ofC x y z)) (lk ofC x y z)) (lk cmCnt (lk uF (lk ofF a b c) (lk ofB a b c) (lk ofC a b c)) (lk uB (lk ofF a b c) (lk ofB a b c) (lk ofC a b c)) (lk ofC a b c) (lk uF (lk ofF x y
      z) (lk ofB x y z) (lk ofC x y z)) (lk uB (lk ofF x y z) (lk ofB x y z) (lk ofC x y z)) (lk ofC x y z)))) (lk uB (lk ofF a b c) (lk ofB a b c) (lk ofC a b c))), lk nHigh (lk kF
      (U.add IntKind.i64 (lk sLast (lk cmFst (lk uF (lk ofF a b c) (lk ofB a b c) (lk ofC a b c)) (lk uB (lk ofF a b c) (lk ofB a b c) (lk ofC a b c)) (lk ofC a b c) (lk uF (lk ofF x y z)
      (lk ofB x y z) (lk ofC x y z)) (lk uB (lk ofF x y z) (lk ofB x y z) (lk ofC x y z)) (lk ofC x y z)) (lk cmBy (lk uF (lk ofF a b c) (lk ofB a b c) (lk ofC a b c)) (lk uB (lk ofF a b
      c) (lk ofB a b c) (lk ofC a b c)) (lk ofC a b c) (lk uF (lk ofF x y z) (lk ofB x y z) (lk ofC x y z)) (lk uB (lk ofF x y z) (lk ofB x y z) (lk ofC x y z)) (lk ofC x y z)) (lk cmCnt
      (lk uF (lk ofF a b c) (lk ofB a b c) (lk ofC a b c)) (lk uB (lk ofF a b c) (lk ofB a b c) (lk ofC a b c)) (lk ofC a b c) (lk uF (lk ofF x y z) (lk ofB x y z) (lk ofC x y z)) (lk uB
      (lk ofF x y z) (lk ofB x y z) (lk ofC x y z)) (lk ofC x y z))) (lk uB (lk ofF a b c) (lk ofB a b c) (lk ofC a b c))) (lk uB (lk ofF a b c) (lk ofB a b c) (lk ofC a b c)) (U.quo
      IntKind.i64 (U.sub IntKind.i64 (lk sLast (lk uF (lk ofF a b c) (lk ofB a b c) (lk ofC a b c)) (lk uB (lk ofF a b c) (lk ofB a b c) (lk ofC a b c)) (lk ofC a b c)) (lk sLast (lk
      cmFst (lk uF (lk ofF a b c) (lk ofB a b c) (lk ofC a b c)) (lk uB (lk ofF a b c) (lk ofB a b c) (lk ofC a b c)) (lk ofC a b c) (lk uF (lk ofF x y z) (lk ofB x y z) (lk ofC x y z))
      (lk uB (lk ofF x y z) (lk ofB x y z) (lk ofC x y z)) (lk ofC x y z)) (lk cmBy (lk uF (lk ofF a b c) (lk ofB a b c) (lk ofC a b c)) (lk uB (lk ofF a b c) (lk ofB a b c) (lk ofC a b
      c)) (lk ofC a b c) (lk uF (lk ofF x y z) (lk ofB x y z) (lk ofC x y z)) (lk uB (lk ofF x y z) (lk ofB x y z) (lk ofC x y z)) (lk ofC x y z)) (lk cmCnt (lk uF (lk ofF a b c) (lk ofB
      a b c) (lk ofC a b c)) (lk uB (lk ofF a b c) (lk ofB a b c) (lk ofC a b c)) (lk ofC a b c) (lk uF (lk ofF x y z) (lk ofB x y z) (lk ofC x y z)) (lk uB (lk ofF x y z) (lk ofB x y z)
      (lk ofC x y z)) (lk ofC x y z)))) (lk uB (lk ofF a b c) (lk ofB a b c) (lk ofC a b c))) c) (lk kB (U.add IntKind.i64 (lk sLast (lk cmFst (lk uF (lk ofF a b c) (lk ofB a b c) (lk ofC
      a b c)) (lk uB (lk ofF a b c) (lk ofB a b c) (lk ofC a b c)) (lk ofC a b c) (lk uF (lk ofF x y z) (lk ofB x y z) (lk ofC x y z)) (lk uB (lk ofF x y z) (lk ofB x y z) (lk ofC x y z))
      (lk ofC x y z)) (lk cmBy (lk uF (lk ofF a b c) (lk ofB a b c) (lk ofC a b c)) (lk uB (lk ofF a b c) (lk ofB a b c) (lk ofC a b c)) (lk ofC a b c) (lk uF (lk ofF x y z) (lk ofB x y
      z) (lk ofC x y z)) (lk uB (lk ofF x y z) (lk ofB x y z) (lk ofC x y z)) (lk ofC x y z)) (lk cmCnt (lk uF (lk ofF a b c) (lk ofB a b c) (lk ofC a b c)) (lk uB (lk ofF a b c) (lk ofB
      a b c) (lk ofC a b c)) (lk ofC a b c) (lk uF (lk ofF x y z) (lk ofB x y z) (lk ofC x y z)) (lk uB (lk ofF x y z) (lk ofB x y z) (lk ofC x y z)) (lk ofC x y z))) (lk uB (lk ofF a b
      c) (lk ofB a b c) (lk ofC a b c))) (lk uB (lk ofF a b c) (lk ofB a b c) (lk ofC a b c)) (U.quo IntKind.i64 (U.sub IntKind.i64 (lk sLast (lk uF (lk ofF a b c) (lk ofB a b c) (lk ofC
      a b c)) (lk uB (lk ofF a b c) (lk ofB a b c) (lk ofC a b c)) (lk ofC a b c)) (lk sLast (lk cmFst (lk uF (lk ofF a b c) (lk ofB a b c) (lk ofC a b c)) (lk uB (lk ofF a b c) (lk ofB a
      b c) (lk ofC a b c)) (lk ofC a b c) (lk uF (lk ofF x y z) (lk ofB x y z) (lk ofC x y z)) (lk uB (lk ofF x y z) (lk ofB x y z) (lk ofC x y z)) (lk ofC x y z)) (lk cmBy (lk uF (lk ofF
      a b c) (lk ofB a b c) (lk ofC a b c)) (lk uB (lk ofF a b c) (lk ofB a b c) (lk ofC a b c)) (lk ofC a b c) (lk uF (lk ofF x y z) (lk ofB x y z) (lk ofC x y z)) (lk uB (lk ofF x y z)
      (lk ofB x y z) (lk ofC x y z)) (lk ofC x y z)) (lk cmCnt (lk uF (lk ofF a b c) (lk ofB a b c) (lk ofC a b c)) (lk uB (lk ofF a b c) (lk ofB a b c) (lk ofC a b c)) (lk ofC a b c) (lk
      uF (lk ofF x y z) (lk ofB x y z) (lk ofC x y z)) (lk uB (lk ofF x y z) (lk ofB x y z) (lk ofC x y z)) (lk ofC x y z)))) (lk uB (lk ofF a b c) (lk ofB a b c) (lk ofC a b c))) c)
      (U.quo IntKind.i64 (U.sub IntKind.i64 (lk sLast (lk uF (lk ofF a b c) (lk ofB a b c) (lk ofC a b c)) (lk uB (lk ofF a b c) (lk ofB a b c) (lk ofC a b c)) (lk ofC a b c)) (lk sLast
      (lk cmFst (lk uF (lk ofF a b c) (lk ofB a b c) (lk ofC a b c)) (lk uB (lk ofF a b c) (lk ofB a b c) (lk ofC a b c)) (lk ofC a b c) (lk uF (lk ofF x y z) (lk ofB x y z) (lk ofC x y
      z)) (lk uB (lk ofF x y z) (lk ofB x y z) (lk ofC x y z)) (lk ofC x y z)) (lk cmBy (lk uF (lk ofF a b c) (lk ofB a b c) (lk ofC a b c)) (lk uB (lk ofF a b c) (lk ofB a b c) (lk ofC a
      b c)) (lk ofC a b c) (lk uF (lk ofF x y z) (lk ofB x y z) (lk ofC x y z)) (lk uB (lk ofF x y z) (lk ofB x y z) (lk ofC x y z)) (lk ofC x y z)) (lk cmCnt (lk uF (lk ofF a b c) (lk
      ofB a b c) (lk ofC a b c)) (lk uB (lk ofF a b c) (lk ofB a b c) (lk ofC a b c)) (lk ofC a b c) (lk uF (lk ofF x y z) (lk ofB x y z) (lk ofC x y z)) (lk uB (lk ofF x y z) (lk ofB x y
      z) (lk ofC x y z)) (lk ofC x y z)))) (lk uB (lk ofF a b c) (lk ofB a b c) (lk ofC a b c))), lk nStr (lk kF (U.add IntKind.i64 (lk sLast (lk cmFst (lk uF (lk ofF a b c) (lk ofB a b
      c) (lk ofC a b c)) (lk uB (lk ofF a b c) (lk ofB a b c) (lk ofC a b c)) (lk ofC a b c) (lk uF (lk ofF x y z) (lk ofB x y z) (lk ofC x y z)) (lk uB (lk ofF x y z) (lk ofB x y z) (lk
      ofC x y z)) (lk ofC x y z)) (lk cmBy (lk uF (lk ofF a b c) (lk ofB a b c) (lk ofC a b c)) (lk uB (lk ofF a b c) (lk ofB a b c) (lk ofC a b c)) (lk ofC a b c) (lk uF (lk ofF x y z)
      (lk ofB x y z) (lk ofC x y z)) (lk uB (lk ofF x y z) (lk ofB x y z) (lk ofC x y z)) (lk ofC x y z)) (lk cmCnt (lk uF (lk ofF a b c) (lk ofB a b c) (lk ofC a b c)) (lk uB (lk ofF a b
      c) (lk ofB a b c) (lk ofC a b c)) (lk ofC a b c) (lk uF (lk ofF x y z) (lk ofB x y z) (lk ofC x y z)) (lk uB (lk ofF x y z) (lk ofB x y z) (lk ofC x y z)) (lk ofC x y z))) (lk uB
      (lk ofF a b c) (lk ofB a b c) (lk ofC a b c))) (lk uB (lk ofF a b c) (lk ofB a b c) (lk ofC a b c)) (U.quo IntKind.i64 (U.sub IntKind.i64 (lk sLast (lk uF (lk ofF a b c) (lk ofB a b
      c) (lk ofC a b c)) (lk uB (lk ofF a b c) (lk ofB a b c) (lk ofC a b c)) (lk ofC a b c)) (lk sLast (lk cmFst (lk uF (lk ofF a b c) (lk ofB a b c) (lk ofC a b c)) (lk uB (lk ofF a b
      c) (lk ofB a b c) (lk ofC a b c)) (lk ofC a b c) (lk uF (lk ofF x y z) (lk ofB x y z) (lk ofC x y z)) (lk uB (lk ofF x y z) (lk ofB x y z) (lk ofC x y z)) (lk ofC x y z)) (lk cmBy
      (lk uF (lk ofF a b c) (lk ofB a b c) (lk ofC a b c)) (lk uB (lk ofF a b c) (lk ofB a b c) (lk ofC a b c)) (lk ofC a b c) (lk uF (lk ofF x y z) (lk ofB x y z) (lk ofC x y z)) (lk uB
      (lk ofF x y z) (lk ofB x y z) (lk ofC x y z)) (lk ofC x y z)) (lk cmCnt (lk uF (lk ofF a b c) (lk ofB a b c) (lk ofC a b c)) (lk uB (lk ofF a b c) (lk ofB a b c) (lk ofC a b c)) (lk
      ofC a b c) (lk uF (lk ofF x y z) (lk ofB x y z) (lk ofC x y z)) (lk uB (lk ofF x y z) (lk ofB x y z) (lk ofC x y z)) (lk ofC x y z)))) (lk uB (lk ofF a b c) (lk ofB a b c) (lk ofC a
      b c))) c) (lk kB (U.add IntKind.i64 (lk sLast (lk cmFst (lk uF (lk ofF a b c) (lk ofB a b c) (lk ofC a b c)) (lk uB (lk ofF a b c) (lk ofB a b c) (lk ofC a b c)) (lk ofC a b c) (lk
      uF (lk ofF x y z) (lk ofB x y z) (lk ofC x y z)) (lk uB (lk ofF x y z) (lk ofB x y z) (lk ofC x y z)) (lk ofC x y z)) (lk cmBy (lk uF (lk ofF a b c) (lk ofB a b c) (lk ofC a b c))
      (lk uB (lk ofF a b c) (lk ofB a b c) (lk ofC a b c)) (lk ofC a b c) (lk uF (lk ofF x y z) (lk ofB x y z) (lk ofC x y z)) (lk uB (lk ofF x y z) (lk ofB x y z) (lk ofC x y z)) (lk ofC
      x y z)) (lk cmCnt (lk uF (lk ofF a b c) (lk ofB a b c) (lk ofC a b c)) (lk uB (lk ofF a b c) (lk ofB a b c) (lk ofC a b c)) (lk ofC a b c) (lk uF (lk ofF x y z) (lk ofB x y z) (lk
      ofC x y z)) (lk uB (lk ofF x y z) (lk ofB x y z) (lk ofC x y z)) (lk ofC x y z))) (lk uB (lk ofF a b c) (lk ofB a b c) (lk ofC a b c))) (lk uB (lk ofF a b c) (lk ofB a b c) (lk ofC
      a b c)) (U.quo IntKind.i64 (U.sub IntKind.i64 (lk sLast (lk uF (lk ofF a b c) (lk ofB a b c) (lk ofC a b c)) (lk uB (lk ofF a b c) (lk ofB a b c) (lk ofC a b c)) (lk ofC a b c)) (lk
      sLast (lk cmFst (lk uF (lk ofF a b c) (lk ofB a b c) (lk ofC a b c)) (lk uB (lk ofF a b c) (lk ofB a b c) (lk ofC a b c)) (lk ofC a b c) (lk uF (lk ofF x y z) (lk ofB x y z) (lk ofC
      x y z)) (lk uB (lk ofF x y z) (lk ofB x y z) (lk ofC x y z)) (lk ofC x y z)) (lk cmBy (lk uF (lk ofF a b c) (lk ofB a b c) (lk ofC a b c)) (lk uB (lk ofF a b c) (lk ofB a b c) (lk
      ofC a b c)) (lk ofC a b c) (lk uF (lk ofF x y z) (lk ofB x y z) (lk ofC x y z)) (lk uB (lk ofF x y z) (lk ofB x y z) (lk ofC x y z)) (lk ofC x y z)) (lk cmCnt (lk uF (lk ofF a b c)
      (lk ofB a b c) (lk ofC a b c)) (lk uB (lk ofF a b c) (lk ofB a b c) (lk ofC a b c)) (lk ofC a b c) (lk uF (lk ofF x y z) (lk ofB x y z) (lk ofC x y z)) (lk uB (lk ofF x y z) (lk ofB
      x y z) (lk ofC x y z)) (lk ofC x y z)))) (lk uB (lk ofF a b c) (lk ofB a b c) (lk ofC a b c))) c) (U.quo IntKind.i64 (U.sub IntKind.i64 (lk sLast (lk uF (lk ofF a b c) (lk ofB a b
      c) (lk ofC a b c)) (lk uB (lk ofF a b c) (lk ofB a b c) (lk ofC a b c)) (lk ofC a b c)) (lk sLast (lk cmFst (lk uF (lk ofF a b c) (lk ofB a b c) (lk ofC a b c)) (lk uB (lk ofF a b
      c) (lk ofB a b c) (lk ofC a b c)) (lk ofC a b c) (lk uF (lk ofF x y z) (lk ofB x y z) (lk ofC x y z)) (lk uB (lk ofF x y z) (lk ofB x y z) (lk ofC x y z)) (lk ofC x y z)) (lk cmBy
      (lk uF (lk ofF a b c) (lk ofB a b c) (lk ofC a b c)) (lk uB (lk ofF a b c) (lk ofB a b c) (lk ofC a b c)) (lk ofC a b c) (lk uF (lk ofF x y z) (lk ofB x y z) (lk ofC x y z)) (lk uB
      (lk ofF x y z) (lk ofB x y z) (lk ofC x y z)) (lk ofC x y z)) (lk cmCnt (lk uF (lk ofF a b c) (lk ofB a b c) (lk ofC a b c)) (lk uB (lk ofF a b c) (lk ofB a b c) (lk ofC a b c)) (lk
      ofC a b c) (lk uF (lk ofF x y z) (lk ofB x y z) (lk ofC x y z)) (lk uB (lk ofF x y z) (lk ofB x y z) (lk ofC x y z)) (lk ofC x y z)))) (lk uB (lk ofF a b c) (lk ofB a b c) (lk ofC a
      b c))), PUnit.unit)), SV.lit (Value.int IntKind.i64 (0 : Int))])))))) (T.br (U.gt (Int.ofNat (nat_lit 1 + lk pM (lk uB (lk ofF a b c) (lk ofB a b c) (lk ofC a b c)) (lk cmBy (lk uF
      (lk ofF a b c) (lk ofB a b c) (lk ofC a b c)) (lk uB (lk ofF a b c) (lk ofB a b c) (lk ofC a b c)) (lk ofC a b c) (lk uF (lk ofF x y z) (lk ofB x y z) (lk ofC x y z)) (lk uB (lk ofF
      x y z) (lk ofB x y z) (lk ofC x y z)) (lk ofC x y z)) (lk cmCnt (lk uF (lk ofF a b c) (lk ofB a b c) (lk ofC a b c)) (lk uB (lk ofF a b c) (lk ofB a b c) (lk ofC a b c)) (lk ofC a b
      c) (lk uF (lk ofF x y z) (lk ofB x y z) (lk ofC x y z)) (lk uB (lk ofF x y z) (lk ofB x y z) (lk ofC x y z)) (lk ofC x y z)) (nat_lit 1))) (1000 : Int)) (T.ret (SV.tup [SV.lit
      (Value.slice none (nat_lit 0) (nat_lit 0)), SV.lit (Value.int IntKind.i64 (7 : Int))])) (T.ret (SV.tup [SV.row [Sh.int IntKind.i64, Sh.int IntKind.i64, Sh.int IntKind.i64] (nat_lit
      1 + lk pM (lk uB (lk ofF a b c) (lk ofB a b c) (lk ofC a b c)) (lk cmBy (lk uF (lk ofF a b c) (lk ofB a b c) (lk ofC a b c)) (lk uB (lk ofF a b c) (lk ofB a b c) (lk ofC a b c)) (lk
      ofC a b c) (lk uF (lk ofF x y z) (lk ofB x y z) (lk ofC x y z)) (lk uB (lk ofF x y z) (lk ofB x y z) (lk ofC x y z)) (lk ofC x y z)) (lk cmCnt (lk uF (lk ofF a b c) (lk ofB a b c)
      (lk ofC a b c)) (lk uB (lk ofF a b c) (lk ofB a b c) (lk ofC a b c)) (lk ofC a b c) (lk uF (lk ofF x y z) (lk ofB x y z) (lk ofC x y z)) (lk uB (lk ofF x y z) (lk ofB x y z) (lk ofC
      x y z)) (lk ofC x y z)) (nat_lit 1)) (lk ppF c (lk uB (lk ofF a b c) (lk ofB a b c) (lk ofC a b c)) (lk cmFst (lk uF (lk ofF a b c) (lk ofB a b c) (lk ofC a b c)) (lk uB (lk ofF a b
      c) (lk ofB a b c) (lk ofC a b c)) (lk ofC a b c) (lk uF (lk ofF x y z) (lk ofB x y z) (lk ofC x y z)) (lk uB (lk ofF x y z) (lk ofB x y z) (lk ofC x y z)) (lk ofC x y z)) (lk cmBy
      (lk uF (lk ofF a b c) (lk ofB a b c) (lk ofC a b c)) (lk uB (lk ofF a b c) (lk ofB a b c) (lk ofC a b c)) (lk ofC a b c) (lk uF (lk ofF x y z) (lk ofB x y z) (lk ofC x y z)) (lk uB
      (lk ofF x y z) (lk ofB x y z) (lk ofC x y z)) (lk ofC x y z)) (lk cmCnt (lk uF (lk ofF a b c) (lk ofB a b c) (lk ofC a b c)) (lk uB (lk ofF a b c) (lk ofB a b c) (lk ofC a b c)) (lk
      ofC a b c) (lk uF (lk ofF x y z) (lk ofB x y z) (lk ofC x y z)) (lk uB (lk ofF x y z) (lk ofB x y z) (lk ofC x y z)) (lk ofC x y z)) (nat_lit 1) fun x_1 => (lk nLow (lk kF (lk uF
      (lk ofF a b c) (lk ofB a b c) (lk ofC a b c)) (lk uB (lk ofF a b c) (lk ofB a b c) (lk ofC a b c)) (U.quo IntKind.i64 (U.sub IntKind.i64 (lk cmFst (lk uF (lk ofF a b c) (lk ofB a b
      c) (lk ofC a b c)) (lk uB (lk ofF a b c) (lk ofB a b c) (lk ofC a b c)) (lk ofC a b c) (lk uF (lk ofF x y z) (lk ofB x y z) (lk ofC x y z)) (lk uB (lk ofF x y z) (lk ofB x y z) (lk
      ofC x y z)) (lk ofC x y z)) (lk uF (lk ofF a b c) (lk ofB a b c) (lk ofC a b c))) (lk uB (lk ofF a b c) (lk ofB a b c) (lk ofC a b c))) c) (lk kB (lk uF (lk ofF a b c) (lk ofB a b
      c) (lk ofC a b c)) (lk uB (lk ofF a b c) (lk ofB a b c) (lk ofC a b c)) (U.quo IntKind.i64 (U.sub IntKind.i64 (lk cmFst (lk uF (lk ofF a b c) (lk ofB a b c) (lk ofC a b c)) (lk uB
      (lk ofF a b c) (lk ofB a b c) (lk ofC a b c)) (lk ofC a b c) (lk uF (lk ofF x y z) (lk ofB x y z) (lk ofC x y z)) (lk uB (lk ofF x y z) (lk ofB x y z) (lk ofC x y z)) (lk ofC x y
      z)) (lk uF (lk ofF a b c) (lk ofB a b c) (lk ofC a b c))) (lk uB (lk ofF a b c) (lk ofB a b c) (lk ofC a b c))) c) (U.quo IntKind.i64 (U.sub IntKind.i64 (lk cmFst (lk uF (lk ofF a b
      c) (lk ofB a b c) (lk ofC a b c)) (lk uB (lk ofF a b c) (lk ofB a b c) (lk ofC a b c)) (lk ofC a b c) (lk uF (lk ofF x y z) (lk ofB x y z) (lk ofC x y z)) (lk uB (lk ofF x y z) (lk
      ofB x y z) (lk ofC x y z)) (lk ofC x y z)) (lk uF (lk ofF a b c) (lk ofB a b c) (lk ofC a b c))) (lk uB (lk ofF a b c) (lk ofB a b c) (lk ofC a b c))), lk nHigh (lk kF (lk uF (lk
      ofF a b c) (lk ofB a b c) (lk ofC a b c)) (lk uB (lk ofF a b c) (lk ofB a b c) (lk ofC a b c)) (U.quo IntKind.i64 (U.sub IntKind.i64 (lk cmFst (lk uF (lk ofF a b c) (lk ofB a b c)
      (lk ofC a b c)) (lk uB (lk ofF a b c) (lk ofB a b c) (lk ofC a b c)) (lk ofC a b c) (lk uF (lk ofF x y z) (lk ofB x y z) (lk ofC x y z)) (lk uB (lk ofF x y z) (lk ofB x y z) (lk ofC
      x y z)) (lk ofC x y z)) (lk uF (lk ofF a b c) (lk ofB a b c) (lk ofC a b c))) (lk uB (lk ofF a b c) (lk ofB a b c) (lk ofC a b c))) c) (lk kB (lk uF (lk ofF a b c) (lk ofB a b c)
      (lk ofC a b c)) (lk uB (lk ofF a b c) (lk ofB a b c) (lk ofC a b c)) (U.quo IntKind.i64 (U.sub IntKind.i64 (lk cmFst (lk uF (lk ofF a b c) (lk ofB a b c) (lk ofC a b c)) (lk uB (lk
      ofF a b c) (lk ofB a b c) (lk ofC a b c)) (lk ofC a b c) (lk uF (lk ofF x y z) (lk ofB x y z) (lk ofC x y z)) (lk uB (lk ofF x y z) (lk ofB x y z) (lk ofC x y z)) (lk ofC x y z))
      (lk uF (lk ofF a b c) (lk ofB a b c) (lk ofC a b c))) (lk uB (lk ofF a b c) (lk ofB a b c) (lk ofC a b c))) c) (U.quo IntKind.i64 (U.sub IntKind.i64 (lk cmFst (lk uF (lk ofF a b c)
      (lk ofB a b c) (lk ofC a b c)) (lk uB (lk ofF a b c) (lk ofB a b c) (lk ofC a b c)) (lk ofC a b c) (lk uF (lk ofF x y z) (lk ofB x y z) (lk ofC x y z)) (lk uB (lk ofF x y z) (lk ofB
      x y z) (lk ofC x y z)) (lk ofC x y z)) (lk uF (lk ofF a b c) (lk ofB a b c) (lk ofC a b c))) (lk uB (lk ofF a b c) (lk ofB a b c) (lk ofC a b c))), lk nStr (lk kF (lk uF (lk ofF a b
      c) (lk ofB a b c) (lk ofC a b c)) (lk uB (lk ofF a b c) (lk ofB a b c) (lk ofC a b c)) (U.quo IntKind.i64 (U.sub IntKind.i64 (lk cmFst (lk uF (lk ofF a b c) (lk ofB a b c) (lk ofC a
      b c)) (lk uB (lk ofF a b c) (lk ofB a b c) (lk ofC a b c)) (lk ofC a b c) (lk uF (lk ofF x y z) (lk ofB x y z) (lk ofC x y z)) (lk uB (lk ofF x y z) (lk ofB x y z) (lk ofC x y z))
      (lk ofC x y z)) (lk uF (lk ofF a b c) (lk ofB a b c) (lk ofC a b c))) (lk uB (lk ofF a b c) (lk ofB a b c) (lk ofC a b c))) c) (lk kB (lk uF (lk ofF a b c) (lk ofB a b c) (lk ofC a
      b c)) (lk uB (lk ofF a b c) (lk ofB a b c) (lk ofC a b c)) (U.quo IntKind.i64 (U.sub IntKind.i64 (lk cmFst (lk uF (lk ofF a b c) (lk ofB a b c) (lk ofC a b c)) (lk uB (lk ofF a b c)
      (lk ofB a b c) (lk ofC a b c)) (lk ofC a b c) (lk uF (lk ofF x y z) (lk ofB x y z) (lk ofC x y z)) (lk uB (lk ofF x y z) (lk ofB x y z) (lk ofC x y z)) (lk ofC x y z)) (lk uF (lk
      ofF a b c) (lk ofB a b c) (lk ofC a b c))) (lk uB (lk ofF a b c) (lk ofB a b c) (lk ofC a b c))) c) (U.quo IntKind.i64 (U.sub IntKind.i64 (lk cmFst (lk uF (lk ofF a b c) (lk ofB a b
      c) (lk ofC a b c)) (lk uB (lk ofF a b c) (lk ofB a b c) (lk ofC a b c)) (lk ofC a b c) (lk uF (lk ofF x y z) (lk ofB x y z) (lk ofC x y z)) (lk uB (lk ofF x y z) (lk ofB x y z) (lk
      ofC x y z)) (lk ofC x y z)) (lk uF (lk ofF a b c) (lk ofB a b c) (lk ofC a b c))) (lk uB (lk ofF a b c) (lk ofB a b c) (lk ofC a b c))), PUnit.unit)), SV.lit (Value.int IntKind.i64
      (0 : Int))])))) (T.br (U.gt (Int.ofNat (nat_lit 1 + lk pM (lk uB (lk ofF a b c) (lk ofB a b c) (lk ofC a b c)) (lk cmBy (lk uF (lk ofF a b c) (lk ofB a b c) (lk ofC a b c)) (lk uB
      (lk ofF a b c) (lk ofB a b c) (lk ofC a b c)) (lk ofC a b c) (lk uF (lk ofF x y z) (lk ofB x y z) (lk ofC x y z)) (lk uB (lk ofF x y z) (lk ofB x y z) (lk ofC x y z)) (lk ofC x y
      z)) (lk cmCnt (lk uF (lk ofF a b c) (lk ofB a b c) (lk ofC a b c)) (lk uB (lk ofF a b c) (lk ofB a b c) (lk ofC a b c)) (lk ofC a b c) (lk uF (lk ofF x y z) (lk ofB x y z) (lk ofC x
      y z)) (lk uB (lk ofF x y z) (lk ofB x y z) (lk ofC x y z)) (lk ofC x y z)) (nat_lit 1))) (1000 : Int)) (T.ret (SV.tup [SV.lit (Value.slice none (nat_lit 0) (nat_lit 0)), SV.lit
      (Value.int IntKind.i64 (7 : Int))])) (T.ret (SV.tup [SV.row [Sh.int IntKind.i64, Sh.int IntKind.i64, Sh.int IntKind.i64] (nat_lit 1 + lk pM (lk uB (lk ofF a b c) (lk ofB a b c) (lk
      ofC a b c)) (lk cmBy (lk uF (lk ofF a b c) (lk ofB a b c) (lk ofC a b c)) (lk uB (lk ofF a b c) (lk ofB a b c) (lk ofC a b c)) (lk ofC a b c) (lk uF (lk ofF x y z) (lk ofB x y z)
      (lk ofC x y z)) (lk uB (lk ofF x y z) (lk ofB x y z) (lk ofC x y z)) (lk ofC x y z)) (lk cmCnt (lk uF (lk ofF a b c) (lk ofB a b c) (lk ofC a b c)) (lk uB (lk ofF a b c) (lk ofB a b
      c) (lk ofC a b c)) (lk ofC a b c) (lk uF (lk ofF x y z) (lk ofB x y z) (lk ofC x y z)) (lk uB (lk ofF x y z) (lk ofB x y z) (lk ofC x y z)) (lk ofC x y z)) (nat_lit 1)) (lk ppF c
      (lk uB (lk ofF a b c) (lk ofB a b c) (lk ofC a b c)) (lk cmFst (lk uF (lk ofF a b c) (lk ofB a b c) (lk ofC a b c)) (lk uB (lk ofF a b c) (lk ofB a b c) (lk ofC a b c)) (lk ofC a b
      c) (lk uF (lk ofF x y z) (lk ofB x y z) (lk ofC x y z)) (lk uB (lk ofF x y z) (lk ofB x y z) (lk ofC x y z)) (lk ofC x y z)) (lk cmBy (lk uF (lk ofF a b c) (lk ofB a b c) (lk ofC a
      b c)) (lk uB (lk ofF a b c) (lk ofB a b c) (lk ofC a b c)) (lk ofC a b c) (lk uF (lk ofF x y z) (lk ofB x y z) (lk ofC x y z)) (lk uB (lk ofF x y z) (lk ofB x y z) (lk ofC x y z))
      (lk ofC x y z)) (lk cmCnt (lk uF (lk ofF a b c) (lk ofB a b c) (lk ofC a b c)) (lk uB (lk ofF a b c) (lk ofB a b c) (lk ofC a b c)) (lk ofC a b c) (lk uF (lk ofF x y z) (lk ofB x y
      z) (lk ofC x y z)) (lk uB (lk ofF x y z) (lk ofB x y z) (lk ofC x y z)) (lk ofC x y z)) (nat_lit 1) fun x_1 => (lk nLow (lk kF (lk uF (lk ofF a b c) (lk ofB a b c) (lk ofC a b c))
      (lk uB (lk ofF a b c) (lk ofB a b c) (lk ofC a b c)) (U.quo IntKind.i64 (U.sub IntKind.i64 (lk cmFst (lk uF (lk ofF a b c) (lk ofB a b c) (lk ofC a b c)) (lk uB (lk ofF a b c) (lk
      ofB a b c) (lk ofC a b c)) (lk ofC a b c) (lk uF (lk ofF x y z) (lk ofB x y z) (lk ofC x y z)) (lk uB (lk ofF x y z) (lk ofB x y z) (lk ofC x y z)) (lk ofC x y z)) (lk uF (lk ofF a
      b c) (lk ofB a b c) (lk ofC a b c))) (lk uB (lk ofF a b c) (lk ofB a b c) (lk ofC a b c))) c) (lk kB (lk uF (lk ofF a b c) (lk ofB a b c) (lk ofC a b c)) (lk uB (lk ofF a b c) (lk
      ofB a b c) (lk ofC a b c)) (U.quo IntKind.i64 (U.sub IntKind.i64 (lk cmFst (lk uF (lk ofF a b c) (lk ofB a b c) (lk ofC a b c)) (lk uB (lk ofF a b c) (lk ofB a b c) (lk ofC a b c))
      (lk ofC a b c) (lk uF (lk ofF x y z) (lk ofB x y z) (lk ofC x y z)) (lk uB (lk ofF x y z) (lk ofB x y z) (lk ofC x y z)) (lk ofC x y z)) (lk uF (lk ofF a b c) (lk ofB a b c) (lk ofC
      a b c))) (lk uB (lk ofF a b c) (lk ofB a b c) (lk ofC a b c))) c) (U.quo IntKind.i64 (U.sub IntKind.i64 (lk cmFst (lk uF (lk ofF a b c) (lk ofB a b c) (lk ofC a b c)) (lk uB (lk ofF
      a b c) (lk ofB a b c) (lk ofC a b c)) (lk ofC a b c) (lk uF (lk ofF x y z) (lk ofB x y z) (lk ofC x y z)) (lk uB (lk ofF x y z) (lk ofB x y z) (lk ofC x y z)) (lk ofC x y z)) (lk uF
      (lk ofF a b c) (lk ofB a b c) (lk ofC a b c))) (lk uB (lk ofF a b c) (lk ofB a b c) (lk ofC a b c))), lk nHigh (lk kF (lk uF (lk ofF a b c) (lk ofB a b c) (lk ofC a b c)) (lk uB (lk
      ofF a b c) (lk ofB a b c) (lk ofC a b c)) (U.quo IntKind.i64 (U.sub IntKind.i64 (lk cmFst (lk uF (lk ofF a b c) (lk ofB a b c) (lk ofC a b c)) (lk uB (lk ofF a b c) (lk ofB a b c)
      (lk ofC a b c)) (lk ofC a b c) (lk uF (lk ofF x y z) (lk ofB x y z) (lk ofC x y z)) (lk uB (lk ofF x y z) (lk ofB x y z) (lk ofC x y z)) (lk ofC x y z)) (lk uF (lk ofF a b c) (lk
      ofB a b c) (lk ofC a b c))) (lk uB (lk ofF a b c) (lk ofB a b c) (lk ofC a b c))) c) (lk kB (lk uF (lk ofF a b c) (lk ofB a b c) (lk ofC a b c)) (lk uB (lk ofF a b c) (lk ofB a b c)
      (lk ofC a b c)) (U.quo IntKind.i64 (U.sub IntKind.i64 (lk cmFst (lk uF (lk ofF a b c) (lk ofB a b c) (lk ofC a b c)) (lk uB (lk ofF a b c) (lk ofB a b c) (lk ofC a b c)) (lk ofC a b
      c) (lk uF (lk ofF x y z) (lk ofB x y z) (lk ofC x y z)) (lk uB (lk ofF x y z) (lk ofB x y z) (lk ofC x y z)) (lk ofC x y z)) (lk uF (lk ofF a b c) (lk ofB a b c) (lk ofC a b c)))
      (lk uB (lk ofF a b c) (lk ofB a b c) (lk ofC a b c))) c) (U.quo IntKind.i64 (U.sub IntKind.i64 (lk cmFst (lk uF (lk ofF a b c) (lk ofB a b c) (lk ofC a b c)) (lk uB (lk ofF a b c)
      (lk ofB a b c) (lk ofC a b c)) (lk ofC a b c) (lk uF (lk ofF x y z) (lk ofB x y z) (lk ofC x y z)) (lk uB (lk ofF x y z) (lk ofB x y z) (lk ofC x y z)) (lk ofC x y z)) (lk uF (lk
      ofF a b c) (lk ofB a b c) (lk ofC a b c))) (lk uB (lk ofF a b c) (lk ofB a b c) (lk ofC a b c))), lk nStr (lk kF (lk uF (lk ofF a b c) (lk ofB a b c) (lk ofC a b c)) (lk uB (lk ofF
      a b c) (lk ofB a b c) (lk ofC a b c)) (U.quo IntKind.i64 (U.sub IntKind.i64 (lk cmFst (lk uF (lk ofF a b c) (lk ofB a b c) (lk ofC a b c)) (lk uB (lk ofF a b c) (lk ofB a b c) (lk
      ofC a b c)) (lk ofC a b c) (lk uF (lk ofF x y z) (lk ofB x y z) (lk ofC x y z)) (lk uB (lk ofF x y z) (lk ofB x y z) (lk ofC x y z)) (lk ofC x y z)) (lk uF (lk ofF a b c) (lk ofB a
      b c) (lk ofC a b c))) (lk uB (lk ofF a b c) (lk ofB a b c) (lk ofC a b c))) c) (lk kB (lk uF (lk ofF a b c) (lk ofB a b c) (lk ofC a b c)) (lk uB (lk ofF a b c) (lk ofB a b c) (lk
      ofC a b c)) (U.quo IntKind.i64 (U.sub IntKind.i64 (lk cmFst (lk uF (lk ofF a b c) (lk ofB a b c) (lk ofC a b c)) (lk uB (lk ofF a b c) (lk ofB a b c) (lk ofC a b c)) (lk ofC a b c)
      (lk uF (lk ofF x y z) (lk ofB x y z) (lk ofC x y z)) (lk uB (lk ofF x y z) (lk ofB x y z) (lk ofC x y z)) (lk ofC x y z)) (lk uF (lk ofF a b c) (lk ofB a b c) (lk ofC a b c))) (lk
      uB (lk ofF a b c) (lk ofB a b c) (lk ofC a b c))) c) (U.quo IntKind.i64 (U.sub IntKind.i64 (lk cmFst (lk uF (lk ofF a b c) (lk ofB a b c) (lk ofC a b c)) (lk uB (lk ofF a b c) (lk
      ofB a b c) (lk ofC a b c)) (lk ofC a b c) (lk uF (lk ofF x y z) (lk ofB x y z) (lk ofC x y z)) (lk uB (lk ofF x y z) (lk ofB x y z) (lk ofC x y z)) (lk ofC x y z)) (lk uF (lk ofF a
      b c) (lk ofB a b c) (lk ofC a b c))) (lk uB (lk ofF a b c) (lk ofB a b c) (lk ofC a b c))), PUnit.unit)), SV.lit (Value.int IntKind.i64 (0 : Int))])))))))))))) (T.ask (PreP (nat_lit
      0) (lk uB (lk ofF a b c) (lk ofB a b c) (lk ofC a b c)) (lk cmFst (lk uF (lk ofF a b c) (lk ofB a b c) (lk ofC a b c)) (lk uB (lk ofF a b c) (lk ofB a b c) (lk ofC a b c)) (lk ofC a
      b c) (lk uF (lk ofF x y z) (lk ofB x y z) (lk ofC x y z)) (lk uB (lk ofF x y z) (lk ofB x y z) (lk ofC x y z)) (lk ofC x y z)) (lk cmBy (lk uF (lk ofF a b c) (lk ofB a b c) (lk ofC
      a b c)) (lk uB (lk ofF a b c) (lk ofB a b c) (lk ofC a b c)) (lk ofC a b c) (lk uF (lk ofF x y z) (lk ofB x y z) (lk ofC x y z)) (lk uB (lk ofF x y z) (lk ofB x y z) (lk ofC x y z))
      (lk ofC x y z)) (lk cmCnt (lk uF (lk ofF a b c) (lk ofB a b c) (lk ofC a b c)) (lk uB (lk ofF a b c) (lk ofB a b c) (lk ofC a b c)) (lk ofC a b c) (lk uF (lk ofF x y z) (lk ofB x y
      z) (lk ofC x y z)) (lk uB (lk ofF x y z) (lk ofB x y z) (lk ofC x y z)) (lk ofC x y z)) true (0 : Nat) ∧ lk uB (lk ofF a b c) (lk ofB a b c) (lk ofC a b c) = lk uB (lk ofF a b c)
      (lk ofB a b c) (lk ofC a b c)) (T.ask (I64 (lk cmCnt (lk uF (lk ofF a b c) (lk ofB a b c) (lk ofC a b c)) (lk uB (lk ofF a b c) (lk ofB a b c) (lk ofC a b c)) (lk ofC a b c) (lk uF
      (lk ofF x y z) (lk ofB x y z) (lk ofC x y z)) (lk uB (lk ofF x y z) (lk ofB x y z) (lk ofC x y z)) (lk ofC x y z) - (1 : Int)) ∧ I64 (lk cmBy (lk uF (lk ofF a b c) (lk ofB a b c)
      (lk ofC a b c)) (lk uB (lk ofF a b c) (lk ofB a b c) (lk ofC a b c)) (lk ofC a b c) (lk uF (lk ofF x y z) (lk ofB x y z) (lk ofC x y z)) (lk uB (lk ofF x y z) (lk ofB x y z) (lk ofC
      x y z)) (lk ofC x y z) * (lk cmCnt (lk uF (lk ofF a b c) (lk ofB a b c) (lk ofC a b c)) (lk uB (lk ofF a b c) (lk ofB a b c) (lk ofC a b c)) (lk ofC a b c) (lk uF (lk ofF x y z) (lk
      ofB x y z) (lk ofC x y z)) (lk uB (lk ofF x y z) (lk ofB x y z) (lk ofC x y z)) (lk ofC x y z) - (1 : Int))) ∧ I64 (lk cmFst (lk uF (lk ofF a b c) (lk ofB a b c) (lk ofC a b c)) (lk
      uB (lk ofF a b c) (lk ofB a b c) (lk ofC a b c)) (lk ofC a b c) (lk uF (lk ofF x y z) (lk ofB x y z) (lk ofC x y z)) (lk uB (lk ofF x y z) (lk ofB x y z) (lk ofC x y z)) (lk ofC x y
      z) + lk cmBy (lk uF (lk ofF a b c) (lk ofB a b c) (lk ofC a b c)) (lk uB (lk ofF a b c) (lk ofB a b c) (lk ofC a b c)) (lk ofC a b c) (lk uF (lk ofF x y z) (lk ofB x y z) (lk ofC x
      y z)) (lk uB (lk ofF x y z) (lk ofB x y z) (lk ofC x y z)) (lk ofC x y z) * (lk cmCnt (lk uF (lk ofF a b c) (lk ofB a b c) (lk ofC a b c)) (lk uB (lk ofF a b c) (lk ofB a b c) (lk
      ofC a b c)) (lk ofC a b c) (lk uF (lk ofF x y z) (lk ofB x y z) (lk ofC x y z)) (lk uB (lk ofF x y z) (lk ofB x y z) (lk ofC x y z)) (lk ofC x y z) - (1 : Int)))) (T.ask (I64 (lk
      ofC a b c - (1 : Int)) ∧ I64 (lk uB (lk ofF a b c) (lk ofB a b c) (lk ofC a b c) * (lk ofC a b c - (1 : Int))) ∧ I64 (lk uF (lk ofF a b c) (lk ofB a b c) (lk ofC a b c) + lk uB (lk
      ofF a b c) (lk ofB a b c) (lk ofC a b c) * (lk ofC a b c - (1 : Int)))) (T.ask (I64 (lk cmCnt (lk uF (lk ofF a b c) (lk ofB a b c) (lk ofC a b c)) (lk uB (lk ofF a b c) (lk ofB a b
      c) (lk ofC a b c)) (lk ofC a b c) (lk uF (lk ofF x y z) (lk ofB x y z) (lk ofC x y z)) (lk uB (lk ofF x y z) (lk ofB x y z) (lk ofC x y z)) (lk ofC x y z) - (1 : Int)) ∧ I64 (lk
      cmBy (lk uF (lk ofF a b c) (lk ofB a b c) (lk ofC a b c)) (lk uB (lk ofF a b c) (lk ofB a b c) (lk ofC a b c)) (lk ofC a b c) (lk uF (lk ofF x y z) (lk ofB x y z) (lk ofC x y z))
      (lk uB (lk ofF x y z) (lk ofB x y z) (lk ofC x y z)) (lk ofC x y z) * (lk cmCnt (lk uF (lk ofF a b c) (lk ofB a b c) (lk ofC a b c)) (lk uB (lk ofF a b c) (lk ofB a b c) (lk ofC a b
      c)) (lk ofC a b c) (lk uF (lk ofF x y z) (lk ofB x y z) (lk ofC x y z)) (lk uB (lk ofF x y z) (lk ofB x y z) (lk ofC x y z)) (lk ofC x y z) - (1 : Int))) ∧ I64 (lk cmFst (lk uF (lk
      ofF a b c) (lk ofB a b c) (lk ofC a b c)) (lk uB (lk ofF a b c) (lk ofB a b c) (lk ofC a b c)) (lk ofC a b c) (lk uF (lk ofF x y z) (lk ofB x y z) (lk ofC x y z)) (lk uB (lk ofF x y
      z) (lk ofB x y z) (lk ofC x y z)) (lk ofC x y z) + lk cmBy (lk uF (lk ofF a b c) (lk ofB a b c) (lk ofC a b c)) (lk uB (lk ofF a b c) (lk ofB a b c) (lk ofC a b c)) (lk ofC a b c)
      (lk uF (lk ofF x y z) (lk ofB x y z) (lk ofC x y z)) (lk uB (lk ofF x y z) (lk ofB x y z) (lk ofC x y z)) (lk ofC x y z) * (lk cmCnt (lk uF (lk ofF a b c) (lk ofB a b c) (lk ofC a b
      c)) (lk uB (lk ofF a b c) (lk ofB a b c) (lk ofC a b c)) (lk ofC a b c) (lk uF (lk ofF x y z) (lk ofB x y z) (lk ofC x y z)) (lk uB (lk ofF x y z) (lk ofB x y z) (lk ofC x y z)) (lk
      ofC x y z) - (1 : Int)))) (T.ask (lk uB (lk ofF a b c) (lk ofB a b c) (lk ofC a b c) ≠ (0 : Int)) (T.br (U.gt (U.quo IntKind.i64 (U.sub IntKind.i64 (lk sLast (lk uF (lk ofF a b c)
      (lk ofB a b c) (lk ofC a b c)) (lk uB (lk ofF a b c) (lk ofB a b c) (lk ofC a b c)) (lk ofC a b c)) (lk sLast (lk cmFst (lk uF (lk ofF a b c) (lk ofB a b c) (lk ofC a b c)) (lk uB
      (lk ofF a b c) (lk ofB a b c) (lk ofC a b c)) (lk ofC a b c) (lk uF (lk ofF x y z) (lk ofB x y z) (lk ofC x y z)) (lk uB (lk ofF x y z) (lk ofB x y z) (lk ofC x y z)) (lk ofC x y
      z)) (lk cmBy (lk uF (lk ofF a b c) (lk ofB a b c) (lk ofC a b c)) (lk uB (lk ofF a b c) (lk ofB a b c) (lk ofC a b c)) (lk ofC a b c) (lk uF (lk ofF x y z) (lk ofB x y z) (lk ofC x
      y z)) (lk uB (lk ofF x y z) (lk ofB x y z) (lk ofC x y z)) (lk ofC x y z)) (lk cmCnt (lk uF (lk ofF a b c) (lk ofB a b c) (lk ofC a b c)) (lk uB (lk ofF a b c) (lk ofB a b c) (lk
      ofC a b c)) (lk ofC a b c) (lk uF (lk ofF x y z) (lk ofB x y z) (lk ofC x y z)) (lk uB (lk ofF x y z) (lk ofB x y z) (lk ofC x y z)) (lk ofC x y z)))) (lk uB (lk ofF a b c) (lk ofB
      a b c) (lk ofC a b c))) (0 : Int)) (T.br (U.le (Int.ofNat (nat_lit 0 + lk pM (lk uB (lk ofF a b c) (lk ofB a b c) (lk ofC a b c)) (lk cmBy (lk uF (lk ofF a b c) (lk ofB a b c) (lk
      ofC a b c)) (lk uB (lk ofF a b c) (lk ofB a b c) (lk ofC a b c)) (lk ofC a b c) (lk uF (lk ofF x y z) (lk ofB x y z) (lk ofC x y z)) (lk uB (lk ofF x y z) (lk ofB x y z) (lk ofC x y
      z)) (lk ofC x y z)) (lk cmCnt (lk uF (lk ofF a b c) (lk ofB a b c) (lk ofC a b c)) (lk uB (lk ofF a b c) (lk ofB a b c) (lk ofC a b c)) (lk ofC a b c) (lk uF (lk ofF x y z) (lk ofB
      x y z) (lk ofC x y z)) (lk uB (lk ofF x y z) (lk ofB x y z) (lk ofC x y z)) (lk ofC x y z)) (nat_lit 0))) (1000 : Int)) (T.ask (c < (0 : Int) → U.quo IntKind.i64 (U.sub IntKind.i64
      (lk sLast (lk uF (lk ofF a b c) (lk ofB a b c) (lk ofC a b c)) (lk uB (lk ofF a b c) (lk ofB a b c) (lk ofC a b c)) (lk ofC a b c)) (lk sLast (lk cmFst (lk uF (lk ofF a b c) (lk ofB
      a b c) (lk ofC a b c)) (lk uB (lk ofF a b c) (lk ofB a b c) (lk ofC a b c)) (lk ofC a b c) (lk uF (lk ofF x y z) (lk ofB x y z) (lk ofC x y z)) (lk uB (lk ofF x y z) (lk ofB x y z)
      (lk ofC x y z)) (lk ofC x y z)) (lk cmBy (lk uF (lk ofF a b c) (lk ofB a b c) (lk ofC a b c)) (lk uB (lk ofF a b c) (lk ofB a b c) (lk ofC a b c)) (lk ofC a b c) (lk uF (lk ofF x y
      z) (lk ofB x y z) (lk ofC x y z)) (lk uB (lk ofF x y z) (lk ofB x y z) (lk ofC x y z)) (lk ofC x y z)) (lk cmCnt (lk uF (lk ofF a b c) (lk ofB a b c) (lk ofC a b c)) (lk uB (lk ofF
      a b c) (lk ofB a b c) (lk ofC a b c)) (lk ofC a b c) (lk uF (lk ofF x y z) (lk ofB x y z) (lk ofC x y z)) (lk uB (lk ofF x y z) (lk ofB x y z) (lk ofC x y z)) (lk ofC x y z)))) (lk
      uB (lk ofF a b c) (lk ofB a b c) (lk ofC a b c)) ≠ (0 : Int) → I64 (U.quo IntKind.i64 (U.sub IntKind.i64 (lk sLast (lk uF (lk ofF a b c) (lk ofB a b c) (lk ofC a b c)) (lk uB (lk
      ofF a b c) (lk ofB a b c) (lk ofC a b c)) (lk ofC a b c)) (lk sLast (lk cmFst (lk uF (lk ofF a b c) (lk ofB a b c) (lk ofC a b c)) (lk uB (lk ofF a b c) (lk ofB a b c) (lk ofC a b
      c)) (lk ofC a b c) (lk uF (lk ofF x y z) (lk ofB x y z) (lk ofC x y z)) (lk uB (lk ofF x y z) (lk ofB x y z) (lk ofC x y z)) (lk ofC x y z)) (lk cmBy (lk uF (lk ofF a b c) (lk ofB a
      b c) (lk ofC a b c)) (lk uB (lk ofF a b c) (lk ofB a b c) (lk ofC a b c)) (lk ofC a b c) (lk uF (lk ofF x y z) (lk ofB x y z) (lk ofC x y z)) (lk uB (lk ofF x y z) (lk ofB x y z)
      (lk ofC x y z)) (lk ofC x y z)) (lk cmCnt (lk uF (lk ofF a b c) (lk ofB a b c) (lk ofC a b c)) (lk uB (lk ofF a b c) (lk ofB a b c) (lk ofC a b c)) (lk ofC a b c) (lk uF (lk ofF x y
      z) (lk ofB x y z) (lk ofC x y z)) (lk uB (lk ofF x y z) (lk ofB x y z) (lk ofC x y z)) (lk ofC x y z)))) (lk uB (lk ofF a b c) (lk ofB a b c) (lk ofC a b c)) - (1 : Int)) ∧ I64 (lk
      uB (lk ofF a b c) (lk ofB a b c) (lk ofC a b c) * (U.quo IntKind.i64 (U.sub IntKind.i64 (lk sLast (lk uF (lk ofF a b c) (lk ofB a b c) (lk ofC a b c)) (lk uB (lk ofF a b c) (lk ofB
      a b c) (lk ofC a b c)) (lk ofC a b c)) (lk sLast (lk cmFst (lk uF (lk ofF a b c) (lk ofB a b c) (lk ofC a b c)) (lk uB (lk ofF a b c) (lk ofB a b c) (lk ofC a b c)) (lk ofC a b c)
      (lk uF (lk ofF x y z) (lk ofB x y z) (lk ofC x y z)) (lk uB (lk ofF x y z) (lk ofB x y z) (lk ofC x y z)) (lk ofC x y z)) (lk cmBy (lk uF (lk ofF a b c) (lk ofB a b c) (lk ofC a b
      c)) (lk uB (lk ofF a b c) (lk ofB a b c) (lk ofC a b c)) (lk ofC a b c) (lk uF (lk ofF x y z) (lk ofB x y z) (lk ofC x y z)) (lk uB (lk ofF x y z) (lk ofB x y z) (lk ofC x y z)) (lk
      ofC x y z)) (lk cmCnt (lk uF (lk ofF a b c) (lk ofB a b c) (lk ofC a b c)) (lk uB (lk ofF a b c) (lk ofB a b c) (lk ofC a b c)) (lk ofC a b c) (lk uF (lk ofF x y z) (lk ofB x y z)
      (lk ofC x y z)) (lk uB (lk ofF x y z) (lk ofB x y z) (lk ofC x y z)) (lk ofC x y z)))) (lk uB (lk ofF a b c) (lk ofB a b c) (lk ofC a b c)) - (1 : Int))) ∧ I64 (U.add IntKind.i64
      (lk sLast (lk cmFst (lk uF (lk ofF a b c) (lk ofB a b c) (lk ofC a b c)) (lk uB (lk ofF a b c) (lk ofB a b c) (lk ofC a b c)) (lk ofC a b c) (lk uF (lk ofF x y z) (lk ofB x y z) (lk
      ofC x y z)) (lk uB (lk ofF x y z) (lk ofB x y z) (lk ofC x y z)) (lk ofC x y z)) (lk cmBy (lk uF (lk ofF a b c) (lk ofB a b c) (lk ofC a b c)) (lk uB (lk ofF a b c) (lk ofB a b c)
      (lk ofC a b c)) (lk ofC a b c) (lk uF (lk ofF x y z) (lk ofB x y z) (lk ofC x y z)) (lk uB (lk ofF x y z) (lk ofB x y z) (lk ofC x y z)) (lk ofC x y z)) (lk cmCnt (lk uF (lk ofF a b
      c) (lk ofB a b c) (lk ofC a b c)) (lk uB (lk ofF a b c) (lk ofB a b c) (lk ofC a b c)) (lk ofC a b c) (lk uF (lk ofF x y z) (lk ofB x y z) (lk ofC x y z)) (lk uB (lk ofF x y z) (lk
      ofB x y z) (lk ofC x y z)) (lk ofC x y z))) (lk uB (lk ofF a b c) (lk ofB a b c) (lk ofC a b c)) + lk uB (lk ofF a b c) (lk ofB a b c) (lk ofC a b c) * (U.quo IntKind.i64 (U.sub
      IntKind.i64 (lk sLast (lk uF (lk ofF a b c) (lk ofB a b c) (lk ofC a b c)) (lk uB (lk ofF a b c) (lk ofB a b c) (lk ofC a b c)) (lk ofC a b c)) (lk sLast (lk cmFst (lk uF (lk ofF a
      b c) (lk ofB a b c) (lk ofC a b c)) (lk uB (lk ofF a b c) (lk ofB a b c) (lk ofC a b c)) (lk ofC a b c) (lk uF (lk ofF x y z) (lk ofB x y z) (lk ofC x y z)) (lk uB (lk ofF x y z)
      (lk ofB x y z) (lk ofC x y z)) (lk ofC x y z)) (lk cmBy (lk uF (lk ofF a b c) (lk ofB a b c) (lk ofC a b c)) (lk uB (lk ofF a b c) (lk ofB a b c) (lk ofC a b c)) (lk ofC a b c) (lk
      uF (lk ofF x y z) (lk ofB x y z) (lk ofC x y z)) (lk uB (lk ofF x y z) (lk ofB x y z) (lk ofC x y z)) (lk ofC x y z)) (lk cmCnt (lk uF (lk ofF a b c) (lk ofB a b c) (lk ofC a b c))
      (lk uB (lk ofF a b c) (lk ofB a b c) (lk ofC a b c)) (lk ofC a b c) (lk uF (lk ofF x y z) (lk ofB x y z) (lk ofC x y z)) (lk uB (lk ofF x y z) (lk ofB x y z) (lk ofC x y z)) (lk ofC
      x y z)))) (lk uB (lk ofF a b c) (lk ofB a b c) (lk ofC a b c)) - (1 : Int))) ∧ I64 (-lk uB (lk ofF a b c) (lk ofB a b c) (lk ofC a b c))) (T.ask ((0 : Int) < U.quo IntKind.i64
      (U.sub IntKind.i64 (lk sLast (lk uF (lk ofF a b c) (lk ofB a b c) (lk ofC a b c)) (lk uB (lk ofF a b c) (lk ofB a b c) (lk ofC a b c)) (lk ofC a b c)) (lk sLast (lk cmFst (lk uF (lk
      ofF a b c) (lk ofB a b c) (lk ofC a b c)) (lk uB (lk ofF a b c) (lk ofB a b c) (lk ofC a b c)) (lk ofC a b c) (lk uF (lk ofF x y z) (lk ofB x y z) (lk ofC x y z)) (lk uB (lk ofF x y
      z) (lk ofB x y z) (lk ofC x y z)) (lk ofC x y z)) (lk cmBy (lk uF (lk ofF a b c) (lk ofB a b c) (lk ofC a b c)) (lk uB (lk ofF a b c) (lk ofB a b c) (lk ofC a b c)) (lk ofC a b c)
      (lk uF (lk ofF x y z) (lk ofB x y z) (lk ofC x y z)) (lk uB (lk ofF x y z) (lk ofB x y z) (lk ofC x y z)) (lk ofC x y z)) (lk cmCnt (lk uF (lk ofF a b c) (lk ofB a b c) (lk ofC a b
      c)) (lk uB (lk ofF a b c) (lk ofB a b c) (lk ofC a b c)) (lk ofC a b c) (lk uF (lk ofF x y z) (lk ofB x y z) (lk ofC x y z)) (lk uB (lk ofF x y z) (lk ofB x y z) (lk ofC x y z)) (lk
      ofC x y z)))) (lk uB (lk ofF a b c) (lk ofB a b c) (lk ofC a b c)) → I64 (U.quo IntKind.i64 (U.sub IntKind.i64 (lk sLast (lk uF (lk ofF a b c) (lk ofB a b c) (lk ofC a b c)) (lk uB
      (lk ofF a b c) (lk ofB a b c) (lk ofC a b c)) (lk ofC a b c)) (lk sLast (lk cmFst (lk uF (lk ofF a b c) (lk ofB a b c) (lk ofC a b c)) (lk uB (lk ofF a b c) (lk ofB a b c) (lk ofC a
      b c)) (lk ofC a b c) (lk uF (lk ofF x y z) (lk ofB x y z) (lk ofC x y z)) (lk uB (lk ofF x y z) (lk ofB x y z) (lk ofC x y z)) (lk ofC x y z)) (lk cmBy (lk uF (lk ofF a b c) (lk ofB
      a b c) (lk ofC a b c)) (lk uB (lk ofF a b c) (lk ofB a b c) (lk ofC a b c)) (lk ofC a b c) (lk uF (lk ofF x y z) (lk ofB x y z) (lk ofC x y z)) (lk uB (lk ofF x y z) (lk ofB x y z)
      (lk ofC x y z)) (lk ofC x y z)) (lk cmCnt (lk uF (lk ofF a b c) (lk ofB a b c) (lk ofC a b c)) (lk uB (lk ofF a b c) (lk ofB a b c) (lk ofC a b c)) (lk ofC a b c) (lk uF (lk ofF x y
      z) (lk ofB x y z) (lk ofC x y z)) (lk uB (lk ofF x y z) (lk ofB x y z) (lk ofC x y z)) (lk ofC x y z)))) (lk uB (lk ofF a b c) (lk ofB a b c) (lk ofC a b c)) - (1 : Int)) ∧ I64 (lk
      kB (U.add IntKind.i64 (lk sLast (lk cmFst (lk uF (lk ofF a b c) (lk ofB a b c) (lk ofC a b c)) (lk uB (lk ofF a b c) (lk ofB a b c) (lk ofC a b c)) (lk ofC a b c) (lk uF (lk ofF x y
      z) (lk ofB x y z) (lk ofC x y z)) (lk uB (lk ofF x y z) (lk ofB x y z) (lk ofC x y z)) (lk ofC x y z)) (lk cmBy (lk uF (lk ofF a b c) (lk ofB a b c) (lk ofC a b c)) (lk uB (lk ofF a
      b c) (lk ofB a b c) (lk ofC a b c)) (lk ofC a b c) (lk uF (lk ofF x y z) (lk ofB x y z) (lk ofC x y z)) (lk uB (lk ofF x y z) (lk ofB x y z) (lk ofC x y z)) (lk ofC x y z)) (lk
      cmCnt (lk uF (lk ofF a b c) (lk ofB a b c) (lk ofC a b c)) (lk uB (lk ofF a b c) (lk ofB a b c) (lk ofC a b c)) (lk ofC a b c) (lk uF (lk ofF x y z) (lk ofB x y z) (lk ofC x y z))
      (lk uB (lk ofF x y z) (lk ofB x y z) (lk ofC x y z)) (lk ofC x y z))) (lk uB (lk ofF a b c) (lk ofB a b c) (lk ofC a b c))) (lk uB (lk ofF a b c) (lk ofB a b c) (lk ofC a b c))
      (U.quo IntKind.i64 (U.sub IntKind.i64 (lk sLast (lk uF (lk ofF a b c) (lk ofB a b c) (lk ofC a b c)) (lk uB (lk ofF a b c) (lk ofB a b c) (lk ofC a b c)) (lk ofC a b c)) (lk sLast
      (lk cmFst (lk uF (lk ofF a b c) (lk ofB a b c) (lk ofC a b c)) (lk uB (lk ofF a b c) (lk ofB a b c) (lk ofC a b c)) (lk ofC a b c) (lk uF (lk ofF x y z) (lk ofB x y z) (lk ofC x y
      z)) (lk uB (lk ofF x y z) (lk ofB x y z) (lk ofC x y z)) (lk ofC x y z)) (lk cmBy (lk uF (lk ofF a b c) (lk ofB a b c) (lk ofC a b c)) (lk uB (lk ofF a b c) (lk ofB a b c) (lk ofC a
      b c)) (lk ofC a b c) (lk uF (lk ofF x y z) (lk ofB x y z) (lk ofC x y z)) (lk uB (lk ofF x y z) (lk ofB x y z) (lk ofC x y z)) (lk ofC x y z)) (lk cmCnt (lk uF (lk ofF a b c) (lk
      ofB a b c) (lk ofC a b c)) (lk uB (lk ofF a b c) (lk ofB a b c) (lk ofC a b c)) (lk ofC a b c) (lk uF (lk ofF x y z) (lk ofB x y z) (lk ofC x y z)) (lk uB (lk ofF x y z) (lk ofB x y
      z) (lk ofC x y z)) (lk ofC x y z)))) (lk uB (lk ofF a b c) (lk ofB a b c) (lk ofC a b c))) c * (U.quo IntKind.i64 (U.sub IntKind.i64 (lk sLast (lk uF (lk ofF a b c) (lk ofB a b c)
      (lk ofC a b c)) (lk uB (lk ofF a b c) (lk ofB a b c) (lk ofC a b c)) (lk ofC a b c)) (lk sLast (lk cmFst (lk uF (lk ofF a b c) (lk ofB a b c) (lk ofC a b c)) (lk uB (lk ofF a b c)
      (lk ofB a b c) (lk ofC a b c)) (lk ofC a b c) (lk uF (lk ofF x y z) (lk ofB x y z) (lk ofC x y z)) (lk uB (lk ofF x y z) (lk ofB x y z) (lk ofC x y z)) (lk ofC x y z)) (lk cmBy (lk
      uF (lk ofF a b c) (lk ofB a b c) (lk ofC a b c)) (lk uB (lk ofF a b c) (lk ofB a b c) (lk ofC a b c)) (lk ofC a b c) (lk uF (lk ofF x y z) (lk ofB x y z) (lk ofC x y z)) (lk uB (lk
      ofF x y z) (lk ofB x y z) (lk ofC x y z)) (lk ofC x y z)) (lk cmCnt (lk uF (lk ofF a b c) (lk ofB a b c) (lk ofC a b c)) (lk uB (lk ofF a b c) (lk ofB a b c) (lk ofC a b c)) (lk ofC
      a b c) (lk uF (lk ofF x y z) (lk ofB x y z) (lk ofC x y z)) (lk uB (lk ofF x y z) (lk ofB x y z) (lk ofC x y z)) (lk ofC x y z)))) (lk uB (lk ofF a b c) (lk ofB a b c) (lk ofC a b
      c)) - (1 : Int))) ∧ I64 (lk kF (U.add IntKind.i64 (lk sLast (lk cmFst (lk uF (lk ofF a b c) (lk ofB a b c) (lk ofC a b c)) (lk uB (lk ofF a b c) (lk ofB a b c) (lk ofC a b c)) (lk
      ofC a b c) (lk uF (lk ofF x y z) (lk ofB x y z) (lk ofC x y z)) (lk uB (lk ofF x y z) (lk ofB x y z) (lk ofC x y z)) (lk ofC x y z)) (lk cmBy (lk uF (lk ofF a b c) (lk ofB a b c)
      (lk ofC a b c)) (lk uB (lk ofF a b c) (lk ofB a b c) (lk ofC a b c)) (lk ofC a b c) (lk uF (lk ofF x y z) (lk ofB x y z) (lk ofC x y z)) (lk uB (lk ofF x y z) (lk ofB x y z) (lk ofC
      x y z)) (lk ofC x y z)) (lk cmCnt (lk uF (lk ofF a b c) (lk ofB a b c) (lk ofC a b c)) (lk uB (lk ofF a b c) (lk ofB a b c) (lk ofC a b c)) (lk ofC a b c) (lk uF (lk ofF x y z) (lk
      ofB x y z) (lk ofC x y z)) (lk uB (lk ofF x y z) (lk ofB x y z) (lk ofC x y z)) (lk ofC x y z))) (lk uB (lk ofF a b c) (lk ofB a b c) (lk ofC a b c))) (lk uB (lk ofF a b c) (lk ofB
      a b c) (lk ofC a b c)) (U.quo IntKind.i64 (U.sub IntKind.i64 (lk sLast (lk uF (lk ofF a b c) (lk ofB a b c) (lk ofC a b c)) (lk uB (lk ofF a b c) (lk ofB a b c) (lk ofC a b c)) (lk
      ofC a b c)) (lk sLast (lk cmFst (lk uF (lk ofF a b c) (lk ofB a b c) (lk ofC a b c)) (lk uB (lk ofF a b c) (lk ofB a b c) (lk ofC a b c)) (lk ofC a b c) (lk uF (lk ofF x y z) (lk
      ofB x y z) (lk ofC x y z)) (lk uB (lk ofF x y z) (lk ofB x y z) (lk ofC x y z)) (lk ofC x y z)) (lk cmBy (lk uF (lk ofF a b c) (lk ofB a b c) (lk ofC a b c)) (lk uB (lk ofF a b c)
      (lk ofB a b c) (lk ofC a b c)) (lk ofC a b c) (lk uF (lk ofF x y z) (lk ofB x y z) (lk ofC x y z)) (lk uB (lk ofF x y z) (lk ofB x y z) (lk ofC x y z)) (lk ofC x y z)) (lk cmCnt (lk
      uF (lk ofF a b c) (lk ofB a b c) (lk ofC a b c)) (lk uB (lk ofF a b c) (lk ofB a b c) (lk ofC a b c)) (lk ofC a b c) (lk uF (lk ofF x y z) (lk ofB x y z) (lk ofC x y z)) (lk uB (lk
      ofF x y z) (lk ofB x y z) (lk ofC x y z)) (lk ofC x y z)))) (lk uB (lk ofF a b c) (lk ofB a b c) (lk ofC a b c))) c + lk kB (U.add IntKind.i64 (lk sLast (lk cmFst (lk uF (lk ofF a b
      c) (lk ofB a b c) (lk ofC a b c)) (lk uB (lk ofF a b c) (lk ofB a b c) (lk ofC a b c)) (lk ofC a b c) (lk uF (lk ofF x y z) (lk ofB x y z) (lk ofC x y z)) (lk uB (lk ofF x y z) (lk
      ofB x y z) (lk ofC x y z)) (lk ofC x y z)) (lk cmBy (lk uF (lk ofF a b c) (lk ofB a b c) (lk ofC a b c)) (lk uB (lk ofF a b c) (lk ofB a b c) (lk ofC a b c)) (lk ofC a b c) (lk uF
      (lk ofF x y z) (lk ofB x y z) (lk ofC x y z)) (lk uB (lk ofF x y z) (lk ofB x y z) (lk ofC x y z)) (lk ofC x y z)) (lk cmCnt (lk uF (lk ofF a b c) (lk ofB a b c) (lk ofC a b c)) (lk
      uB (lk ofF a b c) (lk ofB a b c) (lk ofC a b c)) (lk ofC a b c) (lk uF (lk ofF x y z) (lk ofB x y z) (lk ofC x y z)) (lk uB (lk ofF x y z) (lk ofB x y z) (lk ofC x y z)) (lk ofC x y
      z))) (lk uB (lk ofF a b c) (lk ofB a b c) (lk ofC a b c))) (lk uB (lk ofF a b c) (lk ofB a b c) (lk ofC a b c)) (U.quo IntKind.i64 (U.sub IntKind.i64 (lk sLast (lk uF (lk ofF a b c)
      (lk ofB a b c) (lk ofC a b c)) (lk uB (lk ofF a b c) (lk ofB a b c) (lk ofC a b c)) (lk ofC a b c)) (lk sLast (lk cmFst (lk uF (lk ofF a b c) (lk ofB a b c) (lk ofC a b c)) (lk uB
      (lk ofF a b c) (lk ofB a b c) (lk ofC a b c)) (lk ofC a b c) (lk uF (lk ofF x y z) (lk ofB x y z) (lk ofC x y z)) (lk uB (lk ofF x y z) (lk ofB x y z) (lk ofC x y z)) (lk ofC x y
      z)) (lk cmBy (lk uF (lk ofF a b c) (lk ofB a b c) (lk ofC a b c)) (lk uB (lk ofF a b c) (lk ofB a b c) (lk ofC a b c)) (lk ofC a b c) (lk uF (lk ofF x y z) (lk ofB x y z) (lk ofC x
      y z)) (lk uB (lk ofF x y z) (lk ofB x y z) (lk ofC x y z)) (lk ofC x y z)) (lk cmCnt (lk uF (lk ofF a b c) (lk ofB a b c) (lk ofC a b c)) (lk uB (lk ofF a b c) (lk ofB a b c) (lk
      ofC a b c)) (lk ofC a b c) (lk uF (lk ofF x y z) (lk ofB x y z) (lk ofC x y z)) (lk uB (lk ofF x y z) (lk ofB x y z) (lk ofC x y z)) (lk ofC x y z)))) (lk uB (lk ofF a b c) (lk ofB
      a b c) (lk ofC a b c))) c * (U.quo IntKind.i64 (U.sub IntKind.i64 (lk sLast (lk uF (lk ofF a b c) (lk ofB a b c) (lk ofC a b c)) (lk uB (lk ofF a b c) (lk ofB a b c) (lk ofC a b c))
      (lk ofC a b c)) (lk sLast (lk cmFst (lk uF (lk ofF a b c) (lk ofB a b c) (lk ofC a b c)) (lk uB (lk ofF a b c) (lk ofB a b c) (lk ofC a b c)) (lk ofC a b c) (lk uF (lk ofF x y z)
      (lk ofB x y z) (lk ofC x y z)) (lk uB (lk ofF x y z) (lk ofB x y z) (lk ofC x y z)) (lk ofC x y z)) (lk cmBy (lk uF (lk ofF a b c) (lk ofB a b c) (lk ofC a b c)) (lk uB (lk ofF a b
      c) (lk ofB a b c) (lk ofC a b c)) (lk ofC a b c) (lk uF (lk ofF x y z) (lk ofB x y z) (lk ofC x y z)) (lk uB (lk ofF x y z) (lk ofB x y z) (lk ofC x y z)) (lk ofC x y z)) (lk cmCnt
      (lk uF (lk ofF a b c) (lk ofB a b c) (lk ofC a b c)) (lk uB (lk ofF a b c) (lk ofB a b c) (lk ofC a b c)) (lk ofC a b c) (lk uF (lk ofF x y z) (lk ofB x y z) (lk ofC x y z)) (lk uB
      (lk ofF x y z) (lk ofB x y z) (lk ofC x y z)) (lk ofC x y z)))) (lk uB (lk ofF a b c) (lk ofB a b c) (lk ofC a b c)) - (1 : Int)))) (T.ask (((0 : Nat) + lk pM (lk uB (lk ofF a b c)
      (lk ofB a b c) (lk ofC a b c)) (lk cmBy (lk uF (lk ofF a b c) (lk ofB a b c) (lk ofC a b c)) (lk uB (lk ofF a b c) (lk ofB a b c) (lk ofC a b c)) (lk ofC a b c) (lk uF (lk ofF x y
      z) (lk ofB x y z) (lk ofC x y z)) (lk uB (lk ofF x y z) (lk ofB x y z) (lk ofC x y z)) (lk ofC x y z)) (lk cmCnt (lk uF (lk ofF a b c) (lk ofB a b c) (lk ofC a b c)) (lk uB (lk ofF
      a b c) (lk ofB a b c) (lk ofC a b c)) (lk ofC a b c) (lk uF (lk ofF x y z) (lk ofB x y z) (lk ofC x y z)) (lk uB (lk ofF x y z) (lk ofB x y z) (lk ofC x y z)) (lk ofC x y z))
      (nat_lit 0) + (1 : Nat)) * nat_lit 24 ≤ nat_lit 140737488351232) (T.br (U.gt (Int.ofNat ((nat_lit 0 + lk pM (lk uB (lk ofF a b c) (lk ofB a b c) (lk ofC a b c)) (lk cmBy (lk uF (lk
      ofF a b c) (lk ofB a b c) (lk ofC a b c)) (lk uB (lk ofF a b c) (lk ofB a b c) (lk ofC a b c)) (lk ofC a b c) (lk uF (lk ofF x y z) (lk ofB x y z) (lk ofC x y z)) (lk uB (lk ofF x y
      z) (lk ofB x y z) (lk ofC x y z)) (lk ofC x y z)) (lk cmCnt (lk uF (lk ofF a b c) (lk ofB a b c) (lk ofC a b c)) (lk uB (lk ofF a b c) (lk ofB a b c) (lk ofC a b c)) (lk ofC a b c)
      (lk uF (lk ofF x y z) (lk ofB x y z) (lk ofC x y z)) (lk uB (lk ofF x y z) (lk ofB x y z) (lk ofC x y z)) (lk ofC x y z)) (nat_lit 0)).add (nat_lit 1))) (1000 : Int)) (T.ret (SV.tup
      [SV.lit (Value.slice none (nat_lit 0) (nat_lit 0)), SV.lit (Value.int IntKind.i64 (7 : Int))])) (T.ret (SV.tup [SV.row [Sh.int IntKind.i64, Sh.int IntKind.i64, Sh.int IntKind.i64]
      ((nat_lit 0 + lk pM (lk uB (lk ofF a b c) (lk ofB a b c) (lk ofC a b c)) (lk cmBy (lk uF (lk ofF a b c) (lk ofB a b c) (lk ofC a b c)) (lk uB (lk ofF a b c) (lk ofB a b c) (lk ofC a
      b c)) (lk ofC a b c) (lk uF (lk ofF x y z) (lk ofB x y z) (lk ofC x y z)) (lk uB (lk ofF x y z) (lk ofB x y z) (lk ofC x y z)) (lk ofC x y z)) (lk cmCnt (lk uF (lk ofF a b c) (lk
      ofB a b c) (lk ofC a b c)) (lk uB (lk ofF a b c) (lk ofB a b c) (lk ofC a b c)) (lk ofC a b c) (lk uF (lk ofF x y z) (lk ofB x y z) (lk ofC x y z)) (lk uB (lk ofF x y z) (lk ofB x y
      z) (lk ofC x y z)) (lk ofC x y z)) (nat_lit 0)).add (nat_lit 1)) (U.cat (nat_lit 0 + lk pM (lk uB (lk ofF a b c) (lk ofB a b c) (lk ofC a b c)) (lk cmBy (lk uF (lk ofF a b c) (lk
      ofB a b c) (lk ofC a b c)) (lk uB (lk ofF a b c) (lk ofB a b c) (lk ofC a b c)) (lk ofC a b c) (lk uF (lk ofF x y z) (lk ofB x y z) (lk ofC x y z)) (lk uB (lk ofF x y z) (lk ofB x y
      z) (lk ofC x y z)) (lk ofC x y z)) (lk cmCnt (lk uF (lk ofF a b c) (lk ofB a b c) (lk ofC a b c)) (lk uB (lk ofF a b c) (lk ofB a b c) (lk ofC a b c)) (lk ofC a b c) (lk uF (lk ofF
      x y z) (lk ofB x y z) (lk ofC x y z)) (lk uB (lk ofF x y z) (lk ofB x y z) (lk ofC x y z)) (lk ofC x y z)) (nat_lit 0)) (lk ppF c (lk uB (lk ofF a b c) (lk ofB a b c) (lk ofC a b
      c)) (lk cmFst (lk uF (lk ofF a b c) (lk ofB a b c) (lk ofC a b c)) (lk uB (lk ofF a b c) (lk ofB a b c) (lk ofC a b c)) (lk ofC a b c) (lk uF (lk ofF x y z) (lk ofB x y z) (lk ofC x
      y z)) (lk uB (lk ofF x y z) (lk ofB x y z) (lk ofC x y z)) (lk ofC x y z)) (lk cmBy (lk uF (lk ofF a b c) (lk ofB a b c) (lk ofC a b c)) (lk uB (lk ofF a b c) (lk ofB a b c) (lk ofC
      a b c)) (lk ofC a b c) (lk uF (lk ofF x y z) (lk ofB x y z) (lk ofC x y z)) (lk uB (lk ofF x y z) (lk ofB x y z) (lk ofC x y z)) (lk ofC x y z)) (lk cmCnt (lk uF (lk ofF a b c) (lk
      ofB a b c) (lk ofC a b c)) (lk uB (lk ofF a b c) (lk ofB a b c) (lk ofC a b c)) (lk ofC a b c) (lk uF (lk ofF x y z) (lk ofB x y z) (lk ofC x y z)) (lk uB (lk ofF x y z) (lk ofB x y
      z) (lk ofC x y z)) (lk ofC x y z)) (nat_lit 0) fun x => ((0 : Int), (0 : Int), (0 : Int), PUnit.unit)) fun x_1 => (lk nLow (lk kF (U.add IntKind.i64 (lk sLast (lk cmFst (lk uF (lk
      ofF a b c) (lk ofB a b c) (lk ofC a b c)) (lk uB (lk ofF a b c) (lk ofB a b c) (lk ofC a b c)) (lk ofC a b c) (lk uF (lk ofF x y z) (lk ofB x y z) (lk ofC x y z)) (lk uB (lk ofF x y
      z) (lk ofB x y z) (lk ofC x y z)) (lk ofC x y z)) (lk cmBy (lk uF (lk ofF a b c) (lk ofB a b c) (lk ofC a b c)) (lk uB (lk ofF a b c) (lk ofB a b c) (lk ofC a b c)) (lk ofC a b c)
      (lk uF (lk ofF x y z) (lk ofB x y z) (lk ofC x y z)) (lk uB (lk ofF x y z) (lk ofB x y z) (lk ofC x y z)) (lk ofC x y z)) (lk cmCnt (lk uF (lk ofF a b c) (lk ofB a b c) (lk ofC a b
      c)) (lk uB (lk ofF a b c) (lk ofB a b c) (lk ofC a b c)) (lk ofC a b c) (lk uF (lk ofF x y z) (lk ofB x y z) (lk ofC x y z)) (lk uB (lk ofF x y z) (lk ofB x y z) (lk ofC x y z)) (lk
      ofC x y z))) (lk uB (lk ofF a b c) (lk ofB a b c) (lk ofC a b c))) (lk uB (lk ofF a b c) (lk ofB a b c) (lk ofC a b c)) (U.quo IntKind.i64 (U.sub IntKind.i64 (lk sLast (lk uF (lk
      ofF a b c) (lk ofB a b c) (lk ofC a b c)) (lk uB (lk ofF a b c) (lk ofB a b c) (lk ofC a b c)) (lk ofC a b c)) (lk sLast (lk cmFst (lk uF (lk ofF a b c) (lk ofB a b c) (lk ofC a b
      c)) (lk uB (lk ofF a b c) (lk ofB a b c) (lk ofC a b c)) (lk ofC a b c) (lk uF (lk ofF x y z) (lk ofB x y z) (lk ofC x y z)) (lk uB (lk ofF x y z) (lk ofB x y z) (lk ofC x y z)) (lk
      ofC x y z)) (lk cmBy (lk uF (lk ofF a b c) (lk ofB a b c) (lk ofC a b c)) (lk uB (lk ofF a b c) (lk ofB a b c) (lk ofC a b c)) (lk ofC a b c) (lk uF (lk ofF x y z) (lk ofB x y z)
      (lk ofC x y z)) (lk uB (lk ofF x y z) (lk ofB x y z) (lk ofC x y z)) (lk ofC x y z)) (lk cmCnt (lk uF (lk ofF a b c) (lk ofB a b c) (lk ofC a b c)) (lk uB (lk ofF a b c) (lk ofB a b
      c) (lk ofC a b c)) (lk ofC a b c) (lk uF (lk ofF x y z) (lk ofB x y z) (lk ofC x y z)) (lk uB (lk ofF x y z) (lk ofB x y z) (lk ofC x y z)) (lk ofC x y z)))) (lk uB (lk ofF a b c)
      (lk ofB a b c) (lk ofC a b c))) c) (lk kB (U.add IntKind.i64 (lk sLast (lk cmFst (lk uF (lk ofF a b c) (lk ofB a b c) (lk ofC a b c)) (lk uB (lk ofF a b c) (lk ofB a b c) (lk ofC a
      b c)) (lk ofC a b c) (lk uF (lk ofF x y z) (lk ofB x y z) (lk ofC x y z)) (lk uB (lk ofF x y z) (lk ofB x y z) (lk ofC x y z)) (lk ofC x y z)) (lk cmBy (lk uF (lk ofF a b c) (lk ofB
      a b c) (lk ofC a b c)) (lk uB (lk ofF a b c) (lk ofB a b c) (lk ofC a b c)) (lk ofC a b c) (lk uF (lk ofF x y z) (lk ofB x y z) (lk ofC x y z)) (lk uB (lk ofF x y z) (lk ofB x y z)
      (lk ofC x y z)) (lk ofC x y z)) (lk cmCnt (lk uF (lk ofF a b c) (lk ofB a b c) (lk ofC a b c)) (lk uB (lk ofF a b c) (lk ofB a b c) (lk ofC a b c)) (lk ofC a b c) (lk uF (lk ofF x y
      z) (lk ofB x y z) (lk ofC x y z)) (lk uB (lk ofF x y z) (lk ofB x y z) (lk ofC x y z)) (lk ofC x y z))) (lk uB (lk ofF a b c) (lk ofB a b c) (lk ofC a b c))) (lk uB (lk ofF a b c)
      (lk ofB a b c) (lk ofC a b c)) (U.quo IntKind.i64 (U.sub IntKind.i64 (lk sLast (lk uF (lk ofF a b c) (lk ofB a b c) (lk ofC a b c)) (lk uB (lk ofF a b c) (lk ofB a b c) (lk ofC a b
      c)) (lk ofC a b c)) (lk sLast (lk cmFst (lk uF (lk ofF a b c) (lk ofB a b c) (lk ofC a b c)) (lk uB (lk ofF a b c) (lk ofB a b c) (lk ofC a b c)) (lk ofC a b c) (lk uF (lk ofF x y
      z) (lk ofB x y z) (lk ofC x y z)) (lk uB (lk ofF x y z) (lk ofB x y z) (lk ofC x y z)) (lk ofC x y z)) (lk cmBy (lk uF (lk ofF a b c) (lk ofB a b c) (lk ofC a b c)) (lk uB (lk ofF a
      b c) (lk ofB a b c) (lk ofC a b c)) (lk ofC a b c) (lk uF (lk ofF x y z) (lk ofB x y z) (lk ofC x y z)) (lk uB (lk ofF x y z) (lk ofB x y z) (lk ofC x y z)) (lk ofC x y z)) (lk
      cmCnt (lk uF (lk ofF a b c) (lk ofB a b c) (lk ofC a b c)) (lk uB (lk ofF a b c) (lk ofB a b c) (lk ofC a b c)) (lk ofC a b c) (lk uF (lk ofF x y z) (lk ofB x y z) (lk ofC x y z))
      (lk uB (lk ofF x y z) (lk ofB x y z) (lk ofC x y z)) (lk ofC x y z)))) (lk uB (lk ofF a b c) (lk ofB a b c) (lk ofC a b c))) c) (U.quo IntKind.i64 (U.sub IntKind.i64 (lk sLast (lk
      uF (lk ofF a b c) (lk ofB a b c) (lk ofC a b c)) (lk uB (lk ofF a b c) (lk ofB a b c) (lk ofC a b c)) (lk ofC a b c)) (lk sLast (lk cmFst (lk uF (lk ofF a b c) (lk ofB a b c) (lk
      ofC a b c)) (lk uB (lk ofF a b c) (lk ofB a b c) (lk ofC a b c)) (lk ofC a b c) (lk uF (lk ofF x y z) (lk ofB x y z) (lk ofC x y z)) (lk uB (lk ofF x y z) (lk ofB x y z) (lk ofC x y
      z)) (lk ofC x y z)) (lk cmBy (lk uF (lk ofF a b c) (lk ofB a b c) (lk ofC a b c)) (lk uB (lk ofF a b c) (lk ofB a b c) (lk ofC a b c)) (lk ofC a b c) (lk uF (lk ofF x y z) (lk ofB x
      y z) (lk ofC x y z)) (lk uB (lk ofF x y z) (lk ofB x y z) (lk ofC x y z)) (lk ofC x y z)) (lk cmCnt (lk uF (lk ofF a b c) (lk ofB a b c) (lk ofC a b c)) (lk uB (lk ofF a b c) (lk
      ofB a b c) (lk ofC a b c)) (lk ofC a b c) (lk uF (lk ofF x y z) (lk ofB x y z) (lk ofC x y z)) (lk uB (lk ofF x y z) (lk ofB x y z) (lk ofC x y z)) (lk ofC x y z)))) (lk uB (lk ofF
      a b c) (lk ofB a b c) (lk ofC a b c))), lk nHigh (lk kF (U.add IntKind.i64 (lk sLast (lk cmFst (lk uF (lk ofF a b c) (lk ofB a b c) (lk ofC a b c)) (lk uB (lk ofF a b c) (lk ofB a b
      c) (lk ofC a b c)) (lk ofC a b c) (lk uF (lk ofF x y z) (lk ofB x y z) (lk ofC x y z)) (lk uB (lk ofF x y z) (lk ofB x y z) (lk ofC x y z)) (lk ofC x y z)) (lk cmBy (lk uF (lk ofF a
      b c) (lk ofB a b c) (lk ofC a b c)) (lk uB (lk ofF a b c) (lk ofB a b c) (lk ofC a b c)) (lk ofC a b c) (lk uF (lk ofF x y z) (lk ofB x y z) (lk ofC x y z)) (lk uB (lk ofF x y z)
      (lk ofB x y z) (lk ofC x y z)) (lk ofC x y z)) (lk cmCnt (lk uF (lk ofF a b c) (lk ofB a b c) (lk ofC a b c)) (lk uB (lk ofF a b c) (lk ofB a b c) (lk ofC a b c)) (lk ofC a b c) (lk
      uF (lk ofF x y z) (lk ofB x y z) (lk ofC x y z)) (lk uB (lk ofF x y z) (lk ofB x y z) (lk ofC x y z)) (lk ofC x y z))) (lk uB (lk ofF a b c) (lk ofB a b c) (lk ofC a b c))) (lk uB
      (lk ofF a b c) (lk ofB a b c) (lk ofC a b c)) (U.quo IntKind.i64 (U.sub IntKind.i64 (lk sLast (lk uF (lk ofF a b c) (lk ofB a b c) (lk ofC a b c)) (lk uB (lk ofF a b c) (lk ofB a b
      c) (lk ofC a b c)) (lk ofC a b c)) (lk sLast (lk cmFst (lk uF (lk ofF a b c) (lk ofB a b c) (lk ofC a b c)) (lk uB (lk ofF a b c) (lk ofB a b c) (lk ofC a b c)) (lk ofC a b c) (lk
      uF (lk ofF x y z) (lk ofB x y z) (lk ofC x y z)) (lk uB (lk ofF x y z) (lk ofB x y z) (lk ofC x y z)) (lk ofC x y z)) (lk cmBy (lk uF (lk ofF a b c) (lk ofB a b c) (lk ofC a b c))
      (lk uB (lk ofF a b c) (lk ofB a b c) (lk ofC a b c)) (lk ofC a b c) (lk uF (lk ofF x y z) (lk ofB x y z) (lk ofC x y z)) (lk uB (lk ofF x y z) (lk ofB x y z) (lk ofC x y z)) (lk ofC
      x y z)) (lk cmCnt (lk uF (lk ofF a b c) (lk ofB a b c) (lk ofC a b c)) (lk uB (lk ofF a b c) (lk ofB a b c) (lk ofC a b c)) (lk ofC a b c) (lk uF (lk ofF x y z) (lk ofB x y z) (lk
      ofC x y z)) (lk uB (lk ofF x y z) (lk ofB x y z) (lk ofC x y z)) (lk ofC x y z)))) (lk uB (lk ofF a b c) (lk ofB a b c) (lk ofC a b c))) c) (lk kB (U.add IntKind.i64 (lk sLast (lk
      cmFst (lk uF (lk ofF a b c) (lk ofB a b c) (lk ofC a b c)) (lk uB (lk ofF a b c) (lk ofB a b c) (lk ofC a b c)) (lk ofC a b c) (lk uF (lk ofF x y z) (lk ofB x y z) (lk ofC x y z))
      (lk uB (lk ofF x y z) (lk ofB x y z) (lk ofC x y z)) (lk ofC x y z)) (lk cmBy (lk uF (lk ofF a b c) (lk ofB a b c) (lk ofC a b c)) (lk uB (lk ofF a b c) (lk ofB a b c) (lk ofC a b
      c)) (lk ofC a b c) (lk uF (lk ofF x y z) (lk ofB x y z) (lk ofC x y z)) (lk uB (lk ofF x y z) (lk ofB x y z) (lk ofC x y z)) (lk ofC x y z)) (lk cmCnt (lk uF (lk ofF a b c) (lk ofB
      a b c) (lk ofC a b c)) (lk uB (lk ofF a b c) (lk ofB a b c) (lk ofC a b c)) (lk ofC a b c) (lk uF (lk ofF x y z) (lk ofB x y z) (lk ofC x y z)) (lk uB (lk ofF x y z) (lk ofB x y z)
      (lk ofC x y z)) (lk ofC x y z))) (lk uB (lk ofF a b c) (lk ofB a b c) (lk ofC a b c))) (lk uB (lk ofF a b c) (lk ofB a b c) (lk ofC a b c)) (U.quo IntKind.i64 (U.sub IntKind.i64 (lk
      sLast (lk uF (lk ofF a b c) (lk ofB a b c) (lk ofC a b c)) (lk uB (lk ofF a b c) (lk ofB a b c) (lk ofC a b c)) (lk ofC a b c)) (lk sLast (lk cmFst (lk uF (lk ofF a b c) (lk ofB a b
      c) (lk ofC a b c)) (lk uB (lk ofF a b c) (lk ofB a b c) (lk ofC a b c)) (lk ofC a b c) (lk uF (lk ofF x y z) (lk ofB x y z) (lk ofC x y z)) (lk uB (lk ofF x y z) (lk ofB x y z) (lk
      ofC x y z)) (lk ofC x y z)) (lk cmBy (lk uF (lk ofF a b c) (lk ofB a b c) (lk ofC a b c)) (lk uB (lk ofF a b c) (lk ofB a b c) (lk ofC a b c)) (lk ofC a b c) (lk uF (lk ofF x y z)
      (lk ofB x y z) (lk ofC x y z)) (lk uB (lk ofF x y z) (lk ofB x y z) (lk ofC x y z)) (lk ofC x y z)) (lk cmCnt (lk uF (lk ofF a b c) (lk ofB a b c) (lk ofC a b c)) (lk uB (lk ofF a b
      c) (lk ofB a b c) (lk ofC a b c)) (lk ofC a b c) (lk uF (lk ofF x y z) (lk ofB x y z) (lk ofC x y z)) (lk uB (lk ofF x y z) (lk ofB x y z) (lk ofC x y z)) (lk ofC x y z)))) (lk uB
      (lk ofF a b c) (lk ofB a b c) (lk ofC a b c))) c) (U.quo IntKind.i64 (U.sub IntKind.i64 (lk sLast (lk uF (lk ofF a b c) (lk ofB a b c) (lk ofC a b c)) (lk uB (lk ofF a b c) (lk ofB
      a b c) (lk ofC a b c)) (lk ofC a b c)) (lk sLast (lk cmFst (lk uF (lk ofF a b c) (lk ofB a b c) (lk ofC a b c)) (lk uB (lk ofF a b c) (lk ofB a b c) (lk ofC a b c)) (lk ofC a b c)
      (lk uF (lk ofF x y z) (lk ofB x y z) (lk ofC x y z)) (lk uB (lk ofF x y z) (lk ofB x y z) (lk ofC x y z)) (lk ofC x y z)) (lk cmBy (lk uF (lk ofF a b c) (lk ofB a b c) (lk ofC a b
      c)) (lk uB (lk ofF a b c) (lk ofB a b c) (lk ofC a b c)) (lk ofC a b c) (lk uF (lk ofF x y z) (lk ofB x y z) (lk ofC x y z)) (lk uB (lk ofF x y z) (lk ofB x y z) (lk ofC x y z)) (lk
      ofC x y z)) (lk cmCnt (lk uF (lk ofF a b c) (lk ofB a b c) (lk ofC a b c)) (lk uB (lk ofF a b c) (lk ofB a b c) (lk ofC a b c)) (lk ofC a b c) (lk uF (lk ofF x y z) (lk ofB x y z)
      (lk ofC x y z)) (lk uB (lk ofF x y z) (lk ofB x y z) (lk ofC x y z)) (lk ofC x y z)))) (lk uB (lk ofF a b c) (lk ofB a b c) (lk ofC a b c))), lk nStr (lk kF (U.add IntKind.i64 (lk
      sLast (lk cmFst (lk uF (lk ofF a b c) (lk ofB a b c) (lk ofC a b c)) (lk uB (lk ofF a b c) (lk ofB a b c) (lk ofC a b c)) (lk ofC a b c) (lk uF (lk ofF x y z) (lk ofB x y z) (lk ofC
      x y z)) (lk uB (lk ofF x y z) (lk ofB x y z) (lk ofC x y z)) (lk ofC x y z)) (lk cmBy (lk uF (lk ofF a b c) (lk ofB a b c) (lk ofC a b c)) (lk uB (lk ofF a b c) (lk ofB a b c) (lk
      ofC a b c)) (lk ofC a b c) (lk uF (lk ofF x y z) (lk ofB x y z) (lk ofC x y z)) (lk uB (lk ofF x y z) (lk ofB x y z) (lk ofC x y z)) (lk ofC x y z)) (lk cmCnt (lk uF (lk ofF a b c)
      (lk ofB a b c) (lk ofC a b c)) (lk uB (lk ofF a b c) (lk ofB a b c) (lk ofC a b c)) (lk ofC a b c) (lk uF (lk ofF x y z) (lk ofB x y z) (lk ofC x y z)) (lk uB (lk ofF x y z) (lk ofB
      x y z) (lk ofC x y z)) (lk ofC x y z))) (lk uB (lk ofF a b c) (lk ofB a b c) (lk ofC a b c))) (lk uB (lk ofF a b c) (lk ofB a b c) (lk ofC a b c)) (U.quo IntKind.i64 (U.sub
      IntKind.i64 (lk sLast (lk uF (lk ofF a b c) (lk ofB a b c) (lk ofC a b c)) (lk uB (lk ofF a b c) (lk ofB a b c) (lk ofC a b c)) (lk ofC a b c)) (lk sLast (lk cmFst (lk uF (lk ofF a
      b c) (lk ofB a b c) (lk ofC a b c)) (lk uB (lk ofF a b c) (lk ofB a b c) (lk ofC a b c)) (lk ofC a b c) (lk uF (lk ofF x y z) (lk ofB x y z) (lk ofC x y z)) (lk uB (lk ofF x y z)
      (lk ofB x y z) (lk ofC x y z)) (lk ofC x y z)) (lk cmBy (lk uF (lk ofF a b c) (lk ofB a b c) (lk ofC a b c)) (lk uB (lk ofF a b c) (lk ofB a b c) (lk ofC a b c)) (lk ofC a b c) (lk
      uF (lk ofF x y z) (lk ofB x y z) (lk ofC x y z)) (lk uB (lk ofF x y z) (lk ofB x y z) (lk ofC x y z)) (lk ofC x y z)) (lk cmCnt (lk uF (lk ofF a b c) (lk ofB a b c) (lk ofC a b c))
      (lk uB (lk ofF a b c) (lk ofB a b c) (lk ofC a b c)) (lk ofC a b c) (lk uF (lk ofF x y z) (lk ofB x y z) (lk ofC x y z)) (lk uB (lk ofF x y z) (lk ofB x y z) (lk ofC x y z)) (lk ofC
      x y z)))) (lk uB (lk ofF a b c) (lk ofB a b c) (lk ofC a b c))) c) (lk kB (U.add IntKind.i64 (lk sLast (lk cmFst (lk uF (lk ofF a b c) (lk ofB a b c) (lk ofC a b c)) (lk uB (lk ofF
      a b c) (lk ofB a b c) (lk ofC a b c)) (lk ofC a b c) (lk uF (lk ofF x y z) (lk ofB x y z) (lk ofC x y z)) (lk uB (lk ofF x y z) (lk ofB x y z) (lk ofC x y z)) (lk ofC x y z)) (lk
      cmBy (lk uF (lk ofF a b c) (lk ofB a b c) (lk ofC a b c)) (lk uB (lk ofF a b c) (lk ofB a b c) (lk ofC a b c)) (lk ofC a b c) (lk uF (lk ofF x y z) (lk ofB x y z) (lk ofC x y z))
      (lk uB (lk ofF x y z) (lk ofB x y z) (lk ofC x y z)) (lk ofC x y z)) (lk cmCnt (lk uF (lk ofF a b c) (lk ofB a b c) (lk ofC a b c)) (lk uB (lk ofF a b c) (lk ofB a b c) (lk ofC a b
      c)) (lk ofC a b c) (lk uF (lk ofF x y z) (lk ofB x y z) (lk ofC x y z)) (lk uB (lk ofF x y z) (lk ofB x y z) (lk ofC x y z)) (lk ofC x y z))) (lk uB (lk ofF a b c) (lk ofB a b c)
      (lk ofC a b c))) (lk uB (lk ofF a b c) (lk ofB a b c) (lk ofC a b c)) (U.quo IntKind.i64 (U.sub IntKind.i64 (lk sLast (lk uF (lk ofF a b c) (lk ofB a b c) (lk ofC a b c)) (lk uB (lk
      ofF a b c) (lk ofB a b c) (lk ofC a b c)) (lk ofC a b c)) (lk sLast (lk cmFst (lk uF (lk ofF a b c) (lk ofB a b c) (lk ofC a b c)) (lk uB (lk ofF a b c) (lk ofB a b c) (lk ofC a b
      c)) (lk ofC a b c) (lk uF (lk ofF x y z) (lk ofB x y z) (lk ofC x y z)) (lk uB (lk ofF x y z) (lk ofB x y z) (lk ofC x y z)) (lk ofC x y z)) (lk cmBy (lk uF (lk ofF a b c) (lk ofB a
      b c) (lk ofC a b c)) (lk uB (lk ofF a b c) (lk ofB a b c) (lk ofC a b c)) (lk ofC a b c) (lk uF (lk ofF x y z) (lk ofB x y z) (lk ofC x y z)) (lk uB (lk ofF x y z) (lk ofB x y z)
      (lk ofC x y z)) (lk ofC x y z)) (lk cmCnt (lk uF (lk ofF a b c) (lk ofB a b c) (lk ofC a b c)) (lk uB (lk ofF a b c) (lk ofB a b c) (lk ofC a b c)) (lk ofC a b c) (lk uF (lk ofF x y
      z) (lk ofB x y z) (lk ofC x y z)) (lk uB (lk ofF x y z) (lk ofB x y z) (lk ofC x y z)) (lk ofC x y z)))) (lk uB (lk ofF a b c) (lk ofB a b c) (lk ofC a b c))) c) (U.quo IntKind.i64
      (U.sub IntKind.i64 (lk sLast (lk uF (lk ofF a b c) (lk ofB a b c) (lk ofC a b c)) (lk uB (lk ofF a b c) (lk ofB a b c) (lk ofC a b c)) (lk ofC a b c)) (lk sLast (lk cmFst (lk uF (lk
      ofF a b c) (lk ofB a b c) (lk ofC a b c)) (lk uB (lk ofF a b c) (lk ofB a b c) (lk ofC a b c)) (lk ofC a b c) (lk uF (lk ofF x y z) (lk ofB x y z) (lk ofC x y z)) (lk uB (lk ofF x y
      z) (lk ofB x y z) (lk ofC x y z)) (lk ofC x y z)) (lk cmBy (lk uF (lk ofF a b c) (lk ofB a b c) (lk ofC a b c)) (lk uB (lk ofF a b c) (lk ofB a b c) (lk ofC a b c)) (lk ofC a b c)
      (lk uF (lk ofF x y z) (lk ofB x y z) (lk ofC x y z)) (lk uB (lk ofF x y z) (lk ofB x y z) (lk ofC x y z)) (lk ofC x y z)) (lk cmCnt (lk uF (lk ofF a b c) (lk ofB a b c) (lk ofC a b
      c)) (lk uB (lk ofF a b c) (lk ofB a b c) (lk ofC a b c)) (lk ofC a b c) (lk uF (lk ofF x y z) (lk ofB x y z) (lk ofC x y z)) (lk uB (lk ofF x y z) (lk ofB x y z) (lk ofC x y z)) (lk
      ofC x y z)))) (lk uB (lk ofF a b c) (lk ofB a b c) (lk ofC a b c))), PUnit.unit)), SV.lit (Value.int IntKind.i64 (0 : Int))])))))) (T.br (U.gt (Int.ofNat (nat_lit 0 + lk pM (lk uB
      (lk ofF a b c) (lk ofB a b c) (lk ofC a b c)) (lk cmBy (lk uF (lk ofF a b c) (lk ofB a b c) (lk ofC a b c)) (lk uB (lk ofF a b c) (lk ofB a b c) (lk ofC a b c)) (lk ofC a b c) (lk
      uF (lk ofF x y z) (lk ofB x y z) (lk ofC x y z)) (lk uB (lk ofF x y z) (lk ofB x y z) (lk ofC x y z)) (lk ofC x y z)) (lk cmCnt (lk uF (lk ofF a b c) (lk ofB a b c) (lk ofC a b c))
      (lk uB (lk ofF a b c) (lk ofB a b c) (lk ofC a b c)) (lk ofC a b c) (lk uF (lk ofF x y z) (lk ofB x y z) (lk ofC x y z)) (lk uB (lk ofF x y z) (lk ofB x y z) (lk ofC x y z)) (lk ofC
      x y z)) (nat_lit 0))) (1000 : Int)) (T.ret (SV.tup [SV.lit (Value.slice none (nat_lit 0) (nat_lit 0)), SV.lit (Value.int IntKind.i64 (7 : Int))])) (T.ret (SV.tup [SV.row [Sh.int
      IntKind.i64, Sh.int IntKind.i64, Sh.int IntKind.i64] (nat_lit 0 + lk pM (lk uB (lk ofF a b c) (lk ofB a b c) (lk ofC a b c)) (lk cmBy (lk uF (lk ofF a b c) (lk ofB a b c) (lk ofC a
      b c)) (lk uB (lk ofF a b c) (lk ofB a b c) (lk ofC a b c)) (lk ofC a b c) (lk uF (lk ofF x y z) (lk ofB x y z) (lk ofC x y z)) (lk uB (lk ofF x y z) (lk ofB x y z) (lk ofC x y z))
      (lk ofC x y z)) (lk cmCnt (lk uF (lk ofF a b c) (lk ofB a b c) (lk ofC a b c)) (lk uB (lk ofF a b c) (lk ofB a b c) (lk ofC a b c)) (lk ofC a b c) (lk uF (lk ofF x y z) (lk ofB x y
      z) (lk ofC x y z)) (lk uB (lk ofF x y z) (lk ofB x y z) (lk ofC x y z)) (lk ofC x y z)) (nat_lit 0)) (lk ppF c (lk uB (lk ofF a b c) (lk ofB a b c) (lk ofC a b c)) (lk cmFst (lk uF
      (lk ofF a b c) (lk ofB a b c) (lk ofC a b c)) (lk uB (lk ofF a b c) (lk ofB a b c) (lk ofC a b c)) (lk ofC a b c) (lk uF (lk ofF x y z) (lk ofB x y z) (lk ofC x y z)) (lk uB (lk ofF
      x y z) (lk ofB x y z) (lk ofC x y z)) (lk ofC x y z)) (lk cmBy (lk uF (lk ofF a b c) (lk ofB a b c) (lk ofC a b c)) (lk uB (lk ofF a b c) (lk ofB a b c) (lk ofC a b c)) (lk ofC a b
      c) (lk uF (lk ofF x y z) (lk ofB x y z) (lk ofC x y z)) (lk uB (lk ofF x y z) (lk ofB x y z) (lk ofC x y z)) (lk ofC x y z)) (lk cmCnt (lk uF (lk ofF a b c) (lk ofB a b c) (lk ofC a
      b c)) (lk uB (lk ofF a b c) (lk ofB a b c) (lk ofC a b c)) (lk ofC a b c) (lk uF (lk ofF x y z) (lk ofB x y z) (lk ofC x y z)) (lk uB (lk ofF x y z) (lk ofB x y z) (lk ofC x y z))
      (lk ofC x y z)) (nat_lit 0) fun x => ((0 : Int), (0 : Int), (0 : Int), PUnit.unit)), SV.lit (Value.int IntKind.i64 (0 : Int))])))) (T.br (U.gt (Int.ofNat (nat_lit 0 + lk pM (lk uB
      (lk ofF a b c) (lk ofB a b c) (lk ofC a b c)) (lk cmBy (lk uF (lk ofF a b c) (lk ofB a b c) (lk ofC a b c)) (lk uB (lk ofF a b c) (lk ofB a b c) (lk ofC a b c)) (lk ofC a b c) (lk
      uF (lk ofF x y z) (lk ofB x y z) (lk ofC x y z)) (lk uB (lk ofF x y z) (lk ofB x y z) (lk ofC x y z)) (lk ofC x y z)) (lk cmCnt (lk uF (lk ofF a b c) (lk ofB a b c) (lk ofC a b c))
      (lk uB (lk ofF a b c) (lk ofB a b c) (lk ofC a b c)) (lk ofC a b c) (lk uF (lk ofF x y z) (lk ofB x y z) (lk ofC x y z)) (lk uB (lk ofF x y z) (lk ofB x y z) (lk ofC x y z)) (lk ofC
      x y z)) (nat_lit 0))) (1000 : Int)) (T.ret (SV.tup [SV.lit (Value.slice none (nat_lit 0) (nat_lit 0)), SV.lit (Value.int IntKind.i64 (7 : Int))])) (T.ret (SV.tup [SV.row [Sh.int
      IntKind.i64, Sh.int IntKind.i64, Sh.int IntKind.i64] (nat_lit 0 + lk pM (lk uB (lk ofF a b c) (lk ofB a b c) (lk ofC a b c)) (lk cmBy (lk uF (lk ofF a b c) (lk ofB a b c) (lk ofC a
      b c)) (lk uB (lk ofF a b c) (lk ofB a b c) (lk ofC a b c)) (lk ofC a b c) (lk uF (lk ofF x y z) (lk ofB x y z) (lk ofC x y z)) (lk uB (lk ofF x y z) (lk ofB x y z) (lk ofC x y z))
      (lk ofC x y z)) (lk cmCnt (lk uF (lk ofF a b c) (lk ofB a b c) (lk ofC a b c)) (lk uB (lk ofF a b c) (lk ofB a b c) (lk ofC a b c)) (lk ofC a b c) (lk uF (lk ofF x y z) (lk ofB x y
      z) (lk ofC x y z)) (lk uB (lk ofF x y z) (lk ofB x y z) (lk ofC x y z)) (lk ofC x y z)) (nat_lit 0)) (lk ppF c (lk uB (lk ofF a b c) (lk ofB a b c) (lk ofC a b c)) (lk cmFst (lk uF
      (lk ofF a b c) (lk ofB a b c) (lk ofC a b c)) (lk uB (lk ofF a b c) (lk ofB a b c) (lk ofC a b c)) (lk ofC a b c) (lk uF (lk ofF x y z) (lk ofB x y z) (lk ofC x y z)) (lk uB (lk ofF
      x y z) (lk ofB x y z) (lk ofC x y z)) (lk ofC x y z)) (lk cmBy (lk uF (lk ofF a b c) (lk ofB a b c) (lk ofC a b c)) (lk uB (lk ofF a b c) (lk ofB a b c) (lk ofC a b c)) (lk ofC a b
      c) (lk uF (lk ofF x y z) (lk ofB x y z) (lk ofC x y z)) (lk uB (lk ofF x y z) (lk ofB x y z) (lk ofC x y z)) (lk ofC x y z)) (lk cmCnt (lk uF (lk ofF a b c) (lk ofB a b c) (lk ofC a
      b c)) (lk uB (lk ofF a b c) (lk ofB a b c) (lk ofC a b c)) (lk ofC a b c) (lk uF (lk ofF x y z) (lk ofB x y z) (lk ofC x y z)) (lk uB (lk ofF x y z) (lk ofB x y z) (lk ofC x y z))
      (lk ofC x y z)) (nat_lit 0) fun x => ((0 : Int), (0 : Int), (0 : Int), PUnit.unit)), SV.lit (Value.int IntKind.i64 (0 : Int))])))))))))))))))))) := by kernel_rfl
noncomputable def sbR (a b c x y z : Int) : SV := .tup [.row [.int .i64, .int .i64, .int .i64] (sbN a b c x y z) (sbF a b c x y z), .lit (.int .i64 (sbE a b c x y z))]
noncomputable def c_Subtract : Con := fun args => match args with
  | [.agg [.lit (.int .i64 a), .lit (.int .i64 b), .lit (.int .i64 c)], .agg [.lit (.int .i64 x), .lit (.int .i64 y), .lit (.int .i64 z)]] =>
    .ask (I64 a ∧ I64 b ∧ I64 c ∧ I64 x ∧ I64 y ∧ I64 z) (.ret (.tup [.row [.int .i64, .int .i64, .int .i64] (lk sbN a b c x y z) (lk sbF a b c x y z), .lit (.int .i64 (lk sbE a b c x y z))]))
  | _ => .stuck 1
section
variable {a b c x y z : Int}
theorem cl_lit {v w : Value} (h : v = w) : Cl (.lit v) (.lit w) := .inl (by rw [h])
theorem cl_nil0 {n : Nat} {f : Nat → R3} (h : n = 0) : Cl (.lit (.slice none 0 0)) (.row [.int .i64, .int .i64, .int .i64] n f) := .inr ⟨rfl, h⟩
theorem cl_row' {n m : Nat} {f g : Nat → R3} (h : n = m) (hf : ∀ i, i < n → f i = g i) : Cl (.row [.int .i64, .int .i64, .int .i64] n f) (.row [.int .i64, .int .i64, .int .i64] m g) := ⟨h, sameR hf⟩
theorem sbR_err (h0 : ckd a b c x y z ≠ 0) : Cl (.tup [.lit (.slice none 0 0), .lit (.int .i64 (ckd a b c x y z))]) (sbR a b c x y z) :=
  ⟨cl_nil0 (by unfold sbN; rw [if_pos h0]), cl_lit (by unfold sbE; rw [if_pos h0]), rfl⟩
theorem sbR_big (h0 : ¬ ckd a b c x y z ≠ 0) (hC : isC a b c x y z ≠ 0) (hb : 1000 < sbAll a b c x y z) : Cl (.tup [.lit (.slice none 0 0), .lit (.int .i64 7)]) (sbR a b c x y z) :=
  ⟨cl_nil0 (by unfold sbN; rw [if_neg h0, if_neg hC, if_pos hb]), cl_lit (by unfold sbE; rw [if_neg h0, if_neg hC, if_pos hb]), rfl⟩
theorem sbR_ok (h0 : ¬ ckd a b c x y z ≠ 0) (hC : isC a b c x y z ≠ 0) (hb : sbAll a b c x y z ≤ 1000) {n : Nat} {f : Nat → R3} (hn : n = sbAll a b c x y z) (hf : ∀ i, i < n → f i = sbF a b c x y z i) : Cl (.tup [.row [.int .i64, .int .i64, .int .i64] n f, .lit (.int .i64 0)]) (sbR a b c x y z) :=
  ⟨cl_row' (by unfold sbN; rw [if_neg h0, if_neg hC, if_neg (by omega)]; exact hn) hf, cl_lit (by unfold sbE; rw [if_neg h0, if_neg hC, if_neg (by omega)]), rfl⟩
theorem sbR_whole (h0 : ¬ ckd a b c x y z ≠ 0) (hC : isC a b c x y z = 0) (hc : 0 < ofC a b c) {f : Nat → R3} (hf : f 0 = pc (sA a b c) (sS a b c) (ofC a b c) c) : Cl (.tup [.row [.int .i64, .int .i64, .int .i64] 1 f, .lit (.int .i64 0)]) (sbR a b c x y z) :=
  ⟨cl_row' (by unfold sbN; rw [if_neg h0, if_pos hC, if_pos hc]) (fun i hi => by
    obtain rfl : i = 0 := by omega
    unfold sbF; rw [if_pos hC]; exact hf), cl_lit (by unfold sbE; rw [if_neg h0, if_pos hC]), rfl⟩
theorem sbR_none (h0 : ¬ ckd a b c x y z ≠ 0) (hC : isC a b c x y z = 0) (hc : ¬ 0 < ofC a b c) : Cl (.tup [.lit (.slice none 0 0), .lit (.int .i64 0)]) (sbR a b c x y z) :=
  ⟨cl_nil0 (by unfold sbN; rw [if_neg h0, if_pos hC, if_neg hc]), cl_lit (by unfold sbE; rw [if_neg h0, if_pos hC]), rfl⟩
end
set_option maxHeartbeats 4000000 in
theorem Subtract_ok : ConOK P 52 c_Subtract := con_cl (allOKL mixed ku_ok l52_ok) 10 52 fun args r h => by
  unfold c_Subtract at h
  split at h
  · rename_i a b c x y z
    have hp := (T.is_ask h).1
    have h := (T.is_ask h).2
    obtain rfl := T.is_ret h
    rw [t_Subtract]
    obtain ⟨ha, hb, hc, hx, hy, hz⟩ := hp
    have f1 : uF (ofF a b c) (ofB a b c) (ofC a b c) = sA a b c := rfl
    have f2 : uB (ofF a b c) (ofB a b c) (ofC a b c) = sS a b c := rfl
    have f3 : uF (ofF x y z) (ofB x y z) (ofC x y z) = sA x y z := rfl
    have f4 : uB (ofF x y z) (ofB x y z) (ofC x y z) = sS x y z := rfl
    have f5 : cmFst (sA a b c) (sS a b c) (ofC a b c) (sA x y z) (sS x y z) (ofC x y z) = isF a b c x y z := rfl
    have f6 : cmBy (sA a b c) (sS a b c) (ofC a b c) (sA x y z) (sS x y z) (ofC x y z) = isB a b c x y z := rfl
    have f7 : cmCnt (sA a b c) (sS a b c) (ofC a b c) (sA x y z) (sS x y z) (ofC x y z) = isC a b c x y z := rfl
    have f8 : sLast (sA a b c) (sS a b c) (ofC a b c) = sbT a b c := rfl
    have f9 : sLast (isF a b c x y z) (isB a b c x y z) (isC a b c x y z) = sbL a b c x y z := rfl
    simp only [lk_eq, f1, f2, f3, f4, f5, f6, f7, f8, f9]
    refine T.all_mono (K := fun s => Cl s (sbR a b c x y z)) (fun s hs => hs) ?_
    refine ⟨⟨ha, hb, hc, hx, hy, hz⟩, fun h => sbR_err (U.ne_t.mp h), fun h => ?_⟩
    rw [U.ne_f] at h
    obtain ⟨r1, r2⟩ := ckd_right h
    have h0 : ¬ ckd a b c x y z ≠ 0 := by simp [h]
    have hsw := (is_sw r1 r2).1
    have hser := up_ser r1
    refine ⟨of_ask r1 ha hb hc, up_ask r1, of_ask r2 hx hy hz, up_ask r2, ⟨up_ser r1, up_ser r2⟩, fun hC => ?_, fun hC => ?_⟩
    · have hC : isC a b c x y z = 0 := U.eq_t.mp hC
      refine ⟨fun hc0 => ?_, fun hc0 => ?_⟩
      · have hc0 : 0 < ofC a b c := U.gt_t.mp hc0
        obtain ⟨c1, c2, c3, c4, c5, c6⟩ := hser.resolve_left (by omega)
        obtain ⟨l1, l2⟩ := pc_asks (f := sA a b c) (s := sS a b c) (C := ofC a b c) (c := c) c3 (by omega) c1 c2 c5 c6
        exact ⟨l1, l2, by decide, sbR_whole h0 hC hc0 (pc_eq c3)⟩
      · exact sbR_none h0 hC (by have := U.gt_f.mp hc0; omega)
    · have hC : isC a b c x y z ≠ 0 := U.eq_f.mp hC
      obtain ⟨hab, hxy, eA, eS, s1, s2, eT, C1, C2, B1, B2, lo, hi, FL, k0, k1, k0n, k1n, k0b, k1b, eF, eb, eK0, eK1, hm⟩ := sb_facts r1 r2 hC
      have eL : sbL a b c x y z = isF a b c x y z + isB a b c x y z * (isC a b c x y z - 1) := rfl
      have eTT : sbT a b c = sA a b c + sS a b c * (ofC a b c - 1) := rfl
      obtain ⟨c1, c2, c3, c4, c5, c6⟩ := hser.resolve_left (by have := (parts r1 hab).2.2.1; omega)
      have p0 := mulle (s := absI c) (x := 0) (y := k0) s1 k0n
      have p1 := mulle (s := absI c) (x := 0) (y := k1) s1 k1n
      have pB := mulle (s := isB a b c x y z) (x := 0) (y := isC a b c x y z - 1) B1 (by omega)
      rw [Int.mul_zero] at p0 p1 pB
      have aS : I64 (ofC a b c - 1) ∧ I64 (sS a b c * (ofC a b c - 1)) ∧ I64 (sA a b c + sS a b c * (ofC a b c - 1)) := by unfold I64; rw [← eTT, eT]; omega
      have ad : I64 (isC a b c x y z - 1) ∧ I64 (isB a b c x y z * (isC a b c x y z - 1)) ∧ I64 (isF a b c x y z + isB a b c x y z * (isC a b c x y z - 1)) := by unfold I64; omega
      have hs0 : sS a b c ≠ 0 := by omega
      have eK0' : U.quo .i64 (U.sub .i64 (isF a b c x y z) (sA a b c)) (sS a b c) = k0 := by
        rw [U.sub64 (by unfold I64; omega), U.quo64 (by rw [eK0]; unfold I64; omega), eK0]
      have eK1' : U.quo .i64 (U.sub .i64 (sbT a b c) (sbL a b c x y z)) (sS a b c) = k1 := by
        rw [U.sub64 (by unfold I64; omega), U.quo64 (by rw [eK1]; unfold I64; omega), eK1]
      have eS0 : U.add .i64 (sbL a b c x y z) (sS a b c) = sbL a b c x y z + sS a b c := U.add64 (by unfold I64; omega)
      have m0 : absI c * (k0 - 1) = absI c * k0 - absI c := by rw [Int.mul_sub, Int.mul_one]
      have m1 : absI c * (k1 - 1) = absI c * k1 - absI c := by rw [Int.mul_sub, Int.mul_one]
      have pre : ∀ (u : Bool) (n : Nat), n ≤ 1 → PreP 0 (sS a b c) (isF a b c x y z) (isB a b c x y z) (isC a b c x y z) u n := fun u n hn => by
        refine ⟨rfl, by omega, ⟨B1, B2⟩, ⟨C1, C2⟩, by omega, fun h => ?_, hn⟩
        obtain ⟨m, _, _, e, _⟩ := hm h
        exact ⟨m, by rw [eS]; exact e⟩
      have hN1 : (0 < k1 → sbN1 a b c x y z = 1) ∧ (k1 ≤ 0 → sbN1 a b c x y z = 0) := by
        unfold sbN1
        rw [eT]
        constructor
        · intro hk
          have := mulle (s := absI c) (x := 1) (y := k1) s1 (by omega)
          rw [if_pos (by omega)]
        · intro hk
          obtain rfl : k1 = 0 := by omega
          rw [if_neg (by rw [Int.mul_zero] at eb; omega)]
      have hN0 : (0 < k0 → sbN0 a b c x y z = 1) ∧ (k0 ≤ 0 → sbN0 a b c x y z = 0) := by
        unfold sbN0
        rw [eA]
        constructor
        · intro hk
          have := mulle (s := absI c) (x := 1) (y := k0) s1 (by omega)
          rw [if_pos (by omega)]
        · intro hk
          obtain rfl : k0 = 0 := by omega
          rw [if_neg (by rw [Int.mul_zero] at eF; omega)]
      have hpm : ∀ n, n ≤ 1 → pM (sS a b c) (isB a b c x y z) (isC a b c x y z) n = min (sbM a b c x y z) (1001 - n) := fun n hn => by
        unfold pM sbM rM
        by_cases h1 : 1 < isC a b c x y z
        · rw [if_pos h1, if_pos h1]
        · rw [if_neg h1, if_neg h1]; omega
      have hF : ∀ (n : Nat) (f : Nat → R3) (i : Nat), n = sbN0 a b c x y z → (∀ i, i < n → f i = sbF a b c x y z i) → i < n + sbM a b c x y z → ppF c (sS a b c) (isF a b c x y z) (isB a b c x y z) (isC a b c x y z) n f i = sbF a b c x y z i := fun n f i hn hf hi => by
        by_cases hlt : i < n
        · exact (cat_l hlt).trans (hf i hlt)
        · refine (cat_r (by omega)).trans ?_
          unfold sbF
          rw [if_neg hC, if_neg (by omega), if_pos (by omega), hn]
          rfl
      have al := pc_asks (f := sbL a b c x y z + sS a b c) (s := sS a b c) (C := k1) (c := c) c3 (by omega)
      have a0 := pc_asks (f := sA a b c) (s := sS a b c) (C := k0) (c := c) c3 (by omega)
      have hpm0 := hpm 0 (by omega)
      have hpm1 := hpm 1 (by omega)
      simp only [eK0', eK1', eS0]
      refine ⟨hs0, fun hk => ?_, fun hk => ?_⟩
      · have hk : 0 < k0 := U.gt_t.mp hk
        have hN0' := hN0.1 hk
        have al' : U.gt k1 0 = true → _ := fun g1 => by
          have g1' : 0 < k1 := U.gt_t.mp g1
          exact al (by omega) (by omega) (by omega) (by rw [eS, m1]; omega)
        have a0' := a0 (by omega) (by omega) (by omega) (by rw [eS, m0]; omega)
        refine ⟨a0'.1, a0'.2, by decide, ?_⟩
        refine ⟨⟨pre _ _ (by omega), (by first | trivial | rfl), (by first | trivial | rfl)⟩, ad, aS, ad, hs0, fun g1 => ⟨fun g2 => ⟨(al' g1).1, (al' g1).2, ?_, fun g3 => ?_, fun g3 => ?_⟩, fun g2 => ⟨fun g3 => ?_, fun g3 => ?_⟩⟩, fun g1 => ⟨fun g2 => ?_, fun g2 => ?_⟩⟩
        · show (1 + pM _ _ _ 1 + 1) * 24 ≤ 140737488351232
          omega
        · have g3' : (1000 : Int) < ((1 + pM (sS a b c) (isB a b c x y z) (isC a b c x y z) 1 + 1 : Nat) : Int) := U.gt_t.mp g3
          have g2' : ((1 + pM (sS a b c) (isB a b c x y z) (isC a b c x y z) 1 : Nat) : Int) ≤ 1000 := U.le_t.mp g2
          have n1 := hN1.1 (U.gt_t.mp g1)
          exact sbR_big h0 hC (by unfold sbAll; omega)
        · have g3' : ((1 + pM (sS a b c) (isB a b c x y z) (isC a b c x y z) 1 + 1 : Nat) : Int) ≤ 1000 := U.gt_f.mp g3
          have n1 := hN1.1 (U.gt_t.mp g1)
          have hJ : pM (sS a b c) (isB a b c x y z) (isC a b c x y z) 1 = sbM a b c x y z := by omega
          refine sbR_ok h0 hC (by unfold sbAll; omega) (show 1 + pM _ _ _ 1 + 1 = _ by unfold sbAll; omega) fun i hi => ?_
          have hi' : i < 1 + pM (sS a b c) (isB a b c x y z) (isC a b c x y z) 1 + 1 := hi
          by_cases hlt : i < 1 + pM (sS a b c) (isB a b c x y z) (isC a b c x y z) 1
          · refine (cat_l hlt).trans ?_
            exact hF 1 _ i hN0'.symm (fun i hi => by
              obtain rfl : i = 0 := by omega
              refine (pc_eq c3).trans ?_
              unfold sbF
              rw [if_neg hC, if_pos (by omega), eK0]) (by omega)
          · refine (cat_r (show 1 + pM _ _ _ 1 ≤ i by omega)).trans ?_
            refine (pc_eq c3).trans ?_
            unfold sbF
            rw [if_neg hC, if_neg (by omega), if_neg (by omega)]
            rw [eK1]
        · have g2' : (1000 : Int) < ((1 + pM (sS a b c) (isB a b c x y z) (isC a b c x y z) 1 : Nat) : Int) := U.le_f.mp g2
          exact sbR_big h0 hC (by unfold sbAll; omega)
        · have g2' : (1000 : Int) < ((1 + pM (sS a b c) (isB a b c x y z) (isC a b c x y z) 1 : Nat) : Int) := U.le_f.mp g2
          have g3' : ((1 + pM (sS a b c) (isB a b c x y z) (isC a b c x y z) 1 : Nat) : Int) ≤ 1000 := U.gt_f.mp g3
          omega
        · have g2' : (1000 : Int) < ((1 + pM (sS a b c) (isB a b c x y z) (isC a b c x y z) 1 : Nat) : Int) := U.gt_t.mp g2
          exact sbR_big h0 hC (by unfold sbAll; omega)
        · have g2' : ((1 + pM (sS a b c) (isB a b c x y z) (isC a b c x y z) 1 : Nat) : Int) ≤ 1000 := U.gt_f.mp g2
          have n1 := hN1.2 (U.gt_f.mp g1)
          have hJ : pM (sS a b c) (isB a b c x y z) (isC a b c x y z) 1 = sbM a b c x y z := by omega
          refine sbR_ok h0 hC (by unfold sbAll; omega) (show 1 + pM _ _ _ 1 = _ by unfold sbAll; omega) fun i hi => ?_
          have hi' : i < 1 + pM (sS a b c) (isB a b c x y z) (isC a b c x y z) 1 := hi
          exact hF 1 _ i hN0'.symm (fun i hi => by
              obtain rfl : i = 0 := by omega
              refine (pc_eq c3).trans ?_
              unfold sbF
              rw [if_neg hC, if_pos (by omega), eK0]) (by omega)
      · have hk : k0 ≤ 0 := U.gt_f.mp hk
        have hN0' := hN0.2 hk
        have al' : U.gt k1 0 = true → _ := fun g1 => by
          have g1' : 0 < k1 := U.gt_t.mp g1
          exact al (by omega) (by omega) (by omega) (by rw [eS, m1]; omega)
        refine ⟨⟨pre _ _ (by omega), (by first | trivial | rfl)⟩, ad, aS, ad, hs0, fun g1 => ⟨fun g2 => ⟨(al' g1).1, (al' g1).2, ?_, fun g3 => ?_, fun g3 => ?_⟩, fun g2 => ⟨fun g3 => ?_, fun g3 => ?_⟩⟩, fun g1 => ⟨fun g2 => ?_, fun g2 => ?_⟩⟩
        · show (0 + pM _ _ _ 0 + 1) * 24 ≤ 140737488351232
          omega
        · have g3' : (1000 : Int) < ((0 + pM (sS a b c) (isB a b c x y z) (isC a b c x y z) 0 + 1 : Nat) : Int) := U.gt_t.mp g3
          have g2' : ((0 + pM (sS a b c) (isB a b c x y z) (isC a b c x y z) 0 : Nat) : Int) ≤ 1000 := U.le_t.mp g2
          have n1 := hN1.1 (U.gt_t.mp g1)
          exact sbR_big h0 hC (by unfold sbAll; omega)
        · have g3' : ((0 + pM (sS a b c) (isB a b c x y z) (isC a b c x y z) 0 + 1 : Nat) : Int) ≤ 1000 := U.gt_f.mp g3
          have n1 := hN1.1 (U.gt_t.mp g1)
          have hJ : pM (sS a b c) (isB a b c x y z) (isC a b c x y z) 0 = sbM a b c x y z := by omega
          refine sbR_ok h0 hC (by unfold sbAll; omega) (show 0 + pM _ _ _ 0 + 1 = _ by unfold sbAll; omega) fun i hi => ?_
          have hi' : i < 0 + pM (sS a b c) (isB a b c x y z) (isC a b c x y z) 0 + 1 := hi
          by_cases hlt : i < 0 + pM (sS a b c) (isB a b c x y z) (isC a b c x y z) 0
          · refine (cat_l hlt).trans ?_
            exact hF 0 _ i hN0'.symm (fun i hi => by omega) (by omega)
          · refine (cat_r (show 0 + pM _ _ _ 0 ≤ i by omega)).trans ?_
            refine (pc_eq c3).trans ?_
            unfold sbF
            rw [if_neg hC, if_neg (by omega), if_neg (by omega)]
            rw [eK1]
        · have g2' : (1000 : Int) < ((0 + pM (sS a b c) (isB a b c x y z) (isC a b c x y z) 0 : Nat) : Int) := U.le_f.mp g2
          exact sbR_big h0 hC (by unfold sbAll; omega)
        · have g2' : (1000 : Int) < ((0 + pM (sS a b c) (isB a b c x y z) (isC a b c x y z) 0 : Nat) : Int) := U.le_f.mp g2
          have g3' : ((0 + pM (sS a b c) (isB a b c x y z) (isC a b c x y z) 0 : Nat) : Int) ≤ 1000 := U.gt_f.mp g3
          omega
        · have g2' : (1000 : Int) < ((0 + pM (sS a b c) (isB a b c x y z) (isC a b c x y z) 0 : Nat) : Int) := U.gt_t.mp g2
          exact sbR_big h0 hC (by unfold sbAll; omega)
        · have g2' : ((0 + pM (sS a b c) (isB a b c x y z) (isC a b c x y z) 0 : Nat) : Int) ≤ 1000 := U.gt_f.mp g2
          have n1 := hN1.2 (U.gt_f.mp g1)
          have hJ : pM (sS a b c) (isB a b c x y z) (isC a b c x y z) 0 = sbM a b c x y z := by omega
          refine sbR_ok h0 hC (by unfold sbAll; omega) (show 0 + pM _ _ _ 0 = _ by unfold sbAll; omega) fun i hi => ?_
          have hi' : i < 0 + pM (sS a b c) (isB a b c x y z) (isC a b c x y z) 0 := hi
          exact hF 0 _ i hN0'.symm (fun i hi => by omega) (by omega)
  · exact h.elim
end Go.RX.Span

/- Subtract of the reference: the walk. -/
set_option linter.unusedVariables false
set_option linter.unusedSimpArgs false
set_option maxRecDepth 100000
namespace Go.RX.Span
open Go Go.RX
attribute [local irreducible] sx conB

theorem pc_rn {f s n c : Int} (hs : 1 ≤ s) (hn : 1 ≤ n) (h1 : -1000000 ≤ f) (h2 : f + s * (n - 1) ≤ 1000000) : (rnL f (f + s * (n - 1)) s (decide (c < 0)), rnH f (f + s * (n - 1)) s (decide (c < 0)), rnS f (f + s * (n - 1)) s (decide (c < 0)), ()) = pc f s n c := by
  have m0 := mulle (x := 0) (y := n - 1) hs (by omega)
  rw [Int.mul_zero] at m0
  have e0 : mvE f s n = 0 := by unfold mvE; rw [if_neg (by omega), if_pos (by omega)]
  obtain ⟨q1, q2, q3⟩ := rn_mv (c := c) hs hn e0 _ rfl
  rw [q1, q2, q3]
  rfl
theorem pc_self {a b c : Int} (h : Right a b c) (hab : a ≤ b) : pc (sA a b c) (sS a b c) (ofC a b c) c = (a, b, c, ()) := by
  obtain ⟨p1, p2, p3, p4, p5, p6, p7, p8, p9, p10⟩ := parts h hab
  obtain ⟨u1, u2⟩ := up_of h hab
  have hl := h.1
  have e1 : sA a b c = a := u1
  have e2 : sS a b c = absI c := u2
  unfold pc
  rw [e1, e2]
  have n1 : ¬ ofC a b c ≤ 0 := by omega
  have e0 : mvE a (absI c) (ofC a b c) = 0 := by unfold mvE; rw [if_neg n1, if_pos (by omega)]
  simp only [mvLow, mvHigh, mvStr, e0, if_neg n1, if_true]
  rw [p5]
  have hb : a + (b - a) = b := by omega
  rw [hb]
  by_cases hC : ofC a b c = 1
  · rw [if_pos hC]
    rw [hC, Int.sub_self, Int.mul_zero] at p5
    rw [p10 (by omega)]
    rfl
  · rw [if_neg hC]
    by_cases hc : c < 0
    · rw [if_pos hc, absI_neg hc, Int.neg_neg]; rfl
    · rw [if_neg hc, absI_pos hc]; rfl
theorem rn_yes {l h t : Int} {d : Bool} (hl : h < l) : isE (rnL l h t d) (rnH l h t d) (rnS l h t d) = true := by
  rw [isE_t]
  unfold rnL rnH rnS
  rw [if_pos (by omega), if_pos (by omega), if_pos (by omega)]
  exact ⟨rfl, rfl, rfl⟩
theorem rn_iff {l h t : Int} {d : Bool} : (isE (rnL l h t d) (rnH l h t d) (rnS l h t d) = true) ↔ h < l := by
  constructor
  · intro he
    rcases Int.lt_or_le h l with h' | h'
    · exact h'
    · rw [rn_not h'] at he; cases he
  · exact rn_yes
theorem rn_iff' {l h t : Int} {d : Bool} : (isE (rnL l h t d) (rnH l h t d) (rnS l h t d) = false) ↔ l ≤ h := by
  constructor
  · intro he
    rcases Int.lt_or_le h l with h' | h'
    · rw [rn_yes h'] at he; cases he
    · exact h'
  · exact rn_not
/-- The common range as a series. -/
theorem is_ser {a b c x y z : Int} (h : Right a b c) (h' : Right x y z) (hC : isC a b c x y z ≠ 0) : isL a b c x y z = isF a b c x y z ∧ isH a b c x y z = sbL a b c x y z ∧ (1 < isC a b c x y z → absI (isS a b c x y z) = isB a b c x y z) ∧ I64 (-isS a b c x y z) ∧ isE (isL a b c x y z) (isH a b c x y z) (isS a b c x y z) = false := by
  have hn : ¬ ckd a b c x y z ≠ 0 := by simp [ckd_zero h h']
  obtain ⟨c1, c2, c3, c4, c5⟩ := ((is_sw h h').1).resolve_left hC
  have m0 := mulle (x := 0) (y := isC a b c x y z - 1) c2 (by omega)
  rw [Int.mul_zero] at m0
  obtain ⟨q1, q2, q3, q4⟩ := nrm_like (f := isF a b c x y z) (s := isB a b c x y z) (C := isC a b c x y z) (c := c) c2
  have n1 : ¬ isC a b c x y z ≤ 0 := by omega
  have e0 : mvE (isF a b c x y z) (isB a b c x y z) (isC a b c x y z) = 0 := by unfold mvE; rw [if_neg n1, if_pos (by omega)]
  have e1 : isL a b c x y z = isF a b c x y z := by simp only [isL, if_neg hn]; rw [q2]; simp only [mvLow, e0, if_neg n1, if_true]
  have e2 : isH a b c x y z = sbL a b c x y z := by simp only [isH, if_neg hn]; rw [q3]; simp only [mvHigh, e0, if_neg n1, if_true]; rfl
  have e3 : isS a b c x y z = if isC a b c x y z = 1 then 1 else if c < 0 then -isB a b c x y z else isB a b c x y z := by simp only [isS, if_neg hn]; rw [q4]; simp only [mvStr, e0, if_neg n1, if_true]
  refine ⟨e1, e2, fun h1 => ?_, ?_, ?_⟩
  · rw [e3, if_neg (by omega)]
    by_cases hc : c < 0
    · rw [if_pos hc, absI_neg (by omega)]; omega
    · rw [if_neg hc, absI_pos (by omega)]
  · rw [e3]; unfold I64; split <;> (try split) <;> omega
  · rw [isE_f, e1, e2]
    unfold sbL
    omega
theorem right_of_c {c : Int} (h : I64 c) (h0 : -9223372036854775808 < c) : I64 (-c) := by unfold I64 at *; omega
set_option maxHeartbeats 4000000 in
theorem rSubtract_ok : ConOK P 53 c_Subtract := con_cl (allOKL mixed kt_ok l53_ok) 10 53 fun args r h => by
  unfold c_Subtract at h
  split at h
  · rename_i a b c x y z
    have hp := (T.is_ask h).1
    have h := (T.is_ask h).2
    obtain rfl := T.is_ret h
    rw [t_rSubtract]
    have ed : U.lt c 0 = decide (c < 0) := U.lt_eq c 0
    simp only [lk_eq, ed]
    refine T.all_mono (K := fun s => Cl s (sbR a b c x y z)) (fun s hs => hs) ?_
    refine ⟨hp, fun h => ?_, fun h => ?_⟩
    · have h : isEr a b c x y z ≠ 0 := U.ne_t.mp h
      by_cases hk : ckd a b c x y z ≠ 0
      · have e : isEr a b c x y z = ckd a b c x y z := by unfold isEr; rw [if_pos hk]
        rw [e]
        exact sbR_err hk
      · obtain ⟨r1, r2⟩ := ckd_right (show ckd a b c x y z = 0 by simpa using hk)
        exact absurd (is_set r1 r2).1 h
    have h : isEr a b c x y z = 0 := U.ne_f.mp h
    have hk0 : ckd a b c x y z = 0 := Classical.byContradiction fun hk => by
      have e : isEr a b c x y z = ckd a b c x y z := by unfold isEr; rw [if_pos hk]
      rw [e] at h
      exact hk h
    have h0 : ¬ ckd a b c x y z ≠ 0 := by simp [hk0]
    obtain ⟨r1, r2⟩ := ckd_right hk0
    have hsw := (is_sw r1 r2).1
    have hser := up_ser r1
    have hla := r1.1
    have rc := right_c r1
    by_cases hC : isC a b c x y z = 0
    · obtain ⟨z1, z2, z3⟩ := is_zero r1 r2 hC
      rw [z1, z2, z3]
      refine ⟨fun _ => ⟨fun he => ?_, fun he => ⟨by decide, ?_⟩⟩, fun h => absurd h (by decide)⟩
      · have hab := (isE_iff r1).1 he
        have e := (empty_of (c := c) hab).2.2
        exact ⟨cl_row' (by unfold sbN; rw [if_neg h0, if_pos hC, if_neg (by omega)]) (fun i hi => absurd hi (by omega)), cl_lit (by unfold sbE; rw [if_neg h0, if_pos hC]), rfl⟩
      · have hab : a ≤ b := Classical.byContradiction fun h => by rw [(isE_iff r1).2 h] at he; cases he
        have := (parts r1 hab).2.2.1
        exact sbR_whole h0 hC (by omega) ((cat_r (Nat.le_refl 0)).trans (pc_self r1 hab).symm)
    · obtain ⟨i1, i2, i3, i4, i5⟩ := is_ser r1 r2 hC
      obtain ⟨hab, hxy, eA, eS, s1, s2, eT, C1, C2, B1, B2, lo, hi, FL, k0, k1, k0n, k1n, k0b, k1b, eF, eb, eK0, eK1, hm⟩ := sb_facts r1 r2 hC
      have eL : sbL a b c x y z = isF a b c x y z + isB a b c x y z * (isC a b c x y z - 1) := rfl
      have p0 := mulle (s := absI c) (x := 0) (y := k0) s1 k0n
      have p1 := mulle (s := absI c) (x := 0) (y := k1) s1 k1n
      have pB := mulle (s := isB a b c x y z) (x := 0) (y := isC a b c x y z - 1) B1 (by omega)
      rw [Int.mul_zero] at p0 p1 pB
      have hs0 : absI c ≠ 0 := by omega
      have negc : I64 (-absI c) := by unfold I64; omega
      have negS := i4
      have m0 : absI c * (k0 - 1) = absI c * k0 - absI c := by rw [Int.mul_sub, Int.mul_one]
      have m1 : absI c * (k1 - 1) = absI c * k1 - absI c := by rw [Int.mul_sub, Int.mul_one]
      have eU0 : U.sub .i64 (isL a b c x y z) (absI c) = isL a b c x y z - absI c := U.sub64 (by unfold I64; omega)
      have eU1 : U.add .i64 (isH a b c x y z) (absI c) = isH a b c x y z + absI c := U.add64 (by unfold I64; omega)
      have hCC : isL a b c x y z < isH a b c x y z ↔ 1 < isC a b c x y z := by
        rw [i1, i2, eL]
        constructor
        · intro hlt
          rcases Int.lt_or_le 1 (isC a b c x y z) with h | h
          · exact h
          · rw [show isC a b c x y z - 1 = 0 by omega, Int.mul_zero] at hlt; omega
        · intro h1
          have := mulle (s := isB a b c x y z) (x := 1) (y := isC a b c x y z - 1) B1 (by omega)
          omega
      have hN1 : (0 < k1 → sbN1 a b c x y z = 1) ∧ (k1 ≤ 0 → sbN1 a b c x y z = 0) := by
        unfold sbN1
        rw [eT]
        constructor
        · intro hk
          have := mulle (s := absI c) (x := 1) (y := k1) s1 (by omega)
          rw [if_pos (by omega)]
        · intro hk
          obtain rfl : k1 = 0 := by omega
          rw [if_neg (by rw [Int.mul_zero] at eb; omega)]
      have hN0 : (0 < k0 → sbN0 a b c x y z = 1) ∧ (k0 ≤ 0 → sbN0 a b c x y z = 0) := by
        unfold sbN0
        rw [eA]
        constructor
        · intro hk
          have := mulle (s := absI c) (x := 1) (y := k0) s1 (by omega)
          rw [if_pos (by omega)]
        · intro hk
          obtain rfl : k0 = 0 := by omega
          rw [if_neg (by rw [Int.mul_zero] at eF; omega)]
      have hE1 : (isE (rnL (isH a b c x y z + absI c) b (absI c) (decide (c < 0))) (rnH (isH a b c x y z + absI c) b (absI c) (decide (c < 0))) (rnS (isH a b c x y z + absI c) b (absI c) (decide (c < 0))) = true → k1 ≤ 0) ∧
          (isE (rnL (isH a b c x y z + absI c) b (absI c) (decide (c < 0))) (rnH (isH a b c x y z + absI c) b (absI c) (decide (c < 0))) (rnS (isH a b c x y z + absI c) b (absI c) (decide (c < 0))) = false → 0 < k1) := by
        constructor
        · intro he
          have := rn_iff.1 he
          rcases Int.lt_or_le 0 k1 with hk | hk
          · have := mulle (s := absI c) (x := 1) (y := k1) s1 (by omega); omega
          · exact hk
        · intro he
          have := rn_iff'.1 he
          rcases Int.lt_or_le 0 k1 with hk | hk
          · exact hk
          · obtain rfl : k1 = 0 := by omega
            rw [Int.mul_zero] at eb; omega
      have hM0 : ¬ 1 < isC a b c x y z → sbM a b c x y z = 0 := fun h => by unfold sbM; rw [if_neg h]
      have hMM : 1 < isC a b c x y z → rM (absI c) (absI (isS a b c x y z)) = sbM a b c x y z := fun h => by
        unfold sbM rM; rw [if_pos h, i3 h, eS]
      have hMm : 1 < isC a b c x y z → ∃ m : Int, 1 ≤ m ∧ m ≤ 2000000 ∧ isB a b c x y z = absI c * m ∧ isB a b c x y z ≤ 2000000 ∧ (sbM a b c x y z : Int) = m - 1 ∧ U.quo .i64 (absI (isS a b c x y z)) (absI c) = m := fun h => by
        obtain ⟨m, q1, q2, q3, q4, q5⟩ := hm h
        have e : (isB a b c x y z).tdiv (absI c) = m := by rw [← eS]; exact q4
        refine ⟨m, q1, q2, q3, q5, ?_, ?_⟩
        · unfold sbM; rw [if_pos h, q4]; omega
        · rw [i3 h, U.quo64 (by rw [e]; unfold I64; omega), e]
      have hbig : 1 < isC a b c x y z → U.gt (U.quo .i64 (absI (isS a b c x y z)) (absI c)) 1002 = true → 1002 ≤ sbM a b c x y z := fun h1 hq => by
        obtain ⟨m, _, _, _, _, q5, q6⟩ := hMm h1
        rw [q6] at hq
        have := U.gt_t.mp hq
        omega
      have hsm : 1 < isC a b c x y z → U.gt (U.quo .i64 (absI (isS a b c x y z)) (absI c)) 1002 = false → sbM a b c x y z ≤ 1001 := fun h1 hq => by
        obtain ⟨m, _, _, _, _, q5, q6⟩ := hMm h1
        rw [q6] at hq
        have := U.gt_f.mp hq
        omega
      have hpre : ∀ n, n ≤ 1 → 1 < isC a b c x y z → U.gt (U.quo .i64 (absI (isS a b c x y z)) (absI c)) 1002 = false → PreR 0 (isL a b c x y z) (isH a b c x y z) (absI c) (absI (isS a b c x y z)) n := fun n hn h1 hq => by
        have hs := hsm h1 hq
        obtain ⟨m, q1, q2, q3, q4, _⟩ := hMm h1
        have hBD := mulle (s := isB a b c x y z) (x := 1) (y := isC a b c x y z - 1) B1 (by omega)
        have e := i3 h1
        refine ⟨rfl, s1, s2, by omega, by omega, by omega, ⟨m, by rw [e]; exact q3⟩, by omega, by omega, hn, by rw [hMM h1]; omega⟩
      have hIn : 1 < isC a b c x y z → ∀ i : Nat, i < sbM a b c x y z → rpc (isL a b c x y z) (isH a b c x y z) (absI c) (absI (isS a b c x y z)) (decide (c < 0)) i = sbIn a b c x y z i := fun h1 i hi => by
        obtain ⟨m, q1, q2, q3, q4, q5, q6⟩ := hMm h1
        have lt1 := mulle (s := absI c) (x := (i : Int) + 1) (y := m) s1 (by omega)
        have lt2 := mulle (s := absI c) (x := (i : Int) + 1 + 1) (y := m) s1 (by omega)
        have ge0 := mulle (s := absI c) (x := 1) (y := (i : Int) + 1) s1 (by omega)
        rw [Int.mul_add (absI c) ((i : Int) + 1) 1, Int.mul_one] at lt2
        rw [Int.mul_one] at ge0
        have hBD := mulle (s := isB a b c x y z) (x := 1) (y := isC a b c x y z - 1) B1 (by omega)
        have e2 : isB a b c x y z * (isC a b c x y z - 1 - 1) = isB a b c x y z * (isC a b c x y z - 1) - isB a b c x y z := by rw [Int.mul_sub (isB a b c x y z) (isC a b c x y z - 1) 1, Int.mul_one]
        have eup : upT (isL a b c x y z + absI c * ((i : Int) + 1)) (isH a b c x y z) (isB a b c x y z) = isF a b c x y z + absI c * ((i : Int) + 1) + isB a b c x y z * (isC a b c x y z - 1 - 1) := by
          unfold upT
          rw [i1, i2, if_neg (by omega)]
          have t1 := Int.tdiv_eq_ediv_of_nonneg (b := isB a b c x y z) (show 0 ≤ sbL a b c x y z - (isF a b c x y z + absI c * ((i : Int) + 1)) by omega)
          have t2 : (sbL a b c x y z - (isF a b c x y z + absI c * ((i : Int) + 1))) / isB a b c x y z = isC a b c x y z - 1 - 1 := by
            rw [show sbL a b c x y z - (isF a b c x y z + absI c * ((i : Int) + 1)) = (isB a b c x y z - absI c * ((i : Int) + 1)) + isB a b c x y z * (isC a b c x y z - 1 - 1) by omega, Int.add_mul_ediv_left _ _ (by omega), Int.ediv_eq_zero_of_lt (by omega) (by omega)]
            omega
          rw [t1, t2, Int.mul_comm (isC a b c x y z - 1 - 1)]
        unfold rpc sbIn
        rw [i3 h1, Int.mul_comm ((i : Int) + 1) (absI c), eup, i1, eS]
        exact pc_rn B1 (by omega) (by omega) (by omega)
      have hL1 : 0 < k1 → (rnL (isH a b c x y z + absI c) b (absI c) (decide (c < 0)), rnH (isH a b c x y z + absI c) b (absI c) (decide (c < 0)), rnS (isH a b c x y z + absI c) b (absI c) (decide (c < 0)), ()) = pc (sbL a b c x y z + absI c) (absI c) k1 c := fun hk => by
        rw [i2]
        have e : b = sbL a b c x y z + absI c + absI c * (k1 - 1) := by omega
        have := pc_rn (f := sbL a b c x y z + absI c) (s := absI c) (n := k1) (c := c) s1 (by omega) (by omega) (by omega)
        rw [← e] at this
        exact this
      have hL0 : 0 < k0 → (rnL a (isL a b c x y z - absI c) (absI c) (decide (c < 0)), rnH a (isL a b c x y z - absI c) (absI c) (decide (c < 0)), rnS a (isL a b c x y z - absI c) (absI c) (decide (c < 0)), ()) = pc a (absI c) k0 c := fun hk => by
        have e : isL a b c x y z - absI c = a + absI c * (k0 - 1) := by omega
        rw [e]
        exact pc_rn s1 (by omega) (by omega) (by omega)
      simp only [eU0, eU1, i5]
      refine ⟨fun h => (by cases h), fun _ => ⟨right_of_c (by unfold I64; omega) (by omega), fun _ _ => negc, fun he => ?_, fun he => ⟨by decide, ?_⟩⟩⟩
      · have hk : k0 ≤ 0 := by
          have := rn_iff.1 he
          rcases Int.lt_or_le 0 k0 with hk | hk
          · have := mulle (s := absI c) (x := 1) (y := k0) s1 (by omega); omega
          · exact hk
        have hN0' := hN0.2 hk
        have hR : ∀ (f : Nat → R3) (i : Nat), (∀ i, i < 0 → f i = sbF a b c x y z i) → 1 < isC a b c x y z → i < 0 + sbM a b c x y z → rpF (isL a b c x y z) (isH a b c x y z) (absI c) (absI (isS a b c x y z)) (decide (c < 0)) 0 f i = sbF a b c x y z i := fun f i hf h1 hi => by
          by_cases hlt : i < 0
          · exact (cat_l hlt).trans (hf i hlt)
          · refine (cat_r (by omega)).trans ((hIn h1 _ (by omega)).trans ?_)
            unfold sbF
            rw [if_neg hC, if_neg (by omega), if_pos (by omega), hN0']
        have hLa : ∀ i, 0 + sbM a b c x y z ≤ i → 0 < k1 → (rnL (isH a b c x y z + absI c) b (absI c) (decide (c < 0)), rnH (isH a b c x y z + absI c) b (absI c) (decide (c < 0)), rnS (isH a b c x y z + absI c) b (absI c) (decide (c < 0)), ()) = sbF a b c x y z i := fun i hi hk => by
          refine (hL1 hk).trans ?_
          unfold sbF
          rw [if_neg hC, if_neg (by omega), if_neg (by omega), eK1, eS]
        have hfp : ∀ i, i < 0 → ((fun _ => ((0 : Int), (0 : Int), (0 : Int), ()) : Nat → R3)) i = sbF a b c x y z i := fun i hi => by
          omega
        refine ⟨fun hlt => ⟨negS, hs0, fun hq => ?_, fun hq => ⟨⟨?_, (by first | trivial | rfl)⟩, fun _ _ => negc, fun he => ⟨fun g => ?_, fun g => ?_⟩, fun he => ⟨?_, fun g => ?_, fun g => ?_⟩⟩⟩, fun hlt => ⟨fun _ _ => negc, fun he => ⟨fun g => absurd (U.gt_t.mp g) (by decide), fun _ => ?_⟩, fun he => ⟨by decide, fun g => absurd (U.gt_t.mp g) (by decide), fun _ => ?_⟩⟩⟩
        · have h1 := hCC.1 (U.lt_t.mp hlt)
          exact sbR_big h0 hC (by have := hbig h1 hq; unfold sbAll; omega)
        · exact hpre 0 (by omega) (hCC.1 (U.lt_t.mp hlt)) hq
        · have h1 := hCC.1 (U.lt_t.mp hlt)
          have g' : (1000 : Int) < ((0 + rM (absI c) (absI (isS a b c x y z)) : Nat) : Int) := U.gt_t.mp g
          rw [hMM h1] at g'
          exact sbR_big h0 hC (by unfold sbAll; omega)
        · have h1 := hCC.1 (U.lt_t.mp hlt)
          have g' : ((0 + rM (absI c) (absI (isS a b c x y z)) : Nat) : Int) ≤ 1000 := U.gt_f.mp g
          rw [hMM h1] at g'
          have n1 := hN1.2 (hE1.1 he)
          refine sbR_ok h0 hC (by unfold sbAll; omega) (show 0 + rM _ _ = _ by rw [hMM h1]; unfold sbAll; omega) fun i hi => ?_
          have hi' : i < 0 + rM (absI c) (absI (isS a b c x y z)) := hi
          rw [hMM h1] at hi'
          exact hR _ i hfp h1 hi'
        · have h1 := hCC.1 (U.lt_t.mp hlt)
          show (0 + rM _ _ + 1) * 24 ≤ 140737488351232
          rw [hMM h1]
          have := hsm h1 hq
          omega
        · have h1 := hCC.1 (U.lt_t.mp hlt)
          have g' : (1000 : Int) < ((0 + rM (absI c) (absI (isS a b c x y z)) + 1 : Nat) : Int) := U.gt_t.mp g
          rw [hMM h1] at g'
          have n1 := hN1.1 (hE1.2 he)
          exact sbR_big h0 hC (by unfold sbAll; omega)
        · have h1 := hCC.1 (U.lt_t.mp hlt)
          have g' : ((0 + rM (absI c) (absI (isS a b c x y z)) + 1 : Nat) : Int) ≤ 1000 := U.gt_f.mp g
          rw [hMM h1] at g'
          have n1 := hN1.1 (hE1.2 he)
          refine sbR_ok h0 hC (by unfold sbAll; omega) (show 0 + rM _ _ + 1 = _ by rw [hMM h1]; unfold sbAll; omega) fun i hi => ?_
          have hi' : i < 0 + rM (absI c) (absI (isS a b c x y z)) + 1 := hi
          by_cases hl : i < 0 + rM (absI c) (absI (isS a b c x y z))
          · refine (cat_l hl).trans ?_
            rw [hMM h1] at hl
            exact hR _ i hfp h1 hl
          · refine (cat_r (show 0 + rM _ _ ≤ i by omega)).trans ?_
            rw [hMM h1] at hl
            exact hLa i (by omega) (hE1.2 he)
        · have h1 : ¬ 1 < isC a b c x y z := fun h => by have := hCC.2 h; have := U.lt_f.mp hlt; omega
          have hM := hM0 h1
          have n1 := hN1.2 (hE1.1 he)
          refine sbR_ok h0 hC (by unfold sbAll; omega) (show 0 = _ by unfold sbAll; omega) fun i hi => ?_
          exact hfp i hi
        · have h1 : ¬ 1 < isC a b c x y z := fun h => by have := hCC.2 h; have := U.lt_f.mp hlt; omega
          have hM := hM0 h1
          have n1 := hN1.1 (hE1.2 he)
          refine sbR_ok h0 hC (by unfold sbAll; omega) (show 0 + 1 = _ by unfold sbAll; omega) fun i hi => ?_
          have hi' : i < 0 + 1 := hi
          by_cases hl : i < 0
          · exact (cat_l hl).trans (hfp i hl)
          · refine (cat_r (show 0 ≤ i by omega)).trans (hLa i (by omega) (hE1.2 he))
      · have hk : 0 < k0 := by
          have := rn_iff'.1 he
          rcases Int.lt_or_le 0 k0 with hk | hk
          · exact hk
          · obtain rfl : k0 = 0 := by omega
            rw [Int.mul_zero] at eF; omega
        have hN0' := hN0.1 hk
        have hR : ∀ (f : Nat → R3) (i : Nat), (∀ i, i < 1 → f i = sbF a b c x y z i) → 1 < isC a b c x y z → i < 1 + sbM a b c x y z → rpF (isL a b c x y z) (isH a b c x y z) (absI c) (absI (isS a b c x y z)) (decide (c < 0)) 1 f i = sbF a b c x y z i := fun f i hf h1 hi => by
          by_cases hlt : i < 1
          · exact (cat_l hlt).trans (hf i hlt)
          · refine (cat_r (by omega)).trans ((hIn h1 _ (by omega)).trans ?_)
            unfold sbF
            rw [if_neg hC, if_neg (by omega), if_pos (by omega), hN0']
        have hLa : ∀ i, 1 + sbM a b c x y z ≤ i → 0 < k1 → (rnL (isH a b c x y z + absI c) b (absI c) (decide (c < 0)), rnH (isH a b c x y z + absI c) b (absI c) (decide (c < 0)), rnS (isH a b c x y z + absI c) b (absI c) (decide (c < 0)), ()) = sbF a b c x y z i := fun i hi hk => by
          refine (hL1 hk).trans ?_
          unfold sbF
          rw [if_neg hC, if_neg (by omega), if_neg (by omega), eK1, eS]
        have hfp : ∀ i, i < 1 → ((U.cat 0 (fun _ => ((0 : Int), (0 : Int), (0 : Int), ())) (fun _ => (rnL a (isL a b c x y z - absI c) (absI c) (decide (c < 0)), rnH a (isL a b c x y z - absI c) (absI c) (decide (c < 0)), rnS a (isL a b c x y z - absI c) (absI c) (decide (c < 0)), ())) : Nat → R3)) i = sbF a b c x y z i := fun i hi => by
          obtain rfl : i = 0 := by omega
          refine (cat_r (Nat.le_refl 0)).trans ((hL0 hk).trans ?_)
          unfold sbF
          rw [if_neg hC, if_pos (by omega), eK0, eA, eS]
        refine ⟨fun hlt => ⟨negS, hs0, fun hq => ?_, fun hq => ⟨⟨?_, (by first | trivial | rfl)⟩, fun _ _ => negc, fun he => ⟨fun g => ?_, fun g => ?_⟩, fun he => ⟨?_, fun g => ?_, fun g => ?_⟩⟩⟩, fun hlt => ⟨fun _ _ => negc, fun he => ⟨fun g => absurd (U.gt_t.mp g) (by decide), fun _ => ?_⟩, fun he => ⟨by decide, fun g => absurd (U.gt_t.mp g) (by decide), fun _ => ?_⟩⟩⟩
        · have h1 := hCC.1 (U.lt_t.mp hlt)
          exact sbR_big h0 hC (by have := hbig h1 hq; unfold sbAll; omega)
        · exact hpre 1 (by omega) (hCC.1 (U.lt_t.mp hlt)) hq
        · have h1 := hCC.1 (U.lt_t.mp hlt)
          have g' : (1000 : Int) < ((1 + rM (absI c) (absI (isS a b c x y z)) : Nat) : Int) := U.gt_t.mp g
          rw [hMM h1] at g'
          exact sbR_big h0 hC (by unfold sbAll; omega)
        · have h1 := hCC.1 (U.lt_t.mp hlt)
          have g' : ((1 + rM (absI c) (absI (isS a b c x y z)) : Nat) : Int) ≤ 1000 := U.gt_f.mp g
          rw [hMM h1] at g'
          have n1 := hN1.2 (hE1.1 he)
          refine sbR_ok h0 hC (by unfold sbAll; omega) (show 1 + rM _ _ = _ by rw [hMM h1]; unfold sbAll; omega) fun i hi => ?_
          have hi' : i < 1 + rM (absI c) (absI (isS a b c x y z)) := hi
          rw [hMM h1] at hi'
          exact hR _ i hfp h1 hi'
        · have h1 := hCC.1 (U.lt_t.mp hlt)
          show (1 + rM _ _ + 1) * 24 ≤ 140737488351232
          rw [hMM h1]
          have := hsm h1 hq
          omega
        · have h1 := hCC.1 (U.lt_t.mp hlt)
          have g' : (1000 : Int) < ((1 + rM (absI c) (absI (isS a b c x y z)) + 1 : Nat) : Int) := U.gt_t.mp g
          rw [hMM h1] at g'
          have n1 := hN1.1 (hE1.2 he)
          exact sbR_big h0 hC (by unfold sbAll; omega)
        · have h1 := hCC.1 (U.lt_t.mp hlt)
          have g' : ((1 + rM (absI c) (absI (isS a b c x y z)) + 1 : Nat) : Int) ≤ 1000 := U.gt_f.mp g
          rw [hMM h1] at g'
          have n1 := hN1.1 (hE1.2 he)
          refine sbR_ok h0 hC (by unfold sbAll; omega) (show 1 + rM _ _ + 1 = _ by rw [hMM h1]; unfold sbAll; omega) fun i hi => ?_
          have hi' : i < 1 + rM (absI c) (absI (isS a b c x y z)) + 1 := hi
          by_cases hl : i < 1 + rM (absI c) (absI (isS a b c x y z))
          · refine (cat_l hl).trans ?_
            rw [hMM h1] at hl
            exact hR _ i hfp h1 hl
          · refine (cat_r (show 1 + rM _ _ ≤ i by omega)).trans ?_
            rw [hMM h1] at hl
            exact hLa i (by omega) (hE1.2 he)
        · have h1 : ¬ 1 < isC a b c x y z := fun h => by have := hCC.2 h; have := U.lt_f.mp hlt; omega
          have hM := hM0 h1
          have n1 := hN1.2 (hE1.1 he)
          refine sbR_ok h0 hC (by unfold sbAll; omega) (show 1 = _ by unfold sbAll; omega) fun i hi => ?_
          exact hfp i hi
        · have h1 : ¬ 1 < isC a b c x y z := fun h => by have := hCC.2 h; have := U.lt_f.mp hlt; omega
          have hM := hM0 h1
          have n1 := hN1.1 (hE1.2 he)
          refine sbR_ok h0 hC (by unfold sbAll; omega) (show 1 + 1 = _ by unfold sbAll; omega) fun i hi => ?_
          have hi' : i < 1 + 1 := hi
          by_cases hl : i < 1
          · exact (cat_l hl).trans (hfp i hl)
          · refine (cat_r (show 1 ≤ i by omega)).trans (hLa i (by omega) (hE1.2 he))
  · exact h.elim
end Go.RX.Span

/- The library's slices.Equal of ranges: the walks. -/
set_option linter.unusedVariables false
set_option linter.unusedSimpArgs false
set_option maxRecDepth 100000
namespace Go.RX.Span
open Go Go.RX

set_option maxRecDepth 100000 in
theorem t_G (n0 n n1 : Nat) (f f1 : Nat → Els [.int .i64, .int .i64, .int .i64]) (len i : Int) : (sx E0 [] n0 (loopOf P 56 4) (mkS 26 [0, 1, 4, 12, 13] [.row [.int .i64, .int .i64, .int .i64] n f, .row [.int .i64, .int .i64, .int .i64] n1 f1, .any, .lit (.int .i64 len), .lit (.int .i64 i)], [])).bind (proj 26 [0, 1, 4, 12, 13]) =
    T.br (U.lt i len) (T.ask ((0 : Int) ≤ i ∧ i < ↑n) (T.ask ((0 : Int) ≤ i ∧ i < ↑n1) (T.br (U.not (U.andb (U.eq (f (U.toNat i)).1 (f1 (U.toNat i)).1) (U.andb (U.eq (f (U.toNat
      i)).snd.1 (f1 (U.toNat i)).snd.1) (U.eq (f (U.toNat i)).snd.snd.1 (f1 (U.toNat i)).snd.snd.1)))) (T.ret (Ex.ret, [SV.row [Sh.int IntKind.i64, Sh.int IntKind.i64, Sh.int IntKind.i64]
      n f, SV.row [Sh.int IntKind.i64, Sh.int IntKind.i64, Sh.int IntKind.i64] n1 f1, SV.kb false, SV.lit (Value.int IntKind.i64 len), SV.lit (Value.int IntKind.i64 i)], [])) (T.ret
      (Ex.normal, [SV.row [Sh.int IntKind.i64, Sh.int IntKind.i64, Sh.int IntKind.i64] n f, SV.row [Sh.int IntKind.i64, Sh.int IntKind.i64, Sh.int IntKind.i64] n1 f1, SV.any, SV.lit
      (Value.int IntKind.i64 len), SV.lit (Value.int IntKind.i64 (U.add IntKind.i64 i (1 : Int)))], []))))) (T.ret (Ex.exit (nat_lit 0), [SV.row [Sh.int IntKind.i64, Sh.int IntKind.i64,
      Sh.int IntKind.i64] n f, SV.row [Sh.int IntKind.i64, Sh.int IntKind.i64, Sh.int IntKind.i64] n1 f1, SV.any, SV.lit (Value.int IntKind.i64 len), SV.lit (Value.int IntKind.i64 i)],
      [])) := by kernel_rfl
theorem roundG (n0 : Nat) (x : XG) (hx : PhiG n0 x) : ((sx E0 [] n0 (loopOf P 56 4) (mkS 26 [0, 1, 4, 12, 13] (VG x).1, (VG x).2)).bind (proj 26 [0, 1, 4, 12, 13])).All fun r => match r.1 with
      | .normal => ∃ x', PhiG n0 x' ∧ x'.n - x'.k < x.n - x.k ∧ Wk 26 [0, 1, 4, 12, 13] n0 r.2 (VG x') ∧ ∀ o, ZG x' o → ZG x o
      | e => ∃ s, ZG x (e, s) ∧ Wk 26 [0, 1, 4, 12, 13] n0 r.2 s := by
  obtain ⟨n, n1, f, f1, len, k⟩ := x
  unfold VG
  dsimp only
  refine T.all_of_eq (t_G n0 n n1 f f1 len k) ?_
  obtain ⟨⟨h0, e1, e2, ht⟩, hk, hall⟩ := hx
  simp only [] at h0 e1 e2 ht hk hall
  subst h0; subst e1
  simp only [top] at ht
  have w0 : ∀ {vs vs' : List SV}, RlL (idR 0) vs vs' → Wk 26 [0, 1, 4, 12, 13] 0 (vs, []) (vs', []) := fun h => wk_of (idR 0) rfl (Nat.zero_le _) (fun b hb => by omega) h trivial
  by_cases hlt : k < n
  · have hadd : U.add .i64 (k : Int) 1 = ((k + 1 : Nat) : Int) := by rw [U.add64 (by unfold I64; omega)]; omega
    simp only [T.All, U.le_t, U.le_f, U.lt_t, U.lt_f, U.gt_t, U.gt_f, U.ge_t, U.ge_f, U.eq_t, U.eq_f, U.ne_t, U.ne_f, U.not_t, U.not_f, U.andb_t, U.andb_f, SV.lit.injEq, SV.agg.injEq, SV.tup.injEq, List.cons.injEq, Value.int.injEq, Value.bool.injEq, true_and, and_true, lk_eq, U.toNat_eq, Int.toNat_natCast]
    refine ⟨fun _ => ⟨⟨by omega, by omega⟩, ⟨by omega, by omega⟩, fun hne => ⟨OG'.2, ⟨fun he => absurd ((eqR3_t.1 he).2 k hlt) (fun s => Bool.noConfusion ((hne (Eq.mpr U.eq_t s.1) (Eq.mpr U.eq_t s.2.1)).symm.trans (Eq.mpr U.eq_t s.2.2))), fun _ => rfl⟩, w0 ⟨trivial, trivial, rfl, trivial, trivial, trivial⟩⟩, fun heq => ?_⟩, fun h => absurd h (by omega)⟩
    refine ⟨⟨n, n, f, f1, len, k + 1⟩, ⟨⟨rfl, rfl, e2, ht⟩, hlt, fun i hi => ?_⟩, by simp only []; omega, w0 ⟨⟨rfl, sameRow_refl _ _⟩, ⟨rfl, sameRow_refl _ _⟩, trivial, rfl, by rw [hadd]; rfl, trivial⟩, fun o ho => ho⟩
    by_cases h : i = k
    · subst h; exact ⟨Eq.mp U.eq_t heq.1, Eq.mp U.eq_t heq.2.1, Eq.mp U.eq_t heq.2.2⟩
    · have hi' : i < k + 1 := hi
      exact hall i (by omega)
  · have : (k : Int) = n := by omega
    have hkn : k = n := by omega
    simp only [T.All, U.le_t, U.le_f, U.lt_t, U.lt_f, U.gt_t, U.gt_f, U.ge_t, U.ge_f, U.eq_t, U.eq_f, U.ne_t, U.ne_f, U.not_t, U.not_f, U.andb_t, U.andb_f, SV.lit.injEq, SV.agg.injEq, SV.tup.injEq, List.cons.injEq, Value.int.injEq, Value.bool.injEq, true_and, and_true, lk_eq]
    refine ⟨fun h => absurd h (by omega), fun _ => ⟨(OG ⟨n, n, f, f1, len, k⟩).2, ⟨fun _ => rfl, fun he => ?_⟩, w0 ⟨⟨rfl, sameRow_refl _ _⟩, ⟨rfl, sameRow_refl _ _⟩, trivial, trivial, trivial, trivial⟩⟩⟩
    rw [eqR3_t.2 ⟨rfl, fun i hi => hall i (by have hi' : i < n := hi; omega)⟩] at he
    cases he
theorem loopG : LoopOK P (loopOf P 56 4) (few 26 [0, 1, 4, 12, 13] gG) :=
  loop_few (E := E0) mixed E0_ok loopsOK_none 26 [0, 1, 4, 12, 13] (X := XG) gG (fun _ x => VG x) PhiG (fun x => x.n - x.k) (fun _ x o => ZG x o)
    (fun n0 s r h => by
      unfold gG at h
      split at h
      · rename_i n0 n f n1 f1 s4 len
        obtain ⟨h0, e1, e2, ht⟩ := (T.is_ask h).1
        have h := (T.is_ask h).2
        rcases h with ⟨he, h⟩ | ⟨he, h⟩ <;> rw [lk_eq] at he <;> obtain rfl := T.is_ret h
        all_goals
          refine ⟨⟨n, n1, f, f1, len, 0⟩, ⟨⟨h0, e1, e2, ht⟩, Nat.zero_le _, fun i hi => by simp only [] at hi; omega⟩, wk_of (idR 0) rfl (by rw [h0]; exact Nat.zero_le _) (fun b hb => by omega) ⟨⟨rfl, sameRow_refl _ _⟩, ⟨rfl, sameRow_refl _ _⟩, rl_any _, rfl, rfl, trivial⟩ trivial, fun o ho => ?_⟩
          first | exact ho.1 he | exact ho.2 he
      · exact h.elim)
    roundG
theorem l56_ok : ∀ p ∈ l56, LoopsOK P p.2 (bodyOf P p.1) := by
  intro p hp
  simp only [l56, List.mem_singleton] at hp
  subst hp
  refine loopsOK_of (by kernel_rfl) fun k g hk => ?_
  simp only [List.mem_singleton, Prod.mk.injEq, LoopC.sum.injEq] at hk
  obtain ⟨rfl, rfl⟩ := hk
  exact loopG

noncomputable def c_Equal3 : Con := fun args => match args with
  | [.row [.int .i64, .int .i64, .int .i64] n f, .row [.int .i64, .int .i64, .int .i64] n1 f1] => .ask (n ≤ top) (.ret (.lit (.bool (lk eqR3 n f n1 f1))))
  | _ => .stuck 1
set_option maxRecDepth 100000 in
theorem t_Equal3 (n n1 : Nat) (f f1 : Nat → Els [.int .i64, .int .i64, .int .i64]) : conB Go.Proofs.Try.prog (conOf []) (loopsOf l56) 10 56 [.row [.int .i64, .int .i64, .int .i64] n f, .row [.int .i64, .int .i64, .int .i64] n1 f1] =
    T.br (U.ne (Int.ofNat n) (Int.ofNat n1)) (T.ret (SV.lit (Value.bool false))) (T.ask (PreE (nat_lit 0) n n1 ↑n) (T.br (lk eqR3 n f n1 f1) (T.ret (SV.lit (Value.bool true))) (T.ret
      (SV.lit (Value.bool false))))) := by kernel_rfl
theorem Equal3_ok : ConOK P 56 c_Equal3 := con_of (allOKL mixed none_ok l56_ok) 10 56 fun args r h => by
  unfold c_Equal3 at h
  split at h
  · rename_i n f n1 f1
    have hp := (T.is_ask h).1
    have h := (T.is_ask h).2
    obtain rfl := T.is_ret h
    rw [t_Equal3]
    by_cases hn : n = n1
    · subst hn
      have hpre : PreE 0 n n n := ⟨rfl, rfl, rfl, hp⟩
      have hne : U.ne (Int.ofNat n) (Int.ofNat n) = false := by rw [U.ne_eq]; simp
      simp only [T.All, hne, hpre, lk_eq]
      cases eqR3 n f n f1 <;> simp
    · have he : eqR3 n f n1 f1 = false := by
        cases h : eqR3 n f n1 f1
        · rfl
        · exact absurd (eqR3_t.1 h).1 hn
      have hne : U.ne (Int.ofNat n) (Int.ofNat n1) = true := by rw [U.ne_eq]; simp only [Int.ofNat_eq_natCast]; simp; omega
      simp only [T.All, hne, lk_eq, he]
      simp
  · exact h.elim
end Go.RX.Span

/- Ranges: what the law of pairs of ranges returns. -/
set_option linter.unusedVariables false
set_option linter.unusedSimpArgs false
set_option maxRecDepth 100000
namespace Go.RX.Span
open Go Go.RX
attribute [local irreducible] sx conB

noncomputable abbrev kp : List (Nat × Con) := (48, c_Intersect) :: (51, c_Intersect) :: (52, c_Subtract) :: (53, c_Subtract) :: (49, c_Hull) :: (54, c_Hull) :: (50, c_Within) :: (55, c_Within) :: (56, c_Equal3) :: k8 --%K
theorem kp_ok : ∀ p ∈ kp, ConOK P p.1 p.2 := by
  intro p hp
  simp only [kp, List.mem_cons] at hp
  rcases hp with rfl | rfl | rfl | rfl | rfl | rfl | rfl | rfl | rfl | hp
  · exact Intersect_ok
  · exact rIntersect_ok
  · exact Subtract_ok
  · exact rSubtract_ok
  · exact Hull_ok
  · exact rHull_ok
  · exact Within_ok
  · exact rWithin_ok
  · exact Equal3_ok
  · exact k8_ok p (by simpa [k8] using hp)
noncomputable def c_SpanPairs : Con := fun args => match args with
  | [.agg [.lit (.int .i64 a), .lit (.int .i64 b), .lit (.int .i64 c)], .agg [.lit (.int .i64 x), .lit (.int .i64 y), .lit (.int .i64 z)]] =>
    .ask (I64 a ∧ I64 b ∧ I64 c ∧ I64 x ∧ I64 y ∧ I64 z) (.ret (.lit (.bool true)))
  | _ => .stuck 1
set_option maxRecDepth 100000 in
theorem t_SpanPairs (a b c x y z : Int) : conB Go.Proofs.Try.prog (conOf kp) noLoops 10 8 [.agg [.lit (.int .i64 a), .lit (.int .i64 b), .lit (.int .i64 c)], .agg [.lit (.int .i64 x), .lit (.int .i64 y), .lit (.int .i64 z)]] =
    T.ask (I64 a ∧ I64 b ∧ I64 c ∧ I64 x ∧ I64 y ∧ I64 z) (T.ask (I64 a ∧ I64 b ∧ I64 c ∧ I64 x ∧ I64 y ∧ I64 z) (T.ask (I64 a ∧ I64 b ∧ I64 c ∧ I64 x ∧ I64 y ∧ I64 z) (T.ask (I64 a ∧
      I64 b ∧ I64 c ∧ I64 x ∧ I64 y ∧ I64 z) (T.ask (I64 a ∧ I64 b ∧ I64 c ∧ I64 x ∧ I64 y ∧ I64 z) (T.ask (I64 a ∧ I64 b ∧ I64 c ∧ I64 x ∧ I64 y ∧ I64 z) (T.ask (I64 a ∧ I64 b ∧ I64 c ∧
      I64 x ∧ I64 y ∧ I64 z) (T.ask (I64 a ∧ I64 b ∧ I64 c ∧ I64 x ∧ I64 y ∧ I64 z) (T.br (U.andb (U.eq (lk isL a b c x y z) (lk isL a b c x y z)) (U.andb (U.eq (lk isH a b c x y z) (lk
      isH a b c x y z)) (U.eq (lk isS a b c x y z) (lk isS a b c x y z)))) (T.br (U.eq (lk isEr a b c x y z) (lk isEr a b c x y z)) (T.ask (lk sbN a b c x y z ≤ nat_lit 140737488351232)
      (T.br (lk eqR3 (lk sbN a b c x y z) (lk sbF a b c x y z) (lk sbN a b c x y z) (lk sbF a b c x y z)) (T.br (U.eq (lk sbE a b c x y z) (lk sbE a b c x y z)) (T.br (U.andb (U.eq (lk
      hlL a b c x y z) (lk hlL a b c x y z)) (U.andb (U.eq (lk hlH a b c x y z) (lk hlH a b c x y z)) (U.eq (lk hlS a b c x y z) (lk hlS a b c x y z)))) (T.br (U.eq (lk hlE a b c x y z)
      (lk hlE a b c x y z)) (T.br (U.beq (lk wiB a b c x y z) (lk wiB a b c x y z)) (T.br (U.eq (lk ckd a b c x y z) (lk ckd a b c x y z)) (T.ret (SV.lit (Value.bool true))) (T.ret
      (SV.lit (Value.bool false)))) (T.ret (SV.lit (Value.bool false)))) (T.ret (SV.lit (Value.bool false)))) (T.ret (SV.lit (Value.bool false)))) (T.ret (SV.lit (Value.bool false))))
      (T.ret (SV.lit (Value.bool false))))) (T.ret (SV.lit (Value.bool false)))) (T.ret (SV.lit (Value.bool false))))))))))) := by kernel_rfl
theorem sbN_le {a b c x y z : Int} : sbN a b c x y z ≤ top := by
  unfold sbN
  have : top = 140737488351232 := rfl
  rw [this]
  split
  · omega
  · split
    · split <;> omega
    · split <;> omega
theorem eqR3_self {n : Nat} {f : Nat → R3} : eqR3 n f n f = true := eqR3_t.2 ⟨rfl, fun i _ => ⟨rfl, rfl, rfl⟩⟩
theorem SpanPairs_ok : ConOK P 8 c_SpanPairs := con_of (allOK mixed kp_ok) 10 8 fun args r h => by
  unfold c_SpanPairs at h
  split at h
  · rename_i a b c x y z
    have hp := (T.is_ask h).1
    have h := (T.is_ask h).2
    obtain rfl := T.is_ret h
    rw [t_SpanPairs]
    have hn : sbN a b c x y z ≤ 140737488351232 := sbN_le
    simp only [T.All, lk_eq, U.eq_eq, U.beq_eq, U.andb_eq, hp, eqR3_self, beq_self_eq_true, Bool.and_self, and_self, true_and, and_true, forall_const, hn, true_implies]
    simp
  · exact h.elim
theorem SpanPairs_walk (a b c x y z : Int) (ha : I64 a) (hb : I64 b) (hc : I64 c) (hx : I64 x) (hy : I64 y) (hz : I64 z) (w : World) :
    Calls P 8 #[.agg #[.int .i64 a, .int .i64 b, .int .i64 c], .agg #[.int .i64 x, .int .i64 y, .int .i64 z]] w fun e w' => e = .returned (.bool true) ∧ Go.RowKit.Below w.heap.size w w' :=
  (SpanPairs_ok [.agg [.lit (.int .i64 a), .lit (.int .i64 b), .lit (.int .i64 c)], .agg [.lit (.int .i64 x), .lit (.int .i64 y), .lit (.int .i64 z)]] (.lit (.bool true)) ⟨⟨ha, hb, hc, hx, hy, hz⟩, rfl⟩ (fun _ => False) w
    [.agg #[.int .i64 a, .int .i64 b, .int .i64 c], .agg #[.int .i64 x, .int .i64 y, .int .i64 z]] (fun _ h => h.elim) ⟨_, _, rfl, ⟨[_, _, _], rfl, _, _, rfl, rfl, _, _, rfl, rfl, _, _, rfl, rfl, rfl⟩, _, _, rfl, ⟨[_, _, _], rfl, _, _, rfl, rfl, _, _, rfl, rfl, _, _, rfl, rfl, rfl⟩, rfl⟩).mono
    fun e w' ⟨v, h1, h2, h3⟩ => ⟨by rw [h1, show v = .bool true from h3], h2⟩
end Go.RX.Span

