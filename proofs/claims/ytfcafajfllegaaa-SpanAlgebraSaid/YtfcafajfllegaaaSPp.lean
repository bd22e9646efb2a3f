/- Ranges: Exterior of the program and of the reference. -/
import Derived.Test.YtfcafajfllegaaaSPo
set_option linter.unusedVariables false
set_option linter.unusedSimpArgs false
set_option maxRecDepth 100000
namespace Go.RX.Span
open Go Go.RX

def xtF (a b c n : Int) : Int := if n ≥ 0 then b + absI c else a + max n (-3000000) * absI c
def xtC (n : Int) : Int := if n ≥ 0 then n else -(max n (-3000000))
def xtE (a b c n : Int) : Int := if chk a b c ≠ 0 then chk a b c else if a > b then 0 else if n > 2000000 then 4 else mvE (xtF a b c n) (absI c) (xtC n)
def xtLow (a b c n : Int) : Int := if chk a b c ≠ 0 then 0 else if a > b then 1 else if n > 2000000 then 0 else mvLow (xtF a b c n) (absI c) (xtC n)
def xtHigh (a b c n : Int) : Int := if chk a b c ≠ 0 then 0 else if a > b then 0 else if n > 2000000 then 0 else mvHigh (xtF a b c n) (absI c) (xtC n)
def xtStr (a b c n : Int) : Int := if chk a b c ≠ 0 then 0 else if a > b then 1 else if n > 2000000 then 0 else mvStr (xtF a b c n) (absI c) (xtC n) c
noncomputable def c_Exterior : Con := fun args => match args with
  | [.agg [.lit (.int .i64 a), .lit (.int .i64 b), .lit (.int .i64 c)], .lit (.int .i64 n)] =>
    .ask (I64 a ∧ I64 b ∧ I64 c ∧ I64 n) (.ret (.tup [.agg [.lit (.int .i64 (lk xtLow a b c n)), .lit (.int .i64 (lk xtHigh a b c n)), .lit (.int .i64 (lk xtStr a b c n))], .lit (.int .i64 (lk xtE a b c n))]))
  | _ => .stuck 1

set_option maxRecDepth 100000 in
theorem t_Exterior (a b c n : Int) : conB Go.Proofs.Try.prog (conOf k8) noLoops 10 46 [.agg [.lit (.int .i64 a), .lit (.int .i64 b), .lit (.int .i64 c)], .lit (.int .i64 n)] =
    T.ask (I64 a ∧ I64 b ∧ I64 c)
    (T.br (U.ne (lk chk a b c) (0 : Int))
      (T.ret
        (SV.tup
          [SV.agg
              [SV.lit (Value.int IntKind.i64 (0 : Int)), SV.lit (Value.int IntKind.i64 (0 : Int)),
                SV.lit (Value.int IntKind.i64 (0 : Int))],
            SV.lit (Value.int IntKind.i64 (lk chk a b c))]))
      (T.ask
        (a ≤ b →
          c ≠ (0 : Int) ∧
            (-9223372036854775807 : Int) ≤ c ∧ b - a < (9223372036854775807 : Int) ∧ I64 a ∧ I64 b ∧ I64 c)
        (T.ask
          (lk ofB a b c < (0 : Int) →
            lk ofC a b c ≠ (0 : Int) →
              I64 (lk ofC a b c - (1 : Int)) ∧
                I64 (lk ofB a b c * (lk ofC a b c - (1 : Int))) ∧
                  I64 (lk ofF a b c + lk ofB a b c * (lk ofC a b c - (1 : Int))) ∧ I64 (-lk ofB a b c))
          (T.br (U.eq (lk ofC a b c) (0 : Int))
            (T.ask
              ((0 : Int) < lk ofC a b c →
                I64 (lk ofC a b c - (1 : Int)) ∧
                  I64 (lk uB (lk ofF a b c) (lk ofB a b c) (lk ofC a b c) * (lk ofC a b c - (1 : Int))) ∧
                    I64
                      (lk uF (lk ofF a b c) (lk ofB a b c) (lk ofC a b c) +
                        lk uB (lk ofF a b c) (lk ofB a b c) (lk ofC a b c) * (lk ofC a b c - (1 : Int))))
              (T.ret
                (SV.tup
                  [SV.agg
                      [SV.lit
                          (Value.int IntKind.i64
                            (lk nLow (lk uF (lk ofF a b c) (lk ofB a b c) (lk ofC a b c))
                              (lk uB (lk ofF a b c) (lk ofB a b c) (lk ofC a b c)) (lk ofC a b c))),
                        SV.lit
                          (Value.int IntKind.i64
                            (lk nHigh (lk uF (lk ofF a b c) (lk ofB a b c) (lk ofC a b c))
                              (lk uB (lk ofF a b c) (lk ofB a b c) (lk ofC a b c)) (lk ofC a b c))),
                        SV.lit
                          (Value.int IntKind.i64
                            (lk nStr (lk uF (lk ofF a b c) (lk ofB a b c) (lk ofC a b c))
                              (lk uB (lk ofF a b c) (lk ofB a b c) (lk ofC a b c)) (lk ofC a b c)))],
                    SV.lit
                      (Value.int IntKind.i64
                        (lk nErr (lk uF (lk ofF a b c) (lk ofB a b c) (lk ofC a b c))
                          (lk uB (lk ofF a b c) (lk ofB a b c) (lk ofC a b c)) (lk ofC a b c)))])))
            (T.br (U.gt n (2000000 : Int))
              (T.ret
                (SV.tup
                  [SV.agg
                      [SV.lit (Value.int IntKind.i64 (0 : Int)), SV.lit (Value.int IntKind.i64 (0 : Int)),
                        SV.lit (Value.int IntKind.i64 (0 : Int))],
                    SV.lit (Value.int IntKind.i64 (4 : Int))]))
              (T.br (U.ge n (0 : Int))
                (T.ask
                  (I64 (lk ofC a b c - (1 : Int)) ∧
                    I64 (lk uB (lk ofF a b c) (lk ofB a b c) (lk ofC a b c) * (lk ofC a b c - (1 : Int))) ∧
                      I64
                        (lk uF (lk ofF a b c) (lk ofB a b c) (lk ofC a b c) +
                          lk uB (lk ofF a b c) (lk ofB a b c) (lk ofC a b c) * (lk ofC a b c - (1 : Int))))
                  (T.ask
                    (c < (0 : Int) →
                      n ≠ (0 : Int) →
                        I64 (n - (1 : Int)) ∧
                          I64 (lk uB (lk ofF a b c) (lk ofB a b c) (lk ofC a b c) * (n - (1 : Int))) ∧
                            I64
                                (U.add IntKind.i64
                                    (lk sLast (lk uF (lk ofF a b c) (lk ofB a b c) (lk ofC a b c))
                                      (lk uB (lk ofF a b c) (lk ofB a b c) (lk ofC a b c)) (lk ofC a b c))
                                    (lk uB (lk ofF a b c) (lk ofB a b c) (lk ofC a b c)) +
                                  lk uB (lk ofF a b c) (lk ofB a b c) (lk ofC a b c) * (n - (1 : Int))) ∧
                              I64 (-lk uB (lk ofF a b c) (lk ofB a b c) (lk ofC a b c)))
                    (T.ask
                      ((0 : Int) < n →
                        I64 (n - (1 : Int)) ∧
                          I64
                              (lk kB
                                  (U.add IntKind.i64
                                    (lk sLast (lk uF (lk ofF a b c) (lk ofB a b c) (lk ofC a b c))
                                      (lk uB (lk ofF a b c) (lk ofB a b c) (lk ofC a b c)) (lk ofC a b c))
                                    (lk uB (lk ofF a b c) (lk ofB a b c) (lk ofC a b c)))
                                  (lk uB (lk ofF a b c) (lk ofB a b c) (lk ofC a b c)) n c *
                                (n - (1 : Int))) ∧
                            I64
                              (lk kF
                                  (U.add IntKind.i64
                                    (lk sLast (lk uF (lk ofF a b c) (lk ofB a b c) (lk ofC a b c))
                                      (lk uB (lk ofF a b c) (lk ofB a b c) (lk ofC a b c)) (lk ofC a b c))
                                    (lk uB (lk ofF a b c) (lk ofB a b c) (lk ofC a b c)))
                                  (lk uB (lk ofF a b c) (lk ofB a b c) (lk ofC a b c)) n c +
                                lk kB
                                    (U.add IntKind.i64
                                      (lk sLast (lk uF (lk ofF a b c) (lk ofB a b c) (lk ofC a b c))
                                        (lk uB (lk ofF a b c) (lk ofB a b c) (lk ofC a b c)) (lk ofC a b c))
                                      (lk uB (lk ofF a b c) (lk ofB a b c) (lk ofC a b c)))
                                    (lk uB (lk ofF a b c) (lk ofB a b c) (lk ofC a b c)) n c *
                                  (n - (1 : Int))))
                      (T.ret
                        (SV.tup
                          [SV.agg
                              [SV.lit
                                  (Value.int IntKind.i64
                                    (lk nLow
                                      (lk kF
                                        (U.add IntKind.i64
                                          (lk sLast (lk uF (lk ofF a b c) (lk ofB a b c) (lk ofC a b c))
                                            (lk uB (lk ofF a b c) (lk ofB a b c) (lk ofC a b c)) (lk ofC a b c))
                                          (lk uB (lk ofF a b c) (lk ofB a b c) (lk ofC a b c)))
                                        (lk uB (lk ofF a b c) (lk ofB a b c) (lk ofC a b c)) n c)
                                      (lk kB
                                        (U.add IntKind.i64
                                          (lk sLast (lk uF (lk ofF a b c) (lk ofB a b c) (lk ofC a b c))
                                            (lk uB (lk ofF a b c) (lk ofB a b c) (lk ofC a b c)) (lk ofC a b c))
                                          (lk uB (lk ofF a b c) (lk ofB a b c) (lk ofC a b c)))
                                        (lk uB (lk ofF a b c) (lk ofB a b c) (lk ofC a b c)) n c)
                                      n)),
                                SV.lit
                                  (Value.int IntKind.i64
                                    (lk nHigh
                                      (lk kF
                                        (U.add IntKind.i64
                                          (lk sLast (lk uF (lk ofF a b c) (lk ofB a b c) (lk ofC a b c))
                                            (lk uB (lk ofF a b c) (lk ofB a b c) (lk ofC a b c)) (lk ofC a b c))
                                          (lk uB (lk ofF a b c) (lk ofB a b c) (lk ofC a b c)))
                                        (lk uB (lk ofF a b c) (lk ofB a b c) (lk ofC a b c)) n c)
                                      (lk kB
                                        (U.add IntKind.i64
                                          (lk sLast (lk uF (lk ofF a b c) (lk ofB a b c) (lk ofC a b c))
                                            (lk uB (lk ofF a b c) (lk ofB a b c) (lk ofC a b c)) (lk ofC a b c))
                                          (lk uB (lk ofF a b c) (lk ofB a b c) (lk ofC a b c)))
                                        (lk uB (lk ofF a b c) (lk ofB a b c) (lk ofC a b c)) n c)
                                      n)),
                                SV.lit
                                  (Value.int IntKind.i64
                                    (lk nStr
                                      (lk kF
                                        (U.add IntKind.i64
                                          (lk sLast (lk uF (lk ofF a b c) (lk ofB a b c) (lk ofC a b c))
                                            (lk uB (lk ofF a b c) (lk ofB a b c) (lk ofC a b c)) (lk ofC a b c))
                                          (lk uB (lk ofF a b c) (lk ofB a b c) (lk ofC a b c)))
                                        (lk uB (lk ofF a b c) (lk ofB a b c) (lk ofC a b c)) n c)
                                      (lk kB
                                        (U.add IntKind.i64
                                          (lk sLast (lk uF (lk ofF a b c) (lk ofB a b c) (lk ofC a b c))
                                            (lk uB (lk ofF a b c) (lk ofB a b c) (lk ofC a b c)) (lk ofC a b c))
                                          (lk uB (lk ofF a b c) (lk ofB a b c) (lk ofC a b c)))
                                        (lk uB (lk ofF a b c) (lk ofB a b c) (lk ofC a b c)) n c)
                                      n))],
                            SV.lit
                              (Value.int IntKind.i64
                                (lk nErr
                                  (lk kF
                                    (U.add IntKind.i64
                                      (lk sLast (lk uF (lk ofF a b c) (lk ofB a b c) (lk ofC a b c))
                                        (lk uB (lk ofF a b c) (lk ofB a b c) (lk ofC a b c)) (lk ofC a b c))
                                      (lk uB (lk ofF a b c) (lk ofB a b c) (lk ofC a b c)))
                                    (lk uB (lk ofF a b c) (lk ofB a b c) (lk ofC a b c)) n c)
                                  (lk kB
                                    (U.add IntKind.i64
                                      (lk sLast (lk uF (lk ofF a b c) (lk ofB a b c) (lk ofC a b c))
                                        (lk uB (lk ofF a b c) (lk ofB a b c) (lk ofC a b c)) (lk ofC a b c))
                                      (lk uB (lk ofF a b c) (lk ofB a b c) (lk ofC a b c)))
                                    (lk uB (lk ofF a b c) (lk ofB a b c) (lk ofC a b c)) n c)
                                  n))])))))
                (T.ask
                  (c < (0 : Int) →
                    U.sub IntKind.i64 (0 : Int) (U.mm true n (-3000000 : Int)) ≠ (0 : Int) →
                      I64 (U.sub IntKind.i64 (0 : Int) (U.mm true n (-3000000 : Int)) - (1 : Int)) ∧
                        I64
                            (lk uB (lk ofF a b c) (lk ofB a b c) (lk ofC a b c) *
                              (U.sub IntKind.i64 (0 : Int) (U.mm true n (-3000000 : Int)) - (1 : Int))) ∧
                          I64
                              (U.add IntKind.i64 (lk uF (lk ofF a b c) (lk ofB a b c) (lk ofC a b c))
                                  (U.mul IntKind.i64 (U.mm true n (-3000000 : Int))
                                    (lk uB (lk ofF a b c) (lk ofB a b c) (lk ofC a b c))) +
                                lk uB (lk ofF a b c) (lk ofB a b c) (lk ofC a b c) *
                                  (U.sub IntKind.i64 (0 : Int) (U.mm true n (-3000000 : Int)) - (1 : Int))) ∧
                            I64 (-lk uB (lk ofF a b c) (lk ofB a b c) (lk ofC a b c)))
                  (T.ask
                    ((0 : Int) < U.sub IntKind.i64 (0 : Int) (U.mm true n (-3000000 : Int)) →
                      I64 (U.sub IntKind.i64 (0 : Int) (U.mm true n (-3000000 : Int)) - (1 : Int)) ∧
                        I64
                            (lk kB
                                (U.add IntKind.i64 (lk uF (lk ofF a b c) (lk ofB a b c) (lk ofC a b c))
                                  (U.mul IntKind.i64 (U.mm true n (-3000000 : Int))
                                    (lk uB (lk ofF a b c) (lk ofB a b c) (lk ofC a b c))))
                                (lk uB (lk ofF a b c) (lk ofB a b c) (lk ofC a b c))
                                (U.sub IntKind.i64 (0 : Int) (U.mm true n (-3000000 : Int))) c *
                              (U.sub IntKind.i64 (0 : Int) (U.mm true n (-3000000 : Int)) - (1 : Int))) ∧
                          I64
                            (lk kF
                                (U.add IntKind.i64 (lk uF (lk ofF a b c) (lk ofB a b c) (lk ofC a b c))
                                  (U.mul IntKind.i64 (U.mm true n (-3000000 : Int))
                                    (lk uB (lk ofF a b c) (lk ofB a b c) (lk ofC a b c))))
                                (lk uB (lk ofF a b c) (lk ofB a b c) (lk ofC a b c))
                                (U.sub IntKind.i64 (0 : Int) (U.mm true n (-3000000 : Int))) c +
                              lk kB
                                  (U.add IntKind.i64 (lk uF (lk ofF a b c) (lk ofB a b c) (lk ofC a b c))
                                    (U.mul IntKind.i64 (U.mm true n (-3000000 : Int))
                                      (lk uB (lk ofF a b c) (lk ofB a b c) (lk ofC a b c))))
                                  (lk uB (lk ofF a b c) (lk ofB a b c) (lk ofC a b c))
                                  (U.sub IntKind.i64 (0 : Int) (U.mm true n (-3000000 : Int))) c *
                                (U.sub IntKind.i64 (0 : Int) (U.mm true n (-3000000 : Int)) - (1 : Int))))
                    (T.ret
                      (SV.tup
                        [SV.agg
                            [SV.lit
                                (Value.int IntKind.i64
                                  (lk nLow
                                    (lk kF
                                      (U.add IntKind.i64 (lk uF (lk ofF a b c) (lk ofB a b c) (lk ofC a b c))
                                        (U.mul IntKind.i64 (U.mm true n (-3000000 : Int))
                                          (lk uB (lk ofF a b c) (lk ofB a b c) (lk ofC a b c))))
                                      (lk uB (lk ofF a b c) (lk ofB a b c) (lk ofC a b c))
                                      (U.sub IntKind.i64 (0 : Int) (U.mm true n (-3000000 : Int))) c)
                                    (lk kB
                                      (U.add IntKind.i64 (lk uF (lk ofF a b c) (lk ofB a b c) (lk ofC a b c))
                                        (U.mul IntKind.i64 (U.mm true n (-3000000 : Int))
                                          (lk uB (lk ofF a b c) (lk ofB a b c) (lk ofC a b c))))
                                      (lk uB (lk ofF a b c) (lk ofB a b c) (lk ofC a b c))
                                      (U.sub IntKind.i64 (0 : Int) (U.mm true n (-3000000 : Int))) c)
                                    (U.sub IntKind.i64 (0 : Int) (U.mm true n (-3000000 : Int))))),
                              SV.lit
                                (Value.int IntKind.i64
                                  (lk nHigh
                                    (lk kF
                                      (U.add IntKind.i64 (lk uF (lk ofF a b c) (lk ofB a b c) (lk ofC a b c))
                                        (U.mul IntKind.i64 (U.mm true n (-3000000 : Int))
                                          (lk uB (lk ofF a b c) (lk ofB a b c) (lk ofC a b c))))
                                      (lk uB (lk ofF a b c) (lk ofB a b c) (lk ofC a b c))
                                      (U.sub IntKind.i64 (0 : Int) (U.mm true n (-3000000 : Int))) c)
                                    (lk kB
                                      (U.add IntKind.i64 (lk uF (lk ofF a b c) (lk ofB a b c) (lk ofC a b c))
                                        (U.mul IntKind.i64 (U.mm true n (-3000000 : Int))
                                          (lk uB (lk ofF a b c) (lk ofB a b c) (lk ofC a b c))))
                                      (lk uB (lk ofF a b c) (lk ofB a b c) (lk ofC a b c))
                                      (U.sub IntKind.i64 (0 : Int) (U.mm true n (-3000000 : Int))) c)
                                    (U.sub IntKind.i64 (0 : Int) (U.mm true n (-3000000 : Int))))),
                              SV.lit
                                (Value.int IntKind.i64
                                  (lk nStr
                                    (lk kF
                                      (U.add IntKind.i64 (lk uF (lk ofF a b c) (lk ofB a b c) (lk ofC a b c))
                                        (U.mul IntKind.i64 (U.mm true n (-3000000 : Int))
                                          (lk uB (lk ofF a b c) (lk ofB a b c) (lk ofC a b c))))
                                      (lk uB (lk ofF a b c) (lk ofB a b c) (lk ofC a b c))
                                      (U.sub IntKind.i64 (0 : Int) (U.mm true n (-3000000 : Int))) c)
                                    (lk kB
                                      (U.add IntKind.i64 (lk uF (lk ofF a b c) (lk ofB a b c) (lk ofC a b c))
                                        (U.mul IntKind.i64 (U.mm true n (-3000000 : Int))
                                          (lk uB (lk ofF a b c) (lk ofB a b c) (lk ofC a b c))))
                                      (lk uB (lk ofF a b c) (lk ofB a b c) (lk ofC a b c))
                                      (U.sub IntKind.i64 (0 : Int) (U.mm true n (-3000000 : Int))) c)
                                    (U.sub IntKind.i64 (0 : Int) (U.mm true n (-3000000 : Int)))))],
                          SV.lit
                            (Value.int IntKind.i64
                              (lk nErr
                                (lk kF
                                  (U.add IntKind.i64 (lk uF (lk ofF a b c) (lk ofB a b c) (lk ofC a b c))
                                    (U.mul IntKind.i64 (U.mm true n (-3000000 : Int))
                                      (lk uB (lk ofF a b c) (lk ofB a b c) (lk ofC a b c))))
                                  (lk uB (lk ofF a b c) (lk ofB a b c) (lk ofC a b c))
                                  (U.sub IntKind.i64 (0 : Int) (U.mm true n (-3000000 : Int))) c)
                                (lk kB
                                  (U.add IntKind.i64 (lk uF (lk ofF a b c) (lk ofB a b c) (lk ofC a b c))
                                    (U.mul IntKind.i64 (U.mm true n (-3000000 : Int))
                                      (lk uB (lk ofF a b c) (lk ofB a b c) (lk ofC a b c))))
                                  (lk uB (lk ofF a b c) (lk ofB a b c) (lk ofC a b c))
                                  (U.sub IntKind.i64 (0 : Int) (U.mm true n (-3000000 : Int))) c)
                                (U.sub IntKind.i64 (0 : Int) (U.mm true n (-3000000 : Int)))))])))))))))) := by kernel_rfl
set_option maxHeartbeats 1000000 in
theorem Exterior_ok : ConOK P 46 c_Exterior := con_of (allOK mixed k8_ok) 10 46 fun args r h => by
  unfold c_Exterior at h
  split at h
  · rename_i a b c n
    have hp := (T.is_ask h).1
    have h := (T.is_ask h).2
    obtain rfl := T.is_ret h
    rw [t_Exterior]
    simp only [T.All, U.le_t, U.le_f, U.lt_t, U.lt_f, U.gt_t, U.gt_f, U.ge_t, U.ge_f, U.eq_t, U.eq_f, U.ne_t, U.ne_f, U.not_t, U.not_f, U.andb_t, U.andb_f, SV.lit.injEq, SV.agg.injEq, SV.tup.injEq, List.cons.injEq, Value.int.injEq, Value.bool.injEq, true_and, and_true, lk_eq, lim_t, lim_f, mm_min, mm_max]
    refine ⟨⟨hp.1, hp.2.1, hp.2.2.1⟩, fun h => ?_, fun h => ⟨of_ask (chk_zero.1 h) hp.1 hp.2.1 hp.2.2.1, ?_⟩⟩
    · simp [xtE, xtLow, xtHigh, xtStr, h]
    have hr := chk_zero.1 h
    have hl := hr.1
    by_cases hab : a ≤ b
    · obtain ⟨p1, p2, p3, p4, p5, p6, p7, p8, p9, p10⟩ := parts hr hab
      obtain ⟨u1, u2⟩ := up_of hr hab
      obtain ⟨s1, s2, s3, s4, s5⟩ := series_of hr hab
      have sl := s5 (ofC a b c - 1) (by omega) (by omega)
      rw [u1, u2]
      have m1 : I64 (ofB a b c * (ofC a b c - 1)) := by unfold I64; omega
      have n1 : ¬ a > b := by omega
      have eL : sLast a (absI c) (ofC a b c) = b := by unfold sLast; omega
      rw [eL]
      refine ⟨fun _ _ => ⟨by unfold I64; omega, m1, by unfold I64; omega, by unfold I64; omega⟩, fun g => by omega, fun _ => ⟨fun g => ?_, fun g => ⟨fun g2 => ?_, fun g2 => ?_⟩⟩⟩
      · simp [xtE, xtLow, xtHigh, xtStr, h, n1, g]
      all_goals
        have n2 : ¬ n > 2000000 := by omega
      · have eF : xtF a b c n = b + absI c := by unfold xtF; rw [if_pos g2]
        have eC : xtC n = n := by unfold xtC; rw [if_pos g2]
        have mb := mul_bnd (x := absI c) (y := n - 1) (X := 2000000) (Y := 2000000) (by omega) (by omega)
        rw [U.add64 (by unfold I64; omega)]
        obtain ⟨q1, q2, q3, q4⟩ := nrm_like (f := b + absI c) (s := absI c) (C := n) (c := c) p1
        rw [q1, q2, q3, q4]
        simp only [xtE, xtLow, xtHigh, xtStr, h, ne_eq, not_true_eq_false, if_false, if_neg n1, if_neg n2, eC, eF, and_self, and_true]
        refine ⟨⟨by unfold I64; omega, by unfold I64; omega, by unfold I64; omega⟩, fun _ _ => ⟨by unfold I64; omega, by unfold I64; omega, by unfold I64; omega, by unfold I64; omega⟩, fun g => ?_⟩
        obtain ⟨l1, l2⟩ := like_bnd (f := b + absI c) (s := absI c) (C := n) (c := c) (by omega)
        exact ⟨by unfold I64; omega, by unfold I64; omega, by unfold I64; omega⟩
      · have n3 : ¬ n ≥ 0 := by omega
        have eF : xtF a b c n = a + max n (-3000000) * absI c := by unfold xtF; rw [if_neg n3]
        have eC : xtC n = -(max n (-3000000)) := by unfold xtC; rw [if_neg n3]
        obtain ⟨M, hM⟩ : ∃ M, M = max n (-3000000) := ⟨_, rfl⟩
        rw [← hM] at eF eC ⊢
        have mb := mul_bnd (x := M) (y := absI c) (X := 3000000) (Y := 2000000) (by omega) (by omega)
        have mb2 := mul_bnd (x := absI c) (y := -M - 1) (X := 2000000) (Y := 3000000) (by omega) (by omega)
        have e0 : U.sub .i64 0 M = -M := by rw [U.sub64 (by unfold I64; omega)]; omega
        rw [e0, U.mul64 (by unfold I64; omega), U.add64 (by unfold I64; omega)]
        obtain ⟨q1, q2, q3, q4⟩ := nrm_like (f := a + M * absI c) (s := absI c) (C := -M) (c := c) p1
        rw [q1, q2, q3, q4]
        simp only [xtE, xtLow, xtHigh, xtStr, h, ne_eq, not_true_eq_false, if_false, if_neg n1, if_neg n2, eC, eF, and_self, and_true]
        refine ⟨fun _ _ => ⟨by unfold I64; omega, by unfold I64; omega, by unfold I64; omega, by unfold I64; omega⟩, fun g => ?_⟩
        obtain ⟨l1, l2⟩ := like_bnd (f := a + M * absI c) (s := absI c) (C := -M) (c := c) (by omega)
        exact ⟨by unfold I64; omega, by unfold I64; omega, by unfold I64; omega⟩
    · obtain ⟨f1, f2, f3⟩ := empty_of (c := c) hab
      rw [f1, f2, f3]
      refine ⟨fun g => absurd g (by omega), fun _ => ⟨fun g => absurd g (by omega), ?_⟩, fun g => absurd rfl g⟩
      have n1 : a > b := by omega
      simp [nLow, nHigh, nStr, nErr, xtE, xtLow, xtHigh, xtStr, h, n1]
  · exact h.elim

set_option maxRecDepth 100000 in
theorem t_rExterior (a b c n : Int) : conB Go.Proofs.Try.prog (conOf k8) noLoops 10 47 [.agg [.lit (.int .i64 a), .lit (.int .i64 b), .lit (.int .i64 c)], .lit (.int .i64 n)] =
    T.ask (I64 a ∧ I64 b ∧ I64 c)
    (T.br (U.ne (lk chk a b c) (0 : Int))
      (T.ret
        (SV.tup
          [SV.agg
              [SV.lit (Value.int IntKind.i64 (0 : Int)), SV.lit (Value.int IntKind.i64 (0 : Int)),
                SV.lit (Value.int IntKind.i64 (0 : Int))],
            SV.lit (Value.int IntKind.i64 (lk chk a b c))]))
      (T.br (lk isE a b c)
        (T.ret
          (SV.tup
            [SV.agg
                [SV.lit (Value.int IntKind.i64 (1 : Int)), SV.lit (Value.int IntKind.i64 (0 : Int)),
                  SV.lit (Value.int IntKind.i64 (1 : Int))],
              SV.lit (Value.int IntKind.i64 (0 : Int))]))
        (T.br (U.eq n (0 : Int))
          (T.ret
            (SV.tup
              [SV.agg
                  [SV.lit (Value.int IntKind.i64 (1 : Int)), SV.lit (Value.int IntKind.i64 (0 : Int)),
                    SV.lit (Value.int IntKind.i64 (1 : Int))],
                SV.lit (Value.int IntKind.i64 (0 : Int))]))
          (T.br (U.gt n (2000000 : Int))
            (T.ret
              (SV.tup
                [SV.agg
                    [SV.lit (Value.int IntKind.i64 (0 : Int)), SV.lit (Value.int IntKind.i64 (0 : Int)),
                      SV.lit (Value.int IntKind.i64 (0 : Int))],
                  SV.lit (Value.int IntKind.i64 (4 : Int))]))
            (T.br (U.lt n (-2000000 : Int))
              (T.ret
                (SV.tup
                  [SV.agg
                      [SV.lit (Value.int IntKind.i64 (0 : Int)), SV.lit (Value.int IntKind.i64 (0 : Int)),
                        SV.lit (Value.int IntKind.i64 (0 : Int))],
                    SV.lit (Value.int IntKind.i64 (4 : Int))]))
              (T.br (U.gt n (0 : Int))
                (T.ask (I64 (-c))
                  (T.ask (I64 (-c))
                    (T.ask (I64 (-c))
                      (T.br
                        (U.le (U.add IntKind.i64 b (lk absI c)) (U.add IntKind.i64 b (U.mul IntKind.i64 n (lk absI c))))
                        (T.br (U.not (lk lim (U.add IntKind.i64 b (lk absI c))))
                          (T.ret
                            (SV.tup
                              [SV.agg
                                  [SV.lit (Value.int IntKind.i64 (0 : Int)), SV.lit (Value.int IntKind.i64 (0 : Int)),
                                    SV.lit (Value.int IntKind.i64 (0 : Int))],
                                SV.lit (Value.int IntKind.i64 (4 : Int))]))
                          (T.br (U.not (lk lim (U.add IntKind.i64 b (U.mul IntKind.i64 n (lk absI c)))))
                            (T.ret
                              (SV.tup
                                [SV.agg
                                    [SV.lit (Value.int IntKind.i64 (0 : Int)), SV.lit (Value.int IntKind.i64 (0 : Int)),
                                      SV.lit (Value.int IntKind.i64 (0 : Int))],
                                  SV.lit (Value.int IntKind.i64 (4 : Int))]))
                            (T.ask
                              (U.add IntKind.i64 b (lk absI c) < U.add IntKind.i64 b (U.mul IntKind.i64 n (lk absI c)) →
                                U.lt c (0 : Int) = true → I64 (-lk absI c))
                              (T.ret
                                (SV.tup
                                  [SV.agg
                                      [SV.lit
                                          (Value.int IntKind.i64
                                            (lk rnL (U.add IntKind.i64 b (lk absI c))
                                              (U.add IntKind.i64 b (U.mul IntKind.i64 n (lk absI c))) (lk absI c)
                                              (U.lt c (0 : Int)))),
                                        SV.lit
                                          (Value.int IntKind.i64
                                            (lk rnH (U.add IntKind.i64 b (lk absI c))
                                              (U.add IntKind.i64 b (U.mul IntKind.i64 n (lk absI c))) (lk absI c)
                                              (U.lt c (0 : Int)))),
                                        SV.lit
                                          (Value.int IntKind.i64
                                            (lk rnS (U.add IntKind.i64 b (lk absI c))
                                              (U.add IntKind.i64 b (U.mul IntKind.i64 n (lk absI c))) (lk absI c)
                                              (U.lt c (0 : Int))))],
                                    SV.lit (Value.int IntKind.i64 (0 : Int))])))))
                        (T.ask
                          (U.add IntKind.i64 b (lk absI c) < U.add IntKind.i64 b (U.mul IntKind.i64 n (lk absI c)) →
                            U.lt c (0 : Int) = true → I64 (-lk absI c))
                          (T.ret
                            (SV.tup
                              [SV.agg
                                  [SV.lit
                                      (Value.int IntKind.i64
                                        (lk rnL (U.add IntKind.i64 b (lk absI c))
                                          (U.add IntKind.i64 b (U.mul IntKind.i64 n (lk absI c))) (lk absI c)
                                          (U.lt c (0 : Int)))),
                                    SV.lit
                                      (Value.int IntKind.i64
                                        (lk rnH (U.add IntKind.i64 b (lk absI c))
                                          (U.add IntKind.i64 b (U.mul IntKind.i64 n (lk absI c))) (lk absI c)
                                          (U.lt c (0 : Int)))),
                                    SV.lit
                                      (Value.int IntKind.i64
                                        (lk rnS (U.add IntKind.i64 b (lk absI c))
                                          (U.add IntKind.i64 b (U.mul IntKind.i64 n (lk absI c))) (lk absI c)
                                          (U.lt c (0 : Int))))],
                                SV.lit (Value.int IntKind.i64 (0 : Int))])))))))
                (T.ask (I64 (-c))
                  (T.ask (I64 (-c))
                    (T.ask (I64 (-c))
                      (T.br
                        (U.le (U.add IntKind.i64 a (U.mul IntKind.i64 n (lk absI c))) (U.sub IntKind.i64 a (lk absI c)))
                        (T.br (U.not (lk lim (U.add IntKind.i64 a (U.mul IntKind.i64 n (lk absI c)))))
                          (T.ret
                            (SV.tup
                              [SV.agg
                                  [SV.lit (Value.int IntKind.i64 (0 : Int)), SV.lit (Value.int IntKind.i64 (0 : Int)),
                                    SV.lit (Value.int IntKind.i64 (0 : Int))],
                                SV.lit (Value.int IntKind.i64 (4 : Int))]))
                          (T.br (U.not (lk lim (U.sub IntKind.i64 a (lk absI c))))
                            (T.ret
                              (SV.tup
                                [SV.agg
                                    [SV.lit (Value.int IntKind.i64 (0 : Int)), SV.lit (Value.int IntKind.i64 (0 : Int)),
                                      SV.lit (Value.int IntKind.i64 (0 : Int))],
                                  SV.lit (Value.int IntKind.i64 (4 : Int))]))
                            (T.ask
                              (U.add IntKind.i64 a (U.mul IntKind.i64 n (lk absI c)) < U.sub IntKind.i64 a (lk absI c) →
                                U.lt c (0 : Int) = true → I64 (-lk absI c))
                              (T.ret
                                (SV.tup
                                  [SV.agg
                                      [SV.lit
                                          (Value.int IntKind.i64
                                            (lk rnL (U.add IntKind.i64 a (U.mul IntKind.i64 n (lk absI c)))
                                              (U.sub IntKind.i64 a (lk absI c)) (lk absI c) (U.lt c (0 : Int)))),
                                        SV.lit
                                          (Value.int IntKind.i64
                                            (lk rnH (U.add IntKind.i64 a (U.mul IntKind.i64 n (lk absI c)))
                                              (U.sub IntKind.i64 a (lk absI c)) (lk absI c) (U.lt c (0 : Int)))),
                                        SV.lit
                                          (Value.int IntKind.i64
                                            (lk rnS (U.add IntKind.i64 a (U.mul IntKind.i64 n (lk absI c)))
                                              (U.sub IntKind.i64 a (lk absI c)) (lk absI c) (U.lt c (0 : Int))))],
                                    SV.lit (Value.int IntKind.i64 (0 : Int))])))))
                        (T.ask
                          (U.add IntKind.i64 a (U.mul IntKind.i64 n (lk absI c)) < U.sub IntKind.i64 a (lk absI c) →
                            U.lt c (0 : Int) = true → I64 (-lk absI c))
                          (T.ret
                            (SV.tup
                              [SV.agg
                                  [SV.lit
                                      (Value.int IntKind.i64
                                        (lk rnL (U.add IntKind.i64 a (U.mul IntKind.i64 n (lk absI c)))
                                          (U.sub IntKind.i64 a (lk absI c)) (lk absI c) (U.lt c (0 : Int)))),
                                    SV.lit
                                      (Value.int IntKind.i64
                                        (lk rnH (U.add IntKind.i64 a (U.mul IntKind.i64 n (lk absI c)))
                                          (U.sub IntKind.i64 a (lk absI c)) (lk absI c) (U.lt c (0 : Int)))),
                                    SV.lit
                                      (Value.int IntKind.i64
                                        (lk rnS (U.add IntKind.i64 a (U.mul IntKind.i64 n (lk absI c)))
                                          (U.sub IntKind.i64 a (lk absI c)) (lk absI c) (U.lt c (0 : Int))))],
                                SV.lit (Value.int IntKind.i64 (0 : Int))]))))))))))))) := by kernel_rfl
set_option maxHeartbeats 1000000 in
theorem rExterior_ok : ConOK P 47 c_Exterior := con_of (allOK mixed k8_ok) 10 47 fun args r h => by
  unfold c_Exterior at h
  split at h
  · rename_i a b c n
    have hp := (T.is_ask h).1
    have h := (T.is_ask h).2
    obtain rfl := T.is_ret h
    rw [t_rExterior]
    simp only [T.All, U.le_t, U.le_f, U.lt_t, U.lt_f, U.gt_t, U.gt_f, U.ge_t, U.ge_f, U.eq_t, U.eq_f, U.ne_t, U.ne_f, U.not_t, U.not_f, U.andb_t, U.andb_f, SV.lit.injEq, SV.agg.injEq, SV.tup.injEq, List.cons.injEq, Value.int.injEq, Value.bool.injEq, true_and, and_true, lk_eq, lim_t, lim_f, isE_t, isE_f]
    have hp3 : I64 a ∧ I64 b ∧ I64 c := ⟨hp.1, hp.2.1, hp.2.2.1⟩
    refine ⟨hp3, fun h => ?_, fun h => ⟨fun he => ?_, fun he => ?_⟩⟩
    · simp [xtE, xtLow, xtHigh, xtStr, h]
    · obtain ⟨rfl, rfl, rfl⟩ := he
      simp [xtE, xtLow, xtHigh, xtStr, h]
    have hr := chk_zero.1 h
    have hl := hr.1
    have hab := right_le hr he
    obtain ⟨p1, p2, p3, p4, p5, p6, p7, p8, p9, p10⟩ := parts hr hab
    have n1 : ¬ a > b := by omega
    have hc5 : I64 (-c) := by unfold I64; omega
    refine ⟨fun h0 => ?_, fun h0 => ⟨fun g => ?_, fun g => ⟨fun g2 => ?_, fun g2 => ⟨fun g3 => ⟨hc5, hc5, hc5, ?_⟩, fun g3 => ⟨hc5, hc5, hc5, ?_⟩⟩⟩⟩⟩
    · have hk : chk a b c = 0 := h
      subst h0
      simp [xtE, xtLow, xtHigh, xtStr, hk, n1, xtC, mvE, mvLow, mvHigh, mvStr]
    · simp [xtE, xtLow, xtHigh, xtStr, h, n1, g]
    all_goals
      have n2 : ¬ n > 2000000 := by omega
    · have n3 : ¬ n ≥ 0 := by omega
      obtain ⟨M, hM⟩ : ∃ M, M = max n (-3000000) := ⟨_, rfl⟩
      have mm := mulle (s := absI c) (x := M) (y := -2000001) p1 (by omega)
      rw [Int.mul_comm (absI c) M] at mm
      have eC : xtC n = -M := by unfold xtC; rw [if_neg n3, hM]
      have eF : xtF a b c n = a + M * absI c := by unfold xtF; rw [if_neg n3, hM]
      have e : mvE (a + M * absI c) (absI c) (-M) = 4 := by
        unfold mvE; rw [if_neg (by omega), if_neg (by omega)]
      simp only [xtE, xtLow, xtHigh, xtStr, h, ne_eq, not_true_eq_false, if_false, if_neg n1, if_neg n2, mvLow, mvHigh, mvStr, eC, eF, e, if_neg (show ¬ -M ≤ 0 by omega)]
      simp
    · have eF : xtF a b c n = b + absI c := by unfold xtF; rw [if_pos (by omega)]
      have eC : xtC n = n := by unfold xtC; rw [if_pos (by omega)]
      have mb := mul_bnd (x := n) (y := absI c) (X := 2000001) (Y := 2000000) (by omega) (by omega)
      rw [U.add64 (a := b) (b := absI c) (by unfold I64; omega), U.mul64 (by unfold I64; omega), U.add64 (by unfold I64; omega)]
      simp only [xtE, xtLow, xtHigh, xtStr, h, ne_eq, not_true_eq_false, if_false, if_neg n1, if_neg n2, eC, eF]
      exact lim_tail p1 p2 (by omega) (by rw [Int.mul_sub, Int.mul_comm n (absI c)]; omega)
    · have n3 : ¬ n ≥ 0 := by omega
      have em : max n (-3000000) = n := by omega
      have eF : xtF a b c n = a + n * absI c := by unfold xtF; rw [if_neg n3, em]
      have eC : xtC n = -n := by unfold xtC; rw [if_neg n3, em]
      have mb := mul_bnd (x := n) (y := absI c) (X := 2000001) (Y := 2000000) (by omega) (by omega)
      rw [U.sub64 (a := a) (b := absI c) (by unfold I64; omega), U.mul64 (by unfold I64; omega), U.add64 (by unfold I64; omega)]
      simp only [xtE, xtLow, xtHigh, xtStr, h, ne_eq, not_true_eq_false, if_false, if_neg n1, if_neg n2, eC, eF]
      exact lim_tail p1 p2 (by omega) (by rw [Int.mul_sub, Int.mul_neg, Int.mul_comm n (absI c)]; omega)
  · exact h.elim
end Go.RX.Span
