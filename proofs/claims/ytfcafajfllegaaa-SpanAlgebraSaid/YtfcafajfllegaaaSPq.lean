/- Ranges: Interior of the program and of the reference. -/
import Derived.Test.YtfcafajfllegaaaSPp
set_option linter.unusedVariables false
set_option linter.unusedSimpArgs false
set_option maxRecDepth 100000
namespace Go.RX.Span
open Go Go.RX

def inF (a b c n : Int) : Int := if n ≥ 0 then a + absI c * (ofC a b c - n) else a
def inE (a b c n : Int) : Int := if chk a b c ≠ 0 then chk a b c else if n > ofC a b c ∨ n < -ofC a b c then 5 else if n = 0 then 0 else mvE (inF a b c n) (absI c) (absI n)
def inLow (a b c n : Int) : Int := if chk a b c ≠ 0 then 0 else if n > ofC a b c ∨ n < -ofC a b c then 0 else if n = 0 then 1 else mvLow (inF a b c n) (absI c) (absI n)
def inHigh (a b c n : Int) : Int := if chk a b c ≠ 0 then 0 else if n > ofC a b c ∨ n < -ofC a b c then 0 else if n = 0 then 0 else mvHigh (inF a b c n) (absI c) (absI n)
def inStr (a b c n : Int) : Int := if chk a b c ≠ 0 then 0 else if n > ofC a b c ∨ n < -ofC a b c then 0 else if n = 0 then 1 else mvStr (inF a b c n) (absI c) (absI n) c
noncomputable def c_Interior : Con := fun args => match args with
  | [.agg [.lit (.int .i64 a), .lit (.int .i64 b), .lit (.int .i64 c)], .lit (.int .i64 n)] =>
    .ask (I64 a ∧ I64 b ∧ I64 c ∧ I64 n) (.ret (.tup [.agg [.lit (.int .i64 (lk inLow a b c n)), .lit (.int .i64 (lk inHigh a b c n)), .lit (.int .i64 (lk inStr a b c n))], .lit (.int .i64 (lk inE a b c n))]))
  | _ => .stuck 1
set_option maxRecDepth 100000 in
theorem t_Interior (a b c n : Int) : conB Go.Proofs.Try.prog (conOf k8) noLoops 10 44 [.agg [.lit (.int .i64 a), .lit (.int .i64 b), .lit (.int .i64 c)], .lit (.int .i64 n)] =
    T.ask (I64 a ∧ I64 b ∧ I64 c)
    (T.br (U.ne (lk chk a b c) (0 : Int))
      (T.ret
        (SV.tup
          [SV.agg
              [SV.lit (Value.int IntKind.i64 (0 : Int)), SV.lit (Value.int IntKind.i64 (0 : Int)),
                SV.lit (Value.int IntKind.i64 (0 : Int))],
            SV.lit (Value.int IntKind.i64 (lk chk a b c))]))
      (T.ask
        (a ≤ b →
          c ≠ (0 : Int) ∧
            (-9223372036854775807 : Int) ≤ c ∧ b - a < (9223372036854775807 : Int) ∧ I64 a ∧ I64 b ∧ I64 c)
        (T.ask
          (lk ofB a b c < (0 : Int) →
            lk ofC a b c ≠ (0 : Int) →
              I64 (lk ofC a b c - (1 : Int)) ∧
                I64 (lk ofB a b c * (lk ofC a b c - (1 : Int))) ∧
                  I64 (lk ofF a b c + lk ofB a b c * (lk ofC a b c - (1 : Int))) ∧ I64 (-lk ofB a b c))
          (T.br (U.gt n (lk ofC a b c))
            (T.ret
              (SV.tup
                [SV.agg
                    [SV.lit (Value.int IntKind.i64 (0 : Int)), SV.lit (Value.int IntKind.i64 (0 : Int)),
                      SV.lit (Value.int IntKind.i64 (0 : Int))],
                  SV.lit (Value.int IntKind.i64 (5 : Int))]))
            (T.br (U.lt n (U.sub IntKind.i64 (0 : Int) (lk ofC a b c)))
              (T.ret
                (SV.tup
                  [SV.agg
                      [SV.lit (Value.int IntKind.i64 (0 : Int)), SV.lit (Value.int IntKind.i64 (0 : Int)),
                        SV.lit (Value.int IntKind.i64 (0 : Int))],
                    SV.lit (Value.int IntKind.i64 (5 : Int))]))
              (T.br (U.ge n (0 : Int))
                (T.ask
                  (c < (0 : Int) →
                    U.mm true n (U.sub IntKind.i64 (0 : Int) n) ≠ (0 : Int) →
                      I64 (U.mm true n (U.sub IntKind.i64 (0 : Int) n) - (1 : Int)) ∧
                        I64
                            (lk uB (lk ofF a b c) (lk ofB a b c) (lk ofC a b c) *
                              (U.mm true n (U.sub IntKind.i64 (0 : Int) n) - (1 : Int))) ∧
                          I64
                              (U.add IntKind.i64 (lk uF (lk ofF a b c) (lk ofB a b c) (lk ofC a b c))
                                  (U.mul IntKind.i64 (lk uB (lk ofF a b c) (lk ofB a b c) (lk ofC a b c))
                                    (U.sub IntKind.i64 (lk ofC a b c) n)) +
                                lk uB (lk ofF a b c) (lk ofB a b c) (lk ofC a b c) *
                                  (U.mm true n (U.sub IntKind.i64 (0 : Int) n) - (1 : Int))) ∧
                            I64 (-lk uB (lk ofF a b c) (lk ofB a b c) (lk ofC a b c)))
                  (T.ask
                    ((0 : Int) < U.mm true n (U.sub IntKind.i64 (0 : Int) n) →
                      I64 (U.mm true n (U.sub IntKind.i64 (0 : Int) n) - (1 : Int)) ∧
                        I64
                            (lk kB
                                (U.add IntKind.i64 (lk uF (lk ofF a b c) (lk ofB a b c) (lk ofC a b c))
                                  (U.mul IntKind.i64 (lk uB (lk ofF a b c) (lk ofB a b c) (lk ofC a b c))
                                    (U.sub IntKind.i64 (lk ofC a b c) n)))
                                (lk uB (lk ofF a b c) (lk ofB a b c) (lk ofC a b c))
                                (U.mm true n (U.sub IntKind.i64 (0 : Int) n)) c *
                              (U.mm true n (U.sub IntKind.i64 (0 : Int) n) - (1 : Int))) ∧
                          I64
                            (lk kF
                                (U.add IntKind.i64 (lk uF (lk ofF a b c) (lk ofB a b c) (lk ofC a b c))
                                  (U.mul IntKind.i64 (lk uB (lk ofF a b c) (lk ofB a b c) (lk ofC a b c))
                                    (U.sub IntKind.i64 (lk ofC a b c) n)))
                                (lk uB (lk ofF a b c) (lk ofB a b c) (lk ofC a b c))
                                (U.mm true n (U.sub IntKind.i64 (0 : Int) n)) c +
                              lk kB
                                  (U.add IntKind.i64 (lk uF (lk ofF a b c) (lk ofB a b c) (lk ofC a b c))
                                    (U.mul IntKind.i64 (lk uB (lk ofF a b c) (lk ofB a b c) (lk ofC a b c))
                                      (U.sub IntKind.i64 (lk ofC a b c) n)))
                                  (lk uB (lk ofF a b c) (lk ofB a b c) (lk ofC a b c))
                                  (U.mm true n (U.sub IntKind.i64 (0 : Int) n)) c *
                                (U.mm true n (U.sub IntKind.i64 (0 : Int) n) - (1 : Int))))
                    (T.ret
                      (SV.tup
                        [SV.agg
                            [SV.lit
                                (Value.int IntKind.i64
                                  (lk nLow
                                    (lk kF
                                      (U.add IntKind.i64 (lk uF (lk ofF a b c) (lk ofB a b c) (lk ofC a b c))
                                        (U.mul IntKind.i64 (lk uB (lk ofF a b c) (lk ofB a b c) (lk ofC a b c))
                                          (U.sub IntKind.i64 (lk ofC a b c) n)))
                                      (lk uB (lk ofF a b c) (lk ofB a b c) (lk ofC a b c))
                                      (U.mm true n (U.sub IntKind.i64 (0 : Int) n)) c)
                                    (lk kB
                                      (U.add IntKind.i64 (lk uF (lk ofF a b c) (lk ofB a b c) (lk ofC a b c))
                                        (U.mul IntKind.i64 (lk uB (lk ofF a b c) (lk ofB a b c) (lk ofC a b c))
                                          (U.sub IntKind.i64 (lk ofC a b c) n)))
                                      (lk uB (lk ofF a b c) (lk ofB a b c) (lk ofC a b c))
                                      (U.mm true n (U.sub IntKind.i64 (0 : Int) n)) c)
                                    (U.mm true n (U.sub IntKind.i64 (0 : Int) n)))),
                              SV.lit
                                (Value.int IntKind.i64
                                  (lk nHigh
                                    (lk kF
                                      (U.add IntKind.i64 (lk uF (lk ofF a b c) (lk ofB a b c) (lk ofC a b c))
                                        (U.mul IntKind.i64 (lk uB (lk ofF a b c) (lk ofB a b c) (lk ofC a b c))
                                          (U.sub IntKind.i64 (lk ofC a b c) n)))
                                      (lk uB (lk ofF a b c) (lk ofB a b c) (lk ofC a b c))
                                      (U.mm true n (U.sub IntKind.i64 (0 : Int) n)) c)
                                    (lk kB
                                      (U.add IntKind.i64 (lk uF (lk ofF a b c) (lk ofB a b c) (lk ofC a b c))
                                        (U.mul IntKind.i64 (lk uB (lk ofF a b c) (lk ofB a b c) (lk ofC a b c))
                                          (U.sub IntKind.i64 (lk ofC a b c) n)))
                                      (lk uB (lk ofF a b c) (lk ofB a b c) (lk ofC a b c))
                                      (U.mm true n (U.sub IntKind.i64 (0 : Int) n)) c)
                                    (U.mm true n (U.sub IntKind.i64 (0 : Int) n)))),
                              SV.lit
                                (Value.int IntKind.i64
                                  (lk nStr
                                    (lk kF
                                      (U.add IntKind.i64 (lk uF (lk ofF a b c) (lk ofB a b c) (lk ofC a b c))
                                        (U.mul IntKind.i64 (lk uB (lk ofF a b c) (lk ofB a b c) (lk ofC a b c))
                                          (U.sub IntKind.i64 (lk ofC a b c) n)))
                                      (lk uB (lk ofF a b c) (lk ofB a b c) (lk ofC a b c))
                                      (U.mm true n (U.sub IntKind.i64 (0 : Int) n)) c)
                                    (lk kB
                                      (U.add IntKind.i64 (lk uF (lk ofF a b c) (lk ofB a b c) (lk ofC a b c))
                                        (U.mul IntKind.i64 (lk uB (lk ofF a b c) (lk ofB a b c) (lk ofC a b c))
                                          (U.sub IntKind.i64 (lk ofC a b c) n)))
                                      (lk uB (lk ofF a b c) (lk ofB a b c) (lk ofC a b c))
                                      (U.mm true n (U.sub IntKind.i64 (0 : Int) n)) c)
                                    (U.mm true n (U.sub IntKind.i64 (0 : Int) n))))],
                          SV.lit
                            (Value.int IntKind.i64
                              (lk nErr
                                (lk kF
                                  (U.add IntKind.i64 (lk uF (lk ofF a b c) (lk ofB a b c) (lk ofC a b c))
                                    (U.mul IntKind.i64 (lk uB (lk ofF a b c) (lk ofB a b c) (lk ofC a b c))
                                      (U.sub IntKind.i64 (lk ofC a b c) n)))
                                  (lk uB (lk ofF a b c) (lk ofB a b c) (lk ofC a b c))
                                  (U.mm true n (U.sub IntKind.i64 (0 : Int) n)) c)
                                (lk kB
                                  (U.add IntKind.i64 (lk uF (lk ofF a b c) (lk ofB a b c) (lk ofC a b c))
                                    (U.mul IntKind.i64 (lk uB (lk ofF a b c) (lk ofB a b c) (lk ofC a b c))
                                      (U.sub IntKind.i64 (lk ofC a b c) n)))
                                  (lk uB (lk ofF a b c) (lk ofB a b c) (lk ofC a b c))
                                  (U.mm true n (U.sub IntKind.i64 (0 : Int) n)) c)
                                (U.mm true n (U.sub IntKind.i64 (0 : Int) n))))]))))
                (T.ask
                  (c < (0 : Int) →
                    U.mm true n (U.sub IntKind.i64 (0 : Int) n) ≠ (0 : Int) →
                      I64 (U.mm true n (U.sub IntKind.i64 (0 : Int) n) - (1 : Int)) ∧
                        I64
                            (lk uB (lk ofF a b c) (lk ofB a b c) (lk ofC a b c) *
                              (U.mm true n (U.sub IntKind.i64 (0 : Int) n) - (1 : Int))) ∧
                          I64
                              (lk uF (lk ofF a b c) (lk ofB a b c) (lk ofC a b c) +
                                lk uB (lk ofF a b c) (lk ofB a b c) (lk ofC a b c) *
                                  (U.mm true n (U.sub IntKind.i64 (0 : Int) n) - (1 : Int))) ∧
                            I64 (-lk uB (lk ofF a b c) (lk ofB a b c) (lk ofC a b c)))
                  (T.ask
                    ((0 : Int) < U.mm true n (U.sub IntKind.i64 (0 : Int) n) →
                      I64 (U.mm true n (U.sub IntKind.i64 (0 : Int) n) - (1 : Int)) ∧
                        I64
                            (lk kB (lk uF (lk ofF a b c) (lk ofB a b c) (lk ofC a b c))
                                (lk uB (lk ofF a b c) (lk ofB a b c) (lk ofC a b c))
                                (U.mm true n (U.sub IntKind.i64 (0 : Int) n)) c *
                              (U.mm true n (U.sub IntKind.i64 (0 : Int) n) - (1 : Int))) ∧
                          I64
                            (lk kF (lk uF (lk ofF a b c) (lk ofB a b c) (lk ofC a b c))
                                (lk uB (lk ofF a b c) (lk ofB a b c) (lk ofC a b c))
                                (U.mm true n (U.sub IntKind.i64 (0 : Int) n)) c +
                              lk kB (lk uF (lk ofF a b c) (lk ofB a b c) (lk ofC a b c))
                                  (lk uB (lk ofF a b c) (lk ofB a b c) (lk ofC a b c))
                                  (U.mm true n (U.sub IntKind.i64 (0 : Int) n)) c *
                                (U.mm true n (U.sub IntKind.i64 (0 : Int) n) - (1 : Int))))
                    (T.ret
                      (SV.tup
                        [SV.agg
                            [SV.lit
                                (Value.int IntKind.i64
                                  (lk nLow
                                    (lk kF (lk uF (lk ofF a b c) (lk ofB a b c) (lk ofC a b c))
                                      (lk uB (lk ofF a b c) (lk ofB a b c) (lk ofC a b c))
                                      (U.mm true n (U.sub IntKind.i64 (0 : Int) n)) c)
                                    (lk kB (lk uF (lk ofF a b c) (lk ofB a b c) (lk ofC a b c))
                                      (lk uB (lk ofF a b c) (lk ofB a b c) (lk ofC a b c))
                                      (U.mm true n (U.sub IntKind.i64 (0 : Int) n)) c)
                                    (U.mm true n (U.sub IntKind.i64 (0 : Int) n)))),
                              SV.lit
                                (Value.int IntKind.i64
                                  (lk nHigh
                                    (lk kF (lk uF (lk ofF a b c) (lk ofB a b c) (lk ofC a b c))
                                      (lk uB (lk ofF a b c) (lk ofB a b c) (lk ofC a b c))
                                      (U.mm true n (U.sub IntKind.i64 (0 : Int) n)) c)
                                    (lk kB (lk uF (lk ofF a b c) (lk ofB a b c) (lk ofC a b c))
                                      (lk uB (lk ofF a b c) (lk ofB a b c) (lk ofC a b c))
                                      (U.mm true n (U.sub IntKind.i64 (0 : Int) n)) c)
                                    (U.mm true n (U.sub IntKind.i64 (0 : Int) n)))),
                              SV.lit
                                (Value.int IntKind.i64
                                  (lk nStr
                                    (lk kF (lk uF (lk ofF a b c) (lk ofB a b c) (lk ofC a b c))
                                      (lk uB (lk ofF a b c) (lk ofB a b c) (lk ofC a b c))
                                      (U.mm true n (U.sub IntKind.i64 (0 : Int) n)) c)
                                    (lk kB (lk uF (lk ofF a b c) (lk ofB a b c) (lk ofC a b c))
                                      (lk uB (lk ofF a b c) (lk ofB a b c) (lk ofC a b c))
                                      (U.mm true n (U.sub IntKind.i64 (0 : Int) n)) c)
                                    (U.mm true n (U.sub IntKind.i64 (0 : Int) n))))],
                          SV.lit
                            (Value.int IntKind.i64
                              (lk nErr
                                (lk kF (lk uF (lk ofF a b c) (lk ofB a b c) (lk ofC a b c))
                                  (lk uB (lk ofF a b c) (lk ofB a b c) (lk ofC a b c))
                                  (U.mm true n (U.sub IntKind.i64 (0 : Int) n)) c)
                                (lk kB (lk uF (lk ofF a b c) (lk ofB a b c) (lk ofC a b c))
                                  (lk uB (lk ofF a b c) (lk ofB a b c) (lk ofC a b c))
                                  (U.mm true n (U.sub IntKind.i64 (0 : Int) n)) c)
                                (U.mm true n (U.sub IntKind.i64 (0 : Int) n))))])))))))))) := by kernel_rfl
set_option maxHeartbeats 1000000 in
theorem Interior_ok : ConOK P 44 c_Interior := con_of (allOK mixed k8_ok) 10 44 fun args r h => by
  unfold c_Interior at h
  split at h
  · rename_i a b c n
    have hp := (T.is_ask h).1
    have h := (T.is_ask h).2
    obtain rfl := T.is_ret h
    rw [t_Interior]
    simp only [T.All, U.le_t, U.le_f, U.lt_t, U.lt_f, U.gt_t, U.gt_f, U.ge_t, U.ge_f, U.eq_t, U.eq_f, U.ne_t, U.ne_f, U.not_t, U.not_f, U.andb_t, U.andb_f, SV.lit.injEq, SV.agg.injEq, SV.tup.injEq, List.cons.injEq, Value.int.injEq, Value.bool.injEq, true_and, and_true, lk_eq, lim_t, lim_f, mm_min, mm_max]
    refine ⟨⟨hp.1, hp.2.1, hp.2.2.1⟩, fun h => ?_, fun h => ⟨of_ask (chk_zero.1 h) hp.1 hp.2.1 hp.2.2.1, ?_⟩⟩
    · simp [inE, inLow, inHigh, inStr, h]
    have hr := chk_zero.1 h
    have hl := hr.1
    have hcb := ofC_bnd hr
    have e0 : U.sub .i64 0 (ofC a b c) = -ofC a b c := by rw [U.sub64 (by unfold I64; omega)]; omega
    rw [e0]
    refine ⟨fun g1 g2 => ?_, fun g => ?_, fun g => ⟨fun g2 => ?_, fun g2 => ?_⟩⟩
    · have hab : a ≤ b := Decidable.byContradiction fun h' => by have := empty_of (c := c) h'; omega
      obtain ⟨s1, s2, s3, s4, s5⟩ := series_of hr hab
      have sl := s5 (ofC a b c - 1) (by omega) (by omega)
      exact ⟨by unfold I64; omega, by unfold I64; omega, by unfold I64; omega, by unfold I64; omega⟩
    · have : n > ofC a b c ∨ n < -ofC a b c := by omega
      simp [inE, inLow, inHigh, inStr, h, this]
    · have : n > ofC a b c ∨ n < -ofC a b c := by omega
      simp [inE, inLow, inHigh, inStr, h, this]
    · have hin : ¬ (n > ofC a b c ∨ n < -ofC a b c) := by omega
      have en : U.sub .i64 0 n = -n := by rw [U.sub64 (by unfold I64; omega)]; omega
      rw [en]
      by_cases hn0 : n = 0
      · subst hn0
        have em : max (0 : Int) (-0) = 0 := by omega
        rw [em]
        refine ⟨fun _ => ⟨fun _ g => absurd rfl g, fun g => by omega, ?_⟩, fun g => by omega⟩
        have hk : chk a b c = 0 := chk_zero.2 hr
        simp [inE, inLow, inHigh, inStr, hk, hin, nLow, nHigh, nStr, nErr]
        omega
      have hab : a ≤ b := Decidable.byContradiction fun h' => by have := empty_of (c := c) h'; omega
      obtain ⟨p1, p2, p3, p4, p5, p6, p7, p8, p9, p10⟩ := parts hr hab
      obtain ⟨u1, u2⟩ := up_of hr hab
      rw [u1, u2]
      have m2 := mulle (x := 0) (y := absI n - 1) p1 (by unfold absI; split <;> omega)
      have m3 := mulle (x := absI n - 1) (y := ofC a b c - 1) p1 (by unfold absI; split <;> omega)
      rw [Int.mul_zero] at m2
      have fin : ∀ f : Int, (a ≤ f ∧ f + absI c * (absI n - 1) ≤ b) → inF a b c n = f → max n (-n) = absI n →
          (c < 0 → max n (-n) ≠ 0 → I64 (max n (-n) - 1) ∧ I64 (absI c * (max n (-n) - 1)) ∧ I64 (f + absI c * (max n (-n) - 1)) ∧ I64 (-absI c)) ∧
          (0 < max n (-n) → I64 (max n (-n) - 1) ∧ I64 (kB f (absI c) (max n (-n)) c * (max n (-n) - 1)) ∧ I64 (kF f (absI c) (max n (-n)) c + kB f (absI c) (max n (-n)) c * (max n (-n) - 1))) ∧
          (nLow (kF f (absI c) (max n (-n)) c) (kB f (absI c) (max n (-n)) c) (max n (-n)) = inLow a b c n ∧ nHigh (kF f (absI c) (max n (-n)) c) (kB f (absI c) (max n (-n)) c) (max n (-n)) = inHigh a b c n ∧
            nStr (kF f (absI c) (max n (-n)) c) (kB f (absI c) (max n (-n)) c) (max n (-n)) = inStr a b c n) ∧ nErr (kF f (absI c) (max n (-n)) c) (kB f (absI c) (max n (-n)) c) (max n (-n)) = inE a b c n := fun f hf eF em => by
        rw [em]
        obtain ⟨q1, q2, q3, q4⟩ := nrm_like (f := f) (s := absI c) (C := absI n) (c := c) p1
        have hb : absI n ≤ 2000001 ∧ 0 < absI n := by unfold absI; split <;> omega
        obtain ⟨l1, l2⟩ := like_bnd (f := f) (s := absI c) (C := absI n) (c := c) (by omega)
        rw [q1, q2, q3, q4]
        simp only [inE, inLow, inHigh, inStr, h, ne_eq, not_true_eq_false, if_false, if_neg hin, if_neg hn0, eF, and_self, and_true]
        exact ⟨fun _ _ => ⟨by unfold I64; omega, by unfold I64; omega, by unfold I64; omega, by unfold I64; omega⟩, fun _ => ⟨by unfold I64; omega, by unfold I64; omega, by unfold I64; omega⟩⟩
      refine ⟨fun g => ?_, fun g => ?_⟩
      · have ea : absI n = n := absI_pos (by omega)
        have m4 : absI c * (ofC a b c - 1) = absI c * (ofC a b c - n) + absI c * (absI n - 1) := by rw [ea, ← Int.mul_add]; congr 1; omega
        have m5 := mulle (x := 0) (y := ofC a b c - n) p1 (by omega)
        rw [Int.mul_zero] at m5
        rw [U.sub64 (a := ofC a b c) (b := n) (by unfold I64; omega), U.mul64 (by unfold I64; omega), U.add64 (by unfold I64; omega)]
        exact fin _ (by omega) (by unfold inF; rw [if_pos g]) (by omega)
      · have ea : absI n = -n := absI_neg (by omega)
        exact fin _ (by omega) (by unfold inF; rw [if_neg (by omega)]) (by omega)
  · exact h.elim
set_option maxRecDepth 100000 in
theorem t_rInterior (a b c n : Int) : conB Go.Proofs.Try.prog (conOf k8) noLoops 10 45 [.agg [.lit (.int .i64 a), .lit (.int .i64 b), .lit (.int .i64 c)], .lit (.int .i64 n)] =
    T.ask (I64 a ∧ I64 b ∧ I64 c)
    (T.br (U.ne (lk chk a b c) (0 : Int))
      (T.ret
        (SV.tup
          [SV.agg
              [SV.lit (Value.int IntKind.i64 (0 : Int)), SV.lit (Value.int IntKind.i64 (0 : Int)),
                SV.lit (Value.int IntKind.i64 (0 : Int))],
            SV.lit (Value.int IntKind.i64 (lk chk a b c))]))
      (T.ask (I64 a ∧ I64 b ∧ I64 c)
        (T.br (U.gt n (lk size a b c))
          (T.ret
            (SV.tup
              [SV.agg
                  [SV.lit (Value.int IntKind.i64 (0 : Int)), SV.lit (Value.int IntKind.i64 (0 : Int)),
                    SV.lit (Value.int IntKind.i64 (0 : Int))],
                SV.lit (Value.int IntKind.i64 (5 : Int))]))
          (T.br (U.lt n (U.sub IntKind.i64 (0 : Int) (lk size a b c)))
            (T.ret
              (SV.tup
                [SV.agg
                    [SV.lit (Value.int IntKind.i64 (0 : Int)), SV.lit (Value.int IntKind.i64 (0 : Int)),
                      SV.lit (Value.int IntKind.i64 (0 : Int))],
                  SV.lit (Value.int IntKind.i64 (5 : Int))]))
            (T.br (U.gt n (0 : Int))
              (T.ask (I64 (-c))
                (T.ask (I64 (-c))
                  (T.ask
                    (U.sub IntKind.i64 b (U.mul IntKind.i64 (U.sub IntKind.i64 n (1 : Int)) (lk absI c)) < b →
                      U.lt c (0 : Int) = true → I64 (-lk absI c))
                    (T.ret
                      (SV.tup
                        [SV.agg
                            [SV.lit
                                (Value.int IntKind.i64
                                  (lk rnL
                                    (U.sub IntKind.i64 b
                                      (U.mul IntKind.i64 (U.sub IntKind.i64 n (1 : Int)) (lk absI c)))
                                    b (lk absI c) (U.lt c (0 : Int)))),
                              SV.lit
                                (Value.int IntKind.i64
                                  (lk rnH
                                    (U.sub IntKind.i64 b
                                      (U.mul IntKind.i64 (U.sub IntKind.i64 n (1 : Int)) (lk absI c)))
                                    b (lk absI c) (U.lt c (0 : Int)))),
                              SV.lit
                                (Value.int IntKind.i64
                                  (lk rnS
                                    (U.sub IntKind.i64 b
                                      (U.mul IntKind.i64 (U.sub IntKind.i64 n (1 : Int)) (lk absI c)))
                                    b (lk absI c) (U.lt c (0 : Int))))],
                          SV.lit (Value.int IntKind.i64 (0 : Int))])))))
              (T.br (U.lt n (0 : Int))
                (T.ask (I64 (-c))
                  (T.ask (I64 (-c))
                    (T.ask
                      (a <
                          U.add IntKind.i64 a
                            (U.mul IntKind.i64 (U.sub IntKind.i64 (U.sub IntKind.i64 (0 : Int) n) (1 : Int))
                              (lk absI c)) →
                        U.lt c (0 : Int) = true → I64 (-lk absI c))
                      (T.ret
                        (SV.tup
                          [SV.agg
                              [SV.lit
                                  (Value.int IntKind.i64
                                    (lk rnL a
                                      (U.add IntKind.i64 a
                                        (U.mul IntKind.i64 (U.sub IntKind.i64 (U.sub IntKind.i64 (0 : Int) n) (1 : Int))
                                          (lk absI c)))
                                      (lk absI c) (U.lt c (0 : Int)))),
                                SV.lit
                                  (Value.int IntKind.i64
                                    (lk rnH a
                                      (U.add IntKind.i64 a
                                        (U.mul IntKind.i64 (U.sub IntKind.i64 (U.sub IntKind.i64 (0 : Int) n) (1 : Int))
                                          (lk absI c)))
                                      (lk absI c) (U.lt c (0 : Int)))),
                                SV.lit
                                  (Value.int IntKind.i64
                                    (lk rnS a
                                      (U.add IntKind.i64 a
                                        (U.mul IntKind.i64 (U.sub IntKind.i64 (U.sub IntKind.i64 (0 : Int) n) (1 : Int))
                                          (lk absI c)))
                                      (lk absI c) (U.lt c (0 : Int))))],
                            SV.lit (Value.int IntKind.i64 (0 : Int))])))))
                (T.ret
                  (SV.tup
                    [SV.agg
                        [SV.lit (Value.int IntKind.i64 (1 : Int)), SV.lit (Value.int IntKind.i64 (0 : Int)),
                          SV.lit (Value.int IntKind.i64 (1 : Int))],
                      SV.lit (Value.int IntKind.i64 (0 : Int))])))))))) := by kernel_rfl
set_option maxHeartbeats 1000000 in
theorem rInterior_ok : ConOK P 45 c_Interior := con_of (allOK mixed k8_ok) 10 45 fun args r h => by
  unfold c_Interior at h
  split at h
  · rename_i a b c n
    have hp := (T.is_ask h).1
    have h := (T.is_ask h).2
    obtain rfl := T.is_ret h
    rw [t_rInterior]
    simp only [T.All, U.le_t, U.le_f, U.lt_t, U.lt_f, U.gt_t, U.gt_f, U.ge_t, U.ge_f, U.eq_t, U.eq_f, U.ne_t, U.ne_f, U.not_t, U.not_f, U.andb_t, U.andb_f, SV.lit.injEq, SV.agg.injEq, SV.tup.injEq, List.cons.injEq, Value.int.injEq, Value.bool.injEq, true_and, and_true, lk_eq, lim_t, lim_f]
    have hp3 : I64 a ∧ I64 b ∧ I64 c := ⟨hp.1, hp.2.1, hp.2.2.1⟩
    refine ⟨hp3, fun h => ?_, fun h => ⟨hp3, ?_⟩⟩
    · simp [inE, inLow, inHigh, inStr, h]
    have hr := chk_zero.1 h
    have hl := hr.1
    have hcb := ofC_bnd hr
    have e0 : U.sub .i64 0 (ofC a b c) = -ofC a b c := by rw [U.sub64 (by unfold I64; omega)]; omega
    rw [size_eq' hr, e0]
    refine ⟨fun g => ?_, fun g => ⟨fun g2 => ?_, fun g2 => ?_⟩⟩
    · have : n > ofC a b c ∨ n < -ofC a b c := by omega
      simp [inE, inLow, inHigh, inStr, h, this]
    · have : n > ofC a b c ∨ n < -ofC a b c := by omega
      simp [inE, inLow, inHigh, inStr, h, this]
    have hin : ¬ (n > ofC a b c ∨ n < -ofC a b c) := by omega
    by_cases hn0 : n = 0
    · have hk := h
      subst hn0
      refine ⟨fun g => by omega, fun g => ⟨fun g => by omega, fun g => ?_⟩⟩
      simp [inE, inLow, inHigh, inStr, hk, hin]
      omega
    have hab : a ≤ b := Decidable.byContradiction fun h' => by have := empty_of (c := c) h'; omega
    obtain ⟨p1, p2, p3, p4, p5, p6, p7, p8, p9, p10⟩ := parts hr hab
    have hc5 : I64 (-c) := by unfold I64; omega
    have m2 := mulle (x := 0) (y := absI n - 1) p1 (by unfold absI; split <;> omega)
    have m3 := mulle (x := absI n - 1) (y := ofC a b c - 1) p1 (by unfold absI; split <;> omega)
    rw [Int.mul_zero] at m2
    have n1 : 1 ≤ absI n := by unfold absI; split <;> omega
    have main : ∀ f hi : Int, inF a b c n = f → hi = f + absI c * (absI n - 1) → a ≤ f → hi ≤ b →
        (rnL f hi (absI c) (U.lt c 0) = inLow a b c n ∧ rnH f hi (absI c) (U.lt c 0) = inHigh a b c n ∧ rnS f hi (absI c) (U.lt c 0) = inStr a b c n) ∧ 0 = inE a b c n := fun f hi eF eh b1 b2 => by
      have e : mvE f (absI c) (absI n) = 0 := by unfold mvE; rw [if_neg (by omega), if_pos (by omega)]
      simp only [inE, inLow, inHigh, inStr, h, ne_eq, not_true_eq_false, if_false, if_neg hin, if_neg hn0, eF]
      rw [eh]
      exact ⟨rn_mv p1 n1 e _ (U.lt_eq c 0), e.symm⟩
    refine ⟨fun g => ⟨hc5, hc5, ?_⟩, fun g => ⟨fun g3 => ⟨hc5, hc5, ?_⟩, fun g3 => by omega⟩⟩
    · have ea : absI n = n := absI_pos (by omega)
      have m4 : absI c * (ofC a b c - 1) = absI c * (ofC a b c - n) + absI c * (absI n - 1) := by rw [ea, ← Int.mul_add]; congr 1; omega
      rw [ea] at m2 m3 m4 n1 main
      have ec : (n - 1) * absI c = absI c * (n - 1) := Int.mul_comm _ _
      rw [U.sub64 (a := n) (b := 1) (by unfold I64; omega), U.mul64 (by rw [ec]; unfold I64; omega), ec, U.sub64 (by unfold I64; omega)]
      exact ⟨fun _ _ => by unfold I64; omega, main _ _ (by unfold inF; rw [if_pos (by omega)]; omega) (by omega) (by omega) (by omega)⟩
    · have ea : absI n = -n := absI_neg (by omega)
      rw [ea] at m2 m3 n1 main
      have en : U.sub .i64 0 n = -n := by rw [U.sub64 (by unfold I64; omega)]; omega
      have ec : (-n - 1) * absI c = absI c * (-n - 1) := Int.mul_comm _ _
      rw [en, U.sub64 (a := -n) (b := 1) (by unfold I64; omega), U.mul64 (by rw [ec]; unfold I64; omega), ec, U.add64 (by unfold I64; omega)]
      exact ⟨fun _ _ => by unfold I64; omega, main _ _ (by unfold inF; rw [if_neg (by omega)]) (by omega) (by omega) (by omega)⟩
  · exact h.elim
end Go.RX.Span
