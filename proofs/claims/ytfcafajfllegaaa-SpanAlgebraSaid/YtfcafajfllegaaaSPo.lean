/- Ranges: Expand of the program and of the reference. -/
import Derived.Test.YtfcafajfllegaaaSPn
set_option linter.unusedVariables false
set_option linter.unusedSimpArgs false
set_option maxRecDepth 100000
namespace Go.RX.Span
open Go Go.RX

def exC (a b c n : Int) : Int := if n < -ofC a b c then 0 else max (ofC a b c + 2 * n) 0
def exE (a b c n : Int) : Int := if chk a b c ≠ 0 then chk a b c else if a > b then 0 else if n > 2000000 then 4 else mvE (a - n * absI c) (absI c) (exC a b c n)
def exLow (a b c n : Int) : Int := if chk a b c ≠ 0 then 0 else if a > b then 1 else if n > 2000000 then 0 else mvLow (a - n * absI c) (absI c) (exC a b c n)
def exHigh (a b c n : Int) : Int := if chk a b c ≠ 0 then 0 else if a > b then 0 else if n > 2000000 then 0 else mvHigh (a - n * absI c) (absI c) (exC a b c n)
def exStr (a b c n : Int) : Int := if chk a b c ≠ 0 then 0 else if a > b then 1 else if n > 2000000 then 0 else mvStr (a - n * absI c) (absI c) (exC a b c n) c
noncomputable def c_Expand : Con := fun args => match args with
  | [.agg [.lit (.int .i64 a), .lit (.int .i64 b), .lit (.int .i64 c)], .lit (.int .i64 n)] =>
    .ask (I64 a ∧ I64 b ∧ I64 c ∧ I64 n) (.ret (.tup [.agg [.lit (.int .i64 (lk exLow a b c n)), .lit (.int .i64 (lk exHigh a b c n)), .lit (.int .i64 (lk exStr a b c n))], .lit (.int .i64 (lk exE a b c n))]))
  | _ => .stuck 1

set_option maxRecDepth 100000 in
theorem t_Expand (a b c n : Int) : conB Go.Proofs.Try.prog (conOf k8) noLoops 10 42 [.agg [.lit (.int .i64 a), .lit (.int .i64 b), .lit (.int .i64 c)], .lit (.int .i64 n)] =
    T.ask (I64 a ∧ I64 b ∧ I64 c)
    (T.br (U.ne (lk chk a b c) (0 : Int))
      (T.ret
        (SV.tup
          [SV.agg
              [SV.lit (Value.int IntKind.i64 (0 : Int)), SV.lit (Value.int IntKind.i64 (0 : Int)),
                SV.lit (Value.int IntKind.i64 (0 : Int))],
            SV.lit (Value.int IntKind.i64 (lk chk a b c))]))
      (T.ask
        (a ≤ b →
          c ≠ (0 : Int) ∧
            (-9223372036854775807 : Int) ≤ c ∧ b - a < (9223372036854775807 : Int) ∧ I64 a ∧ I64 b ∧ I64 c)
        (T.ask
          (lk ofB a b c < (0 : Int) →
            lk ofC a b c ≠ (0 : Int) →
              I64 (lk ofC a b c - (1 : Int)) ∧
                I64 (lk ofB a b c * (lk ofC a b c - (1 : Int))) ∧
                  I64 (lk ofF a b c + lk ofB a b c * (lk ofC a b c - (1 : Int))) ∧ I64 (-lk ofB a b c))
          (T.br (U.eq (lk ofC a b c) (0 : Int))
            (T.ask
              ((0 : Int) < lk ofC a b c →
                I64 (lk ofC a b c - (1 : Int)) ∧
                  I64 (lk uB (lk ofF a b c) (lk ofB a b c) (lk ofC a b c) * (lk ofC a b c - (1 : Int))) ∧
                    I64
                      (lk uF (lk ofF a b c) (lk ofB a b c) (lk ofC a b c) +
                        lk uB (lk ofF a b c) (lk ofB a b c) (lk ofC a b c) * (lk ofC a b c - (1 : Int))))
              (T.ret
                (SV.tup
                  [SV.agg
                      [SV.lit
                          (Value.int IntKind.i64
                            (lk nLow (lk uF (lk ofF a b c) (lk ofB a b c) (lk ofC a b c))
                              (lk uB (lk ofF a b c) (lk ofB a b c) (lk ofC a b c)) (lk ofC a b c))),
                        SV.lit
                          (Value.int IntKind.i64
                            (lk nHigh (lk uF (lk ofF a b c) (lk ofB a b c) (lk ofC a b c))
                              (lk uB (lk ofF a b c) (lk ofB a b c) (lk ofC a b c)) (lk ofC a b c))),
                        SV.lit
                          (Value.int IntKind.i64
                            (lk nStr (lk uF (lk ofF a b c) (lk ofB a b c) (lk ofC a b c))
                              (lk uB (lk ofF a b c) (lk ofB a b c) (lk ofC a b c)) (lk ofC a b c)))],
                    SV.lit
                      (Value.int IntKind.i64
                        (lk nErr (lk uF (lk ofF a b c) (lk ofB a b c) (lk ofC a b c))
                          (lk uB (lk ofF a b c) (lk ofB a b c) (lk ofC a b c)) (lk ofC a b c)))])))
            (T.br (U.gt n (2000000 : Int))
              (T.ret
                (SV.tup
                  [SV.agg
                      [SV.lit (Value.int IntKind.i64 (0 : Int)), SV.lit (Value.int IntKind.i64 (0 : Int)),
                        SV.lit (Value.int IntKind.i64 (0 : Int))],
                    SV.lit (Value.int IntKind.i64 (4 : Int))]))
              (T.br (U.lt n (U.sub IntKind.i64 (0 : Int) (lk ofC a b c)))
                (T.ask
                  (c < (0 : Int) →
                    (0 : Int) ≠ (0 : Int) →
                      I64 ((0 : Int) - (1 : Int)) ∧
                        I64 ((0 : Int) * ((0 : Int) - (1 : Int))) ∧
                          I64 ((0 : Int) + (0 : Int) * ((0 : Int) - (1 : Int))) ∧ I64 (-0 : Int))
                  (T.ask
                    ((0 : Int) < (0 : Int) →
                      I64 ((0 : Int) - (1 : Int)) ∧
                        I64 (lk kB (0 : Int) (0 : Int) (0 : Int) c * ((0 : Int) - (1 : Int))) ∧
                          I64
                            (lk kF (0 : Int) (0 : Int) (0 : Int) c +
                              lk kB (0 : Int) (0 : Int) (0 : Int) c * ((0 : Int) - (1 : Int))))
                    (T.ret
                      (SV.tup
                        [SV.agg
                            [SV.lit
                                (Value.int IntKind.i64
                                  (lk nLow (lk kF (0 : Int) (0 : Int) (0 : Int) c)
                                    (lk kB (0 : Int) (0 : Int) (0 : Int) c) (0 : Int))),
                              SV.lit
                                (Value.int IntKind.i64
                                  (lk nHigh (lk kF (0 : Int) (0 : Int) (0 : Int) c)
                                    (lk kB (0 : Int) (0 : Int) (0 : Int) c) (0 : Int))),
                              SV.lit
                                (Value.int IntKind.i64
                                  (lk nStr (lk kF (0 : Int) (0 : Int) (0 : Int) c)
                                    (lk kB (0 : Int) (0 : Int) (0 : Int) c) (0 : Int)))],
                          SV.lit
                            (Value.int IntKind.i64
                              (lk nErr (lk kF (0 : Int) (0 : Int) (0 : Int) c) (lk kB (0 : Int) (0 : Int) (0 : Int) c)
                                (0 : Int)))]))))
                (T.ask
                  (c < (0 : Int) →
                    U.mm true (U.add IntKind.i64 (lk ofC a b c) (U.mul IntKind.i64 (2 : Int) n)) (0 : Int) ≠ (0 : Int) →
                      I64
                          (U.mm true (U.add IntKind.i64 (lk ofC a b c) (U.mul IntKind.i64 (2 : Int) n)) (0 : Int) -
                            (1 : Int)) ∧
                        I64
                            (lk uB (lk ofF a b c) (lk ofB a b c) (lk ofC a b c) *
                              (U.mm true (U.add IntKind.i64 (lk ofC a b c) (U.mul IntKind.i64 (2 : Int) n)) (0 : Int) -
                                (1 : Int))) ∧
                          I64
                              (U.sub IntKind.i64 (lk uF (lk ofF a b c) (lk ofB a b c) (lk ofC a b c))
                                  (U.mul IntKind.i64 n (lk uB (lk ofF a b c) (lk ofB a b c) (lk ofC a b c))) +
                                lk uB (lk ofF a b c) (lk ofB a b c) (lk ofC a b c) *
                                  (U.mm true (U.add IntKind.i64 (lk ofC a b c) (U.mul IntKind.i64 (2 : Int) n))
                                      (0 : Int) -
                                    (1 : Int))) ∧
                            I64 (-lk uB (lk ofF a b c) (lk ofB a b c) (lk ofC a b c)))
                  (T.ask
                    ((0 : Int) <
                        U.mm true (U.add IntKind.i64 (lk ofC a b c) (U.mul IntKind.i64 (2 : Int) n)) (0 : Int) →
                      I64
                          (U.mm true (U.add IntKind.i64 (lk ofC a b c) (U.mul IntKind.i64 (2 : Int) n)) (0 : Int) -
                            (1 : Int)) ∧
                        I64
                            (lk kB
                                (U.sub IntKind.i64 (lk uF (lk ofF a b c) (lk ofB a b c) (lk ofC a b c))
                                  (U.mul IntKind.i64 n (lk uB (lk ofF a b c) (lk ofB a b c) (lk ofC a b c))))
                                (lk uB (lk ofF a b c) (lk ofB a b c) (lk ofC a b c))
                                (U.mm true (U.add IntKind.i64 (lk ofC a b c) (U.mul IntKind.i64 (2 : Int) n)) (0 : Int))
                                c *
                              (U.mm true (U.add IntKind.i64 (lk ofC a b c) (U.mul IntKind.i64 (2 : Int) n)) (0 : Int) -
                                (1 : Int))) ∧
                          I64
                            (lk kF
                                (U.sub IntKind.i64 (lk uF (lk ofF a b c) (lk ofB a b c) (lk ofC a b c))
                                  (U.mul IntKind.i64 n (lk uB (lk ofF a b c) (lk ofB a b c) (lk ofC a b c))))
                                (lk uB (lk ofF a b c) (lk ofB a b c) (lk ofC a b c))
                                (U.mm true (U.add IntKind.i64 (lk ofC a b c) (U.mul IntKind.i64 (2 : Int) n)) (0 : Int))
                                c +
                              lk kB
                                  (U.sub IntKind.i64 (lk uF (lk ofF a b c) (lk ofB a b c) (lk ofC a b c))
                                    (U.mul IntKind.i64 n (lk uB (lk ofF a b c) (lk ofB a b c) (lk ofC a b c))))
                                  (lk uB (lk ofF a b c) (lk ofB a b c) (lk ofC a b c))
                                  (U.mm true (U.add IntKind.i64 (lk ofC a b c) (U.mul IntKind.i64 (2 : Int) n))
                                    (0 : Int))
                                  c *
                                (U.mm true (U.add IntKind.i64 (lk ofC a b c) (U.mul IntKind.i64 (2 : Int) n))
                                    (0 : Int) -
                                  (1 : Int))))
                    (T.ret
                      (SV.tup
                        [SV.agg
                            [SV.lit
                                (Value.int IntKind.i64
                                  (lk nLow
                                    (lk kF
                                      (U.sub IntKind.i64 (lk uF (lk ofF a b c) (lk ofB a b c) (lk ofC a b c))
                                        (U.mul IntKind.i64 n (lk uB (lk ofF a b c) (lk ofB a b c) (lk ofC a b c))))
                                      (lk uB (lk ofF a b c) (lk ofB a b c) (lk ofC a b c))
                                      (U.mm true (U.add IntKind.i64 (lk ofC a b c) (U.mul IntKind.i64 (2 : Int) n))
                                        (0 : Int))
                                      c)
                                    (lk kB
                                      (U.sub IntKind.i64 (lk uF (lk ofF a b c) (lk ofB a b c) (lk ofC a b c))
                                        (U.mul IntKind.i64 n (lk uB (lk ofF a b c) (lk ofB a b c) (lk ofC a b c))))
                                      (lk uB (lk ofF a b c) (lk ofB a b c) (lk ofC a b c))
                                      (U.mm true (U.add IntKind.i64 (lk ofC a b c) (U.mul IntKind.i64 (2 : Int) n))
                                        (0 : Int))
                                      c)
                                    (U.mm true (U.add IntKind.i64 (lk ofC a b c) (U.mul IntKind.i64 (2 : Int) n))
                                      (0 : Int)))),
                              SV.lit
                                (Value.int IntKind.i64
                                  (lk nHigh
                                    (lk kF
                                      (U.sub IntKind.i64 (lk uF (lk ofF a b c) (lk ofB a b c) (lk ofC a b c))
                                        (U.mul IntKind.i64 n (lk uB (lk ofF a b c) (lk ofB a b c) (lk ofC a b c))))
                                      (lk uB (lk ofF a b c) (lk ofB a b c) (lk ofC a b c))
                                      (U.mm true (U.add IntKind.i64 (lk ofC a b c) (U.mul IntKind.i64 (2 : Int) n))
                                        (0 : Int))
                                      c)
                                    (lk kB
                                      (U.sub IntKind.i64 (lk uF (lk ofF a b c) (lk ofB a b c) (lk ofC a b c))
                                        (U.mul IntKind.i64 n (lk uB (lk ofF a b c) (lk ofB a b c) (lk ofC a b c))))
                                      (lk uB (lk ofF a b c) (lk ofB a b c) (lk ofC a b c))
                                      (U.mm true (U.add IntKind.i64 (lk ofC a b c) (U.mul IntKind.i64 (2 : Int) n))
                                        (0 : Int))
                                      c)
                                    (U.mm true (U.add IntKind.i64 (lk ofC a b c) (U.mul IntKind.i64 (2 : Int) n))
                                      (0 : Int)))),
                              SV.lit
                                (Value.int IntKind.i64
                                  (lk nStr
                                    (lk kF
                                      (U.sub IntKind.i64 (lk uF (lk ofF a b c) (lk ofB a b c) (lk ofC a b c))
                                        (U.mul IntKind.i64 n (lk uB (lk ofF a b c) (lk ofB a b c) (lk ofC a b c))))
                                      (lk uB (lk ofF a b c) (lk ofB a b c) (lk ofC a b c))
                                      (U.mm true (U.add IntKind.i64 (lk ofC a b c) (U.mul IntKind.i64 (2 : Int) n))
                                        (0 : Int))
                                      c)
                                    (lk kB
                                      (U.sub IntKind.i64 (lk uF (lk ofF a b c) (lk ofB a b c) (lk ofC a b c))
                                        (U.mul IntKind.i64 n (lk uB (lk ofF a b c) (lk ofB a b c) (lk ofC a b c))))
                                      (lk uB (lk ofF a b c) (lk ofB a b c) (lk ofC a b c))
                                      (U.mm true (U.add IntKind.i64 (lk ofC a b c) (U.mul IntKind.i64 (2 : Int) n))
                                        (0 : Int))
                                      c)
                                    (U.mm true (U.add IntKind.i64 (lk ofC a b c) (U.mul IntKind.i64 (2 : Int) n))
                                      (0 : Int))))],
                          SV.lit
                            (Value.int IntKind.i64
                              (lk nErr
                                (lk kF
                                  (U.sub IntKind.i64 (lk uF (lk ofF a b c) (lk ofB a b c) (lk ofC a b c))
                                    (U.mul IntKind.i64 n (lk uB (lk ofF a b c) (lk ofB a b c) (lk ofC a b c))))
                                  (lk uB (lk ofF a b c) (lk ofB a b c) (lk ofC a b c))
                                  (U.mm true (U.add IntKind.i64 (lk ofC a b c) (U.mul IntKind.i64 (2 : Int) n))
                                    (0 : Int))
                                  c)
                                (lk kB
                                  (U.sub IntKind.i64 (lk uF (lk ofF a b c) (lk ofB a b c) (lk ofC a b c))
                                    (U.mul IntKind.i64 n (lk uB (lk ofF a b c) (lk ofB a b c) (lk ofC a b c))))
                                  (lk uB (lk ofF a b c) (lk ofB a b c) (lk ofC a b c))
                                  (U.mm true (U.add IntKind.i64 (lk ofC a b c) (U.mul IntKind.i64 (2 : Int) n))
                                    (0 : Int))
                                  c)
                                (U.mm true (U.add IntKind.i64 (lk ofC a b c) (U.mul IntKind.i64 (2 : Int) n))
                                  (0 : Int))))])))))))))) := by kernel_rfl
set_option maxHeartbeats 1000000 in
theorem Expand_ok : ConOK P 42 c_Expand := con_of (allOK mixed k8_ok) 10 42 fun args r h => by
  unfold c_Expand at h
  split at h
  · rename_i a b c n
    have hp := (T.is_ask h).1
    have h := (T.is_ask h).2
    obtain rfl := T.is_ret h
    rw [t_Expand]
    simp only [T.All, U.le_t, U.le_f, U.lt_t, U.lt_f, U.gt_t, U.gt_f, U.ge_t, U.ge_f, U.eq_t, U.eq_f, U.ne_t, U.ne_f, U.not_t, U.not_f, U.andb_t, U.andb_f, SV.lit.injEq, SV.agg.injEq, SV.tup.injEq, List.cons.injEq, Value.int.injEq, Value.bool.injEq, true_and, and_true, lk_eq, lim_t, lim_f, mm_min, mm_max]
    refine ⟨⟨hp.1, hp.2.1, hp.2.2.1⟩, fun h => ?_, fun h => ⟨of_ask (chk_zero.1 h) hp.1 hp.2.1 hp.2.2.1, ?_⟩⟩
    · simp [exE, exLow, exHigh, exStr, h]
    have hr := chk_zero.1 h
    have hl := hr.1
    by_cases hab : a ≤ b
    · obtain ⟨p1, p2, p3, p4, p5, p6, p7, p8, p9, p10⟩ := parts hr hab
      obtain ⟨u1, u2⟩ := up_of hr hab
      obtain ⟨s1, s2, s3, s4, s5⟩ := series_of hr hab
      have sl := s5 (ofC a b c - 1) (by omega) (by omega)
      rw [u1, u2]
      have m1 : I64 (ofB a b c * (ofC a b c - 1)) := by unfold I64; omega
      have n1 : ¬ a > b := by omega
      have e0 : U.sub .i64 0 (ofC a b c) = -ofC a b c := by rw [U.sub64 (by unfold I64; omega)]; omega
      rw [e0]
      refine ⟨fun _ _ => ⟨by unfold I64; omega, m1, by unfold I64; omega, by unfold I64; omega⟩, fun g => by omega, fun _ => ⟨fun g => ?_, fun g => ⟨fun g2 => ?_, fun g2 => ?_⟩⟩⟩
      · simp [exE, exLow, exHigh, exStr, h, n1, g]
      all_goals
        have n2 : ¬ n > 2000000 := by omega
      · refine ⟨fun _ g => absurd rfl g, fun g => by omega, ?_⟩
        have eC : exC a b c n = 0 := by unfold exC; rw [if_pos g2]
        simp [exE, exLow, exHigh, exStr, h, n1, n2, eC, mvE, mvLow, mvHigh, mvStr, nLow, nHigh, nStr, nErr]
      · have eC : exC a b c n = max (ofC a b c + 2 * n) 0 := by unfold exC; rw [if_neg (by omega)]
        have mb := mul_bnd (x := n) (y := absI c) (X := 2000001) (Y := 2000000) (by omega) (by omega)
        have ed : absI c * (ofC a b c + 2 * n - 1) = absI c * (ofC a b c - 1) + 2 * (n * absI c) := by
          rw [show ofC a b c + 2 * n - 1 = (ofC a b c - 1) + 2 * n by omega, Int.mul_add, Int.mul_comm (absI c) (2 * n), Int.mul_assoc]
        rw [U.mul64 (a := 2) (b := n) (by unfold I64; omega), U.add64 (a := ofC a b c) (b := 2 * n) (by unfold I64; omega), U.mul64 (a := n) (b := absI c) (by unfold I64; omega), U.sub64 (by unfold I64; omega)]
        obtain ⟨q1, q2, q3, q4⟩ := nrm_like (f := a - n * absI c) (s := absI c) (C := max (ofC a b c + 2 * n) 0) (c := c) p1
        rw [q1, q2, q3, q4]
        simp only [exE, exLow, exHigh, exStr, h, ne_eq, not_true_eq_false, if_false, if_neg n1, if_neg n2, eC, and_self, and_true]
        have em : max (ofC a b c + 2 * n) 0 ≠ 0 → max (ofC a b c + 2 * n) 0 = ofC a b c + 2 * n := fun g => by omega
        refine ⟨fun _ g => ?_, fun g => ?_⟩
        · rw [em g, ed]
          exact ⟨by unfold I64; omega, by unfold I64; omega, by unfold I64; omega, by unfold I64; omega⟩
        · obtain ⟨l1, l2⟩ := like_bnd (f := a - n * absI c) (s := absI c) (C := max (ofC a b c + 2 * n) 0) (c := c) (by omega)
          rw [em (by omega)] at l1 l2 ⊢
          rw [ed] at l1 l2
          exact ⟨by unfold I64; omega, by unfold I64; omega, by unfold I64; omega⟩
    · obtain ⟨f1, f2, f3⟩ := empty_of (c := c) hab
      rw [f1, f2, f3]
      refine ⟨fun g => absurd g (by omega), fun _ => ⟨fun g => absurd g (by omega), ?_⟩, fun g => absurd rfl g⟩
      have n1 : a > b := by omega
      simp [nLow, nHigh, nStr, nErr, exE, exLow, exHigh, exStr, h, n1]
  · exact h.elim

/-- The reference's last step: a range, if its numbers are in the limits. -/
theorem lim_tail {f hi s C c : Int} (hs : 1 ≤ s) (hs2 : s ≤ 2000000) (hC : 1 ≤ C) (hh : hi = f + s * (C - 1)) :
    (f ≤ hi → (f < -1000000 ∨ 1000000 < f → (0 = mvLow f s C ∧ 0 = mvHigh f s C ∧ 0 = mvStr f s C c) ∧ 4 = mvE f s C) ∧
      (-1000000 ≤ f ∧ f ≤ 1000000 → (hi < -1000000 ∨ 1000000 < hi → (0 = mvLow f s C ∧ 0 = mvHigh f s C ∧ 0 = mvStr f s C c) ∧ 4 = mvE f s C) ∧
        (-1000000 ≤ hi ∧ hi ≤ 1000000 → (f < hi → c < 0 → I64 (-s)) ∧ (rnL f hi s (U.lt c 0) = mvLow f s C ∧ rnH f hi s (U.lt c 0) = mvHigh f s C ∧ rnS f hi s (U.lt c 0) = mvStr f s C c) ∧ 0 = mvE f s C))) ∧
    (hi < f → (f < hi → c < 0 → I64 (-s)) ∧ (rnL f hi s (U.lt c 0) = mvLow f s C ∧ rnH f hi s (U.lt c 0) = mvHigh f s C ∧ rnS f hi s (U.lt c 0) = mvStr f s C c) ∧ 0 = mvE f s C) := by
  have h0 := mulle (x := 0) (y := C - 1) hs (by omega)
  rw [Int.mul_zero] at h0
  have n3 : ¬ C ≤ 0 := by omega
  have bad : mvE f s C = 4 → (0 = mvLow f s C ∧ 0 = mvHigh f s C ∧ 0 = mvStr f s C c) ∧ 4 = mvE f s C := fun e => by
    simp [mvLow, mvHigh, mvStr, e, n3]
  refine ⟨fun _ => ⟨fun g => bad ?_, fun g1 => ⟨fun g => bad ?_, fun g2 => ⟨fun _ _ => by unfold I64; omega, ?_, ?_⟩⟩⟩, fun g => by omega⟩
  · unfold mvE; rw [if_neg n3, if_neg (by omega)]
  · unfold mvE; rw [if_neg n3, if_neg (by omega)]
  all_goals
    have e : mvE f s C = 0 := by unfold mvE; rw [if_neg n3, if_pos (by omega)]
  · rw [hh]
    exact rn_mv hs hC e _ (U.lt_eq c 0)
  · exact e.symm

set_option maxRecDepth 100000 in
theorem t_rExpand (a b c n : Int) : conB Go.Proofs.Try.prog (conOf k8) noLoops 10 43 [.agg [.lit (.int .i64 a), .lit (.int .i64 b), .lit (.int .i64 c)], .lit (.int .i64 n)] =
    T.ask (I64 a ∧ I64 b ∧ I64 c)
    (T.br (U.ne (lk chk a b c) (0 : Int))
      (T.ret
        (SV.tup
          [SV.agg
              [SV.lit (Value.int IntKind.i64 (0 : Int)), SV.lit (Value.int IntKind.i64 (0 : Int)),
                SV.lit (Value.int IntKind.i64 (0 : Int))],
            SV.lit (Value.int IntKind.i64 (lk chk a b c))]))
      (T.br (lk isE a b c)
        (T.ret
          (SV.tup
            [SV.agg
                [SV.lit (Value.int IntKind.i64 (1 : Int)), SV.lit (Value.int IntKind.i64 (0 : Int)),
                  SV.lit (Value.int IntKind.i64 (1 : Int))],
              SV.lit (Value.int IntKind.i64 (0 : Int))]))
        (T.br (U.lt n (0 : Int))
          (T.ask (I64 a ∧ I64 b ∧ I64 c)
            (T.ask ((2 : Int) ≠ (0 : Int))
              (T.br
                (U.le n
                  (U.quo IntKind.i64 (U.sub IntKind.i64 (0 : Int) (U.add IntKind.i64 (lk size a b c) (1 : Int)))
                    (2 : Int)))
                (T.ret
                  (SV.tup
                    [SV.agg
                        [SV.lit (Value.int IntKind.i64 (1 : Int)), SV.lit (Value.int IntKind.i64 (0 : Int)),
                          SV.lit (Value.int IntKind.i64 (1 : Int))],
                      SV.lit (Value.int IntKind.i64 (0 : Int))]))
                (T.br (U.gt n (2000000 : Int))
                  (T.ret
                    (SV.tup
                      [SV.agg
                          [SV.lit (Value.int IntKind.i64 (0 : Int)), SV.lit (Value.int IntKind.i64 (0 : Int)),
                            SV.lit (Value.int IntKind.i64 (0 : Int))],
                        SV.lit (Value.int IntKind.i64 (4 : Int))]))
                  (T.br (U.lt n (-2000000 : Int))
                    (T.ret
                      (SV.tup
                        [SV.agg
                            [SV.lit (Value.int IntKind.i64 (0 : Int)), SV.lit (Value.int IntKind.i64 (0 : Int)),
                              SV.lit (Value.int IntKind.i64 (0 : Int))],
                          SV.lit (Value.int IntKind.i64 (4 : Int))]))
                    (T.ask (I64 (-c))
                      (T.ask (I64 (-c))
                        (T.ask (I64 (-c))
                          (T.br
                            (U.le (U.sub IntKind.i64 a (U.mul IntKind.i64 n (lk absI c)))
                              (U.add IntKind.i64 b (U.mul IntKind.i64 n (lk absI c))))
                            (T.br (U.not (lk lim (U.sub IntKind.i64 a (U.mul IntKind.i64 n (lk absI c)))))
                              (T.ret
                                (SV.tup
                                  [SV.agg
                                      [SV.lit (Value.int IntKind.i64 (0 : Int)),
                                        SV.lit (Value.int IntKind.i64 (0 : Int)),
                                        SV.lit (Value.int IntKind.i64 (0 : Int))],
                                    SV.lit (Value.int IntKind.i64 (4 : Int))]))
                              (T.br (U.not (lk lim (U.add IntKind.i64 b (U.mul IntKind.i64 n (lk absI c)))))
                                (T.ret
                                  (SV.tup
                                    [SV.agg
                                        [SV.lit (Value.int IntKind.i64 (0 : Int)),
                                          SV.lit (Value.int IntKind.i64 (0 : Int)),
                                          SV.lit (Value.int IntKind.i64 (0 : Int))],
                                      SV.lit (Value.int IntKind.i64 (4 : Int))]))
                                (T.ask
                                  (U.sub IntKind.i64 a (U.mul IntKind.i64 n (lk absI c)) <
                                      U.add IntKind.i64 b (U.mul IntKind.i64 n (lk absI c)) →
                                    U.lt c (0 : Int) = true → I64 (-lk absI c))
                                  (T.ret
                                    (SV.tup
                                      [SV.agg
                                          [SV.lit
                                              (Value.int IntKind.i64
                                                (lk rnL (U.sub IntKind.i64 a (U.mul IntKind.i64 n (lk absI c)))
                                                  (U.add IntKind.i64 b (U.mul IntKind.i64 n (lk absI c))) (lk absI c)
                                                  (U.lt c (0 : Int)))),
                                            SV.lit
                                              (Value.int IntKind.i64
                                                (lk rnH (U.sub IntKind.i64 a (U.mul IntKind.i64 n (lk absI c)))
                                                  (U.add IntKind.i64 b (U.mul IntKind.i64 n (lk absI c))) (lk absI c)
                                                  (U.lt c (0 : Int)))),
                                            SV.lit
                                              (Value.int IntKind.i64
                                                (lk rnS (U.sub IntKind.i64 a (U.mul IntKind.i64 n (lk absI c)))
                                                  (U.add IntKind.i64 b (U.mul IntKind.i64 n (lk absI c))) (lk absI c)
                                                  (U.lt c (0 : Int))))],
                                        SV.lit (Value.int IntKind.i64 (0 : Int))])))))
                            (T.ask
                              (U.sub IntKind.i64 a (U.mul IntKind.i64 n (lk absI c)) <
                                  U.add IntKind.i64 b (U.mul IntKind.i64 n (lk absI c)) →
                                U.lt c (0 : Int) = true → I64 (-lk absI c))
                              (T.ret
                                (SV.tup
                                  [SV.agg
                                      [SV.lit
                                          (Value.int IntKind.i64
                                            (lk rnL (U.sub IntKind.i64 a (U.mul IntKind.i64 n (lk absI c)))
                                              (U.add IntKind.i64 b (U.mul IntKind.i64 n (lk absI c))) (lk absI c)
                                              (U.lt c (0 : Int)))),
                                        SV.lit
                                          (Value.int IntKind.i64
                                            (lk rnH (U.sub IntKind.i64 a (U.mul IntKind.i64 n (lk absI c)))
                                              (U.add IntKind.i64 b (U.mul IntKind.i64 n (lk absI c))) (lk absI c)
                                              (U.lt c (0 : Int)))),
                                        SV.lit
                                          (Value.int IntKind.i64
                                            (lk rnS (U.sub IntKind.i64 a (U.mul IntKind.i64 n (lk absI c)))
                                              (U.add IntKind.i64 b (U.mul IntKind.i64 n (lk absI c))) (lk absI c)
                                              (U.lt c (0 : Int))))],
                                    SV.lit (Value.int IntKind.i64 (0 : Int))]))))))))))))
          (T.br (U.gt n (2000000 : Int))
            (T.ret
              (SV.tup
                [SV.agg
                    [SV.lit (Value.int IntKind.i64 (0 : Int)), SV.lit (Value.int IntKind.i64 (0 : Int)),
                      SV.lit (Value.int IntKind.i64 (0 : Int))],
                  SV.lit (Value.int IntKind.i64 (4 : Int))]))
            (T.br (U.lt n (-2000000 : Int))
              (T.ret
                (SV.tup
                  [SV.agg
                      [SV.lit (Value.int IntKind.i64 (0 : Int)), SV.lit (Value.int IntKind.i64 (0 : Int)),
                        SV.lit (Value.int IntKind.i64 (0 : Int))],
                    SV.lit (Value.int IntKind.i64 (4 : Int))]))
              (T.ask (I64 (-c))
                (T.ask (I64 (-c))
                  (T.ask (I64 (-c))
                    (T.br
                      (U.le (U.sub IntKind.i64 a (U.mul IntKind.i64 n (lk absI c)))
                        (U.add IntKind.i64 b (U.mul IntKind.i64 n (lk absI c))))
                      (T.br (U.not (lk lim (U.sub IntKind.i64 a (U.mul IntKind.i64 n (lk absI c)))))
                        (T.ret
                          (SV.tup
                            [SV.agg
                                [SV.lit (Value.int IntKind.i64 (0 : Int)), SV.lit (Value.int IntKind.i64 (0 : Int)),
                                  SV.lit (Value.int IntKind.i64 (0 : Int))],
                              SV.lit (Value.int IntKind.i64 (4 : Int))]))
                        (T.br (U.not (lk lim (U.add IntKind.i64 b (U.mul IntKind.i64 n (lk absI c)))))
                          (T.ret
                            (SV.tup
                              [SV.agg
                                  [SV.lit (Value.int IntKind.i64 (0 : Int)), SV.lit (Value.int IntKind.i64 (0 : Int)),
                                    SV.lit (Value.int IntKind.i64 (0 : Int))],
                                SV.lit (Value.int IntKind.i64 (4 : Int))]))
                          (T.ask
                            (U.sub IntKind.i64 a (U.mul IntKind.i64 n (lk absI c)) <
                                U.add IntKind.i64 b (U.mul IntKind.i64 n (lk absI c)) →
                              U.lt c (0 : Int) = true → I64 (-lk absI c))
                            (T.ret
                              (SV.tup
                                [SV.agg
                                    [SV.lit
                                        (Value.int IntKind.i64
                                          (lk rnL (U.sub IntKind.i64 a (U.mul IntKind.i64 n (lk absI c)))
                                            (U.add IntKind.i64 b (U.mul IntKind.i64 n (lk absI c))) (lk absI c)
                                            (U.lt c (0 : Int)))),
                                      SV.lit
                                        (Value.int IntKind.i64
                                          (lk rnH (U.sub IntKind.i64 a (U.mul IntKind.i64 n (lk absI c)))
                                            (U.add IntKind.i64 b (U.mul IntKind.i64 n (lk absI c))) (lk absI c)
                                            (U.lt c (0 : Int)))),
                                      SV.lit
                                        (Value.int IntKind.i64
                                          (lk rnS (U.sub IntKind.i64 a (U.mul IntKind.i64 n (lk absI c)))
                                            (U.add IntKind.i64 b (U.mul IntKind.i64 n (lk absI c))) (lk absI c)
                                            (U.lt c (0 : Int))))],
                                  SV.lit (Value.int IntKind.i64 (0 : Int))])))))
                      (T.ask
                        (U.sub IntKind.i64 a (U.mul IntKind.i64 n (lk absI c)) <
                            U.add IntKind.i64 b (U.mul IntKind.i64 n (lk absI c)) →
                          U.lt c (0 : Int) = true → I64 (-lk absI c))
                        (T.ret
                          (SV.tup
                            [SV.agg
                                [SV.lit
                                    (Value.int IntKind.i64
                                      (lk rnL (U.sub IntKind.i64 a (U.mul IntKind.i64 n (lk absI c)))
                                        (U.add IntKind.i64 b (U.mul IntKind.i64 n (lk absI c))) (lk absI c)
                                        (U.lt c (0 : Int)))),
                                  SV.lit
                                    (Value.int IntKind.i64
                                      (lk rnH (U.sub IntKind.i64 a (U.mul IntKind.i64 n (lk absI c)))
                                        (U.add IntKind.i64 b (U.mul IntKind.i64 n (lk absI c))) (lk absI c)
                                        (U.lt c (0 : Int)))),
                                  SV.lit
                                    (Value.int IntKind.i64
                                      (lk rnS (U.sub IntKind.i64 a (U.mul IntKind.i64 n (lk absI c)))
                                        (U.add IntKind.i64 b (U.mul IntKind.i64 n (lk absI c))) (lk absI c)
                                        (U.lt c (0 : Int))))],
                              SV.lit (Value.int IntKind.i64 (0 : Int))])))))))))))) := by kernel_rfl
set_option maxHeartbeats 1000000 in
theorem rExpand_ok : ConOK P 43 c_Expand := con_of (allOK mixed k8_ok) 10 43 fun args r h => by
  unfold c_Expand at h
  split at h
  · rename_i a b c n
    have hp := (T.is_ask h).1
    have h := (T.is_ask h).2
    obtain rfl := T.is_ret h
    rw [t_rExpand]
    simp only [T.All, U.le_t, U.le_f, U.lt_t, U.lt_f, U.gt_t, U.gt_f, U.ge_t, U.ge_f, U.eq_t, U.eq_f, U.ne_t, U.ne_f, U.not_t, U.not_f, U.andb_t, U.andb_f, SV.lit.injEq, SV.agg.injEq, SV.tup.injEq, List.cons.injEq, Value.int.injEq, Value.bool.injEq, true_and, and_true, lk_eq, lim_t, lim_f, isE_t, isE_f]
    have hp3 : I64 a ∧ I64 b ∧ I64 c := ⟨hp.1, hp.2.1, hp.2.2.1⟩
    refine ⟨hp3, fun h => ?_, fun h => ⟨fun he => ?_, fun he => ?_⟩⟩
    · simp [exE, exLow, exHigh, exStr, h]
    · obtain ⟨rfl, rfl, rfl⟩ := he
      simp [exE, exLow, exHigh, exStr, h]
    have hr := chk_zero.1 h
    have hl := hr.1
    have hab := right_le hr he
    obtain ⟨p1, p2, p3, p4, p5, p6, p7, p8, p9, p10⟩ := parts hr hab
    have n1 : ¬ a > b := by omega
    have hc5 : I64 (-c) := by unfold I64; omega
    have main : ¬ n > 2000000 → -ofC a b c ≤ n → 1 ≤ ofC a b c + 2 * n → U.sub .i64 a (U.mul .i64 n (absI c)) = a - n * absI c ∧ U.add .i64 b (U.mul .i64 n (absI c)) = b + n * absI c ∧ exC a b c n = ofC a b c + 2 * n ∧ b + n * absI c = a - n * absI c + absI c * (ofC a b c + 2 * n - 1) := fun g1 g2 g3 => by
      have mb := mul_bnd (x := n) (y := absI c) (X := 2000001) (Y := 2000000) (by omega) (by omega)
      have ed : absI c * (ofC a b c + 2 * n - 1) = absI c * (ofC a b c - 1) + 2 * (n * absI c) := by
        rw [show ofC a b c + 2 * n - 1 = (ofC a b c - 1) + 2 * n by omega, Int.mul_add, Int.mul_comm (absI c) (2 * n), Int.mul_assoc]
      rw [U.mul64 (by unfold I64; omega), U.sub64 (by unfold I64; omega), U.add64 (by unfold I64; omega)]
      refine ⟨rfl, rfl, ?_, by omega⟩
      unfold exC; rw [if_neg (by omega)]; omega
    refine ⟨fun hn => ⟨hp3, by omega, fun hq => ?_, fun hq => ⟨fun g => by omega, fun g => ⟨fun g2 => ?_, fun g2 => ⟨hc5, hc5, hc5, ?_⟩⟩⟩⟩, fun hn => ⟨fun g => ?_, fun g => ⟨fun g2 => by omega, fun g2 => ⟨hc5, hc5, hc5, ?_⟩⟩⟩⟩
    all_goals
      have eq : U.quo .i64 (U.sub .i64 0 (U.add .i64 (size a b c) 1)) 2 = -((ofC a b c + 1) / 2) := by
        rw [size_eq' hr, U.add64 (by unfold I64; omega), U.sub64 (by unfold I64; omega), show (0 : Int) - (ofC a b c + 1) = -(ofC a b c + 1) by omega]
        have : (-(ofC a b c + 1)).tdiv 2 = -((ofC a b c + 1) / 2) := by rw [Int.neg_tdiv, tdiv_pos (by omega)]
        rw [U.quo64 (by rw [this]; unfold I64; omega), this]
    · rw [eq] at hq
      have n2 : ¬ n > 2000000 := by omega
      have eC : exC a b c n = 0 := by unfold exC; split <;> omega
      simp [exE, exLow, exHigh, exStr, h, n1, n2, eC, mvE, mvLow, mvHigh, mvStr]
    · rw [eq] at hq; omega
    · rw [eq] at hq
      have n2 : ¬ n > 2000000 := by omega
      obtain ⟨e1, e2, e3, e4⟩ := main n2 (by omega) (by omega)
      rw [e1, e2]
      simp only [exE, exLow, exHigh, exStr, h, ne_eq, not_true_eq_false, if_false, if_neg n1, if_neg n2, e3]
      exact lim_tail p1 p2 (by omega) e4
    · have n2 : n > 2000000 := by omega
      simp [exE, exLow, exHigh, exStr, h, n1, n2]
    · have n2 : ¬ n > 2000000 := by omega
      obtain ⟨e1, e2, e3, e4⟩ := main n2 (by omega) (by omega)
      rw [e1, e2]
      simp only [exE, exLow, exHigh, exStr, h, ne_eq, not_true_eq_false, if_false, if_neg n1, if_neg n2, e3]
      exact lim_tail p1 p2 (by omega) e4
  · exact h.elim
end Go.RX.Span
