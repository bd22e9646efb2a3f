/- Ranges: Of of the program and of the reference. -/
import Derived.Test.YtfcafajfllegaaaSPf
set_option linter.unusedVariables false
set_option linter.unusedSimpArgs false
set_option maxRecDepth 100000
namespace Go.RX.Span
open Go Go.RX

theorem of_bnd {x s : Int} (h0 : 0 ≤ x) (hs : 0 < s) : 0 ≤ x / s ∧ x / s ≤ x ∧ 0 ≤ s * (x / s) ∧ s * (x / s) ≤ x := by
  have h1 := div_le_self' (a := x) (b := s) h0 hs
  have h2 := Int.mul_ediv_self_le (x := x) (k := s) (by omega)
  have h3 : 0 ≤ s * (x / s) := Int.mul_nonneg (by omega) h1.1
  omega

set_option maxRecDepth 100000 in
theorem t_Of (l h s : Int) : conB Go.Proofs.Try.prog (conOf k4) noLoops 10 19 [.lit (.int .i64 l), .lit (.int .i64 h), .lit (.int .i64 s)] =
    T.br (U.eq s (0 : Int))
    (T.ret
      (SV.tup
        [SV.agg
            [SV.lit (Value.int IntKind.i64 (0 : Int)), SV.lit (Value.int IntKind.i64 (0 : Int)),
              SV.lit (Value.int IntKind.i64 (0 : Int))],
          SV.lit (Value.int IntKind.i64 (1 : Int))]))
    (T.br (U.not (lk lim l))
      (T.ret
        (SV.tup
          [SV.agg
              [SV.lit (Value.int IntKind.i64 (0 : Int)), SV.lit (Value.int IntKind.i64 (0 : Int)),
                SV.lit (Value.int IntKind.i64 (0 : Int))],
            SV.lit (Value.int IntKind.i64 (4 : Int))]))
      (T.br (U.not (lk lim h))
        (T.ret
          (SV.tup
            [SV.agg
                [SV.lit (Value.int IntKind.i64 (0 : Int)), SV.lit (Value.int IntKind.i64 (0 : Int)),
                  SV.lit (Value.int IntKind.i64 (0 : Int))],
              SV.lit (Value.int IntKind.i64 (4 : Int))]))
        (T.br (U.not (lk lim s))
          (T.ret
            (SV.tup
              [SV.agg
                  [SV.lit (Value.int IntKind.i64 (0 : Int)), SV.lit (Value.int IntKind.i64 (0 : Int)),
                    SV.lit (Value.int IntKind.i64 (0 : Int))],
                SV.lit (Value.int IntKind.i64 (4 : Int))]))
          (T.br (U.gt l h)
            (T.ask
              ((0 : Int) < (0 : Int) →
                I64 ((0 : Int) - (1 : Int)) ∧
                  I64 ((0 : Int) * ((0 : Int) - (1 : Int))) ∧ I64 ((0 : Int) + (0 : Int) * ((0 : Int) - (1 : Int))))
              (T.ret
                (SV.tup
                  [SV.agg
                      [SV.lit (Value.int IntKind.i64 (lk nLow (0 : Int) (0 : Int) (0 : Int))),
                        SV.lit (Value.int IntKind.i64 (lk nHigh (0 : Int) (0 : Int) (0 : Int))),
                        SV.lit (Value.int IntKind.i64 (lk nStr (0 : Int) (0 : Int) (0 : Int)))],
                    SV.lit (Value.int IntKind.i64 (lk nErr (0 : Int) (0 : Int) (0 : Int)))])))
            (T.br (U.lt s (0 : Int))
              (T.ask (U.sub IntKind.i64 (0 : Int) s ≠ (0 : Int))
                (T.ask
                  ((0 : Int) <
                      U.add IntKind.i64 (U.quo IntKind.i64 (U.sub IntKind.i64 h l) (U.sub IntKind.i64 (0 : Int) s))
                        (1 : Int) →
                    I64
                        (U.add IntKind.i64 (U.quo IntKind.i64 (U.sub IntKind.i64 h l) (U.sub IntKind.i64 (0 : Int) s))
                            (1 : Int) -
                          (1 : Int)) ∧
                      I64
                          (s *
                            (U.add IntKind.i64
                                (U.quo IntKind.i64 (U.sub IntKind.i64 h l) (U.sub IntKind.i64 (0 : Int) s)) (1 : Int) -
                              (1 : Int))) ∧
                        I64
                          (h +
                            s *
                              (U.add IntKind.i64
                                  (U.quo IntKind.i64 (U.sub IntKind.i64 h l) (U.sub IntKind.i64 (0 : Int) s))
                                  (1 : Int) -
                                (1 : Int))))
                  (T.ret
                    (SV.tup
                      [SV.agg
                          [SV.lit
                              (Value.int IntKind.i64
                                (lk nLow h s
                                  (U.add IntKind.i64
                                    (U.quo IntKind.i64 (U.sub IntKind.i64 h l) (U.sub IntKind.i64 (0 : Int) s))
                                    (1 : Int)))),
                            SV.lit
                              (Value.int IntKind.i64
                                (lk nHigh h s
                                  (U.add IntKind.i64
                                    (U.quo IntKind.i64 (U.sub IntKind.i64 h l) (U.sub IntKind.i64 (0 : Int) s))
                                    (1 : Int)))),
                            SV.lit
                              (Value.int IntKind.i64
                                (lk nStr h s
                                  (U.add IntKind.i64
                                    (U.quo IntKind.i64 (U.sub IntKind.i64 h l) (U.sub IntKind.i64 (0 : Int) s))
                                    (1 : Int))))],
                        SV.lit
                          (Value.int IntKind.i64
                            (lk nErr h s
                              (U.add IntKind.i64
                                (U.quo IntKind.i64 (U.sub IntKind.i64 h l) (U.sub IntKind.i64 (0 : Int) s))
                                (1 : Int))))]))))
              (T.ask (s ≠ (0 : Int))
                (T.ask
                  ((0 : Int) < U.add IntKind.i64 (U.quo IntKind.i64 (U.sub IntKind.i64 h l) s) (1 : Int) →
                    I64 (U.add IntKind.i64 (U.quo IntKind.i64 (U.sub IntKind.i64 h l) s) (1 : Int) - (1 : Int)) ∧
                      I64
                          (s *
                            (U.add IntKind.i64 (U.quo IntKind.i64 (U.sub IntKind.i64 h l) s) (1 : Int) - (1 : Int))) ∧
                        I64
                          (l +
                            s *
                              (U.add IntKind.i64 (U.quo IntKind.i64 (U.sub IntKind.i64 h l) s) (1 : Int) - (1 : Int))))
                  (T.ret
                    (SV.tup
                      [SV.agg
                          [SV.lit
                              (Value.int IntKind.i64
                                (lk nLow l s
                                  (U.add IntKind.i64 (U.quo IntKind.i64 (U.sub IntKind.i64 h l) s) (1 : Int)))),
                            SV.lit
                              (Value.int IntKind.i64
                                (lk nHigh l s
                                  (U.add IntKind.i64 (U.quo IntKind.i64 (U.sub IntKind.i64 h l) s) (1 : Int)))),
                            SV.lit
                              (Value.int IntKind.i64
                                (lk nStr l s
                                  (U.add IntKind.i64 (U.quo IntKind.i64 (U.sub IntKind.i64 h l) s) (1 : Int))))],
                        SV.lit
                          (Value.int IntKind.i64
                            (lk nErr l s
                              (U.add IntKind.i64 (U.quo IntKind.i64 (U.sub IntKind.i64 h l) s) (1 : Int))))]))))))))) := by kernel_rfl
theorem Of_ok : ConOK P 19 c_Of := con_of (allOK mixed k4_ok) 10 19 fun args r h => by
  unfold c_Of at h
  split at h
  · rename_i l h' s
    obtain rfl := T.is_ret h
    rw [t_Of]
    simp only [T.All, U.le_t, U.le_f, U.lt_t, U.lt_f, U.gt_t, U.gt_f, U.ge_t, U.ge_f, U.eq_t, U.eq_f, U.ne_t, U.ne_f, U.not_t, U.not_f, U.andb_t, U.andb_f, SV.lit.injEq, SV.agg.injEq, SV.tup.injEq, List.cons.injEq, Value.int.injEq, Value.bool.injEq, true_and, and_true, lk_eq, lim_t, lim_f]
    refine ⟨fun h => ?_, fun h => ⟨fun h1 => ?_, fun h1 => ⟨fun h2 => ?_, fun h2 => ⟨fun h3 => ?_, fun h3 => ⟨fun h4 => ?_, fun h4 => ⟨fun h5 => ?_, fun h5 => ?_⟩⟩⟩⟩⟩⟩
    · simp [ofLow, ofHigh, ofStr, ofErr, h]
    · have e : ofErr l h' s = 4 := by unfold ofErr; rw [if_neg h, if_neg (by omega)]
      simp [ofLow, ofHigh, ofStr, e]
    · have e : ofErr l h' s = 4 := by unfold ofErr; rw [if_neg h, if_neg (by omega)]
      simp [ofLow, ofHigh, ofStr, e]
    · have e : ofErr l h' s = 4 := by unfold ofErr; rw [if_neg h, if_neg (by omega)]
      simp [ofLow, ofHigh, ofStr, e]
    · have e : ofErr l h' s = 0 := by unfold ofErr; rw [if_neg h, if_pos (by omega)]
      refine ⟨fun g => by omega, ?_⟩
      simp [ofLow, ofHigh, ofStr, e, h4, nLow, nHigh, nStr, nErr]
    all_goals
      have e : ofErr l h' s = 0 := by unfold ofErr; rw [if_neg h, if_pos (by omega)]
      have n1 : ¬ l > h' := by omega
    · obtain ⟨b1, b2, b3, b4⟩ := of_bnd (x := h' - l) (s := -s) (by omega) (by omega)
      have e1 : U.sub .i64 0 s = -s := by rw [U.sub64 (by unfold I64; omega)]; omega
      rw [e1, U.sub64 (by unfold I64; omega), U.quo64 (by rw [tdiv_pos (by omega)]; unfold I64; omega), tdiv_pos (by omega), U.add64 (by unfold I64; omega)]
      have es : sLast h' s ((h' - l) / -s + 1) = h' - (h' - l) / (-s) * (-s) := by
        unfold sLast
        rw [show (h' - l) / -s + 1 - 1 = (h' - l) / -s by omega, Int.mul_comm ((h' - l) / -s) (-s), Int.neg_mul]; omega
      have ec : (h' - l) / (-s) * (-s) = -s * ((h' - l) / -s) := Int.mul_comm _ _
      have em : s * ((h' - l) / -s) = -(-s * ((h' - l) / -s)) := by rw [Int.neg_mul]; omega
      refine ⟨by omega, fun _ => ?_, ?_⟩
      · rw [show (h' - l) / -s + 1 - 1 = (h' - l) / -s by omega, em]
        generalize -s * ((h' - l) / -s) = z at *
        unfold I64; omega
      · have ne : nErr h' s ((h' - l) / -s + 1) = 0 := by
          unfold nErr; rw [if_neg (by omega), es, ec]
          generalize -s * ((h' - l) / -s) = z at *
          rw [if_pos (by omega)]
        have n2 : ¬ ((h' - l) / -s + 1 ≤ 0) := by omega
        simp only [nLow, nHigh, nStr, ofLow, ofHigh, ofStr, ne, e, es, if_neg n1, if_neg n2, if_pos h5, ne_eq, not_true_eq_false, if_false, if_true]
        refine ⟨⟨?_, ?_, ?_⟩, trivial⟩
        · rw [ec]; generalize -s * ((h' - l) / -s) = z at *; omega
        · rw [ec]; generalize -s * ((h' - l) / -s) = z at *; omega
        · by_cases h0 : (h' - l) / -s = 0
          · rw [if_pos (by omega), if_pos (by rw [h0]; omega)]
          · rw [if_neg (by omega), if_neg]
            rw [ec]
            have : 0 < -s * ((h' - l) / -s) := Int.mul_pos (by omega) (by omega)
            omega
    · obtain ⟨b1, b2, b3, b4⟩ := of_bnd (x := h' - l) (s := s) (by omega) (by omega)
      have n3 : ¬ s < 0 := by omega
      rw [U.sub64 (by unfold I64; omega), U.quo64 (by rw [tdiv_pos (by omega)]; unfold I64; omega), tdiv_pos (by omega), U.add64 (by unfold I64; omega)]
      have ec : (h' - l) / s * s = s * ((h' - l) / s) := Int.mul_comm _ _
      have es : sLast l s ((h' - l) / s + 1) = l + (h' - l) / s * s := by
        unfold sLast
        rw [show (h' - l) / s + 1 - 1 = (h' - l) / s by omega, ec]
      refine ⟨h, fun _ => ?_, ?_⟩
      · rw [show (h' - l) / s + 1 - 1 = (h' - l) / s by omega]
        generalize s * ((h' - l) / s) = z at *
        unfold I64; omega
      · have ne : nErr l s ((h' - l) / s + 1) = 0 := by
          unfold nErr; rw [if_neg (by omega), es, ec]
          generalize s * ((h' - l) / s) = z at *
          rw [if_pos (by omega)]
        have n2 : ¬ ((h' - l) / s + 1 ≤ 0) := by omega
        simp only [nLow, nHigh, nStr, ofLow, ofHigh, ofStr, ne, e, es, if_neg n1, if_neg n2, if_neg n3, ne_eq, not_true_eq_false, if_false, if_true]
        refine ⟨⟨?_, ?_, ?_⟩, trivial⟩
        · rw [ec]; generalize s * ((h' - l) / s) = z at *; omega
        · rw [ec]; generalize s * ((h' - l) / s) = z at *; omega
        · by_cases h0 : (h' - l) / s = 0
          · rw [if_pos (by omega), if_pos (by rw [h0]; omega)]
          · rw [if_neg (by omega), if_neg]
            rw [ec]
            have : 0 < s * ((h' - l) / s) := Int.mul_pos (by omega) (by omega)
            omega
  · exact h.elim

set_option maxRecDepth 100000 in
theorem t_rOf (l h s : Int) : conB Go.Proofs.Try.prog (conOf k4) noLoops 10 20 [.lit (.int .i64 l), .lit (.int .i64 h), .lit (.int .i64 s)] =
    T.br (U.eq s (0 : Int))
    (T.ret
      (SV.tup
        [SV.agg
            [SV.lit (Value.int IntKind.i64 (0 : Int)), SV.lit (Value.int IntKind.i64 (0 : Int)),
              SV.lit (Value.int IntKind.i64 (0 : Int))],
          SV.lit (Value.int IntKind.i64 (1 : Int))]))
    (T.br (U.not (lk lim l))
      (T.ret
        (SV.tup
          [SV.agg
              [SV.lit (Value.int IntKind.i64 (0 : Int)), SV.lit (Value.int IntKind.i64 (0 : Int)),
                SV.lit (Value.int IntKind.i64 (0 : Int))],
            SV.lit (Value.int IntKind.i64 (4 : Int))]))
      (T.br (U.not (lk lim h))
        (T.ret
          (SV.tup
            [SV.agg
                [SV.lit (Value.int IntKind.i64 (0 : Int)), SV.lit (Value.int IntKind.i64 (0 : Int)),
                  SV.lit (Value.int IntKind.i64 (0 : Int))],
              SV.lit (Value.int IntKind.i64 (4 : Int))]))
        (T.br (U.not (lk lim s))
          (T.ret
            (SV.tup
              [SV.agg
                  [SV.lit (Value.int IntKind.i64 (0 : Int)), SV.lit (Value.int IntKind.i64 (0 : Int)),
                    SV.lit (Value.int IntKind.i64 (0 : Int))],
                SV.lit (Value.int IntKind.i64 (4 : Int))]))
          (T.br (U.gt l h)
            (T.ret
              (SV.tup
                [SV.agg
                    [SV.lit (Value.int IntKind.i64 (1 : Int)), SV.lit (Value.int IntKind.i64 (0 : Int)),
                      SV.lit (Value.int IntKind.i64 (1 : Int))],
                  SV.lit (Value.int IntKind.i64 (0 : Int))]))
            (T.br (U.gt s (0 : Int))
              (T.ask (s ≠ (0 : Int))
                (T.ask
                  (l < U.add IntKind.i64 l (U.mul IntKind.i64 (U.quo IntKind.i64 (U.sub IntKind.i64 h l) s) s) →
                    false = true → I64 (-s))
                  (T.ret
                    (SV.tup
                      [SV.agg
                          [SV.lit
                              (Value.int IntKind.i64
                                (lk rnL l
                                  (U.add IntKind.i64 l
                                    (U.mul IntKind.i64 (U.quo IntKind.i64 (U.sub IntKind.i64 h l) s) s))
                                  s false)),
                            SV.lit
                              (Value.int IntKind.i64
                                (lk rnH l
                                  (U.add IntKind.i64 l
                                    (U.mul IntKind.i64 (U.quo IntKind.i64 (U.sub IntKind.i64 h l) s) s))
                                  s false)),
                            SV.lit
                              (Value.int IntKind.i64
                                (lk rnS l
                                  (U.add IntKind.i64 l
                                    (U.mul IntKind.i64 (U.quo IntKind.i64 (U.sub IntKind.i64 h l) s) s))
                                  s false))],
                        SV.lit (Value.int IntKind.i64 (0 : Int))]))))
              (T.ask (U.sub IntKind.i64 (0 : Int) s ≠ (0 : Int))
                (T.ask
                  (U.sub IntKind.i64 h
                        (U.mul IntKind.i64 (U.quo IntKind.i64 (U.sub IntKind.i64 h l) (U.sub IntKind.i64 (0 : Int) s))
                          (U.sub IntKind.i64 (0 : Int) s)) <
                      h →
                    true = true → I64 (-U.sub IntKind.i64 (0 : Int) s))
                  (T.ret
                    (SV.tup
                      [SV.agg
                          [SV.lit
                              (Value.int IntKind.i64
                                (lk rnL
                                  (U.sub IntKind.i64 h
                                    (U.mul IntKind.i64
                                      (U.quo IntKind.i64 (U.sub IntKind.i64 h l) (U.sub IntKind.i64 (0 : Int) s))
                                      (U.sub IntKind.i64 (0 : Int) s)))
                                  h (U.sub IntKind.i64 (0 : Int) s) true)),
                            SV.lit
                              (Value.int IntKind.i64
                                (lk rnH
                                  (U.sub IntKind.i64 h
                                    (U.mul IntKind.i64
                                      (U.quo IntKind.i64 (U.sub IntKind.i64 h l) (U.sub IntKind.i64 (0 : Int) s))
                                      (U.sub IntKind.i64 (0 : Int) s)))
                                  h (U.sub IntKind.i64 (0 : Int) s) true)),
                            SV.lit
                              (Value.int IntKind.i64
                                (lk rnS
                                  (U.sub IntKind.i64 h
                                    (U.mul IntKind.i64
                                      (U.quo IntKind.i64 (U.sub IntKind.i64 h l) (U.sub IntKind.i64 (0 : Int) s))
                                      (U.sub IntKind.i64 (0 : Int) s)))
                                  h (U.sub IntKind.i64 (0 : Int) s) true))],
                        SV.lit (Value.int IntKind.i64 (0 : Int))]))))))))) := by kernel_rfl
theorem rOf_ok : ConOK P 20 c_Of := con_of (allOK mixed k4_ok) 10 20 fun args r h => by
  unfold c_Of at h
  split at h
  · rename_i l h' s
    obtain rfl := T.is_ret h
    rw [t_rOf]
    simp only [T.All, U.le_t, U.le_f, U.lt_t, U.lt_f, U.gt_t, U.gt_f, U.ge_t, U.ge_f, U.eq_t, U.eq_f, U.ne_t, U.ne_f, U.not_t, U.not_f, U.andb_t, U.andb_f, SV.lit.injEq, SV.agg.injEq, SV.tup.injEq, List.cons.injEq, Value.int.injEq, Value.bool.injEq, true_and, and_true, lk_eq, lim_t, lim_f]
    refine ⟨fun h => ?_, fun h => ⟨fun h1 => ?_, fun h1 => ⟨fun h2 => ?_, fun h2 => ⟨fun h3 => ?_, fun h3 => ⟨fun h4 => ?_, fun h4 => ⟨fun h5 => ?_, fun h5 => ?_⟩⟩⟩⟩⟩⟩
    · simp [ofLow, ofHigh, ofStr, ofErr, h]
    · have e : ofErr l h' s = 4 := by unfold ofErr; rw [if_neg h, if_neg (by omega)]
      simp [ofLow, ofHigh, ofStr, e]
    · have e : ofErr l h' s = 4 := by unfold ofErr; rw [if_neg h, if_neg (by omega)]
      simp [ofLow, ofHigh, ofStr, e]
    · have e : ofErr l h' s = 4 := by unfold ofErr; rw [if_neg h, if_neg (by omega)]
      simp [ofLow, ofHigh, ofStr, e]
    · have e : ofErr l h' s = 0 := by unfold ofErr; rw [if_neg h, if_pos (by omega)]
      simp [ofLow, ofHigh, ofStr, e, h4]
    all_goals
      have e : ofErr l h' s = 0 := by unfold ofErr; rw [if_neg h, if_pos (by omega)]
      have n1 : ¬ l > h' := by omega
    · obtain ⟨b1, b2, b3, b4⟩ := of_bnd (x := h' - l) (s := s) (by omega) (by omega)
      have n3 : ¬ s < 0 := by omega
      have ec : (h' - l) / s * s = s * ((h' - l) / s) := Int.mul_comm _ _
      rw [U.sub64 (by unfold I64; omega), U.quo64 (by rw [tdiv_pos (by omega)]; unfold I64; omega), tdiv_pos (by omega), U.mul64 (by rw [ec]; unfold I64; omega), U.add64 (by rw [ec]; unfold I64; omega)]
      refine ⟨h, (fun _ g => by cases g), ?_⟩
      simp only [rnL, rnH, rnS, ofLow, ofHigh, ofStr, e, if_neg n1, if_neg n3, ne_eq, not_true_eq_false, if_false, Bool.false_eq_true]
      rw [ec]
      generalize s * ((h' - l) / s) = z at *
      have n4 : ¬ l > l + z := by omega
      simp only [if_neg n4]
      refine ⟨⟨trivial, trivial, ?_⟩, trivial⟩
      by_cases h0 : l = l + z
      · rw [if_pos (by omega), if_pos h0]
      · rw [if_neg (by omega), if_neg h0]
    · obtain ⟨b1, b2, b3, b4⟩ := of_bnd (x := h' - l) (s := -s) (by omega) (by omega)
      have n3 : s < 0 := by omega
      have e1 : U.sub .i64 0 s = -s := by rw [U.sub64 (by unfold I64; omega)]; omega
      have ec : (h' - l) / (-s) * (-s) = -s * ((h' - l) / -s) := Int.mul_comm _ _
      rw [e1, U.sub64 (a := h') (b := l) (by unfold I64; omega), U.quo64 (by rw [tdiv_pos (by omega)]; unfold I64; omega), tdiv_pos (by omega), U.mul64 (by rw [ec]; unfold I64; omega), U.sub64 (by rw [ec]; unfold I64; omega)]
      refine ⟨by omega, (fun _ g => by unfold I64; omega), ?_⟩
      simp only [rnL, rnH, rnS, ofLow, ofHigh, ofStr, e, if_neg n1, if_pos n3, ne_eq, not_true_eq_false, if_false, if_true]
      rw [ec]
      generalize -s * ((h' - l) / -s) = z at *
      have n4 : ¬ h' - z > h' := by omega
      simp only [if_neg n4]
      refine ⟨⟨trivial, trivial, ?_⟩, trivial⟩
      by_cases h0 : h' - z = h'
      · rw [if_pos (by omega), if_pos h0]
      · rw [if_neg (by omega), if_neg h0]; omega
  · exact h.elim
end Go.RX.Span
