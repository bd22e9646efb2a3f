/- Ranges: By of the program; the examples; the law of layer 1's positions. -/
import Derived.Test.YtfcafajfllegaaaSPg
set_option linter.unusedVariables false
set_option linter.unusedSimpArgs false
set_option maxRecDepth 100000
namespace Go.RX.Span
open Go Go.RX

noncomputable abbrev k5 : List (Nat × Con) := (19, c_Of) :: (20, c_Of) :: (21, c_Nth) :: (22, c_Nth) :: (24, c_Position) :: (29, c_Has) :: k4 --%K
theorem k5_ok : ∀ p ∈ k5, ConOK P p.1 p.2 := by
  intro p hp
  simp only [k5, List.mem_cons] at hp
  rcases hp with rfl | rfl | rfl | rfl | rfl | rfl | hp
  · exact Of_ok
  · exact rOf_ok
  · exact Nth_ok
  · exact rNth_ok
  · exact rPosition_ok
  · exact Has_ok
  · exact k4_ok p (by simpa [k4] using hp)

theorem mul_bnd {x y X Y : Int} (hx : -X ≤ x ∧ x ≤ X) (hy : -Y ≤ y ∧ y ≤ Y) : -(X * Y) ≤ x * y ∧ x * y ≤ X * Y := by
  have h : (x * y).natAbs ≤ X.natAbs * Y.natAbs := by
    rw [Int.natAbs_mul]; exact Nat.mul_le_mul (by omega) (by omega)
  have e : ((X.natAbs * Y.natAbs : Nat) : Int) = X * Y := by
    rw [Int.natCast_mul, Int.natAbs_of_nonneg (by omega), Int.natAbs_of_nonneg (by omega)]
  omega

theorem series_of {a b c : Int} (hr : Right a b c) (hab : a ≤ b) :
    0 < ofC a b c ∧ ofC a b c ≤ 2000001 ∧ (-2000000 ≤ ofB a b c ∧ ofB a b c ≤ 2000000) ∧ (a ≤ ofF a b c ∧ ofF a b c ≤ b) ∧
    ∀ k, 0 ≤ k → k < ofC a b c → a ≤ ofF a b c + ofB a b c * k ∧ ofF a b c + ofB a b c * k ≤ b := by
  have hc := right_c hr
  have hl := hr.1
  have n1 : ¬ a > b := by omega
  refine ⟨right_of hr hab, ?_, ?_, ?_, fun k h0 h1 => nth_in hr hab h0 h1⟩
  · unfold ofC
    rw [if_neg n1]
    split
    · have := (div_le_self' (a := b - a) (b := -c) (by omega) (by omega)).2; omega
    · have := (div_le_self' (a := b - a) (b := c) (by omega) (by omega)).2; omega
  · simp only [ofB, if_neg n1]; omega
  · simp only [ofF, if_neg n1]; split <;> omega

theorem div_up {C m : Int} (hC : 0 < C) (hm : 0 < m) : (C + m - 1) / m - 1 = (C - 1) / m ∧ 0 ≤ (C - 1) / m ∧ (C - 1) / m ≤ C - 1 ∧ 0 ≤ m * ((C - 1) / m) ∧ m * ((C - 1) / m) ≤ C - 1 := by
  have h1 : (C + m - 1) / m = (C - 1) / m + 1 := by
    rw [show C + m - 1 = (C - 1) + m * 1 by omega, Int.add_mul_ediv_left _ _ (by omega)]
  have h2 := of_bnd (x := C - 1) (s := m) (by omega) hm
  omega

theorem empty_of {a b c : Int} (h : ¬ a ≤ b) : ofF a b c = 0 ∧ ofB a b c = 0 ∧ ofC a b c = 0 := by
  have n1 : a > b := by omega
  simp [ofF, ofB, ofC, n1]

set_option maxRecDepth 100000 in
theorem t_By (a b c n : Int) : conB Go.Proofs.Try.prog (conOf k5) noLoops 10 34 [.agg [.lit (.int .i64 a), .lit (.int .i64 b), .lit (.int .i64 c)], .lit (.int .i64 n)] =
    T.ask (I64 a ∧ I64 b ∧ I64 c)
    (T.br (U.ne (lk chk a b c) (0 : Int))
      (T.ret
        (SV.tup
          [SV.agg
              [SV.lit (Value.int IntKind.i64 (0 : Int)), SV.lit (Value.int IntKind.i64 (0 : Int)),
                SV.lit (Value.int IntKind.i64 (0 : Int))],
            SV.lit (Value.int IntKind.i64 (lk chk a b c))]))
      (T.br (U.eq n (0 : Int))
        (T.ret
          (SV.tup
            [SV.agg
                [SV.lit (Value.int IntKind.i64 (0 : Int)), SV.lit (Value.int IntKind.i64 (0 : Int)),
                  SV.lit (Value.int IntKind.i64 (0 : Int))],
              SV.lit (Value.int IntKind.i64 (1 : Int))]))
        (T.br (U.not (lk lim n))
          (T.ret
            (SV.tup
              [SV.agg
                  [SV.lit (Value.int IntKind.i64 (0 : Int)), SV.lit (Value.int IntKind.i64 (0 : Int)),
                    SV.lit (Value.int IntKind.i64 (0 : Int))],
                SV.lit (Value.int IntKind.i64 (4 : Int))]))
          (T.ask
            (a ≤ b →
              c ≠ (0 : Int) ∧
                (-9223372036854775807 : Int) ≤ c ∧ b - a < (9223372036854775807 : Int) ∧ I64 a ∧ I64 b ∧ I64 c)
            (T.br (U.lt n (0 : Int))
              (T.ask
                (lk ofC a b c ≠ (0 : Int) →
                  I64 (lk ofC a b c - (1 : Int)) ∧
                    I64 (lk ofB a b c * (lk ofC a b c - (1 : Int))) ∧
                      I64 (lk ofF a b c + lk ofB a b c * (lk ofC a b c - (1 : Int))) ∧ I64 (-lk ofB a b c))
                (T.ask (U.sub IntKind.i64 (0 : Int) n ≠ (0 : Int))
                  (T.ask
                    ((0 : Int) <
                        U.quo IntKind.i64
                          (U.sub IntKind.i64 (U.add IntKind.i64 (lk ofC a b c) (U.sub IntKind.i64 (0 : Int) n))
                            (1 : Int))
                          (U.sub IntKind.i64 (0 : Int) n) →
                      I64
                          (U.quo IntKind.i64
                              (U.sub IntKind.i64 (U.add IntKind.i64 (lk ofC a b c) (U.sub IntKind.i64 (0 : Int) n))
                                (1 : Int))
                              (U.sub IntKind.i64 (0 : Int) n) -
                            (1 : Int)) ∧
                        I64
                            (U.mul IntKind.i64 (lk tB (lk ofF a b c) (lk ofB a b c) (lk ofC a b c))
                                (U.sub IntKind.i64 (0 : Int) n) *
                              (U.quo IntKind.i64
                                  (U.sub IntKind.i64 (U.add IntKind.i64 (lk ofC a b c) (U.sub IntKind.i64 (0 : Int) n))
                                    (1 : Int))
                                  (U.sub IntKind.i64 (0 : Int) n) -
                                (1 : Int))) ∧
                          I64
                            (lk tF (lk ofF a b c) (lk ofB a b c) (lk ofC a b c) +
                              U.mul IntKind.i64 (lk tB (lk ofF a b c) (lk ofB a b c) (lk ofC a b c))
                                  (U.sub IntKind.i64 (0 : Int) n) *
                                (U.quo IntKind.i64
                                    (U.sub IntKind.i64
                                      (U.add IntKind.i64 (lk ofC a b c) (U.sub IntKind.i64 (0 : Int) n)) (1 : Int))
                                    (U.sub IntKind.i64 (0 : Int) n) -
                                  (1 : Int))))
                    (T.ret
                      (SV.tup
                        [SV.agg
                            [SV.lit
                                (Value.int IntKind.i64
                                  (lk nLow (lk tF (lk ofF a b c) (lk ofB a b c) (lk ofC a b c))
                                    (U.mul IntKind.i64 (lk tB (lk ofF a b c) (lk ofB a b c) (lk ofC a b c))
                                      (U.sub IntKind.i64 (0 : Int) n))
                                    (U.quo IntKind.i64
                                      (U.sub IntKind.i64
                                        (U.add IntKind.i64 (lk ofC a b c) (U.sub IntKind.i64 (0 : Int) n)) (1 : Int))
                                      (U.sub IntKind.i64 (0 : Int) n)))),
                              SV.lit
                                (Value.int IntKind.i64
                                  (lk nHigh (lk tF (lk ofF a b c) (lk ofB a b c) (lk ofC a b c))
                                    (U.mul IntKind.i64 (lk tB (lk ofF a b c) (lk ofB a b c) (lk ofC a b c))
                                      (U.sub IntKind.i64 (0 : Int) n))
                                    (U.quo IntKind.i64
                                      (U.sub IntKind.i64
                                        (U.add IntKind.i64 (lk ofC a b c) (U.sub IntKind.i64 (0 : Int) n)) (1 : Int))
                                      (U.sub IntKind.i64 (0 : Int) n)))),
                              SV.lit
                                (Value.int IntKind.i64
                                  (lk nStr (lk tF (lk ofF a b c) (lk ofB a b c) (lk ofC a b c))
                                    (U.mul IntKind.i64 (lk tB (lk ofF a b c) (lk ofB a b c) (lk ofC a b c))
                                      (U.sub IntKind.i64 (0 : Int) n))
                                    (U.quo IntKind.i64
                                      (U.sub IntKind.i64
                                        (U.add IntKind.i64 (lk ofC a b c) (U.sub IntKind.i64 (0 : Int) n)) (1 : Int))
                                      (U.sub IntKind.i64 (0 : Int) n))))],
                          SV.lit
                            (Value.int IntKind.i64
                              (lk nErr (lk tF (lk ofF a b c) (lk ofB a b c) (lk ofC a b c))
                                (U.mul IntKind.i64 (lk tB (lk ofF a b c) (lk ofB a b c) (lk ofC a b c))
                                  (U.sub IntKind.i64 (0 : Int) n))
                                (U.quo IntKind.i64
                                  (U.sub IntKind.i64 (U.add IntKind.i64 (lk ofC a b c) (U.sub IntKind.i64 (0 : Int) n))
                                    (1 : Int))
                                  (U.sub IntKind.i64 (0 : Int) n))))])))))
              (T.ask (n ≠ (0 : Int))
                (T.ask
                  ((0 : Int) < U.quo IntKind.i64 (U.sub IntKind.i64 (U.add IntKind.i64 (lk ofC a b c) n) (1 : Int)) n →
                    I64
                        (U.quo IntKind.i64 (U.sub IntKind.i64 (U.add IntKind.i64 (lk ofC a b c) n) (1 : Int)) n -
                          (1 : Int)) ∧
                      I64
                          (U.mul IntKind.i64 (lk ofB a b c) n *
                            (U.quo IntKind.i64 (U.sub IntKind.i64 (U.add IntKind.i64 (lk ofC a b c) n) (1 : Int)) n -
                              (1 : Int))) ∧
                        I64
                          (lk ofF a b c +
                            U.mul IntKind.i64 (lk ofB a b c) n *
                              (U.quo IntKind.i64 (U.sub IntKind.i64 (U.add IntKind.i64 (lk ofC a b c) n) (1 : Int)) n -
                                (1 : Int))))
                  (T.ret
                    (SV.tup
                      [SV.agg
                          [SV.lit
                              (Value.int IntKind.i64
                                (lk nLow (lk ofF a b c) (U.mul IntKind.i64 (lk ofB a b c) n)
                                  (U.quo IntKind.i64 (U.sub IntKind.i64 (U.add IntKind.i64 (lk ofC a b c) n) (1 : Int))
                                    n))),
                            SV.lit
                              (Value.int IntKind.i64
                                (lk nHigh (lk ofF a b c) (U.mul IntKind.i64 (lk ofB a b c) n)
                                  (U.quo IntKind.i64 (U.sub IntKind.i64 (U.add IntKind.i64 (lk ofC a b c) n) (1 : Int))
                                    n))),
                            SV.lit
                              (Value.int IntKind.i64
                                (lk nStr (lk ofF a b c) (U.mul IntKind.i64 (lk ofB a b c) n)
                                  (U.quo IntKind.i64 (U.sub IntKind.i64 (U.add IntKind.i64 (lk ofC a b c) n) (1 : Int))
                                    n)))],
                        SV.lit
                          (Value.int IntKind.i64
                            (lk nErr (lk ofF a b c) (U.mul IntKind.i64 (lk ofB a b c) n)
                              (U.quo IntKind.i64 (U.sub IntKind.i64 (U.add IntKind.i64 (lk ofC a b c) n) (1 : Int))
                                n)))]))))))))) := by kernel_rfl
set_option maxHeartbeats 1000000 in
theorem By_ok : ConOK P 34 c_By := con_of (allOK mixed k5_ok) 10 34 fun args r h => by
  unfold c_By at h
  split at h
  · rename_i a b c n
    have hp := (T.is_ask h).1
    have h := (T.is_ask h).2
    obtain rfl := T.is_ret h
    rw [t_By]
    simp only [T.All, U.le_t, U.le_f, U.lt_t, U.lt_f, U.gt_t, U.gt_f, U.ge_t, U.ge_f, U.eq_t, U.eq_f, U.ne_t, U.ne_f, U.not_t, U.not_f, U.andb_t, U.andb_f, SV.lit.injEq, SV.agg.injEq, SV.tup.injEq, List.cons.injEq, Value.int.injEq, Value.bool.injEq, true_and, and_true, lk_eq, lim_t, lim_f]
    refine ⟨hp, fun h => ?_, fun h => ⟨fun h1 => ?_, fun h1 => ⟨fun h2 => ?_, fun h2 => ⟨fun hab => ?_, ?_⟩⟩⟩⟩
    · have e : byErr0 a b c n = chk a b c := by simp [byErr0, h]
      simp [byLow, byHigh, byStr, byErr, e, h]
    · have e : byErr0 a b c n = 1 := by simp [byErr0, h, h1]
      simp [byLow, byHigh, byStr, byErr, e]
    · have e : byErr0 a b c n = 4 := by
        unfold byErr0; rw [if_neg (by simp [h]), if_neg h1, if_neg (by omega)]
      simp [byLow, byHigh, byStr, byErr, e]
    · have hr := chk_zero.1 h
      have hc := right_c hr
      have hl := hr.1
      exact ⟨hc.1, by omega, by omega, hp⟩
    have e0 : byErr0 a b c n = 0 := by
      unfold byErr0; rw [if_neg (by simp [h]), if_neg h1, if_pos h2]
    have hr := chk_zero.1 h
    have hl := hr.1
    by_cases hab : a ≤ b
    · obtain ⟨s1, s2, s3, s4, s5⟩ := series_of hr hab
      simp only [byLow, byHigh, byStr, byErr, e0, ne_eq, not_true_eq_false, if_false, byF, byB, byC]
      generalize ofF a b c = F at *
      generalize ofB a b c = B at *
      generalize ofC a b c = C at *
      have m1 := s5 (C - 1) (by omega) (by omega)
      refine ⟨fun hn => ⟨fun _ => ⟨by unfold I64; omega, by unfold I64; omega, by unfold I64; omega, by unfold I64; omega⟩, ?_⟩, fun hn => ⟨h1, ?_⟩⟩
      · have e1 : U.sub .i64 0 n = -n := by rw [U.sub64 (by unfold I64; omega)]; omega
        obtain ⟨d1, d2, d3, d4, d5⟩ := div_up s1 (show 0 < -n by omega)
        have hq : 0 ≤ (C + -n - 1) := by omega
        have hq2 := div_le_self' (a := C + -n - 1) (b := -n) hq (by omega)
        have etF : tF F B C = F + B * (C - 1) := by unfold tF; rw [if_neg (by omega)]; rfl
        have etB : tB F B C = -B := by unfold tB; rw [if_neg (by omega)]
        have mb := mul_bnd (x := -B) (y := -n) (X := 2000000) (Y := 1000000) (by omega) (by omega)
        have m2 := s5 (C - 1 - -n * ((C - 1) / -n)) (by omega) (by omega)
        have ed : -B * -n * ((C - 1) / -n) = B * (C - 1 - -n * ((C - 1) / -n)) - B * (C - 1) := by
          rw [Int.mul_sub, Int.mul_assoc, Int.neg_mul]; omega
        rw [e1, U.add64 (by unfold I64; omega), U.sub64 (by unfold I64; omega), U.quo64 (by rw [tdiv_pos hq]; unfold I64; omega), tdiv_pos hq]
        rw [etB, U.mul64 (by unfold I64; omega)]
        simp only [if_pos hn, etF, etB]
        refine ⟨by omega, fun _ => ?_, by simp⟩
        rw [d1, ed]
        unfold I64
        omega
      · obtain ⟨d1, d2, d3, d4, d5⟩ := div_up s1 (show 0 < n by omega)
        have hq : 0 ≤ (C + n - 1) := by omega
        have hq2 := div_le_self' (a := C + n - 1) (b := n) hq (by omega)
        have mb := mul_bnd (x := B) (y := n) (X := 2000000) (Y := 1000000) (by omega) (by omega)
        have m2 := s5 (n * ((C - 1) / n)) (by omega) (by omega)
        have ed : B * n * ((C - 1) / n) = B * (n * ((C - 1) / n)) := by rw [Int.mul_assoc]
        have n3 : ¬ n < 0 := by omega
        rw [U.add64 (by unfold I64; omega), U.sub64 (by unfold I64; omega), U.quo64 (by rw [tdiv_pos hq]; unfold I64; omega), tdiv_pos hq, U.mul64 (by unfold I64; omega)]
        simp only [if_neg n3]
        refine ⟨fun _ => ?_, by simp⟩
        rw [d1, ed]
        unfold I64
        omega
    · obtain ⟨f1, f2, f3⟩ := empty_of (c := c) hab
      simp only [byLow, byHigh, byStr, byErr, e0, ne_eq, not_true_eq_false, if_false, byF, byB, byC, f1, f2, f3]
      refine ⟨fun hn => ⟨fun g => g.elim, ?_⟩, fun hn => ⟨h1, ?_⟩⟩
      · have e1 : U.sub .i64 0 n = -n := by rw [U.sub64 (by unfold I64; omega)]; omega
        have ez : (0 + -n - 1) / -n = 0 := Int.ediv_eq_zero_of_lt (by omega) (by omega)
        rw [e1, U.add64 (by unfold I64; omega), U.sub64 (by unfold I64; omega), U.quo64 (by rw [tdiv_pos (by omega), ez]; unfold I64; omega), tdiv_pos (by omega), ez]
        simp only [if_pos hn, ez]
        refine ⟨by omega, fun g => by omega, ?_⟩
        simp [nLow, nHigh, nStr, nErr]
      · have n3 : ¬ n < 0 := by omega
        have ez : (0 + n - 1) / n = 0 := Int.ediv_eq_zero_of_lt (by omega) (by omega)
        rw [U.add64 (by unfold I64; omega), U.sub64 (by unfold I64; omega), U.quo64 (by rw [tdiv_pos (by omega), ez]; unfold I64; omega), tdiv_pos (by omega), ez]
        simp only [if_neg n3, ez]
        refine ⟨fun g => by omega, ?_⟩
        simp [nLow, nHigh, nStr, nErr]
  · exact h.elim

noncomputable abbrev k6 : List (Nat × Con) := (34, c_By) :: k5 --%K
theorem k6_ok : ∀ p ∈ k6, ConOK P p.1 p.2 := by
  intro p hp
  simp only [k6, List.mem_cons] at hp
  rcases hp with rfl | hp
  · exact By_ok
  · exact k5_ok p (by simpa [k5] using hp)

set_option maxRecDepth 100000 in
theorem t_awake  : conB Go.Proofs.Try.prog (conOf k6) noLoops 10 31 [] =
    T.ask
    (I64 (lk ofLow (1 : Int) (10 : Int) (3 : Int)) ∧
      I64 (lk ofHigh (1 : Int) (10 : Int) (3 : Int)) ∧ I64 (lk ofStr (1 : Int) (10 : Int) (3 : Int)))
    (T.br (U.eq (lk ofErr (1 : Int) (10 : Int) (3 : Int)) (0 : Int))
      (T.br
        (U.eq
          (lk byErr (lk ofLow (1 : Int) (10 : Int) (3 : Int)) (lk ofHigh (1 : Int) (10 : Int) (3 : Int))
            (lk ofStr (1 : Int) (10 : Int) (3 : Int)) (-2 : Int))
          (0 : Int))
        (T.ask
          (I64 (lk ofLow (1 : Int) (10 : Int) (3 : Int)) ∧
            I64 (lk ofHigh (1 : Int) (10 : Int) (3 : Int)) ∧ I64 (lk ofStr (1 : Int) (10 : Int) (3 : Int)))
          (T.br
            (U.eq
              (lk size (lk ofLow (1 : Int) (10 : Int) (3 : Int)) (lk ofHigh (1 : Int) (10 : Int) (3 : Int))
                (lk ofStr (1 : Int) (10 : Int) (3 : Int)))
              (4 : Int))
            (T.ret
              (SV.lit
                (Value.bool
                  (U.andb
                    (U.eq
                      (lk byLow (lk ofLow (1 : Int) (10 : Int) (3 : Int)) (lk ofHigh (1 : Int) (10 : Int) (3 : Int))
                        (lk ofStr (1 : Int) (10 : Int) (3 : Int)) (-2 : Int))
                      (4 : Int))
                    (U.andb
                      (U.eq
                        (lk byHigh (lk ofLow (1 : Int) (10 : Int) (3 : Int)) (lk ofHigh (1 : Int) (10 : Int) (3 : Int))
                          (lk ofStr (1 : Int) (10 : Int) (3 : Int)) (-2 : Int))
                        (10 : Int))
                      (U.eq
                        (lk byStr (lk ofLow (1 : Int) (10 : Int) (3 : Int)) (lk ofHigh (1 : Int) (10 : Int) (3 : Int))
                          (lk ofStr (1 : Int) (10 : Int) (3 : Int)) (-2 : Int))
                        (-6 : Int)))))))
            (T.ret (SV.lit (Value.bool false)))))
        (T.ret (SV.lit (Value.bool false))))
      (T.ret (SV.lit (Value.bool false)))) := by kernel_rfl
theorem awake_ok : ConOK P 31 c_true := con_of (allOK mixed k6_ok) 10 31 fun args r h => by
  unfold c_true at h
  split at h
  · obtain rfl := T.is_ret h
    rw [t_awake]
    simp only [lk_eq]
    have o1 : ofLow 1 10 3 = 1 := by decide
    have o2 : ofHigh 1 10 3 = 10 := by decide
    have o3 : ofStr 1 10 3 = 3 := by decide
    have o4 : ofErr 1 10 3 = 0 := by decide
    have y1 : byLow 1 10 3 (-2) = 4 := by decide
    have y2 : byHigh 1 10 3 (-2) = 10 := by decide
    have y3 : byStr 1 10 3 (-2) = -6 := by decide
    have y4 : byErr 1 10 3 (-2) = 0 := by decide
    have y5 : size 1 10 3 = 4 := by decide
    rw [o1, o2, o3, o4, y1, y2, y3, y4, y5]
    simp [T.All, U.eq_eq, U.andb_eq, I64]
  · exact h.elim

noncomputable abbrev k7 : List (Nat × Con) := (31, c_true) :: k6 --%K
theorem k7_ok : ∀ p ∈ k7, ConOK P p.1 p.2 := by
  intro p hp
  simp only [k7, List.mem_cons] at hp
  rcases hp with rfl | hp
  · exact awake_ok
  · exact k6_ok p (by simpa [k6] using hp)
end Go.RX.Span
