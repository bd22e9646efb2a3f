/- Ranges: By of the reference. -/
import Derived.Test.YtfcafajfllegaaaSPk
set_option linter.unusedVariables false
set_option linter.unusedSimpArgs false
set_option maxRecDepth 100000
namespace Go.RX.Span
open Go Go.RX

theorem div_zero_iff {C m : Int} (hC : 1 ≤ C) (hm : 1 ≤ m) : ((C + m - 1) / m = 1) ↔ ((C - 1) / m = 0) := by
  have := div_up (C := C) (m := m) (by omega) (by omega)
  omega

theorem by_closed {a b c n : Int} (hr : Right a b c) (hab : a ≤ b) (hn : n ≠ 0) (hl : -1000000 ≤ n ∧ n ≤ 1000000) :
    byErr a b c n = 0 ∧
    ((c < 0 ↔ n < 0) → byLow a b c n = a ∧ byHigh a b c n = a + absI c * (absI n * ((ofC a b c - 1) / absI n)) ∧ byStr a b c n = (if (ofC a b c - 1) / absI n = 0 then 1 else absI c * absI n)) ∧
    (¬ (c < 0 ↔ n < 0) → byLow a b c n = b - absI c * (absI n * ((ofC a b c - 1) / absI n)) ∧ byHigh a b c n = b ∧ byStr a b c n = (if (ofC a b c - 1) / absI n = 0 then 1 else -(absI c * absI n))) := by
  obtain ⟨p1, p2, p3, p4, p5, p6, p7, p8, p9, p10⟩ := parts hr hab
  have hlim := hr.1
  have e0 : byErr0 a b c n = 0 := by unfold byErr0; rw [if_neg (by rw [chk_zero.2 hr]; simp), if_neg hn, if_pos hl]
  have hm : 1 ≤ absI n := by unfold absI; split <;> omega
  have hd := div_up (C := ofC a b c) (m := absI n) (by omega) (by omega)
  have hz := div_zero_iff (C := ofC a b c) (m := absI n) p3 hm
  have eC : byC a b c n = (ofC a b c + absI n - 1) / absI n := by
    unfold byC absI; split <;> rfl
  have m0 := mulle (x := 0) (y := absI n * ((ofC a b c - 1) / absI n)) p1 (by omega)
  have m1 := mulle (x := absI n * ((ofC a b c - 1) / absI n)) (y := ofC a b c - 1) p1 (by omega)
  rw [Int.mul_zero] at m0
  have hsm : 1 ≤ absI c * absI n := by have := mulle (x := 1) (y := absI n) p1 hm; rw [Int.mul_one] at this; omega
  have eq : absI c * absI n * ((ofC a b c + absI n - 1) / absI n - 1) = absI c * (absI n * ((ofC a b c - 1) / absI n)) := by rw [hd.1, Int.mul_assoc]
  have fin : ∀ F B : Int, byF a b c n = F → byB a b c n = B → byErr a b c n = nErr F B (byC a b c n) ∧ byLow a b c n = nLow F B (byC a b c n) ∧ byHigh a b c n = nHigh F B (byC a b c n) ∧ byStr a b c n = nStr F B (byC a b c n) := by
    intro F B h1 h2
    simp only [byErr, byLow, byHigh, byStr, e0, ne_eq, not_true_eq_false, if_false, h1, h2, and_self]
  have hC1 : 1 ≤ (ofC a b c + absI n - 1) / absI n := by omega
  have up : byF a b c n = a → byB a b c n = absI c * absI n → byErr a b c n = 0 ∧ byLow a b c n = a ∧ byHigh a b c n = a + absI c * (absI n * ((ofC a b c - 1) / absI n)) ∧ byStr a b c n = (if (ofC a b c - 1) / absI n = 0 then 1 else absI c * absI n) := fun h1 h2 => by
    obtain ⟨f1, f2, f3, f4⟩ := fin _ _ h1 h2
    rw [f1, f2, f3, f4, eC]
    obtain ⟨q1, q2, q3, q4⟩ := nUp (F := a) (s := absI c * absI n) (C := (ofC a b c + absI n - 1) / absI n) hsm hC1 (by omega) (by rw [eq]; omega)
    rw [q1, q2, q3, q4, eq]
    refine ⟨rfl, rfl, rfl, ?_⟩
    by_cases h : (ofC a b c - 1) / absI n = 0
    · rw [if_pos (hz.2 h), if_pos h]
    · rw [if_neg (fun g => h (hz.1 g)), if_neg h]
  have dn : byF a b c n = b → byB a b c n = -(absI c * absI n) → byErr a b c n = 0 ∧ byLow a b c n = b - absI c * (absI n * ((ofC a b c - 1) / absI n)) ∧ byHigh a b c n = b ∧ byStr a b c n = (if (ofC a b c - 1) / absI n = 0 then 1 else -(absI c * absI n)) := fun h1 h2 => by
    obtain ⟨f1, f2, f3, f4⟩ := fin _ _ h1 h2
    rw [f1, f2, f3, f4, eC]
    obtain ⟨q1, q2, q3, q4⟩ := nDn (F := b) (s := absI c * absI n) (C := (ofC a b c + absI n - 1) / absI n) hsm hC1 (by omega) (by rw [eq]; omega)
    rw [q1, q2, q3, q4, eq]
    refine ⟨rfl, rfl, rfl, ?_⟩
    by_cases h : (ofC a b c - 1) / absI n = 0
    · rw [if_pos (hz.2 h), if_pos h]
    · rw [if_neg (fun g => h (hz.1 g)), if_neg h]
  have etF : tF (ofF a b c) (ofB a b c) (ofC a b c) = if c < 0 then a else b := by
    unfold tF sLast
    rw [if_neg (by omega), p6, p7]
    by_cases hc : c < 0
    · rw [if_pos hc, if_pos hc]
      have e : absI c * (ofC a b c - 1) = -(c * (ofC a b c - 1)) := by rw [absI_neg hc, Int.neg_mul]
      omega
    · rw [if_neg hc, if_neg hc]
      have : c = absI c := (absI_pos hc).symm
      rw [show c * (ofC a b c - 1) = absI c * (ofC a b c - 1) by rw [← this]]
      omega
  have etB : tB (ofF a b c) (ofB a b c) (ofC a b c) = -c := by unfold tB; rw [if_neg (by omega), p6]
  by_cases hc : c < 0 <;> by_cases hng : n < 0
  · have h := up (by simp only [byF, if_pos hng, etF, if_pos hc]) (by simp only [byB, if_pos hng, etB, absI_neg hc, absI_neg hng])
    exact ⟨h.1, fun _ => h.2, fun g => absurd (by simp [hc, hng]) g⟩
  · have h := dn (by simp only [byF, if_neg hng, p7, if_pos hc]) (by simp only [byB, if_neg hng, p6, absI_neg hc, absI_pos hng, Int.neg_mul, Int.neg_neg])
    exact ⟨h.1, fun g => absurd (g.1 hc) hng, fun _ => h.2⟩
  · have h := dn (by simp only [byF, if_pos hng, etF, if_neg hc]) (by simp only [byB, if_pos hng, etB, absI_pos hc, absI_neg hng, Int.neg_mul])
    exact ⟨h.1, fun g => absurd (g.2 hng) hc, fun _ => h.2⟩
  · have h := up (by simp only [byF, if_neg hng, p7, if_neg hc]) (by simp only [byB, if_neg hng, p6, absI_pos hc, absI_pos hng])
    exact ⟨h.1, fun _ => h.2, fun g => absurd (by simp [hc, hng]) g⟩

set_option maxRecDepth 100000 in
theorem t_rBy (a b c n : Int) : conB Go.Proofs.Try.prog (conOf k7) noLoops 10 38 [.agg [.lit (.int .i64 a), .lit (.int .i64 b), .lit (.int .i64 c)], .lit (.int .i64 n)] =
    T.ask (I64 a ∧ I64 b ∧ I64 c)
    (T.br (U.ne (lk chk a b c) (0 : Int))
      (T.ret
        (SV.tup
          [SV.agg
              [SV.lit (Value.int IntKind.i64 (0 : Int)), SV.lit (Value.int IntKind.i64 (0 : Int)),
                SV.lit (Value.int IntKind.i64 (0 : Int))],
            SV.lit (Value.int IntKind.i64 (lk chk a b c))]))
      (T.br (U.eq n (0 : Int))
        (T.ret
          (SV.tup
            [SV.agg
                [SV.lit (Value.int IntKind.i64 (0 : Int)), SV.lit (Value.int IntKind.i64 (0 : Int)),
                  SV.lit (Value.int IntKind.i64 (0 : Int))],
              SV.lit (Value.int IntKind.i64 (1 : Int))]))
        (T.br (U.not (lk lim n))
          (T.ret
            (SV.tup
              [SV.agg
                  [SV.lit (Value.int IntKind.i64 (0 : Int)), SV.lit (Value.int IntKind.i64 (0 : Int)),
                    SV.lit (Value.int IntKind.i64 (0 : Int))],
                SV.lit (Value.int IntKind.i64 (4 : Int))]))
          (T.ask (I64 a ∧ I64 b ∧ I64 c)
            (T.br (U.eq (lk size a b c) (0 : Int))
              (T.ret
                (SV.tup
                  [SV.agg
                      [SV.lit (Value.int IntKind.i64 (1 : Int)), SV.lit (Value.int IntKind.i64 (0 : Int)),
                        SV.lit (Value.int IntKind.i64 (1 : Int))],
                    SV.lit (Value.int IntKind.i64 (0 : Int))]))
              (T.br (U.lt n (0 : Int))
                (T.ask (U.sub IntKind.i64 (0 : Int) n ≠ (0 : Int))
                  (T.ask (I64 a ∧ I64 b ∧ I64 c)
                    (T.br (U.gt n (0 : Int))
                      (T.ask (I64 a ∧ I64 b ∧ I64 c)
                        (T.ask (I64 (-c))
                          (T.ask
                            (U.mm false (lk nth a b c (U.sub IntKind.i64 (lk size a b c) (1 : Int)))
                                  (lk nth a b c
                                    (U.mul IntKind.i64
                                      (U.sub IntKind.i64
                                        (U.add IntKind.i64
                                          (U.quo IntKind.i64 (U.sub IntKind.i64 (lk size a b c) (1 : Int))
                                            (U.sub IntKind.i64 (0 : Int) n))
                                          (1 : Int))
                                        (1 : Int))
                                      (U.sub IntKind.i64 (0 : Int) n))) <
                                U.mm true (lk nth a b c (U.sub IntKind.i64 (lk size a b c) (1 : Int)))
                                  (lk nth a b c
                                    (U.mul IntKind.i64
                                      (U.sub IntKind.i64
                                        (U.add IntKind.i64
                                          (U.quo IntKind.i64 (U.sub IntKind.i64 (lk size a b c) (1 : Int))
                                            (U.sub IntKind.i64 (0 : Int) n))
                                          (1 : Int))
                                        (1 : Int))
                                      (U.sub IntKind.i64 (0 : Int) n))) →
                              U.lt
                                    (lk nth a b c
                                      (U.mul IntKind.i64
                                        (U.sub IntKind.i64
                                          (U.add IntKind.i64
                                            (U.quo IntKind.i64 (U.sub IntKind.i64 (lk size a b c) (1 : Int))
                                              (U.sub IntKind.i64 (0 : Int) n))
                                            (1 : Int))
                                          (1 : Int))
                                        (U.sub IntKind.i64 (0 : Int) n)))
                                    (lk nth a b c (U.sub IntKind.i64 (lk size a b c) (1 : Int))) =
                                  true →
                                I64 (-U.mul IntKind.i64 (lk absI c) (U.sub IntKind.i64 (0 : Int) n)))
                            (T.ret
                              (SV.tup
                                [SV.agg
                                    [SV.lit
                                        (Value.int IntKind.i64
                                          (lk rnL
                                            (U.mm false (lk nth a b c (U.sub IntKind.i64 (lk size a b c) (1 : Int)))
                                              (lk nth a b c
                                                (U.mul IntKind.i64
                                                  (U.sub IntKind.i64
                                                    (U.add IntKind.i64
                                                      (U.quo IntKind.i64 (U.sub IntKind.i64 (lk size a b c) (1 : Int))
                                                        (U.sub IntKind.i64 (0 : Int) n))
                                                      (1 : Int))
                                                    (1 : Int))
                                                  (U.sub IntKind.i64 (0 : Int) n))))
                                            (U.mm true (lk nth a b c (U.sub IntKind.i64 (lk size a b c) (1 : Int)))
                                              (lk nth a b c
                                                (U.mul IntKind.i64
                                                  (U.sub IntKind.i64
                                                    (U.add IntKind.i64
                                                      (U.quo IntKind.i64 (U.sub IntKind.i64 (lk size a b c) (1 : Int))
                                                        (U.sub IntKind.i64 (0 : Int) n))
                                                      (1 : Int))
                                                    (1 : Int))
                                                  (U.sub IntKind.i64 (0 : Int) n))))
                                            (U.mul IntKind.i64 (lk absI c) (U.sub IntKind.i64 (0 : Int) n))
                                            (U.lt
                                              (lk nth a b c
                                                (U.mul IntKind.i64
                                                  (U.sub IntKind.i64
                                                    (U.add IntKind.i64
                                                      (U.quo IntKind.i64 (U.sub IntKind.i64 (lk size a b c) (1 : Int))
                                                        (U.sub IntKind.i64 (0 : Int) n))
                                                      (1 : Int))
                                                    (1 : Int))
                                                  (U.sub IntKind.i64 (0 : Int) n)))
                                              (lk nth a b c (U.sub IntKind.i64 (lk size a b c) (1 : Int)))))),
                                      SV.lit
                                        (Value.int IntKind.i64
                                          (lk rnH
                                            (U.mm false (lk nth a b c (U.sub IntKind.i64 (lk size a b c) (1 : Int)))
                                              (lk nth a b c
                                                (U.mul IntKind.i64
                                                  (U.sub IntKind.i64
                                                    (U.add IntKind.i64
                                                      (U.quo IntKind.i64 (U.sub IntKind.i64 (lk size a b c) (1 : Int))
                                                        (U.sub IntKind.i64 (0 : Int) n))
                                                      (1 : Int))
                                                    (1 : Int))
                                                  (U.sub IntKind.i64 (0 : Int) n))))
                                            (U.mm true (lk nth a b c (U.sub IntKind.i64 (lk size a b c) (1 : Int)))
                                              (lk nth a b c
                                                (U.mul IntKind.i64
                                                  (U.sub IntKind.i64
                                                    (U.add IntKind.i64
                                                      (U.quo IntKind.i64 (U.sub IntKind.i64 (lk size a b c) (1 : Int))
                                                        (U.sub IntKind.i64 (0 : Int) n))
                                                      (1 : Int))
                                                    (1 : Int))
                                                  (U.sub IntKind.i64 (0 : Int) n))))
                                            (U.mul IntKind.i64 (lk absI c) (U.sub IntKind.i64 (0 : Int) n))
                                            (U.lt
                                              (lk nth a b c
                                                (U.mul IntKind.i64
                                                  (U.sub IntKind.i64
                                                    (U.add IntKind.i64
                                                      (U.quo IntKind.i64 (U.sub IntKind.i64 (lk size a b c) (1 : Int))
                                                        (U.sub IntKind.i64 (0 : Int) n))
                                                      (1 : Int))
                                                    (1 : Int))
                                                  (U.sub IntKind.i64 (0 : Int) n)))
                                              (lk nth a b c (U.sub IntKind.i64 (lk size a b c) (1 : Int)))))),
                                      SV.lit
                                        (Value.int IntKind.i64
                                          (lk rnS
                                            (U.mm false (lk nth a b c (U.sub IntKind.i64 (lk size a b c) (1 : Int)))
                                              (lk nth a b c
                                                (U.mul IntKind.i64
                                                  (U.sub IntKind.i64
                                                    (U.add IntKind.i64
                                                      (U.quo IntKind.i64 (U.sub IntKind.i64 (lk size a b c) (1 : Int))
                                                        (U.sub IntKind.i64 (0 : Int) n))
                                                      (1 : Int))
                                                    (1 : Int))
                                                  (U.sub IntKind.i64 (0 : Int) n))))
                                            (U.mm true (lk nth a b c (U.sub IntKind.i64 (lk size a b c) (1 : Int)))
                                              (lk nth a b c
                                                (U.mul IntKind.i64
                                                  (U.sub IntKind.i64
                                                    (U.add IntKind.i64
                                                      (U.quo IntKind.i64 (U.sub IntKind.i64 (lk size a b c) (1 : Int))
                                                        (U.sub IntKind.i64 (0 : Int) n))
                                                      (1 : Int))
                                                    (1 : Int))
                                                  (U.sub IntKind.i64 (0 : Int) n))))
                                            (U.mul IntKind.i64 (lk absI c) (U.sub IntKind.i64 (0 : Int) n))
                                            (U.lt
                                              (lk nth a b c
                                                (U.mul IntKind.i64
                                                  (U.sub IntKind.i64
                                                    (U.add IntKind.i64
                                                      (U.quo IntKind.i64 (U.sub IntKind.i64 (lk size a b c) (1 : Int))
                                                        (U.sub IntKind.i64 (0 : Int) n))
                                                      (1 : Int))
                                                    (1 : Int))
                                                  (U.sub IntKind.i64 (0 : Int) n)))
                                              (lk nth a b c (U.sub IntKind.i64 (lk size a b c) (1 : Int))))))],
                                  SV.lit (Value.int IntKind.i64 (0 : Int))])))))
                      (T.ask (I64 a ∧ I64 b ∧ I64 c)
                        (T.ask (I64 (-c))
                          (T.ask
                            (U.mm false (lk nth a b c (U.sub IntKind.i64 (lk size a b c) (1 : Int)))
                                  (lk nth a b c
                                    (U.sub IntKind.i64 (U.sub IntKind.i64 (lk size a b c) (1 : Int))
                                      (U.mul IntKind.i64
                                        (U.sub IntKind.i64
                                          (U.add IntKind.i64
                                            (U.quo IntKind.i64 (U.sub IntKind.i64 (lk size a b c) (1 : Int))
                                              (U.sub IntKind.i64 (0 : Int) n))
                                            (1 : Int))
                                          (1 : Int))
                                        (U.sub IntKind.i64 (0 : Int) n)))) <
                                U.mm true (lk nth a b c (U.sub IntKind.i64 (lk size a b c) (1 : Int)))
                                  (lk nth a b c
                                    (U.sub IntKind.i64 (U.sub IntKind.i64 (lk size a b c) (1 : Int))
                                      (U.mul IntKind.i64
                                        (U.sub IntKind.i64
                                          (U.add IntKind.i64
                                            (U.quo IntKind.i64 (U.sub IntKind.i64 (lk size a b c) (1 : Int))
                                              (U.sub IntKind.i64 (0 : Int) n))
                                            (1 : Int))
                                          (1 : Int))
                                        (U.sub IntKind.i64 (0 : Int) n)))) →
                              U.lt
                                    (lk nth a b c
                                      (U.sub IntKind.i64 (U.sub IntKind.i64 (lk size a b c) (1 : Int))
                                        (U.mul IntKind.i64
                                          (U.sub IntKind.i64
                                            (U.add IntKind.i64
                                              (U.quo IntKind.i64 (U.sub IntKind.i64 (lk size a b c) (1 : Int))
                                                (U.sub IntKind.i64 (0 : Int) n))
                                              (1 : Int))
                                            (1 : Int))
                                          (U.sub IntKind.i64 (0 : Int) n))))
                                    (lk nth a b c (U.sub IntKind.i64 (lk size a b c) (1 : Int))) =
                                  true →
                                I64 (-U.mul IntKind.i64 (lk absI c) (U.sub IntKind.i64 (0 : Int) n)))
                            (T.ret
                              (SV.tup
                                [SV.agg
                                    [SV.lit
                                        (Value.int IntKind.i64
                                          (lk rnL
                                            (U.mm false (lk nth a b c (U.sub IntKind.i64 (lk size a b c) (1 : Int)))
                                              (lk nth a b c
                                                (U.sub IntKind.i64 (U.sub IntKind.i64 (lk size a b c) (1 : Int))
                                                  (U.mul IntKind.i64
                                                    (U.sub IntKind.i64
                                                      (U.add IntKind.i64
                                                        (U.quo IntKind.i64 (U.sub IntKind.i64 (lk size a b c) (1 : Int))
                                                          (U.sub IntKind.i64 (0 : Int) n))
                                                        (1 : Int))
                                                      (1 : Int))
                                                    (U.sub IntKind.i64 (0 : Int) n)))))
                                            (U.mm true (lk nth a b c (U.sub IntKind.i64 (lk size a b c) (1 : Int)))
                                              (lk nth a b c
                                                (U.sub IntKind.i64 (U.sub IntKind.i64 (lk size a b c) (1 : Int))
                                                  (U.mul IntKind.i64
                                                    (U.sub IntKind.i64
                                                      (U.add IntKind.i64
                                                        (U.quo IntKind.i64 (U.sub IntKind.i64 (lk size a b c) (1 : Int))
                                                          (U.sub IntKind.i64 (0 : Int) n))
                                                        (1 : Int))
                                                      (1 : Int))
                                                    (U.sub IntKind.i64 (0 : Int) n)))))
                                            (U.mul IntKind.i64 (lk absI c) (U.sub IntKind.i64 (0 : Int) n))
                                            (U.lt
                                              (lk nth a b c
                                                (U.sub IntKind.i64 (U.sub IntKind.i64 (lk size a b c) (1 : Int))
                                                  (U.mul IntKind.i64
                                                    (U.sub IntKind.i64
                                                      (U.add IntKind.i64
                                                        (U.quo IntKind.i64 (U.sub IntKind.i64 (lk size a b c) (1 : Int))
                                                          (U.sub IntKind.i64 (0 : Int) n))
                                                        (1 : Int))
                                                      (1 : Int))
                                                    (U.sub IntKind.i64 (0 : Int) n))))
                                              (lk nth a b c (U.sub IntKind.i64 (lk size a b c) (1 : Int)))))),
                                      SV.lit
                                        (Value.int IntKind.i64
                                          (lk rnH
                                            (U.mm false (lk nth a b c (U.sub IntKind.i64 (lk size a b c) (1 : Int)))
                                              (lk nth a b c
                                                (U.sub IntKind.i64 (U.sub IntKind.i64 (lk size a b c) (1 : Int))
                                                  (U.mul IntKind.i64
                                                    (U.sub IntKind.i64
                                                      (U.add IntKind.i64
                                                        (U.quo IntKind.i64 (U.sub IntKind.i64 (lk size a b c) (1 : Int))
                                                          (U.sub IntKind.i64 (0 : Int) n))
                                                        (1 : Int))
                                                      (1 : Int))
                                                    (U.sub IntKind.i64 (0 : Int) n)))))
                                            (U.mm true (lk nth a b c (U.sub IntKind.i64 (lk size a b c) (1 : Int)))
                                              (lk nth a b c
                                                (U.sub IntKind.i64 (U.sub IntKind.i64 (lk size a b c) (1 : Int))
                                                  (U.mul IntKind.i64
                                                    (U.sub IntKind.i64
                                                      (U.add IntKind.i64
                                                        (U.quo IntKind.i64 (U.sub IntKind.i64 (lk size a b c) (1 : Int))
                                                          (U.sub IntKind.i64 (0 : Int) n))
                                                        (1 : Int))
                                                      (1 : Int))
                                                    (U.sub IntKind.i64 (0 : Int) n)))))
                                            (U.mul IntKind.i64 (lk absI c) (U.sub IntKind.i64 (0 : Int) n))
                                            (U.lt
                                              (lk nth a b c
                                                (U.sub IntKind.i64 (U.sub IntKind.i64 (lk size a b c) (1 : Int))
                                                  (U.mul IntKind.i64
                                                    (U.sub IntKind.i64
                                                      (U.add IntKind.i64
                                                        (U.quo IntKind.i64 (U.sub IntKind.i64 (lk size a b c) (1 : Int))
                                                          (U.sub IntKind.i64 (0 : Int) n))
                                                        (1 : Int))
                                                      (1 : Int))
                                                    (U.sub IntKind.i64 (0 : Int) n))))
                                              (lk nth a b c (U.sub IntKind.i64 (lk size a b c) (1 : Int)))))),
                                      SV.lit
                                        (Value.int IntKind.i64
                                          (lk rnS
                                            (U.mm false (lk nth a b c (U.sub IntKind.i64 (lk size a b c) (1 : Int)))
                                              (lk nth a b c
                                                (U.sub IntKind.i64 (U.sub IntKind.i64 (lk size a b c) (1 : Int))
                                                  (U.mul IntKind.i64
                                                    (U.sub IntKind.i64
                                                      (U.add IntKind.i64
                                                        (U.quo IntKind.i64 (U.sub IntKind.i64 (lk size a b c) (1 : Int))
                                                          (U.sub IntKind.i64 (0 : Int) n))
                                                        (1 : Int))
                                                      (1 : Int))
                                                    (U.sub IntKind.i64 (0 : Int) n)))))
                                            (U.mm true (lk nth a b c (U.sub IntKind.i64 (lk size a b c) (1 : Int)))
                                              (lk nth a b c
                                                (U.sub IntKind.i64 (U.sub IntKind.i64 (lk size a b c) (1 : Int))
                                                  (U.mul IntKind.i64
                                                    (U.sub IntKind.i64
                                                      (U.add IntKind.i64
                                                        (U.quo IntKind.i64 (U.sub IntKind.i64 (lk size a b c) (1 : Int))
                                                          (U.sub IntKind.i64 (0 : Int) n))
                                                        (1 : Int))
                                                      (1 : Int))
                                                    (U.sub IntKind.i64 (0 : Int) n)))))
                                            (U.mul IntKind.i64 (lk absI c) (U.sub IntKind.i64 (0 : Int) n))
                                            (U.lt
                                              (lk nth a b c
                                                (U.sub IntKind.i64 (U.sub IntKind.i64 (lk size a b c) (1 : Int))
                                                  (U.mul IntKind.i64
                                                    (U.sub IntKind.i64
                                                      (U.add IntKind.i64
                                                        (U.quo IntKind.i64 (U.sub IntKind.i64 (lk size a b c) (1 : Int))
                                                          (U.sub IntKind.i64 (0 : Int) n))
                                                        (1 : Int))
                                                      (1 : Int))
                                                    (U.sub IntKind.i64 (0 : Int) n))))
                                              (lk nth a b c (U.sub IntKind.i64 (lk size a b c) (1 : Int))))))],
                                  SV.lit (Value.int IntKind.i64 (0 : Int))]))))))))
                (T.ask (n ≠ (0 : Int))
                  (T.ask (I64 a ∧ I64 b ∧ I64 c)
                    (T.br (U.gt n (0 : Int))
                      (T.ask (I64 a ∧ I64 b ∧ I64 c)
                        (T.ask (I64 (-c))
                          (T.ask
                            (U.mm false (lk nth a b c (0 : Int))
                                  (lk nth a b c
                                    (U.mul IntKind.i64
                                      (U.sub IntKind.i64
                                        (U.add IntKind.i64
                                          (U.quo IntKind.i64 (U.sub IntKind.i64 (lk size a b c) (1 : Int)) n) (1 : Int))
                                        (1 : Int))
                                      n)) <
                                U.mm true (lk nth a b c (0 : Int))
                                  (lk nth a b c
                                    (U.mul IntKind.i64
                                      (U.sub IntKind.i64
                                        (U.add IntKind.i64
                                          (U.quo IntKind.i64 (U.sub IntKind.i64 (lk size a b c) (1 : Int)) n) (1 : Int))
                                        (1 : Int))
                                      n)) →
                              U.lt
                                    (lk nth a b c
                                      (U.mul IntKind.i64
                                        (U.sub IntKind.i64
                                          (U.add IntKind.i64
                                            (U.quo IntKind.i64 (U.sub IntKind.i64 (lk size a b c) (1 : Int)) n)
                                            (1 : Int))
                                          (1 : Int))
                                        n))
                                    (lk nth a b c (0 : Int)) =
                                  true →
                                I64 (-U.mul IntKind.i64 (lk absI c) n))
                            (T.ret
                              (SV.tup
                                [SV.agg
                                    [SV.lit
                                        (Value.int IntKind.i64
                                          (lk rnL
                                            (U.mm false (lk nth a b c (0 : Int))
                                              (lk nth a b c
                                                (U.mul IntKind.i64
                                                  (U.sub IntKind.i64
                                                    (U.add IntKind.i64
                                                      (U.quo IntKind.i64 (U.sub IntKind.i64 (lk size a b c) (1 : Int))
                                                        n)
                                                      (1 : Int))
                                                    (1 : Int))
                                                  n)))
                                            (U.mm true (lk nth a b c (0 : Int))
                                              (lk nth a b c
                                                (U.mul IntKind.i64
                                                  (U.sub IntKind.i64
                                                    (U.add IntKind.i64
                                                      (U.quo IntKind.i64 (U.sub IntKind.i64 (lk size a b c) (1 : Int))
                                                        n)
                                                      (1 : Int))
                                                    (1 : Int))
                                                  n)))
                                            (U.mul IntKind.i64 (lk absI c) n)
                                            (U.lt
                                              (lk nth a b c
                                                (U.mul IntKind.i64
                                                  (U.sub IntKind.i64
                                                    (U.add IntKind.i64
                                                      (U.quo IntKind.i64 (U.sub IntKind.i64 (lk size a b c) (1 : Int))
                                                        n)
                                                      (1 : Int))
                                                    (1 : Int))
                                                  n))
                                              (lk nth a b c (0 : Int))))),
                                      SV.lit
                                        (Value.int IntKind.i64
                                          (lk rnH
                                            (U.mm false (lk nth a b c (0 : Int))
                                              (lk nth a b c
                                                (U.mul IntKind.i64
                                                  (U.sub IntKind.i64
                                                    (U.add IntKind.i64
                                                      (U.quo IntKind.i64 (U.sub IntKind.i64 (lk size a b c) (1 : Int))
                                                        n)
                                                      (1 : Int))
                                                    (1 : Int))
                                                  n)))
                                            (U.mm true (lk nth a b c (0 : Int))
                                              (lk nth a b c
                                                (U.mul IntKind.i64
                                                  (U.sub IntKind.i64
                                                    (U.add IntKind.i64
                                                      (U.quo IntKind.i64 (U.sub IntKind.i64 (lk size a b c) (1 : Int))
                                                        n)
                                                      (1 : Int))
                                                    (1 : Int))
                                                  n)))
                                            (U.mul IntKind.i64 (lk absI c) n)
                                            (U.lt
                                              (lk nth a b c
                                                (U.mul IntKind.i64
                                                  (U.sub IntKind.i64
                                                    (U.add IntKind.i64
                                                      (U.quo IntKind.i64 (U.sub IntKind.i64 (lk size a b c) (1 : Int))
                                                        n)
                                                      (1 : Int))
                                                    (1 : Int))
                                                  n))
                                              (lk nth a b c (0 : Int))))),
                                      SV.lit
                                        (Value.int IntKind.i64
                                          (lk rnS
                                            (U.mm false (lk nth a b c (0 : Int))
                                              (lk nth a b c
                                                (U.mul IntKind.i64
                                                  (U.sub IntKind.i64
                                                    (U.add IntKind.i64
                                                      (U.quo IntKind.i64 (U.sub IntKind.i64 (lk size a b c) (1 : Int))
                                                        n)
                                                      (1 : Int))
                                                    (1 : Int))
                                                  n)))
                                            (U.mm true (lk nth a b c (0 : Int))
                                              (lk nth a b c
                                                (U.mul IntKind.i64
                                                  (U.sub IntKind.i64
                                                    (U.add IntKind.i64
                                                      (U.quo IntKind.i64 (U.sub IntKind.i64 (lk size a b c) (1 : Int))
                                                        n)
                                                      (1 : Int))
                                                    (1 : Int))
                                                  n)))
                                            (U.mul IntKind.i64 (lk absI c) n)
                                            (U.lt
                                              (lk nth a b c
                                                (U.mul IntKind.i64
                                                  (U.sub IntKind.i64
                                                    (U.add IntKind.i64
                                                      (U.quo IntKind.i64 (U.sub IntKind.i64 (lk size a b c) (1 : Int))
                                                        n)
                                                      (1 : Int))
                                                    (1 : Int))
                                                  n))
                                              (lk nth a b c (0 : Int)))))],
                                  SV.lit (Value.int IntKind.i64 (0 : Int))])))))
                      (T.ask (I64 a ∧ I64 b ∧ I64 c)
                        (T.ask (I64 (-c))
                          (T.ask
                            (U.mm false (lk nth a b c (0 : Int))
                                  (lk nth a b c
                                    (U.sub IntKind.i64 (U.sub IntKind.i64 (lk size a b c) (1 : Int))
                                      (U.mul IntKind.i64
                                        (U.sub IntKind.i64
                                          (U.add IntKind.i64
                                            (U.quo IntKind.i64 (U.sub IntKind.i64 (lk size a b c) (1 : Int)) n)
                                            (1 : Int))
                                          (1 : Int))
                                        n))) <
                                U.mm true (lk nth a b c (0 : Int))
                                  (lk nth a b c
                                    (U.sub IntKind.i64 (U.sub IntKind.i64 (lk size a b c) (1 : Int))
                                      (U.mul IntKind.i64
                                        (U.sub IntKind.i64
                                          (U.add IntKind.i64
                                            (U.quo IntKind.i64 (U.sub IntKind.i64 (lk size a b c) (1 : Int)) n)
                                            (1 : Int))
                                          (1 : Int))
                                        n))) →
                              U.lt
                                    (lk nth a b c
                                      (U.sub IntKind.i64 (U.sub IntKind.i64 (lk size a b c) (1 : Int))
                                        (U.mul IntKind.i64
                                          (U.sub IntKind.i64
                                            (U.add IntKind.i64
                                              (U.quo IntKind.i64 (U.sub IntKind.i64 (lk size a b c) (1 : Int)) n)
                                              (1 : Int))
                                            (1 : Int))
                                          n)))
                                    (lk nth a b c (0 : Int)) =
                                  true →
                                I64 (-U.mul IntKind.i64 (lk absI c) n))
                            (T.ret
                              (SV.tup
                                [SV.agg
                                    [SV.lit
                                        (Value.int IntKind.i64
                                          (lk rnL
                                            (U.mm false (lk nth a b c (0 : Int))
                                              (lk nth a b c
                                                (U.sub IntKind.i64 (U.sub IntKind.i64 (lk size a b c) (1 : Int))
                                                  (U.mul IntKind.i64
                                                    (U.sub IntKind.i64
                                                      (U.add IntKind.i64
                                                        (U.quo IntKind.i64 (U.sub IntKind.i64 (lk size a b c) (1 : Int))
                                                          n)
                                                        (1 : Int))
                                                      (1 : Int))
                                                    n))))
                                            (U.mm true (lk nth a b c (0 : Int))
                                              (lk nth a b c
                                                (U.sub IntKind.i64 (U.sub IntKind.i64 (lk size a b c) (1 : Int))
                                                  (U.mul IntKind.i64
                                                    (U.sub IntKind.i64
                                                      (U.add IntKind.i64
                                                        (U.quo IntKind.i64 (U.sub IntKind.i64 (lk size a b c) (1 : Int))
                                                          n)
                                                        (1 : Int))
                                                      (1 : Int))
                                                    n))))
                                            (U.mul IntKind.i64 (lk absI c) n)
                                            (U.lt
                                              (lk nth a b c
                                                (U.sub IntKind.i64 (U.sub IntKind.i64 (lk size a b c) (1 : Int))
                                                  (U.mul IntKind.i64
                                                    (U.sub IntKind.i64
                                                      (U.add IntKind.i64
                                                        (U.quo IntKind.i64 (U.sub IntKind.i64 (lk size a b c) (1 : Int))
                                                          n)
                                                        (1 : Int))
                                                      (1 : Int))
                                                    n)))
                                              (lk nth a b c (0 : Int))))),
                                      SV.lit
                                        (Value.int IntKind.i64
                                          (lk rnH
                                            (U.mm false (lk nth a b c (0 : Int))
                                              (lk nth a b c
                                                (U.sub IntKind.i64 (U.sub IntKind.i64 (lk size a b c) (1 : Int))
                                                  (U.mul IntKind.i64
                                                    (U.sub IntKind.i64
                                                      (U.add IntKind.i64
                                                        (U.quo IntKind.i64 (U.sub IntKind.i64 (lk size a b c) (1 : Int))
                                                          n)
                                                        (1 : Int))
                                                      (1 : Int))
                                                    n))))
                                            (U.mm true (lk nth a b c (0 : Int))
                                              (lk nth a b c
                                                (U.sub IntKind.i64 (U.sub IntKind.i64 (lk size a b c) (1 : Int))
                                                  (U.mul IntKind.i64
                                                    (U.sub IntKind.i64
                                                      (U.add IntKind.i64
                                                        (U.quo IntKind.i64 (U.sub IntKind.i64 (lk size a b c) (1 : Int))
                                                          n)
                                                        (1 : Int))
                                                      (1 : Int))
                                                    n))))
                                            (U.mul IntKind.i64 (lk absI c) n)
                                            (U.lt
                                              (lk nth a b c
                                                (U.sub IntKind.i64 (U.sub IntKind.i64 (lk size a b c) (1 : Int))
                                                  (U.mul IntKind.i64
                                                    (U.sub IntKind.i64
                                                      (U.add IntKind.i64
                                                        (U.quo IntKind.i64 (U.sub IntKind.i64 (lk size a b c) (1 : Int))
                                                          n)
                                                        (1 : Int))
                                                      (1 : Int))
                                                    n)))
                                              (lk nth a b c (0 : Int))))),
                                      SV.lit
                                        (Value.int IntKind.i64
                                          (lk rnS
                                            (U.mm false (lk nth a b c (0 : Int))
                                              (lk nth a b c
                                                (U.sub IntKind.i64 (U.sub IntKind.i64 (lk size a b c) (1 : Int))
                                                  (U.mul IntKind.i64
                                                    (U.sub IntKind.i64
                                                      (U.add IntKind.i64
                                                        (U.quo IntKind.i64 (U.sub IntKind.i64 (lk size a b c) (1 : Int))
                                                          n)
                                                        (1 : Int))
                                                      (1 : Int))
                                                    n))))
                                            (U.mm true (lk nth a b c (0 : Int))
                                              (lk nth a b c
                                                (U.sub IntKind.i64 (U.sub IntKind.i64 (lk size a b c) (1 : Int))
                                                  (U.mul IntKind.i64
                                                    (U.sub IntKind.i64
                                                      (U.add IntKind.i64
                                                        (U.quo IntKind.i64 (U.sub IntKind.i64 (lk size a b c) (1 : Int))
                                                          n)
                                                        (1 : Int))
                                                      (1 : Int))
                                                    n))))
                                            (U.mul IntKind.i64 (lk absI c) n)
                                            (U.lt
                                              (lk nth a b c
                                                (U.sub IntKind.i64 (U.sub IntKind.i64 (lk size a b c) (1 : Int))
                                                  (U.mul IntKind.i64
                                                    (U.sub IntKind.i64
                                                      (U.add IntKind.i64
                                                        (U.quo IntKind.i64 (U.sub IntKind.i64 (lk size a b c) (1 : Int))
                                                          n)
                                                        (1 : Int))
                                                      (1 : Int))
                                                    n)))
                                              (lk nth a b c (0 : Int)))))],
                                  SV.lit (Value.int IntKind.i64 (0 : Int))])))))))))))))) := by kernel_rfl
set_option maxHeartbeats 2000000 in
theorem rBy_ok : ConOK P 38 c_By := con_of (allOK mixed k7_ok) 10 38 fun args r h => by
  unfold c_By at h
  split at h
  · rename_i a b c n
    have hp := (T.is_ask h).1
    have h := (T.is_ask h).2
    obtain rfl := T.is_ret h
    rw [t_rBy]
    simp only [T.All, U.le_t, U.le_f, U.lt_t, U.lt_f, U.gt_t, U.gt_f, U.ge_t, U.ge_f, U.eq_t, U.eq_f, U.ne_t, U.ne_f, U.not_t, U.not_f, U.andb_t, U.andb_f, SV.lit.injEq, SV.agg.injEq, SV.tup.injEq, List.cons.injEq, Value.int.injEq, Value.bool.injEq, true_and, and_true, lk_eq, lim_t, lim_f, mm_min, mm_max]
    refine ⟨hp, fun h => ?_, fun h => ⟨fun h1 => ?_, fun h1 => ⟨fun h2 => ?_, fun h2 => ⟨hp, fun h3 => ?_, fun h3 => ⟨fun h4 => ?_, fun h4 => ?_⟩⟩⟩⟩⟩
    · have e : byErr0 a b c n = chk a b c := by simp [byErr0, h]
      simp [byLow, byHigh, byStr, byErr, e, h]
    · have e : byErr0 a b c n = 1 := by simp [byErr0, h, h1]
      simp [byLow, byHigh, byStr, byErr, e]
    · have e : byErr0 a b c n = 4 := by
        unfold byErr0; rw [if_neg (by simp [h]), if_neg h1, if_neg (by omega)]
      simp [byLow, byHigh, byStr, byErr, e]
    all_goals
      have hr := chk_zero.1 h
      have hl := hr.1
      rw [size_eq' hr] at *
    · have hab : ¬ a ≤ b := fun hab => by have := parts hr hab; omega
      have e0 : byErr0 a b c n = 0 := by unfold byErr0; rw [if_neg (by simp [h]), if_neg h1, if_pos h2]
      obtain ⟨f1, f2, f3⟩ := empty_of (c := c) hab
      have ec : byC a b c n ≤ 0 := by
        simp only [byC, f3]
        split
        · rw [Int.ediv_eq_zero_of_lt (by omega) (by omega)]; omega
        · rw [Int.ediv_eq_zero_of_lt (by omega) (by omega)]; omega
      simp [byLow, byHigh, byStr, byErr, e0, nLow, nHigh, nStr, nErr, ec]
    all_goals
      have hab : a ≤ b := Decidable.byContradiction fun h' => by have := empty_of (c := c) h'; omega
      obtain ⟨p1, p2, p3, p4, p5, p6, p7, p8, p9, p10⟩ := parts hr hab
      obtain ⟨g1, g2, g3⟩ := by_closed hr hab h1 h2
      have hc5 : I64 (-c) := by unfold I64; omega
      have hm : 1 ≤ absI n := by unfold absI; split <;> omega
      have hm2 : absI n ≤ 1000000 := by unfold absI; split <;> omega
      obtain ⟨d0, d1, d2, d3, d4⟩ := div_up (C := ofC a b c) (m := absI n) (by omega) (by omega)
      have m0 := mulle (x := 0) (y := absI n * ((ofC a b c - 1) / absI n)) p1 (by omega)
      have m1 := mulle (x := absI n * ((ofC a b c - 1) / absI n)) (y := ofC a b c - 1) p1 (by omega)
      have mz : absI c * (absI n * ((ofC a b c - 1) / absI n)) = 0 ↔ (ofC a b c - 1) / absI n = 0 := by rw [mul0 p1, mul0 hm]
      have mb := mul_bnd (x := absI c) (y := absI n) (X := 2000000) (Y := 1000000) (by omega) (by omega)
      have e4 : U.sub .i64 (ofC a b c) 1 = ofC a b c - 1 := U.sub64 (by unfold I64; omega)
      rw [Int.mul_zero] at m0
    · have e2 : U.sub .i64 0 n = -n := by rw [U.sub64 (by unfold I64; omega)]; omega
      have en : -n = absI n := (absI_neg h4).symm
      rw [e2, e4, en]
      have ek : (ofC a b c - 1) / absI n * absI n = absI n * ((ofC a b c - 1) / absI n) := Int.mul_comm _ _
      rw [U.quo64 (by rw [tdiv_pos (by omega)]; unfold I64; omega), tdiv_pos (by omega), U.add64 (by unfold I64; omega), U.sub64 (a := (ofC a b c - 1) / absI n + 1) (b := 1) (by unfold I64; omega),
        show (ofC a b c - 1) / absI n + 1 - 1 = (ofC a b c - 1) / absI n by omega, U.mul64 (by rw [ek]; unfold I64; omega), ek, U.sub64 (a := ofC a b c - 1) (b := absI n * ((ofC a b c - 1) / absI n)) (by unfold I64; omega),
        U.mul64 (by unfold I64; omega)]
      refine ⟨by omega, hp, fun g => by omega, fun _ => ⟨hp, hc5, ?_⟩⟩
      rw [nth_eq' hr hab (k := ofC a b c - 1) (by omega) (by omega), nth_eq' hr hab (k := ofC a b c - 1 - absI n * ((ofC a b c - 1) / absI n)) (by omega) (by omega), g1]
      have m3 : absI c * (ofC a b c - 1 - absI n * ((ofC a b c - 1) / absI n)) = absI c * (ofC a b c - 1) - absI c * (absI n * ((ofC a b c - 1) / absI n)) := Int.mul_sub _ _ _
      rw [m3]
      generalize absI c * (absI n * ((ofC a b c - 1) / absI n)) = z at *
      generalize absI c * (ofC a b c - 1) = y at *
      by_cases hc : c < 0
      · obtain ⟨r1, r2, r3⟩ := g2 (by simp [hc, h4])
        rw [r1, r2, r3]
        simp only [if_pos hc]
        have hlt : U.lt (b - (y - z)) (b - y) = false := by rw [U.lt_eq]; simp; omega
        rw [hlt, show min (b - y) (b - (y - z)) = a by omega, show max (b - y) (b - (y - z)) = a + z by omega]
        obtain ⟨q1, q2, q3⟩ := rn_up (l := a) (h := a + z) (s := absI c * absI n) (by omega)
        rw [q1, q2, q3]
        refine ⟨fun _ _ => by unfold I64; omega, ⟨rfl, rfl, ?_⟩, by simp⟩
        by_cases h : (ofC a b c - 1) / absI n = 0
        · rw [if_pos h, if_pos (by have := mz.2 h; omega)]
        · rw [if_neg h, if_neg (fun g => h (mz.1 (by omega)))]
      · obtain ⟨r1, r2, r3⟩ := g3 (fun g => hc (g.2 h4))
        rw [r1, r2, r3]
        simp only [if_neg hc]
        by_cases h : (ofC a b c - 1) / absI n = 0
        · have hz := mz.2 h
          have hlt : U.lt (a + (y - z)) (a + y) = false := by rw [U.lt_eq]; simp; omega
          rw [hlt, show min (a + y) (a + (y - z)) = b - z by omega, show max (a + y) (a + (y - z)) = b by omega]
          obtain ⟨q1, q2, q3⟩ := rn_up (l := b - z) (h := b) (s := absI c * absI n) (by omega)
          rw [q1, q2, q3, if_pos h, if_pos (by omega)]
          exact ⟨fun _ _ => by unfold I64; omega, ⟨rfl, rfl, rfl⟩, by simp⟩
        · have hz : z ≠ 0 := fun g => h (mz.1 g)
          have hlt : U.lt (a + (y - z)) (a + y) = true := by rw [U.lt_eq]; simp; omega
          rw [hlt, show min (a + y) (a + (y - z)) = b - z by omega, show max (a + y) (a + (y - z)) = b by omega]
          obtain ⟨q1, q2, q3⟩ := rn_dn (l := b - z) (h := b) (s := absI c * absI n) (by omega)
          rw [q1, q2, q3, if_neg h, if_neg (by omega)]
          exact ⟨fun _ _ => by unfold I64; omega, ⟨rfl, rfl, rfl⟩, by simp⟩
    · have en : absI n = n := absI_pos (by omega)
      rw [e4]
      simp only [en] at g2 g3 hm hm2 d0 d1 d2 d3 d4 m0 m1 mz mb
      have ek : (ofC a b c - 1) / n * n = n * ((ofC a b c - 1) / n) := Int.mul_comm _ _
      rw [U.quo64 (by rw [tdiv_pos (by omega)]; unfold I64; omega), tdiv_pos (by omega), U.add64 (by unfold I64; omega), U.sub64 (a := (ofC a b c - 1) / n + 1) (b := 1) (by unfold I64; omega),
        show (ofC a b c - 1) / n + 1 - 1 = (ofC a b c - 1) / n by omega, U.mul64 (a := (ofC a b c - 1) / n) (b := n) (by rw [ek]; unfold I64; omega), ek,
        U.mul64 (by unfold I64; omega)]
      refine ⟨by omega, hp, fun _ => ⟨hp, hc5, ?_⟩, fun g => by omega⟩
      rw [nth_eq' hr hab (k := 0) (by omega) (by omega), nth_eq' hr hab (k := n * ((ofC a b c - 1) / n)) (by omega) (by omega), g1, Int.mul_zero]
      generalize absI c * (n * ((ofC a b c - 1) / n)) = z at *
      generalize absI c * (ofC a b c - 1) = y at *
      by_cases hc : c < 0
      · obtain ⟨r1, r2, r3⟩ := g3 (fun g => by have := g.1 hc; omega)
        rw [r1, r2, r3]
        simp only [if_pos hc]
        by_cases h : (ofC a b c - 1) / n = 0
        · have hz := mz.2 h
          have hlt : U.lt (b - z) (b - 0) = false := by rw [U.lt_eq]; simp; omega
          rw [hlt, show min (b - 0) (b - z) = b - z by omega, show max (b - 0) (b - z) = b by omega]
          obtain ⟨q1, q2, q3⟩ := rn_up (l := b - z) (h := b) (s := absI c * n) (by omega)
          rw [q1, q2, q3, if_pos h, if_pos (by omega)]
          exact ⟨fun _ _ => by unfold I64; omega, ⟨rfl, rfl, rfl⟩, by simp⟩
        · have hz : z ≠ 0 := fun g => h (mz.1 g)
          have hlt : U.lt (b - z) (b - 0) = true := by rw [U.lt_eq]; simp; omega
          rw [hlt, show min (b - 0) (b - z) = b - z by omega, show max (b - 0) (b - z) = b by omega]
          obtain ⟨q1, q2, q3⟩ := rn_dn (l := b - z) (h := b) (s := absI c * n) (by omega)
          rw [q1, q2, q3, if_neg h, if_neg (by omega)]
          exact ⟨fun _ _ => by unfold I64; omega, ⟨rfl, rfl, rfl⟩, by simp⟩
      · obtain ⟨r1, r2, r3⟩ := g2 ⟨fun g => absurd g hc, fun g => by omega⟩
        rw [r1, r2, r3]
        simp only [if_neg hc]
        have hlt : U.lt (a + z) (a + 0) = false := by rw [U.lt_eq]; simp; omega
        rw [hlt, show min (a + 0) (a + z) = a by omega, show max (a + 0) (a + z) = a + z by omega]
        obtain ⟨q1, q2, q3⟩ := rn_up (l := a) (h := a + z) (s := absI c * n) (by omega)
        rw [q1, q2, q3]
        refine ⟨fun _ _ => by unfold I64; omega, ⟨rfl, rfl, ?_⟩, by simp⟩
        by_cases h : (ofC a b c - 1) / n = 0
        · rw [if_pos h, if_pos (by have := mz.2 h; omega)]
        · rw [if_neg h, if_neg (fun g => h (mz.1 (by omega)))]
  · exact h.elim
end Go.RX.Span
