/- Ranges: Translate of the program and of the reference. -/
import Derived.Test.YtfcafajfllegaaaSPm
set_option linter.unusedVariables false
set_option linter.unusedSimpArgs false
set_option maxRecDepth 100000
namespace Go.RX.Span
open Go Go.RX

theorem up_of {a b c : Int} (hr : Right a b c) (hab : a ≤ b) : uF (ofF a b c) (ofB a b c) (ofC a b c) = a ∧ uB (ofF a b c) (ofB a b c) (ofC a b c) = absI c := by
  obtain ⟨p1, p2, p3, p4, p5, p6, p7, p8, p9, p10⟩ := parts hr hab
  unfold uF uB
  rw [p6, p7]
  by_cases hc : c < 0
  · have e : absI c * (ofC a b c - 1) = -(c * (ofC a b c - 1)) := by rw [absI_neg hc, Int.neg_mul]
    simp only [if_pos hc, tF, tB, sLast, if_neg (show ¬ ofC a b c = 0 by omega), absI_neg hc]
    exact ⟨by omega, trivial⟩
  · simp only [if_neg hc, absI_pos hc, and_self]

/-- A range out of a series upwards, in a direction. -/
def mvE (f s C : Int) : Int := if C ≤ 0 then 0 else if (-1000000 ≤ f ∧ f ≤ 1000000) ∧ (-1000000 ≤ f + s * (C - 1) ∧ f + s * (C - 1) ≤ 1000000) then 0 else 4
def mvLow (f s C : Int) : Int := if C ≤ 0 then 1 else if mvE f s C = 0 then f else 0
def mvHigh (f s C : Int) : Int := if C ≤ 0 then 0 else if mvE f s C = 0 then f + s * (C - 1) else 0
def mvStr (f s C c : Int) : Int := if C ≤ 0 then 1 else if mvE f s C = 0 then (if C = 1 then 1 else if c < 0 then -s else s) else 0

theorem nrm_like {f s C c : Int} (hs : 1 ≤ s) :
    nErr (kF f s C c) (kB f s C c) C = mvE f s C ∧ nLow (kF f s C c) (kB f s C c) C = mvLow f s C ∧ nHigh (kF f s C c) (kB f s C c) C = mvHigh f s C ∧ nStr (kF f s C c) (kB f s C c) C = mvStr f s C c := by
  by_cases hC : C ≤ 0
  · simp [nErr, nLow, nHigh, nStr, mvE, mvLow, mvHigh, mvStr, hC]
  have h0 := mulle (x := 0) (y := C - 1) hs (by omega)
  rw [Int.mul_zero] at h0
  have n0 : ¬ C = 0 := by omega
  by_cases hc : c < 0
  · have eF : kF f s C c = f + s * (C - 1) := by simp only [kF, if_pos hc, tF, sLast, if_neg n0]
    have eB : kB f s C c = -s := by simp only [kB, if_pos hc, tB, if_neg n0]
    rw [eF, eB]
    have el : sLast (f + s * (C - 1)) (-s) C = f := by unfold sLast; rw [Int.neg_mul]; omega
    have e : nErr (f + s * (C - 1)) (-s) C = mvE f s C := by
      unfold nErr mvE
      rw [if_neg hC, if_neg hC, el]
      by_cases h : (-1000000 ≤ f ∧ f ≤ 1000000) ∧ (-1000000 ≤ f + s * (C - 1) ∧ f + s * (C - 1) ≤ 1000000)
      · rw [if_pos h, if_pos (by omega)]
      · rw [if_neg h, if_neg (by omega)]
    refine ⟨e, ?_, ?_, ?_⟩
    · simp only [nLow, mvLow, e, if_neg hC, el]; split <;> omega
    · simp only [nHigh, mvHigh, e, if_neg hC, el]; split <;> omega
    · simp only [nStr, mvStr, e, if_neg hC, if_pos hc]
  · have eF : kF f s C c = f := by simp only [kF, if_neg hc]
    have eB : kB f s C c = s := by simp only [kB, if_neg hc]
    rw [eF, eB]
    have el : sLast f s C = f + s * (C - 1) := rfl
    have e : nErr f s C = mvE f s C := by
      unfold nErr mvE
      rw [if_neg hC, if_neg hC, el]
    refine ⟨e, ?_, ?_, ?_⟩
    · simp only [nLow, mvLow, e, if_neg hC, el]; split <;> omega
    · simp only [nHigh, mvHigh, e, if_neg hC, el]; split <;> omega
    · simp only [nStr, mvStr, e, if_neg hC, if_neg hc]

theorem like_bnd {f s C c : Int} (hC : C ≠ 0) : (kB f s C c * (C - 1) = s * (C - 1) ∨ kB f s C c * (C - 1) = -(s * (C - 1))) ∧ (kF f s C c + kB f s C c * (C - 1) = f ∨ kF f s C c + kB f s C c * (C - 1) = f + s * (C - 1)) := by
  by_cases hc : c < 0
  · have eF : kF f s C c = f + s * (C - 1) := by simp only [kF, if_pos hc, tF, sLast, if_neg hC]
    have eB : kB f s C c = -s := by simp only [kB, if_pos hc, tB, if_neg hC]
    rw [eF, eB, Int.neg_mul]
    exact ⟨.inr rfl, .inl (by omega)⟩
  · have eF : kF f s C c = f := by simp only [kF, if_neg hc]
    have eB : kB f s C c = s := by simp only [kB, if_neg hc]
    rw [eF, eB]
    exact ⟨.inl rfl, .inr rfl⟩

def trE (a b c n : Int) : Int := if chk a b c ≠ 0 then chk a b c else if a > b then 0 else if n > 2000000 then 4 else mvE (a + max n (-3000000)) (absI c) (ofC a b c)
def trLow (a b c n : Int) : Int := if chk a b c ≠ 0 then 0 else if a > b then 1 else if n > 2000000 then 0 else mvLow (a + max n (-3000000)) (absI c) (ofC a b c)
def trHigh (a b c n : Int) : Int := if chk a b c ≠ 0 then 0 else if a > b then 0 else if n > 2000000 then 0 else mvHigh (a + max n (-3000000)) (absI c) (ofC a b c)
def trStr (a b c n : Int) : Int := if chk a b c ≠ 0 then 0 else if a > b then 1 else if n > 2000000 then 0 else mvStr (a + max n (-3000000)) (absI c) (ofC a b c) c
noncomputable def c_Translate : Con := fun args => match args with
  | [.agg [.lit (.int .i64 a), .lit (.int .i64 b), .lit (.int .i64 c)], .lit (.int .i64 n)] =>
    .ask (I64 a ∧ I64 b ∧ I64 c ∧ I64 n) (.ret (.tup [.agg [.lit (.int .i64 (lk trLow a b c n)), .lit (.int .i64 (lk trHigh a b c n)), .lit (.int .i64 (lk trStr a b c n))], .lit (.int .i64 (lk trE a b c n))]))
  | _ => .stuck 1

set_option maxRecDepth 100000 in
theorem t_Translate (a b c n : Int) : conB Go.Proofs.Try.prog (conOf k8) noLoops 10 40 [.agg [.lit (.int .i64 a), .lit (.int .i64 b), .lit (.int .i64 c)], .lit (.int .i64 n)] =
    T.ask (I64 a ∧ I64 b ∧ I64 c)
    (T.br (U.ne (lk chk a b c) (0 : Int))
      (T.ret
        (SV.tup
          [SV.agg
              [SV.lit (Value.int IntKind.i64 (0 : Int)), SV.lit (Value.int IntKind.i64 (0 : Int)),
                SV.lit (Value.int IntKind.i64 (0 : Int))],
            SV.lit (Value.int IntKind.i64 (lk chk a b c))]))
      (T.ask
        (a ≤ b →
          c ≠ (0 : Int) ∧
            (-9223372036854775807 : Int) ≤ c ∧ b - a < (9223372036854775807 : Int) ∧ I64 a ∧ I64 b ∧ I64 c)
        (T.ask
          (lk ofB a b c < (0 : Int) →
            lk ofC a b c ≠ (0 : Int) →
              I64 (lk ofC a b c - (1 : Int)) ∧
                I64 (lk ofB a b c * (lk ofC a b c - (1 : Int))) ∧
                  I64 (lk ofF a b c + lk ofB a b c * (lk ofC a b c - (1 : Int))) ∧ I64 (-lk ofB a b c))
          (T.br (U.eq (lk ofC a b c) (0 : Int))
            (T.ask
              ((0 : Int) < lk ofC a b c →
                I64 (lk ofC a b c - (1 : Int)) ∧
                  I64 (lk uB (lk ofF a b c) (lk ofB a b c) (lk ofC a b c) * (lk ofC a b c - (1 : Int))) ∧
                    I64
                      (lk uF (lk ofF a b c) (lk ofB a b c) (lk ofC a b c) +
                        lk uB (lk ofF a b c) (lk ofB a b c) (lk ofC a b c) * (lk ofC a b c - (1 : Int))))
              (T.ret
                (SV.tup
                  [SV.agg
                      [SV.lit
                          (Value.int IntKind.i64
                            (lk nLow (lk uF (lk ofF a b c) (lk ofB a b c) (lk ofC a b c))
                              (lk uB (lk ofF a b c) (lk ofB a b c) (lk ofC a b c)) (lk ofC a b c))),
                        SV.lit
                          (Value.int IntKind.i64
                            (lk nHigh (lk uF (lk ofF a b c) (lk ofB a b c) (lk ofC a b c))
                              (lk uB (lk ofF a b c) (lk ofB a b c) (lk ofC a b c)) (lk ofC a b c))),
                        SV.lit
                          (Value.int IntKind.i64
                            (lk nStr (lk uF (lk ofF a b c) (lk ofB a b c) (lk ofC a b c))
                              (lk uB (lk ofF a b c) (lk ofB a b c) (lk ofC a b c)) (lk ofC a b c)))],
                    SV.lit
                      (Value.int IntKind.i64
                        (lk nErr (lk uF (lk ofF a b c) (lk ofB a b c) (lk ofC a b c))
                          (lk uB (lk ofF a b c) (lk ofB a b c) (lk ofC a b c)) (lk ofC a b c)))])))
            (T.br (U.gt n (2000000 : Int))
              (T.ret
                (SV.tup
                  [SV.agg
                      [SV.lit (Value.int IntKind.i64 (0 : Int)), SV.lit (Value.int IntKind.i64 (0 : Int)),
                        SV.lit (Value.int IntKind.i64 (0 : Int))],
                    SV.lit (Value.int IntKind.i64 (4 : Int))]))
              (T.ask
                (c < (0 : Int) →
                  lk ofC a b c ≠ (0 : Int) →
                    I64 (lk ofC a b c - (1 : Int)) ∧
                      I64 (lk uB (lk ofF a b c) (lk ofB a b c) (lk ofC a b c) * (lk ofC a b c - (1 : Int))) ∧
                        I64
                            (U.add IntKind.i64 (lk uF (lk ofF a b c) (lk ofB a b c) (lk ofC a b c))
                                (U.mm true n (-3000000 : Int)) +
                              lk uB (lk ofF a b c) (lk ofB a b c) (lk ofC a b c) * (lk ofC a b c - (1 : Int))) ∧
                          I64 (-lk uB (lk ofF a b c) (lk ofB a b c) (lk ofC a b c)))
                (T.ask
                  ((0 : Int) < lk ofC a b c →
                    I64 (lk ofC a b c - (1 : Int)) ∧
                      I64
                          (lk kB
                              (U.add IntKind.i64 (lk uF (lk ofF a b c) (lk ofB a b c) (lk ofC a b c))
                                (U.mm true n (-3000000 : Int)))
                              (lk uB (lk ofF a b c) (lk ofB a b c) (lk ofC a b c)) (lk ofC a b c) c *
                            (lk ofC a b c - (1 : Int))) ∧
                        I64
                          (lk kF
                              (U.add IntKind.i64 (lk uF (lk ofF a b c) (lk ofB a b c) (lk ofC a b c))
                                (U.mm true n (-3000000 : Int)))
                              (lk uB (lk ofF a b c) (lk ofB a b c) (lk ofC a b c)) (lk ofC a b c) c +
                            lk kB
                                (U.add IntKind.i64 (lk uF (lk ofF a b c) (lk ofB a b c) (lk ofC a b c))
                                  (U.mm true n (-3000000 : Int)))
                                (lk uB (lk ofF a b c) (lk ofB a b c) (lk ofC a b c)) (lk ofC a b c) c *
                              (lk ofC a b c - (1 : Int))))
                  (T.ret
                    (SV.tup
                      [SV.agg
                          [SV.lit
                              (Value.int IntKind.i64
                                (lk nLow
                                  (lk kF
                                    (U.add IntKind.i64 (lk uF (lk ofF a b c) (lk ofB a b c) (lk ofC a b c))
                                      (U.mm true n (-3000000 : Int)))
                                    (lk uB (lk ofF a b c) (lk ofB a b c) (lk ofC a b c)) (lk ofC a b c) c)
                                  (lk kB
                                    (U.add IntKind.i64 (lk uF (lk ofF a b c) (lk ofB a b c) (lk ofC a b c))
                                      (U.mm true n (-3000000 : Int)))
                                    (lk uB (lk ofF a b c) (lk ofB a b c) (lk ofC a b c)) (lk ofC a b c) c)
                                  (lk ofC a b c))),
                            SV.lit
                              (Value.int IntKind.i64
                                (lk nHigh
                                  (lk kF
                                    (U.add IntKind.i64 (lk uF (lk ofF a b c) (lk ofB a b c) (lk ofC a b c))
                                      (U.mm true n (-3000000 : Int)))
                                    (lk uB (lk ofF a b c) (lk ofB a b c) (lk ofC a b c)) (lk ofC a b c) c)
                                  (lk kB
                                    (U.add IntKind.i64 (lk uF (lk ofF a b c) (lk ofB a b c) (lk ofC a b c))
                                      (U.mm true n (-3000000 : Int)))
                                    (lk uB (lk ofF a b c) (lk ofB a b c) (lk ofC a b c)) (lk ofC a b c) c)
                                  (lk ofC a b c))),
                            SV.lit
                              (Value.int IntKind.i64
                                (lk nStr
                                  (lk kF
                                    (U.add IntKind.i64 (lk uF (lk ofF a b c) (lk ofB a b c) (lk ofC a b c))
                                      (U.mm true n (-3000000 : Int)))
                                    (lk uB (lk ofF a b c) (lk ofB a b c) (lk ofC a b c)) (lk ofC a b c) c)
                                  (lk kB
                                    (U.add IntKind.i64 (lk uF (lk ofF a b c) (lk ofB a b c) (lk ofC a b c))
                                      (U.mm true n (-3000000 : Int)))
                                    (lk uB (lk ofF a b c) (lk ofB a b c) (lk ofC a b c)) (lk ofC a b c) c)
                                  (lk ofC a b c)))],
                        SV.lit
                          (Value.int IntKind.i64
                            (lk nErr
                              (lk kF
                                (U.add IntKind.i64 (lk uF (lk ofF a b c) (lk ofB a b c) (lk ofC a b c))
                                  (U.mm true n (-3000000 : Int)))
                                (lk uB (lk ofF a b c) (lk ofB a b c) (lk ofC a b c)) (lk ofC a b c) c)
                              (lk kB
                                (U.add IntKind.i64 (lk uF (lk ofF a b c) (lk ofB a b c) (lk ofC a b c))
                                  (U.mm true n (-3000000 : Int)))
                                (lk uB (lk ofF a b c) (lk ofB a b c) (lk ofC a b c)) (lk ofC a b c) c)
                              (lk ofC a b c)))]))))))))) := by kernel_rfl
theorem Translate_ok : ConOK P 40 c_Translate := con_of (allOK mixed k8_ok) 10 40 fun args r h => by
  unfold c_Translate at h
  split at h
  · rename_i a b c n
    have hp := (T.is_ask h).1
    have h := (T.is_ask h).2
    obtain rfl := T.is_ret h
    rw [t_Translate]
    simp only [T.All, U.le_t, U.le_f, U.lt_t, U.lt_f, U.gt_t, U.gt_f, U.ge_t, U.ge_f, U.eq_t, U.eq_f, U.ne_t, U.ne_f, U.not_t, U.not_f, U.andb_t, U.andb_f, SV.lit.injEq, SV.agg.injEq, SV.tup.injEq, List.cons.injEq, Value.int.injEq, Value.bool.injEq, true_and, and_true, lk_eq, lim_t, lim_f, mm_min, mm_max]
    refine ⟨⟨hp.1, hp.2.1, hp.2.2.1⟩, fun h => ?_, fun h => ⟨of_ask (chk_zero.1 h) hp.1 hp.2.1 hp.2.2.1, ?_⟩⟩
    · simp [trE, trLow, trHigh, trStr, h]
    have hr := chk_zero.1 h
    have hl := hr.1
    by_cases hab : a ≤ b
    · obtain ⟨p1, p2, p3, p4, p5, p6, p7, p8, p9, p10⟩ := parts hr hab
      obtain ⟨u1, u2⟩ := up_of hr hab
      obtain ⟨s1, s2, s3, s4, s5⟩ := series_of hr hab
      have sl := s5 (ofC a b c - 1) (by omega) (by omega)
      rw [u1, u2]
      have m1 : I64 (ofB a b c * (ofC a b c - 1)) := by unfold I64; omega
      refine ⟨fun _ _ => ⟨by unfold I64; omega, m1, by unfold I64; omega, by unfold I64; omega⟩, fun g => by omega, fun _ => ⟨fun g => ?_, fun g => ?_⟩⟩
      · have n1 : ¬ a > b := by omega
        simp [trE, trLow, trHigh, trStr, h, n1, g]
      · have n1 : ¬ a > b := by omega
        have n2 : ¬ n > 2000000 := by omega
        rw [U.add64 (by unfold I64; omega)]
        obtain ⟨q1, q2, q3, q4⟩ := nrm_like (f := a + max n (-3000000)) (s := absI c) (C := ofC a b c) (c := c) p1
        rw [q1, q2, q3, q4]
        simp only [trE, trLow, trHigh, trStr, h, ne_eq, not_true_eq_false, if_false, if_neg n1, if_neg n2, and_self, and_true]
        obtain ⟨l1, l2⟩ := like_bnd (f := a + max n (-3000000)) (s := absI c) (C := ofC a b c) (c := c) (by omega)
        refine ⟨fun _ _ => ⟨by unfold I64; omega, by unfold I64; omega, by unfold I64; omega, by unfold I64; omega⟩, fun _ => ⟨by unfold I64; omega, ?_, ?_⟩⟩
        · unfold I64; omega
        · unfold I64; omega
    · obtain ⟨f1, f2, f3⟩ := empty_of (c := c) hab
      rw [f1, f2, f3]
      refine ⟨fun g => absurd g (by omega), fun _ => ⟨fun g => absurd g (by omega), ?_⟩, fun g => absurd rfl g⟩
      have n1 : a > b := by omega
      simp [nLow, nHigh, nStr, nErr, trE, trLow, trHigh, trStr, h, n1]
  · exact h.elim

theorem isE_t {a b c : Int} : (isE a b c = true) = (a = 1 ∧ b = 0 ∧ c = 1) := by unfold isE; simp
theorem isE_f {a b c : Int} : (isE a b c = false) = ¬ (a = 1 ∧ b = 0 ∧ c = 1) := by unfold isE; simp
theorem right_le {a b c : Int} (hr : Right a b c) (h : ¬ (a = 1 ∧ b = 0 ∧ c = 1)) : a ≤ b := by rcases hr.2 with h' | h' | h' <;> omega
/-- The reference's way to the same. -/
theorem rn_mv {f s C c : Int} (hs : 1 ≤ s) (hC : 1 ≤ C) (h : mvE f s C = 0) (d : Bool) (hd : d = decide (c < 0)) :
    rnL f (f + s * (C - 1)) s d = mvLow f s C ∧ rnH f (f + s * (C - 1)) s d = mvHigh f s C ∧ rnS f (f + s * (C - 1)) s d = mvStr f s C c := by
  have h0 := mulle (x := 0) (y := C - 1) hs (by omega)
  have hz := mul0 (s := s) (k := C - 1) hs
  rw [Int.mul_zero] at h0
  have n1 : ¬ C ≤ 0 := by omega
  simp only [mvLow, mvHigh, mvStr, h, if_neg n1, if_true]
  by_cases hc : c < 0
  · have : d = true := by rw [hd]; simp [hc]
    subst this
    obtain ⟨q1, q2, q3⟩ := rn_dn (l := f) (h := f + s * (C - 1)) (s := s) (by omega)
    rw [q1, q2, q3, if_pos hc]
    refine ⟨rfl, rfl, ?_⟩
    by_cases h : C = 1
    · rw [if_pos (by omega), if_pos h]
    · rw [if_neg (by omega), if_neg h]
  · have : d = false := by rw [hd]; simp; omega
    subst this
    obtain ⟨q1, q2, q3⟩ := rn_up (l := f) (h := f + s * (C - 1)) (s := s) (by omega)
    rw [q1, q2, q3, if_neg hc]
    refine ⟨rfl, rfl, ?_⟩
    by_cases h : C = 1
    · rw [if_pos (by omega), if_pos h]
    · rw [if_neg (by omega), if_neg h]

set_option maxRecDepth 100000 in
theorem t_rTranslate (a b c n : Int) : conB Go.Proofs.Try.prog (conOf k8) noLoops 10 41 [.agg [.lit (.int .i64 a), .lit (.int .i64 b), .lit (.int .i64 c)], .lit (.int .i64 n)] =
    T.ask (I64 a ∧ I64 b ∧ I64 c)
    (T.br (U.ne (lk chk a b c) (0 : Int))
      (T.ret
        (SV.tup
          [SV.agg
              [SV.lit (Value.int IntKind.i64 (0 : Int)), SV.lit (Value.int IntKind.i64 (0 : Int)),
                SV.lit (Value.int IntKind.i64 (0 : Int))],
            SV.lit (Value.int IntKind.i64 (lk chk a b c))]))
      (T.br (lk isE a b c)
        (T.ret
          (SV.tup
            [SV.agg
                [SV.lit (Value.int IntKind.i64 a), SV.lit (Value.int IntKind.i64 b), SV.lit (Value.int IntKind.i64 c)],
              SV.lit (Value.int IntKind.i64 (0 : Int))]))
        (T.br (U.gt n (2000000 : Int))
          (T.ret
            (SV.tup
              [SV.agg
                  [SV.lit (Value.int IntKind.i64 (0 : Int)), SV.lit (Value.int IntKind.i64 (0 : Int)),
                    SV.lit (Value.int IntKind.i64 (0 : Int))],
                SV.lit (Value.int IntKind.i64 (4 : Int))]))
          (T.br (U.lt n (-2000000 : Int))
            (T.ret
              (SV.tup
                [SV.agg
                    [SV.lit (Value.int IntKind.i64 (0 : Int)), SV.lit (Value.int IntKind.i64 (0 : Int)),
                      SV.lit (Value.int IntKind.i64 (0 : Int))],
                  SV.lit (Value.int IntKind.i64 (4 : Int))]))
            (T.ask (I64 (-c))
              (T.br (U.le (U.add IntKind.i64 a n) (U.add IntKind.i64 b n))
                (T.br (U.not (lk lim (U.add IntKind.i64 a n)))
                  (T.ret
                    (SV.tup
                      [SV.agg
                          [SV.lit (Value.int IntKind.i64 (0 : Int)), SV.lit (Value.int IntKind.i64 (0 : Int)),
                            SV.lit (Value.int IntKind.i64 (0 : Int))],
                        SV.lit (Value.int IntKind.i64 (4 : Int))]))
                  (T.br (U.not (lk lim (U.add IntKind.i64 b n)))
                    (T.ret
                      (SV.tup
                        [SV.agg
                            [SV.lit (Value.int IntKind.i64 (0 : Int)), SV.lit (Value.int IntKind.i64 (0 : Int)),
                              SV.lit (Value.int IntKind.i64 (0 : Int))],
                          SV.lit (Value.int IntKind.i64 (4 : Int))]))
                    (T.ask (U.add IntKind.i64 a n < U.add IntKind.i64 b n → U.lt c (0 : Int) = true → I64 (-lk absI c))
                      (T.ret
                        (SV.tup
                          [SV.agg
                              [SV.lit
                                  (Value.int IntKind.i64
                                    (lk rnL (U.add IntKind.i64 a n) (U.add IntKind.i64 b n) (lk absI c)
                                      (U.lt c (0 : Int)))),
                                SV.lit
                                  (Value.int IntKind.i64
                                    (lk rnH (U.add IntKind.i64 a n) (U.add IntKind.i64 b n) (lk absI c)
                                      (U.lt c (0 : Int)))),
                                SV.lit
                                  (Value.int IntKind.i64
                                    (lk rnS (U.add IntKind.i64 a n) (U.add IntKind.i64 b n) (lk absI c)
                                      (U.lt c (0 : Int))))],
                            SV.lit (Value.int IntKind.i64 (0 : Int))])))))
                (T.ask (U.add IntKind.i64 a n < U.add IntKind.i64 b n → U.lt c (0 : Int) = true → I64 (-lk absI c))
                  (T.ret
                    (SV.tup
                      [SV.agg
                          [SV.lit
                              (Value.int IntKind.i64
                                (lk rnL (U.add IntKind.i64 a n) (U.add IntKind.i64 b n) (lk absI c)
                                  (U.lt c (0 : Int)))),
                            SV.lit
                              (Value.int IntKind.i64
                                (lk rnH (U.add IntKind.i64 a n) (U.add IntKind.i64 b n) (lk absI c)
                                  (U.lt c (0 : Int)))),
                            SV.lit
                              (Value.int IntKind.i64
                                (lk rnS (U.add IntKind.i64 a n) (U.add IntKind.i64 b n) (lk absI c)
                                  (U.lt c (0 : Int))))],
                        SV.lit (Value.int IntKind.i64 (0 : Int))]))))))))) := by kernel_rfl
theorem rTranslate_ok : ConOK P 41 c_Translate := con_of (allOK mixed k8_ok) 10 41 fun args r h => by
  unfold c_Translate at h
  split at h
  · rename_i a b c n
    have hp := (T.is_ask h).1
    have h := (T.is_ask h).2
    obtain rfl := T.is_ret h
    rw [t_rTranslate]
    simp only [T.All, U.le_t, U.le_f, U.lt_t, U.lt_f, U.gt_t, U.gt_f, U.ge_t, U.ge_f, U.eq_t, U.eq_f, U.ne_t, U.ne_f, U.not_t, U.not_f, U.andb_t, U.andb_f, SV.lit.injEq, SV.agg.injEq, SV.tup.injEq, List.cons.injEq, Value.int.injEq, Value.bool.injEq, true_and, and_true, lk_eq, lim_t, lim_f, isE_t, isE_f, U.lt_t]
    refine ⟨⟨hp.1, hp.2.1, hp.2.2.1⟩, fun h => ?_, fun h => ⟨fun he => ?_, fun he => ⟨fun hn => ?_, fun hn => ⟨fun hn2 => ?_, fun hn2 => ?_⟩⟩⟩⟩
    · simp [trE, trLow, trHigh, trStr, h]
    · obtain ⟨rfl, rfl, rfl⟩ := he
      simp [trE, trLow, trHigh, trStr, h]
    all_goals
      have hr := chk_zero.1 h
      have hl := hr.1
      have hab := right_le hr he
      obtain ⟨p1, p2, p3, p4, p5, p6, p7, p8, p9, p10⟩ := parts hr hab
      have n1 : ¬ a > b := by omega
    · simp [trE, trLow, trHigh, trStr, h, n1, hn]
    all_goals
      have n2 : ¬ n > 2000000 := by omega
    · have e : mvE (a + max n (-3000000)) (absI c) (ofC a b c) = 4 := by
        unfold mvE; rw [if_neg (by omega), if_neg (by omega)]
      simp only [trE, trLow, trHigh, trStr, h, ne_eq, not_true_eq_false, if_false, if_neg n1, if_neg n2, mvLow, mvHigh, mvStr, e, if_neg (show ¬ ofC a b c ≤ 0 by omega)]
      simp
    have e1 : U.add .i64 a n = a + n := U.add64 (by unfold I64; omega)
    have e2 : U.add .i64 b n = b + n := U.add64 (by unfold I64; omega)
    have em : max n (-3000000) = n := by omega
    rw [e1, e2]
    have ed : U.lt c 0 = decide (c < 0) := U.lt_eq c 0
    have eb : a + n + absI c * (ofC a b c - 1) = b + n := by omega
    have n3 : ¬ ofC a b c ≤ 0 := by omega
    simp only [trE, trLow, trHigh, trStr, h, ne_eq, not_true_eq_false, if_false, if_neg n1, if_neg n2, em]
    have bad : ∀ x : Int, x = mvE (a + n) (absI c) (ofC a b c) → x = 4 → (0 = mvLow (a + n) (absI c) (ofC a b c) ∧ 0 = mvHigh (a + n) (absI c) (ofC a b c) ∧ 0 = mvStr (a + n) (absI c) (ofC a b c) c) ∧ 4 = mvE (a + n) (absI c) (ofC a b c) := fun x hx hx4 => by
      have e : mvE (a + n) (absI c) (ofC a b c) = 4 := by omega
      simp [mvLow, mvHigh, mvStr, e, n3]
    refine ⟨by unfold I64; omega, fun _ => ⟨fun g => bad _ rfl ?_, fun g1 => ⟨fun g => bad _ rfl ?_, fun g2 => ⟨fun _ _ => by unfold I64; omega, ?_, ?_⟩⟩⟩, fun g => by omega⟩
    · unfold mvE; rw [if_neg n3, if_neg (by omega)]
    · unfold mvE; rw [if_neg n3, if_neg (by omega)]
    all_goals
      have e : mvE (a + n) (absI c) (ofC a b c) = 0 := by unfold mvE; rw [if_neg n3, if_pos (by omega)]
    · rw [← eb]
      exact rn_mv p1 p3 e _ ed
    · exact e.symm
  · exact h.elim
end Go.RX.Span
