/- Intersect and Within of the program: the walks. -/
import Derived.Test.YtfcafajfllegaaaSRf
set_option linter.unusedVariables false
set_option linter.unusedSimpArgs false
set_option maxRecDepth 100000
namespace Go.RX.Span
open Go Go.RX

def isF (a b c x y z : Int) : Int := cmFst (sA a b c) (sS a b c) (ofC a b c) (sA x y z) (sS x y z) (ofC x y z)
def isB (a b c x y z : Int) : Int := cmBy (sA a b c) (sS a b c) (ofC a b c) (sA x y z) (sS x y z) (ofC x y z)
def isC (a b c x y z : Int) : Int := cmCnt (sA a b c) (sS a b c) (ofC a b c) (sA x y z) (sS x y z) (ofC x y z)
def wiB (a b c x y z : Int) : Bool := if ckd a b c x y z ≠ 0 then false else decide (isC a b c x y z = ofC a b c)
def isL (a b c x y z : Int) : Int := if ckd a b c x y z ≠ 0 then 0 else nLow (kF (isF a b c x y z) (isB a b c x y z) (isC a b c x y z) c) (kB (isF a b c x y z) (isB a b c x y z) (isC a b c x y z) c) (isC a b c x y z)
def isH (a b c x y z : Int) : Int := if ckd a b c x y z ≠ 0 then 0 else nHigh (kF (isF a b c x y z) (isB a b c x y z) (isC a b c x y z) c) (kB (isF a b c x y z) (isB a b c x y z) (isC a b c x y z) c) (isC a b c x y z)
def isS (a b c x y z : Int) : Int := if ckd a b c x y z ≠ 0 then 0 else nStr (kF (isF a b c x y z) (isB a b c x y z) (isC a b c x y z) c) (kB (isF a b c x y z) (isB a b c x y z) (isC a b c x y z) c) (isC a b c x y z)
def isEr (a b c x y z : Int) : Int := if ckd a b c x y z ≠ 0 then ckd a b c x y z else nErr (kF (isF a b c x y z) (isB a b c x y z) (isC a b c x y z) c) (kB (isF a b c x y z) (isB a b c x y z) (isC a b c x y z) c) (isC a b c x y z)
theorem is_sw {a b c x y z : Int} (h : Right a b c) (h' : Right x y z) : Sw (isF a b c x y z) (isB a b c x y z) (isC a b c x y z) ∧ ∀ n, SIn (isF a b c x y z) (isB a b c x y z) (isC a b c x y z) n ↔ RIn a b c n ∧ RIn x y z n :=
  cm_set (up_ser h) (up_ser h')

theorem like_ask {F B C c : Int} (h : Sw F B C) : c < 0 → C ≠ 0 → I64 (C - 1) ∧ I64 (B * (C - 1)) ∧ I64 (F + B * (C - 1)) ∧ I64 (-B) := fun _ hC => by
  obtain ⟨h1, h2, h3, h4, h5⟩ := h.resolve_left hC
  have m0 := mulle (s := B) (x := 0) (y := C - 1) h2 (by omega)
  have m1 : 1 * (C - 1) ≤ B * (C - 1) := Int.mul_le_mul_of_nonneg_right h2 (by omega)
  rw [Int.mul_zero] at m0
  unfold I64
  omega
theorem norm_ask {F B C c : Int} (h : Sw F B C) : 0 < C → I64 (C - 1) ∧ I64 (kB F B C c * (C - 1)) ∧ I64 (kF F B C c + kB F B C c * (C - 1)) := fun hC => by
  obtain ⟨h1, h2, h3, h4, h5⟩ := h.resolve_left (by omega)
  have m0 := mulle (s := B) (x := 0) (y := C - 1) h2 (by omega)
  have m1 : 1 * (C - 1) ≤ B * (C - 1) := Int.mul_le_mul_of_nonneg_right h2 (by omega)
  rw [Int.mul_zero] at m0
  obtain ⟨k1, k2⟩ := like_bnd (f := F) (s := B) (C := C) (c := c) (by omega)
  unfold I64
  rcases k1 with k1 | k1 <;> rcases k2 with k2 | k2 <;> rw [k2, k1] <;> omega
noncomputable def c_Within : Con := fun args => match args with
  | [.agg [.lit (.int .i64 a), .lit (.int .i64 b), .lit (.int .i64 c)], .agg [.lit (.int .i64 x), .lit (.int .i64 y), .lit (.int .i64 z)]] =>
    .ask (I64 a ∧ I64 b ∧ I64 c ∧ I64 x ∧ I64 y ∧ I64 z) (.ret (.tup [.lit (.bool (lk wiB a b c x y z)), .lit (.int .i64 (lk ckd a b c x y z))]))
  | _ => .stuck 1
set_option maxRecDepth 100000 in
theorem t_Within (a b c x y z : Int) : conB Go.Proofs.Try.prog (conOf ke) noLoops 10 50 [.agg [.lit (.int .i64 a), .lit (.int .i64 b), .lit (.int .i64 c)], .agg [.lit (.int .i64 x), .lit (.int .i64 y), .lit (.int .i64 z)]] =
    T.ask (I64 a ∧ I64 b ∧ I64 c ∧ I64 x ∧ I64 y ∧ I64 z)
    (T.br (U.ne (lk ckd a b c x y z) (0 : Int))
      (T.ret (SV.tup [SV.lit (Value.bool false), SV.lit (Value.int IntKind.i64 (lk ckd a b c x y z))]))
      (T.ask
        (a ≤ b →
          c ≠ (0 : Int) ∧
            (-9223372036854775807 : Int) ≤ c ∧ b - a < (9223372036854775807 : Int) ∧ I64 a ∧ I64 b ∧ I64 c)
        (T.ask
          (lk ofB a b c < (0 : Int) →
            lk ofC a b c ≠ (0 : Int) →
              I64 (lk ofC a b c - (1 : Int)) ∧
                I64 (lk ofB a b c * (lk ofC a b c - (1 : Int))) ∧
                  I64 (lk ofF a b c + lk ofB a b c * (lk ofC a b c - (1 : Int))) ∧ I64 (-lk ofB a b c))
          (T.ask
            (x ≤ y →
              z ≠ (0 : Int) ∧
                (-9223372036854775807 : Int) ≤ z ∧ y - x < (9223372036854775807 : Int) ∧ I64 x ∧ I64 y ∧ I64 z)
            (T.ask
              (lk ofB x y z < (0 : Int) →
                lk ofC x y z ≠ (0 : Int) →
                  I64 (lk ofC x y z - (1 : Int)) ∧
                    I64 (lk ofB x y z * (lk ofC x y z - (1 : Int))) ∧
                      I64 (lk ofF x y z + lk ofB x y z * (lk ofC x y z - (1 : Int))) ∧ I64 (-lk ofB x y z))
              (T.ask
                (Ser (lk uF (lk ofF a b c) (lk ofB a b c) (lk ofC a b c))
                    (lk uB (lk ofF a b c) (lk ofB a b c) (lk ofC a b c)) (lk ofC a b c) ∧
                  Ser (lk uF (lk ofF x y z) (lk ofB x y z) (lk ofC x y z))
                    (lk uB (lk ofF x y z) (lk ofB x y z) (lk ofC x y z)) (lk ofC x y z))
                (T.ret
                  (SV.tup
                    [SV.lit
                        (Value.bool
                          (U.eq
                            (lk cmCnt (lk uF (lk ofF a b c) (lk ofB a b c) (lk ofC a b c))
                              (lk uB (lk ofF a b c) (lk ofB a b c) (lk ofC a b c)) (lk ofC a b c)
                              (lk uF (lk ofF x y z) (lk ofB x y z) (lk ofC x y z))
                              (lk uB (lk ofF x y z) (lk ofB x y z) (lk ofC x y z)) (lk ofC x y z))
                            (lk ofC a b c))),
                      SV.lit (Value.int IntKind.i64 (0 : Int))])))))))) := by kernel_rfl
theorem Within_ok : ConOK P 50 c_Within := con_of (allOK mixed ke_ok) 10 50 fun args r h => by
  unfold c_Within at h
  split at h
  · rename_i a b c x y z
    have hp := (T.is_ask h).1
    have h := (T.is_ask h).2
    obtain rfl := T.is_ret h
    rw [t_Within]
    obtain ⟨ha, hb, hc, hx, hy, hz⟩ := hp
    simp only [lk_eq]
    refine ⟨⟨ha, hb, hc, hx, hy, hz⟩, fun h => ?_, fun h => ?_⟩
    · rw [U.ne_t] at h
      simp only [wiB, if_pos h]
      exact rfl
    · rw [U.ne_f] at h
      obtain ⟨r1, r2⟩ := ckd_right h
      refine ⟨of_ask r1 ha hb hc, up_ask r1, of_ask r2 hx hy hz, up_ask r2, ⟨up_ser r1, up_ser r2⟩, ?_⟩
      simp only [wiB, if_neg (show ¬ ckd a b c x y z ≠ 0 by simp [h]), U.eq_eq, h]
      exact rfl
  · exact h.elim

noncomputable def c_Intersect : Con := fun args => match args with
  | [.agg [.lit (.int .i64 a), .lit (.int .i64 b), .lit (.int .i64 c)], .agg [.lit (.int .i64 x), .lit (.int .i64 y), .lit (.int .i64 z)]] =>
    .ask (I64 a ∧ I64 b ∧ I64 c ∧ I64 x ∧ I64 y ∧ I64 z) (.ret (.tup [.agg [.lit (.int .i64 (lk isL a b c x y z)), .lit (.int .i64 (lk isH a b c x y z)), .lit (.int .i64 (lk isS a b c x y z))], .lit (.int .i64 (lk isEr a b c x y z))]))
  | _ => .stuck 1
set_option maxRecDepth 100000 in
theorem t_Intersect (a b c x y z : Int) : conB Go.Proofs.Try.prog (conOf ke) noLoops 10 48 [.agg [.lit (.int .i64 a), .lit (.int .i64 b), .lit (.int .i64 c)], .agg [.lit (.int .i64 x), .lit (.int .i64 y), .lit (.int .i64 z)]] =
    T.ask (I64 a ∧ I64 b ∧ I64 c ∧ I64 x ∧ I64 y ∧ I64 z)
    (T.br (U.ne (lk ckd a b c x y z) (0 : Int))
      (T.ret
        (SV.tup
          [SV.agg
              [SV.lit (Value.int IntKind.i64 (0 : Int)), SV.lit (Value.int IntKind.i64 (0 : Int)),
                SV.lit (Value.int IntKind.i64 (0 : Int))],
            SV.lit (Value.int IntKind.i64 (lk ckd a b c x y z))]))
      (T.ask
        (a ≤ b →
          c ≠ (0 : Int) ∧
            (-9223372036854775807 : Int) ≤ c ∧ b - a < (9223372036854775807 : Int) ∧ I64 a ∧ I64 b ∧ I64 c)
        (T.ask
          (lk ofB a b c < (0 : Int) →
            lk ofC a b c ≠ (0 : Int) →
              I64 (lk ofC a b c - (1 : Int)) ∧
                I64 (lk ofB a b c * (lk ofC a b c - (1 : Int))) ∧
                  I64 (lk ofF a b c + lk ofB a b c * (lk ofC a b c - (1 : Int))) ∧ I64 (-lk ofB a b c))
          (T.ask
            (x ≤ y →
              z ≠ (0 : Int) ∧
                (-9223372036854775807 : Int) ≤ z ∧ y - x < (9223372036854775807 : Int) ∧ I64 x ∧ I64 y ∧ I64 z)
            (T.ask
              (lk ofB x y z < (0 : Int) →
                lk ofC x y z ≠ (0 : Int) →
                  I64 (lk ofC x y z - (1 : Int)) ∧
                    I64 (lk ofB x y z * (lk ofC x y z - (1 : Int))) ∧
                      I64 (lk ofF x y z + lk ofB x y z * (lk ofC x y z - (1 : Int))) ∧ I64 (-lk ofB x y z))
              (T.ask
                (Ser (lk uF (lk ofF a b c) (lk ofB a b c) (lk ofC a b c))
                    (lk uB (lk ofF a b c) (lk ofB a b c) (lk ofC a b c)) (lk ofC a b c) ∧
                  Ser (lk uF (lk ofF x y z) (lk ofB x y z) (lk ofC x y z))
                    (lk uB (lk ofF x y z) (lk ofB x y z) (lk ofC x y z)) (lk ofC x y z))
                (T.ask
                  (c < (0 : Int) →
                    lk cmCnt (lk uF (lk ofF a b c) (lk ofB a b c) (lk ofC a b c))
                          (lk uB (lk ofF a b c) (lk ofB a b c) (lk ofC a b c)) (lk ofC a b c)
                          (lk uF (lk ofF x y z) (lk ofB x y z) (lk ofC x y z))
                          (lk uB (lk ofF x y z) (lk ofB x y z) (lk ofC x y z)) (lk ofC x y z) ≠
                        (0 : Int) →
                      I64
                          (lk cmCnt (lk uF (lk ofF a b c) (lk ofB a b c) (lk ofC a b c))
                              (lk uB (lk ofF a b c) (lk ofB a b c) (lk ofC a b c)) (lk ofC a b c)
                              (lk uF (lk ofF x y z) (lk ofB x y z) (lk ofC x y z))
                              (lk uB (lk ofF x y z) (lk ofB x y z) (lk ofC x y z)) (lk ofC x y z) -
                            (1 : Int)) ∧
                        I64
                            (lk cmBy (lk uF (lk ofF a b c) (lk ofB a b c) (lk ofC a b c))
                                (lk uB (lk ofF a b c) (lk ofB a b c) (lk ofC a b c)) (lk ofC a b c)
                                (lk uF (lk ofF x y z) (lk ofB x y z) (lk ofC x y z))
                                (lk uB (lk ofF x y z) (lk ofB x y z) (lk ofC x y z)) (lk ofC x y z) *
                              (lk cmCnt (lk uF (lk ofF a b c) (lk ofB a b c) (lk ofC a b c))
                                  (lk uB (lk ofF a b c) (lk ofB a b c) (lk ofC a b c)) (lk ofC a b c)
                                  (lk uF (lk ofF x y z) (lk ofB x y z) (lk ofC x y z))
                                  (lk uB (lk ofF x y z) (lk ofB x y z) (lk ofC x y z)) (lk ofC x y z) -
                                (1 : Int))) ∧
                          I64
                              (lk cmFst (lk uF (lk ofF a b c) (lk ofB a b c) (lk ofC a b c))
                                  (lk uB (lk ofF a b c) (lk ofB a b c) (lk ofC a b c)) (lk ofC a b c)
                                  (lk uF (lk ofF x y z) (lk ofB x y z) (lk ofC x y z))
                                  (lk uB (lk ofF x y z) (lk ofB x y z) (lk ofC x y z)) (lk ofC x y z) +
                                lk cmBy (lk uF (lk ofF a b c) (lk ofB a b c) (lk ofC a b c))
                                    (lk uB (lk ofF a b c) (lk ofB a b c) (lk ofC a b c)) (lk ofC a b c)
                                    (lk uF (lk ofF x y z) (lk ofB x y z) (lk ofC x y z))
                                    (lk uB (lk ofF x y z) (lk ofB x y z) (lk ofC x y z)) (lk ofC x y z) *
                                  (lk cmCnt (lk uF (lk ofF a b c) (lk ofB a b c) (lk ofC a b c))
                                      (lk uB (lk ofF a b c) (lk ofB a b c) (lk ofC a b c)) (lk ofC a b c)
                                      (lk uF (lk ofF x y z) (lk ofB x y z) (lk ofC x y z))
                                      (lk uB (lk ofF x y z) (lk ofB x y z) (lk ofC x y z)) (lk ofC x y z) -
                                    (1 : Int))) ∧
                            I64
                              (-lk cmBy (lk uF (lk ofF a b c) (lk ofB a b c) (lk ofC a b c))
                                  (lk uB (lk ofF a b c) (lk ofB a b c) (lk ofC a b c)) (lk ofC a b c)
                                  (lk uF (lk ofF x y z) (lk ofB x y z) (lk ofC x y z))
                                  (lk uB (lk ofF x y z) (lk ofB x y z) (lk ofC x y z)) (lk ofC x y z)))
                  (T.ask
                    ((0 : Int) <
                        lk cmCnt (lk uF (lk ofF a b c) (lk ofB a b c) (lk ofC a b c))
                          (lk uB (lk ofF a b c) (lk ofB a b c) (lk ofC a b c)) (lk ofC a b c)
                          (lk uF (lk ofF x y z) (lk ofB x y z) (lk ofC x y z))
                          (lk uB (lk ofF x y z) (lk ofB x y z) (lk ofC x y z)) (lk ofC x y z) →
                      I64
                          (lk cmCnt (lk uF (lk ofF a b c) (lk ofB a b c) (lk ofC a b c))
                              (lk uB (lk ofF a b c) (lk ofB a b c) (lk ofC a b c)) (lk ofC a b c)
                              (lk uF (lk ofF x y z) (lk ofB x y z) (lk ofC x y z))
                              (lk uB (lk ofF x y z) (lk ofB x y z) (lk ofC x y z)) (lk ofC x y z) -
                            (1 : Int)) ∧
                        I64
                            (lk kB
                                (lk cmFst (lk uF (lk ofF a b c) (lk ofB a b c) (lk ofC a b c))
                                  (lk uB (lk ofF a b c) (lk ofB a b c) (lk ofC a b c)) (lk ofC a b c)
                                  (lk uF (lk ofF x y z) (lk ofB x y z) (lk ofC x y z))
                                  (lk uB (lk ofF x y z) (lk ofB x y z) (lk ofC x y z)) (lk ofC x y z))
                                (lk cmBy (lk uF (lk ofF a b c) (lk ofB a b c) (lk ofC a b c))
                                  (lk uB (lk ofF a b c) (lk ofB a b c) (lk ofC a b c)) (lk ofC a b c)
                                  (lk uF (lk ofF x y z) (lk ofB x y z) (lk ofC x y z))
                                  (lk uB (lk ofF x y z) (lk ofB x y z) (lk ofC x y z)) (lk ofC x y z))
                                (lk cmCnt (lk uF (lk ofF a b c) (lk ofB a b c) (lk ofC a b c))
                                  (lk uB (lk ofF a b c) (lk ofB a b c) (lk ofC a b c)) (lk ofC a b c)
                                  (lk uF (lk ofF x y z) (lk ofB x y z) (lk ofC x y z))
                                  (lk uB (lk ofF x y z) (lk ofB x y z) (lk ofC x y z)) (lk ofC x y z))
                                c *
                              (lk cmCnt (lk uF (lk ofF a b c) (lk ofB a b c) (lk ofC a b c))
                                  (lk uB (lk ofF a b c) (lk ofB a b c) (lk ofC a b c)) (lk ofC a b c)
                                  (lk uF (lk ofF x y z) (lk ofB x y z) (lk ofC x y z))
                                  (lk uB (lk ofF x y z) (lk ofB x y z) (lk ofC x y z)) (lk ofC x y z) -
                                (1 : Int))) ∧
                          I64
                            (lk kF
                                (lk cmFst (lk uF (lk ofF a b c) (lk ofB a b c) (lk ofC a b c))
                                  (lk uB (lk ofF a b c) (lk ofB a b c) (lk ofC a b c)) (lk ofC a b c)
                                  (lk uF (lk ofF x y z) (lk ofB x y z) (lk ofC x y z))
                                  (lk uB (lk ofF x y z) (lk ofB x y z) (lk ofC x y z)) (lk ofC x y z))
                                (lk cmBy (lk uF (lk ofF a b c) (lk ofB a b c) (lk ofC a b c))
                                  (lk uB (lk ofF a b c) (lk ofB a b c) (lk ofC a b c)) (lk ofC a b c)
                                  (lk uF (lk ofF x y z) (lk ofB x y z) (lk ofC x y z))
                                  (lk uB (lk ofF x y z) (lk ofB x y z) (lk ofC x y z)) (lk ofC x y z))
                                (lk cmCnt (lk uF (lk ofF a b c) (lk ofB a b c) (lk ofC a b c))
                                  (lk uB (lk ofF a b c) (lk ofB a b c) (lk ofC a b c)) (lk ofC a b c)
                                  (lk uF (lk ofF x y z) (lk ofB x y z) (lk ofC x y z))
                                  (lk uB (lk ofF x y z) (lk ofB x y z) (lk ofC x y z)) (lk ofC x y z))
                                c +
                              lk kB
                                  (lk cmFst (lk uF (lk ofF a b c) (lk ofB a b c) (lk ofC a b c))
                                    (lk uB (lk ofF a b c) (lk ofB a b c) (lk ofC a b c)) (lk ofC a b c)
                                    (lk uF (lk ofF x y z) (lk ofB x y z) (lk ofC x y z))
                                    (lk uB (lk ofF x y z) (lk ofB x y z) (lk ofC x y z)) (lk ofC x y z))
                                  (lk cmBy (lk uF (lk ofF a b c) (lk ofB a b c) (lk ofC a b c))
                                    (lk uB (lk ofF a b c) (lk ofB a b c) (lk ofC a b c)) (lk ofC a b c)
                                    (lk uF (lk ofF x y z) (lk ofB x y z) (lk ofC x y z))
                                    (lk uB (lk ofF x y z) (lk ofB x y z) (lk ofC x y z)) (lk ofC x y z))
                                  (lk cmCnt (lk uF (lk ofF a b c) (lk ofB a b c) (lk ofC a b c))
                                    (lk uB (lk ofF a b c) (lk ofB a b c) (lk ofC a b c)) (lk ofC a b c)
                                    (lk uF (lk ofF x y z) (lk ofB x y z) (lk ofC x y z))
                                    (lk uB (lk ofF x y z) (lk ofB x y z) (lk ofC x y z)) (lk ofC x y z))
                                  c *
                                (lk cmCnt (lk uF (lk ofF a b c) (lk ofB a b c) (lk ofC a b c))
                                    (lk uB (lk ofF a b c) (lk ofB a b c) (lk ofC a b c)) (lk ofC a b c)
                                    (lk uF (lk ofF x y z) (lk ofB x y z) (lk ofC x y z))
                                    (lk uB (lk ofF x y z) (lk ofB x y z) (lk ofC x y z)) (lk ofC x y z) -
                                  (1 : Int))))
                    (T.ret
                      (SV.tup
                        [SV.agg
                            [SV.lit
                                (Value.int IntKind.i64
                                  (lk nLow
                                    (lk kF
                                      (lk cmFst (lk uF (lk ofF a b c) (lk ofB a b c) (lk ofC a b c))
                                        (lk uB (lk ofF a b c) (lk ofB a b c) (lk ofC a b c)) (lk ofC a b c)
                                        (lk uF (lk ofF x y z) (lk ofB x y z) (lk ofC x y z))
                                        (lk uB (lk ofF x y z) (lk ofB x y z) (lk ofC x y z)) (lk ofC x y z))
                                      (lk cmBy (lk uF (lk ofF a b c) (lk ofB a b c) (lk ofC a b c))
                                        (lk uB (lk ofF a b c) (lk ofB a b c) (lk ofC a b c)) (lk ofC a b c)
                                        (lk uF (lk ofF x y z) (lk ofB x y z) (lk ofC x y z))
                                        (lk uB (lk ofF x y z) (lk ofB x y z) (lk ofC x y z)) (lk ofC x y z))
                                      (lk cmCnt (lk uF (lk ofF a b c) (lk ofB a b c) (lk ofC a b c))
                                        (lk uB (lk ofF a b c) (lk ofB a b c) (lk ofC a b c)) (lk ofC a b c)
                                        (lk uF (lk ofF x y z) (lk ofB x y z) (lk ofC x y z))
                                        (lk uB (lk ofF x y z) (lk ofB x y z) (lk ofC x y z)) (lk ofC x y z))
                                      c)
                                    (lk kB
                                      (lk cmFst (lk uF (lk ofF a b c) (lk ofB a b c) (lk ofC a b c))
                                        (lk uB (lk ofF a b c) (lk ofB a b c) (lk ofC a b c)) (lk ofC a b c)
                                        (lk uF (lk ofF x y z) (lk ofB x y z) (lk ofC x y z))
                                        (lk uB (lk ofF x y z) (lk ofB x y z) (lk ofC x y z)) (lk ofC x y z))
                                      (lk cmBy (lk uF (lk ofF a b c) (lk ofB a b c) (lk ofC a b c))
                                        (lk uB (lk ofF a b c) (lk ofB a b c) (lk ofC a b c)) (lk ofC a b c)
                                        (lk uF (lk ofF x y z) (lk ofB x y z) (lk ofC x y z))
                                        (lk uB (lk ofF x y z) (lk ofB x y z) (lk ofC x y z)) (lk ofC x y z))
                                      (lk cmCnt (lk uF (lk ofF a b c) (lk ofB a b c) (lk ofC a b c))
                                        (lk uB (lk ofF a b c) (lk ofB a b c) (lk ofC a b c)) (lk ofC a b c)
                                        (lk uF (lk ofF x y z) (lk ofB x y z) (lk ofC x y z))
                                        (lk uB (lk ofF x y z) (lk ofB x y z) (lk ofC x y z)) (lk ofC x y z))
                                      c)
                                    (lk cmCnt (lk uF (lk ofF a b c) (lk ofB a b c) (lk ofC a b c))
                                      (lk uB (lk ofF a b c) (lk ofB a b c) (lk ofC a b c)) (lk ofC a b c)
                                      (lk uF (lk ofF x y z) (lk ofB x y z) (lk ofC x y z))
                                      (lk uB (lk ofF x y z) (lk ofB x y z) (lk ofC x y z)) (lk ofC x y z)))),
                              SV.lit
                                (Value.int IntKind.i64
                                  (lk nHigh
                                    (lk kF
                                      (lk cmFst (lk uF (lk ofF a b c) (lk ofB a b c) (lk ofC a b c))
                                        (lk uB (lk ofF a b c) (lk ofB a b c) (lk ofC a b c)) (lk ofC a b c)
                                        (lk uF (lk ofF x y z) (lk ofB x y z) (lk ofC x y z))
                                        (lk uB (lk ofF x y z) (lk ofB x y z) (lk ofC x y z)) (lk ofC x y z))
                                      (lk cmBy (lk uF (lk ofF a b c) (lk ofB a b c) (lk ofC a b c))
                                        (lk uB (lk ofF a b c) (lk ofB a b c) (lk ofC a b c)) (lk ofC a b c)
                                        (lk uF (lk ofF x y z) (lk ofB x y z) (lk ofC x y z))
                                        (lk uB (lk ofF x y z) (lk ofB x y z) (lk ofC x y z)) (lk ofC x y z))
                                      (lk cmCnt (lk uF (lk ofF a b c) (lk ofB a b c) (lk ofC a b c))
                                        (lk uB (lk ofF a b c) (lk ofB a b c) (lk ofC a b c)) (lk ofC a b c)
                                        (lk uF (lk ofF x y z) (lk ofB x y z) (lk ofC x y z))
                                        (lk uB (lk ofF x y z) (lk ofB x y z) (lk ofC x y z)) (lk ofC x y z))
                                      c)
                                    (lk kB
                                      (lk cmFst (lk uF (lk ofF a b c) (lk ofB a b c) (lk ofC a b c))
                                        (lk uB (lk ofF a b c) (lk ofB a b c) (lk ofC a b c)) (lk ofC a b c)
                                        (lk uF (lk ofF x y z) (lk ofB x y z) (lk ofC x y z))
                                        (lk uB (lk ofF x y z) (lk ofB x y z) (lk ofC x y z)) (lk ofC x y z))
                                      (lk cmBy (lk uF (lk ofF a b c) (lk ofB a b c) (lk ofC a b c))
                                        (lk uB (lk ofF a b c) (lk ofB a b c) (lk ofC a b c)) (lk ofC a b c)
                                        (lk uF (lk ofF x y z) (lk ofB x y z) (lk ofC x y z))
                                        (lk uB (lk ofF x y z) (lk ofB x y z) (lk ofC x y z)) (lk ofC x y z))
                                      (lk cmCnt (lk uF (lk ofF a b c) (lk ofB a b c) (lk ofC a b c))
                                        (lk uB (lk ofF a b c) (lk ofB a b c) (lk ofC a b c)) (lk ofC a b c)
                                        (lk uF (lk ofF x y z) (lk ofB x y z) (lk ofC x y z))
                                        (lk uB (lk ofF x y z) (lk ofB x y z) (lk ofC x y z)) (lk ofC x y z))
                                      c)
                                    (lk cmCnt (lk uF (lk ofF a b c) (lk ofB a b c) (lk ofC a b c))
                                      (lk uB (lk ofF a b c) (lk ofB a b c) (lk ofC a b c)) (lk ofC a b c)
                                      (lk uF (lk ofF x y z) (lk ofB x y z) (lk ofC x y z))
                                      (lk uB (lk ofF x y z) (lk ofB x y z) (lk ofC x y z)) (lk ofC x y z)))),
                              SV.lit
                                (Value.int IntKind.i64
                                  (lk nStr
                                    (lk kF
                                      (lk cmFst (lk uF (lk ofF a b c) (lk ofB a b c) (lk ofC a b c))
                                        (lk uB (lk ofF a b c) (lk ofB a b c) (lk ofC a b c)) (lk ofC a b c)
                                        (lk uF (lk ofF x y z) (lk ofB x y z) (lk ofC x y z))
                                        (lk uB (lk ofF x y z) (lk ofB x y z) (lk ofC x y z)) (lk ofC x y z))
                                      (lk cmBy (lk uF (lk ofF a b c) (lk ofB a b c) (lk ofC a b c))
                                        (lk uB (lk ofF a b c) (lk ofB a b c) (lk ofC a b c)) (lk ofC a b c)
                                        (lk uF (lk ofF x y z) (lk ofB x y z) (lk ofC x y z))
                                        (lk uB (lk ofF x y z) (lk ofB x y z) (lk ofC x y z)) (lk ofC x y z))
                                      (lk cmCnt (lk uF (lk ofF a b c) (lk ofB a b c) (lk ofC a b c))
                                        (lk uB (lk ofF a b c) (lk ofB a b c) (lk ofC a b c)) (lk ofC a b c)
                                        (lk uF (lk ofF x y z) (lk ofB x y z) (lk ofC x y z))
                                        (lk uB (lk ofF x y z) (lk ofB x y z) (lk ofC x y z)) (lk ofC x y z))
                                      c)
                                    (lk kB
                                      (lk cmFst (lk uF (lk ofF a b c) (lk ofB a b c) (lk ofC a b c))
                                        (lk uB (lk ofF a b c) (lk ofB a b c) (lk ofC a b c)) (lk ofC a b c)
                                        (lk uF (lk ofF x y z) (lk ofB x y z) (lk ofC x y z))
                                        (lk uB (lk ofF x y z) (lk ofB x y z) (lk ofC x y z)) (lk ofC x y z))
                                      (lk cmBy (lk uF (lk ofF a b c) (lk ofB a b c) (lk ofC a b c))
                                        (lk uB (lk ofF a b c) (lk ofB a b c) (lk ofC a b c)) (lk ofC a b c)
                                        (lk uF (lk ofF x y z) (lk ofB x y z) (lk ofC x y z))
                                        (lk uB (lk ofF x y z) (lk ofB x y z) (lk ofC x y z)) (lk ofC x y z))
                                      (lk cmCnt (lk uF (lk ofF a b c) (lk ofB a b c) (lk ofC a b c))
                                        (lk uB (lk ofF a b c) (lk ofB a b c) (lk ofC a b c)) (lk ofC a b c)
                                        (lk uF (lk ofF x y z) (lk ofB x y z) (lk ofC x y z))
                                        (lk uB (lk ofF x y z) (lk ofB x y z) (lk ofC x y z)) (lk ofC x y z))
                                      c)
                                    (lk cmCnt (lk uF (lk ofF a b c) (lk ofB a b c) (lk ofC a b c))
                                      (lk uB (lk ofF a b c) (lk ofB a b c) (lk ofC a b c)) (lk ofC a b c)
                                      (lk uF (lk ofF x y z) (lk ofB x y z) (lk ofC x y z))
                                      (lk uB (lk ofF x y z) (lk ofB x y z) (lk ofC x y z)) (lk ofC x y z))))],
                          SV.lit
                            (Value.int IntKind.i64
                              (lk nErr
                                (lk kF
                                  (lk cmFst (lk uF (lk ofF a b c) (lk ofB a b c) (lk ofC a b c))
                                    (lk uB (lk ofF a b c) (lk ofB a b c) (lk ofC a b c)) (lk ofC a b c)
                                    (lk uF (lk ofF x y z) (lk ofB x y z) (lk ofC x y z))
                                    (lk uB (lk ofF x y z) (lk ofB x y z) (lk ofC x y z)) (lk ofC x y z))
                                  (lk cmBy (lk uF (lk ofF a b c) (lk ofB a b c) (lk ofC a b c))
                                    (lk uB (lk ofF a b c) (lk ofB a b c) (lk ofC a b c)) (lk ofC a b c)
                                    (lk uF (lk ofF x y z) (lk ofB x y z) (lk ofC x y z))
                                    (lk uB (lk ofF x y z) (lk ofB x y z) (lk ofC x y z)) (lk ofC x y z))
                                  (lk cmCnt (lk uF (lk ofF a b c) (lk ofB a b c) (lk ofC a b c))
                                    (lk uB (lk ofF a b c) (lk ofB a b c) (lk ofC a b c)) (lk ofC a b c)
                                    (lk uF (lk ofF x y z) (lk ofB x y z) (lk ofC x y z))
                                    (lk uB (lk ofF x y z) (lk ofB x y z) (lk ofC x y z)) (lk ofC x y z))
                                  c)
                                (lk kB
                                  (lk cmFst (lk uF (lk ofF a b c) (lk ofB a b c) (lk ofC a b c))
                                    (lk uB (lk ofF a b c) (lk ofB a b c) (lk ofC a b c)) (lk ofC a b c)
                                    (lk uF (lk ofF x y z) (lk ofB x y z) (lk ofC x y z))
                                    (lk uB (lk ofF x y z) (lk ofB x y z) (lk ofC x y z)) (lk ofC x y z))
                                  (lk cmBy (lk uF (lk ofF a b c) (lk ofB a b c) (lk ofC a b c))
                                    (lk uB (lk ofF a b c) (lk ofB a b c) (lk ofC a b c)) (lk ofC a b c)
                                    (lk uF (lk ofF x y z) (lk ofB x y z) (lk ofC x y z))
                                    (lk uB (lk ofF x y z) (lk ofB x y z) (lk ofC x y z)) (lk ofC x y z))
                                  (lk cmCnt (lk uF (lk ofF a b c) (lk ofB a b c) (lk ofC a b c))
                                    (lk uB (lk ofF a b c) (lk ofB a b c) (lk ofC a b c)) (lk ofC a b c)
                                    (lk uF (lk ofF x y z) (lk ofB x y z) (lk ofC x y z))
                                    (lk uB (lk ofF x y z) (lk ofB x y z) (lk ofC x y z)) (lk ofC x y z))
                                  c)
                                (lk cmCnt (lk uF (lk ofF a b c) (lk ofB a b c) (lk ofC a b c))
                                  (lk uB (lk ofF a b c) (lk ofB a b c) (lk ofC a b c)) (lk ofC a b c)
                                  (lk uF (lk ofF x y z) (lk ofB x y z) (lk ofC x y z))
                                  (lk uB (lk ofF x y z) (lk ofB x y z) (lk ofC x y z)) (lk ofC x y z))))])))))))))) := by kernel_rfl
theorem Intersect_ok : ConOK P 48 c_Intersect := con_of (allOK mixed ke_ok) 10 48 fun args r h => by
  unfold c_Intersect at h
  split at h
  · rename_i a b c x y z
    have hp := (T.is_ask h).1
    have h := (T.is_ask h).2
    obtain rfl := T.is_ret h
    rw [t_Intersect]
    obtain ⟨ha, hb, hc, hx, hy, hz⟩ := hp
    simp only [lk_eq]
    refine ⟨⟨ha, hb, hc, hx, hy, hz⟩, fun h => ?_, fun h => ?_⟩
    · rw [U.ne_t] at h
      simp only [isL, isH, isS, isEr, if_pos h]
      exact rfl
    · rw [U.ne_f] at h
      obtain ⟨r1, r2⟩ := ckd_right h
      have hn : ¬ ckd a b c x y z ≠ 0 := by simp [h]
      have hsw := (is_sw r1 r2).1
      refine ⟨of_ask r1 ha hb hc, up_ask r1, of_ask r2 hx hy hz, up_ask r2, ⟨up_ser r1, up_ser r2⟩, ?_⟩
      refine ⟨like_ask hsw, norm_ask hsw, ?_⟩
      simp only [isL, isH, isS, isEr, if_neg hn]
      exact rfl
  · exact h.elim
end Go.RX.Span
