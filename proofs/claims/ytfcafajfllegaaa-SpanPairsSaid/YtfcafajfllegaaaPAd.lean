/- Ranges: Exterior of the program and of the reference. -/
import Derived.Test.YtfcafajfllegaaaPAc
import Derived.Test.YtfcafajfllegaaaPAb
set_option linter.unusedVariables false
set_option linter.unusedSimpArgs false
set_option maxRecDepth 100000
namespace Go.RX.Span
open Go Go.RX

def xtF (a b c n : Int) : Int := if n ≥ 0 then b + absI c else a + max n (-3000000) * absI c
def xtC (n : Int) : Int := if n ≥ 0 then n else -(max n (-3000000))
def xtE (a b c n : Int) : Int := if chk a b c ≠ 0 then chk a b c else if a > b then 0 else if n > 2000000 then 4 else mvE (xtF a b c n) (absI c) (xtC n)
def xtLow (a b c n : Int) : Int := if chk a b c ≠ 0 then 0 else if a > b then 1 else if n > 2000000 then 0 else mvLow (xtF a b c n) (absI c) (xtC n)
def xtHigh (a b c n : Int) : Int := if chk a b c ≠ 0 then 0 else if a > b then 0 else if n > 2000000 then 0 else mvHigh (xtF a b c n) (absI c) (xtC n)
def xtStr (a b c n : Int) : Int := if chk a b c ≠ 0 then 0 else if a > b then 1 else if n > 2000000 then 0 else mvStr (xtF a b c n) (absI c) (xtC n) c
noncomputable def c_Exterior : Con := fun args => match args with
  | [.agg [.lit (.int .i64 a), .lit (.int .i64 b), .lit (.int .i64 c)], .lit (.int .i64 n)] =>
    .ask (I64 a ∧ I64 b ∧ I64 c ∧ I64 n) (.ret (.tup [.agg [.lit (.int .i64 (lk xtLow a b c n)), .lit (.int .i64 (lk xtHigh a b c n)), .lit (.int .i64 (lk xtStr a b c n))], .lit (.int .i64 (lk xtE a b c n))]))
  | _ => .stuck 1

set_option maxRecDepth 100000 in
theorem t_Exterior (a b c n : Int) : conB Go.Proofs.Try.prog (conOf k8) noLoops 10 46 [.agg [.lit (.int .i64 a), .lit (.int .i64 b), .lit (.int .i64 c)], .lit (.int .i64 n)] =
    T.ask (I64 a ∧ I64 b ∧ I64 c) (T.br (U.ne (lk chk a b c) (0 : Int)) (T.ret (SV.tup [SV.agg [SV.lit (Value.int IntKind.i64 (0 : Int)), SV.lit (Value.int IntKind.i64 (0 : Int)),
      SV.lit (Value.int IntKind.i64 (0 : Int))], SV.lit (Value.int IntKind.i64 (lk chk a b c))])) (T.ask (a ≤ b → c ≠ (0 : Int) ∧ (-9223372036854775807 : Int) ≤ c ∧ b - a <
      (9223372036854775807 : Int) ∧ I64 a ∧ I64 b ∧ I64 c) (T.ask (lk ofB a b c < (0 : Int) → lk ofC a b c ≠ (0 : Int) → I64 (lk ofC a b c - (1 : Int)) ∧ I64 (lk ofB a b c * (lk ofC a b c
      - (1 : Int))) ∧ I64 (lk ofF a b c + lk ofB a b c * (lk ofC a b c - (1 : Int))) ∧ I64 (-lk ofB a b c)) (T.br (U.eq (lk ofC a b c) (0 : Int)) (T.ask ((0 : Int) < lk ofC a b c → I64
      (lk ofC a b c - (1 : Int)) ∧ I64 (lk uB (lk ofF a b c) (lk ofB a b c) (lk ofC a b c) * (lk ofC a b c - (1 : Int))) ∧ I64 (lk uF (lk ofF a b c) (lk ofB a b c) (lk ofC a b c) + lk uB
      (lk ofF a b c) (lk ofB a b c) (lk ofC a b c) * (lk ofC a b c - (1 : Int)))) (T.ret (SV.tup [SV.agg [SV.lit (Value.int IntKind.i64 (lk nLow (lk uF (lk ofF a b c) (lk ofB a b c) (lk
      ofC a b c)) (lk uB (lk ofF a b c) (lk ofB a b c) (lk ofC a b c)) (lk ofC a b c))), SV.lit (Value.int IntKind.i64 (lk nHigh (lk uF (lk ofF a b c) (lk ofB a b c) (lk ofC a b c)) (lk
      uB (lk ofF a b c) (lk ofB a b c) (lk ofC a b c)) (lk ofC a b c))), SV.lit (Value.int IntKind.i64 (lk nStr (lk uF (lk ofF a b c) (lk ofB a b c) (lk ofC a b c)) (lk uB (lk ofF a b c)
      (lk ofB a b c) (lk ofC a b c)) (lk ofC a b c)))], SV.lit (Value.int IntKind.i64 (lk nErr (lk uF (lk ofF a b c) (lk ofB a b c) (lk ofC a b c)) (lk uB (lk ofF a b c) (lk ofB a b c)
      (lk ofC a b c)) (lk ofC a b c)))]))) (T.br (U.gt n (2000000 : Int)) (T.ret (SV.tup [SV.agg [SV.lit (Value.int IntKind.i64 (0 : Int)), SV.lit (Value.int IntKind.i64 (0 : Int)),
      SV.lit (Value.int IntKind.i64 (0 : Int))], SV.lit (Value.int IntKind.i64 (4 : Int))])) (T.br (U.ge n (0 : Int)) (T.ask (I64 (lk ofC a b c - (1 : Int)) ∧ I64 (lk uB (lk ofF a b c)
      (lk ofB a b c) (lk ofC a b c) * (lk ofC a b c - (1 : Int))) ∧ I64 (lk uF (lk ofF a b c) (lk ofB a b c) (lk ofC a b c) + lk uB (lk ofF a b c) (lk ofB a b c) (lk ofC a b c) * (lk ofC
      a b c - (1 : Int)))) (T.ask (c < (0 : Int) → n ≠ (0 : Int) → I64 (n - (1 : Int)) ∧ I64 (lk uB (lk ofF a b c) (lk ofB a b c) (lk ofC a b c) * (n - (1 : Int))) ∧ I64 (U.add
      IntKind.i64 (lk sLast (lk uF (lk ofF a b c) (lk ofB a b c) (lk ofC a b c)) (lk uB (lk ofF a b c) (lk ofB a b c) (lk ofC a b c)) (lk ofC a b c)) (lk uB (lk ofF a b c) (lk ofB a b c)
      (lk ofC a b c)) + lk uB (lk ofF a b c) (lk ofB a b c) (lk ofC a b c) * (n - (1 : Int))) ∧ I64 (-lk uB (lk ofF a b c) (lk ofB a b c) (lk ofC a b c))) (T.ask ((0 : Int) < n → I64 (n -
      (1 : Int)) ∧ I64 (lk kB (U.add IntKind.i64 (lk sLast (lk uF (lk ofF a b c) (lk ofB a b c) (lk ofC a b c)) (lk uB (lk ofF a b c) (lk ofB a b c) (lk ofC a b c)) (lk ofC a b c)) (lk uB
      (lk ofF a b c) (lk ofB a b c) (lk ofC a b c))) (lk uB (lk ofF a b c) (lk ofB a b c) (lk ofC a b c)) n c * (n - (1 : Int))) ∧ I64 (lk kF (U.add IntKind.i64 (lk sLast (lk uF (lk ofF a
      b c) (lk ofB a b c) (lk ofC a b c)) (lk uB (lk ofF a b c) (lk ofB a b c) (lk ofC a b c)) (lk ofC a b c)) (lk uB (lk ofF a b c) (lk ofB a b c) (lk ofC a b c))) (lk uB (lk ofF a b c)
      (lk ofB a b c) (lk ofC a b c)) n c + lk kB (U.add IntKind.i64 (lk sLast (lk uF (lk ofF a b c) (lk ofB a b c) (lk ofC a b c)) (lk uB (lk ofF a b c) (lk ofB a b c) (lk ofC a b c)) (lk
      ofC a b c)) (lk uB (lk ofF a b c) (lk ofB a b c) (lk ofC a b c))) (lk uB (lk ofF a b c) (lk ofB a b c) (lk ofC a b c)) n c * (n - (1 : Int)))) (T.ret (SV.tup [SV.agg [SV.lit
      (Value.int IntKind.i64 (lk nLow (lk kF (U.add IntKind.i64 (lk sLast (lk uF (lk ofF a b c) (lk ofB a b c) (lk ofC a b c)) (lk uB (lk ofF a b c) (lk ofB a b c) (lk ofC a b c)) (lk ofC
      a b c)) (lk uB (lk ofF a b c) (lk ofB a b c) (lk ofC a b c))) (lk uB (lk ofF a b c) (lk ofB a b c) (lk ofC a b c)) n c) (lk kB (U.add IntKind.i64 (lk sLast (lk uF (lk ofF a b c) (lk
      ofB a b c) (lk ofC a b c)) (lk uB (lk ofF a b c) (lk ofB a b c) (lk ofC a b c)) (lk ofC a b c)) (lk uB (lk ofF a b c) (lk ofB a b c) (lk ofC a b c))) (lk uB (lk ofF a b c) (lk ofB a
      b c) (lk ofC a b c)) n c) n)), SV.lit (Value.int IntKind.i64 (lk nHigh (lk kF (U.add IntKind.i64 (lk sLast (lk uF (lk ofF a b c) (lk ofB a b c) (lk ofC a b c)) (lk uB (lk ofF a b c)
      (lk ofB a b c) (lk ofC a b c)) (lk ofC a b c)) (lk uB (lk ofF a b c) (lk ofB a b c) (lk ofC a b c))) (lk uB (lk ofF a b c) (lk ofB a b c) (lk ofC a b c)) n c) (lk kB (U.add
      IntKind.i64 (lk sLast (lk uF (lk ofF a b c) (lk ofB a b c) (lk ofC a b c)) (lk uB (lk ofF a b c) (lk ofB a b c) (lk ofC a b c)) (lk ofC a b c)) (lk uB (lk ofF a b c) (lk ofB a b c)
      (lk ofC a b c))) (lk uB (lk ofF a b c) (lk ofB a b c) (lk ofC a b c)) n c) n)), SV.lit (Value.int IntKind.i64 (lk nStr (lk kF (U.add IntKind.i64 (lk sLast (lk uF (lk ofF a b c) (lk
      ofB a b c) (lk ofC a b c)) (lk uB (lk ofF a b c) (lk ofB a b c) (lk ofC a b c)) (lk ofC a b c)) (lk uB (lk ofF a b c) (lk ofB a b c) (lk ofC a b c))) (lk uB (lk ofF a b c) (lk ofB a
      b c) (lk ofC a b c)) n c) (lk kB (U.add IntKind.i64 (lk sLast (lk uF (lk ofF a b c) (lk ofB a b c) (lk ofC a b c)) (lk uB (lk ofF a b c) (lk ofB a b c) (lk ofC a b c)) (lk ofC a b
      c)) (lk uB (lk ofF a b c) (lk ofB a b c) (lk ofC a b c))) (lk uB (lk ofF a b c) (lk ofB a b c) (lk ofC a b c)) n c) n))], SV.lit (Value.int IntKind.i64 (lk nErr (lk kF (U.add
      IntKind.i64 (lk sLast (lk uF (lk ofF a b c) (lk ofB a b c) (lk ofC a b c)) (lk uB (lk ofF a b c) (lk ofB a b c) (lk ofC a b c)) (lk ofC a b c)) (lk uB (lk ofF a b c) (lk ofB a b c)
      (lk ofC a b c))) (lk uB (lk ofF a b c) (lk ofB a b c) (lk ofC a b c)) n c) (lk kB (U.add IntKind.i64 (lk sLast (lk uF (lk ofF a b c) (lk ofB a b c) (lk ofC a b c)) (lk uB (lk ofF a
      b c) (lk ofB a b c) (lk ofC a b c)) (lk ofC a b c)) (lk uB (lk ofF a b c) (lk ofB a b c) (lk ofC a b c))) (lk uB (lk ofF a b c) (lk ofB a b c) (lk ofC a b c)) n c) n))]))))) (T.ask
      (c < (0 : Int) → U.sub IntKind.i64 (0 : Int) (U.mm true n (-3000000 : Int)) ≠ (0 : Int) → I64 (U.sub IntKind.i64 (0 : Int) (U.mm true n (-3000000 : Int)) - (1 : Int)) ∧ I64 (lk uB
      (lk ofF a b c) (lk ofB a b c) (lk ofC a b c) * (U.sub IntKind.i64 (0 : Int) (U.mm true n (-3000000 : Int)) - (1 : Int))) ∧ I64 (U.add IntKind.i64 (lk uF (lk ofF a b c) (lk ofB a b
      c) (lk ofC a b c)) (U.mul IntKind.i64 (U.mm true n (-3000000 : Int)) (lk uB (lk ofF a b c) (lk ofB a b c) (lk ofC a b c))) + lk uB (lk ofF a b c) (lk ofB a b c) (lk ofC a b c) *
      (U.sub IntKind.i64 (0 : Int) (U.mm true n (-3000000 : Int)) - (1 : Int))) ∧ I64 (-lk uB (lk ofF a b c) (lk ofB a b c) (lk ofC a b c))) (T.ask ((0 : Int) < U.sub IntKind.i64 (0 :
      Int) (U.mm true n (-3000000 : Int)) → I64 (U.sub IntKind.i64 (0 : Int) (U.mm true n (-3000000 : Int)) - (1 : Int)) ∧ I64 (lk kB (U.add IntKind.i64 (lk uF (lk ofF a b c) (lk ofB a b
      c) (lk ofC a b c)) (U.mul IntKind.i64 (U.mm true n (-3000000 : Int)) (lk uB (lk ofF a b c) (lk ofB a b c) (lk ofC a b c)))) (lk uB (lk ofF a b c) (lk ofB a b c) (lk ofC a b c))
      (U.sub IntKind.i64 (0 : Int) (U.mm true n (-3000000 : Int))) c * (U.sub IntKind.i64 (0 : Int) (U.mm true n (-3000000 : Int)) - (1 : Int))) ∧ I64 (lk kF (U.add IntKind.i64 (lk uF (lk
      ofF a b c) (lk ofB a b c) (lk ofC a b c)) (U.mul IntKind.i64 (U.mm true n (-3000000 : Int)) (lk uB (lk ofF a b c) (lk ofB a b c) (lk ofC a b c)))) (lk uB (lk ofF a b c) (lk ofB a b
      c) (lk ofC a b c)) (U.sub IntKind.i64 (0 : Int) (U.mm true n (-3000000 : Int))) c + lk kB (U.add IntKind.i64 (lk uF (lk ofF a b c) (lk ofB a b c) (lk ofC a b c)) (U.mul IntKind.i64
      (U.mm true n (-3000000 : Int)) (lk uB (lk ofF a b c) (lk ofB a b c) (lk ofC a b c)))) (lk uB (lk ofF a b c) (lk ofB a b c) (lk ofC a b c)) (U.sub IntKind.i64 (0 : Int) (U.mm true n
      (-3000000 : Int))) c * (U.sub IntKind.i64 (0 : Int) (U.mm true n (-3000000 : Int)) - (1 : Int)))) (T.ret (SV.tup [SV.agg [SV.lit (Value.int IntKind.i64 (lk nLow (lk kF (U.add
      IntKind.i64 (lk uF (lk ofF a b c) (lk ofB a b c) (lk ofC a b c)) (U.mul IntKind.i64 (U.mm true n (-3000000 : Int)) (lk uB (lk ofF a b c) (lk ofB a b c) (lk ofC a b c)))) (lk uB (lk
      ofF a b c) (lk ofB a b c) (lk ofC a b c)) (U.sub IntKind.i64 (0 : Int) (U.mm true n (-3000000 : Int))) c) (lk kB (U.add IntKind.i64 (lk uF (lk ofF a b c) (lk ofB a b c) (lk ofC a b
      c)) (U.mul IntKind.i64 (U.mm true n (-3000000 : Int)) (lk uB (lk ofF a b c) (lk ofB a b c) (lk ofC a b c)))) (lk uB (lk ofF a b c) (lk ofB a b c) (lk ofC a b c)) (U.sub IntKind.i64
      (0 : Int) (U.mm true n (-3000000 : Int))) c) (U.sub IntKind.i64 (0 : Int) (U.mm true n (-3000000 : Int))))), SV.lit (Value.int IntKind.i64 (lk nHigh (lk kF (U.add IntKind.i64 (lk uF
      (lk ofF a b c) (lk ofB a b c) (lk ofC a b c)) (U.mul IntKind.i64 (U.mm true n (-3000000 : Int)) (lk uB (lk ofF a b c) (lk ofB a b c) (lk ofC a b c)))) (lk uB (lk ofF a b c) (lk ofB
      a b c) (lk ofC a b c)) (U.sub IntKind.i64 (0 : Int) (U.mm true n (-3000000 : Int))) c) (lk kB (U.add IntKind.i64 (lk uF (lk ofF a b c) (lk ofB a b c) (lk ofC a b c)) (U.mul
      IntKind.i64 (U.mm true n (-3000000 : Int)) (lk uB (lk ofF a b c) (lk ofB a b c) (lk ofC a b c)))) (lk uB (lk ofF a b c) (lk ofB a b c) (lk ofC a b c)) (U.sub IntKind.i64 (0 : Int)
      (U.mm true n (-3000000 : Int))) c) (U.sub IntKind.i64 (0 : Int) (U.mm true n (-3000000 : Int))))), SV.lit (Value.int IntKind.i64 (lk nStr (lk kF (U.add IntKind.i64 (lk uF (lk ofF a
      b c) (lk ofB a b c) (lk ofC a b c)) (U.mul IntKind.i64 (U.mm true n (-3000000 : Int)) (lk uB (lk ofF a b c) (lk ofB a b c) (lk ofC a b c)))) (lk uB (lk ofF a b c) (lk ofB a b c) (lk
      ofC a b c)) (U.sub IntKind.i64 (0 : Int) (U.mm true n (-3000000 : Int))) c) (lk kB (U.add IntKind.i64 (lk uF (lk ofF a b c) (lk ofB a b c) (lk ofC a b c)) (U.mul IntKind.i64 (U.mm
      true n (-3000000 : Int)) (lk uB (lk ofF a b c) (lk ofB a b c) (lk ofC a b c)))) (lk uB (lk ofF a b c) (lk ofB a b c) (lk ofC a b c)) (U.sub IntKind.i64 (0 : Int) (U.mm true n
      (-3000000 : Int))) c) (U.sub IntKind.i64 (0 : Int) (U.mm true n (-3000000 : Int)))))], SV.lit (Value.int IntKind.i64 (lk nErr (lk kF (U.add IntKind.i64 (lk uF (lk ofF a b c) (lk ofB
      a b c) (lk ofC a b c)) (U.mul IntKind.i64 (U.mm true n (-3000000 : Int)) (lk uB (lk ofF a b c) (lk ofB a b c) (lk ofC a b c)))) (lk uB (lk ofF a b c) (lk ofB a b c) (lk ofC a b c))
      (U.sub IntKind.i64 (0 : Int) (U.mm true n (-3000000 : Int))) c) (lk kB (U.add IntKind.i64 (lk uF (lk ofF a b c) (lk ofB a b c) (lk ofC a b c)) (U.mul IntKind.i64 (U.mm true n
      (-3000000 : Int)) (lk uB (lk ofF a b c) (lk ofB a b c) (lk ofC a b c)))) (lk uB (lk ofF a b c) (lk ofB a b c) (lk ofC a b c)) (U.sub IntKind.i64 (0 : Int) (U.mm true n (-3000000 :
      Int))) c) (U.sub IntKind.i64 (0 : Int) (U.mm true n (-3000000 : Int)))))])))))))))) := by kernel_rfl
set_option maxHeartbeats 1000000 in
theorem Exterior_ok : ConOK P 46 c_Exterior := con_of (allOK mixed k8_ok) 10 46 fun args r h => by
  unfold c_Exterior at h
  split at h
  · rename_i a b c n
    have hp := (T.is_ask h).1
    have h := (T.is_ask h).2
    obtain rfl := T.is_ret h
    rw [t_Exterior]
    simp only [T.All, U.le_t, U.le_f, U.lt_t, U.lt_f, U.gt_t, U.gt_f, U.ge_t, U.ge_f, U.eq_t, U.eq_f, U.ne_t, U.ne_f, U.not_t, U.not_f, U.andb_t, U.andb_f, SV.lit.injEq, SV.agg.injEq, SV.tup.injEq, List.cons.injEq, Value.int.injEq, Value.bool.injEq, true_and, and_true, lk_eq, lim_t, lim_f, mm_min, mm_max]
    refine ⟨⟨hp.1, hp.2.1, hp.2.2.1⟩, fun h => ?_, fun h => ⟨of_ask (chk_zero.1 h) hp.1 hp.2.1 hp.2.2.1, ?_⟩⟩
    · simp [xtE, xtLow, xtHigh, xtStr, h]
    have hr := chk_zero.1 h
    have hl := hr.1
    by_cases hab : a ≤ b
    · obtain ⟨p1, p2, p3, p4, p5, p6, p7, p8, p9, p10⟩ := parts hr hab
      obtain ⟨u1, u2⟩ := up_of hr hab
      obtain ⟨s1, s2, s3, s4, s5⟩ := series_of hr hab
      have sl := s5 (ofC a b c - 1) (by omega) (by omega)
      rw [u1, u2]
      have m1 : I64 (ofB a b c * (ofC a b c - 1)) := by unfold I64; omega
      have n1 : ¬ a > b := by omega
      have eL : sLast a (absI c) (ofC a b c) = b := by unfold sLast; omega
      rw [eL]
      refine ⟨fun _ _ => ⟨by unfold I64; omega, m1, by unfold I64; omega, by unfold I64; omega⟩, fun g => by omega, fun _ => ⟨fun g => ?_, fun g => ⟨fun g2 => ?_, fun g2 => ?_⟩⟩⟩
      · simp [xtE, xtLow, xtHigh, xtStr, h, n1, g]
      all_goals
        have n2 : ¬ n > 2000000 := by omega
      · have eF : xtF a b c n = b + absI c := by unfold xtF; rw [if_pos g2]
        have eC : xtC n = n := by unfold xtC; rw [if_pos g2]
        have mb := mul_bnd (x := absI c) (y := n - 1) (X := 2000000) (Y := 2000000) (by omega) (by omega)
        rw [U.add64 (by unfold I64; omega)]
        obtain ⟨q1, q2, q3, q4⟩ := nrm_like (f := b + absI c) (s := absI c) (C := n) (c := c) p1
        rw [q1, q2, q3, q4]
        simp only [xtE, xtLow, xtHigh, xtStr, h, ne_eq, not_true_eq_false, if_false, if_neg n1, if_neg n2, eC, eF, and_self, and_true]
        refine ⟨⟨by unfold I64; omega, by unfold I64; omega, by unfold I64; omega⟩, fun _ _ => ⟨by unfold I64; omega, by unfold I64; omega, by unfold I64; omega, by unfold I64; omega⟩, fun g => ?_⟩
        obtain ⟨l1, l2⟩ := like_bnd (f := b + absI c) (s := absI c) (C := n) (c := c) (by omega)
        exact ⟨by unfold I64; omega, by unfold I64; omega, by unfold I64; omega⟩
      · have n3 : ¬ n ≥ 0 := by omega
        have eF : xtF a b c n = a + max n (-3000000) * absI c := by unfold xtF; rw [if_neg n3]
        have eC : xtC n = -(max n (-3000000)) := by unfold xtC; rw [if_neg n3]
        obtain ⟨M, hM⟩ : ∃ M, M = max n (-3000000) := ⟨_, rfl⟩
        rw [← hM] at eF eC ⊢
        have mb := mul_bnd (x := M) (y := absI c) (X := 3000000) (Y := 2000000) (by omega) (by omega)
        have mb2 := mul_bnd (x := absI c) (y := -M - 1) (X := 2000000) (Y := 3000000) (by omega) (by omega)
        have e0 : U.sub .i64 0 M = -M := by rw [U.sub64 (by unfold I64; omega)]; omega
        rw [e0, U.mul64 (by unfold I64; omega), U.add64 (by unfold I64; omega)]
        obtain ⟨q1, q2, q3, q4⟩ := nrm_like (f := a + M * absI c) (s := absI c) (C := -M) (c := c) p1
        rw [q1, q2, q3, q4]
        simp only [xtE, xtLow, xtHigh, xtStr, h, ne_eq, not_true_eq_false, if_false, if_neg n1, if_neg n2, eC, eF, and_self, and_true]
        refine ⟨fun _ _ => ⟨by unfold I64; omega, by unfold I64; omega, by unfold I64; omega, by unfold I64; omega⟩, fun g => ?_⟩
        obtain ⟨l1, l2⟩ := like_bnd (f := a + M * absI c) (s := absI c) (C := -M) (c := c) (by omega)
        exact ⟨by unfold I64; omega, by unfold I64; omega, by unfold I64; omega⟩
    · obtain ⟨f1, f2, f3⟩ := empty_of (c := c) hab
      rw [f1, f2, f3]
      refine ⟨fun g => absurd g (by omega), fun _ => ⟨fun g => absurd g (by omega), ?_⟩, fun g => absurd rfl g⟩
      have n1 : a > b := by omega
      simp [nLow, nHigh, nStr, nErr, xtE, xtLow, xtHigh, xtStr, h, n1]
  · exact h.elim

set_option maxRecDepth 100000 in
theorem t_rExterior (a b c n : Int) : conB Go.Proofs.Try.prog (conOf k8) noLoops 10 47 [.agg [.lit (.int .i64 a), .lit (.int .i64 b), .lit (.int .i64 c)], .lit (.int .i64 n)] =
    T.ask (I64 a ∧ I64 b ∧ I64 c) (T.br (U.ne (lk chk a b c) (0 : Int)) (T.ret (SV.tup [SV.agg [SV.lit (Value.int IntKind.i64 (0 : Int)), SV.lit (Value.int IntKind.i64 (0 : Int)),
      SV.lit (Value.int IntKind.i64 (0 : Int))], SV.lit (Value.int IntKind.i64 (lk chk a b c))])) (T.br (lk isE a b c) (T.ret (SV.tup [SV.agg [SV.lit (Value.int IntKind.i64 (1 : Int)),
      SV.lit (Value.int IntKind.i64 (0 : Int)), SV.lit (Value.int IntKind.i64 (1 : Int))], SV.lit (Value.int IntKind.i64 (0 : Int))])) (T.br (U.eq n (0 : Int)) (T.ret (SV.tup [SV.agg
      [SV.lit (Value.int IntKind.i64 (1 : Int)), SV.lit (Value.int IntKind.i64 (0 : Int)), SV.lit (Value.int IntKind.i64 (1 : Int))], SV.lit (Value.int IntKind.i64 (0 : Int))])) (T.br
      (U.gt n (2000000 : Int)) (T.ret (SV.tup [SV.agg [SV.lit (Value.int IntKind.i64 (0 : Int)), SV.lit (Value.int IntKind.i64 (0 : Int)), SV.lit (Value.int IntKind.i64 (0 : Int))],
      SV.lit (Value.int IntKind.i64 (4 : Int))])) (T.br (U.lt n (-2000000 : Int)) (T.ret (SV.tup [SV.agg [SV.lit (Value.int IntKind.i64 (0 : Int)), SV.lit (Value.int IntKind.i64 (0 :
      Int)), SV.lit (Value.int IntKind.i64 (0 : Int))], SV.lit (Value.int IntKind.i64 (4 : Int))])) (T.br (U.gt n (0 : Int)) (T.ask (I64 (-c)) (T.ask (I64 (-c)) (T.ask (I64 (-c)) (T.br
      (U.le (U.add IntKind.i64 b (lk absI c)) (U.add IntKind.i64 b (U.mul IntKind.i64 n (lk absI c)))) (T.br (U.not (lk lim (U.add IntKind.i64 b (lk absI c)))) (T.ret (SV.tup [SV.agg
      [SV.lit (Value.int IntKind.i64 (0 : Int)), SV.lit (Value.int IntKind.i64 (0 : Int)), SV.lit (Value.int IntKind.i64 (0 : Int))], SV.lit (Value.int IntKind.i64 (4 : Int))])) (T.br
      (U.not (lk lim (U.add IntKind.i64 b (U.mul IntKind.i64 n (lk absI c))))) (T.ret (SV.tup [SV.agg [SV.lit (Value.int IntKind.i64 (0 : Int)), SV.lit (Value.int IntKind.i64 (0 : Int)),
      SV.lit (Value.int IntKind.i64 (0 : Int))], SV.lit (Value.int IntKind.i64 (4 : Int))])) (T.ask (U.add IntKind.i64 b (lk absI c) < U.add IntKind.i64 b (U.mul IntKind.i64 n (lk absI
      c)) → U.lt c (0 : Int) = true → I64 (-lk absI c)) (T.ret (SV.tup [SV.agg [SV.lit (Value.int IntKind.i64 (lk rnL (U.add IntKind.i64 b (lk absI c)) (U.add IntKind.i64 b (U.mul
      IntKind.i64 n (lk absI c))) (lk absI c) (U.lt c (0 : Int)))), SV.lit (Value.int IntKind.i64 (lk rnH (U.add IntKind.i64 b (lk absI c)) (U.add IntKind.i64 b (U.mul IntKind.i64 n (lk
      absI c))) (lk absI c) (U.lt c (0 : Int)))), SV.lit (Value.int IntKind.i64 (lk rnS (U.add IntKind.i64 b (lk absI c)) (U.add IntKind.i64 b (U.mul IntKind.i64 n (lk absI c))) (lk absI
      c) (U.lt c (0 : Int))))], SV.lit (Value.int IntKind.i64 (0 : Int))]))))) (T.ask (U.add IntKind.i64 b (lk absI c) < U.add IntKind.i64 b (U.mul IntKind.i64 n (lk absI c)) → U.lt c (0
      : Int) = true → I64 (-lk absI c)) (T.ret (SV.tup [SV.agg [SV.lit (Value.int IntKind.i64 (lk rnL (U.add IntKind.i64 b (lk absI c)) (U.add IntKind.i64 b (U.mul IntKind.i64 n (lk absI
      c))) (lk absI c) (U.lt c (0 : Int)))), SV.lit (Value.int IntKind.i64 (lk rnH (U.add IntKind.i64 b (lk absI c)) (U.add IntKind.i64 b (U.mul IntKind.i64 n (lk absI c))) (lk absI c)
      (U.lt c (0 : Int)))), SV.lit (Value.int IntKind.i64 (lk rnS (U.add IntKind.i64 b (lk absI c)) (U.add IntKind.i64 b (U.mul IntKind.i64 n (lk absI c))) (lk absI c) (U.lt c (0 :
      Int))))], SV.lit (Value.int IntKind.i64 (0 : Int))]))))))) (T.ask (I64 (-c)) (T.ask (I64 (-c)) (T.ask (I64 (-c)) (T.br (U.le (U.add IntKind.i64 a (U.mul IntKind.i64 n (lk absI c)))
      (U.sub IntKind.i64 a (lk absI c))) (T.br (U.not (lk lim (U.add IntKind.i64 a (U.mul IntKind.i64 n (lk absI c))))) (T.ret (SV.tup [SV.agg [SV.lit (Value.int IntKind.i64 (0 : Int)),
      SV.lit (Value.int IntKind.i64 (0 : Int)), SV.lit (Value.int IntKind.i64 (0 : Int))], SV.lit (Value.int IntKind.i64 (4 : Int))])) (T.br (U.not (lk lim (U.sub IntKind.i64 a (lk absI
      c)))) (T.ret (SV.tup [SV.agg [SV.lit (Value.int IntKind.i64 (0 : Int)), SV.lit (Value.int IntKind.i64 (0 : Int)), SV.lit (Value.int IntKind.i64 (0 : Int))], SV.lit (Value.int
      IntKind.i64 (4 : Int))])) (T.ask (U.add IntKind.i64 a (U.mul IntKind.i64 n (lk absI c)) < U.sub IntKind.i64 a (lk absI c) → U.lt c (0 : Int) = true → I64 (-lk absI c)) (T.ret
      (SV.tup [SV.agg [SV.lit (Value.int IntKind.i64 (lk rnL (U.add IntKind.i64 a (U.mul IntKind.i64 n (lk absI c))) (U.sub IntKind.i64 a (lk absI c)) (lk absI c) (U.lt c (0 : Int)))),
      SV.lit (Value.int IntKind.i64 (lk rnH (U.add IntKind.i64 a (U.mul IntKind.i64 n (lk absI c))) (U.sub IntKind.i64 a (lk absI c)) (lk absI c) (U.lt c (0 : Int)))), SV.lit (Value.int
      IntKind.i64 (lk rnS (U.add IntKind.i64 a (U.mul IntKind.i64 n (lk absI c))) (U.sub IntKind.i64 a (lk absI c)) (lk absI c) (U.lt c (0 : Int))))], SV.lit (Value.int IntKind.i64 (0 :
      Int))]))))) (T.ask (U.add IntKind.i64 a (U.mul IntKind.i64 n (lk absI c)) < U.sub IntKind.i64 a (lk absI c) → U.lt c (0 : Int) = true → I64 (-lk absI c)) (T.ret (SV.tup [SV.agg
      [SV.lit (Value.int IntKind.i64 (lk rnL (U.add IntKind.i64 a (U.mul IntKind.i64 n (lk absI c))) (U.sub IntKind.i64 a (lk absI c)) (lk absI c) (U.lt c (0 : Int)))), SV.lit (Value.int
      IntKind.i64 (lk rnH (U.add IntKind.i64 a (U.mul IntKind.i64 n (lk absI c))) (U.sub IntKind.i64 a (lk absI c)) (lk absI c) (U.lt c (0 : Int)))), SV.lit (Value.int IntKind.i64 (lk rnS
      (U.add IntKind.i64 a (U.mul IntKind.i64 n (lk absI c))) (U.sub IntKind.i64 a (lk absI c)) (lk absI c) (U.lt c (0 : Int))))], SV.lit (Value.int IntKind.i64 (0 : Int))]))))))))))))) := by kernel_rfl
set_option maxHeartbeats 1000000 in
theorem rExterior_ok : ConOK P 47 c_Exterior := con_of (allOK mixed k8_ok) 10 47 fun args r h => by
  unfold c_Exterior at h
  split at h
  · rename_i a b c n
    have hp := (T.is_ask h).1
    have h := (T.is_ask h).2
    obtain rfl := T.is_ret h
    rw [t_rExterior]
    simp only [T.All, U.le_t, U.le_f, U.lt_t, U.lt_f, U.gt_t, U.gt_f, U.ge_t, U.ge_f, U.eq_t, U.eq_f, U.ne_t, U.ne_f, U.not_t, U.not_f, U.andb_t, U.andb_f, SV.lit.injEq, SV.agg.injEq, SV.tup.injEq, List.cons.injEq, Value.int.injEq, Value.bool.injEq, true_and, and_true, lk_eq, lim_t, lim_f, isE_t, isE_f]
    have hp3 : I64 a ∧ I64 b ∧ I64 c := ⟨hp.1, hp.2.1, hp.2.2.1⟩
    refine ⟨hp3, fun h => ?_, fun h => ⟨fun he => ?_, fun he => ?_⟩⟩
    · simp [xtE, xtLow, xtHigh, xtStr, h]
    · obtain ⟨rfl, rfl, rfl⟩ := he
      simp [xtE, xtLow, xtHigh, xtStr, h]
    have hr := chk_zero.1 h
    have hl := hr.1
    have hab := right_le hr he
    obtain ⟨p1, p2, p3, p4, p5, p6, p7, p8, p9, p10⟩ := parts hr hab
    have n1 : ¬ a > b := by omega
    have hc5 : I64 (-c) := by unfold I64; omega
    refine ⟨fun h0 => ?_, fun h0 => ⟨fun g => ?_, fun g => ⟨fun g2 => ?_, fun g2 => ⟨fun g3 => ⟨hc5, hc5, hc5, ?_⟩, fun g3 => ⟨hc5, hc5, hc5, ?_⟩⟩⟩⟩⟩
    · have hk : chk a b c = 0 := h
      subst h0
      simp [xtE, xtLow, xtHigh, xtStr, hk, n1, xtC, mvE, mvLow, mvHigh, mvStr]
    · simp [xtE, xtLow, xtHigh, xtStr, h, n1, g]
    all_goals
      have n2 : ¬ n > 2000000 := by omega
    · have n3 : ¬ n ≥ 0 := by omega
      obtain ⟨M, hM⟩ : ∃ M, M = max n (-3000000) := ⟨_, rfl⟩
      have mm := mulle (s := absI c) (x := M) (y := -2000001) p1 (by omega)
      rw [Int.mul_comm (absI c) M] at mm
      have eC : xtC n = -M := by unfold xtC; rw [if_neg n3, hM]
      have eF : xtF a b c n = a + M * absI c := by unfold xtF; rw [if_neg n3, hM]
      have e : mvE (a + M * absI c) (absI c) (-M) = 4 := by
        unfold mvE; rw [if_neg (by omega), if_neg (by omega)]
      simp only [xtE, xtLow, xtHigh, xtStr, h, ne_eq, not_true_eq_false, if_false, if_neg n1, if_neg n2, mvLow, mvHigh, mvStr, eC, eF, e, if_neg (show ¬ -M ≤ 0 by omega)]
      simp
    · have eF : xtF a b c n = b + absI c := by unfold xtF; rw [if_pos (by omega)]
      have eC : xtC n = n := by unfold xtC; rw [if_pos (by omega)]
      have mb := mul_bnd (x := n) (y := absI c) (X := 2000001) (Y := 2000000) (by omega) (by omega)
      rw [U.add64 (a := b) (b := absI c) (by unfold I64; omega), U.mul64 (by unfold I64; omega), U.add64 (by unfold I64; omega)]
      simp only [xtE, xtLow, xtHigh, xtStr, h, ne_eq, not_true_eq_false, if_false, if_neg n1, if_neg n2, eC, eF]
      exact lim_tail p1 p2 (by omega) (by rw [Int.mul_sub, Int.mul_comm n (absI c)]; omega)
    · have n3 : ¬ n ≥ 0 := by omega
      have em : max n (-3000000) = n := by omega
      have eF : xtF a b c n = a + n * absI c := by unfold xtF; rw [if_neg n3, em]
      have eC : xtC n = -n := by unfold xtC; rw [if_neg n3, em]
      have mb := mul_bnd (x := n) (y := absI c) (X := 2000001) (Y := 2000000) (by omega) (by omega)
      rw [U.sub64 (a := a) (b := absI c) (by unfold I64; omega), U.mul64 (by unfold I64; omega), U.add64 (by unfold I64; omega)]
      simp only [xtE, xtLow, xtHigh, xtStr, h, ne_eq, not_true_eq_false, if_false, if_neg n1, if_neg n2, eC, eF]
      exact lim_tail p1 p2 (by omega) (by rw [Int.mul_sub, Int.mul_neg, Int.mul_comm n (absI c)]; omega)
  · exact h.elim
end Go.RX.Span

/- Ranges: Interior of the program and of the reference. -/
set_option linter.unusedVariables false
set_option linter.unusedSimpArgs false
set_option maxRecDepth 100000
namespace Go.RX.Span
open Go Go.RX

def inF (a b c n : Int) : Int := if n ≥ 0 then a + absI c * (ofC a b c - n) else a
def inE (a b c n : Int) : Int := if chk a b c ≠ 0 then chk a b c else if n > ofC a b c ∨ n < -ofC a b c then 5 else if n = 0 then 0 else mvE (inF a b c n) (absI c) (absI n)
def inLow (a b c n : Int) : Int := if chk a b c ≠ 0 then 0 else if n > ofC a b c ∨ n < -ofC a b c then 0 else if n = 0 then 1 else mvLow (inF a b c n) (absI c) (absI n)
def inHigh (a b c n : Int) : Int := if chk a b c ≠ 0 then 0 else if n > ofC a b c ∨ n < -ofC a b c then 0 else if n = 0 then 0 else mvHigh (inF a b c n) (absI c) (absI n)
def inStr (a b c n : Int) : Int := if chk a b c ≠ 0 then 0 else if n > ofC a b c ∨ n < -ofC a b c then 0 else if n = 0 then 1 else mvStr (inF a b c n) (absI c) (absI n) c
noncomputable def c_Interior : Con := fun args => match args with
  | [.agg [.lit (.int .i64 a), .lit (.int .i64 b), .lit (.int .i64 c)], .lit (.int .i64 n)] =>
    .ask (I64 a ∧ I64 b ∧ I64 c ∧ I64 n) (.ret (.tup [.agg [.lit (.int .i64 (lk inLow a b c n)), .lit (.int .i64 (lk inHigh a b c n)), .lit (.int .i64 (lk inStr a b c n))], .lit (.int .i64 (lk inE a b c n))]))
  | _ => .stuck 1
set_option maxRecDepth 100000 in
theorem t_Interior (a b c n : Int) : conB Go.Proofs.Try.prog (conOf k8) noLoops 10 44 [.agg [.lit (.int .i64 a), .lit (.int .i64 b), .lit (.int .i64 c)], .lit (.int .i64 n)] =
    T.ask (I64 a ∧ I64 b ∧ I64 c) (T.br (U.ne (lk chk a b c) (0 : Int)) (T.ret (SV.tup [SV.agg [SV.lit (Value.int IntKind.i64 (0 : Int)), SV.lit (Value.int IntKind.i64 (0 : Int)),
      SV.lit (Value.int IntKind.i64 (0 : Int))], SV.lit (Value.int IntKind.i64 (lk chk a b c))])) (T.ask (a ≤ b → c ≠ (0 : Int) ∧ (-9223372036854775807 : Int) ≤ c ∧ b - a <
      (9223372036854775807 : Int) ∧ I64 a ∧ I64 b ∧ I64 c) (T.ask (lk ofB a b c < (0 : Int) → lk ofC a b c ≠ (0 : Int) → I64 (lk ofC a b c - (1 : Int)) ∧ I64 (lk ofB a b c * (lk ofC a b c
      - (1 : Int))) ∧ I64 (lk ofF a b c + lk ofB a b c * (lk ofC a b c - (1 : Int))) ∧ I64 (-lk ofB a b c)) (T.br (U.gt n (lk ofC a b c)) (T.ret (SV.tup [SV.agg [SV.lit (Value.int
      IntKind.i64 (0 : Int)), SV.lit (Value.int IntKind.i64 (0 : Int)), SV.lit (Value.int IntKind.i64 (0 : Int))], SV.lit (Value.int IntKind.i64 (5 : Int))])) (T.br (U.lt n (U.sub
      IntKind.i64 (0 : Int) (lk ofC a b c))) (T.ret (SV.tup [SV.agg [SV.lit (Value.int IntKind.i64 (0 : Int)), SV.lit (Value.int IntKind.i64 (0 : Int)), SV.lit (Value.int IntKind.i64 (0 :
      Int))], SV.lit (Value.int IntKind.i64 (5 : Int))])) (T.br (U.ge n (0 : Int)) (T.ask (c < (0 : Int) → U.mm true n (U.sub IntKind.i64 (0 : Int) n) ≠ (0 : Int) → I64 (U.mm true n
      (U.sub IntKind.i64 (0 : Int) n) - (1 : Int)) ∧ I64 (lk uB (lk ofF a b c) (lk ofB a b c) (lk ofC a b c) * (U.mm true n (U.sub IntKind.i64 (0 : Int) n) - (1 : Int))) ∧ I64 (U.add
      IntKind.i64 (lk uF (lk ofF a b c) (lk ofB a b c) (lk ofC a b c)) (U.mul IntKind.i64 (lk uB (lk ofF a b c) (lk ofB a b c) (lk ofC a b c)) (U.sub IntKind.i64 (lk ofC a b c) n)) + lk
      uB (lk ofF a b c) (lk ofB a b c) (lk ofC a b c) * (U.mm true n (U.sub IntKind.i64 (0 : Int) n) - (1 : Int))) ∧ I64 (-lk uB (lk ofF a b c) (lk ofB a b c) (lk ofC a b c))) (T.ask ((0
      : Int) < U.mm true n (U.sub IntKind.i64 (0 : Int) n) → I64 (U.mm true n (U.sub IntKind.i64 (0 : Int) n) - (1 : Int)) ∧ I64 (lk kB (U.add IntKind.i64 (lk uF (lk ofF a b c) (lk ofB a
      b c) (lk ofC a b c)) (U.mul IntKind.i64 (lk uB (lk ofF a b c) (lk ofB a b c) (lk ofC a b c)) (U.sub IntKind.i64 (lk ofC a b c) n))) (lk uB (lk ofF a b c) (lk ofB a b c) (lk ofC a b
      c)) (U.mm true n (U.sub IntKind.i64 (0 : Int) n)) c * (U.mm true n (U.sub IntKind.i64 (0 : Int) n) - (1 : Int))) ∧ I64 (lk kF (U.add IntKind.i64 (lk uF (lk ofF a b c) (lk ofB a b c)
      (lk ofC a b c)) (U.mul IntKind.i64 (lk uB (lk ofF a b c) (lk ofB a b c) (lk ofC a b c)) (U.sub IntKind.i64 (lk ofC a b c) n))) (lk uB (lk ofF a b c) (lk ofB a b c) (lk ofC a b c))
      (U.mm true n (U.sub IntKind.i64 (0 : Int) n)) c + lk kB (U.add IntKind.i64 (lk uF (lk ofF a b c) (lk ofB a b c) (lk ofC a b c)) (U.mul IntKind.i64 (lk uB (lk ofF a b c) (lk ofB a b
      c) (lk ofC a b c)) (U.sub IntKind.i64 (lk ofC a b c) n))) (lk uB (lk ofF a b c) (lk ofB a b c) (lk ofC a b c)) (U.mm true n (U.sub IntKind.i64 (0 : Int) n)) c * (U.mm true n (U.sub
      IntKind.i64 (0 : Int) n) - (1 : Int)))) (T.ret (SV.tup [SV.agg [SV.lit (Value.int IntKind.i64 (lk nLow (lk kF (U.add IntKind.i64 (lk uF (lk ofF a b c) (lk ofB a b c) (lk ofC a b c))
      (U.mul IntKind.i64 (lk uB (lk ofF a b c) (lk ofB a b c) (lk ofC a b c)) (U.sub IntKind.i64 (lk ofC a b c) n))) (lk uB (lk ofF a b c) (lk ofB a b c) (lk ofC a b c)) (U.mm true n
      (U.sub IntKind.i64 (0 : Int) n)) c) (lk kB (U.add IntKind.i64 (lk uF (lk ofF a b c) (lk ofB a b c) (lk ofC a b c)) (U.mul IntKind.i64 (lk uB (lk ofF a b c) (lk ofB a b c) (lk ofC a
      b c)) (U.sub IntKind.i64 (lk ofC a b c) n))) (lk uB (lk ofF a b c) (lk ofB a b c) (lk ofC a b c)) (U.mm true n (U.sub IntKind.i64 (0 : Int) n)) c) (U.mm true n (U.sub IntKind.i64 (0
      : Int) n)))), SV.lit (Value.int IntKind.i64 (lk nHigh (lk kF (U.add IntKind.i64 (lk uF (lk ofF a b c) (lk ofB a b c) (lk ofC a b c)) (U.mul IntKind.i64 (lk uB (lk ofF a b c) (lk ofB
      a b c) (lk ofC a b c)) (U.sub IntKind.i64 (lk ofC a b c) n))) (lk uB (lk ofF a b c) (lk ofB a b c) (lk ofC a b c)) (U.mm true n (U.sub IntKind.i64 (0 : Int) n)) c) (lk kB (U.add
      IntKind.i64 (lk uF (lk ofF a b c) (lk ofB a b c) (lk ofC a b c)) (U.mul IntKind.i64 (lk uB (lk ofF a b c) (lk ofB a b c) (lk ofC a b c)) (U.sub IntKind.i64 (lk ofC a b c) n))) (lk
      uB (lk ofF a b c) (lk ofB a b c) (lk ofC a b c)) (U.mm true n (U.sub IntKind.i64 (0 : Int) n)) c) (U.mm true n (U.sub IntKind.i64 (0 : Int) n)))), SV.lit (Value.int IntKind.i64 (lk
      nStr (lk kF (U.add IntKind.i64 (lk uF (lk ofF a b c) (lk ofB a b c) (lk ofC a b c)) (U.mul IntKind.i64 (lk uB (lk ofF a b c) (lk ofB a b c) (lk ofC a b c)) (U.sub IntKind.i64 (lk
      ofC a b c) n))) (lk uB (lk ofF a b c) (lk ofB a b c) (lk ofC a b c)) (U.mm true n (U.sub IntKind.i64 (0 : Int) n)) c) (lk kB (U.add IntKind.i64 (lk uF (lk ofF a b c) (lk ofB a b c)
      (lk ofC a b c)) (U.mul IntKind.i64 (lk uB (lk ofF a b c) (lk ofB a b c) (lk ofC a b c)) (U.sub IntKind.i64 (lk ofC a b c) n))) (lk uB (lk ofF a b c) (lk ofB a b c) (lk ofC a b c))
      (U.mm true n (U.sub IntKind.i64 (0 : Int) n)) c) (U.mm true n (U.sub IntKind.i64 (0 : Int) n))))], SV.lit (Value.int IntKind.i64 (lk nErr (lk kF (U.add IntKind.i64 (lk uF (lk ofF a
      b c) (lk ofB a b c) (lk ofC a b c)) (U.mul IntKind.i64 (lk uB (lk ofF a b c) (lk ofB a b c) (lk ofC a b c)) (U.sub IntKind.i64 (lk ofC a b c) n))) (lk uB (lk ofF a b c) (lk ofB a b
      c) (lk ofC a b c)) (U.mm true n (U.sub IntKind.i64 (0 : Int) n)) c) (lk kB (U.add IntKind.i64 (lk uF (lk ofF a b c) (lk ofB a b c) (lk ofC a b c)) (U.mul IntKind.i64 (lk uB (lk ofF
      a b c) (lk ofB a b c) (lk ofC a b c)) (U.sub IntKind.i64 (lk ofC a b c) n))) (lk uB (lk ofF a b c) (lk ofB a b c) (lk ofC a b c)) (U.mm true n (U.sub IntKind.i64 (0 : Int) n)) c)
      (U.mm true n (U.sub IntKind.i64 (0 : Int) n))))])))) (T.ask (c < (0 : Int) → U.mm true n (U.sub IntKind.i64 (0 : Int) n) ≠ (0 : Int) → I64 (U.mm true n (U.sub IntKind.i64 (0 : Int)
      n) - (1 : Int)) ∧ I64 (lk uB (lk ofF a b c) (lk ofB a b c) (lk ofC a b c) * (U.mm true n (U.sub IntKind.i64 (0 : Int) n) - (1 : Int))) ∧ I64 (lk uF (lk ofF a b c) (lk ofB a b c) (lk
      ofC a b c) + lk uB (lk ofF a b c) (lk ofB a b c) (lk ofC a b c) * (U.mm true n (U.sub IntKind.i64 (0 : Int) n) - (1 : Int))) ∧ I64 (-lk uB (lk ofF a b c) (lk ofB a b c) (lk ofC a b
      c))) (T.ask ((0 : Int) < U.mm true n (U.sub IntKind.i64 (0 : Int) n) → I64 (U.mm true n (U.sub IntKind.i64 (0 : Int) n) - (1 : Int)) ∧ I64 (lk kB (lk uF (lk ofF a b c) (lk ofB a b
      c) (lk ofC a b c)) (lk uB (lk ofF a b c) (lk ofB a b c) (lk ofC a b c)) (U.mm true n (U.sub IntKind.i64 (0 : Int) n)) c * (U.mm true n (U.sub IntKind.i64 (0 : Int) n) - (1 : Int)))
      ∧ I64 (lk kF (lk uF (lk ofF a b c) (lk ofB a b c) (lk ofC a b c)) (lk uB (lk ofF a b c) (lk ofB a b c) (lk ofC a b c)) (U.mm true n (U.sub IntKind.i64 (0 : Int) n)) c + lk kB (lk uF
      (lk ofF a b c) (lk ofB a b c) (lk ofC a b c)) (lk uB (lk ofF a b c) (lk ofB a b c) (lk ofC a b c)) (U.mm true n (U.sub IntKind.i64 (0 : Int) n)) c * (U.mm true n (U.sub IntKind.i64
      (0 : Int) n) - (1 : Int)))) (T.ret (SV.tup [SV.agg [SV.lit (Value.int IntKind.i64 (lk nLow (lk kF (lk uF (lk ofF a b c) (lk ofB a b c) (lk ofC a b c)) (lk uB (lk ofF a b c) (lk ofB
      a b c) (lk ofC a b c)) (U.mm true n (U.sub IntKind.i64 (0 : Int) n)) c) (lk kB (lk uF (lk ofF a b c) (lk ofB a b c) (lk ofC a b c)) (lk uB (lk ofF a b c) (lk ofB a b c) (lk ofC a b
      c)) (U.mm true n (U.sub IntKind.i64 (0 : Int) n)) c) (U.mm true n (U.sub IntKind.i64 (0 : Int) n)))), SV.lit (Value.int IntKind.i64 (lk nHigh (lk kF (lk uF (lk ofF a b c) (lk ofB a
      b c) (lk ofC a b c)) (lk uB (lk ofF a b c) (lk ofB a b c) (lk ofC a b c)) (U.mm true n (U.sub IntKind.i64 (0 : Int) n)) c) (lk kB (lk uF (lk ofF a b c) (lk ofB a b c) (lk ofC a b
      c)) (lk uB (lk ofF a b c) (lk ofB a b c) (lk ofC a b c)) (U.mm true n (U.sub IntKind.i64 (0 : Int) n)) c) (U.mm true n (U.sub IntKind.i64 (0 : Int) n)))), SV.lit (Value.int
      IntKind.i64 (lk nStr (lk kF (lk uF (lk ofF a b c) (lk ofB a b c) (lk ofC a b c)) (lk uB (lk ofF a b c) (lk ofB a b c) (lk ofC a b c)) (U.mm true n (U.sub IntKind.i64 (0 : Int) n))
      c) (lk kB (lk uF (lk ofF a b c) (lk ofB a b c) (lk ofC a b c)) (lk uB (lk ofF a b c) (lk ofB a b c) (lk ofC a b c)) (U.mm true n (U.sub IntKind.i64 (0 : Int) n)) c) (U.mm true n
      (U.sub IntKind.i64 (0 : Int) n))))], SV.lit (Value.int IntKind.i64 (lk nErr (lk kF (lk uF (lk ofF a b c) (lk ofB a b c) (lk ofC a b c)) (lk uB (lk ofF a b c) (lk ofB a b c) (lk ofC
      a b c)) (U.mm true n (U.sub IntKind.i64 (0 : Int) n)) c) (lk kB (lk uF (lk ofF a b c) (lk ofB a b c) (lk ofC a b c)) (lk uB (lk ofF a b c) (lk ofB a b c) (lk ofC a b c)) (U.mm true
      n (U.sub IntKind.i64 (0 : Int) n)) c) (U.mm true n (U.sub IntKind.i64 (0 : Int) n))))])))))))))) := by kernel_rfl
set_option maxHeartbeats 1000000 in
theorem Interior_ok : ConOK P 44 c_Interior := con_of (allOK mixed k8_ok) 10 44 fun args r h => by
  unfold c_Interior at h
  split at h
  · rename_i a b c n
    have hp := (T.is_ask h).1
    have h := (T.is_ask h).2
    obtain rfl := T.is_ret h
    rw [t_Interior]
    simp only [T.All, U.le_t, U.le_f, U.lt_t, U.lt_f, U.gt_t, U.gt_f, U.ge_t, U.ge_f, U.eq_t, U.eq_f, U.ne_t, U.ne_f, U.not_t, U.not_f, U.andb_t, U.andb_f, SV.lit.injEq, SV.agg.injEq, SV.tup.injEq, List.cons.injEq, Value.int.injEq, Value.bool.injEq, true_and, and_true, lk_eq, lim_t, lim_f, mm_min, mm_max]
    refine ⟨⟨hp.1, hp.2.1, hp.2.2.1⟩, fun h => ?_, fun h => ⟨of_ask (chk_zero.1 h) hp.1 hp.2.1 hp.2.2.1, ?_⟩⟩
    · simp [inE, inLow, inHigh, inStr, h]
    have hr := chk_zero.1 h
    have hl := hr.1
    have hcb := ofC_bnd hr
    have e0 : U.sub .i64 0 (ofC a b c) = -ofC a b c := by rw [U.sub64 (by unfold I64; omega)]; omega
    rw [e0]
    refine ⟨fun g1 g2 => ?_, fun g => ?_, fun g => ⟨fun g2 => ?_, fun g2 => ?_⟩⟩
    · have hab : a ≤ b := Decidable.byContradiction fun h' => by have := empty_of (c := c) h'; omega
      obtain ⟨s1, s2, s3, s4, s5⟩ := series_of hr hab
      have sl := s5 (ofC a b c - 1) (by omega) (by omega)
      exact ⟨by unfold I64; omega, by unfold I64; omega, by unfold I64; omega, by unfold I64; omega⟩
    · have : n > ofC a b c ∨ n < -ofC a b c := by omega
      simp [inE, inLow, inHigh, inStr, h, this]
    · have : n > ofC a b c ∨ n < -ofC a b c := by omega
      simp [inE, inLow, inHigh, inStr, h, this]
    · have hin : ¬ (n > ofC a b c ∨ n < -ofC a b c) := by omega
      have en : U.sub .i64 0 n = -n := by rw [U.sub64 (by unfold I64; omega)]; omega
      rw [en]
      by_cases hn0 : n = 0
      · subst hn0
        have em : max (0 : Int) (-0) = 0 := by omega
        rw [em]
        refine ⟨fun _ => ⟨fun _ g => absurd rfl g, fun g => by omega, ?_⟩, fun g => by omega⟩
        have hk : chk a b c = 0 := chk_zero.2 hr
        simp [inE, inLow, inHigh, inStr, hk, hin, nLow, nHigh, nStr, nErr]
        omega
      have hab : a ≤ b := Decidable.byContradiction fun h' => by have := empty_of (c := c) h'; omega
      obtain ⟨p1, p2, p3, p4, p5, p6, p7, p8, p9, p10⟩ := parts hr hab
      obtain ⟨u1, u2⟩ := up_of hr hab
      rw [u1, u2]
      have m2 := mulle (x := 0) (y := absI n - 1) p1 (by unfold absI; split <;> omega)
      have m3 := mulle (x := absI n - 1) (y := ofC a b c - 1) p1 (by unfold absI; split <;> omega)
      rw [Int.mul_zero] at m2
      have fin : ∀ f : Int, (a ≤ f ∧ f + absI c * (absI n - 1) ≤ b) → inF a b c n = f → max n (-n) = absI n →
          (c < 0 → max n (-n) ≠ 0 → I64 (max n (-n) - 1) ∧ I64 (absI c * (max n (-n) - 1)) ∧ I64 (f + absI c * (max n (-n) - 1)) ∧ I64 (-absI c)) ∧
          (0 < max n (-n) → I64 (max n (-n) - 1) ∧ I64 (kB f (absI c) (max n (-n)) c * (max n (-n) - 1)) ∧ I64 (kF f (absI c) (max n (-n)) c + kB f (absI c) (max n (-n)) c * (max n (-n) - 1))) ∧
          (nLow (kF f (absI c) (max n (-n)) c) (kB f (absI c) (max n (-n)) c) (max n (-n)) = inLow a b c n ∧ nHigh (kF f (absI c) (max n (-n)) c) (kB f (absI c) (max n (-n)) c) (max n (-n)) = inHigh a b c n ∧
            nStr (kF f (absI c) (max n (-n)) c) (kB f (absI c) (max n (-n)) c) (max n (-n)) = inStr a b c n) ∧ nErr (kF f (absI c) (max n (-n)) c) (kB f (absI c) (max n (-n)) c) (max n (-n)) = inE a b c n := fun f hf eF em => by
        rw [em]
        obtain ⟨q1, q2, q3, q4⟩ := nrm_like (f := f) (s := absI c) (C := absI n) (c := c) p1
        have hb : absI n ≤ 2000001 ∧ 0 < absI n := by unfold absI; split <;> omega
        obtain ⟨l1, l2⟩ := like_bnd (f := f) (s := absI c) (C := absI n) (c := c) (by omega)
        rw [q1, q2, q3, q4]
        simp only [inE, inLow, inHigh, inStr, h, ne_eq, not_true_eq_false, if_false, if_neg hin, if_neg hn0, eF, and_self, and_true]
        exact ⟨fun _ _ => ⟨by unfold I64; omega, by unfold I64; omega, by unfold I64; omega, by unfold I64; omega⟩, fun _ => ⟨by unfold I64; omega, by unfold I64; omega, by unfold I64; omega⟩⟩
      refine ⟨fun g => ?_, fun g => ?_⟩
      · have ea : absI n = n := absI_pos (by omega)
        have m4 : absI c * (ofC a b c - 1) = absI c * (ofC a b c - n) + absI c * (absI n - 1) := by rw [ea, ← Int.mul_add]; congr 1; omega
        have m5 := mulle (x := 0) (y := ofC a b c - n) p1 (by omega)
        rw [Int.mul_zero] at m5
        rw [U.sub64 (a := ofC a b c) (b := n) (by unfold I64; omega), U.mul64 (by unfold I64; omega), U.add64 (by unfold I64; omega)]
        exact fin _ (by omega) (by unfold inF; rw [if_pos g]) (by omega)
      · have ea : absI n = -n := absI_neg (by omega)
        exact fin _ (by omega) (by unfold inF; rw [if_neg (by omega)]) (by omega)
  · exact h.elim
set_option maxRecDepth 100000 in
theorem t_rInterior (a b c n : Int) : conB Go.Proofs.Try.prog (conOf k8) noLoops 10 45 [.agg [.lit (.int .i64 a), .lit (.int .i64 b), .lit (.int .i64 c)], .lit (.int .i64 n)] =
    T.ask (I64 a ∧ I64 b ∧ I64 c) (T.br (U.ne (lk chk a b c) (0 : Int)) (T.ret (SV.tup [SV.agg [SV.lit (Value.int IntKind.i64 (0 : Int)), SV.lit (Value.int IntKind.i64 (0 : Int)),
      SV.lit (Value.int IntKind.i64 (0 : Int))], SV.lit (Value.int IntKind.i64 (lk chk a b c))])) (T.ask (I64 a ∧ I64 b ∧ I64 c) (T.br (U.gt n (lk size a b c)) (T.ret (SV.tup [SV.agg
      [SV.lit (Value.int IntKind.i64 (0 : Int)), SV.lit (Value.int IntKind.i64 (0 : Int)), SV.lit (Value.int IntKind.i64 (0 : Int))], SV.lit (Value.int IntKind.i64 (5 : Int))])) (T.br
      (U.lt n (U.sub IntKind.i64 (0 : Int) (lk size a b c))) (T.ret (SV.tup [SV.agg [SV.lit (Value.int IntKind.i64 (0 : Int)), SV.lit (Value.int IntKind.i64 (0 : Int)), SV.lit (Value.int
      IntKind.i64 (0 : Int))], SV.lit (Value.int IntKind.i64 (5 : Int))])) (T.br (U.gt n (0 : Int)) (T.ask (I64 (-c)) (T.ask (I64 (-c)) (T.ask (U.sub IntKind.i64 b (U.mul IntKind.i64
      (U.sub IntKind.i64 n (1 : Int)) (lk absI c)) < b → U.lt c (0 : Int) = true → I64 (-lk absI c)) (T.ret (SV.tup [SV.agg [SV.lit (Value.int IntKind.i64 (lk rnL (U.sub IntKind.i64 b
      (U.mul IntKind.i64 (U.sub IntKind.i64 n (1 : Int)) (lk absI c))) b (lk absI c) (U.lt c (0 : Int)))), SV.lit (Value.int IntKind.i64 (lk rnH (U.sub IntKind.i64 b (U.mul IntKind.i64
      (U.sub IntKind.i64 n (1 : Int)) (lk absI c))) b (lk absI c) (U.lt c (0 : Int)))), SV.lit (Value.int IntKind.i64 (lk rnS (U.sub IntKind.i64 b (U.mul IntKind.i64 (U.sub IntKind.i64 n
      (1 : Int)) (lk absI c))) b (lk absI c) (U.lt c (0 : Int))))], SV.lit (Value.int IntKind.i64 (0 : Int))]))))) (T.br (U.lt n (0 : Int)) (T.ask (I64 (-c)) (T.ask (I64 (-c)) (T.ask (a <
      U.add IntKind.i64 a (U.mul IntKind.i64 (U.sub IntKind.i64 (U.sub IntKind.i64 (0 : Int) n) (1 : Int)) (lk absI c)) → U.lt c (0 : Int) = true → I64 (-lk absI c)) (T.ret (SV.tup
      [SV.agg [SV.lit (Value.int IntKind.i64 (lk rnL a (U.add IntKind.i64 a (U.mul IntKind.i64 (U.sub IntKind.i64 (U.sub IntKind.i64 (0 : Int) n) (1 : Int)) (lk absI c))) (lk absI c)
      (U.lt c (0 : Int)))), SV.lit (Value.int IntKind.i64 (lk rnH a (U.add IntKind.i64 a (U.mul IntKind.i64 (U.sub IntKind.i64 (U.sub IntKind.i64 (0 : Int) n) (1 : Int)) (lk absI c))) (lk
      absI c) (U.lt c (0 : Int)))), SV.lit (Value.int IntKind.i64 (lk rnS a (U.add IntKind.i64 a (U.mul IntKind.i64 (U.sub IntKind.i64 (U.sub IntKind.i64 (0 : Int) n) (1 : Int)) (lk absI
      c))) (lk absI c) (U.lt c (0 : Int))))], SV.lit (Value.int IntKind.i64 (0 : Int))]))))) (T.ret (SV.tup [SV.agg [SV.lit (Value.int IntKind.i64 (1 : Int)), SV.lit (Value.int
      IntKind.i64 (0 : Int)), SV.lit (Value.int IntKind.i64 (1 : Int))], SV.lit (Value.int IntKind.i64 (0 : Int))])))))))) := by kernel_rfl
set_option maxHeartbeats 1000000 in
theorem rInterior_ok : ConOK P 45 c_Interior := con_of (allOK mixed k8_ok) 10 45 fun args r h => by
  unfold c_Interior at h
  split at h
  · rename_i a b c n
    have hp := (T.is_ask h).1
    have h := (T.is_ask h).2
    obtain rfl := T.is_ret h
    rw [t_rInterior]
    simp only [T.All, U.le_t, U.le_f, U.lt_t, U.lt_f, U.gt_t, U.gt_f, U.ge_t, U.ge_f, U.eq_t, U.eq_f, U.ne_t, U.ne_f, U.not_t, U.not_f, U.andb_t, U.andb_f, SV.lit.injEq, SV.agg.injEq, SV.tup.injEq, List.cons.injEq, Value.int.injEq, Value.bool.injEq, true_and, and_true, lk_eq, lim_t, lim_f]
    have hp3 : I64 a ∧ I64 b ∧ I64 c := ⟨hp.1, hp.2.1, hp.2.2.1⟩
    refine ⟨hp3, fun h => ?_, fun h => ⟨hp3, ?_⟩⟩
    · simp [inE, inLow, inHigh, inStr, h]
    have hr := chk_zero.1 h
    have hl := hr.1
    have hcb := ofC_bnd hr
    have e0 : U.sub .i64 0 (ofC a b c) = -ofC a b c := by rw [U.sub64 (by unfold I64; omega)]; omega
    rw [size_eq' hr, e0]
    refine ⟨fun g => ?_, fun g => ⟨fun g2 => ?_, fun g2 => ?_⟩⟩
    · have : n > ofC a b c ∨ n < -ofC a b c := by omega
      simp [inE, inLow, inHigh, inStr, h, this]
    · have : n > ofC a b c ∨ n < -ofC a b c := by omega
      simp [inE, inLow, inHigh, inStr, h, this]
    have hin : ¬ (n > ofC a b c ∨ n < -ofC a b c) := by omega
    by_cases hn0 : n = 0
    · have hk := h
      subst hn0
      refine ⟨fun g => by omega, fun g => ⟨fun g => by omega, fun g => ?_⟩⟩
      simp [inE, inLow, inHigh, inStr, hk, hin]
      omega
    have hab : a ≤ b := Decidable.byContradiction fun h' => by have := empty_of (c := c) h'; omega
    obtain ⟨p1, p2, p3, p4, p5, p6, p7, p8, p9, p10⟩ := parts hr hab
    have hc5 : I64 (-c) := by unfold I64; omega
    have m2 := mulle (x := 0) (y := absI n - 1) p1 (by unfold absI; split <;> omega)
    have m3 := mulle (x := absI n - 1) (y := ofC a b c - 1) p1 (by unfold absI; split <;> omega)
    rw [Int.mul_zero] at m2
    have n1 : 1 ≤ absI n := by unfold absI; split <;> omega
    have main : ∀ f hi : Int, inF a b c n = f → hi = f + absI c * (absI n - 1) → a ≤ f → hi ≤ b →
        (rnL f hi (absI c) (U.lt c 0) = inLow a b c n ∧ rnH f hi (absI c) (U.lt c 0) = inHigh a b c n ∧ rnS f hi (absI c) (U.lt c 0) = inStr a b c n) ∧ 0 = inE a b c n := fun f hi eF eh b1 b2 => by
      have e : mvE f (absI c) (absI n) = 0 := by unfold mvE; rw [if_neg (by omega), if_pos (by omega)]
      simp only [inE, inLow, inHigh, inStr, h, ne_eq, not_true_eq_false, if_false, if_neg hin, if_neg hn0, eF]
      rw [eh]
      exact ⟨rn_mv p1 n1 e _ (U.lt_eq c 0), e.symm⟩
    refine ⟨fun g => ⟨hc5, hc5, ?_⟩, fun g => ⟨fun g3 => ⟨hc5, hc5, ?_⟩, fun g3 => by omega⟩⟩
    · have ea : absI n = n := absI_pos (by omega)
      have m4 : absI c * (ofC a b c - 1) = absI c * (ofC a b c - n) + absI c * (absI n - 1) := by rw [ea, ← Int.mul_add]; congr 1; omega
      rw [ea] at m2 m3 m4 n1 main
      have ec : (n - 1) * absI c = absI c * (n - 1) := Int.mul_comm _ _
      rw [U.sub64 (a := n) (b := 1) (by unfold I64; omega), U.mul64 (by rw [ec]; unfold I64; omega), ec, U.sub64 (by unfold I64; omega)]
      exact ⟨fun _ _ => by unfold I64; omega, main _ _ (by unfold inF; rw [if_pos (by omega)]; omega) (by omega) (by omega) (by omega)⟩
    · have ea : absI n = -n := absI_neg (by omega)
      rw [ea] at m2 m3 n1 main
      have en : U.sub .i64 0 n = -n := by rw [U.sub64 (by unfold I64; omega)]; omega
      have ec : (-n - 1) * absI c = absI c * (-n - 1) := Int.mul_comm _ _
      rw [en, U.sub64 (a := -n) (b := 1) (by unfold I64; omega), U.mul64 (by rw [ec]; unfold I64; omega), ec, U.add64 (by unfold I64; omega)]
      exact ⟨fun _ _ => by unfold I64; omega, main _ _ (by unfold inF; rw [if_neg (by omega)]) (by omega) (by omega) (by omega)⟩
  · exact h.elim
end Go.RX.Span

/- Ranges: what the law of changes returns. -/
set_option linter.unusedVariables false
set_option linter.unusedSimpArgs false
set_option maxRecDepth 100000
namespace Go.RX.Span
open Go Go.RX

noncomputable abbrev k9 : List (Nat × Con) := (34, c_By) :: (40, c_Translate) :: (41, c_Translate) :: (42, c_Expand) :: (43, c_Expand) :: (44, c_Interior) :: (45, c_Interior) :: (46, c_Exterior) :: (47, c_Exterior) :: k8 --%K
theorem k9_ok : ∀ p ∈ k9, ConOK P p.1 p.2 := by
  intro p hp
  simp only [k9, List.mem_cons] at hp
  rcases hp with rfl | rfl | rfl | rfl | rfl | rfl | rfl | rfl | rfl | hp
  · exact By_ok
  · exact Translate_ok
  · exact rTranslate_ok
  · exact Expand_ok
  · exact rExpand_ok
  · exact Interior_ok
  · exact rInterior_ok
  · exact Exterior_ok
  · exact rExterior_ok
  · exact k8_ok p (by simpa [k8] using hp)

noncomputable abbrev l6 : List (Nat × Loops) := [(6, [(2, .un 8)])] --%K
theorem l6_ok : ∀ p ∈ l6, LoopsOK P p.2 (bodyOf P p.1) := by
  intro p hp
  simp only [l6, List.mem_singleton] at hp
  subst hp
  exact loopsOK_un fun q hq => by simp only [List.mem_singleton] at hq; subst hq; exact ⟨8, rfl⟩

noncomputable def c_SpanChanges : Con := fun args => match args with
  | [.agg [.lit (.int .i64 a), .lit (.int .i64 b), .lit (.int .i64 c)], .lit (.int .i64 n)] => .ask (I64 a ∧ I64 b ∧ I64 c ∧ I64 n) (.ret (.lit (.bool true)))
  | _ => .stuck 1
set_option maxRecDepth 100000 in
theorem t_SpanChanges (a b c n : Int) : conB Go.Proofs.Try.prog (conOf k9) (loopsOf l6) 10 6 [.agg [.lit (.int .i64 a), .lit (.int .i64 b), .lit (.int .i64 c)], .lit (.int .i64 n)] =
    T.ask (I64 a ∧ I64 b ∧ I64 c) (T.ask (I64 a ∧ I64 b ∧ I64 c) (T.br (U.not (U.andb (U.eq (lk byLow a b c n) (lk byLow a b c n)) (U.andb (U.eq (lk byHigh a b c n) (lk byHigh a b c n))
      (U.eq (lk byStr a b c n) (lk byStr a b c n))))) (T.ret (SV.lit (Value.bool false))) (T.br (U.ne (lk byErr a b c n) (lk byErr a b c n)) (T.ret (SV.lit (Value.bool false))) (T.ask
      (I64 a ∧ I64 b ∧ I64 c ∧ I64 n) (T.ask (I64 a ∧ I64 b ∧ I64 c ∧ I64 n) (T.br (U.not (U.andb (U.eq (lk cntLow a b c n) (lk cntLow a b c n)) (U.andb (U.eq (lk cntHigh a b c n) (lk
      cntHigh a b c n)) (U.eq (lk cntStr a b c n) (lk cntStr a b c n))))) (T.ret (SV.lit (Value.bool false))) (T.br (U.ne (lk cntE a b c n) (lk cntE a b c n)) (T.ret (SV.lit (Value.bool
      false))) (T.ask (I64 a ∧ I64 b ∧ I64 c ∧ I64 n) (T.ask (I64 a ∧ I64 b ∧ I64 c ∧ I64 n) (T.br (U.not (U.andb (U.eq (lk trLow a b c n) (lk trLow a b c n)) (U.andb (U.eq (lk trHigh a b
      c n) (lk trHigh a b c n)) (U.eq (lk trStr a b c n) (lk trStr a b c n))))) (T.ret (SV.lit (Value.bool false))) (T.br (U.ne (lk trE a b c n) (lk trE a b c n)) (T.ret (SV.lit
      (Value.bool false))) (T.ask (I64 a ∧ I64 b ∧ I64 c ∧ I64 n) (T.ask (I64 a ∧ I64 b ∧ I64 c ∧ I64 n) (T.br (U.not (U.andb (U.eq (lk exLow a b c n) (lk exLow a b c n)) (U.andb (U.eq
      (lk exHigh a b c n) (lk exHigh a b c n)) (U.eq (lk exStr a b c n) (lk exStr a b c n))))) (T.ret (SV.lit (Value.bool false))) (T.br (U.ne (lk exE a b c n) (lk exE a b c n)) (T.ret
      (SV.lit (Value.bool false))) (T.ask (I64 a ∧ I64 b ∧ I64 c ∧ I64 n) (T.ask (I64 a ∧ I64 b ∧ I64 c ∧ I64 n) (T.br (U.not (U.andb (U.eq (lk inLow a b c n) (lk inLow a b c n)) (U.andb
      (U.eq (lk inHigh a b c n) (lk inHigh a b c n)) (U.eq (lk inStr a b c n) (lk inStr a b c n))))) (T.ret (SV.lit (Value.bool false))) (T.br (U.ne (lk inE a b c n) (lk inE a b c n))
      (T.ret (SV.lit (Value.bool false))) (T.ask (I64 a ∧ I64 b ∧ I64 c ∧ I64 n) (T.ask (I64 a ∧ I64 b ∧ I64 c ∧ I64 n) (T.br (U.not (U.andb (U.eq (lk xtLow a b c n) (lk xtLow a b c n))
      (U.andb (U.eq (lk xtHigh a b c n) (lk xtHigh a b c n)) (U.eq (lk xtStr a b c n) (lk xtStr a b c n))))) (T.ret (SV.lit (Value.bool false))) (T.br (U.ne (lk xtE a b c n) (lk xtE a b c
      n)) (T.ret (SV.lit (Value.bool false))) (T.ret (SV.lit (Value.bool true)))))))))))))))))))))))))) := by kernel_rfl
theorem SpanChanges_ok : ConOK P 6 c_SpanChanges := con_of (allOKL mixed k9_ok l6_ok) 10 6 fun args r h => by
  unfold c_SpanChanges at h
  split at h
  · rename_i a b c n
    have hp := (T.is_ask h).1
    have h := (T.is_ask h).2
    obtain rfl := T.is_ret h
    rw [t_SpanChanges]
    simp [T.All, U.eq_eq, U.ne_eq, U.andb_eq, U.beq_eq, U.not_eq, hp]
  · exact h.elim

theorem SpanChanges_walk (a b c n : Int) (ha : I64 a) (hb : I64 b) (hc : I64 c) (hn : I64 n) (w : World) :
    Calls P 6 #[.agg #[.int .i64 a, .int .i64 b, .int .i64 c], .int .i64 n] w fun e w' => e = .returned (.bool true) ∧ Go.RowKit.Below w.heap.size w w' :=
  (SpanChanges_ok [.agg [.lit (.int .i64 a), .lit (.int .i64 b), .lit (.int .i64 c)], .lit (.int .i64 n)] (.lit (.bool true)) ⟨⟨ha, hb, hc, hn⟩, rfl⟩ (fun _ => False) w
    [.agg #[.int .i64 a, .int .i64 b, .int .i64 c], .int .i64 n] (fun _ h => h.elim) ⟨_, _, rfl, ⟨[_, _, _], rfl, _, _, rfl, rfl, _, _, rfl, rfl, _, _, rfl, rfl, rfl⟩, _, _, rfl, rfl, rfl⟩).mono
    fun e w' ⟨v, h1, h2, h3⟩ => ⟨by rw [h1, show v = .bool true from h3], h2⟩
end Go.RX.Span

/- Ranges: the contract of the numbers of a range, and of small ranges. -/
set_option linter.unusedVariables false
set_option linter.unusedSimpArgs false
set_option maxRecDepth 100000
namespace Go.RX.Span
open Go Go.RX Go.RowKit

def numsN (a b c m : Int) : Nat := min (size a b c).toNat (m + 1).toNat
/-- A slice of numbers that a function of its own made. -/
theorem rep_owned {n₀ : Nat} {w : World} {lv : Nat → Prop} (hlv : ∀ x, lv x → x < n₀) {v : Value} {k : Nat} {g : Nat → Int} {q : Nat} (hq : n₀ ≤ q) (hk : k ≤ top) (h : w.ownsRow q 3 1 v k ((List.range k).map fun i => .int .i64 (g i))) (bs : Bs) :
    Rep bs lv w (.row [.int .i64] k fun i => (g i, ())) v := by
  rcases h.2 with ⟨rfl, rfl⟩ | ⟨b, cap, cur, rfl, hb, hc, h1, h2, h3, h4⟩
  · exact ⟨none, 0, rfl, Nat.le_refl _, Nat.zero_le _, fun h => absurd h (Nat.lt_irrefl 0)⟩
  · refine ⟨some ⟨b, 0, none⟩, cap, rfl, h1, hk, fun _ => ⟨b, 0, rfl, (Array.getElem?_eq_some_iff.1 hc).1, fun hx => by have := hlv b hx; omega, fun i hi => ⟨⟨_, ?_, rfl⟩, trivial⟩⟩⟩
    have : cur.toList[i]? = some (.int .i64 (g i)) := by
      have e : (cur.toList.take (k * 1))[i]? = some (.int .i64 (g i)) := by rw [h4]; simp [hi]
      rwa [List.getElem?_take_of_lt (by omega)] at e
    simpa [World.cell?, show w.heap[b]? = _ from hc] using this

noncomputable def c_numbers : Con := fun args => match args with
  | [.agg [.lit (.int .i64 a), .lit (.int .i64 b), .lit (.int .i64 c)], .lit (.int .i64 m)] =>
    .ask (I64 a ∧ I64 b ∧ I64 c ∧ 0 ≤ m ∧ m ≤ 1000000) (.ret (.row [.int .i64] (lk numsN a b c m) (fun k => (lk num a b c k, ()))))
  | _ => .stuck 1
theorem numbers_ok : ConOK P 33 c_numbers := by
  intro args r h lv w vals hlv hr
  unfold c_numbers at h
  split at h
  · rename_i a b c m
    obtain ⟨ha, hb, hc, h0, h1⟩ := (T.is_ask h).1
    obtain rfl := T.is_ret (T.is_ask h).2
    obtain ⟨u, us, rfl, ⟨xs, rfl, u1, l1, rfl, e1, u2, l2, rfl, e2, u3, l3, rfl, e3, e4⟩, u4, l4, rfl, e5, e6⟩ := hr
    subst e4; subst e6
    rw [show u1 = .int .i64 a from e1, show u2 = .int .i64 b from e2, show u3 = .int .i64 c from e3, show u4 = .int .i64 m from e5]
    refine (callsIn_wide.1 (numbers_in 3 (by omega) a b c m ha hb hc h0 h1 w)).mono ?_
    rintro e w' ⟨v, k, q, rfl, hk, hq, hown, hbel⟩
    refine ⟨v, rfl, hbel, ?_⟩
    simp only [lk_eq]
    have e : numsN a b c m = k := by rw [hk]; rfl
    rw [e]
    refine rep_owned hlv hq ?_ (by simpa [nums, Function.comp_def] using hown) _
    have := size_le a b c
    simp only [top]; omega
  · exact h.elim

def smallB (a b c : Int) : Bool := decide (chk a b c = 0 ∧ size a b c ≤ 400)
noncomputable def c_small : Con := fun args => match args with
  | [.agg [.lit (.int .i64 a), .lit (.int .i64 b), .lit (.int .i64 c)]] => .ask (I64 a ∧ I64 b ∧ I64 c) (.ret (.lit (.bool (lk smallB a b c))))
  | _ => .stuck 1
set_option maxRecDepth 100000 in
theorem t_small (a b c : Int) : conB Go.Proofs.Try.prog (conOf k7) noLoops 10 32 [.agg [.lit (.int .i64 a), .lit (.int .i64 b), .lit (.int .i64 c)]] =
    T.ask (I64 a ∧ I64 b ∧ I64 c) (T.br (U.eq (lk chk a b c) (0 : Int)) (T.ask (I64 a ∧ I64 b ∧ I64 c) (T.ret (SV.lit (Value.bool (U.le (lk size a b c) (400 : Int)))))) (T.ret (SV.lit
      (Value.bool false)))) := by kernel_rfl
theorem small_ok : ConOK P 32 c_small := con_of (allOK mixed k7_ok) 10 32 fun args r h => by
  unfold c_small at h
  split at h
  · rename_i a b c
    have hp := (T.is_ask h).1
    have h := (T.is_ask h).2
    obtain rfl := T.is_ret h
    rw [t_small]
    by_cases h1 : chk a b c = 0 <;> by_cases h2 : size a b c ≤ 400 <;> simp [T.All, U.eq_eq, U.le_eq, U.ne_eq, lk_eq, hp, smallB, h1, h2]
  · exact h.elim
noncomputable abbrev k10 : List (Nat × Con) := (33, c_numbers) :: (32, c_small) :: (35, c_Count) :: k7
theorem k10_ok : ∀ p ∈ k10, ConOK P p.1 p.2 := by
  intro p hp
  simp only [k10, List.mem_cons] at hp
  rcases hp with rfl | rfl | rfl | hp
  · exact numbers_ok
  · exact small_ok
  · exact Count_ok
  · exact k7_ok p (by simpa [k7] using hp)
end Go.RX.Span

/- Ranges: the order of their numbers, in plain Lean. -/
set_option linter.unusedVariables false
set_option linter.unusedSimpArgs false
namespace Go.RX.Span
open Go Go.RX

section
variable {a b c : Int}
/-- The k-th number of a right range, by the sign of its stride. -/
theorem num_eq {k : Nat} (hr : Right a b c) (hab : a ≤ b) : num a b c k = (if c < 0 then b else a) + c * k := by
  obtain ⟨_, _, _, _, _, p6, p7, _⟩ := parts hr hab
  unfold num; rw [p6, p7]
theorem right_dvd' (hr : Right a b c) (hab : a ≤ b) : c ∣ b - a := by
  rcases hr.2 with h | h | h
  · omega
  · rw [show b - a = 0 by omega]; exact Int.dvd_zero _
  · exact Int.dvd_of_emod_eq_zero h.2.2
theorem num_between {k : Nat} (hr : Right a b c) (hab : a ≤ b) (hk : (k : Int) < ofC a b c) : a ≤ num a b c k ∧ num a b c k ≤ b := by
  obtain ⟨p1, p2, p3, p4, p5, p6, p7, p8, p9, p10⟩ := parts hr hab
  have m1 := mulle (s := absI c) (x := 0) (y := (k : Int)) p1 (by omega)
  have m2 := mulle (s := absI c) (x := (k : Int)) (y := ofC a b c - 1) p1 (by omega)
  rw [Int.mul_zero] at m1
  rw [num_eq hr hab]
  by_cases hc : c < 0
  · rw [if_pos hc]
    have e : c * k = -(absI c * k) := by rw [absI_neg hc, Int.neg_mul, Int.neg_neg]
    rw [e]
    generalize absI c * (k : Int) = z at *
    omega
  · rw [if_neg hc]
    have e : c * k = absI c * k := by rw [absI_pos hc]
    rw [e]
    generalize absI c * (k : Int) = z at *
    omega
theorem num_mod {k : Nat} (hr : Right a b c) (hab : a ≤ b) : (num a b c k - a) % c = 0 := by
  rw [num_eq hr hab]
  have hd := right_dvd' hr hab
  apply Int.emod_eq_zero_of_dvd
  by_cases hc : c < 0
  · rw [if_pos hc, show b + c * k - a = (b - a) + c * k by omega]
    exact Int.dvd_add hd (Int.dvd_mul_right c k)
  · rw [if_neg hc, show a + c * k - a = c * k by omega]
    exact Int.dvd_mul_right c k
theorem num_has {k : Nat} (hr : Right a b c) (hab : a ≤ b) (hk : (k : Int) < ofC a b c) : has a b c (num a b c k) = true := by
  have h1 := num_between hr hab hk
  unfold has
  exact decide_eq_true ⟨chk_zero.2 hr, h1.1, h1.2, num_mod hr hab⟩
theorem num_pos {k : Nat} (hr : Right a b c) (hab : a ≤ b) (hk : (k : Int) < ofC a b c) : pos a b c (num a b c k) = k := by
  have hc := right_c hr
  unfold pos
  rw [num_has hr hab hk, num_eq hr hab]
  simp only [if_true]
  by_cases h : c < 0
  · rw [if_pos h, if_pos h, show b - (b + c * (k : Int)) = (-c) * k by rw [Int.neg_mul]; omega]
    exact Int.mul_ediv_cancel_left _ (by omega)
  · rw [if_neg h, if_neg h, show a + c * (k : Int) - a = c * k by omega]
    exact Int.mul_ediv_cancel_left _ (by omega)
theorem num_nth {k : Nat} (hr : Right a b c) (hk : (k : Int) < ofC a b c) : nthE a b c k = 0 ∧ nth a b c k = num a b c k := by
  have e : nthE a b c k = 0 := by
    unfold nthE; rw [if_neg (by rw [chk_zero.2 hr]; simp), if_neg (by omega)]
  exact ⟨e, by unfold nth num; rw [e]; simp⟩
theorem num_step {k : Nat} (hr : Right a b c) (hab : a ≤ b) : num a b c (k + 1) - num a b c k = c := by
  rw [num_eq hr hab, num_eq hr hab]
  have : c * ((k + 1 : Nat) : Int) = c * k + c := by rw [Int.natCast_add]; simp [Int.mul_add]
  rw [this]; omega
theorem of_self (hr : Right a b c) (h1 : -1000000 ≤ c) (h2 : c ≤ 1000000) : ofErr a b c = 0 ∧ ofLow a b c = a ∧ ofHigh a b c = b ∧ ofStr a b c = c := by
  have hl := hr.1
  have hc0 : c ≠ 0 := by rcases hr.2 with h | h | h <;> omega
  have e : ofErr a b c = 0 := by
    unfold ofErr; rw [if_neg hc0, if_pos (by omega)]
  have eL : ofLow a b c = a := by
    unfold ofLow; rw [e]
    simp only [ne_eq, not_true_eq_false, if_false]
    by_cases hab : a > b
    · rw [if_pos hab]; rcases hr.2 with h | h | h <;> omega
    · rw [if_neg hab]
      by_cases hc : c < 0
      · rw [if_pos hc]
        have := Int.ediv_mul_cancel ((Int.neg_dvd).2 (right_dvd' hr (by omega)))
        rw [this]; omega
      · rw [if_neg hc]
  have eH : ofHigh a b c = b := by
    unfold ofHigh; rw [e]
    simp only [ne_eq, not_true_eq_false, if_false]
    by_cases hab : a > b
    · rw [if_pos hab]; rcases hr.2 with h | h | h <;> omega
    · rw [if_neg hab]
      by_cases hc : c < 0
      · rw [if_pos hc]
      · rw [if_neg hc]
        have := Int.ediv_mul_cancel (right_dvd' hr (by omega))
        rw [this]; omega
  refine ⟨e, eL, eH, ?_⟩
  unfold ofStr; rw [e, eL, eH]
  simp only [ne_eq, not_true_eq_false, if_false]
  rcases hr.2 with h | h | h
  · rw [if_pos (by omega)]; omega
  · rw [if_neg (by omega), if_pos h.1]; omega
  · rw [if_neg (by omega), if_neg (by omega)]
end
noncomputable abbrev E10 : Env := ⟨P, conOf k10, scall P (conOf k10) noLoops 10⟩
theorem E10_ok : EnvOK E10 := envOK (allOK mixed k10_ok) 10

structure XO where
  (a b c : Int) (n n1 : Nat) (f f1 : Nat → Els [.int .i64]) (len : Int) (k : Nat)
def PreO (n0 : Nat) (a b c : Int) (n n1 : Nat) (f f1 : Nat → Els [.int .i64]) (len : Int) : Prop :=
  n0 ≤ 1 ∧ I64 a ∧ I64 b ∧ I64 c ∧ Right a b c ∧ (n : Int) = ofC a b c ∧ (n1 : Int) = ofC a b c ∧ len = ofC a b c ∧ (∀ k, k < n → (f k).1 = num a b c k) ∧ (∀ k, k < n → (f1 k).1 = num a b c k)
noncomputable def gO : Nat → Few → T (Ex × Few)
  | n0, ([.ptr 0 0, .row [.int .i64] n f, .row [.int .i64] n1 f1, .lit (.int .i64 len), .ki .i64 (.ofNat 0)], [(0, some (.cells [.lit (.int .i64 a), .lit (.int .i64 b), .lit (.int .i64 c)] 23))]) =>
    .ask (PreO n0 a b c n n1 f f1 len) (.ret (.exit 0, ([.ptr 0 0, .row [.int .i64] n f, .any, .any, .any], [(0, some (.cells [.lit (.int .i64 a), .lit (.int .i64 b), .lit (.int .i64 c)] 23))])))
  | _, _ => .stuck 1
noncomputable def VO (x : XO) : Few := ([.ptr 0 0, .row [.int .i64] x.n x.f, .row [.int .i64] x.n1 x.f1, .lit (.int .i64 x.len), .lit (.int .i64 x.k)], [(0, some (.cells [.lit (.int .i64 x.a), .lit (.int .i64 x.b), .lit (.int .i64 x.c)] 23))])
noncomputable def OO (x : XO) : Ex × Few := (.exit 0, ([.ptr 0 0, .row [.int .i64] x.n x.f, .any, .any, .any], [(0, some (.cells [.lit (.int .i64 x.a), .lit (.int .i64 x.b), .lit (.int .i64 x.c)] 23))]))
def PhiO (n0 : Nat) (x : XO) : Prop := PreO n0 x.a x.b x.c x.n x.n1 x.f x.f1 x.len ∧ x.k ≤ x.n
end Go.RX.Span

/- Ranges: what By of By, and Count twice, come to, in plain Lean. -/
set_option linter.unusedVariables false
set_option linter.unusedSimpArgs false
namespace Go.RX.Span
open Go Go.RX

/-- A range upwards, out of its first number, its step and how many steps it has. -/
theorem rgU {F s q : Int} (hs : 1 ≤ s) (hq : 0 ≤ q) (h1 : -1000000 ≤ F) (h2 : F + s * q ≤ 1000000) :
    Right F (F + s * q) (if q = 0 then 1 else s) ∧ F ≤ F + s * q ∧ ofC F (F + s * q) (if q = 0 then 1 else s) = q + 1 ∧ ∀ j : Nat, (j : Int) ≤ q → num F (F + s * q) (if q = 0 then 1 else s) j = F + s * j := by
  have h0 := mulle (s := s) (x := 0) (y := q) hs hq
  rw [Int.mul_zero] at h0
  by_cases hz : q = 0
  · subst hz
    simp only [if_true, Int.mul_zero, Int.add_zero]
    have hr : Right F F 1 := ⟨by rw [Int.mul_zero] at h2; omega, .inr (.inl ⟨rfl, rfl⟩)⟩
    refine ⟨hr, Int.le_refl _, ?_, fun j hj => ?_⟩
    · simp [ofC]
    · obtain rfl : j = 0 := by omega
      rw [num_eq hr (Int.le_refl _)]; simp
  · rw [if_neg hz]
    have hsq := mulle (s := s) (x := 1) (y := q) hs (by omega)
    rw [Int.mul_one] at hsq
    have hr : Right F (F + s * q) s := ⟨by omega, .inr (.inr ⟨by omega, by omega, by rw [show F + s * q - F = s * q by omega]; exact Int.mul_emod_right s q⟩)⟩
    refine ⟨hr, by omega, ?_, fun j hj => ?_⟩
    · unfold ofC
      rw [if_neg (by omega), if_neg (by omega), show F + s * q - F = s * q by omega, Int.mul_ediv_cancel_left _ (by omega)]
    · rw [num_eq hr (by omega), if_neg (by omega)]
/-- And downwards. -/
theorem rgD {F s q : Int} (hs : 1 ≤ s) (hq : 0 ≤ q) (h1 : F ≤ 1000000) (h2 : -1000000 ≤ F - s * q) :
    Right (F - s * q) F (if q = 0 then 1 else -s) ∧ F - s * q ≤ F ∧ ofC (F - s * q) F (if q = 0 then 1 else -s) = q + 1 ∧ ∀ j : Nat, (j : Int) ≤ q → num (F - s * q) F (if q = 0 then 1 else -s) j = F - s * j := by
  have h0 := mulle (s := s) (x := 0) (y := q) hs hq
  rw [Int.mul_zero] at h0
  by_cases hz : q = 0
  · subst hz
    simp only [if_true, Int.mul_zero, Int.sub_zero]
    have hr : Right F F 1 := ⟨by rw [Int.mul_zero] at h2; omega, .inr (.inl ⟨rfl, rfl⟩)⟩
    refine ⟨hr, Int.le_refl _, ?_, fun j hj => ?_⟩
    · simp [ofC]
    · obtain rfl : j = 0 := by omega
      rw [num_eq hr (Int.le_refl _)]; simp
  · rw [if_neg hz]
    have hsq := mulle (s := s) (x := 1) (y := q) hs (by omega)
    rw [Int.mul_one] at hsq
    have hr : Right (F - s * q) F (-s) := ⟨by omega, .inr (.inr ⟨by omega, by omega, by
      rw [show F - (F - s * q) = (-s) * (-q) by rw [Int.neg_mul_neg]; omega]; exact Int.mul_emod_right (-s) (-q)⟩)⟩
    refine ⟨hr, by omega, ?_, fun j hj => ?_⟩
    · unfold ofC
      rw [if_neg (by omega), if_pos (by omega), show F - (F - s * q) = s * q by omega, Int.neg_neg, Int.mul_ediv_cancel_left _ (by omega)]
    · rw [num_eq hr (by omega), if_pos (by omega), Int.neg_mul]; omega

theorem by_empty {a b c n : Int} (hr : Right a b c) (hab : ¬ a ≤ b) (hn : n ≠ 0) (hl : -1000000 ≤ n ∧ n ≤ 1000000) : byErr a b c n = 0 ∧ byLow a b c n = 1 ∧ byHigh a b c n = 0 ∧ byStr a b c n = 1 := by
  obtain ⟨e1, e2, e3⟩ := empty_of (c := c) hab
  have e0 : byErr0 a b c n = 0 := by unfold byErr0; rw [if_neg (by rw [chk_zero.2 hr]; simp), if_neg hn, if_pos hl]
  have eC : byC a b c n ≤ 0 := by
    unfold byC; rw [e3]
    by_cases h : n < 0
    · rw [if_pos h]
      have : (0 + -n - 1) / -n = 0 := Int.ediv_eq_zero_of_lt (by omega) (by omega)
      omega
    · rw [if_neg h]
      have : (0 + n - 1) / n = 0 := Int.ediv_eq_zero_of_lt (by omega) (by omega)
      omega
  simp only [byErr, byLow, byHigh, byStr, e0, ne_eq, not_true_eq_false, if_false, nErr, nLow, nHigh, nStr, if_pos eC, and_self]
theorem empty_is {a b c : Int} (hr : Right a b c) (hab : ¬ a ≤ b) : a = 1 ∧ b = 0 ∧ c = 1 := by rcases hr.2 with h | h | h <;> omega
/-- By of a right range is a right range. -/
theorem by_right {a b c n : Int} (hr : Right a b c) (hn : n ≠ 0) (hl : -1000000 ≤ n ∧ n ≤ 1000000) : byErr a b c n = 0 ∧ Right (byLow a b c n) (byHigh a b c n) (byStr a b c n) := by
  by_cases hab : a ≤ b
  · obtain ⟨p1, p2, p3, p4, p5, p6, p7, p8, p9, p10⟩ := parts hr hab
    obtain ⟨q1, q2, q3⟩ := by_closed hr hab hn hl
    have hlim := hr.1
    have hm : 1 ≤ absI n := by unfold absI; split <;> omega
    have hd := div_up (C := ofC a b c) (m := absI n) (by omega) (by omega)
    have m0 := mulle (x := 0) (y := absI n * ((ofC a b c - 1) / absI n)) p1 (by omega)
    have m1 := mulle (x := absI n * ((ofC a b c - 1) / absI n)) (y := ofC a b c - 1) p1 (by omega)
    rw [Int.mul_zero] at m0
    have hsm : 1 ≤ absI c * absI n := by have := mulle (x := 1) (y := absI n) p1 hm; rw [Int.mul_one] at this; omega
    refine ⟨q1, ?_⟩
    by_cases hs : (c < 0 ↔ n < 0)
    · obtain ⟨r1, r2, r3⟩ := q2 hs
      rw [r1, r2, r3, ← Int.mul_assoc]
      exact (rgU (F := a) (s := absI c * absI n) (q := (ofC a b c - 1) / absI n) hsm hd.2.1 (by omega) (by rw [Int.mul_assoc]; omega)).1
    · obtain ⟨r1, r2, r3⟩ := q3 hs
      rw [r1, r2, r3, ← Int.mul_assoc]
      exact (rgD (F := b) (s := absI c * absI n) (q := (ofC a b c - 1) / absI n) hsm hd.2.1 (by omega) (by rw [Int.mul_assoc]; omega)).1
  · obtain ⟨e1, e2, e3, e4⟩ := by_empty hr hab hn hl
    rw [e2, e3, e4]
    exact ⟨e1, ⟨by omega, .inl ⟨rfl, rfl, rfl⟩⟩⟩

/-- The opposite of the opposite. -/
theorem by_back {a b c : Int} (hr : Right a b c) : byLow (byLow a b c (-1)) (byHigh a b c (-1)) (byStr a b c (-1)) (-1) = a ∧ byHigh (byLow a b c (-1)) (byHigh a b c (-1)) (byStr a b c (-1)) (-1) = b ∧ byStr (byLow a b c (-1)) (byHigh a b c (-1)) (byStr a b c (-1)) (-1) = c := by
  have ab1 : absI (-1) = 1 := rfl
  by_cases hab : a ≤ b
  · obtain ⟨p1, p2, p3, p4, p5, p6, p7, p8, p9, p10⟩ := parts hr hab
    obtain ⟨q1, q2, q3⟩ := by_closed hr hab (n := -1) (by omega) (by omega)
    have hlim := hr.1
    rw [ab1, Int.ediv_one, Int.one_mul, Int.mul_one, p5] at q2 q3
    by_cases hc : c < 0
    · obtain ⟨r1, r2, r3⟩ := q2 (by omega)
      have hz : ¬ ofC a b c - 1 = 0 := fun h => by rw [h, Int.mul_zero] at p5; have := p9 hc; omega
      rw [if_neg hz] at r3
      rw [r1, r2, r3, show a + (b - a) = b by omega]
      obtain ⟨g1, g2, g3, g4⟩ := rgU (F := a) (s := absI c) (q := ofC a b c - 1) p1 (by omega) (by omega) (by omega)
      rw [if_neg hz, p5, show a + (b - a) = b by omega] at g1 g3
      rw [p5, show a + (b - a) = b by omega] at g2
      obtain ⟨t1, t2, t3⟩ := by_closed g1 g2 (n := -1) (by omega) (by omega)
      have hac : absI (absI c) = absI c := absI_pos (by omega)
      obtain ⟨u1, u2, u3⟩ := t3 (by omega)
      rw [u1, u2, u3, hac, g3, ab1, show ofC a b c - 1 + 1 - 1 = ofC a b c - 1 by omega, Int.ediv_one, Int.one_mul, Int.mul_one, p5, if_neg hz]
      have := absI_neg hc
      omega
    · obtain ⟨r1, r2, r3⟩ := q3 (by omega)
      rw [r1, r2, r3]
      obtain ⟨g1, g2, g3, g4⟩ := rgD (F := b) (s := absI c) (q := ofC a b c - 1) p1 (by omega) (by omega) (by omega)
      rw [p5] at g1 g2 g3
      have hcp := absI_pos hc
      by_cases hz : ofC a b c - 1 = 0
      · rw [if_pos hz] at g1 g3 ⊢
        rw [hz, Int.mul_zero] at p5
        obtain ⟨t1, t2, t3⟩ := by_closed g1 g2 (n := -1) (by omega) (by omega)
        obtain ⟨u1, u2, u3⟩ := t3 (by omega)
        have hz' : ofC (b - (b - a)) b 1 - 1 = 0 := by rw [g3]; omega
        rw [u1, u2, u3, ab1, hz']
        have h1 := p10 (by omega)
        refine ⟨by simp; omega, rfl, by simp; omega⟩
      · rw [if_neg hz] at g1 g3 ⊢
        obtain ⟨t1, t2, t3⟩ := by_closed g1 g2 (n := -1) (by omega) (by omega)
        have hac : absI (-absI c) = absI c := by rw [absI_neg (by omega)]; omega
        obtain ⟨u1, u2, u3⟩ := t2 (by omega)
        rw [u1, u2, u3, hac, g3, ab1, show ofC a b c - 1 + 1 - 1 = ofC a b c - 1 by omega, Int.ediv_one, Int.one_mul, Int.mul_one, p5, if_neg hz]
        omega
  · obtain ⟨e1, e2, e3, e4⟩ := by_empty hr hab (n := -1) (by omega) (by omega)
    obtain ⟨h1, h2, h3⟩ := empty_is hr hab
    subst h1; subst h2; subst h3
    rw [e2, e3, e4]
    exact ⟨e2, e3, e4⟩

/-- By of By is By of the product. -/
theorem by_by {a b c m n : Int} (hr : Right a b c) (hm : 0 < m) (hn : 0 < n) (hl : m ≤ 1000) (hl' : n ≤ 1000) :
    byLow (byLow a b c m) (byHigh a b c m) (byStr a b c m) n = byLow a b c (m * n) ∧ byHigh (byLow a b c m) (byHigh a b c m) (byStr a b c m) n = byHigh a b c (m * n) ∧ byStr (byLow a b c m) (byHigh a b c m) (byStr a b c m) n = byStr a b c (m * n) := by
  have hmn1 : 1 ≤ m * n := by have := mulle (s := m) (x := 1) (y := n) (by omega) (by omega); rw [Int.mul_one] at this; omega
  have hmn2 : m * n ≤ 1000000 := by
    have h1 := mulle (s := m) (x := n) (y := 1000) (by omega) hl'
    omega
  by_cases hab : a ≤ b
  · obtain ⟨p1, p2, p3, p4, p5, p6, p7, p8, p9, p10⟩ := parts hr hab
    obtain ⟨q1, q2, q3⟩ := by_closed hr hab (n := m) (by omega) (by omega)
    obtain ⟨w1, w2, w3⟩ := by_closed hr hab (n := m * n) (by omega) (by omega)
    have hlim := hr.1
    have am : absI m = m := absI_pos (by omega)
    have an : absI n = n := absI_pos (by omega)
    have amn : absI (m * n) = m * n := absI_pos (by omega)
    rw [am] at q2 q3
    rw [amn] at w2 w3
    have hdd : (ofC a b c - 1) / (m * n) = (ofC a b c - 1) / m / n := (Int.ediv_ediv_of_nonneg (by omega)).symm
    rw [hdd] at w2 w3
    obtain ⟨Q, hQ⟩ : ∃ Q, Q = (ofC a b c - 1) / m := ⟨_, rfl⟩
    have hd := div_up (C := ofC a b c) (m := m) (by omega) (by omega)
    rw [← hQ] at q2 q3 w2 w3 hd
    have hQ0 : 0 ≤ Q := hd.2.1
    have m0 := mulle (x := 0) (y := m * Q) p1 (by omega)
    have m1 := mulle (x := m * Q) (y := ofC a b c - 1) p1 (by omega)
    rw [Int.mul_zero] at m0
    have hsm : 1 ≤ absI c * m := by have := mulle (x := 1) (y := m) p1 (by omega); rw [Int.mul_one] at this; omega
    by_cases hc : c < 0
    · obtain ⟨r1, r2, r3⟩ := q3 (by omega)
      obtain ⟨x1, x2, x3⟩ := w3 (by omega)
      rw [r1, r2, r3, x1, x2, x3]
      obtain ⟨g1, g2, g3, g4⟩ := rgD (F := b) (s := absI c * m) (q := Q) hsm hQ0 (by omega) (by rw [Int.mul_assoc]; omega)
      rw [Int.mul_assoc] at g1 g2 g3
      obtain ⟨t1, t2, t3⟩ := by_closed g1 g2 (n := n) (by omega) (by omega)
      rw [an, g3, show Q + 1 - 1 = Q by omega] at t2 t3
      by_cases hz : Q = 0
      · subst hz
        simp only [if_true] at t2 t3 ⊢
        obtain ⟨u1, u2, u3⟩ := t2 (by omega)
        rw [u1, u2, u3]
        simp
      · rw [if_neg hz] at t2 t3 ⊢
        obtain ⟨u1, u2, u3⟩ := t3 (by omega)
        have hac : absI (-(absI c * m)) = absI c * m := by rw [absI_neg (by omega)]; omega
        rw [u1, u2, u3, hac]
        refine ⟨by rw [Int.mul_assoc, Int.mul_assoc m n], rfl, by rw [Int.mul_assoc]⟩
    · obtain ⟨r1, r2, r3⟩ := q2 (by omega)
      obtain ⟨x1, x2, x3⟩ := w2 (by omega)
      rw [r1, r2, r3, x1, x2, x3]
      obtain ⟨g1, g2, g3, g4⟩ := rgU (F := a) (s := absI c * m) (q := Q) hsm hQ0 (by omega) (by rw [Int.mul_assoc]; omega)
      rw [Int.mul_assoc] at g1 g2 g3
      obtain ⟨t1, t2, t3⟩ := by_closed g1 g2 (n := n) (by omega) (by omega)
      rw [an, g3, show Q + 1 - 1 = Q by omega] at t2 t3
      by_cases hz : Q = 0
      · subst hz
        simp only [if_true] at t2 t3 ⊢
        obtain ⟨u1, u2, u3⟩ := t2 (by omega)
        rw [u1, u2, u3]
        simp
      · rw [if_neg hz] at t2 t3 ⊢
        obtain ⟨u1, u2, u3⟩ := t2 (by omega)
        have hac : absI (absI c * m) = absI c * m := absI_pos (by omega)
        rw [u1, u2, u3, hac]
        refine ⟨rfl, by rw [Int.mul_assoc, Int.mul_assoc m n], by rw [Int.mul_assoc]⟩
  · obtain ⟨e1, e2, e3, e4⟩ := by_empty hr hab (n := m) (by omega) (by omega)
    obtain ⟨f1, f2, f3, f4⟩ := by_empty hr hab (n := m * n) (by omega) (by omega)
    rw [e2, e3, e4, f2, f3, f4]
    have h1 : Right 1 0 1 := ⟨by omega, .inl ⟨rfl, rfl, rfl⟩⟩
    exact (by_empty h1 (by omega) (n := n) (by omega) (by omega)).2

theorem cnt_ok {a b c n : Int} (hr : Right a b c) (h1 : n ≤ ofC a b c) (h2 : -ofC a b c ≤ n) : cntE a b c n = 0 := by
  unfold cntE; rw [if_neg (by rw [chk_zero.2 hr]; simp), if_neg (by omega)]
theorem cnt_zero {a b c : Int} (hr : Right a b c) : cntLow a b c 0 = 1 ∧ cntHigh a b c 0 = 0 ∧ cntStr a b c 0 = 1 := by
  have hb := ofC_bnd hr
  have e := cnt_ok (n := 0) hr (by omega) (by omega)
  simp [cntLow, cntHigh, cntStr, e]
/-- A part of a range: from one number to another. -/
theorem cnt_part {a b c n F0 T0 : Int} (hr : Right a b c) (hab : a ≤ b) (h1 : n ≤ ofC a b c) (h2 : -ofC a b c ≤ n) (hn : n ≠ 0) (hF : cntFrom a b c n = F0) (hT : cntTo a b c n = T0) (h0 : 0 ≤ F0) (hFT : F0 ≤ T0) (hTC : T0 < ofC a b c) (hone : (n = 1 ∨ n = -1) ↔ T0 - F0 = 0) :
    Right (cntLow a b c n) (cntHigh a b c n) (cntStr a b c n) ∧ ofC (cntLow a b c n) (cntHigh a b c n) (cntStr a b c n) = T0 - F0 + 1 ∧ ∀ j : Nat, (j : Int) ≤ T0 - F0 → num (cntLow a b c n) (cntHigh a b c n) (cntStr a b c n) j = num a b c (F0.toNat + j) := by
  obtain ⟨p1, p2, p3, p4, p5, p6, p7, p8, p9, p10⟩ := parts hr hab
  have hlim := hr.1
  have e := cnt_ok hr h1 h2
  have m0 := mulle (x := 0) (y := F0) p1 h0
  have m1 := mulle (x := F0) (y := T0) p1 hFT
  have m2 := mulle (x := T0) (y := ofC a b c - 1) p1 (by omega)
  rw [Int.mul_zero] at m0
  have ms : absI c * (T0 - F0) = absI c * T0 - absI c * F0 := Int.mul_sub _ _ _
  have hj : ∀ j : Nat, ((F0.toNat + j : Nat) : Int) = F0 + j := fun j => by omega
  by_cases hc : c < 0
  · have hcs : c = -absI c := by rw [absI_neg hc]; omega
    have eL : cntLow a b c n = (b - absI c * F0) - absI c * (T0 - F0) := by
      unfold cntLow; rw [e, hT]; simp only [ne_eq, not_true_eq_false, if_false, if_neg hn, if_pos hc]; omega
    have eH : cntHigh a b c n = b - absI c * F0 := by
      unfold cntHigh; rw [e, hF]; simp only [ne_eq, not_true_eq_false, if_false, if_neg hn, if_pos hc]
    have eS : cntStr a b c n = if T0 - F0 = 0 then 1 else -absI c := by
      unfold cntStr; rw [e]; simp only [ne_eq, not_true_eq_false, if_false, if_neg hn]
      by_cases h : T0 - F0 = 0
      · rw [if_pos (hone.2 h), if_pos h]
      · rw [if_neg (fun g => h (hone.1 g)), if_neg h]; exact hcs
    rw [eL, eH, eS]
    obtain ⟨g1, g2, g3, g4⟩ := rgD (F := b - absI c * F0) (s := absI c) (q := T0 - F0) p1 (by omega) (by omega) (by omega)
    refine ⟨g1, g3, fun j hjq => ?_⟩
    rw [g4 j hjq, num_eq hr hab, if_pos hc, hj, Int.mul_add]
    have e1 : c * F0 = -(absI c * F0) := by rw [absI_neg hc, Int.neg_mul, Int.neg_neg]
    have e2 : c * (j : Int) = -(absI c * (j : Int)) := by rw [absI_neg hc, Int.neg_mul, Int.neg_neg]
    omega
  · have hcs : absI c = c := absI_pos hc
    have eL : cntLow a b c n = a + absI c * F0 := by
      unfold cntLow; rw [e, hF]; simp only [ne_eq, not_true_eq_false, if_false, if_neg hn, if_neg hc]
    have eH : cntHigh a b c n = (a + absI c * F0) + absI c * (T0 - F0) := by
      unfold cntHigh; rw [e, hT]; simp only [ne_eq, not_true_eq_false, if_false, if_neg hn, if_neg hc]; omega
    have eS : cntStr a b c n = if T0 - F0 = 0 then 1 else absI c := by
      unfold cntStr; rw [e]; simp only [ne_eq, not_true_eq_false, if_false, if_neg hn]
      by_cases h : T0 - F0 = 0
      · rw [if_pos (hone.2 h), if_pos h]
      · rw [if_neg (fun g => h (hone.1 g)), if_neg h]; exact hcs.symm
    rw [eL, eH, eS]
    obtain ⟨g1, g2, g3, g4⟩ := rgU (F := a + absI c * F0) (s := absI c) (q := T0 - F0) p1 (by omega) (by omega) (by omega)
    refine ⟨g1, g3, fun j hjq => ?_⟩
    rw [g4 j hjq, num_eq hr hab, if_neg hc, hj, Int.mul_add, hcs]
    omega

/-- The first numbers of a right range, and the others, are all. -/
theorem count_cat {a b c i : Int} (hr : Right a b c) (h0 : 0 ≤ i) (hi : i ≤ ofC a b c) :
    cntE a b c i = 0 ∧ cntE a b c (i - ofC a b c) = 0 ∧ Right (cntLow a b c i) (cntHigh a b c i) (cntStr a b c i) ∧ Right (cntLow a b c (i - ofC a b c)) (cntHigh a b c (i - ofC a b c)) (cntStr a b c (i - ofC a b c)) ∧
    ofC (cntLow a b c i) (cntHigh a b c i) (cntStr a b c i) = i ∧ ofC (cntLow a b c (i - ofC a b c)) (cntHigh a b c (i - ofC a b c)) (cntStr a b c (i - ofC a b c)) = ofC a b c - i ∧
    (∀ j : Nat, (j : Int) < i → num (cntLow a b c i) (cntHigh a b c i) (cntStr a b c i) j = num a b c j) ∧
    (∀ j : Nat, i + (j : Int) < ofC a b c → num (cntLow a b c (i - ofC a b c)) (cntHigh a b c (i - ofC a b c)) (cntStr a b c (i - ofC a b c)) j = num a b c (i.toNat + j)) := by
  have hb := ofC_bnd hr
  have hR0 : Right 1 0 1 := ⟨by omega, .inl ⟨rfl, rfl, rfl⟩⟩
  have hC0 : ofC 1 0 1 = 0 := rfl
  refine ⟨cnt_ok hr hi (by omega), cnt_ok hr (by omega) (by omega), ?_⟩
  have first : Right (cntLow a b c i) (cntHigh a b c i) (cntStr a b c i) ∧ ofC (cntLow a b c i) (cntHigh a b c i) (cntStr a b c i) = i ∧ (∀ j : Nat, (j : Int) < i → num (cntLow a b c i) (cntHigh a b c i) (cntStr a b c i) j = num a b c j) := by
    by_cases hz : i = 0
    · subst hz
      obtain ⟨z1, z2, z3⟩ := cnt_zero hr
      rw [z1, z2, z3]
      exact ⟨hR0, hC0, fun j hj => by omega⟩
    · have hab : a ≤ b := by
        by_cases hab : a ≤ b
        · exact hab
        · have := empty_of (c := c) hab; omega
      obtain ⟨g1, g2, g3⟩ := cnt_part (n := i) (F0 := 0) (T0 := i - 1) hr hab hi (by omega) hz (by unfold cntFrom; rw [if_neg (by omega)]) (by unfold cntTo; rw [if_neg (by omega)]) (by omega) (by omega) (by omega) (by omega)
      exact ⟨g1, by omega, fun j hj => by rw [g3 j (by omega)]; congr 1; simp⟩
  have last : Right (cntLow a b c (i - ofC a b c)) (cntHigh a b c (i - ofC a b c)) (cntStr a b c (i - ofC a b c)) ∧ ofC (cntLow a b c (i - ofC a b c)) (cntHigh a b c (i - ofC a b c)) (cntStr a b c (i - ofC a b c)) = ofC a b c - i ∧
      (∀ j : Nat, i + (j : Int) < ofC a b c → num (cntLow a b c (i - ofC a b c)) (cntHigh a b c (i - ofC a b c)) (cntStr a b c (i - ofC a b c)) j = num a b c (i.toNat + j)) := by
    by_cases hz : i = ofC a b c
    · rw [show i - ofC a b c = 0 by omega]
      obtain ⟨z1, z2, z3⟩ := cnt_zero hr
      rw [z1, z2, z3]
      exact ⟨hR0, by rw [hC0]; omega, fun j hj => by omega⟩
    · have hab : a ≤ b := by
        by_cases hab : a ≤ b
        · exact hab
        · have := empty_of (c := c) hab; omega
      obtain ⟨g1, g2, g3⟩ := cnt_part (n := i - ofC a b c) (F0 := i) (T0 := ofC a b c - 1) hr hab (by omega) (by omega) (by omega) (by unfold cntFrom; rw [if_pos (by omega)]; omega) (by unfold cntTo; rw [if_pos (by omega)]) (by omega) (by omega) (by omega) (by omega)
      exact ⟨g1, by omega, fun j hj => g3 j (by omega)⟩
  exact ⟨first.1, last.1, first.2.1, last.2.1, first.2.2, last.2.2⟩
end Go.RX.Span

/- Ranges as sets of numbers, in plain Lean. -/
set_option linter.unusedVariables false
set_option linter.unusedSimpArgs false
namespace Go.RX.Span
open Go Go.RX

/-- The numbers of a series upwards. -/
def SIn (F s C n : Int) : Prop := F ≤ n ∧ n ≤ F + s * (C - 1) ∧ 0 < C ∧ ∃ p, n = F + s * p
/-- A series upwards in the limits, of whatever step, or nothing. -/
def Sw (F s C : Int) : Prop := C = 0 ∨ (1 ≤ C ∧ 1 ≤ s ∧ s ≤ 4000000000000 ∧ -1000000 ≤ F ∧ F + s * (C - 1) ≤ 1000000)
theorem Ser.sw {A s C : Int} (h : Ser A s C) : Sw A s C := by rcases h with h | h; exact .inl h; exact .inr (by omega)

theorem sIn_first {F s C : Int} (hs : 1 ≤ s) (hC : 1 ≤ C) : SIn F s C F := by
  have := mulle (x := 0) (y := C - 1) hs (by omega)
  rw [Int.mul_zero] at this
  exact ⟨by omega, by omega, by omega, 0, by omega⟩
theorem sIn_last {F s C : Int} (hs : 1 ≤ s) (hC : 1 ≤ C) : SIn F s C (F + s * (C - 1)) := by
  have := mulle (x := 0) (y := C - 1) hs (by omega)
  rw [Int.mul_zero] at this
  exact ⟨by omega, by omega, by omega, C - 1, rfl⟩
theorem sIn_second {F s C : Int} (hs : 1 ≤ s) (hC : 2 ≤ C) : SIn F s C (F + s) := by
  have := mulle (x := 1) (y := C - 1) hs (by omega)
  rw [Int.mul_one] at this
  exact ⟨by omega, by omega, by omega, 1, by omega⟩

/-- Two series with the same numbers are the same, but for the step of a single one. -/
theorem sIn_ext {F s C A t D : Int} (h1 : Sw F s C) (h2 : Sw A t D) (h : ∀ n, SIn F s C n ↔ SIn A t D n) : C = D ∧ (1 ≤ C → F = A ∧ s * (C - 1) = t * (D - 1)) := by
  by_cases hC : C = 0
  · by_cases hD : D = 0
    · exact ⟨by omega, fun h => by omega⟩
    · have h2' := h2.resolve_left hD
      have := ((h A).2 (sIn_first h2'.2.1 h2'.1)).2.2.1
      omega
  · have h1' := h1.resolve_left hC
    have hD : D ≠ 0 := fun hD => by have := ((h F).1 (sIn_first h1'.2.1 h1'.1)).2.2.1; omega
    have h2' := h2.resolve_left hD
    have f1 := (h F).1 (sIn_first h1'.2.1 h1'.1)
    have f2 := (h A).2 (sIn_first h2'.2.1 h2'.1)
    have l1 := (h _).1 (sIn_last h1'.2.1 h1'.1)
    have l2 := (h _).2 (sIn_last h2'.2.1 h2'.1)
    have hF : F = A := by have := f1.1; have := f2.1; omega
    have hL : s * (C - 1) = t * (D - 1) := by have := l1.2.1; have := l2.2.1; omega
    refine ⟨?_, fun _ => ⟨hF, hL⟩⟩
    have hs := h1'.2.1
    have ht := h2'.2.1
    rcases Int.lt_or_le 1 C with hc1 | hc1
    · rcases Int.lt_or_le 1 D with hd1 | hd1
      · obtain ⟨_, _, _, p, hp⟩ := (h _).1 (sIn_second hs (by omega : 2 ≤ C))
        obtain ⟨_, _, _, q, hq⟩ := (h _).2 (sIn_second ht (by omega : 2 ≤ D))
        have e1 : s = t * p := by omega
        have e2 : t = s * q := by omega
        have hst : s = t := by
          have hp1 : 1 ≤ p := by
            rcases Int.lt_or_le 0 p with h | h
            · omega
            · have := Int.mul_le_mul_of_nonneg_left h (show (0 : Int) ≤ t by omega); omega
          have hq1 : 1 ≤ q := by
            rcases Int.lt_or_le 0 q with h | h
            · omega
            · have := Int.mul_le_mul_of_nonneg_left h (show (0 : Int) ≤ s by omega); omega
          have := mulle (s := t) (x := 1) (y := p) ht hp1
          have := mulle (s := s) (x := 1) (y := q) hs hq1
          omega
        subst hst
        have := Int.eq_of_mul_eq_mul_left (by omega) hL
        omega
      · have : D = 1 := by omega
        subst this
        rw [Int.sub_self, Int.mul_zero] at hL
        have := (mul0 (s := s) (k := C - 1) hs).1 hL
        omega
    · have : C = 1 := by omega
      subst this
      rw [Int.sub_self, Int.mul_zero] at hL
      have := (mul0 (s := t) (k := D - 1) ht).1 hL.symm
      omega

/-- A part of a series that has as many numbers is the whole. -/
theorem sIn_count {F s C A t D : Int} (h1 : Sw F s C) (h2 : Sw A t D) (h : ∀ n, SIn F s C n → SIn A t D n) (hCD : C = D) : ∀ n, SIn A t D n → SIn F s C n := by
  subst hCD
  intro n hn
  have hC : C ≠ 0 := by have := hn.2.2.1; omega
  have h1' := h1.resolve_left hC
  have h2' := h2.resolve_left hC
  have hs := h1'.2.1
  have ht := h2'.2.1
  obtain ⟨g1, g2, g3, p, hp⟩ := h _ (sIn_first hs h1'.1)
  obtain ⟨l1, l2, l3, r, hr⟩ := h _ (sIn_last hs h1'.1)
  rcases Int.lt_or_le 1 C with hc1 | hc1
  · obtain ⟨_, _, _, q, hq⟩ := h _ (sIn_second hs (by omega : 2 ≤ C))
    have e1 : s = t * (q - p) := by rw [Int.mul_sub]; omega
    have hqp : 1 ≤ q - p := by
      rcases Int.lt_or_le 0 (q - p) with h | h
      · omega
      · have := Int.mul_le_mul_of_nonneg_left h (show (0 : Int) ≤ t by omega); omega
    have hp0 : 0 ≤ p := by
      rcases Int.lt_or_le p 0 with h | h
      · have := Int.mul_le_mul_of_nonneg_left (show p ≤ -1 by omega) (show (0 : Int) ≤ t by omega); omega
      · exact h
    have hge : t ≤ s := by have := mulle (s := t) (x := 1) (y := q - p) ht hqp; omega
    have hle : s * (C - 1) ≤ t * (C - 1) := by have := mulle (s := t) (x := 0) (y := p) ht hp0; omega
    have hst : s = t := by
      rcases Int.lt_or_le t s with hlt | h
      · have := Int.mul_lt_mul_of_pos_right hlt (show (0 : Int) < C - 1 by omega)
        omega
      · omega
    subst hst
    have hFA : F = A := by have := mulle (s := s) (x := 0) (y := p) ht hp0; omega
    rw [hFA]; exact hn
  · have : C = 1 := by omega
    subst this
    obtain ⟨k1, k2, k3, w, hw⟩ := hn
    have hFA : F = A := by simp at g2; omega
    have hnA : n = A := by simp at k2; omega
    rw [hnA, ← hFA]
    exact sIn_first hs (by omega)

/-- What the program reckons for two series has just the numbers of both. -/
theorem cm_set {A s C B t D : Int} (hA : Ser A s C) (hB : Ser B t D) : Sw (cmFst A s C B t D) (cmBy A s C B t D) (cmCnt A s C B t D) ∧ ∀ n, SIn (cmFst A s C B t D) (cmBy A s C B t D) (cmCnt A s C B t D) n ↔ SIn A s C n ∧ SIn B t D n := by
  by_cases hC : C = 0
  · have e : cmE A s C B t D = true := decide_eq_true (.inl hC)
    simp only [cmFst, cmBy, cmCnt, e, if_true]
    exact ⟨.inl rfl, fun n => ⟨fun h => by have := h.2.2.1; omega, fun h => by have := h.1.2.2.1; omega⟩⟩
  by_cases hD : D = 0
  · have e : cmE A s C B t D = true := decide_eq_true (.inr (.inl hD))
    simp only [cmFst, cmBy, cmCnt, e, if_true]
    exact ⟨.inl rfl, fun n => ⟨fun h => by have := h.2.2.1; omega, fun h => by have := h.2.2.2.1; omega⟩⟩
  obtain ⟨a1, a2, a3, a4, a5, a6⟩ := hA.resolve_left hC
  obtain ⟨b1, b2, b3, b4, b5, b6⟩ := hB.resolve_left hD
  obtain ⟨g1, g2, s', m, u, g3, g4, g5, g6, g7, g8, g9, g10⟩ := eu_facts a3 b3
  have hA1 := mulle (x := 0) (y := C - 1) a3 (by omega)
  have hB1 := mulle (x := 0) (y := D - 1) b3 (by omega)
  rw [Int.mul_zero] at hA1 hB1
  by_cases hz : (B - A).tmod (euG s t) = 0
  · obtain ⟨Q, hQ⟩ := Int.dvd_of_tmod_eq_zero hz
    have hY : cmY s t = s * m := by unfold cmY; rw [g10]
    have hSM1 := mulle (s := s) (x := 1) (y := m) a3 g6
    rw [Int.mul_one] at hSM1
    have hYb : 1 ≤ cmY s t := by rw [hY]; omega
    have hYt : cmY s t ≤ 4000000000000 := by
      rw [hY]
      have := mulle (s := s) (x := m) (y := 2000000) a3 (by omega)
      omega
    have hfa : ∃ p, cmF0 A s B t = A + s * p := ⟨_, rfl⟩
    have hfb : ∃ q, cmF0 A s B t = B + t * q := by unfold cmF0; rw [g10]; exact cm_first g3 g4 g9 hQ g1 g6
    have both := fun n => cm_both (n := n) g3 g4 g9 g1 hfa hfb
    have clamp := fun n => cm_clamp (f := cmF0 A s B t) (low := max A B) (high := cmHi A s C B t D) (n := n) hYb
    have hHi : cmHi A s C B t D = min (A + s * (C - 1)) (B + t * (D - 1)) := rfl
    have key : ∀ n, (SIn A s C n ∧ SIn B t D n) ↔ (cmV A s B t ≤ n ∧ n ≤ cmHi A s C B t D ∧ ∃ p, n = cmV A s B t + cmY s t * p) := fun n => by
      rw [show cmV A s B t = cmUp (cmF0 A s B t) (max A B) (cmY s t) from rfl, ← clamp n, hY, ← both n, hHi]
      constructor
      · rintro ⟨⟨x1, x2, _, x3⟩, ⟨y1, y2, _, y3⟩⟩
        exact ⟨⟨x3, y3⟩, by omega, by omega⟩
      · rintro ⟨⟨x3, y3⟩, z1, z2⟩
        exact ⟨⟨by omega, by omega, by omega, x3⟩, ⟨by omega, by omega, by omega, y3⟩⟩
    obtain ⟨v1, v2, _⟩ := cmUp_spec (f := cmF0 A s B t) (low := max A B) hYb
    have v1' : max A B ≤ cmV A s B t := v1
    by_cases hgt : cmHi A s C B t D < cmV A s B t
    · have e : cmE A s C B t D = true := decide_eq_true (.inr (.inr (.inr hgt)))
      simp only [cmFst, cmBy, cmCnt, e, if_true]
      refine ⟨.inl rfl, fun n => ⟨fun h => by have := h.2.2.1; omega, fun h => ?_⟩⟩
      have := (key n).1 h
      omega
    · have e : cmE A s C B t D = false := decide_eq_false (by
        rintro (h | h | h | h)
        · exact hC h
        · exact hD h
        · exact h hz
        · exact hgt h)
      simp only [cmFst, cmBy, cmCnt, e, Bool.false_eq_true, if_false]
      have t1 := Int.tdiv_eq_ediv_of_nonneg (b := cmY s t) (show 0 ≤ cmHi A s C B t D - cmV A s B t by omega)
      have t2 := Int.mul_ediv_add_emod (cmHi A s C B t D - cmV A s B t) (cmY s t)
      have t3 := Int.emod_nonneg (cmHi A s C B t D - cmV A s B t) (show cmY s t ≠ 0 by omega)
      have t4 := Int.emod_lt_of_pos (cmHi A s C B t D - cmV A s B t) (show 0 < cmY s t by omega)
      have t5 := Int.ediv_nonneg (show 0 ≤ cmHi A s C B t D - cmV A s B t by omega) (show 0 ≤ cmY s t by omega)
      rw [t1]
      obtain ⟨q, hq⟩ : ∃ q, q = (cmHi A s C B t D - cmV A s B t) / cmY s t := ⟨_, rfl⟩
      rw [← hq] at t2 t5 ⊢
      refine ⟨.inr ⟨by omega, hYb, hYt, by omega, by rw [show q + 1 - 1 = q by omega]; omega⟩, fun n => ?_⟩
      rw [key n]
      unfold SIn
      rw [show q + 1 - 1 = q by omega]
      constructor
      · rintro ⟨x1, x2, x3, x4⟩
        exact ⟨x1, by omega, x4⟩
      · rintro ⟨x1, x2, p, hp⟩
        refine ⟨x1, ?_, by omega, p, hp⟩
        rcases Int.lt_or_le q p with h | h
        · have := mulle (s := cmY s t) (x := q + 1) (y := p) hYb (by omega)
          rw [Int.mul_add, Int.mul_one] at this
          omega
        · have := mulle (s := cmY s t) (x := p) (y := q) hYb h
          omega
  · have e : cmE A s C B t D = true := decide_eq_true (.inr (.inr (.inl hz)))
    simp only [cmFst, cmBy, cmCnt, e, if_true]
    exact ⟨.inl rfl, fun n => ⟨fun h => by have := h.2.2.1; omega, fun h => absurd ⟨h.1.2.2.2, h.2.2.2.2⟩ (cm_none g3 g4 hz)⟩⟩

/-- A right range as a series upwards. -/
def sA (a b c : Int) : Int := uF (ofF a b c) (ofB a b c) (ofC a b c)
def sS (a b c : Int) : Int := uB (ofF a b c) (ofB a b c) (ofC a b c)
theorem up_ser {a b c : Int} (hr : Right a b c) : Ser (sA a b c) (sS a b c) (ofC a b c) := by
  by_cases hab : a ≤ b
  · obtain ⟨p1, p2, p3, p4, p5, _⟩ := parts hr hab
    obtain ⟨u1, u2⟩ := up_of hr hab
    have hl := hr.1
    exact .inr (by unfold sA sS; rw [u1, u2]; omega)
  · exact .inl (empty_of (c := c) hab).2.2
theorem up_ask {a b c : Int} (hr : Right a b c) : ofB a b c < 0 → ofC a b c ≠ 0 → I64 (ofC a b c - 1) ∧ I64 (ofB a b c * (ofC a b c - 1)) ∧ I64 (ofF a b c + ofB a b c * (ofC a b c - 1)) ∧ I64 (-ofB a b c) := fun h1 h2 => by
  have hab : a ≤ b := by
    by_cases hab : a ≤ b
    · exact hab
    · exact absurd (empty_of (c := c) hab).2.2 h2
  obtain ⟨p1, p2, p3, p4, p5, p6, p7, _⟩ := parts hr hab
  have hl := hr.1
  rw [p6] at h1 ⊢
  rw [p7, if_pos h1]
  have e : c * (ofC a b c - 1) = -(absI c * (ofC a b c - 1)) := by rw [absI_neg h1, Int.neg_mul, Int.neg_neg]
  have e2 := absI_neg h1
  rw [e]
  unfold I64
  omega
/-- The numbers of a right range. -/
def RIn (a b c n : Int) : Prop := SIn (sA a b c) (sS a b c) (ofC a b c) n
end Go.RX.Span

/- Intersect and Within of the program: the walks. -/
set_option linter.unusedVariables false
set_option linter.unusedSimpArgs false
set_option maxRecDepth 100000
namespace Go.RX.Span
open Go Go.RX

def ckd (a b c x y z : Int) : Int := if chk a b c ≠ 0 then chk a b c else chk x y z
noncomputable def c_checked : Con := fun args => match args with
  | [.agg [.lit (.int .i64 a), .lit (.int .i64 b), .lit (.int .i64 c)], .agg [.lit (.int .i64 x), .lit (.int .i64 y), .lit (.int .i64 z)]] =>
    .ask (I64 a ∧ I64 b ∧ I64 c ∧ I64 x ∧ I64 y ∧ I64 z) (.ret (.lit (.int .i64 (lk ckd a b c x y z))))
  | _ => .stuck 1
set_option maxRecDepth 100000 in
theorem t_checked (a b c x y z : Int) : conB Go.Proofs.Try.prog (conOf k8) noLoops 10 116 [.agg [.lit (.int .i64 a), .lit (.int .i64 b), .lit (.int .i64 c)], .agg [.lit (.int .i64 x), .lit (.int .i64 y), .lit (.int .i64 z)]] =
    T.ask (I64 a ∧ I64 b ∧ I64 c) (T.br (U.ne (lk chk a b c) (0 : Int)) (T.ret (SV.lit (Value.int IntKind.i64 (lk chk a b c)))) (T.ask (I64 x ∧ I64 y ∧ I64 z) (T.ret (SV.lit (Value.int
      IntKind.i64 (lk chk x y z)))))) := by kernel_rfl
theorem checked_ok : ConOK P 116 c_checked := con_of (allOK mixed k8_ok) 10 116 fun args r h => by
  unfold c_checked at h
  split at h
  · rename_i a b c x y z
    have hp := (T.is_ask h).1
    have h := (T.is_ask h).2
    obtain rfl := T.is_ret h
    rw [t_checked]
    obtain ⟨ha, hb, hc, hx, hy, hz⟩ := hp
    by_cases h1 : chk a b c = 0 <;> simp [T.All, U.ne_eq, lk_eq, ckd, h1, ha, hb, hc, hx, hy, hz]
  · exact h.elim

noncomputable abbrev ke : List (Nat × Con) := (116, c_checked) :: (117, c_common) :: (118, c_euclid) :: k8
theorem ke_ok : ∀ p ∈ ke, ConOK P p.1 p.2 := by
  intro p hp
  simp only [ke, List.mem_cons] at hp
  rcases hp with rfl | rfl | rfl | hp
  · exact checked_ok
  · exact common_ok
  · exact euclid_ok
  · exact k8_ok p (by simpa [k8] using hp)
theorem ckd_right {a b c x y z : Int} (h : ckd a b c x y z = 0) : Right a b c ∧ Right x y z := by
  unfold ckd at h
  by_cases h1 : chk a b c = 0
  · rw [if_neg (by simp [h1])] at h
    exact ⟨chk_zero.1 h1, chk_zero.1 h⟩
  · rw [if_pos h1] at h
    exact absurd h h1
end Go.RX.Span

/- Intersect and Within of the program: the walks. -/
set_option linter.unusedVariables false
set_option linter.unusedSimpArgs false
set_option maxRecDepth 100000
namespace Go.RX.Span
open Go Go.RX

def isF (a b c x y z : Int) : Int := cmFst (sA a b c) (sS a b c) (ofC a b c) (sA x y z) (sS x y z) (ofC x y z)
def isB (a b c x y z : Int) : Int := cmBy (sA a b c) (sS a b c) (ofC a b c) (sA x y z) (sS x y z) (ofC x y z)
def isC (a b c x y z : Int) : Int := cmCnt (sA a b c) (sS a b c) (ofC a b c) (sA x y z) (sS x y z) (ofC x y z)
def wiB (a b c x y z : Int) : Bool := if ckd a b c x y z ≠ 0 then false else decide (isC a b c x y z = ofC a b c)
def isL (a b c x y z : Int) : Int := if ckd a b c x y z ≠ 0 then 0 else nLow (kF (isF a b c x y z) (isB a b c x y z) (isC a b c x y z) c) (kB (isF a b c x y z) (isB a b c x y z) (isC a b c x y z) c) (isC a b c x y z)
def isH (a b c x y z : Int) : Int := if ckd a b c x y z ≠ 0 then 0 else nHigh (kF (isF a b c x y z) (isB a b c x y z) (isC a b c x y z) c) (kB (isF a b c x y z) (isB a b c x y z) (isC a b c x y z) c) (isC a b c x y z)
def isS (a b c x y z : Int) : Int := if ckd a b c x y z ≠ 0 then 0 else nStr (kF (isF a b c x y z) (isB a b c x y z) (isC a b c x y z) c) (kB (isF a b c x y z) (isB a b c x y z) (isC a b c x y z) c) (isC a b c x y z)
def isEr (a b c x y z : Int) : Int := if ckd a b c x y z ≠ 0 then ckd a b c x y z else nErr (kF (isF a b c x y z) (isB a b c x y z) (isC a b c x y z) c) (kB (isF a b c x y z) (isB a b c x y z) (isC a b c x y z) c) (isC a b c x y z)
theorem is_sw {a b c x y z : Int} (h : Right a b c) (h' : Right x y z) : Sw (isF a b c x y z) (isB a b c x y z) (isC a b c x y z) ∧ ∀ n, SIn (isF a b c x y z) (isB a b c x y z) (isC a b c x y z) n ↔ RIn a b c n ∧ RIn x y z n :=
  cm_set (up_ser h) (up_ser h')

theorem like_ask {F B C c : Int} (h : Sw F B C) : c < 0 → C ≠ 0 → I64 (C - 1) ∧ I64 (B * (C - 1)) ∧ I64 (F + B * (C - 1)) ∧ I64 (-B) := fun _ hC => by
  obtain ⟨h1, h2, h3, h4, h5⟩ := h.resolve_left hC
  have m0 := mulle (s := B) (x := 0) (y := C - 1) h2 (by omega)
  have m1 : 1 * (C - 1) ≤ B * (C - 1) := Int.mul_le_mul_of_nonneg_right h2 (by omega)
  rw [Int.mul_zero] at m0
  unfold I64
  omega
theorem norm_ask {F B C c : Int} (h : Sw F B C) : 0 < C → I64 (C - 1) ∧ I64 (kB F B C c * (C - 1)) ∧ I64 (kF F B C c + kB F B C c * (C - 1)) := fun hC => by
  obtain ⟨h1, h2, h3, h4, h5⟩ := h.resolve_left (by omega)
  have m0 := mulle (s := B) (x := 0) (y := C - 1) h2 (by omega)
  have m1 : 1 * (C - 1) ≤ B * (C - 1) := Int.mul_le_mul_of_nonneg_right h2 (by omega)
  rw [Int.mul_zero] at m0
  obtain ⟨k1, k2⟩ := like_bnd (f := F) (s := B) (C := C) (c := c) (by omega)
  unfold I64
  rcases k1 with k1 | k1 <;> rcases k2 with k2 | k2 <;> rw [k2, k1] <;> omega
noncomputable def c_Within : Con := fun args => match args with
  | [.agg [.lit (.int .i64 a), .lit (.int .i64 b), .lit (.int .i64 c)], .agg [.lit (.int .i64 x), .lit (.int .i64 y), .lit (.int .i64 z)]] =>
    .ask (I64 a ∧ I64 b ∧ I64 c ∧ I64 x ∧ I64 y ∧ I64 z) (.ret (.tup [.lit (.bool (lk wiB a b c x y z)), .lit (.int .i64 (lk ckd a b c x y z))]))
  | _ => .stuck 1
set_option maxRecDepth 100000 in
theorem t_Within (a b c x y z : Int) : conB Go.Proofs.Try.prog (conOf ke) noLoops 10 50 [.agg [.lit (.int .i64 a), .lit (.int .i64 b), .lit (.int .i64 c)], .agg [.lit (.int .i64 x), .lit (.int .i64 y), .lit (.int .i64 z)]] =
    T.ask (I64 a ∧ I64 b ∧ I64 c ∧ I64 x ∧ I64 y ∧ I64 z) (T.br (U.ne (lk ckd a b c x y z) (0 : Int)) (T.ret (SV.tup [SV.lit (Value.bool false), SV.lit (Value.int IntKind.i64 (lk ckd a
      b c x y z))])) (T.ask (a ≤ b → c ≠ (0 : Int) ∧ (-9223372036854775807 : Int) ≤ c ∧ b - a < (9223372036854775807 : Int) ∧ I64 a ∧ I64 b ∧ I64 c) (T.ask (lk ofB a b c < (0 : Int) → lk
      ofC a b c ≠ (0 : Int) → I64 (lk ofC a b c - (1 : Int)) ∧ I64 (lk ofB a b c * (lk ofC a b c - (1 : Int))) ∧ I64 (lk ofF a b c + lk ofB a b c * (lk ofC a b c - (1 : Int))) ∧ I64 (-lk
      ofB a b c)) (T.ask (x ≤ y → z ≠ (0 : Int) ∧ (-9223372036854775807 : Int) ≤ z ∧ y - x < (9223372036854775807 : Int) ∧ I64 x ∧ I64 y ∧ I64 z) (T.ask (lk ofB x y z < (0 : Int) → lk ofC
      x y z ≠ (0 : Int) → I64 (lk ofC x y z - (1 : Int)) ∧ I64 (lk ofB x y z * (lk ofC x y z - (1 : Int))) ∧ I64 (lk ofF x y z + lk ofB x y z * (lk ofC x y z - (1 : Int))) ∧ I64 (-lk ofB
      x y z)) (T.ask (Ser (lk uF (lk ofF a b c) (lk ofB a b c) (lk ofC a b c)) (lk uB (lk ofF a b c) (lk ofB a b c) (lk ofC a b c)) (lk ofC a b c) ∧ Ser (lk uF (lk ofF x y z) (lk ofB x y
      z) (lk ofC x y z)) (lk uB (lk ofF x y z) (lk ofB x y z) (lk ofC x y z)) (lk ofC x y z)) (T.ret (SV.tup [SV.lit (Value.bool (U.eq (lk cmCnt (lk uF (lk ofF a b c) (lk ofB a b c) (lk
      ofC a b c)) (lk uB (lk ofF a b c) (lk ofB a b c) (lk ofC a b c)) (lk ofC a b c) (lk uF (lk ofF x y z) (lk ofB x y z) (lk ofC x y z)) (lk uB (lk ofF x y z) (lk ofB x y z) (lk ofC x y
      z)) (lk ofC x y z)) (lk ofC a b c))), SV.lit (Value.int IntKind.i64 (0 : Int))])))))))) := by kernel_rfl
theorem Within_ok : ConOK P 50 c_Within := con_of (allOK mixed ke_ok) 10 50 fun args r h => by
  unfold c_Within at h
  split at h
  · rename_i a b c x y z
    have hp := (T.is_ask h).1
    have h := (T.is_ask h).2
    obtain rfl := T.is_ret h
    rw [t_Within]
    obtain ⟨ha, hb, hc, hx, hy, hz⟩ := hp
    simp only [lk_eq]
    refine ⟨⟨ha, hb, hc, hx, hy, hz⟩, fun h => ?_, fun h => ?_⟩
    · rw [U.ne_t] at h
      simp only [wiB, if_pos h]
      exact rfl
    · rw [U.ne_f] at h
      obtain ⟨r1, r2⟩ := ckd_right h
      refine ⟨of_ask r1 ha hb hc, up_ask r1, of_ask r2 hx hy hz, up_ask r2, ⟨up_ser r1, up_ser r2⟩, ?_⟩
      simp only [wiB, if_neg (show ¬ ckd a b c x y z ≠ 0 by simp [h]), U.eq_eq, h]
      exact rfl
  · exact h.elim

noncomputable def c_Intersect : Con := fun args => match args with
  | [.agg [.lit (.int .i64 a), .lit (.int .i64 b), .lit (.int .i64 c)], .agg [.lit (.int .i64 x), .lit (.int .i64 y), .lit (.int .i64 z)]] =>
    .ask (I64 a ∧ I64 b ∧ I64 c ∧ I64 x ∧ I64 y ∧ I64 z) (.ret (.tup [.agg [.lit (.int .i64 (lk isL a b c x y z)), .lit (.int .i64 (lk isH a b c x y z)), .lit (.int .i64 (lk isS a b c x y z))], .lit (.int .i64 (lk isEr a b c x y z))]))
  | _ => .stuck 1
set_option maxRecDepth 100000 in
theorem t_Intersect (a b c x y z : Int) : conB Go.Proofs.Try.prog (conOf ke) noLoops 10 48 [.agg [.lit (.int .i64 a), .lit (.int .i64 b), .lit (.int .i64 c)], .agg [.lit (.int .i64 x), .lit (.int .i64 y), .lit (.int .i64 z)]] =
    T.ask (I64 a ∧ I64 b ∧ I64 c ∧ I64 x ∧ I64 y ∧ I64 z) (T.br (U.ne (lk ckd a b c x y z) (0 : Int)) (T.ret (SV.tup [SV.agg [SV.lit (Value.int IntKind.i64 (0 : Int)), SV.lit (Value.int
      IntKind.i64 (0 : Int)), SV.lit (Value.int IntKind.i64 (0 : Int))], SV.lit (Value.int IntKind.i64 (lk ckd a b c x y z))])) (T.ask (a ≤ b → c ≠ (0 : Int) ∧ (-9223372036854775807 :
      Int) ≤ c ∧ b - a < (9223372036854775807 : Int) ∧ I64 a ∧ I64 b ∧ I64 c) (T.ask (lk ofB a b c < (0 : Int) → lk ofC a b c ≠ (0 : Int) → I64 (lk ofC a b c - (1 : Int)) ∧ I64 (lk ofB a
      b c * (lk ofC a b c - (1 : Int))) ∧ I64 (lk ofF a b c + lk ofB a b c * (lk ofC a b c - (1 : Int))) ∧ I64 (-lk ofB a b c)) (T.ask (x ≤ y → z ≠ (0 : Int) ∧ (-9223372036854775807 :
      Int) ≤ z ∧ y - x < (9223372036854775807 : Int) ∧ I64 x ∧ I64 y ∧ I64 z) (T.ask (lk ofB x y z < (0 : Int) → lk ofC x y z ≠ (0 : Int) → I64 (lk ofC x y z - (1 : Int)) ∧ I64 (lk ofB x
      y z * (lk ofC x y z - (1 : Int))) ∧ I64 (lk ofF x y z + lk ofB x y z * (lk ofC x y z - (1 : Int))) ∧ I64 (-lk ofB x y z)) (T.ask (Ser (lk uF (lk ofF a b c) (lk ofB a b c) (lk ofC a
      b c)) (lk uB (lk ofF a b c) (lk ofB a b c) (lk ofC a b c)) (lk ofC a b c) ∧ Ser (lk uF (lk ofF x y z) (lk ofB x y z) (lk ofC x y z)) (lk uB (lk ofF x y z) (lk ofB x y z) (lk ofC x y
      z)) (lk ofC x y z)) (T.ask (c < (0 : Int) → lk cmCnt (lk uF (lk ofF a b c) (lk ofB a b c) (lk ofC a b c)) (lk uB (lk ofF a b c) (lk ofB a b c) (lk ofC a b c)) (lk ofC a b c) (lk uF
      (lk ofF x y z) (lk ofB x y z) (lk ofC x y z)) (lk uB (lk ofF x y z) (lk ofB x y z) (lk ofC x y z)) (lk ofC x y z) ≠ (0 : Int) → I64 (lk cmCnt (lk uF (lk ofF a b c) (lk ofB a b c)
      (lk ofC a b c)) (lk uB (lk ofF a b c) (lk ofB a b c) (lk ofC a b c)) (lk ofC a b c) (lk uF (lk ofF x y z) (lk ofB x y z) (lk ofC x y z)) (lk uB (lk ofF x y z) (lk ofB x y z) (lk ofC
      x y z)) (lk ofC x y z) - (1 : Int)) ∧ I64 (lk cmBy (lk uF (lk ofF a b c) (lk ofB a b c) (lk ofC a b c)) (lk uB (lk ofF a b c) (lk ofB a b c) (lk ofC a b c)) (lk ofC a b c) (lk uF
      (lk ofF x y z) (lk ofB x y z) (lk ofC x y z)) (lk uB (lk ofF x y z) (lk ofB x y z) (lk ofC x y z)) (lk ofC x y z) * (lk cmCnt (lk uF (lk ofF a b c) (lk ofB a b c) (lk ofC a b c))
      (lk uB (lk ofF a b c) (lk ofB a b c) (lk ofC a b c)) (lk ofC a b c) (lk uF (lk ofF x y z) (lk ofB x y z) (lk ofC x y z)) (lk uB (lk ofF x y z) (lk ofB x y z) (lk ofC x y z)) (lk ofC
      x y z) - (1 : Int))) ∧ I64 (lk cmFst (lk uF (lk ofF a b c) (lk ofB a b c) (lk ofC a b c)) (lk uB (lk ofF a b c) (lk ofB a b c) (lk ofC a b c)) (lk ofC a b c) (lk uF (lk ofF x y z)
      (lk ofB x y z) (lk ofC x y z)) (lk uB (lk ofF x y z) (lk ofB x y z) (lk ofC x y z)) (lk ofC x y z) + lk cmBy (lk uF (lk ofF a b c) (lk ofB a b c) (lk ofC a b c)) (lk uB (lk ofF a b
      c) (lk ofB a b c) (lk ofC a b c)) (lk ofC a b c) (lk uF (lk ofF x y z) (lk ofB x y z) (lk ofC x y z)) (lk uB (lk ofF x y z) (lk ofB x y z) (lk ofC x y z)) (lk ofC x y z) * (lk cmCnt
      (lk uF (lk ofF a b c) (lk ofB a b c) (lk ofC a b c)) (lk uB (lk ofF a b c) (lk ofB a b c) (lk ofC a b c)) (lk ofC a b c) (lk uF (lk ofF x y z) (lk ofB x y z) (lk ofC x y z)) (lk uB
      (lk ofF x y z) (lk ofB x y z) (lk ofC x y z)) (lk ofC x y z) - (1 : Int))) ∧ I64 (-lk cmBy (lk uF (lk ofF a b c) (lk ofB a b c) (lk ofC a b c)) (lk uB (lk ofF a b c) (lk ofB a b c)
      (lk ofC a b c)) (lk ofC a b c) (lk uF (lk ofF x y z) (lk ofB x y z) (lk ofC x y z)) (lk uB (lk ofF x y z) (lk ofB x y z) (lk ofC x y z)) (lk ofC x y z))) (T.ask ((0 : Int) < lk
      cmCnt (lk uF (lk ofF a b c) (lk ofB a b c) (lk ofC a b c)) (lk uB (lk ofF a b c) (lk ofB a b c) (lk ofC a b c)) (lk ofC a b c) (lk uF (lk ofF x y z) (lk ofB x y z) (lk ofC x y z))
      (lk uB (lk ofF x y z) (lk ofB x y z) (lk ofC x y z)) (lk ofC x y z) → I64 (lk cmCnt (lk uF (lk ofF a b c) (lk ofB a b c) (lk ofC a b c)) (lk uB (lk ofF a b c) (lk ofB a b c) (lk ofC
      a b c)) (lk ofC a b c) (lk uF (lk ofF x y z) (lk ofB x y z) (lk ofC x y z)) (lk uB (lk ofF x y z) (lk ofB x y z) (lk ofC x y z)) (lk ofC x y z) - (1 : Int)) ∧ I64 (lk kB (lk cmFst
      (lk uF (lk ofF a b c) (lk ofB a b c) (lk ofC a b c)) (lk uB (lk ofF a b c) (lk ofB a b c) (lk ofC a b c)) (lk ofC a b c) (lk uF (lk ofF x y z) (lk ofB x y z) (lk ofC x y z)) (lk uB
      (lk ofF x y z) (lk ofB x y z) (lk ofC x y z)) (lk ofC x y z)) (lk cmBy (lk uF (lk ofF a b c) (lk ofB a b c) (lk ofC a b c)) (lk uB (lk ofF a b c) (lk ofB a b c) (lk ofC a b c)) (lk
      ofC a b c) (lk uF (lk ofF x y z) (lk ofB x y z) (lk ofC x y z)) (lk uB (lk ofF x y z) (lk ofB x y z) (lk ofC x y z)) (lk ofC x y z)) (lk cmCnt (lk uF (lk ofF a b c) (lk ofB a b c)
      (lk ofC a b c)) (lk uB (lk ofF a b c) (lk ofB a b c) (lk ofC a b c)) (lk ofC a b c) (lk uF (lk ofF x y z) (lk ofB x y z) (lk ofC x y z)) (lk uB (lk ofF x y z) (lk ofB x y z) (lk ofC
      x y z)) (lk ofC x y z)) c * (lk cmCnt (lk uF (lk ofF a b c) (lk ofB a b c) (lk ofC a b c)) (lk uB (lk ofF a b c) (lk ofB a b c) (lk ofC a b c)) (lk ofC a b c) (lk uF (lk ofF x y z)
      (lk ofB x y z) (lk ofC x y z)) (lk uB (lk ofF x y z) (lk ofB x y z) (lk ofC x y z)) (lk ofC x y z) - (1 : Int))) ∧ I64 (lk kF (lk cmFst (lk uF (lk ofF a b c) (lk ofB a b c) (lk ofC
      a b c)) (lk uB (lk ofF a b c) (lk ofB a b c) (lk ofC a b c)) (lk ofC a b c) (lk uF (lk ofF x y z) (lk ofB x y z) (lk ofC x y z)) (lk uB (lk ofF x y z) (lk ofB x y z) (lk ofC x y z))
      (lk ofC x y z)) (lk cmBy (lk uF (lk ofF a b c) (lk ofB a b c) (lk ofC a b c)) (lk uB (lk ofF a b c) (lk ofB a b c) (lk ofC a b c)) (lk ofC a b c) (lk uF (lk ofF x y z) (lk ofB x y
      z) (lk ofC x y z)) (lk uB (lk ofF x y z) (lk ofB x y z) (lk ofC x y z)) (lk ofC x y z)) (lk cmCnt (lk uF (lk ofF a b c) (lk ofB a b c) (lk ofC a b c)) (lk uB (lk ofF a b c) (lk ofB
      a b c) (lk ofC a b c)) (lk ofC a b c) (lk uF (lk ofF x y z) (lk ofB x y z) (lk ofC x y z)) (lk uB (lk ofF x y z) (lk ofB x y z) (lk ofC x y z)) (lk ofC x y z)) c + lk kB (lk cmFst
      (lk uF (lk ofF a b c) (lk ofB a b c) (lk ofC a b c)) (lk uB (lk ofF a b c) (lk ofB a b c) (lk ofC a b c)) (lk ofC a b c) (lk uF (lk ofF x y z) (lk ofB x y z) (lk ofC x y z)) (lk uB
      (lk ofF x y z) (lk ofB x y z) (lk ofC x y z)) (lk ofC x y z)) (lk cmBy (lk uF (lk ofF a b c) (lk ofB a b c) (lk ofC a b c)) (lk uB (lk ofF a b c) (lk ofB a b c) (lk ofC a b c)) (lk
      ofC a b c) (lk uF (lk ofF x y z) (lk ofB x y z) (lk ofC x y z)) (lk uB (lk ofF x y z) (lk ofB x y z) (lk ofC x y z)) (lk ofC x y z)) (lk cmCnt (lk uF (lk ofF a b c) (lk ofB a b c)
      (lk ofC a b c)) (lk uB (lk ofF a b c) (lk ofB a b c) (lk ofC a b c)) (lk ofC a b c) (lk uF (lk ofF x y z) (lk ofB x y z) (lk ofC x y z)) (lk uB (lk ofF x y z) (lk ofB x y z) (lk ofC
      x y z)) (lk ofC x y z)) c * (lk cmCnt (lk uF (lk ofF a b c) (lk ofB a b c) (lk ofC a b c)) (lk uB (lk ofF a b c) (lk ofB a b c) (lk ofC a b c)) (lk ofC a b c) (lk uF (lk ofF x y z)
      (lk ofB x y z) (lk ofC x y z)) (lk uB (lk ofF x y z) (lk ofB x y z) (lk ofC x y z)) (lk ofC x y z) - (1 : Int)))) (T.ret (SV.tup [SV.agg [SV.lit (Value.int IntKind.i64 (lk nLow (lk
      kF (lk cmFst (lk uF (lk ofF a b c) (lk ofB a b c) (lk ofC a b c)) (lk uB (lk ofF a b c) (lk ofB a b c) (lk ofC a b c)) (lk ofC a b c) (lk uF (lk ofF x y z) (lk ofB x y z) (lk ofC x
      y z)) (lk uB (lk ofF x y z) (lk ofB x y z) (lk ofC x y z)) (lk ofC x y z)) (lk cmBy (lk uF (lk ofF a b c) (lk ofB a b c) (lk ofC a b c)) (lk uB (lk ofF a b c) (lk ofB a b c) (lk ofC
      a b c)) (lk ofC a b c) (lk uF (lk ofF x y z) (lk ofB x y z) (lk ofC x y z)) (lk uB (lk ofF x y z) (lk ofB x y z) (lk ofC x y z)) (lk ofC x y z)) (lk cmCnt (lk uF (lk ofF a b c) (lk
      ofB a b c) (lk ofC a b c)) (lk uB (lk ofF a b c) (lk ofB a b c) (lk ofC a b c)) (lk ofC a b c) (lk uF (lk ofF x y z) (lk ofB x y z) (lk ofC x y z)) (lk uB (lk ofF x y z) (lk ofB x y
      z) (lk ofC x y z)) (lk ofC x y z)) c) (lk kB (lk cmFst (lk uF (lk ofF a b c) (lk ofB a b c) (lk ofC a b c)) (lk uB (lk ofF a b c) (lk ofB a b c) (lk ofC a b c)) (lk ofC a b c) (lk
      uF (lk ofF x y z) (lk ofB x y z) (lk ofC x y z)) (lk uB (lk ofF x y z) (lk ofB x y z) (lk ofC x y z)) (lk ofC x y z)) (lk cmBy (lk uF (lk ofF a b c) (lk ofB a b c) (lk ofC a b c))
      (lk uB (lk ofF a b c) (lk ofB a b c) (lk ofC a b c)) (lk ofC a b c) (lk uF (lk ofF x y z) (lk ofB x y z) (lk ofC x y z)) (lk uB (lk ofF x y z) (lk ofB x y z) (lk ofC x y z)) (lk ofC
      x y z)) (lk cmCnt (lk uF (lk ofF a b c) (lk ofB a b c) (lk ofC a b c)) (lk uB (lk ofF a b c) (lk ofB a b c) (lk ofC a b c)) (lk ofC a b c) (lk uF (lk ofF x y z) (lk ofB x y z) (lk
      ofC x y z)) (lk uB (lk ofF x y z) (lk ofB x y z) (lk ofC x y z)) (lk ofC x y z)) c) (lk cmCnt (lk uF (lk ofF a b c) (lk ofB a b c) (lk ofC a b c)) (lk uB (lk ofF a b c) (lk ofB a b
      c) (lk ofC a b c)) (lk ofC a b c) (lk uF (lk ofF x y z) (lk ofB x y z) (lk ofC x y z)) (lk uB (lk ofF x y z) (lk ofB x y z) (lk ofC x y z)) (lk ofC x y z)))), SV.lit (Value.int
      IntKind.i64 (lk nHigh (lk kF (lk cmFst (lk uF (lk ofF a b c) (lk ofB a b c) (lk ofC a b c)) (lk uB (lk ofF a b c) (lk ofB a b c) (lk ofC a b c)) (lk ofC a b c) (lk uF (lk ofF x y z)
      (lk ofB x y z) (lk ofC x y z)) (lk uB (lk ofF x y z) (lk ofB x y z) (lk ofC x y z)) (lk ofC x y z)) (lk cmBy (lk uF (lk ofF a b c) (lk ofB a b c) (lk ofC a b c)) (lk uB (lk ofF a b
      c) (lk ofB a b c) (lk ofC a b c)) (lk ofC a b c) (lk uF (lk ofF x y z) (lk ofB x y z) (lk ofC x y z)) (lk uB (lk ofF x y z) (lk ofB x y z) (lk ofC x y z)) (lk ofC x y z)) (lk cmCnt
      (lk uF (lk ofF a b c) (lk ofB a b c) (lk ofC a b c)) (lk uB (lk ofF a b c) (lk ofB a b c) (lk ofC a b c)) (lk ofC a b c) (lk uF (lk ofF x y z) (lk ofB x y z) (lk ofC x y z)) (lk uB
      (lk ofF x y z) (lk ofB x y z) (lk ofC x y z)) (lk ofC x y z)) c) (lk kB (lk cmFst (lk uF (lk ofF a b c) (lk ofB a b c) (lk ofC a b c)) (lk uB (lk ofF a b c) (lk ofB a b c) (lk ofC a
      b c)) (lk ofC a b c) (lk uF (lk ofF x y z) (lk ofB x y z) (lk ofC x y z)) (lk uB (lk ofF x y z) (lk ofB x y z) (lk ofC x y z)) (lk ofC x y z)) (lk cmBy (lk uF (lk ofF a b c) (lk ofB
      a b c) (lk ofC a b c)) (lk uB (lk ofF a b c) (lk ofB a b c) (lk ofC a b c)) (lk ofC a b c) (lk uF (lk ofF x y z) (lk ofB x y z) (lk ofC x y z)) (lk uB (lk ofF x y z) (lk ofB x y z)
      (lk ofC x y z)) (lk ofC x y z)) (lk cmCnt (lk uF (lk ofF a b c) (lk ofB a b c) (lk ofC a b c)) (lk uB (lk ofF a b c) (lk ofB a b c) (lk ofC a b c)) (lk ofC a b c) (lk uF (lk ofF x y
      z) (lk ofB x y z) (lk ofC x y z)) (lk uB (lk ofF x y z) (lk ofB x y z) (lk ofC x y z)) (lk ofC x y z)) c) (lk cmCnt (lk uF (lk ofF a b c) (lk ofB a b c) (lk ofC a b c)) (lk uB (lk
      ofF a b c) (lk ofB a b c) (lk ofC a b c)) (lk ofC a b c) (lk uF (lk ofF x y z) (lk ofB x y z) (lk ofC x y z)) (lk uB (lk ofF x y z) (lk ofB x y z) (lk ofC x y z)) (lk ofC x y z)))),
      SV.lit (Value.int IntKind.i64 (lk nStr (lk kF (lk cmFst (lk uF (lk ofF a b c) (lk ofB a b c) (lk ofC a b c)) (lk uB (lk ofF a b c) (lk ofB a b c) (lk ofC a b c)) (lk ofC a b c) (lk
      uF (lk ofF x y z) (lk ofB x y z) (lk ofC x y z)) (lk uB (lk ofF x y z) (lk ofB x y z) (lk ofC x y z)) (lk ofC x y z)) (lk cmBy (lk uF (lk ofF a b c) (lk ofB a b c) (lk ofC a b c))
      (lk uB (lk ofF a b c) (lk ofB a b c) (lk ofC a b c)) (lk ofC a b c) (lk uF (lk ofF x y z) (lk ofB x y z) (lk ofC x y z)) (lk uB (lk ofF x y z) (lk ofB x y z) (lk ofC x y z)) (lk ofC
      x y z)) (lk cmCnt (lk uF (lk ofF a b c) (lk ofB a b c) (lk ofC a b c)) (lk uB (lk ofF a b c) (lk ofB a b c) (lk ofC a b c)) (lk ofC a b c) (lk uF (lk ofF x y z) (lk ofB x y z) (lk
      ofC x y z)) (lk uB (lk ofF x y z) (lk ofB x y z) (lk ofC x y z)) (lk ofC x y z)) c) (lk kB (lk cmFst (lk uF (lk ofF a b c) (lk ofB a b c) (lk ofC a b c)) (lk uB (lk ofF a b c) (lk
      ofB a b c) (lk ofC a b c)) (lk ofC a b c) (lk uF (lk ofF x y z) (lk ofB x y z) (lk ofC x y z)) (lk uB (lk ofF x y z) (lk ofB x y z) (lk ofC x y z)) (lk ofC x y z)) (lk cmBy (lk uF
      (lk ofF a b c) (lk ofB a b c) (lk ofC a b c)) (lk uB (lk ofF a b c) (lk ofB a b c) (lk ofC a b c)) (lk ofC a b c) (lk uF (lk ofF x y z) (lk ofB x y z) (lk ofC x y z)) (lk uB (lk ofF
      x y z) (lk ofB x y z) (lk ofC x y z)) (lk ofC x y z)) (lk cmCnt (lk uF (lk ofF a b c) (lk ofB a b c) (lk ofC a b c)) (lk uB (lk ofF a b c) (lk ofB a b c) (lk ofC a b c)) (lk ofC a b
      c) (lk uF (lk ofF x y z) (lk ofB x y z) (lk ofC x y z)) (lk uB (lk ofF x y z) (lk ofB x y z) (lk ofC x y z)) (lk ofC x y z)) c) (lk cmCnt (lk uF (lk ofF a b c) (lk ofB a b c) (lk
      ofC a b c)) (lk uB (lk ofF a b c) (lk ofB a b c) (lk ofC a b c)) (lk ofC a b c) (lk uF (lk ofF x y z) (lk ofB x y z) (lk ofC x y z)) (lk uB (lk ofF x y z) (lk ofB x y z) (lk ofC x y
      z)) (lk ofC x y z))))], SV.lit (Value.int IntKind.i64 (lk nErr (lk kF (lk cmFst (lk uF (lk ofF a b c) (lk ofB a b c) (lk ofC a b c)) (lk uB (lk ofF a b c) (lk ofB a b c) (lk ofC a b
      c)) (lk ofC a b c) (lk uF (lk ofF x y z) (lk ofB x y z) (lk ofC x y z)) (lk uB (lk ofF x y z) (lk ofB x y z) (lk ofC x y z)) (lk ofC x y z)) (lk cmBy (lk uF (lk ofF a b c) (lk ofB a
      b c) (lk ofC a b c)) (lk uB (lk ofF a b c) (lk ofB a b c) (lk ofC a b c)) (lk ofC a b c) (lk uF (lk ofF x y z) (lk ofB x y z) (lk ofC x y z)) (lk uB (lk ofF x y z) (lk ofB x y z)
      (lk ofC x y z)) (lk ofC x y z)) (lk cmCnt (lk uF (lk ofF a b c) (lk ofB a b c) (lk ofC a b c)) (lk uB (lk ofF a b c) (lk ofB a b c) (lk ofC a b c)) (lk ofC a b c) (lk uF (lk ofF x y
      z) (lk ofB x y z) (lk ofC x y z)) (lk uB (lk ofF x y z) (lk ofB x y z) (lk ofC x y z)) (lk ofC x y z)) c) (lk kB (lk cmFst (lk uF (lk ofF a b c) (lk ofB a b c) (lk ofC a b c)) (lk
      uB (lk ofF a b c) (lk ofB a b c) (lk ofC a b c)) (lk ofC a b c) (lk uF (lk ofF x y z) (lk ofB x y z) (lk ofC x y z)) (lk uB (lk ofF x y z) (lk ofB x y z) (lk ofC x y z)) (lk ofC x y
      z)) (lk cmBy (lk uF (lk ofF a b c) (lk ofB a b c) (lk ofC a b c)) (lk uB (lk ofF a b c) (lk ofB a b c) (lk ofC a b c)) (lk ofC a b c) (lk uF (lk ofF x y z) (lk ofB x y z) (lk ofC x
      y z)) (lk uB (lk ofF x y z) (lk ofB x y z) (lk ofC x y z)) (lk ofC x y z)) (lk cmCnt (lk uF (lk ofF a b c) (lk ofB a b c) (lk ofC a b c)) (lk uB (lk ofF a b c) (lk ofB a b c) (lk
      ofC a b c)) (lk ofC a b c) (lk uF (lk ofF x y z) (lk ofB x y z) (lk ofC x y z)) (lk uB (lk ofF x y z) (lk ofB x y z) (lk ofC x y z)) (lk ofC x y z)) c) (lk cmCnt (lk uF (lk ofF a b
      c) (lk ofB a b c) (lk ofC a b c)) (lk uB (lk ofF a b c) (lk ofB a b c) (lk ofC a b c)) (lk ofC a b c) (lk uF (lk ofF x y z) (lk ofB x y z) (lk ofC x y z)) (lk uB (lk ofF x y z) (lk
      ofB x y z) (lk ofC x y z)) (lk ofC x y z))))])))))))))) := by kernel_rfl
theorem Intersect_ok : ConOK P 48 c_Intersect := con_of (allOK mixed ke_ok) 10 48 fun args r h => by
  unfold c_Intersect at h
  split at h
  · rename_i a b c x y z
    have hp := (T.is_ask h).1
    have h := (T.is_ask h).2
    obtain rfl := T.is_ret h
    rw [t_Intersect]
    obtain ⟨ha, hb, hc, hx, hy, hz⟩ := hp
    simp only [lk_eq]
    refine ⟨⟨ha, hb, hc, hx, hy, hz⟩, fun h => ?_, fun h => ?_⟩
    · rw [U.ne_t] at h
      simp only [isL, isH, isS, isEr, if_pos h]
      exact rfl
    · rw [U.ne_f] at h
      obtain ⟨r1, r2⟩ := ckd_right h
      have hn : ¬ ckd a b c x y z ≠ 0 := by simp [h]
      have hsw := (is_sw r1 r2).1
      refine ⟨of_ask r1 ha hb hc, up_ask r1, of_ask r2 hx hy hz, up_ask r2, ⟨up_ser r1, up_ser r2⟩, ?_⟩
      refine ⟨like_ask hsw, norm_ask hsw, ?_⟩
      simp only [isL, isH, isS, isEr, if_neg hn]
      exact rfl
  · exact h.elim
end Go.RX.Span

/- Hull of the program: the walk. -/
set_option linter.unusedVariables false
set_option linter.unusedSimpArgs false
set_option maxRecDepth 100000
namespace Go.RX.Span
open Go Go.RX

theorem eu_le {a b : Int} (ha : 0 ≤ a) (hb : 1 ≤ b) : 1 ≤ euG a b ∧ euG a b ≤ b ∧ euG a b ∣ a ∧ euG a b ∣ b ∧ ∀ d : Int, d ∣ a → d ∣ b → d ∣ euG a b := by
  obtain ⟨h1, _, _⟩ := eu_spec (a := a) (b := b) ha (by omega)
  have hpos : 0 < Int.gcd a b := Int.gcd_pos_of_ne_zero_right a (by omega)
  have hd : euG a b ∣ b := by rw [h1]; exact Int.gcd_dvd_right a b
  refine ⟨by rw [h1]; omega, Int.le_of_dvd (by omega) hd, by rw [h1]; exact Int.gcd_dvd_left a b, hd, fun d h2 h3 => ?_⟩
  rw [h1]
  exact Int.dvd_coe_gcd h2 h3
/-- The step of a hull: by the distance of the firsts, and the steps. -/
def huD (A B : Int) : Int := max (A - B) (B - A)
def hu1 (A s C B : Int) : Int := if C > 1 then euG (huD A B) s else huD A B
def hu2 (A s C B t D : Int) : Int := if D > 1 then euG (hu1 A s C B) t else hu1 A s C B
def huX (A s C B t D : Int) : Int := max (sLast A s C) (sLast B t D)
def huF (A s C B t D : Int) : Int := if C = 0 then B else if D = 0 then A else min A B
def huB (A s C B t D : Int) : Int := if C = 0 then t else if D = 0 then s else if hu2 A s C B t D = 0 then 1 else hu2 A s C B t D
def huC (A s C B t D : Int) : Int := if C = 0 then D else if D = 0 then C else if hu2 A s C B t D = 0 then 1 else (huX A s C B t D - min A B).tdiv (hu2 A s C B t D) + 1
def haF (a b c x y z : Int) : Int := huF (sA a b c) (sS a b c) (ofC a b c) (sA x y z) (sS x y z) (ofC x y z)
def haB (a b c x y z : Int) : Int := huB (sA a b c) (sS a b c) (ofC a b c) (sA x y z) (sS x y z) (ofC x y z)
def haC (a b c x y z : Int) : Int := huC (sA a b c) (sS a b c) (ofC a b c) (sA x y z) (sS x y z) (ofC x y z)
def hlL (a b c x y z : Int) : Int := if ckd a b c x y z ≠ 0 then 0 else nLow (haF a b c x y z) (haB a b c x y z) (haC a b c x y z)
def hlH (a b c x y z : Int) : Int := if ckd a b c x y z ≠ 0 then 0 else nHigh (haF a b c x y z) (haB a b c x y z) (haC a b c x y z)
def hlS (a b c x y z : Int) : Int := if ckd a b c x y z ≠ 0 then 0 else nStr (haF a b c x y z) (haB a b c x y z) (haC a b c x y z)
def hlE (a b c x y z : Int) : Int := if ckd a b c x y z ≠ 0 then ckd a b c x y z else nErr (haF a b c x y z) (haB a b c x y z) (haC a b c x y z)

noncomputable abbrev l49 : List (Nat × Loops) := [(49, [(12, .un 3)])] --%K
theorem l49_ok : ∀ p ∈ l49, LoopsOK P p.2 (bodyOf P p.1) := by
  intro p hp
  simp only [l49, List.mem_singleton] at hp
  subst hp
  exact loopsOK_un fun q hq => by simp only [List.mem_singleton] at hq; subst hq; exact ⟨3, rfl⟩
noncomputable def c_Hull : Con := fun args => match args with
  | [.agg [.lit (.int .i64 a), .lit (.int .i64 b), .lit (.int .i64 c)], .agg [.lit (.int .i64 x), .lit (.int .i64 y), .lit (.int .i64 z)]] =>
    .ask (I64 a ∧ I64 b ∧ I64 c ∧ I64 x ∧ I64 y ∧ I64 z) (.ret (.tup [.agg [.lit (.int .i64 (lk hlL a b c x y z)), .lit (.int .i64 (lk hlH a b c x y z)), .lit (.int .i64 (lk hlS a b c x y z))], .lit (.int .i64 (lk hlE a b c x y z))]))
  | _ => .stuck 1
set_option maxRecDepth 100000 in
theorem t_Hull (a b c x y z : Int) : conB Go.Proofs.Try.prog (conOf ke) (loopsOf l49) 10 49 [.agg [.lit (.int .i64 a), .lit (.int .i64 b), .lit (.int .i64 c)], .agg [.lit (.int .i64 x), .lit (.int .i64 y), .lit (.int .i64 z)]] =
    T.ask (I64 a ∧ I64 b ∧ I64 c ∧ I64 x ∧ I64 y ∧ I64 z) (T.br (U.ne (lk ckd a b c x y z) (0 : Int)) (T.ret (SV.tup [SV.agg [SV.lit (Value.int IntKind.i64 (0 : Int)), SV.lit (Value.int
      IntKind.i64 (0 : Int)), SV.lit (Value.int IntKind.i64 (0 : Int))], SV.lit (Value.int IntKind.i64 (lk ckd a b c x y z))])) (T.ask (a ≤ b → c ≠ (0 : Int) ∧ (-9223372036854775807 :
      Int) ≤ c ∧ b - a < (9223372036854775807 : Int) ∧ I64 a ∧ I64 b ∧ I64 c) (T.ask (lk ofB a b c < (0 : Int) → lk ofC a b c ≠ (0 : Int) → I64 (lk ofC a b c - (1 : Int)) ∧ I64 (lk ofB a
      b c * (lk ofC a b c - (1 : Int))) ∧ I64 (lk ofF a b c + lk ofB a b c * (lk ofC a b c - (1 : Int))) ∧ I64 (-lk ofB a b c)) (T.ask (x ≤ y → z ≠ (0 : Int) ∧ (-9223372036854775807 :
      Int) ≤ z ∧ y - x < (9223372036854775807 : Int) ∧ I64 x ∧ I64 y ∧ I64 z) (T.ask (lk ofB x y z < (0 : Int) → lk ofC x y z ≠ (0 : Int) → I64 (lk ofC x y z - (1 : Int)) ∧ I64 (lk ofB x
      y z * (lk ofC x y z - (1 : Int))) ∧ I64 (lk ofF x y z + lk ofB x y z * (lk ofC x y z - (1 : Int))) ∧ I64 (-lk ofB x y z)) (T.br (U.eq (lk ofC a b c) (0 : Int)) (T.ask ((0 : Int) <
      lk ofC x y z → I64 (lk ofC x y z - (1 : Int)) ∧ I64 (lk uB (lk ofF x y z) (lk ofB x y z) (lk ofC x y z) * (lk ofC x y z - (1 : Int))) ∧ I64 (lk uF (lk ofF x y z) (lk ofB x y z) (lk
      ofC x y z) + lk uB (lk ofF x y z) (lk ofB x y z) (lk ofC x y z) * (lk ofC x y z - (1 : Int)))) (T.ret (SV.tup [SV.agg [SV.lit (Value.int IntKind.i64 (lk nLow (lk uF (lk ofF x y z)
      (lk ofB x y z) (lk ofC x y z)) (lk uB (lk ofF x y z) (lk ofB x y z) (lk ofC x y z)) (lk ofC x y z))), SV.lit (Value.int IntKind.i64 (lk nHigh (lk uF (lk ofF x y z) (lk ofB x y z)
      (lk ofC x y z)) (lk uB (lk ofF x y z) (lk ofB x y z) (lk ofC x y z)) (lk ofC x y z))), SV.lit (Value.int IntKind.i64 (lk nStr (lk uF (lk ofF x y z) (lk ofB x y z) (lk ofC x y z))
      (lk uB (lk ofF x y z) (lk ofB x y z) (lk ofC x y z)) (lk ofC x y z)))], SV.lit (Value.int IntKind.i64 (lk nErr (lk uF (lk ofF x y z) (lk ofB x y z) (lk ofC x y z)) (lk uB (lk ofF x
      y z) (lk ofB x y z) (lk ofC x y z)) (lk ofC x y z)))]))) (T.br (U.eq (lk ofC x y z) (0 : Int)) (T.ask ((0 : Int) < lk ofC a b c → I64 (lk ofC a b c - (1 : Int)) ∧ I64 (lk uB (lk ofF
      a b c) (lk ofB a b c) (lk ofC a b c) * (lk ofC a b c - (1 : Int))) ∧ I64 (lk uF (lk ofF a b c) (lk ofB a b c) (lk ofC a b c) + lk uB (lk ofF a b c) (lk ofB a b c) (lk ofC a b c) *
      (lk ofC a b c - (1 : Int)))) (T.ret (SV.tup [SV.agg [SV.lit (Value.int IntKind.i64 (lk nLow (lk uF (lk ofF a b c) (lk ofB a b c) (lk ofC a b c)) (lk uB (lk ofF a b c) (lk ofB a b c)
      (lk ofC a b c)) (lk ofC a b c))), SV.lit (Value.int IntKind.i64 (lk nHigh (lk uF (lk ofF a b c) (lk ofB a b c) (lk ofC a b c)) (lk uB (lk ofF a b c) (lk ofB a b c) (lk ofC a b c))
      (lk ofC a b c))), SV.lit (Value.int IntKind.i64 (lk nStr (lk uF (lk ofF a b c) (lk ofB a b c) (lk ofC a b c)) (lk uB (lk ofF a b c) (lk ofB a b c) (lk ofC a b c)) (lk ofC a b c)))],
      SV.lit (Value.int IntKind.i64 (lk nErr (lk uF (lk ofF a b c) (lk ofB a b c) (lk ofC a b c)) (lk uB (lk ofF a b c) (lk ofB a b c) (lk ofC a b c)) (lk ofC a b c)))]))) (T.ask (I64 (lk
      ofC a b c - (1 : Int)) ∧ I64 (lk uB (lk ofF a b c) (lk ofB a b c) (lk ofC a b c) * (lk ofC a b c - (1 : Int))) ∧ I64 (lk uF (lk ofF a b c) (lk ofB a b c) (lk ofC a b c) + lk uB (lk
      ofF a b c) (lk ofB a b c) (lk ofC a b c) * (lk ofC a b c - (1 : Int)))) (T.ask (I64 (lk ofC x y z - (1 : Int)) ∧ I64 (lk uB (lk ofF x y z) (lk ofB x y z) (lk ofC x y z) * (lk ofC x
      y z - (1 : Int))) ∧ I64 (lk uF (lk ofF x y z) (lk ofB x y z) (lk ofC x y z) + lk uB (lk ofF x y z) (lk ofB x y z) (lk ofC x y z) * (lk ofC x y z - (1 : Int)))) (T.br (U.gt (lk ofC a
      b c) (1 : Int)) (T.ask ((0 : Int) ≤ U.mm true (U.sub IntKind.i64 (lk uF (lk ofF a b c) (lk ofB a b c) (lk ofC a b c)) (lk uF (lk ofF x y z) (lk ofB x y z) (lk ofC x y z))) (U.sub
      IntKind.i64 (lk uF (lk ofF x y z) (lk ofB x y z) (lk ofC x y z)) (lk uF (lk ofF a b c) (lk ofB a b c) (lk ofC a b c))) ∧ U.mm true (U.sub IntKind.i64 (lk uF (lk ofF a b c) (lk ofB a
      b c) (lk ofC a b c)) (lk uF (lk ofF x y z) (lk ofB x y z) (lk ofC x y z))) (U.sub IntKind.i64 (lk uF (lk ofF x y z) (lk ofB x y z) (lk ofC x y z)) (lk uF (lk ofF a b c) (lk ofB a b
      c) (lk ofC a b c))) ≤ (4000000 : Int) ∧ (0 : Int) ≤ lk uB (lk ofF a b c) (lk ofB a b c) (lk ofC a b c) ∧ lk uB (lk ofF a b c) (lk ofB a b c) (lk ofC a b c) ≤ (4000000 : Int)) (T.br
      (U.gt (lk ofC x y z) (1 : Int)) (T.ask ((0 : Int) ≤ lk euG (U.mm true (U.sub IntKind.i64 (lk uF (lk ofF a b c) (lk ofB a b c) (lk ofC a b c)) (lk uF (lk ofF x y z) (lk ofB x y z)
      (lk ofC x y z))) (U.sub IntKind.i64 (lk uF (lk ofF x y z) (lk ofB x y z) (lk ofC x y z)) (lk uF (lk ofF a b c) (lk ofB a b c) (lk ofC a b c)))) (lk uB (lk ofF a b c) (lk ofB a b c)
      (lk ofC a b c)) ∧ lk euG (U.mm true (U.sub IntKind.i64 (lk uF (lk ofF a b c) (lk ofB a b c) (lk ofC a b c)) (lk uF (lk ofF x y z) (lk ofB x y z) (lk ofC x y z))) (U.sub IntKind.i64
      (lk uF (lk ofF x y z) (lk ofB x y z) (lk ofC x y z)) (lk uF (lk ofF a b c) (lk ofB a b c) (lk ofC a b c)))) (lk uB (lk ofF a b c) (lk ofB a b c) (lk ofC a b c)) ≤ (4000000 : Int) ∧
      (0 : Int) ≤ lk uB (lk ofF x y z) (lk ofB x y z) (lk ofC x y z) ∧ lk uB (lk ofF x y z) (lk ofB x y z) (lk ofC x y z) ≤ (4000000 : Int)) (T.br (U.eq (lk euG (lk euG (U.mm true (U.sub
      IntKind.i64 (lk uF (lk ofF a b c) (lk ofB a b c) (lk ofC a b c)) (lk uF (lk ofF x y z) (lk ofB x y z) (lk ofC x y z))) (U.sub IntKind.i64 (lk uF (lk ofF x y z) (lk ofB x y z) (lk
      ofC x y z)) (lk uF (lk ofF a b c) (lk ofB a b c) (lk ofC a b c)))) (lk uB (lk ofF a b c) (lk ofB a b c) (lk ofC a b c))) (lk uB (lk ofF x y z) (lk ofB x y z) (lk ofC x y z))) (0 :
      Int)) (T.ask ((0 : Int) < (1 : Int) → I64 ((1 : Int) - (1 : Int)) ∧ I64 ((1 : Int) * ((1 : Int) - (1 : Int))) ∧ I64 (U.mm false (lk uF (lk ofF a b c) (lk ofB a b c) (lk ofC a b c))
      (lk uF (lk ofF x y z) (lk ofB x y z) (lk ofC x y z)) + (1 : Int) * ((1 : Int) - (1 : Int)))) (T.ret (SV.tup [SV.agg [SV.lit (Value.int IntKind.i64 (lk nLow (U.mm false (lk uF (lk
      ofF a b c) (lk ofB a b c) (lk ofC a b c)) (lk uF (lk ofF x y z) (lk ofB x y z) (lk ofC x y z))) (1 : Int) (1 : Int))), SV.lit (Value.int IntKind.i64 (lk nHigh (U.mm false (lk uF (lk
      ofF a b c) (lk ofB a b c) (lk ofC a b c)) (lk uF (lk ofF x y z) (lk ofB x y z) (lk ofC x y z))) (1 : Int) (1 : Int))), SV.lit (Value.int IntKind.i64 (lk nStr (U.mm false (lk uF (lk
      ofF a b c) (lk ofB a b c) (lk ofC a b c)) (lk uF (lk ofF x y z) (lk ofB x y z) (lk ofC x y z))) (1 : Int) (1 : Int)))], SV.lit (Value.int IntKind.i64 (lk nErr (U.mm false (lk uF (lk
      ofF a b c) (lk ofB a b c) (lk ofC a b c)) (lk uF (lk ofF x y z) (lk ofB x y z) (lk ofC x y z))) (1 : Int) (1 : Int)))]))) (T.ask (lk euG (lk euG (U.mm true (U.sub IntKind.i64 (lk uF
      (lk ofF a b c) (lk ofB a b c) (lk ofC a b c)) (lk uF (lk ofF x y z) (lk ofB x y z) (lk ofC x y z))) (U.sub IntKind.i64 (lk uF (lk ofF x y z) (lk ofB x y z) (lk ofC x y z)) (lk uF
      (lk ofF a b c) (lk ofB a b c) (lk ofC a b c)))) (lk uB (lk ofF a b c) (lk ofB a b c) (lk ofC a b c))) (lk uB (lk ofF x y z) (lk ofB x y z) (lk ofC x y z)) ≠ (0 : Int)) (T.ask ((0 :
      Int) < U.add IntKind.i64 (U.quo IntKind.i64 (U.sub IntKind.i64 (U.mm true (lk sLast (lk uF (lk ofF a b c) (lk ofB a b c) (lk ofC a b c)) (lk uB (lk ofF a b c) (lk ofB a b c) (lk ofC
      a b c)) (lk ofC a b c)) (lk sLast (lk uF (lk ofF x y z) (lk ofB x y z) (lk ofC x y z)) (lk uB (lk ofF x y z) (lk ofB x y z) (lk ofC x y z)) (lk ofC x y z))) (U.mm false (lk uF (lk
      ofF a b c) (lk ofB a b c) (lk ofC a b c)) (lk uF (lk ofF x y z) (lk ofB x y z) (lk ofC x y z)))) (lk euG (lk euG (U.mm true (U.sub IntKind.i64 (lk uF (lk ofF a b c) (lk ofB a b c)
      (lk ofC a b c)) (lk uF (lk ofF x y z) (lk ofB x y z) (lk ofC x y z))) (U.sub IntKind.i64 (lk uF (lk ofF x y z) (lk ofB x y z) (lk ofC x y z)) (lk uF (lk ofF a b c) (lk ofB a b c)
      (lk ofC a b c)))) (lk uB (lk ofF a b c) (lk ofB a b c) (lk ofC a b c))) (lk uB (lk ofF x y z) (lk ofB x y z) (lk ofC x y z)))) (1 : Int) → I64 (U.add IntKind.i64 (U.quo IntKind.i64
      (U.sub IntKind.i64 (U.mm true (lk sLast (lk uF (lk ofF a b c) (lk ofB a b c) (lk ofC a b c)) (lk uB (lk ofF a b c) (lk ofB a b c) (lk ofC a b c)) (lk ofC a b c)) (lk sLast (lk uF
      (lk ofF x y z) (lk ofB x y z) (lk ofC x y z)) (lk uB (lk ofF x y z) (lk ofB x y z) (lk ofC x y z)) (lk ofC x y z))) (U.mm false (lk uF (lk ofF a b c) (lk ofB a b c) (lk ofC a b c))
      (lk uF (lk ofF x y z) (lk ofB x y z) (lk ofC x y z)))) (lk euG (lk euG (U.mm true (U.sub IntKind.i64 (lk uF (lk ofF a b c) (lk ofB a b c) (lk ofC a b c)) (lk uF (lk ofF x y z) (lk
      ofB x y z) (lk ofC x y z))) (U.sub IntKind.i64 (lk uF (lk ofF x y z) (lk ofB x y z) (lk ofC x y z)) (lk uF (lk ofF a b c) (lk ofB a b c) (lk ofC a b c)))) (lk uB (lk ofF a b c) (lk
      ofB a b c) (lk ofC a b c))) (lk uB (lk ofF x y z) (lk ofB x y z) (lk ofC x y z)))) (1 : Int) - (1 : Int)) ∧ I64 (lk euG (lk euG (U.mm true (U.sub IntKind.i64 (lk uF (lk ofF a b c)
      (lk ofB a b c) (lk ofC a b c)) (lk uF (lk ofF x y z) (lk ofB x y z) (lk ofC x y z))) (U.sub IntKind.i64 (lk uF (lk ofF x y z) (lk ofB x y z) (lk ofC x y z)) (lk uF (lk ofF a b c)
      (lk ofB a b c) (lk ofC a b c)))) (lk uB (lk ofF a b c) (lk ofB a b c) (lk ofC a b c))) (lk uB (lk ofF x y z) (lk ofB x y z) (lk ofC x y z)) * (U.add IntKind.i64 (U.quo IntKind.i64
      (U.sub IntKind.i64 (U.mm true (lk sLast (lk uF (lk ofF a b c) (lk ofB a b c) (lk ofC a b c)) (lk uB (lk ofF a b c) (lk ofB a b c) (lk ofC a b c)) (lk ofC a b c)) (lk sLast (lk uF
      (lk ofF x y z) (lk ofB x y z) (lk ofC x y z)) (lk uB (lk ofF x y z) (lk ofB x y z) (lk ofC x y z)) (lk ofC x y z))) (U.mm false (lk uF (lk ofF a b c) (lk ofB a b c) (lk ofC a b c))
      (lk uF (lk ofF x y z) (lk ofB x y z) (lk ofC x y z)))) (lk euG (lk euG (U.mm true (U.sub IntKind.i64 (lk uF (lk ofF a b c) (lk ofB a b c) (lk ofC a b c)) (lk uF (lk ofF x y z) (lk
      ofB x y z) (lk ofC x y z))) (U.sub IntKind.i64 (lk uF (lk ofF x y z) (lk ofB x y z) (lk ofC x y z)) (lk uF (lk ofF a b c) (lk ofB a b c) (lk ofC a b c)))) (lk uB (lk ofF a b c) (lk
      ofB a b c) (lk ofC a b c))) (lk uB (lk ofF x y z) (lk ofB x y z) (lk ofC x y z)))) (1 : Int) - (1 : Int))) ∧ I64 (U.mm false (lk uF (lk ofF a b c) (lk ofB a b c) (lk ofC a b c)) (lk
      uF (lk ofF x y z) (lk ofB x y z) (lk ofC x y z)) + lk euG (lk euG (U.mm true (U.sub IntKind.i64 (lk uF (lk ofF a b c) (lk ofB a b c) (lk ofC a b c)) (lk uF (lk ofF x y z) (lk ofB x
      y z) (lk ofC x y z))) (U.sub IntKind.i64 (lk uF (lk ofF x y z) (lk ofB x y z) (lk ofC x y z)) (lk uF (lk ofF a b c) (lk ofB a b c) (lk ofC a b c)))) (lk uB (lk ofF a b c) (lk ofB a
      b c) (lk ofC a b c))) (lk uB (lk ofF x y z) (lk ofB x y z) (lk ofC x y z)) * (U.add IntKind.i64 (U.quo IntKind.i64 (U.sub IntKind.i64 (U.mm true (lk sLast (lk uF (lk ofF a b c) (lk
      ofB a b c) (lk ofC a b c)) (lk uB (lk ofF a b c) (lk ofB a b c) (lk ofC a b c)) (lk ofC a b c)) (lk sLast (lk uF (lk ofF x y z) (lk ofB x y z) (lk ofC x y z)) (lk uB (lk ofF x y z)
      (lk ofB x y z) (lk ofC x y z)) (lk ofC x y z))) (U.mm false (lk uF (lk ofF a b c) (lk ofB a b c) (lk ofC a b c)) (lk uF (lk ofF x y z) (lk ofB x y z) (lk ofC x y z)))) (lk euG (lk
      euG (U.mm true (U.sub IntKind.i64 (lk uF (lk ofF a b c) (lk ofB a b c) (lk ofC a b c)) (lk uF (lk ofF x y z) (lk ofB x y z) (lk ofC x y z))) (U.sub IntKind.i64 (lk uF (lk ofF x y z)
      (lk ofB x y z) (lk ofC x y z)) (lk uF (lk ofF a b c) (lk ofB a b c) (lk ofC a b c)))) (lk uB (lk ofF a b c) (lk ofB a b c) (lk ofC a b c))) (lk uB (lk ofF x y z) (lk ofB x y z) (lk
      ofC x y z)))) (1 : Int) - (1 : Int)))) (T.ret (SV.tup [SV.agg [SV.lit (Value.int IntKind.i64 (lk nLow (U.mm false (lk uF (lk ofF a b c) (lk ofB a b c) (lk ofC a b c)) (lk uF (lk ofF
      x y z) (lk ofB x y z) (lk ofC x y z))) (lk euG (lk euG (U.mm true (U.sub IntKind.i64 (lk uF (lk ofF a b c) (lk ofB a b c) (lk ofC a b c)) (lk uF (lk ofF x y z) (lk ofB x y z) (lk
      ofC x y z))) (U.sub IntKind.i64 (lk uF (lk ofF x y z) (lk ofB x y z) (lk ofC x y z)) (lk uF (lk ofF a b c) (lk ofB a b c) (lk ofC a b c)))) (lk uB (lk ofF a b c) (lk ofB a b c) (lk
      ofC a b c))) (lk uB (lk ofF x y z) (lk ofB x y z) (lk ofC x y z))) (U.add IntKind.i64 (U.quo IntKind.i64 (U.sub IntKind.i64 (U.mm true (lk sLast (lk uF (lk ofF a b c) (lk ofB a b c)
      (lk ofC a b c)) (lk uB (lk ofF a b c) (lk ofB a b c) (lk ofC a b c)) (lk ofC a b c)) (lk sLast (lk uF (lk ofF x y z) (lk ofB x y z) (lk ofC x y z)) (lk uB (lk ofF x y z) (lk ofB x y
      z) (lk ofC x y z)) (lk ofC x y z))) (U.mm false (lk uF (lk ofF a b c) (lk ofB a b c) (lk ofC a b c)) (lk uF (lk ofF x y z) (lk ofB x y z) (lk ofC x y z)))) (lk euG (lk euG (U.mm
      true (U.sub IntKind.i64 (lk uF (lk ofF a b c) (lk ofB a b c) (lk ofC a b c)) (lk uF (lk ofF x y z) (lk ofB x y z) (lk ofC x y z))) (U.sub IntKind.i64 (lk uF (lk ofF x y z) (lk ofB x
      y z) (lk ofC x y z)) (lk uF (lk ofF a b c) (lk ofB a b c) (lk ofC a b c)))) (lk uB (lk ofF a b c) (lk ofB a b c) (lk ofC a b c))) (lk uB (lk ofF x y z) (lk ofB x y z) (lk ofC x y
      z)))) (1 : Int)))), SV.lit (Value.int IntKind.i64 (lk nHigh (U.mm false (lk uF (lk ofF a b c) (lk ofB a b c) (lk ofC a b c)) (lk uF (lk ofF x y z) (lk ofB x y z) (lk ofC x y z)))
      (lk euG (lk euG (U.mm true (U.sub IntKind.i64 (lk uF (lk ofF a b c) (lk ofB a b c) (lk ofC a b c)) (lk uF (lk ofF x y z) (lk ofB x y z) (lk ofC x y z))) (U.sub IntKind.i64 (lk uF
      (lk ofF x y z) (lk ofB x y z) (lk ofC x y z)) (lk uF (lk ofF a b c) (lk ofB a b c) (lk ofC a b c)))) (lk uB (lk ofF a b c) (lk ofB a b c) (lk ofC a b c))) (lk uB (lk ofF x y z) (lk
      ofB x y z) (lk ofC x y z))) (U.add IntKind.i64 (U.quo IntKind.i64 (U.sub IntKind.i64 (U.mm true (lk sLast (lk uF (lk ofF a b c) (lk ofB a b c) (lk ofC a b c)) (lk uB (lk ofF a b c)
      (lk ofB a b c) (lk ofC a b c)) (lk ofC a b c)) (lk sLast (lk uF (lk ofF x y z) (lk ofB x y z) (lk ofC x y z)) (lk uB (lk ofF x y z) (lk ofB x y z) (lk ofC x y z)) (lk ofC x y z)))
      (U.mm false (lk uF (lk ofF a b c) (lk ofB a b c) (lk ofC a b c)) (lk uF (lk ofF x y z) (lk ofB x y z) (lk ofC x y z)))) (lk euG (lk euG (U.mm true (U.sub IntKind.i64 (lk uF (lk ofF
      a b c) (lk ofB a b c) (lk ofC a b c)) (lk uF (lk ofF x y z) (lk ofB x y z) (lk ofC x y z))) (U.sub IntKind.i64 (lk uF (lk ofF x y z) (lk ofB x y z) (lk ofC x y z)) (lk uF (lk ofF a
      b c) (lk ofB a b c) (lk ofC a b c)))) (lk uB (lk ofF a b c) (lk ofB a b c) (lk ofC a b c))) (lk uB (lk ofF x y z) (lk ofB x y z) (lk ofC x y z)))) (1 : Int)))), SV.lit (Value.int
      IntKind.i64 (lk nStr (U.mm false (lk uF (lk ofF a b c) (lk ofB a b c) (lk ofC a b c)) (lk uF (lk ofF x y z) (lk ofB x y z) (lk ofC x y z))) (lk euG (lk euG (U.mm true (U.sub
      IntKind.i64 (lk uF (lk ofF a b c) (lk ofB a b c) (lk ofC a b c)) (lk uF (lk ofF x y z) (lk ofB x y z) (lk ofC x y z))) (U.sub IntKind.i64 (lk uF (lk ofF x y z) (lk ofB x y z) (lk
      ofC x y z)) (lk uF (lk ofF a b c) (lk ofB a b c) (lk ofC a b c)))) (lk uB (lk ofF a b c) (lk ofB a b c) (lk ofC a b c))) (lk uB (lk ofF x y z) (lk ofB x y z) (lk ofC x y z))) (U.add
      IntKind.i64 (U.quo IntKind.i64 (U.sub IntKind.i64 (U.mm true (lk sLast (lk uF (lk ofF a b c) (lk ofB a b c) (lk ofC a b c)) (lk uB (lk ofF a b c) (lk ofB a b c) (lk ofC a b c)) (lk
      ofC a b c)) (lk sLast (lk uF (lk ofF x y z) (lk ofB x y z) (lk ofC x y z)) (lk uB (lk ofF x y z) (lk ofB x y z) (lk ofC x y z)) (lk ofC x y z))) (U.mm false (lk uF (lk ofF a b c)
      (lk ofB a b c) (lk ofC a b c)) (lk uF (lk ofF x y z) (lk ofB x y z) (lk ofC x y z)))) (lk euG (lk euG (U.mm true (U.sub IntKind.i64 (lk uF (lk ofF a b c) (lk ofB a b c) (lk ofC a b
      c)) (lk uF (lk ofF x y z) (lk ofB x y z) (lk ofC x y z))) (U.sub IntKind.i64 (lk uF (lk ofF x y z) (lk ofB x y z) (lk ofC x y z)) (lk uF (lk ofF a b c) (lk ofB a b c) (lk ofC a b
      c)))) (lk uB (lk ofF a b c) (lk ofB a b c) (lk ofC a b c))) (lk uB (lk ofF x y z) (lk ofB x y z) (lk ofC x y z)))) (1 : Int))))], SV.lit (Value.int IntKind.i64 (lk nErr (U.mm false
      (lk uF (lk ofF a b c) (lk ofB a b c) (lk ofC a b c)) (lk uF (lk ofF x y z) (lk ofB x y z) (lk ofC x y z))) (lk euG (lk euG (U.mm true (U.sub IntKind.i64 (lk uF (lk ofF a b c) (lk
      ofB a b c) (lk ofC a b c)) (lk uF (lk ofF x y z) (lk ofB x y z) (lk ofC x y z))) (U.sub IntKind.i64 (lk uF (lk ofF x y z) (lk ofB x y z) (lk ofC x y z)) (lk uF (lk ofF a b c) (lk
      ofB a b c) (lk ofC a b c)))) (lk uB (lk ofF a b c) (lk ofB a b c) (lk ofC a b c))) (lk uB (lk ofF x y z) (lk ofB x y z) (lk ofC x y z))) (U.add IntKind.i64 (U.quo IntKind.i64 (U.sub
      IntKind.i64 (U.mm true (lk sLast (lk uF (lk ofF a b c) (lk ofB a b c) (lk ofC a b c)) (lk uB (lk ofF a b c) (lk ofB a b c) (lk ofC a b c)) (lk ofC a b c)) (lk sLast (lk uF (lk ofF x
      y z) (lk ofB x y z) (lk ofC x y z)) (lk uB (lk ofF x y z) (lk ofB x y z) (lk ofC x y z)) (lk ofC x y z))) (U.mm false (lk uF (lk ofF a b c) (lk ofB a b c) (lk ofC a b c)) (lk uF (lk
      ofF x y z) (lk ofB x y z) (lk ofC x y z)))) (lk euG (lk euG (U.mm true (U.sub IntKind.i64 (lk uF (lk ofF a b c) (lk ofB a b c) (lk ofC a b c)) (lk uF (lk ofF x y z) (lk ofB x y z)
      (lk ofC x y z))) (U.sub IntKind.i64 (lk uF (lk ofF x y z) (lk ofB x y z) (lk ofC x y z)) (lk uF (lk ofF a b c) (lk ofB a b c) (lk ofC a b c)))) (lk uB (lk ofF a b c) (lk ofB a b c)
      (lk ofC a b c))) (lk uB (lk ofF x y z) (lk ofB x y z) (lk ofC x y z)))) (1 : Int))))])))))) (T.br (U.eq (lk euG (U.mm true (U.sub IntKind.i64 (lk uF (lk ofF a b c) (lk ofB a b c)
      (lk ofC a b c)) (lk uF (lk ofF x y z) (lk ofB x y z) (lk ofC x y z))) (U.sub IntKind.i64 (lk uF (lk ofF x y z) (lk ofB x y z) (lk ofC x y z)) (lk uF (lk ofF a b c) (lk ofB a b c)
      (lk ofC a b c)))) (lk uB (lk ofF a b c) (lk ofB a b c) (lk ofC a b c))) (0 : Int)) (T.ask ((0 : Int) < (1 : Int) → I64 ((1 : Int) - (1 : Int)) ∧ I64 ((1 : Int) * ((1 : Int) - (1 :
      Int))) ∧ I64 (U.mm false (lk uF (lk ofF a b c) (lk ofB a b c) (lk ofC a b c)) (lk uF (lk ofF x y z) (lk ofB x y z) (lk ofC x y z)) + (1 : Int) * ((1 : Int) - (1 : Int)))) (T.ret
      (SV.tup [SV.agg [SV.lit (Value.int IntKind.i64 (lk nLow (U.mm false (lk uF (lk ofF a b c) (lk ofB a b c) (lk ofC a b c)) (lk uF (lk ofF x y z) (lk ofB x y z) (lk ofC x y z))) (1 :
      Int) (1 : Int))), SV.lit (Value.int IntKind.i64 (lk nHigh (U.mm false (lk uF (lk ofF a b c) (lk ofB a b c) (lk ofC a b c)) (lk uF (lk ofF x y z) (lk ofB x y z) (lk ofC x y z))) (1 :
      Int) (1 : Int))), SV.lit (Value.int IntKind.i64 (lk nStr (U.mm false (lk uF (lk ofF a b c) (lk ofB a b c) (lk ofC a b c)) (lk uF (lk ofF x y z) (lk ofB x y z) (lk ofC x y z))) (1 :
      Int) (1 : Int)))], SV.lit (Value.int IntKind.i64 (lk nErr (U.mm false (lk uF (lk ofF a b c) (lk ofB a b c) (lk ofC a b c)) (lk uF (lk ofF x y z) (lk ofB x y z) (lk ofC x y z))) (1 :
      Int) (1 : Int)))]))) (T.ask (lk euG (U.mm true (U.sub IntKind.i64 (lk uF (lk ofF a b c) (lk ofB a b c) (lk ofC a b c)) (lk uF (lk ofF x y z) (lk ofB x y z) (lk ofC x y z))) (U.sub
      IntKind.i64 (lk uF (lk ofF x y z) (lk ofB x y z) (lk ofC x y z)) (lk uF (lk ofF a b c) (lk ofB a b c) (lk ofC a b c)))) (lk uB (lk ofF a b c) (lk ofB a b c) (lk ofC a b c)) ≠ (0 :
      Int)) (T.ask ((0 : Int) < U.add IntKind.i64 (U.quo IntKind.i64 (U.sub IntKind.i64 (U.mm true (lk sLast (lk uF (lk ofF a b c) (lk ofB a b c) (lk ofC a b c)) (lk uB (lk ofF a b c) (lk
      ofB a b c) (lk ofC a b c)) (lk ofC a b c)) (lk sLast (lk uF (lk ofF x y z) (lk ofB x y z) (lk ofC x y z)) (lk uB (lk ofF x y z) (lk ofB x y z) (lk ofC x y z)) (lk ofC x y z))) (U.mm
      false (lk uF (lk ofF a b c) (lk ofB a b c) (lk ofC a b c)) (lk uF (lk ofF x y z) (lk ofB x y z) (lk ofC x y z)))) (lk euG (U.mm true (U.sub IntKind.i64 (lk uF (lk ofF a b c) (lk ofB
      a b c) (lk ofC a b c)) (lk uF (lk ofF x y z) (lk ofB x y z) (lk ofC x y z))) (U.sub IntKind.i64 (lk uF (lk ofF x y z) (lk ofB x y z) (lk ofC x y z)) (lk uF (lk ofF a b c) (lk ofB a
      b c) (lk ofC a b c)))) (lk uB (lk ofF a b c) (lk ofB a b c) (lk ofC a b c)))) (1 : Int) → I64 (U.add IntKind.i64 (U.quo IntKind.i64 (U.sub IntKind.i64 (U.mm true (lk sLast (lk uF
      (lk ofF a b c) (lk ofB a b c) (lk ofC a b c)) (lk uB (lk ofF a b c) (lk ofB a b c) (lk ofC a b c)) (lk ofC a b c)) (lk sLast (lk uF (lk ofF x y z) (lk ofB x y z) (lk ofC x y z)) (lk
      uB (lk ofF x y z) (lk ofB x y z) (lk ofC x y z)) (lk ofC x y z))) (U.mm false (lk uF (lk ofF a b c) (lk ofB a b c) (lk ofC a b c)) (lk uF (lk ofF x y z) (lk ofB x y z) (lk ofC x y
      z)))) (lk euG (U.mm true (U.sub IntKind.i64 (lk uF (lk ofF a b c) (lk ofB a b c) (lk ofC a b c)) (lk uF (lk ofF x y z) (lk ofB x y z) (lk ofC x y z))) (U.sub IntKind.i64 (lk uF (lk
      ofF x y z) (lk ofB x y z) (lk ofC x y z)) (lk uF (lk ofF a b c) (lk ofB a b c) (lk ofC a b c)))) (lk uB (lk ofF a b c) (lk ofB a b c) (lk ofC a b c)))) (1 : Int) - (1 : Int)) ∧ I64
      (lk euG (U.mm true (U.sub IntKind.i64 (lk uF (lk ofF a b c) (lk ofB a b c) (lk ofC a b c)) (lk uF (lk ofF x y z) (lk ofB x y z) (lk ofC x y z))) (U.sub IntKind.i64 (lk uF (lk ofF x
      y z) (lk ofB x y z) (lk ofC x y z)) (lk uF (lk ofF a b c) (lk ofB a b c) (lk ofC a b c)))) (lk uB (lk ofF a b c) (lk ofB a b c) (lk ofC a b c)) * (U.add IntKind.i64 (U.quo
      IntKind.i64 (U.sub IntKind.i64 (U.mm true (lk sLast (lk uF (lk ofF a b c) (lk ofB a b c) (lk ofC a b c)) (lk uB (lk ofF a b c) (lk ofB a b c) (lk ofC a b c)) (lk ofC a b c)) (lk
      sLast (lk uF (lk ofF x y z) (lk ofB x y z) (lk ofC x y z)) (lk uB (lk ofF x y z) (lk ofB x y z) (lk ofC x y z)) (lk ofC x y z))) (U.mm false (lk uF (lk ofF a b c) (lk ofB a b c) (lk
      ofC a b c)) (lk uF (lk ofF x y z) (lk ofB x y z) (lk ofC x y z)))) (lk euG (U.mm true (U.sub IntKind.i64 (lk uF (lk ofF a b c) (lk ofB a b c) (lk ofC a b c)) (lk uF (lk ofF x y z)
      (lk ofB x y z) (lk ofC x y z))) (U.sub IntKind.i64 (lk uF (lk ofF x y z) (lk ofB x y z) (lk ofC x y z)) (lk uF (lk ofF a b c) (lk ofB a b c) (lk ofC a b c)))) (lk uB (lk ofF a b c)
      (lk ofB a b c) (lk ofC a b c)))) (1 : Int) - (1 : Int))) ∧ I64 (U.mm false (lk uF (lk ofF a b c) (lk ofB a b c) (lk ofC a b c)) (lk uF (lk ofF x y z) (lk ofB x y z) (lk ofC x y z))
      + lk euG (U.mm true (U.sub IntKind.i64 (lk uF (lk ofF a b c) (lk ofB a b c) (lk ofC a b c)) (lk uF (lk ofF x y z) (lk ofB x y z) (lk ofC x y z))) (U.sub IntKind.i64 (lk uF (lk ofF x
      y z) (lk ofB x y z) (lk ofC x y z)) (lk uF (lk ofF a b c) (lk ofB a b c) (lk ofC a b c)))) (lk uB (lk ofF a b c) (lk ofB a b c) (lk ofC a b c)) * (U.add IntKind.i64 (U.quo
      IntKind.i64 (U.sub IntKind.i64 (U.mm true (lk sLast (lk uF (lk ofF a b c) (lk ofB a b c) (lk ofC a b c)) (lk uB (lk ofF a b c) (lk ofB a b c) (lk ofC a b c)) (lk ofC a b c)) (lk
      sLast (lk uF (lk ofF x y z) (lk ofB x y z) (lk ofC x y z)) (lk uB (lk ofF x y z) (lk ofB x y z) (lk ofC x y z)) (lk ofC x y z))) (U.mm false (lk uF (lk ofF a b c) (lk ofB a b c) (lk
      ofC a b c)) (lk uF (lk ofF x y z) (lk ofB x y z) (lk ofC x y z)))) (lk euG (U.mm true (U.sub IntKind.i64 (lk uF (lk ofF a b c) (lk ofB a b c) (lk ofC a b c)) (lk uF (lk ofF x y z)
      (lk ofB x y z) (lk ofC x y z))) (U.sub IntKind.i64 (lk uF (lk ofF x y z) (lk ofB x y z) (lk ofC x y z)) (lk uF (lk ofF a b c) (lk ofB a b c) (lk ofC a b c)))) (lk uB (lk ofF a b c)
      (lk ofB a b c) (lk ofC a b c)))) (1 : Int) - (1 : Int)))) (T.ret (SV.tup [SV.agg [SV.lit (Value.int IntKind.i64 (lk nLow (U.mm false (lk uF (lk ofF a b c) (lk ofB a b c) (lk ofC a b
      c)) (lk uF (lk ofF x y z) (lk ofB x y z) (lk ofC x y z))) (lk euG (U.mm true (U.sub IntKind.i64 (lk uF (lk ofF a b c) (lk ofB a b c) (lk ofC a b c)) (lk uF (lk ofF x y z) (lk ofB x
      y z) (lk ofC x y z))) (U.sub IntKind.i64 (lk uF (lk ofF x y z) (lk ofB x y z) (lk ofC x y z)) (lk uF (lk ofF a b c) (lk ofB a b c) (lk ofC a b c)))) (lk uB (lk ofF a b c) (lk ofB a
      b c) (lk ofC a b c))) (U.add IntKind.i64 (U.quo IntKind.i64 (U.sub IntKind.i64 (U.mm true (lk sLast (lk uF (lk ofF a b c) (lk ofB a b c) (lk ofC a b c)) (lk uB (lk ofF a b c) (lk
      ofB a b c) (lk ofC a b c)) (lk ofC a b c)) (lk sLast (lk uF (lk ofF x y z) (lk ofB x y z) (lk ofC x y z)) (lk uB (lk ofF x y z) (lk ofB x y z) (lk ofC x y z)) (lk ofC x y z))) (U.mm
      false (lk uF (lk ofF a b c) (lk ofB a b c) (lk ofC a b c)) (lk uF (lk ofF x y z) (lk ofB x y z) (lk ofC x y z)))) (lk euG (U.mm true (U.sub IntKind.i64 (lk uF (lk ofF a b c) (lk ofB
      a b c) (lk ofC a b c)) (lk uF (lk ofF x y z) (lk ofB x y z) (lk ofC x y z))) (U.sub IntKind.i64 (lk uF (lk ofF x y z) (lk ofB x y z) (lk ofC x y z)) (lk uF (lk ofF a b c) (lk ofB a
      b c) (lk ofC a b c)))) (lk uB (lk ofF a b c) (lk ofB a b c) (lk ofC a b c)))) (1 : Int)))), SV.lit (Value.int IntKind.i64 (lk nHigh (U.mm false (lk uF (lk ofF a b c) (lk ofB a b c)
      (lk ofC a b c)) (lk uF (lk ofF x y z) (lk ofB x y z) (lk ofC x y z))) (lk euG (U.mm true (U.sub IntKind.i64 (lk uF (lk ofF a b c) (lk ofB a b c) (lk ofC a b c)) (lk uF (lk ofF x y
      z) (lk ofB x y z) (lk ofC x y z))) (U.sub IntKind.i64 (lk uF (lk ofF x y z) (lk ofB x y z) (lk ofC x y z)) (lk uF (lk ofF a b c) (lk ofB a b c) (lk ofC a b c)))) (lk uB (lk ofF a b
      c) (lk ofB a b c) (lk ofC a b c))) (U.add IntKind.i64 (U.quo IntKind.i64 (U.sub IntKind.i64 (U.mm true (lk sLast (lk uF (lk ofF a b c) (lk ofB a b c) (lk ofC a b c)) (lk uB (lk ofF
      a b c) (lk ofB a b c) (lk ofC a b c)) (lk ofC a b c)) (lk sLast (lk uF (lk ofF x y z) (lk ofB x y z) (lk ofC x y z)) (lk uB (lk ofF x y z) (lk ofB x y z) (lk ofC x y z)) (lk ofC x y
      z))) (U.mm false (lk uF (lk ofF a b c) (lk ofB a b c) (lk ofC a b c)) (lk uF (lk ofF x y z) (lk ofB x y z) (lk ofC x y z)))) (lk euG (U.mm true (U.sub IntKind.i64 (lk uF (lk ofF a b
      c) (lk ofB a b c) (lk ofC a b c)) (lk uF (lk ofF x y z) (lk ofB x y z) (lk ofC x y z))) (U.sub IntKind.i64 (lk uF (lk ofF x y z) (lk ofB x y z) (lk ofC x y z)) (lk uF (lk ofF a b c)
      (lk ofB a b c) (lk ofC a b c)))) (lk uB (lk ofF a b c) (lk ofB a b c) (lk ofC a b c)))) (1 : Int)))), SV.lit (Value.int IntKind.i64 (lk nStr (U.mm false (lk uF (lk ofF a b c) (lk
      ofB a b c) (lk ofC a b c)) (lk uF (lk ofF x y z) (lk ofB x y z) (lk ofC x y z))) (lk euG (U.mm true (U.sub IntKind.i64 (lk uF (lk ofF a b c) (lk ofB a b c) (lk ofC a b c)) (lk uF
      (lk ofF x y z) (lk ofB x y z) (lk ofC x y z))) (U.sub IntKind.i64 (lk uF (lk ofF x y z) (lk ofB x y z) (lk ofC x y z)) (lk uF (lk ofF a b c) (lk ofB a b c) (lk ofC a b c)))) (lk uB
      (lk ofF a b c) (lk ofB a b c) (lk ofC a b c))) (U.add IntKind.i64 (U.quo IntKind.i64 (U.sub IntKind.i64 (U.mm true (lk sLast (lk uF (lk ofF a b c) (lk ofB a b c) (lk ofC a b c)) (lk
      uB (lk ofF a b c) (lk ofB a b c) (lk ofC a b c)) (lk ofC a b c)) (lk sLast (lk uF (lk ofF x y z) (lk ofB x y z) (lk ofC x y z)) (lk uB (lk ofF x y z) (lk ofB x y z) (lk ofC x y z))
      (lk ofC x y z))) (U.mm false (lk uF (lk ofF a b c) (lk ofB a b c) (lk ofC a b c)) (lk uF (lk ofF x y z) (lk ofB x y z) (lk ofC x y z)))) (lk euG (U.mm true (U.sub IntKind.i64 (lk uF
      (lk ofF a b c) (lk ofB a b c) (lk ofC a b c)) (lk uF (lk ofF x y z) (lk ofB x y z) (lk ofC x y z))) (U.sub IntKind.i64 (lk uF (lk ofF x y z) (lk ofB x y z) (lk ofC x y z)) (lk uF
      (lk ofF a b c) (lk ofB a b c) (lk ofC a b c)))) (lk uB (lk ofF a b c) (lk ofB a b c) (lk ofC a b c)))) (1 : Int))))], SV.lit (Value.int IntKind.i64 (lk nErr (U.mm false (lk uF (lk
      ofF a b c) (lk ofB a b c) (lk ofC a b c)) (lk uF (lk ofF x y z) (lk ofB x y z) (lk ofC x y z))) (lk euG (U.mm true (U.sub IntKind.i64 (lk uF (lk ofF a b c) (lk ofB a b c) (lk ofC a
      b c)) (lk uF (lk ofF x y z) (lk ofB x y z) (lk ofC x y z))) (U.sub IntKind.i64 (lk uF (lk ofF x y z) (lk ofB x y z) (lk ofC x y z)) (lk uF (lk ofF a b c) (lk ofB a b c) (lk ofC a b
      c)))) (lk uB (lk ofF a b c) (lk ofB a b c) (lk ofC a b c))) (U.add IntKind.i64 (U.quo IntKind.i64 (U.sub IntKind.i64 (U.mm true (lk sLast (lk uF (lk ofF a b c) (lk ofB a b c) (lk
      ofC a b c)) (lk uB (lk ofF a b c) (lk ofB a b c) (lk ofC a b c)) (lk ofC a b c)) (lk sLast (lk uF (lk ofF x y z) (lk ofB x y z) (lk ofC x y z)) (lk uB (lk ofF x y z) (lk ofB x y z)
      (lk ofC x y z)) (lk ofC x y z))) (U.mm false (lk uF (lk ofF a b c) (lk ofB a b c) (lk ofC a b c)) (lk uF (lk ofF x y z) (lk ofB x y z) (lk ofC x y z)))) (lk euG (U.mm true (U.sub
      IntKind.i64 (lk uF (lk ofF a b c) (lk ofB a b c) (lk ofC a b c)) (lk uF (lk ofF x y z) (lk ofB x y z) (lk ofC x y z))) (U.sub IntKind.i64 (lk uF (lk ofF x y z) (lk ofB x y z) (lk
      ofC x y z)) (lk uF (lk ofF a b c) (lk ofB a b c) (lk ofC a b c)))) (lk uB (lk ofF a b c) (lk ofB a b c) (lk ofC a b c)))) (1 : Int))))]))))))) (T.br (U.gt (lk ofC x y z) (1 : Int))
      (T.ask ((0 : Int) ≤ U.mm true (U.sub IntKind.i64 (lk uF (lk ofF a b c) (lk ofB a b c) (lk ofC a b c)) (lk uF (lk ofF x y z) (lk ofB x y z) (lk ofC x y z))) (U.sub IntKind.i64 (lk uF
      (lk ofF x y z) (lk ofB x y z) (lk ofC x y z)) (lk uF (lk ofF a b c) (lk ofB a b c) (lk ofC a b c))) ∧ U.mm true (U.sub IntKind.i64 (lk uF (lk ofF a b c) (lk ofB a b c) (lk ofC a b
      c)) (lk uF (lk ofF x y z) (lk ofB x y z) (lk ofC x y z))) (U.sub IntKind.i64 (lk uF (lk ofF x y z) (lk ofB x y z) (lk ofC x y z)) (lk uF (lk ofF a b c) (lk ofB a b c) (lk ofC a b
      c))) ≤ (4000000 : Int) ∧ (0 : Int) ≤ lk uB (lk ofF x y z) (lk ofB x y z) (lk ofC x y z) ∧ lk uB (lk ofF x y z) (lk ofB x y z) (lk ofC x y z) ≤ (4000000 : Int)) (T.br (U.eq (lk euG
      (U.mm true (U.sub IntKind.i64 (lk uF (lk ofF a b c) (lk ofB a b c) (lk ofC a b c)) (lk uF (lk ofF x y z) (lk ofB x y z) (lk ofC x y z))) (U.sub IntKind.i64 (lk uF (lk ofF x y z) (lk
      ofB x y z) (lk ofC x y z)) (lk uF (lk ofF a b c) (lk ofB a b c) (lk ofC a b c)))) (lk uB (lk ofF x y z) (lk ofB x y z) (lk ofC x y z))) (0 : Int)) (T.ask ((0 : Int) < (1 : Int) →
      I64 ((1 : Int) - (1 : Int)) ∧ I64 ((1 : Int) * ((1 : Int) - (1 : Int))) ∧ I64 (U.mm false (lk uF (lk ofF a b c) (lk ofB a b c) (lk ofC a b c)) (lk uF (lk ofF x y z) (lk ofB x y z)
      (lk ofC x y z)) + (1 : Int) * ((1 : Int) - (1 : Int)))) (T.ret (SV.tup [SV.agg [SV.lit (Value.int IntKind.i64 (lk nLow (U.mm false (lk uF (lk ofF a b c) (lk ofB a b c) (lk ofC a b
      c)) (lk uF (lk ofF x y z) (lk ofB x y z) (lk ofC x y z))) (1 : Int) (1 : Int))), SV.lit (Value.int IntKind.i64 (lk nHigh (U.mm false (lk uF (lk ofF a b c) (lk ofB a b c) (lk ofC a b
      c)) (lk uF (lk ofF x y z) (lk ofB x y z) (lk ofC x y z))) (1 : Int) (1 : Int))), SV.lit (Value.int IntKind.i64 (lk nStr (U.mm false (lk uF (lk ofF a b c) (lk ofB a b c) (lk ofC a b
      c)) (lk uF (lk ofF x y z) (lk ofB x y z) (lk ofC x y z))) (1 : Int) (1 : Int)))], SV.lit (Value.int IntKind.i64 (lk nErr (U.mm false (lk uF (lk ofF a b c) (lk ofB a b c) (lk ofC a b
      c)) (lk uF (lk ofF x y z) (lk ofB x y z) (lk ofC x y z))) (1 : Int) (1 : Int)))]))) (T.ask (lk euG (U.mm true (U.sub IntKind.i64 (lk uF (lk ofF a b c) (lk ofB a b c) (lk ofC a b c))
      (lk uF (lk ofF x y z) (lk ofB x y z) (lk ofC x y z))) (U.sub IntKind.i64 (lk uF (lk ofF x y z) (lk ofB x y z) (lk ofC x y z)) (lk uF (lk ofF a b c) (lk ofB a b c) (lk ofC a b c))))
      (lk uB (lk ofF x y z) (lk ofB x y z) (lk ofC x y z)) ≠ (0 : Int)) (T.ask ((0 : Int) < U.add IntKind.i64 (U.quo IntKind.i64 (U.sub IntKind.i64 (U.mm true (lk sLast (lk uF (lk ofF a b
      c) (lk ofB a b c) (lk ofC a b c)) (lk uB (lk ofF a b c) (lk ofB a b c) (lk ofC a b c)) (lk ofC a b c)) (lk sLast (lk uF (lk ofF x y z) (lk ofB x y z) (lk ofC x y z)) (lk uB (lk ofF
      x y z) (lk ofB x y z) (lk ofC x y z)) (lk ofC x y z))) (U.mm false (lk uF (lk ofF a b c) (lk ofB a b c) (lk ofC a b c)) (lk uF (lk ofF x y z) (lk ofB x y z) (lk ofC x y z)))) (lk
      euG (U.mm true (U.sub IntKind.i64 (lk uF (lk ofF a b c) (lk ofB a b c) (lk ofC a b c)) (lk uF (lk ofF x y z) (lk ofB x y z) (lk ofC x y z))) (U.sub IntKind.i64 (lk uF (lk ofF x y z)
      (lk ofB x y z) (lk ofC x y z)) (lk uF (lk ofF a b c) (lk ofB a b c) (lk ofC a b c)))) (lk uB (lk ofF x y z) (lk ofB x y z) (lk ofC x y z)))) (1 : Int) → I64 (U.add IntKind.i64
      (U.quo IntKind.i64 (U.sub IntKind.i64 (U.mm true (lk sLast (lk uF (lk ofF a b c) (lk ofB a b c) (lk ofC a b c)) (lk uB (lk ofF a b c) (lk ofB a b c) (lk ofC a b c)) (lk ofC a b c))
      (lk sLast (lk uF (lk ofF x y z) (lk ofB x y z) (lk ofC x y z)) (lk uB (lk ofF x y z) (lk ofB x y z) (lk ofC x y z)) (lk ofC x y z))) (U.mm false (lk uF (lk ofF a b c) (lk ofB a b c)
      (lk ofC a b c)) (lk uF (lk ofF x y z) (lk ofB x y z) (lk ofC x y z)))) (lk euG (U.mm true (U.sub IntKind.i64 (lk uF (lk ofF a b c) (lk ofB a b c) (lk ofC a b c)) (lk uF (lk ofF x y
      z) (lk ofB x y z) (lk ofC x y z))) (U.sub IntKind.i64 (lk uF (lk ofF x y z) (lk ofB x y z) (lk ofC x y z)) (lk uF (lk ofF a b c) (lk ofB a b c) (lk ofC a b c)))) (lk uB (lk ofF x y
      z) (lk ofB x y z) (lk ofC x y z)))) (1 : Int) - (1 : Int)) ∧ I64 (lk euG (U.mm true (U.sub IntKind.i64 (lk uF (lk ofF a b c) (lk ofB a b c) (lk ofC a b c)) (lk uF (lk ofF x y z) (lk
      ofB x y z) (lk ofC x y z))) (U.sub IntKind.i64 (lk uF (lk ofF x y z) (lk ofB x y z) (lk ofC x y z)) (lk uF (lk ofF a b c) (lk ofB a b c) (lk ofC a b c)))) (lk uB (lk ofF x y z) (lk
      ofB x y z) (lk ofC x y z)) * (U.add IntKind.i64 (U.quo IntKind.i64 (U.sub IntKind.i64 (U.mm true (lk sLast (lk uF (lk ofF a b c) (lk ofB a b c) (lk ofC a b c)) (lk uB (lk ofF a b c)
      (lk ofB a b c) (lk ofC a b c)) (lk ofC a b c)) (lk sLast (lk uF (lk ofF x y z) (lk ofB x y z) (lk ofC x y z)) (lk uB (lk ofF x y z) (lk ofB x y z) (lk ofC x y z)) (lk ofC x y z)))
      (U.mm false (lk uF (lk ofF a b c) (lk ofB a b c) (lk ofC a b c)) (lk uF (lk ofF x y z) (lk ofB x y z) (lk ofC x y z)))) (lk euG (U.mm true (U.sub IntKind.i64 (lk uF (lk ofF a b c)
      (lk ofB a b c) (lk ofC a b c)) (lk uF (lk ofF x y z) (lk ofB x y z) (lk ofC x y z))) (U.sub IntKind.i64 (lk uF (lk ofF x y z) (lk ofB x y z) (lk ofC x y z)) (lk uF (lk ofF a b c)
      (lk ofB a b c) (lk ofC a b c)))) (lk uB (lk ofF x y z) (lk ofB x y z) (lk ofC x y z)))) (1 : Int) - (1 : Int))) ∧ I64 (U.mm false (lk uF (lk ofF a b c) (lk ofB a b c) (lk ofC a b
      c)) (lk uF (lk ofF x y z) (lk ofB x y z) (lk ofC x y z)) + lk euG (U.mm true (U.sub IntKind.i64 (lk uF (lk ofF a b c) (lk ofB a b c) (lk ofC a b c)) (lk uF (lk ofF x y z) (lk ofB x
      y z) (lk ofC x y z))) (U.sub IntKind.i64 (lk uF (lk ofF x y z) (lk ofB x y z) (lk ofC x y z)) (lk uF (lk ofF a b c) (lk ofB a b c) (lk ofC a b c)))) (lk uB (lk ofF x y z) (lk ofB x
      y z) (lk ofC x y z)) * (U.add IntKind.i64 (U.quo IntKind.i64 (U.sub IntKind.i64 (U.mm true (lk sLast (lk uF (lk ofF a b c) (lk ofB a b c) (lk ofC a b c)) (lk uB (lk ofF a b c) (lk
      ofB a b c) (lk ofC a b c)) (lk ofC a b c)) (lk sLast (lk uF (lk ofF x y z) (lk ofB x y z) (lk ofC x y z)) (lk uB (lk ofF x y z) (lk ofB x y z) (lk ofC x y z)) (lk ofC x y z))) (U.mm
      false (lk uF (lk ofF a b c) (lk ofB a b c) (lk ofC a b c)) (lk uF (lk ofF x y z) (lk ofB x y z) (lk ofC x y z)))) (lk euG (U.mm true (U.sub IntKind.i64 (lk uF (lk ofF a b c) (lk ofB
      a b c) (lk ofC a b c)) (lk uF (lk ofF x y z) (lk ofB x y z) (lk ofC x y z))) (U.sub IntKind.i64 (lk uF (lk ofF x y z) (lk ofB x y z) (lk ofC x y z)) (lk uF (lk ofF a b c) (lk ofB a
      b c) (lk ofC a b c)))) (lk uB (lk ofF x y z) (lk ofB x y z) (lk ofC x y z)))) (1 : Int) - (1 : Int)))) (T.ret (SV.tup [SV.agg [SV.lit (Value.int IntKind.i64 (lk nLow (U.mm false (lk
      uF (lk ofF a b c) (lk ofB a b c) (lk ofC a b c)) (lk uF (lk ofF x y z) (lk ofB x y z) (lk ofC x y z))) (lk euG (U.mm true (U.sub IntKind.i64 (lk uF (lk ofF a b c) (lk ofB a b c) (lk
      ofC a b c)) (lk uF (lk ofF x y z) (lk ofB x y z) (lk ofC x y z))) (U.sub IntKind.i64 (lk uF (lk ofF x y z) (lk ofB x y z) (lk ofC x y z)) (lk uF (lk ofF a b c) (lk ofB a b c) (lk
      ofC a b c)))) (lk uB (lk ofF x y z) (lk ofB x y z) (lk ofC x y z))) (U.add IntKind.i64 (U.quo IntKind.i64 (U.sub IntKind.i64 (U.mm true (lk sLast (lk uF (lk ofF a b c) (lk ofB a b
      c) (lk ofC a b c)) (lk uB (lk ofF a b c) (lk ofB a b c) (lk ofC a b c)) (lk ofC a b c)) (lk sLast (lk uF (lk ofF x y z) (lk ofB x y z) (lk ofC x y z)) (lk uB (lk ofF x y z) (lk ofB
      x y z) (lk ofC x y z)) (lk ofC x y z))) (U.mm false (lk uF (lk ofF a b c) (lk ofB a b c) (lk ofC a b c)) (lk uF (lk ofF x y z) (lk ofB x y z) (lk ofC x y z)))) (lk euG (U.mm true
      (U.sub IntKind.i64 (lk uF (lk ofF a b c) (lk ofB a b c) (lk ofC a b c)) (lk uF (lk ofF x y z) (lk ofB x y z) (lk ofC x y z))) (U.sub IntKind.i64 (lk uF (lk ofF x y z) (lk ofB x y z)
      (lk ofC x y z)) (lk uF (lk ofF a b c) (lk ofB a b c) (lk ofC a b c)))) (lk uB (lk ofF x y z) (lk ofB x y z) (lk ofC x y z)))) (1 : Int)))), SV.lit (Value.int IntKind.i64 (lk nHigh
      (U.mm false (lk uF (lk ofF a b c) (lk ofB a b c) (lk ofC a b c)) (lk uF (lk ofF x y z) (lk ofB x y z) (lk ofC x y z))) (lk euG (U.mm true (U.sub IntKind.i64 (lk uF (lk ofF a b c)
      (lk ofB a b c) (lk ofC a b c)) (lk uF (lk ofF x y z) (lk ofB x y z) (lk ofC x y z))) (U.sub IntKind.i64 (lk uF (lk ofF x y z) (lk ofB x y z) (lk ofC x y z)) (lk uF (lk ofF a b c)
      (lk ofB a b c) (lk ofC a b c)))) (lk uB (lk ofF x y z) (lk ofB x y z) (lk ofC x y z))) (U.add IntKind.i64 (U.quo IntKind.i64 (U.sub IntKind.i64 (U.mm true (lk sLast (lk uF (lk ofF a
      b c) (lk ofB a b c) (lk ofC a b c)) (lk uB (lk ofF a b c) (lk ofB a b c) (lk ofC a b c)) (lk ofC a b c)) (lk sLast (lk uF (lk ofF x y z) (lk ofB x y z) (lk ofC x y z)) (lk uB (lk
      ofF x y z) (lk ofB x y z) (lk ofC x y z)) (lk ofC x y z))) (U.mm false (lk uF (lk ofF a b c) (lk ofB a b c) (lk ofC a b c)) (lk uF (lk ofF x y z) (lk ofB x y z) (lk ofC x y z))))
      (lk euG (U.mm true (U.sub IntKind.i64 (lk uF (lk ofF a b c) (lk ofB a b c) (lk ofC a b c)) (lk uF (lk ofF x y z) (lk ofB x y z) (lk ofC x y z))) (U.sub IntKind.i64 (lk uF (lk ofF x
      y z) (lk ofB x y z) (lk ofC x y z)) (lk uF (lk ofF a b c) (lk ofB a b c) (lk ofC a b c)))) (lk uB (lk ofF x y z) (lk ofB x y z) (lk ofC x y z)))) (1 : Int)))), SV.lit (Value.int
      IntKind.i64 (lk nStr (U.mm false (lk uF (lk ofF a b c) (lk ofB a b c) (lk ofC a b c)) (lk uF (lk ofF x y z) (lk ofB x y z) (lk ofC x y z))) (lk euG (U.mm true (U.sub IntKind.i64 (lk
      uF (lk ofF a b c) (lk ofB a b c) (lk ofC a b c)) (lk uF (lk ofF x y z) (lk ofB x y z) (lk ofC x y z))) (U.sub IntKind.i64 (lk uF (lk ofF x y z) (lk ofB x y z) (lk ofC x y z)) (lk uF
      (lk ofF a b c) (lk ofB a b c) (lk ofC a b c)))) (lk uB (lk ofF x y z) (lk ofB x y z) (lk ofC x y z))) (U.add IntKind.i64 (U.quo IntKind.i64 (U.sub IntKind.i64 (U.mm true (lk sLast
      (lk uF (lk ofF a b c) (lk ofB a b c) (lk ofC a b c)) (lk uB (lk ofF a b c) (lk ofB a b c) (lk ofC a b c)) (lk ofC a b c)) (lk sLast (lk uF (lk ofF x y z) (lk ofB x y z) (lk ofC x y
      z)) (lk uB (lk ofF x y z) (lk ofB x y z) (lk ofC x y z)) (lk ofC x y z))) (U.mm false (lk uF (lk ofF a b c) (lk ofB a b c) (lk ofC a b c)) (lk uF (lk ofF x y z) (lk ofB x y z) (lk
      ofC x y z)))) (lk euG (U.mm true (U.sub IntKind.i64 (lk uF (lk ofF a b c) (lk ofB a b c) (lk ofC a b c)) (lk uF (lk ofF x y z) (lk ofB x y z) (lk ofC x y z))) (U.sub IntKind.i64 (lk
      uF (lk ofF x y z) (lk ofB x y z) (lk ofC x y z)) (lk uF (lk ofF a b c) (lk ofB a b c) (lk ofC a b c)))) (lk uB (lk ofF x y z) (lk ofB x y z) (lk ofC x y z)))) (1 : Int))))], SV.lit
      (Value.int IntKind.i64 (lk nErr (U.mm false (lk uF (lk ofF a b c) (lk ofB a b c) (lk ofC a b c)) (lk uF (lk ofF x y z) (lk ofB x y z) (lk ofC x y z))) (lk euG (U.mm true (U.sub
      IntKind.i64 (lk uF (lk ofF a b c) (lk ofB a b c) (lk ofC a b c)) (lk uF (lk ofF x y z) (lk ofB x y z) (lk ofC x y z))) (U.sub IntKind.i64 (lk uF (lk ofF x y z) (lk ofB x y z) (lk
      ofC x y z)) (lk uF (lk ofF a b c) (lk ofB a b c) (lk ofC a b c)))) (lk uB (lk ofF x y z) (lk ofB x y z) (lk ofC x y z))) (U.add IntKind.i64 (U.quo IntKind.i64 (U.sub IntKind.i64
      (U.mm true (lk sLast (lk uF (lk ofF a b c) (lk ofB a b c) (lk ofC a b c)) (lk uB (lk ofF a b c) (lk ofB a b c) (lk ofC a b c)) (lk ofC a b c)) (lk sLast (lk uF (lk ofF x y z) (lk
      ofB x y z) (lk ofC x y z)) (lk uB (lk ofF x y z) (lk ofB x y z) (lk ofC x y z)) (lk ofC x y z))) (U.mm false (lk uF (lk ofF a b c) (lk ofB a b c) (lk ofC a b c)) (lk uF (lk ofF x y
      z) (lk ofB x y z) (lk ofC x y z)))) (lk euG (U.mm true (U.sub IntKind.i64 (lk uF (lk ofF a b c) (lk ofB a b c) (lk ofC a b c)) (lk uF (lk ofF x y z) (lk ofB x y z) (lk ofC x y z)))
      (U.sub IntKind.i64 (lk uF (lk ofF x y z) (lk ofB x y z) (lk ofC x y z)) (lk uF (lk ofF a b c) (lk ofB a b c) (lk ofC a b c)))) (lk uB (lk ofF x y z) (lk ofB x y z) (lk ofC x y z))))
      (1 : Int))))])))))) (T.br (U.eq (U.mm true (U.sub IntKind.i64 (lk uF (lk ofF a b c) (lk ofB a b c) (lk ofC a b c)) (lk uF (lk ofF x y z) (lk ofB x y z) (lk ofC x y z))) (U.sub
      IntKind.i64 (lk uF (lk ofF x y z) (lk ofB x y z) (lk ofC x y z)) (lk uF (lk ofF a b c) (lk ofB a b c) (lk ofC a b c)))) (0 : Int)) (T.ask ((0 : Int) < (1 : Int) → I64 ((1 : Int) -
      (1 : Int)) ∧ I64 ((1 : Int) * ((1 : Int) - (1 : Int))) ∧ I64 (U.mm false (lk uF (lk ofF a b c) (lk ofB a b c) (lk ofC a b c)) (lk uF (lk ofF x y z) (lk ofB x y z) (lk ofC x y z)) +
      (1 : Int) * ((1 : Int) - (1 : Int)))) (T.ret (SV.tup [SV.agg [SV.lit (Value.int IntKind.i64 (lk nLow (U.mm false (lk uF (lk ofF a b c) (lk ofB a b c) (lk ofC a b c)) (lk uF (lk ofF
      x y z) (lk ofB x y z) (lk ofC x y z))) (1 : Int) (1 : Int))), SV.lit (Value.int IntKind.i64 (lk nHigh (U.mm false (lk uF (lk ofF a b c) (lk ofB a b c) (lk ofC a b c)) (lk uF (lk ofF
      x y z) (lk ofB x y z) (lk ofC x y z))) (1 : Int) (1 : Int))), SV.lit (Value.int IntKind.i64 (lk nStr (U.mm false (lk uF (lk ofF a b c) (lk ofB a b c) (lk ofC a b c)) (lk uF (lk ofF
      x y z) (lk ofB x y z) (lk ofC x y z))) (1 : Int) (1 : Int)))], SV.lit (Value.int IntKind.i64 (lk nErr (U.mm false (lk uF (lk ofF a b c) (lk ofB a b c) (lk ofC a b c)) (lk uF (lk ofF
      x y z) (lk ofB x y z) (lk ofC x y z))) (1 : Int) (1 : Int)))]))) (T.ask (U.mm true (U.sub IntKind.i64 (lk uF (lk ofF a b c) (lk ofB a b c) (lk ofC a b c)) (lk uF (lk ofF x y z) (lk
      ofB x y z) (lk ofC x y z))) (U.sub IntKind.i64 (lk uF (lk ofF x y z) (lk ofB x y z) (lk ofC x y z)) (lk uF (lk ofF a b c) (lk ofB a b c) (lk ofC a b c))) ≠ (0 : Int)) (T.ask ((0 :
      Int) < U.add IntKind.i64 (U.quo IntKind.i64 (U.sub IntKind.i64 (U.mm true (lk sLast (lk uF (lk ofF a b c) (lk ofB a b c) (lk ofC a b c)) (lk uB (lk ofF a b c) (lk ofB a b c) (lk ofC
      a b c)) (lk ofC a b c)) (lk sLast (lk uF (lk ofF x y z) (lk ofB x y z) (lk ofC x y z)) (lk uB (lk ofF x y z) (lk ofB x y z) (lk ofC x y z)) (lk ofC x y z))) (U.mm false (lk uF (lk
      ofF a b c) (lk ofB a b c) (lk ofC a b c)) (lk uF (lk ofF x y z) (lk ofB x y z) (lk ofC x y z)))) (U.mm true (U.sub IntKind.i64 (lk uF (lk ofF a b c) (lk ofB a b c) (lk ofC a b c))
      (lk uF (lk ofF x y z) (lk ofB x y z) (lk ofC x y z))) (U.sub IntKind.i64 (lk uF (lk ofF x y z) (lk ofB x y z) (lk ofC x y z)) (lk uF (lk ofF a b c) (lk ofB a b c) (lk ofC a b c)))))
      (1 : Int) → I64 (U.add IntKind.i64 (U.quo IntKind.i64 (U.sub IntKind.i64 (U.mm true (lk sLast (lk uF (lk ofF a b c) (lk ofB a b c) (lk ofC a b c)) (lk uB (lk ofF a b c) (lk ofB a b
      c) (lk ofC a b c)) (lk ofC a b c)) (lk sLast (lk uF (lk ofF x y z) (lk ofB x y z) (lk ofC x y z)) (lk uB (lk ofF x y z) (lk ofB x y z) (lk ofC x y z)) (lk ofC x y z))) (U.mm false
      (lk uF (lk ofF a b c) (lk ofB a b c) (lk ofC a b c)) (lk uF (lk ofF x y z) (lk ofB x y z) (lk ofC x y z)))) (U.mm true (U.sub IntKind.i64 (lk uF (lk ofF a b c) (lk ofB a b c) (lk
      ofC a b c)) (lk uF (lk ofF x y z) (lk ofB x y z) (lk ofC x y z))) (U.sub IntKind.i64 (lk uF (lk ofF x y z) (lk ofB x y z) (lk ofC x y z)) (lk uF (lk ofF a b c) (lk ofB a b c) (lk
      ofC a b c))))) (1 : Int) - (1 : Int)) ∧ I64 (U.mm true (U.sub IntKind.i64 (lk uF (lk ofF a b c) (lk ofB a b c) (lk ofC a b c)) (lk uF (lk ofF x y z) (lk ofB x y z) (lk ofC x y z)))
      (U.sub IntKind.i64 (lk uF (lk ofF x y z) (lk ofB x y z) (lk ofC x y z)) (lk uF (lk ofF a b c) (lk ofB a b c) (lk ofC a b c))) * (U.add IntKind.i64 (U.quo IntKind.i64 (U.sub
      IntKind.i64 (U.mm true (lk sLast (lk uF (lk ofF a b c) (lk ofB a b c) (lk ofC a b c)) (lk uB (lk ofF a b c) (lk ofB a b c) (lk ofC a b c)) (lk ofC a b c)) (lk sLast (lk uF (lk ofF x
      y z) (lk ofB x y z) (lk ofC x y z)) (lk uB (lk ofF x y z) (lk ofB x y z) (lk ofC x y z)) (lk ofC x y z))) (U.mm false (lk uF (lk ofF a b c) (lk ofB a b c) (lk ofC a b c)) (lk uF (lk
      ofF x y z) (lk ofB x y z) (lk ofC x y z)))) (U.mm true (U.sub IntKind.i64 (lk uF (lk ofF a b c) (lk ofB a b c) (lk ofC a b c)) (lk uF (lk ofF x y z) (lk ofB x y z) (lk ofC x y z)))
      (U.sub IntKind.i64 (lk uF (lk ofF x y z) (lk ofB x y z) (lk ofC x y z)) (lk uF (lk ofF a b c) (lk ofB a b c) (lk ofC a b c))))) (1 : Int) - (1 : Int))) ∧ I64 (U.mm false (lk uF (lk
      ofF a b c) (lk ofB a b c) (lk ofC a b c)) (lk uF (lk ofF x y z) (lk ofB x y z) (lk ofC x y z)) + U.mm true (U.sub IntKind.i64 (lk uF (lk ofF a b c) (lk ofB a b c) (lk ofC a b c))
      (lk uF (lk ofF x y z) (lk ofB x y z) (lk ofC x y z))) (U.sub IntKind.i64 (lk uF (lk ofF x y z) (lk ofB x y z) (lk ofC x y z)) (lk uF (lk ofF a b c) (lk ofB a b c) (lk ofC a b c))) *
      (U.add IntKind.i64 (U.quo IntKind.i64 (U.sub IntKind.i64 (U.mm true (lk sLast (lk uF (lk ofF a b c) (lk ofB a b c) (lk ofC a b c)) (lk uB (lk ofF a b c) (lk ofB a b c) (lk ofC a b
      c)) (lk ofC a b c)) (lk sLast (lk uF (lk ofF x y z) (lk ofB x y z) (lk ofC x y z)) (lk uB (lk ofF x y z) (lk ofB x y z) (lk ofC x y z)) (lk ofC x y z))) (U.mm false (lk uF (lk ofF a
      b c) (lk ofB a b c) (lk ofC a b c)) (lk uF (lk ofF x y z) (lk ofB x y z) (lk ofC x y z)))) (U.mm true (U.sub IntKind.i64 (lk uF (lk ofF a b c) (lk ofB a b c) (lk ofC a b c)) (lk uF
      (lk ofF x y z) (lk ofB x y z) (lk ofC x y z))) (U.sub IntKind.i64 (lk uF (lk ofF x y z) (lk ofB x y z) (lk ofC x y z)) (lk uF (lk ofF a b c) (lk ofB a b c) (lk ofC a b c))))) (1 :
      Int) - (1 : Int)))) (T.ret (SV.tup [SV.agg [SV.lit (Value.int IntKind.i64 (lk nLow (U.mm false (lk uF (lk ofF a b c) (lk ofB a b c) (lk ofC a b c)) (lk uF (lk ofF x y z) (lk ofB x y
      z) (lk ofC x y z))) (U.mm true (U.sub IntKind.i64 (lk uF (lk ofF a b c) (lk ofB a b c) (lk ofC a b c)) (lk uF (lk ofF x y z) (lk ofB x y z) (lk ofC x y z))) (U.sub IntKind.i64 (lk
      uF (lk ofF x y z) (lk ofB x y z) (lk ofC x y z)) (lk uF (lk ofF a b c) (lk ofB a b c) (lk ofC a b c)))) (U.add IntKind.i64 (U.quo IntKind.i64 (U.sub IntKind.i64 (U.mm true (lk sLast
      (lk uF (lk ofF a b c) (lk ofB a b c) (lk ofC a b c)) (lk uB (lk ofF a b c) (lk ofB a b c) (lk ofC a b c)) (lk ofC a b c)) (lk sLast (lk uF (lk ofF x y z) (lk ofB x y z) (lk ofC x y
      z)) (lk uB (lk ofF x y z) (lk ofB x y z) (lk ofC x y z)) (lk ofC x y z))) (U.mm false (lk uF (lk ofF a b c) (lk ofB a b c) (lk ofC a b c)) (lk uF (lk ofF x y z) (lk ofB x y z) (lk
      ofC x y z)))) (U.mm true (U.sub IntKind.i64 (lk uF (lk ofF a b c) (lk ofB a b c) (lk ofC a b c)) (lk uF (lk ofF x y z) (lk ofB x y z) (lk ofC x y z))) (U.sub IntKind.i64 (lk uF (lk
      ofF x y z) (lk ofB x y z) (lk ofC x y z)) (lk uF (lk ofF a b c) (lk ofB a b c) (lk ofC a b c))))) (1 : Int)))), SV.lit (Value.int IntKind.i64 (lk nHigh (U.mm false (lk uF (lk ofF a
      b c) (lk ofB a b c) (lk ofC a b c)) (lk uF (lk ofF x y z) (lk ofB x y z) (lk ofC x y z))) (U.mm true (U.sub IntKind.i64 (lk uF (lk ofF a b c) (lk ofB a b c) (lk ofC a b c)) (lk uF
      (lk ofF x y z) (lk ofB x y z) (lk ofC x y z))) (U.sub IntKind.i64 (lk uF (lk ofF x y z) (lk ofB x y z) (lk ofC x y z)) (lk uF (lk ofF a b c) (lk ofB a b c) (lk ofC a b c)))) (U.add
      IntKind.i64 (U.quo IntKind.i64 (U.sub IntKind.i64 (U.mm true (lk sLast (lk uF (lk ofF a b c) (lk ofB a b c) (lk ofC a b c)) (lk uB (lk ofF a b c) (lk ofB a b c) (lk ofC a b c)) (lk
      ofC a b c)) (lk sLast (lk uF (lk ofF x y z) (lk ofB x y z) (lk ofC x y z)) (lk uB (lk ofF x y z) (lk ofB x y z) (lk ofC x y z)) (lk ofC x y z))) (U.mm false (lk uF (lk ofF a b c)
      (lk ofB a b c) (lk ofC a b c)) (lk uF (lk ofF x y z) (lk ofB x y z) (lk ofC x y z)))) (U.mm true (U.sub IntKind.i64 (lk uF (lk ofF a b c) (lk ofB a b c) (lk ofC a b c)) (lk uF (lk
      ofF x y z) (lk ofB x y z) (lk ofC x y z))) (U.sub IntKind.i64 (lk uF (lk ofF x y z) (lk ofB x y z) (lk ofC x y z)) (lk uF (lk ofF a b c) (lk ofB a b c) (lk ofC a b c))))) (1 :
      Int)))), SV.lit (Value.int IntKind.i64 (lk nStr (U.mm false (lk uF (lk ofF a b c) (lk ofB a b c) (lk ofC a b c)) (lk uF (lk ofF x y z) (lk ofB x y z) (lk ofC x y z))) (U.mm true
      (U.sub IntKind.i64 (lk uF (lk ofF a b c) (lk ofB a b c) (lk ofC a b c)) (lk uF (lk ofF x y z) (lk ofB x y z) (lk ofC x y z))) (U.sub IntKind.i64 (lk uF (lk ofF x y z) (lk ofB x y z)
      (lk ofC x y z)) (lk uF (lk ofF a b c) (lk ofB a b c) (lk ofC a b c)))) (U.add IntKind.i64 (U.quo IntKind.i64 (U.sub IntKind.i64 (U.mm true (lk sLast (lk uF (lk ofF a b c) (lk ofB a
      b c) (lk ofC a b c)) (lk uB (lk ofF a b c) (lk ofB a b c) (lk ofC a b c)) (lk ofC a b c)) (lk sLast (lk uF (lk ofF x y z) (lk ofB x y z) (lk ofC x y z)) (lk uB (lk ofF x y z) (lk
      ofB x y z) (lk ofC x y z)) (lk ofC x y z))) (U.mm false (lk uF (lk ofF a b c) (lk ofB a b c) (lk ofC a b c)) (lk uF (lk ofF x y z) (lk ofB x y z) (lk ofC x y z)))) (U.mm true (U.sub
      IntKind.i64 (lk uF (lk ofF a b c) (lk ofB a b c) (lk ofC a b c)) (lk uF (lk ofF x y z) (lk ofB x y z) (lk ofC x y z))) (U.sub IntKind.i64 (lk uF (lk ofF x y z) (lk ofB x y z) (lk
      ofC x y z)) (lk uF (lk ofF a b c) (lk ofB a b c) (lk ofC a b c))))) (1 : Int))))], SV.lit (Value.int IntKind.i64 (lk nErr (U.mm false (lk uF (lk ofF a b c) (lk ofB a b c) (lk ofC a
      b c)) (lk uF (lk ofF x y z) (lk ofB x y z) (lk ofC x y z))) (U.mm true (U.sub IntKind.i64 (lk uF (lk ofF a b c) (lk ofB a b c) (lk ofC a b c)) (lk uF (lk ofF x y z) (lk ofB x y z)
      (lk ofC x y z))) (U.sub IntKind.i64 (lk uF (lk ofF x y z) (lk ofB x y z) (lk ofC x y z)) (lk uF (lk ofF a b c) (lk ofB a b c) (lk ofC a b c)))) (U.add IntKind.i64 (U.quo IntKind.i64
      (U.sub IntKind.i64 (U.mm true (lk sLast (lk uF (lk ofF a b c) (lk ofB a b c) (lk ofC a b c)) (lk uB (lk ofF a b c) (lk ofB a b c) (lk ofC a b c)) (lk ofC a b c)) (lk sLast (lk uF
      (lk ofF x y z) (lk ofB x y z) (lk ofC x y z)) (lk uB (lk ofF x y z) (lk ofB x y z) (lk ofC x y z)) (lk ofC x y z))) (U.mm false (lk uF (lk ofF a b c) (lk ofB a b c) (lk ofC a b c))
      (lk uF (lk ofF x y z) (lk ofB x y z) (lk ofC x y z)))) (U.mm true (U.sub IntKind.i64 (lk uF (lk ofF a b c) (lk ofB a b c) (lk ofC a b c)) (lk uF (lk ofF x y z) (lk ofB x y z) (lk
      ofC x y z))) (U.sub IntKind.i64 (lk uF (lk ofF x y z) (lk ofB x y z) (lk ofC x y z)) (lk uF (lk ofF a b c) (lk ofB a b c) (lk ofC a b c))))) (1 : Int))))])))))))))))))))) := by kernel_rfl
set_option maxHeartbeats 1000000 in
theorem Hull_ok : ConOK P 49 c_Hull := con_of (allOKL mixed ke_ok l49_ok) 10 49 fun args r h => by
  unfold c_Hull at h
  split at h
  · rename_i a b c x y z
    have hp := (T.is_ask h).1
    have h := (T.is_ask h).2
    obtain rfl := T.is_ret h
    rw [t_Hull]
    obtain ⟨ha, hb, hc, hx, hy, hz⟩ := hp
    have f1 : uF (ofF a b c) (ofB a b c) (ofC a b c) = sA a b c := rfl
    have f2 : uB (ofF a b c) (ofB a b c) (ofC a b c) = sS a b c := rfl
    have f3 : uF (ofF x y z) (ofB x y z) (ofC x y z) = sA x y z := rfl
    have f4 : uB (ofF x y z) (ofB x y z) (ofC x y z) = sS x y z := rfl
    simp only [lk_eq, f1, f2, f3, f4, mm_max, mm_min]
    refine ⟨⟨ha, hb, hc, hx, hy, hz⟩, fun h => ?_, fun h => ?_⟩
    · rw [U.ne_t] at h
      simp only [hlL, hlH, hlS, hlE, if_pos h]
      exact rfl
    · rw [U.ne_f] at h
      obtain ⟨r1, r2⟩ := ckd_right h
      have hn : ¬ ckd a b c x y z ≠ 0 := by simp [h]
      refine ⟨of_ask r1 ha hb hc, up_ask r1, of_ask r2 hx hy hz, up_ask r2, ?_⟩
      have s1 := up_ser r1
      have s2 := up_ser r2
      simp only [hlL, hlH, hlS, hlE, if_neg hn, haF, haB, haC]
      generalize sA a b c = A at *
      generalize sS a b c = s at *
      generalize ofC a b c = C at *
      generalize sA x y z = B at *
      generalize sS x y z = t at *
      generalize ofC x y z = D at *
      by_cases hC : C = 0
      · refine ⟨fun _ => ⟨fun hd => ?_, ?_⟩, fun h => absurd hC (by rwa [U.eq_f] at h)⟩
        · obtain ⟨b1, b2, b3, b4, b5, b6⟩ := s2.resolve_left (by omega)
          have hB1 := mulle (x := 0) (y := D - 1) b3 (by omega)
          rw [Int.mul_zero] at hB1
          unfold I64; omega
        · simp only [huF, huB, huC, if_pos hC]
          exact rfl
      by_cases hD : D = 0
      · refine ⟨fun h => absurd (by rwa [U.eq_t] at h) hC, fun _ => ⟨fun _ => ⟨fun hd => ?_, ?_⟩, fun h => absurd hD (by rwa [U.eq_f] at h)⟩⟩
        · obtain ⟨a1, a2, a3, a4, a5, a6⟩ := s1.resolve_left (by omega)
          have hA1 := mulle (x := 0) (y := C - 1) a3 (by omega)
          rw [Int.mul_zero] at hA1
          unfold I64; omega
        · simp only [huF, huB, huC, if_neg hC, if_pos hD]
          exact rfl
      obtain ⟨a1, a2, a3, a4, a5, a6⟩ := s1.resolve_left hC
      obtain ⟨b1, b2, b3, b4, b5, b6⟩ := s2.resolve_left hD
      have hA1 := mulle (x := 0) (y := C - 1) a3 (by omega)
      have hB1 := mulle (x := 0) (y := D - 1) b3 (by omega)
      rw [Int.mul_zero] at hA1 hB1
      have e1 : U.sub .i64 A B = A - B := U.sub64 (by unfold I64; omega)
      have e2 : U.sub .i64 B A = B - A := U.sub64 (by unfold I64; omega)
      have e3 : max (A - B) (B - A) = huD A B := rfl
      have e4 : max (sLast A s C) (sLast B t D) = huX A s C B t D := rfl
      have hXb : min A B ≤ huX A s C B t D ∧ huX A s C B t D ≤ 1000000 := by unfold huX sLast; omega
      have hDb : 0 ≤ huD A B ∧ huD A B ≤ 2000000 := by unfold huD; omega
      simp only [e1, e2, e3, e4]
      have f1 : U.sub .i64 (huX A s C B t D) (min A B) = huX A s C B t D - min A B := U.sub64 (by unfold I64; omega)
      have fin : ∀ g, hu2 A s C B t D = g → 0 ≤ g → T.All (fun x => x = SV.tup [SV.agg [SV.lit (.int .i64 (nLow (huF A s C B t D) (huB A s C B t D) (huC A s C B t D))), SV.lit (.int .i64 (nHigh (huF A s C B t D) (huB A s C B t D) (huC A s C B t D))), SV.lit (.int .i64 (nStr (huF A s C B t D) (huB A s C B t D) (huC A s C B t D)))], SV.lit (.int .i64 (nErr (huF A s C B t D) (huB A s C B t D) (huC A s C B t D)))])
          (T.br (U.eq g 0) (T.ask ((0 : Int) < 1 → I64 (1 - 1) ∧ I64 (1 * (1 - 1)) ∧ I64 (min A B + 1 * (1 - 1)))
              (T.ret (SV.tup [SV.agg [SV.lit (.int .i64 (nLow (min A B) 1 1)), SV.lit (.int .i64 (nHigh (min A B) 1 1)), SV.lit (.int .i64 (nStr (min A B) 1 1))], SV.lit (.int .i64 (nErr (min A B) 1 1))])))
            (T.ask (g ≠ 0) (T.ask (0 < U.add .i64 (U.quo .i64 (U.sub .i64 (huX A s C B t D) (min A B)) g) 1 → I64 (U.add .i64 (U.quo .i64 (U.sub .i64 (huX A s C B t D) (min A B)) g) 1 - 1) ∧ I64 (g * (U.add .i64 (U.quo .i64 (U.sub .i64 (huX A s C B t D) (min A B)) g) 1 - 1)) ∧ I64 (min A B + g * (U.add .i64 (U.quo .i64 (U.sub .i64 (huX A s C B t D) (min A B)) g) 1 - 1)))
              (T.ret (SV.tup [SV.agg [SV.lit (.int .i64 (nLow (min A B) g (U.add .i64 (U.quo .i64 (U.sub .i64 (huX A s C B t D) (min A B)) g) 1))), SV.lit (.int .i64 (nHigh (min A B) g (U.add .i64 (U.quo .i64 (U.sub .i64 (huX A s C B t D) (min A B)) g) 1))), SV.lit (.int .i64 (nStr (min A B) g (U.add .i64 (U.quo .i64 (U.sub .i64 (huX A s C B t D) (min A B)) g) 1)))], SV.lit (.int .i64 (nErr (min A B) g (U.add .i64 (U.quo .i64 (U.sub .i64 (huX A s C B t D) (min A B)) g) 1)))]))))) := fun g hg hg0 => by
        have hF : huF A s C B t D = min A B := by simp only [huF, if_neg hC, if_neg hD]
        by_cases hz : g = 0
        · have hBB : huB A s C B t D = 1 := by simp only [huB, if_neg hC, if_neg hD, hg, if_pos hz]
          have hCC : huC A s C B t D = 1 := by simp only [huC, if_neg hC, if_neg hD, hg, if_pos hz]
          rw [hF, hBB, hCC]
          refine ⟨fun _ => ⟨fun _ => by unfold I64; omega, rfl⟩, fun h => absurd hz (by rwa [U.eq_f] at h)⟩
        · have hBB : huB A s C B t D = g := by simp only [huB, if_neg hC, if_neg hD, hg, if_neg hz]
          have hCC : huC A s C B t D = (huX A s C B t D - min A B).tdiv g + 1 := by simp only [huC, if_neg hC, if_neg hD, hg, if_neg hz]
          have t1 := Int.tdiv_eq_ediv_of_nonneg (b := g) (show 0 ≤ huX A s C B t D - min A B by omega)
          obtain ⟨q1, q2, q3, q4, q5, q6, q7, q8⟩ := einv_q (x0 := huX A s C B t D - min A B) (y0 := g) (by omega) (by omega)
          have t2 : g * ((huX A s C B t D - min A B) / g) = (huX A s C B t D - min A B) / g * g := Int.mul_comm _ _
          have f2 : U.quo .i64 (huX A s C B t D - min A B) g = (huX A s C B t D - min A B).tdiv g := U.quo64 (by rw [t1]; unfold I64; omega)
          have f3 : U.add .i64 ((huX A s C B t D - min A B).tdiv g) 1 = (huX A s C B t D - min A B).tdiv g + 1 := U.add64 (by rw [t1]; unfold I64; omega)
          simp only [f1, f2, f3]
          rw [hF, hBB, hCC]
          refine ⟨fun h => absurd (by rwa [U.eq_t] at h) hz, fun _ => ⟨hz, fun _ => ?_, rfl⟩⟩
          rw [show (huX A s C B t D - min A B).tdiv g + 1 - 1 = (huX A s C B t D - min A B) / g by omega, t2]
          unfold I64; omega
      have hAC : I64 (C - 1) ∧ I64 (s * (C - 1)) ∧ I64 (A + s * (C - 1)) := by unfold I64; omega
      have hBD : I64 (D - 1) ∧ I64 (t * (D - 1)) ∧ I64 (B + t * (D - 1)) := by unfold I64; omega
      have g1 := eu_le hDb.1 a3
      have g2 := eu_le (show 0 ≤ euG (huD A B) s by omega) b3
      have g3 := eu_le hDb.1 b3
      refine ⟨fun h => absurd (by rwa [U.eq_t] at h) hC, fun _ => ⟨fun h => absurd (by rwa [U.eq_t] at h) hD, fun _ => ⟨hAC, hBD, fun h1 => ⟨⟨hDb.1, by omega, by omega, by omega⟩, fun h2 => ⟨⟨by omega, by omega, by omega, by omega⟩, fin _ ?_ (by omega)⟩, fun h2 => fin _ ?_ (by omega)⟩, fun h1 => ⟨fun h2 => ⟨⟨hDb.1, by omega, by omega, by omega⟩, fin _ ?_ (by omega)⟩, fun h2 => fin _ ?_ hDb.1⟩⟩⟩⟩
      · rw [U.gt_t] at h1 h2
        simp only [hu2, hu1, if_pos h1, if_pos h2]
      · rw [U.gt_t] at h1
        rw [U.gt_f] at h2
        simp only [hu2, hu1, if_pos h1, if_neg (show ¬ D > 1 by omega)]
      · rw [U.gt_f] at h1
        rw [U.gt_t] at h2
        simp only [hu2, hu1, if_neg (show ¬ C > 1 by omega), if_pos h2]
      · rw [U.gt_f] at h1 h2
        simp only [hu2, hu1, if_neg (show ¬ C > 1 by omega), if_neg (show ¬ D > 1 by omega)]
  · exact h.elim
end Go.RX.Span

/- Ranges: Intersect, Hull and Within as sets, in plain Lean. -/
set_option linter.unusedVariables false
set_option linter.unusedSimpArgs false
namespace Go.RX.Span
open Go Go.RX

theorem sIn_one {F s t n : Int} : SIn F s 1 n ↔ SIn F t 1 n := by
  unfold SIn
  simp only [Int.sub_self, Int.mul_zero, Int.add_zero]
  constructor <;> rintro ⟨h1, h2, h3, _⟩ <;> exact ⟨h1, h2, h3, 0, by omega⟩
/-- A right range out of a series: the same numbers. -/
theorem rin_of {L H S F B C : Int} (hC : 1 ≤ C) (hr : Right L H S) (hLH : L ≤ H) (h1 : L = F) (hc : ofC L H S = C) (hS : C ≠ 1 → absI S = B) (n : Int) : RIn L H S n ↔ SIn F B C n := by
  obtain ⟨u1, u2⟩ := up_of hr hLH
  unfold RIn sA sS
  rw [u1, u2, hc, h1]
  by_cases h : C = 1
  · subst h; exact sIn_one
  · rw [hS h]
theorem rin_empty (n : Int) : ¬ RIn 1 0 1 n := fun h => by
  have := h.2.2.1
  have e : ofC 1 0 1 = 0 := rfl
  rw [e] at this
  omega
theorem right_empty : Right 1 0 1 := ⟨by omega, .inl ⟨rfl, rfl, rfl⟩⟩

/-- A series made a range in a direction. -/
theorem mv_set {F B C c : Int} (h : Sw F B C) : nErr (kF F B C c) (kB F B C c) C = 0 ∧ Right (nLow (kF F B C c) (kB F B C c) C) (nHigh (kF F B C c) (kB F B C c) C) (nStr (kF F B C c) (kB F B C c) C) ∧
    ∀ n, RIn (nLow (kF F B C c) (kB F B C c) C) (nHigh (kF F B C c) (kB F B C c) C) (nStr (kF F B C c) (kB F B C c) C) n ↔ SIn F B C n := by
  by_cases hC : C = 0
  · subst hC
    simp only [nErr, nLow, nHigh, nStr, Int.le_refl, if_true]
    exact ⟨trivial, right_empty, fun n => ⟨fun h => absurd h (rin_empty n), fun h => by have := h.2.2.1; omega⟩⟩
  · obtain ⟨h1, h2, h3, h4, h5⟩ := h.resolve_left hC
    obtain ⟨q1, q2, q3, q4⟩ := nrm_like (f := F) (s := B) (C := C) (c := c) h2
    have m0 := mulle (x := 0) (y := C - 1) h2 (by omega)
    rw [Int.mul_zero] at m0
    have n1 : ¬ C ≤ 0 := by omega
    have e0 : mvE F B C = 0 := by unfold mvE; rw [if_neg n1, if_pos (by omega)]
    rw [q1, q2, q3, q4, e0]
    simp only [mvLow, mvHigh, mvStr, e0, if_neg n1, if_true]
    refine ⟨trivial, ?_⟩
    by_cases hc : c < 0
    · obtain ⟨g1, g2, g3, g4⟩ := rgD (F := F + B * (C - 1)) (s := B) (q := C - 1) h2 (by omega) (by omega) (by omega)
      rw [show F + B * (C - 1) - B * (C - 1) = F by omega] at g1 g2 g3
      have e : (if C - 1 = 0 then (1 : Int) else -B) = if C = 1 then 1 else if c < 0 then -B else B := by
        by_cases h : C = 1
        · rw [if_pos (by omega), if_pos h]
        · rw [if_neg (by omega), if_neg h, if_pos hc]
      rw [e] at g1 g3
      refine ⟨g1, fun n => rin_of h1 g1 g2 rfl (by omega) (fun h => ?_) n⟩
      rw [if_neg h, if_pos hc, absI_neg (by omega)]; omega
    · obtain ⟨g1, g2, g3, g4⟩ := rgU (F := F) (s := B) (q := C - 1) h2 (by omega) (by omega) (by omega)
      have e : (if C - 1 = 0 then (1 : Int) else B) = if C = 1 then 1 else if c < 0 then -B else B := by
        by_cases h : C = 1
        · rw [if_pos (by omega), if_pos h]
        · rw [if_neg (by omega), if_neg h, if_neg hc]
      rw [e] at g1 g3
      refine ⟨g1, fun n => rin_of h1 g1 g2 rfl (by omega) (fun h => ?_) n⟩
      rw [if_neg h, if_neg hc, absI_pos (by omega)]

theorem ckd_zero {a b c x y z : Int} (h : Right a b c) (h' : Right x y z) : ckd a b c x y z = 0 := by
  unfold ckd; rw [if_neg (by simp [chk_zero.2 h])]; exact chk_zero.2 h'
/-- Intersect of right ranges has the numbers of both. -/
theorem is_set {a b c x y z : Int} (h : Right a b c) (h' : Right x y z) : isEr a b c x y z = 0 ∧ Right (isL a b c x y z) (isH a b c x y z) (isS a b c x y z) ∧ ∀ n, RIn (isL a b c x y z) (isH a b c x y z) (isS a b c x y z) n ↔ RIn a b c n ∧ RIn x y z n := by
  have hn : ¬ ckd a b c x y z ≠ 0 := by simp [ckd_zero h h']
  simp only [isEr, isL, isH, isS, if_neg hn]
  obtain ⟨w1, w2⟩ := is_sw h h'
  obtain ⟨m1, m2, m3⟩ := mv_set (c := c) w1
  exact ⟨m1, m2, fun n => (m3 n).trans (w2 n)⟩
/-- Ranges with the same numbers have the same ends, and the same size. -/
theorem rin_ext {a b c x y z : Int} (h : Right a b c) (h' : Right x y z) (he : ∀ n, RIn a b c n ↔ RIn x y z n) : a = x ∧ b = y ∧ ofC a b c = ofC x y z := by
  obtain ⟨e1, e2⟩ := sIn_ext (up_ser h).sw (up_ser h').sw he
  by_cases hab : a ≤ b
  · obtain ⟨p1, p2, p3, p4, p5, _⟩ := parts h hab
    have hxy : x ≤ y := by
      by_cases hxy : x ≤ y
      · exact hxy
      · have := (empty_of (c := z) hxy).2.2; omega
    obtain ⟨p1', p2', p3', p4', p5', _⟩ := parts h' hxy
    obtain ⟨u1, u2⟩ := up_of h hab
    obtain ⟨v1, v2⟩ := up_of h' hxy
    obtain ⟨k1, k2⟩ := e2 p3
    unfold sA at k1
    unfold sS at k2
    rw [u1, v1] at k1
    rw [u2, v2, p5, p5'] at k2
    exact ⟨k1, by omega, e1⟩
  · have h0 := (empty_of (c := c) hab).2.2
    have hxy : ¬ x ≤ y := fun hxy => by have := (parts h' hxy).2.2.1; omega
    obtain ⟨i1, i2, i3⟩ := empty_is h hab
    obtain ⟨j1, j2, j3⟩ := empty_is h' hxy
    exact ⟨by omega, by omega, e1⟩
/-- Within says what the sets say. -/
theorem wi_set {a b c x y z : Int} (h : Right a b c) (h' : Right x y z) : wiB a b c x y z = true ↔ ∀ n, RIn a b c n → RIn x y z n := by
  have hn : ¬ ckd a b c x y z ≠ 0 := by simp [ckd_zero h h']
  obtain ⟨w1, w2⟩ := is_sw h h'
  simp only [wiB, if_neg hn, decide_eq_true_eq]
  constructor
  · intro hc n hin
    exact ((w2 n).1 (sIn_count w1 (up_ser h).sw (fun n hn => ((w2 n).1 hn).1) hc n hin)).2
  · intro hs
    exact (sIn_ext w1 (up_ser h).sw (fun n => (w2 n).trans ⟨fun g => g.1, fun g => ⟨g, hs n g⟩⟩)).1
end Go.RX.Span

/- Ranges: Hull as a set, in plain Lean. -/
set_option linter.unusedVariables false
set_option linter.unusedSimpArgs false
namespace Go.RX.Span
open Go Go.RX

theorem huD_dvd {A B d : Int} : d ∣ huD A B ↔ d ∣ A - B := by
  unfold huD
  rcases Int.le_total (A - B) (B - A) with h | h
  · rw [Int.max_eq_right h, show A - B = -(B - A) by omega]
    exact Int.dvd_neg.symm
  · rw [Int.max_eq_left h]
theorem hu2_spec {A s C B t D : Int} (hs : 1 ≤ s) (ht : 1 ≤ t) : 0 ≤ hu2 A s C B t D ∧ hu2 A s C B t D ∣ A - B ∧ (C > 1 → hu2 A s C B t D ∣ s) ∧ (D > 1 → hu2 A s C B t D ∣ t) ∧
    ∀ d : Int, d ∣ A - B → (C > 1 → d ∣ s) → (D > 1 → d ∣ t) → d ∣ hu2 A s C B t D := by
  have hD0 : 0 ≤ huD A B := by unfold huD; omega
  have h1 : 0 ≤ hu1 A s C B ∧ hu1 A s C B ∣ A - B ∧ (C > 1 → hu1 A s C B ∣ s) ∧ ∀ d : Int, d ∣ A - B → (C > 1 → d ∣ s) → d ∣ hu1 A s C B := by
    unfold hu1
    by_cases hC : C > 1
    · rw [if_pos hC]
      obtain ⟨g1, g2, g3, g4, g5⟩ := eu_le hD0 hs
      exact ⟨by omega, huD_dvd.1 g3, fun _ => g4, fun d h1 h2 => g5 d (huD_dvd.2 h1) (h2 hC)⟩
    · rw [if_neg hC]
      exact ⟨hD0, huD_dvd.1 (Int.dvd_refl _), fun h => absurd h hC, fun d h1 _ => huD_dvd.2 h1⟩
  obtain ⟨a1, a2, a3, a4⟩ := h1
  unfold hu2
  by_cases hD : D > 1
  · rw [if_pos hD]
    obtain ⟨g1, g2, g3, g4, g5⟩ := eu_le a1 ht
    exact ⟨by omega, Int.dvd_trans g3 a2, fun h => Int.dvd_trans g3 (a3 h), fun _ => g4, fun d h1 h2 h3 => g5 d (a4 d h1 h2) (h3 hD)⟩
  · rw [if_neg hD]
    exact ⟨a1, a2, a3, fun h => absurd h hD, fun d h1 h2 _ => a4 d h1 h2⟩

/-- The hull of two series: it has both, and each other series that has both has it. -/
theorem hu_set {A s C B t D : Int} (hA : Ser A s C) (hB : Ser B t D) : Sw (huF A s C B t D) (huB A s C B t D) (huC A s C B t D) ∧
    (∀ n, SIn A s C n → SIn (huF A s C B t D) (huB A s C B t D) (huC A s C B t D) n) ∧ (∀ n, SIn B t D n → SIn (huF A s C B t D) (huB A s C B t D) (huC A s C B t D) n) ∧
    ∀ P u M, (∀ n, SIn A s C n → SIn P u M n) → (∀ n, SIn B t D n → SIn P u M n) → ∀ n, SIn (huF A s C B t D) (huB A s C B t D) (huC A s C B t D) n → SIn P u M n := by
  by_cases hC : C = 0
  · simp only [huF, huB, huC, if_pos hC]
    exact ⟨hB.sw, fun n h => by have := h.2.2.1; omega, fun n h => h, fun P u M _ h => h⟩
  by_cases hD : D = 0
  · simp only [huF, huB, huC, if_neg hC, if_pos hD]
    exact ⟨hA.sw, fun n h => h, fun n h => by have := h.2.2.1; omega, fun P u M h _ => h⟩
  obtain ⟨a1, a2, a3, a4, a5, a6⟩ := hA.resolve_left hC
  obtain ⟨b1, b2, b3, b4, b5, b6⟩ := hB.resolve_left hD
  have hA1 := mulle (x := 0) (y := C - 1) a3 (by omega)
  have hB1 := mulle (x := 0) (y := D - 1) b3 (by omega)
  rw [Int.mul_zero] at hA1 hB1
  obtain ⟨g0, g1, g2, g3, g4⟩ := hu2_spec (A := A) (s := s) (C := C) (B := B) (t := t) (D := D) a3 b3
  simp only [huF, huB, huC, if_neg hC, if_neg hD]
  generalize hu2 A s C B t D = g at *
  by_cases hz : g = 0
  · subst hz
    have hAB : A - B = 0 := Int.zero_dvd.1 g1
    have hC1 : C = 1 := by
      rcases Int.lt_or_le 1 C with h | h
      · have := Int.zero_dvd.1 (g2 h); omega
      · omega
    have hD1 : D = 1 := by
      rcases Int.lt_or_le 1 D with h | h
      · have := Int.zero_dvd.1 (g3 h); omega
      · omega
    subst hC1; subst hD1
    obtain rfl : A = B := by omega
    simp only [if_true, Int.min_self]
    exact ⟨.inr ⟨by omega, by omega, by omega, by omega, by omega⟩, fun n h => sIn_one.1 h, fun n h => sIn_one.1 h, fun P u M h _ n hn => h n (sIn_one.1 hn)⟩
  · simp only [if_neg hz]
    have hg : 1 ≤ g := by omega
    have dA : g ∣ s * (C - 1) := by
      rcases Int.lt_or_le 1 C with h | h
      · exact Int.dvd_trans (g2 h) (Int.dvd_mul_right s _)
      · rw [show C - 1 = 0 by omega, Int.mul_zero]; exact Int.dvd_zero _
    have dB : g ∣ t * (D - 1) := by
      rcases Int.lt_or_le 1 D with h | h
      · exact Int.dvd_trans (g3 h) (Int.dvd_mul_right t _)
      · rw [show D - 1 = 0 by omega, Int.mul_zero]; exact Int.dvd_zero _
    have hX : huX A s C B t D = max (A + s * (C - 1)) (B + t * (D - 1)) := rfl
    obtain ⟨i, hi⟩ := dA
    obtain ⟨j, hj⟩ := dB
    obtain ⟨k, hk⟩ := g1
    have dX : ∃ w, huX A s C B t D - min A B = g * w := by
      rw [hX]
      rcases Int.le_total A B with h | h
      · rw [Int.min_eq_left h]
        rcases Int.le_total (A + s * (C - 1)) (B + t * (D - 1)) with h' | h'
        · rw [Int.max_eq_right h']; exact ⟨j - k, by rw [Int.mul_sub g j k]; omega⟩
        · rw [Int.max_eq_left h']; exact ⟨i, by omega⟩
      · rw [Int.min_eq_right h]
        rcases Int.le_total (A + s * (C - 1)) (B + t * (D - 1)) with h' | h'
        · rw [Int.max_eq_right h']; exact ⟨j, by omega⟩
        · rw [Int.max_eq_left h']; exact ⟨i + k, by rw [Int.mul_add g i k]; omega⟩
    obtain ⟨w, hw⟩ := dX
    have hq : (huX A s C B t D - min A B).tdiv g = w := by rw [hw]; exact Int.mul_tdiv_cancel_left _ (by omega)
    rw [hq]
    have hw0 : 0 ≤ w := by
      rcases Int.lt_or_le w 0 with h | h
      · have := Int.mul_le_mul_of_nonneg_left (show w ≤ -1 by omega) (show (0 : Int) ≤ g by omega); omega
      · exact h
    have hgs : g ≤ 4000000000000 := by
      rcases Int.lt_or_le 1 C with h | h
      · have := Int.le_of_dvd (by omega) (g2 h); omega
      · rcases Int.lt_or_le 1 D with h' | h'
        · have := Int.le_of_dvd (by omega) (g3 h'); omega
        · by_cases hAB : A - B = 0
          · have := g4 0 (by rw [hAB]; exact Int.dvd_refl _) (fun h => by omega) (fun h => by omega)
            exact absurd (Int.zero_dvd.1 this) hz
          · rcases Int.lt_or_le 0 (A - B) with h3 | h3
            · have := Int.le_of_dvd h3 ⟨k, hk⟩; omega
            · have := Int.le_of_dvd (show 0 < B - A by omega) (show g ∣ B - A from ⟨-k, by rw [Int.mul_neg]; omega⟩); omega
    have mA : ∀ n, SIn A s C n → ∃ p, n = min A B + g * p := by
      rintro n ⟨x1, x2, x3, p, hp⟩
      have hd : ∃ v, s * p = g * v := by
        rcases Int.lt_or_le 1 C with h | h
        · obtain ⟨v, hv⟩ := g2 h; exact ⟨v * p, by rw [hv, Int.mul_assoc]⟩
        · have : s * (C - 1) = 0 := by rw [show C - 1 = 0 by omega, Int.mul_zero]
          exact ⟨0, by omega⟩
      obtain ⟨v, hv⟩ := hd
      rcases Int.le_total A B with h | h
      · rw [Int.min_eq_left h]; exact ⟨v, by omega⟩
      · rw [Int.min_eq_right h]; exact ⟨v + k, by rw [Int.mul_add]; omega⟩
    have mB : ∀ n, SIn B t D n → ∃ p, n = min A B + g * p := by
      rintro n ⟨x1, x2, x3, p, hp⟩
      have hd : ∃ v, t * p = g * v := by
        rcases Int.lt_or_le 1 D with h | h
        · obtain ⟨v, hv⟩ := g3 h; exact ⟨v * p, by rw [hv, Int.mul_assoc]⟩
        · have : t * (D - 1) = 0 := by rw [show D - 1 = 0 by omega, Int.mul_zero]
          exact ⟨0, by omega⟩
      obtain ⟨v, hv⟩ := hd
      rcases Int.le_total A B with h | h
      · rw [Int.min_eq_left h]; exact ⟨v - k, by rw [Int.mul_sub]; omega⟩
      · rw [Int.min_eq_right h]; exact ⟨v, by omega⟩
    refine ⟨.inr ⟨by omega, hg, hgs, by omega, by rw [show w + 1 - 1 = w by omega]; omega⟩, fun n hn => ?_, fun n hn => ?_, fun P u M hp hq' n hn => ?_⟩
    · exact ⟨by have := hn.1; omega, by have := hn.2.1; rw [show w + 1 - 1 = w by omega]; omega, by omega, mA n hn⟩
    · exact ⟨by have := hn.1; omega, by have := hn.2.1; rw [show w + 1 - 1 = w by omega]; omega, by omega, mB n hn⟩
    · obtain ⟨x1, x2, x3, p, hpn⟩ := hn
      rw [show w + 1 - 1 = w by omega] at x2
      obtain ⟨y1, y2, y3, i1, e1⟩ := hp A (sIn_first a3 a1)
      obtain ⟨_, y2', _, _⟩ := hp _ (sIn_last a3 a1)
      obtain ⟨z1, z2, z3, j1, e2⟩ := hq' B (sIn_first b3 b1)
      obtain ⟨_, z2', _, _⟩ := hq' _ (sIn_last b3 b1)
      have hu : u ∣ g := by
        refine g4 u ⟨i1 - j1, by rw [Int.mul_sub]; omega⟩ (fun h => ?_) (fun h => ?_)
        · obtain ⟨_, _, _, i2, e3⟩ := hp _ (sIn_second a3 (by omega : 2 ≤ C))
          exact ⟨i2 - i1, by rw [Int.mul_sub]; omega⟩
        · obtain ⟨_, _, _, j2, e4⟩ := hq' _ (sIn_second b3 (by omega : 2 ≤ D))
          exact ⟨j2 - j1, by rw [Int.mul_sub]; omega⟩
      obtain ⟨v, hv⟩ := hu
      refine ⟨by omega, by omega, y3, ?_⟩
      have hvp : g * p = u * (v * p) := by rw [hv, Int.mul_assoc]
      rcases Int.le_total A B with h | h
      · rw [Int.min_eq_left h] at hpn; exact ⟨i1 + v * p, by rw [Int.mul_add]; omega⟩
      · rw [Int.min_eq_right h] at hpn; exact ⟨j1 + v * p, by rw [Int.mul_add]; omega⟩

theorem hl_set {a b c x y z : Int} (h : Right a b c) (h' : Right x y z) : hlE a b c x y z = 0 ∧ Right (hlL a b c x y z) (hlH a b c x y z) (hlS a b c x y z) ∧
    (∀ n, RIn a b c n → RIn (hlL a b c x y z) (hlH a b c x y z) (hlS a b c x y z) n) ∧ (∀ n, RIn x y z n → RIn (hlL a b c x y z) (hlH a b c x y z) (hlS a b c x y z) n) ∧
    ∀ p q r, (∀ n, RIn a b c n → RIn p q r n) → (∀ n, RIn x y z n → RIn p q r n) → ∀ n, RIn (hlL a b c x y z) (hlH a b c x y z) (hlS a b c x y z) n → RIn p q r n := by
  have hn : ¬ ckd a b c x y z ≠ 0 := by simp [ckd_zero h h']
  simp only [hlE, hlL, hlH, hlS, if_neg hn]
  obtain ⟨w1, w2, w3, w4⟩ := hu_set (up_ser h) (up_ser h')
  obtain ⟨m1, m2, m3⟩ := mv_set (c := 0) w1
  simp only [kF, kB, Int.lt_irrefl, if_false] at m1 m2 m3
  exact ⟨m1, m2, fun n hn => (m3 n).2 (w2 n hn), fun n hn => (m3 n).2 (w3 n hn), fun p q r k1 k2 n hn => w4 _ _ _ k1 k2 n ((m3 n).1 hn)⟩
end Go.RX.Span

/- The library's slices.Equal of ranges. -/
set_option linter.unusedVariables false
set_option linter.unusedSimpArgs false
namespace Go.RX.Span
open Go Go.RX

/-- Three numbers are the same. -/
def same3 (d e : Els [.int .i64, .int .i64, .int .i64]) : Prop := d.1 = e.1 ∧ d.2.1 = e.2.1 ∧ d.2.2.1 = e.2.2.1
noncomputable def eqR3 (n : Nat) (f : Nat → Els [.int .i64, .int .i64, .int .i64]) (n1 : Nat) (f1 : Nat → Els [.int .i64, .int .i64, .int .i64]) : Bool := @decide (n = n1 ∧ ∀ i, i < n → same3 (f i) (f1 i)) (Classical.propDecidable _)
theorem eqR3_t {n n1 : Nat} {f f1 : Nat → Els [.int .i64, .int .i64, .int .i64]} : eqR3 n f n1 f1 = true ↔ n = n1 ∧ ∀ i, i < n → same3 (f i) (f1 i) := by
  unfold eqR3
  exact @decide_eq_true_iff _ (Classical.propDecidable _)
structure XG where
  (n n1 : Nat) (f f1 : Nat → Els [.int .i64, .int .i64, .int .i64]) (len : Int) (k : Nat)
noncomputable def VG (x : XG) : Few := ([.row [.int .i64, .int .i64, .int .i64] x.n x.f, .row [.int .i64, .int .i64, .int .i64] x.n1 x.f1, .any, .lit (.int .i64 x.len), .lit (.int .i64 x.k)], [])
noncomputable def OG (x : XG) : Ex × Few := (.exit 0, ([.row [.int .i64, .int .i64, .int .i64] x.n x.f, .row [.int .i64, .int .i64, .int .i64] x.n1 x.f1, .any, .any, .any], []))
noncomputable def OG' : Ex × Few := (.ret, ([.any, .any, .kb false, .any, .any], []))
def PhiG (n0 : Nat) (x : XG) : Prop := (n0 = 0 ∧ x.n = x.n1 ∧ x.len = x.n ∧ x.n ≤ top) ∧ x.k ≤ x.n ∧ ∀ i, i < x.k → same3 (x.f i) (x.f1 i)
def ZG (x : XG) (o : Ex × Few) : Prop := (eqR3 x.n x.f x.n1 x.f1 = true → o = OG x) ∧ (eqR3 x.n x.f x.n1 x.f1 = false → o = OG')
noncomputable def gG : Nat → Few → T (Ex × Few)
  | n0, ([.row [.int .i64, .int .i64, .int .i64] n f, .row [.int .i64, .int .i64, .int .i64] n1 f1, _, .lit (.int .i64 len), .ki .i64 (.ofNat 0)], []) =>
    .ask (PreE n0 n n1 len) (.br (lk eqR3 n f n1 f1) (.ret (.exit 0, ([.row [.int .i64, .int .i64, .int .i64] n f, .row [.int .i64, .int .i64, .int .i64] n1 f1, .any, .any, .any], []))) (.ret (.ret, ([.any, .any, .kb false, .any, .any], []))))
  | _, _ => .stuck 1
noncomputable abbrev l56 : List (Nat × Loops) := [(56, [(4, .sum (few 26 [0, 1, 4, 12, 13] gG))])]
end Go.RX.Span

/- The divisor of the reference: the loop's states. -/
set_option linter.unusedVariables false
set_option linter.unusedSimpArgs false
namespace Go.RX.Span
open Go Go.RX

def gcdI (a b : Int) : Int := Int.gcd a b
def PreD (n0 : Nat) (a b : Int) : Prop := n0 = 0 ∧ 0 ≤ a ∧ 0 ≤ b
structure XD where
  (a b A B : Int)
noncomputable def VD (x : XD) : Few := ([.lit (.int .i64 x.A), .lit (.int .i64 x.B)], [])
noncomputable def OD (x : XD) : Ex × Few := (.exit 0, ([.lit (.int .i64 (gcdI x.a x.b)), .any], []))
def PhiD (n0 : Nat) (x : XD) : Prop := n0 = 0 ∧ 0 ≤ x.A ∧ 0 ≤ x.B ∧ Int.gcd x.A x.B = Int.gcd x.a x.b
noncomputable def gD : Nat → Few → T (Ex × Few)
  | n0, ([.lit (.int .i64 a), .lit (.int .i64 b)], []) => .ask (PreD n0 a b) (.ret (.exit 0, ([.lit (.int .i64 (lk gcdI a b)), .any], [])))
  | _, _ => .stuck 1
noncomputable abbrev l119 : List (Nat × Loops) := [(119, [(1, .sum (few 12 [0, 1] gD))])]
end Go.RX.Span

/- The divisor of the reference: the walk. -/
set_option linter.unusedVariables false
set_option linter.unusedSimpArgs false
set_option maxRecDepth 100000
namespace Go.RX.Span
open Go Go.RX

set_option maxRecDepth 100000 in
theorem t_D (n0 : Nat) (A B : Int) : (sx E0 [] n0 (loopOf P 119 1) (mkS 12 [0, 1] [.lit (.int .i64 A), .lit (.int .i64 B)], [])).bind (proj 12 [0, 1]) =
    T.br (U.ne B (0 : Int)) (T.ask (B ≠ (0 : Int)) (T.ret (Ex.normal, [SV.lit (Value.int IntKind.i64 B), SV.lit (Value.int IntKind.i64 (U.rem A B))], []))) (T.ret (Ex.exit (nat_lit 0),
      [SV.lit (Value.int IntKind.i64 A), SV.lit (Value.int IntKind.i64 B)], [])) := by kernel_rfl
theorem roundD (n0 : Nat) (x : XD) (hx : PhiD n0 x) : ((sx E0 [] n0 (loopOf P 119 1) (mkS 12 [0, 1] (VD x).1, (VD x).2)).bind (proj 12 [0, 1])).All fun r => match r.1 with
      | .normal => ∃ x', PhiD n0 x' ∧ x'.B.toNat < x.B.toNat ∧ Wk 12 [0, 1] n0 r.2 (VD x') ∧ ∀ o, o = OD x' → o = OD x
      | e => ∃ s, (e, s) = OD x ∧ Wk 12 [0, 1] n0 r.2 s := by
  obtain ⟨a, b, A, B⟩ := x
  unfold VD
  dsimp only
  refine T.all_of_eq (t_D n0 A B) ?_
  obtain ⟨h0, hA, hB, hg⟩ := hx
  simp only [] at h0 hA hB hg
  subst h0
  have w0 : ∀ {vs vs' : List SV}, RlL (idR 0) vs vs' → Wk 12 [0, 1] 0 (vs, []) (vs', []) := fun h => wk_of (idR 0) rfl (Nat.zero_le _) (fun b hb => by omega) h trivial
  by_cases hz : B = 0
  · subst hz
    simp only [T.All, U.le_t, U.le_f, U.lt_t, U.lt_f, U.gt_t, U.gt_f, U.ge_t, U.ge_f, U.eq_t, U.eq_f, U.ne_t, U.ne_f, U.not_t, U.not_f, U.andb_t, U.andb_f, SV.lit.injEq, SV.agg.injEq, SV.tup.injEq, List.cons.injEq, Value.int.injEq, Value.bool.injEq, true_and, and_true, lk_eq]
    refine ⟨fun h => absurd rfl h, fun _ => ⟨(OD ⟨a, b, A, 0⟩).2, rfl, w0 ⟨?_, rl_any _, trivial⟩⟩⟩
    show Value.int .i64 A = Value.int .i64 (gcdI a b)
    have : (A.natAbs : Int) = A := Int.natAbs_of_nonneg hA
    rw [Int.gcd_zero_right] at hg
    unfold gcdI
    rw [← hg, this]
  · have e := Int.tmod_eq_emod_of_nonneg hA (b := B)
    have t3 := Int.emod_nonneg A hz
    have t4 := Int.emod_lt_of_pos A (show 0 < B by omega)
    have t5 := Int.mul_ediv_add_emod A B
    simp only [T.All, U.le_t, U.le_f, U.lt_t, U.lt_f, U.gt_t, U.gt_f, U.ge_t, U.ge_f, U.eq_t, U.eq_f, U.ne_t, U.ne_f, U.not_t, U.not_f, U.andb_t, U.andb_f, SV.lit.injEq, SV.agg.injEq, SV.tup.injEq, List.cons.injEq, Value.int.injEq, Value.bool.injEq, true_and, and_true, lk_eq, U.rem_eq]
    refine ⟨fun _ => ⟨hz, ⟨a, b, B, A.tmod B⟩, ⟨rfl, hB, by show 0 ≤ A.tmod B; rw [e]; exact t3, ?_⟩, ?_, w0 ⟨rfl, rfl, trivial⟩, fun o ho => ho⟩, fun h => absurd h hz⟩
    · show Int.gcd B (A.tmod B) = Int.gcd a b
      rw [e, ← hg, show A % B = A - B * (A / B) by omega, Int.gcd_comm A B]
      exact Int.gcd_sub_mul_left_right B A (A / B)
    · show (A.tmod B).toNat < B.toNat
      rw [e]; omega
theorem loopD : LoopOK P (loopOf P 119 1) (few 12 [0, 1] gD) :=
  loop_few (E := E0) mixed E0_ok loopsOK_none 12 [0, 1] (X := XD) gD (fun _ x => VD x) PhiD (fun x => x.B.toNat) (fun _ x o => o = OD x)
    (fun n0 s r h => by
      unfold gD at h
      split at h
      · rename_i n0 a b
        obtain ⟨h0, ha, hb⟩ := (T.is_ask h).1
        obtain rfl := T.is_ret (T.is_ask h).2
        refine ⟨⟨a, b, a, b⟩, ⟨h0, ha, hb, rfl⟩, wk_of (idR 0) rfl (by rw [h0]; exact Nat.zero_le _) (fun b hb => by omega) ⟨rfl, rfl, trivial⟩ trivial, fun o ho => ?_⟩
        rw [ho]
        simp only [OD, lk_eq]
      · exact h.elim)
    roundD
theorem l119_ok : ∀ p ∈ l119, LoopsOK P p.2 (bodyOf P p.1) := by
  intro p hp
  simp only [l119, List.mem_singleton] at hp
  subst hp
  refine loopsOK_of (by kernel_rfl) fun k g hk => ?_
  simp only [List.mem_singleton, Prod.mk.injEq, LoopC.sum.injEq] at hk
  obtain ⟨rfl, rfl⟩ := hk
  exact loopD
noncomputable def c_Gcd : Con := fun args => match args with
  | [.lit (.int .i64 a), .lit (.int .i64 b)] => .ask (0 ≤ a ∧ 0 ≤ b) (.ret (.lit (.int .i64 (lk gcdI a b))))
  | _ => .stuck 1
set_option maxRecDepth 100000 in
theorem t_Gcd (a b : Int) : conB Go.Proofs.Try.prog (conOf []) (loopsOf l119) 10 119 [.lit (.int .i64 a), .lit (.int .i64 b)] =
    T.ask (PreD (nat_lit 0) a b) (T.ret (SV.lit (Value.int IntKind.i64 (lk gcdI a b)))) := by kernel_rfl
theorem Gcd_ok : ConOK P 119 c_Gcd := con_of (allOKL mixed none_ok l119_ok) 10 119 fun args r h => by
  unfold c_Gcd at h
  split at h
  · rename_i a b
    have hp := (T.is_ask h).1
    have h := (T.is_ask h).2
    obtain rfl := T.is_ret h
    rw [t_Gcd]
    have hpre : PreD 0 a b := ⟨rfl, hp⟩
    simp only [T.All, hpre, lk_eq, true_and]
    try simp
  · exact h.elim
end Go.RX.Span

/- Ranges: the reference's search for a common number, in plain Lean. -/
set_option linter.unusedVariables false
set_option linter.unusedSimpArgs false
namespace Go.RX.Span
open Go Go.RX

/-- The search upwards in steps of s. -/
def se (aH x y z s : Int) : Nat → Int → Int
  | 0, f => f
  | n + 1, f => if f ≤ aH ∧ f ≤ y ∧ has x y z f = false then se aH x y z s n (f + s) else f
theorem se_go {aH x y z s f : Int} {n : Nat} (h : f ≤ aH ∧ f ≤ y ∧ has x y z f = false) : se aH x y z s (n + 1) f = se aH x y z s n (f + s) := by rw [se, if_pos h]
theorem se_end {aH x y z s f : Int} {n : Nat} (h : ¬ (f ≤ aH ∧ f ≤ y ∧ has x y z f = false)) : se aH x y z s n f = f := by
  cases n with
  | zero => rfl
  | succ n => rw [se, if_neg h]
theorem se_spec {aH x y z s : Int} : ∀ (n : Nat) (f : Int), ∃ j : Nat, j ≤ n ∧ se aH x y z s n f = f + s * j ∧ (∀ i : Nat, i < j → f + s * i ≤ aH ∧ f + s * i ≤ y ∧ has x y z (f + s * i) = false) ∧
    (j < n → ¬ (f + s * j ≤ aH ∧ f + s * j ≤ y ∧ has x y z (f + s * j) = false))
  | 0, f => ⟨0, Nat.le_refl _, by simp [se], fun i hi => by omega, fun h => by omega⟩
  | n + 1, f => by
    by_cases h : f ≤ aH ∧ f ≤ y ∧ has x y z f = false
    · obtain ⟨j, h1, h2, h3, h4⟩ := se_spec n (f + s) (aH := aH) (x := x) (y := y) (z := z) (s := s)
      have e : ∀ i : Nat, f + s + s * (i : Int) = f + s * ((i + 1 : Nat) : Int) := fun i => by rw [Int.natCast_add, Int.mul_add]; simp; omega
      refine ⟨j + 1, by omega, by rw [se_go h, h2, e], fun i hi => ?_, fun hj => by rw [← e]; exact h4 (by omega)⟩
      cases i with
      | zero => simpa using h
      | succ i => rw [← e]; exact h3 i (by omega)
    · exact ⟨0, Nat.zero_le _, by rw [se_end h]; simp, fun i hi => by omega, fun _ => by simpa using h⟩

theorem rin_has {a b c n : Int} (hr : Right a b c) : RIn a b c n ↔ has a b c n = true := by
  unfold has
  rw [decide_eq_true_iff]
  by_cases hab : a ≤ b
  · obtain ⟨p1, p2, p3, p4, p5, p6, p7, p8, p9, p10⟩ := parts hr hab
    obtain ⟨u1, u2⟩ := up_of hr hab
    unfold RIn sA sS SIn
    rw [u1, u2]
    have hd : (n - a) % c = 0 ↔ ∃ p, n = a + absI c * p := by
      constructor
      · intro h
        obtain ⟨k, hk⟩ := Int.dvd_of_emod_eq_zero h
        by_cases hc : c < 0
        · exact ⟨-k, by rw [absI_neg hc, Int.neg_mul_neg]; omega⟩
        · exact ⟨k, by rw [absI_pos hc]; omega⟩
      · rintro ⟨p, hp⟩
        apply Int.emod_eq_zero_of_dvd
        by_cases hc : c < 0
        · exact ⟨-p, by rw [absI_neg hc] at hp; rw [Int.mul_neg, ← Int.neg_mul]; omega⟩
        · exact ⟨p, by rw [absI_pos hc] at hp; omega⟩
    rw [hd]
    constructor
    · rintro ⟨h1, h2, h3, h4⟩; exact ⟨chk_zero.2 hr, h1, by omega, h4⟩
    · rintro ⟨h1, h2, h3, h4⟩; exact ⟨h2, by omega, by omega, h4⟩
  · have e := (empty_of (c := c) hab).2.2
    constructor
    · intro h; have := h.2.2.1; omega
    · intro h; omega

theorem rin_iff {a b c n : Int} (hr : Right a b c) (hab : a ≤ b) : RIn a b c n ↔ a ≤ n ∧ n ≤ b ∧ ∃ p, n = a + absI c * p := by
  obtain ⟨p1, p2, p3, p4, p5, p6, p7, p8, p9, p10⟩ := parts hr hab
  obtain ⟨u1, u2⟩ := up_of hr hab
  unfold RIn sA sS SIn
  rw [u1, u2]
  constructor
  · rintro ⟨h1, h2, h3, h4⟩; exact ⟨h1, by omega, h4⟩
  · rintro ⟨h1, h2, h4⟩; exact ⟨h1, by omega, by omega, h4⟩

/-- The first candidate of the reference. -/
def riF0 (a c x : Int) : Int := if max a x > a then a + (max a x - a + absI c - 1).tdiv (absI c) * absI c else a
theorem riF0_spec {a c x : Int} (hs : 1 ≤ absI c) : max a x ≤ riF0 a c x ∧ riF0 a c x < max a x + absI c ∧ ∃ p, 0 ≤ p ∧ riF0 a c x = a + absI c * p := by
  unfold riF0
  generalize absI c = s at *
  by_cases h : max a x > a
  · rw [if_pos h]
    have t1 := Int.tdiv_eq_ediv_of_nonneg (b := s) (show 0 ≤ max a x - a + s - 1 by omega)
    have t2 := Int.mul_ediv_add_emod (max a x - a + s - 1) s
    have t3 := Int.emod_nonneg (max a x - a + s - 1) (show s ≠ 0 by omega)
    have t4 := Int.emod_lt_of_pos (max a x - a + s - 1) (show 0 < s by omega)
    have t5 := Int.ediv_nonneg (show 0 ≤ max a x - a + s - 1 by omega) (show 0 ≤ s by omega)
    rw [t1, Int.mul_comm _ s]
    generalize (max a x - a + s - 1) / s = q at *
    exact ⟨by omega, by omega, q, t5, rfl⟩
  · rw [if_neg h]
    exact ⟨by omega, by omega, 0, by omega, by omega⟩
/-- Where the search ends. -/
def riF (a b c x y z : Int) : Int := se b x y z (absI c) (absI z).toNat (riF0 a c x)
def riG (a b c x y z : Int) : Bool := has a b c (riF a b c x y z) && has x y z (riF a b c x y z)
/-- The least common multiple. -/
def riM (c z : Int) : Int := (absI c).tdiv (gcdI (absI c) (absI z)) * absI z
def riQ (a b c x y z : Int) : Int := (min b y - riF a b c x y z).tdiv (riM c z)

theorem riM_eq {c z : Int} (hs : 1 ≤ absI c) (ht : 1 ≤ absI z) : ∃ g s' m u w, absI c = g * s' ∧ absI z = g * m ∧ g = absI c * w + absI z * u ∧ 1 ≤ g ∧ 1 ≤ m ∧ m ≤ absI z ∧ riM c z = absI c * m := by
  obtain ⟨g1, g2, s', m, u, g3, g4, g5, g6, g7, g8, g9, g10⟩ := eu_facts hs ht
  refine ⟨_, s', m, u, _, g3, g4, g9, g1, g6, g7, ?_⟩
  have e : gcdI (absI c) (absI z) = euG (absI c) (absI z) := (eu_spec (by omega) (by omega)).1.symm
  unfold riM
  rw [e]
  have : (absI c).tdiv (euG (absI c) (absI z)) = s' := by
    have h := Int.mul_tdiv_cancel_left s' (show euG (absI c) (absI z) ≠ 0 by omega)
    rw [← g3] at h
    exact h
  rw [this]
  generalize euG (absI c) (absI z) = g at *
  generalize absI c = s at *
  generalize absI z = t at *
  subst g3; subst g4
  grind

theorem ri_set {a b c x y z : Int} (h : Right a b c) (h' : Right x y z) (hab : a ≤ b) (hxy : x ≤ y) :
    (riG a b c x y z = true → Sw (riF a b c x y z) (riM c z) (riQ a b c x y z + 1) ∧ (0 ≤ riQ a b c x y z ∧ riQ a b c x y z ≤ 2000000) ∧ riF a b c x y z ≤ min b y ∧ ∀ n, SIn (riF a b c x y z) (riM c z) (riQ a b c x y z + 1) n ↔ RIn a b c n ∧ RIn x y z n) ∧
    (riG a b c x y z = false → ∀ n, ¬ (RIn a b c n ∧ RIn x y z n)) := by
  obtain ⟨s1, s2, _⟩ := parts h hab
  obtain ⟨t1, t2, _⟩ := parts h' hxy
  have hla := h.1
  have hlx := h'.1
  obtain ⟨f1, f2, p0, f3, f4⟩ := riF0_spec (a := a) (c := c) (x := x) s1
  obtain ⟨j, j1, j2, j3, j4⟩ := se_spec (aH := b) (x := x) (y := y) (z := z) (s := absI c) (absI z).toNat (riF0 a c x)
  have hF : riF a b c x y z = riF0 a c x + absI c * j := j2
  obtain ⟨g, s', m, u, w, g3, g4, g9, g1, g6, g7, gl⟩ := riM_eq s1 t1
  -- a number of both is so many steps behind the first candidate
  have beh : ∀ n, RIn a b c n → RIn x y z n → ∃ i : Nat, n = riF0 a c x + absI c * i := fun n k1 k2 => by
    obtain ⟨a1, a2, p, a3⟩ := (rin_iff h hab).1 k1
    obtain ⟨b1, b2, _⟩ := (rin_iff h' hxy).1 k2
    have e : n - riF0 a c x = absI c * (p - p0) := by rw [Int.mul_sub]; omega
    have hp : 0 ≤ p - p0 := by
      rcases Int.lt_or_le (p - p0) 0 with hneg | hpos
      · have := Int.mul_le_mul_of_nonneg_left (show p - p0 ≤ -1 by omega) (show (0 : Int) ≤ absI c by omega)
        omega
      · exact hpos
    exact ⟨(p - p0).toNat, by rw [Int.toNat_of_nonneg hp]; omega⟩
  constructor
  · intro hg
    unfold riG at hg
    rw [Bool.and_eq_true] at hg
    have m1 := (rin_iff h hab).1 ((rin_has h).2 hg.1)
    have m2 := (rin_iff h' hxy).1 ((rin_has h').2 hg.2)
    have both := fun n => cm_both (n := n) g3 g4 g9 g1 m1.2.2 m2.2.2
    have hM1 : 1 ≤ riM c z := by
      rw [gl]
      have := mulle (s := absI c) (x := 1) (y := m) s1 g6
      omega
    have hMt : riM c z ≤ 4000000000000 := by
      rw [gl]
      have := mulle (s := absI c) (x := m) (y := 2000000) s1 (by omega)
      omega
    have hh : riF a b c x y z ≤ min b y := by omega
    have u1 := Int.tdiv_eq_ediv_of_nonneg (b := riM c z) (show 0 ≤ min b y - riF a b c x y z by omega)
    have u2 := Int.mul_ediv_add_emod (min b y - riF a b c x y z) (riM c z)
    have u3 := Int.emod_nonneg (min b y - riF a b c x y z) (show riM c z ≠ 0 by omega)
    have u4 := Int.emod_lt_of_pos (min b y - riF a b c x y z) (show 0 < riM c z by omega)
    have u5 := Int.ediv_nonneg (show 0 ≤ min b y - riF a b c x y z by omega) (show 0 ≤ riM c z by omega)
    have hQ : riQ a b c x y z = (min b y - riF a b c x y z) / riM c z := u1
    obtain ⟨q, hq⟩ : ∃ q, q = riQ a b c x y z := ⟨_, rfl⟩
    rw [← hQ, ← hq] at u2 u5
    rw [← hq]
    have hqm := mulle (s := riM c z) (x := 0) (y := q) hM1 u5
    have hq2 : q ≤ riM c z * q := by
      have := Int.mul_le_mul_of_nonneg_right hM1 u5
      omega
    refine ⟨.inr ⟨by omega, hM1, hMt, by omega, by rw [show q + 1 - 1 = q by omega]; omega⟩, ⟨u5, by omega⟩, hh, fun n => ?_⟩
    constructor
    · rintro ⟨x1, x2, x3, x4⟩
      rw [show q + 1 - 1 = q by omega] at x2
      rw [gl] at x4
      obtain ⟨y1, y2⟩ := (both n).2 x4
      exact ⟨(rin_iff h hab).2 ⟨by omega, by omega, y1⟩, (rin_iff h' hxy).2 ⟨by omega, by omega, y2⟩⟩
    · rintro ⟨x1, x2⟩
      have y1 := (rin_iff h hab).1 x1
      have y2 := (rin_iff h' hxy).1 x2
      obtain ⟨p, hp⟩ := (both n).1 ⟨y1.2.2, y2.2.2⟩
      rw [← gl] at hp
      have hFn : riF a b c x y z ≤ n := by
        obtain ⟨i, hi⟩ := beh n x1 x2
        rcases Nat.lt_or_ge i j with hlt | hge
        · have hf := (j3 i hlt).2.2
          rw [← hi, (rin_has h').1 x2] at hf
          cases hf
        · have := mulle (s := absI c) (x := (j : Int)) (y := (i : Int)) s1 (by omega)
          omega
      refine ⟨hFn, ?_, by omega, p, hp⟩
      rw [show q + 1 - 1 = q by omega]
      rcases Int.lt_or_le q p with hlt | hle
      · have := mulle (s := riM c z) (x := q + 1) (y := p) hM1 (by omega)
        rw [Int.mul_add, Int.mul_one] at this
        omega
      · have := mulle (s := riM c z) (x := p) (y := q) hM1 hle
        omega
  · rintro hg n ⟨k1, k2⟩
    obtain ⟨i, hi⟩ := beh n k1 k2
    obtain ⟨a1, a2, pa, a3⟩ := (rin_iff h hab).1 k1
    obtain ⟨b1, b2, pb, b3⟩ := (rin_iff h' hxy).1 k2
    -- the same number, less a common multiple
    have d1 := Int.mul_ediv_add_emod (i : Int) (absI z)
    have d2 := Int.emod_nonneg (i : Int) (show absI z ≠ 0 by omega)
    have d3 := Int.emod_lt_of_pos (i : Int) (show 0 < absI z by omega)
    have d4 := Int.ediv_nonneg (show (0 : Int) ≤ i by omega) (show 0 ≤ absI z by omega)
    obtain ⟨i', hi'⟩ : ∃ i' : Nat, (i' : Int) = (i : Int) % absI z := ⟨((i : Int) % absI z).toNat, Int.toNat_of_nonneg d2⟩
    rw [← hi'] at d1 d2 d3
    have hle : (i' : Int) ≤ i := by
      have := mulle (s := absI z) (x := 0) (y := (i : Int) / absI z) t1 d4
      omega
    have e1 : riF0 a c x + absI c * i' = a + absI c * (p0 + i') := by rw [Int.mul_add]; omega
    have e2 : riF0 a c x + absI c * i' = x + absI z * (pb - absI c * ((i : Int) / absI z)) := by
      have : absI c * (i : Int) = absI c * (absI z * ((i : Int) / absI z)) + absI c * i' := by rw [← Int.mul_add]; rw [d1]
      rw [Int.mul_sub, Int.mul_left_comm]
      omega
    have m1 := mulle (s := absI c) (x := (i' : Int)) (y := (i : Int)) s1 hle
    have m2 := mulle (s := absI c) (x := 0) (y := (i' : Int)) s1 (by omega)
    have r1 : RIn a b c (riF0 a c x + absI c * i') := (rin_iff h hab).2 ⟨by omega, by omega, _, e1⟩
    have r2 : RIn x y z (riF0 a c x + absI c * i') := (rin_iff h' hxy).2 ⟨by omega, by omega, _, e2⟩
    have both : riG a b c x y z = true := by
      unfold riG
      rw [Bool.and_eq_true]
      rcases Nat.lt_trichotomy j i' with hlt | heq | hgt
      · have hn := j4 (by omega)
        have m3 := mulle (s := absI c) (x := (j : Int)) (y := (i' : Int)) s1 (by omega)
        have m4 := mulle (s := absI c) (x := 0) (y := (j : Int)) s1 (by omega)
        have r3 : RIn a b c (riF0 a c x + absI c * j) := (rin_iff h hab).2 ⟨by omega, by omega, p0 + j, by rw [Int.mul_add]; omega⟩
        rw [hF]
        refine ⟨(rin_has h).1 r3, ?_⟩
        cases hb : has x y z (riF0 a c x + absI c * j)
        · exact absurd ⟨by omega, by omega, hb⟩ hn
        · rfl
      · rw [hF, heq]
        exact ⟨(rin_has h).1 r1, (rin_has h').1 r2⟩
      · have hf := (j3 i' hgt).2.2
        rw [(rin_has h').1 r2] at hf
        cases hf
    rw [both] at hg
    cases hg

/-- The reference's range is the program's. -/
theorem ri_is {a b c x y z : Int} (h : Right a b c) (h' : Right x y z) (hab : a ≤ b) (hxy : x ≤ y) :
    (riG a b c x y z = true → isL a b c x y z = rnL (riF a b c x y z) (riF a b c x y z + riQ a b c x y z * riM c z) (riM c z) (decide (c < 0)) ∧ isH a b c x y z = rnH (riF a b c x y z) (riF a b c x y z + riQ a b c x y z * riM c z) (riM c z) (decide (c < 0)) ∧
      isS a b c x y z = rnS (riF a b c x y z) (riF a b c x y z + riQ a b c x y z * riM c z) (riM c z) (decide (c < 0))) ∧
    (riG a b c x y z = false → isL a b c x y z = 1 ∧ isH a b c x y z = 0 ∧ isS a b c x y z = 1) := by
  have hn : ¬ ckd a b c x y z ≠ 0 := by simp [ckd_zero h h']
  obtain ⟨w1, w2⟩ := is_sw h h'
  obtain ⟨r1, r2⟩ := ri_set h h' hab hxy
  simp only [isL, isH, isS, if_neg hn]
  constructor
  · intro hg
    obtain ⟨v1, v2, v3, v4⟩ := r1 hg
    obtain ⟨e1, e2⟩ := sIn_ext w1 v1 (fun n => (w2 n).trans (v4 n).symm)
    generalize isC a b c x y z = C at *
    generalize isF a b c x y z = F at *
    generalize isB a b c x y z = B at *
    generalize riQ a b c x y z = q at *
    generalize riF a b c x y z = F' at *
    generalize riM c z = M at *
    subst e1
    obtain ⟨e2, e3⟩ := e2 (by omega)
    subst e2
    rw [show q + 1 - 1 = q by omega] at e3
    have w := w1.resolve_left (by omega)
    have v := v1.resolve_left (by omega)
    obtain ⟨q1, q2, q3, q4⟩ := nrm_like (f := F) (s := B) (C := q + 1) (c := c) w.2.1
    have m0 := mulle (s := M) (x := 0) (y := q) v.2.1 (by omega)
    rw [Int.mul_zero] at m0
    have n1 : ¬ q + 1 ≤ 0 := by omega
    have e0 : mvE F B (q + 1) = 0 := by unfold mvE; rw [if_neg n1, if_pos (by rw [show q + 1 - 1 = q by omega] at w ⊢; omega)]
    rw [q2, q3, q4]
    simp only [mvLow, mvHigh, mvStr, e0, if_neg n1, if_true]
    rw [show q + 1 - 1 = q by omega, e3, Int.mul_comm q M]
    unfold rnL rnH rnS
    rw [if_neg (by omega), if_neg (by omega)]
    refine ⟨rfl, rfl, ?_⟩
    by_cases hq : q = 0
    · subst hq; simp
    · have m1 := mulle (s := M) (x := 1) (y := q) v.2.1 (by omega)
      have hB : B = M := Int.eq_of_mul_eq_mul_right hq e3
      subst hB
      rw [if_neg (show ¬ (q + 1 = 1) by omega), if_neg (show ¬ (F ≥ F + B * q) by omega)]
      by_cases hc : c < 0 <;> simp [hc]
  · intro hg
    have hC : isC a b c x y z = 0 := by
      rcases w1 with h0 | h1
      · exact h0
      · exact absurd ((w2 _).1 (sIn_first h1.2.1 h1.1)) (r2 hg _)
    rw [hC]
    simp [nLow, nHigh, nStr]
end Go.RX.Span

/- Ranges: what Subtract returns, in plain Lean. -/
set_option linter.unusedVariables false
set_option linter.unusedSimpArgs false
namespace Go.RX.Span
open Go Go.RX

abbrev R3 := Els [.int .i64, .int .i64, .int .i64]
/-- A series upwards as a range in a direction. -/
def pc (f s n c : Int) : R3 := (mvLow f s n, mvHigh f s n, mvStr f s n c, ())
section
variable (a b c x y z : Int)
/-- The last number of both. -/
def sbL : Int := isF a b c x y z + isB a b c x y z * (isC a b c x y z - 1)
def sbT : Int := sA a b c + sS a b c * (ofC a b c - 1)
def sbN0 : Nat := if sA a b c < isF a b c x y z then 1 else 0
def sbM : Nat := if 1 < isC a b c x y z then ((isB a b c x y z).tdiv (sS a b c) - 1).toNat else 0
def sbN1 : Nat := if sbL a b c x y z < sbT a b c then 1 else 0
def sbAll : Nat := sbN0 a b c x y z + sbM a b c x y z + sbN1 a b c x y z
def sbN : Nat := if ckd a b c x y z ≠ 0 then 0 else if isC a b c x y z = 0 then (if 0 < ofC a b c then 1 else 0) else if 1000 < sbAll a b c x y z then 0 else sbAll a b c x y z
def sbE : Int := if ckd a b c x y z ≠ 0 then ckd a b c x y z else if isC a b c x y z = 0 then 0 else if 1000 < sbAll a b c x y z then 7 else 0
def sbIn (i : Nat) : R3 := pc (isF a b c x y z + sS a b c * (i + 1)) (isB a b c x y z) (isC a b c x y z - 1) c
def sbF (i : Nat) : R3 := if isC a b c x y z = 0 then pc (sA a b c) (sS a b c) (ofC a b c) c
  else if i < sbN0 a b c x y z then pc (sA a b c) (sS a b c) ((isF a b c x y z - sA a b c).tdiv (sS a b c)) c
  else if i < sbN0 a b c x y z + sbM a b c x y z then sbIn a b c x y z (i - sbN0 a b c x y z)
  else pc (sbL a b c x y z + sS a b c) (sS a b c) ((sbT a b c - sbL a b c x y z).tdiv (sS a b c)) c
end

/-- What both have, seen from the first range. -/
theorem sb_facts {a b c x y z : Int} (h : Right a b c) (h' : Right x y z) (hn : isC a b c x y z ≠ 0) :
    a ≤ b ∧ x ≤ y ∧ sA a b c = a ∧ sS a b c = absI c ∧ 1 ≤ absI c ∧ absI c ≤ 2000000 ∧ sbT a b c = b ∧ 1 ≤ isC a b c x y z ∧ isC a b c x y z ≤ 2000001 ∧ 1 ≤ isB a b c x y z ∧ isB a b c x y z ≤ 4000000000000 ∧
    -1000000 ≤ a ∧ b ≤ 1000000 ∧ isF a b c x y z ≤ sbL a b c x y z ∧
    ∃ k0 k1 : Int, 0 ≤ k0 ∧ 0 ≤ k1 ∧ k0 ≤ 2000000 ∧ k1 ≤ 2000000 ∧ isF a b c x y z = a + absI c * k0 ∧ b = sbL a b c x y z + absI c * k1 ∧
      (isF a b c x y z - sA a b c).tdiv (sS a b c) = k0 ∧ (sbT a b c - sbL a b c x y z).tdiv (sS a b c) = k1 ∧
      (1 < isC a b c x y z → ∃ m : Int, 1 ≤ m ∧ m ≤ 2000000 ∧ isB a b c x y z = absI c * m ∧ (isB a b c x y z).tdiv (sS a b c) = m ∧ isB a b c x y z ≤ 2000000) := by
  obtain ⟨w1, w2⟩ := is_sw h h'
  obtain ⟨c1, c2, c3, c4, c5⟩ := w1.resolve_left hn
  have f1 := (w2 _).1 (sIn_first c2 c1)
  have f2 := (w2 _).1 (sIn_last c2 c1)
  have hab : a ≤ b := by
    by_cases hab : a ≤ b
    · exact hab
    · have e := (empty_of (c := c) hab).2.2
      have := f1.1.2.2.1
      omega
  have hxy : x ≤ y := by
    by_cases hxy : x ≤ y
    · exact hxy
    · have e := (empty_of (c := z) hxy).2.2
      have := f1.2.2.2.1
      omega
  obtain ⟨p1, p2, p3, p4, p5, _⟩ := parts h hab
  obtain ⟨u1, u2⟩ := up_of h hab
  have eA : sA a b c = a := u1
  have eS : sS a b c = absI c := u2
  have eT : sbT a b c = b := by unfold sbT; rw [eA, eS]; omega
  obtain ⟨g1, g2, k0, g3⟩ := (rin_iff h hab).1 f1.1
  obtain ⟨g4, g5, k2, g6⟩ := (rin_iff h hab).1 f2.1
  have hl := h.1
  have hpos : ∀ {k : Int}, 0 ≤ absI c * k → 0 ≤ k := fun {k} hk => by
    rcases Int.lt_or_le k 0 with hneg | hp
    · have := Int.mul_le_mul_of_nonneg_left (show k ≤ -1 by omega) (show (0 : Int) ≤ absI c by omega)
      omega
    · exact hp
  have hk0 : 0 ≤ k0 := hpos (by omega)
  have e5 : absI c * (ofC a b c - 1 - k2) = b - sbL a b c x y z := by
    unfold sbL
    rw [Int.mul_sub, p5]; omega
  have hk1 : 0 ≤ ofC a b c - 1 - k2 := hpos (by rw [e5]; unfold sbL; omega)
  have hle : ∀ {k : Int}, 0 ≤ k → k ≤ absI c * k := fun {k} hk => by
    have := Int.mul_le_mul_of_nonneg_right p1 hk
    omega
  have m0 := hle hk0
  have m1 := hle hk1
  have hFL : isF a b c x y z ≤ sbL a b c x y z := by
    unfold sbL
    have := mulle (s := isB a b c x y z) (x := 0) (y := isC a b c x y z - 1) c2 (by omega)
    omega
  have hCC : isC a b c x y z ≤ 2000001 := by
    have := Int.mul_le_mul_of_nonneg_right c2 (show 0 ≤ isC a b c x y z - 1 by omega)
    omega
  refine ⟨hab, hxy, eA, eS, p1, p2, eT, c1, hCC, c2, c3, by omega, by omega, hFL, k0, ofC a b c - 1 - k2, hk0, hk1, by omega, ?_, g3, by omega, ?_, ?_, fun hC => ?_⟩
  · have : sbL a b c x y z = isF a b c x y z + isB a b c x y z * (isC a b c x y z - 1) := rfl
    omega
  · rw [eA, eS, g3, show a + absI c * k0 - a = absI c * k0 by omega]
    exact Int.mul_tdiv_cancel_left _ (by omega)
  · rw [eT, eS, ← e5]
    exact Int.mul_tdiv_cancel_left _ (by omega)
  · obtain ⟨_, g8, k3, g9⟩ := (rin_iff h hab).1 ((w2 _).1 (sIn_second c2 (by omega : 2 ≤ isC a b c x y z))).1
    have e : isB a b c x y z = absI c * (k3 - k0) := by rw [Int.mul_sub]; omega
    have hm : 1 ≤ k3 - k0 := by
      have := hpos (k := k3 - k0) (by omega)
      by_cases hz : k3 - k0 = 0
      · rw [hz, Int.mul_zero] at e; omega
      · omega
    have m3 := hle (k := k3 - k0) (by omega)
    exact ⟨k3 - k0, hm, by omega, e, by rw [eS, e]; exact Int.mul_tdiv_cancel_left _ (by omega), by omega⟩
end Go.RX.Span

/- The reference's Intersect: the search loop's states. -/
set_option linter.unusedVariables false
set_option linter.unusedSimpArgs false
namespace Go.RX.Span
open Go Go.RX

noncomputable abbrev kr : List (Nat × Con) := (119, c_Gcd) :: k8
theorem kr_ok : ∀ p ∈ kr, ConOK P p.1 p.2 := by
  intro p hp
  simp only [kr, List.mem_cons] at hp
  rcases hp with rfl | hp
  · exact Gcd_ok
  · exact k8_ok p (by simpa [k8] using hp)
noncomputable abbrev Er : Env := ⟨P, conOf kr, scall P (conOf kr) noLoops 10⟩
theorem Er_ok : EnvOK Er := envOK (allOK mixed kr_ok) 10
structure XS where
  (a b c x y z s t M f : Int) (k : Nat)
def PreS (n0 : Nat) (a b c x y z s t M f : Int) : Prop := n0 ≤ 3 ∧ (I64 a ∧ I64 b ∧ I64 c) ∧ (I64 x ∧ I64 y ∧ I64 z) ∧ b ≤ 1000000 ∧ 1 ≤ s ∧ s ≤ 2000000 ∧ 1 ≤ t ∧ t ≤ 2000000 ∧ -1000000 ≤ f ∧ f ≤ 4000000
def memS (a b c x y z : Int) : Mem := [(0, some (.cells [.lit (.int .i64 a), .lit (.int .i64 b), .lit (.int .i64 c)] 23)), (0, some (.cells [.lit (.int .i64 x), .lit (.int .i64 y), .lit (.int .i64 z)] 23)), (0, some (.cells [.lit (.int .i64 0), .lit (.int .i64 0), .lit (.int .i64 0)] 23))]
noncomputable def gS : Nat → Few → T (Ex × Few)
  | n0, ([.ptr 0 0, .ptr 1 0, .ptr 2 0, .ki .i64 (.ofNat 0), .lit (.int .i64 s), .lit (.int .i64 t), .lit (.int .i64 M), .lit (.int .i64 f), .ki .i64 (.ofNat 0)], [(0, some (.cells [.lit (.int .i64 a), .lit (.int .i64 b), .lit (.int .i64 c)] 23)), (0, some (.cells [.lit (.int .i64 x), .lit (.int .i64 y), .lit (.int .i64 z)] 23)), (0, some (.cells [.lit (.int .i64 (.ofNat 0)), .lit (.int .i64 (.ofNat 0)), .lit (.int .i64 (.ofNat 0))] 23))]) =>
    .ask (PreS n0 a b c x y z s t M f) (.ret (.exit 0, ([.ptr 0 0, .ptr 1 0, .ptr 2 0, .ki .i64 (.ofNat 0), .lit (.int .i64 s), .lit (.int .i64 t), .lit (.int .i64 M), .lit (.int .i64 (lk se b x y z s (U.toNat t) f)), .any],
      [(0, some (.cells [.lit (.int .i64 a), .lit (.int .i64 b), .lit (.int .i64 c)] 23)), (0, some (.cells [.lit (.int .i64 x), .lit (.int .i64 y), .lit (.int .i64 z)] 23)), (0, some (.cells [.lit (.int .i64 (.ofNat 0)), .lit (.int .i64 (.ofNat 0)), .lit (.int .i64 (.ofNat 0))] 23))])))
  | _, _ => .stuck 1
noncomputable def VS (q : XS) : Few := ([.ptr 0 0, .ptr 1 0, .ptr 2 0, .ki .i64 0, .lit (.int .i64 q.s), .lit (.int .i64 q.t), .lit (.int .i64 q.M), .lit (.int .i64 q.f), .lit (.int .i64 q.k)], memS q.a q.b q.c q.x q.y q.z)
noncomputable def OS (q : XS) : Ex × Few := (.exit 0, ([.ptr 0 0, .ptr 1 0, .ptr 2 0, .ki .i64 0, .lit (.int .i64 q.s), .lit (.int .i64 q.t), .lit (.int .i64 q.M), .lit (.int .i64 (se q.b q.x q.y q.z q.s (q.t - q.k).toNat q.f)), .any], memS q.a q.b q.c q.x q.y q.z))
def PhiS (n0 : Nat) (q : XS) : Prop := PreS n0 q.a q.b q.c q.x q.y q.z q.s q.t q.M q.f ∧ (q.k : Int) ≤ q.t
noncomputable abbrev l51 : List (Nat × Loops) := [(51, [(16, .sum (few 126 [2, 3, 4, 5, 8, 9, 10, 12, 13] gS))])]
end Go.RX.Span

/- The reference's Intersect: the walks. -/
set_option linter.unusedVariables false
set_option linter.unusedSimpArgs false
set_option maxRecDepth 100000
namespace Go.RX.Span
open Go Go.RX
attribute [local irreducible] sx conB

set_option maxRecDepth 100000 in
theorem t_S (n0 : Nat) (a b c x y z s t M f i : Int) : (sx Er [] n0 (loopOf P 51 16) (mkS 126 [2, 3, 4, 5, 8, 9, 10, 12, 13] [.ptr 0 0, .ptr 1 0, .ptr 2 0, .ki .i64 0, .lit (.int .i64 s), .lit (.int .i64 t), .lit (.int .i64 M), .lit (.int .i64 f), .lit (.int .i64 i)], memS a b c x y z)).bind (proj 126 [2, 3, 4, 5, 8, 9, 10, 12, 13]) =
    T.br (U.lt i t) (T.br (U.le f b) (T.br (U.le f y) (T.ask (I64 x ∧ I64 y ∧ I64 z) (T.br (U.not (lk has x y z f)) (T.ret (Ex.normal, [SV.ptr (nat_lit 0) (nat_lit 0), SV.ptr (nat_lit
      1) (nat_lit 0), SV.ptr (nat_lit 2) (nat_lit 0), SV.ki IntKind.i64 (0 : Int), SV.lit (Value.int IntKind.i64 s), SV.lit (Value.int IntKind.i64 t), SV.lit (Value.int IntKind.i64 M),
      SV.lit (Value.int IntKind.i64 (U.add IntKind.i64 f s)), SV.lit (Value.int IntKind.i64 (U.add IntKind.i64 i (1 : Int)))], [(nat_lit 0, some (Blk.cells [SV.lit (Value.int IntKind.i64
      a), SV.lit (Value.int IntKind.i64 b), SV.lit (Value.int IntKind.i64 c)] (nat_lit 23))), (nat_lit 0, some (Blk.cells [SV.lit (Value.int IntKind.i64 x), SV.lit (Value.int IntKind.i64
      y), SV.lit (Value.int IntKind.i64 z)] (nat_lit 23))), (nat_lit 0, some (Blk.cells [SV.lit (Value.int IntKind.i64 (0 : Int)), SV.lit (Value.int IntKind.i64 (0 : Int)), SV.lit
      (Value.int IntKind.i64 (0 : Int))] (nat_lit 23)))])) (T.ret (Ex.exit (nat_lit 0), [SV.ptr (nat_lit 0) (nat_lit 0), SV.ptr (nat_lit 1) (nat_lit 0), SV.ptr (nat_lit 2) (nat_lit 0),
      SV.ki IntKind.i64 (0 : Int), SV.lit (Value.int IntKind.i64 s), SV.lit (Value.int IntKind.i64 t), SV.lit (Value.int IntKind.i64 M), SV.lit (Value.int IntKind.i64 f), SV.lit
      (Value.int IntKind.i64 i)], [(nat_lit 0, some (Blk.cells [SV.lit (Value.int IntKind.i64 a), SV.lit (Value.int IntKind.i64 b), SV.lit (Value.int IntKind.i64 c)] (nat_lit 23))),
      (nat_lit 0, some (Blk.cells [SV.lit (Value.int IntKind.i64 x), SV.lit (Value.int IntKind.i64 y), SV.lit (Value.int IntKind.i64 z)] (nat_lit 23))), (nat_lit 0, some (Blk.cells
      [SV.lit (Value.int IntKind.i64 (0 : Int)), SV.lit (Value.int IntKind.i64 (0 : Int)), SV.lit (Value.int IntKind.i64 (0 : Int))] (nat_lit 23)))])))) (T.ret (Ex.exit (nat_lit 0),
      [SV.ptr (nat_lit 0) (nat_lit 0), SV.ptr (nat_lit 1) (nat_lit 0), SV.ptr (nat_lit 2) (nat_lit 0), SV.ki IntKind.i64 (0 : Int), SV.lit (Value.int IntKind.i64 s), SV.lit (Value.int
      IntKind.i64 t), SV.lit (Value.int IntKind.i64 M), SV.lit (Value.int IntKind.i64 f), SV.lit (Value.int IntKind.i64 i)], [(nat_lit 0, some (Blk.cells [SV.lit (Value.int IntKind.i64
      a), SV.lit (Value.int IntKind.i64 b), SV.lit (Value.int IntKind.i64 c)] (nat_lit 23))), (nat_lit 0, some (Blk.cells [SV.lit (Value.int IntKind.i64 x), SV.lit (Value.int IntKind.i64
      y), SV.lit (Value.int IntKind.i64 z)] (nat_lit 23))), (nat_lit 0, some (Blk.cells [SV.lit (Value.int IntKind.i64 (0 : Int)), SV.lit (Value.int IntKind.i64 (0 : Int)), SV.lit
      (Value.int IntKind.i64 (0 : Int))] (nat_lit 23)))]))) (T.ret (Ex.exit (nat_lit 0), [SV.ptr (nat_lit 0) (nat_lit 0), SV.ptr (nat_lit 1) (nat_lit 0), SV.ptr (nat_lit 2) (nat_lit 0),
      SV.ki IntKind.i64 (0 : Int), SV.lit (Value.int IntKind.i64 s), SV.lit (Value.int IntKind.i64 t), SV.lit (Value.int IntKind.i64 M), SV.lit (Value.int IntKind.i64 f), SV.lit
      (Value.int IntKind.i64 i)], [(nat_lit 0, some (Blk.cells [SV.lit (Value.int IntKind.i64 a), SV.lit (Value.int IntKind.i64 b), SV.lit (Value.int IntKind.i64 c)] (nat_lit 23))),
      (nat_lit 0, some (Blk.cells [SV.lit (Value.int IntKind.i64 x), SV.lit (Value.int IntKind.i64 y), SV.lit (Value.int IntKind.i64 z)] (nat_lit 23))), (nat_lit 0, some (Blk.cells
      [SV.lit (Value.int IntKind.i64 (0 : Int)), SV.lit (Value.int IntKind.i64 (0 : Int)), SV.lit (Value.int IntKind.i64 (0 : Int))] (nat_lit 23)))]))) (T.ret (Ex.exit (nat_lit 0),
      [SV.ptr (nat_lit 0) (nat_lit 0), SV.ptr (nat_lit 1) (nat_lit 0), SV.ptr (nat_lit 2) (nat_lit 0), SV.ki IntKind.i64 (0 : Int), SV.lit (Value.int IntKind.i64 s), SV.lit (Value.int
      IntKind.i64 t), SV.lit (Value.int IntKind.i64 M), SV.lit (Value.int IntKind.i64 f), SV.lit (Value.int IntKind.i64 i)], [(nat_lit 0, some (Blk.cells [SV.lit (Value.int IntKind.i64
      a), SV.lit (Value.int IntKind.i64 b), SV.lit (Value.int IntKind.i64 c)] (nat_lit 23))), (nat_lit 0, some (Blk.cells [SV.lit (Value.int IntKind.i64 x), SV.lit (Value.int IntKind.i64
      y), SV.lit (Value.int IntKind.i64 z)] (nat_lit 23))), (nat_lit 0, some (Blk.cells [SV.lit (Value.int IntKind.i64 (0 : Int)), SV.lit (Value.int IntKind.i64 (0 : Int)), SV.lit
      (Value.int IntKind.i64 (0 : Int))] (nat_lit 23)))])) := by kernel_rfl
theorem roundS (n0 : Nat) (q : XS) (hq : PhiS n0 q) : ((sx Er [] n0 (loopOf P 51 16) (mkS 126 [2, 3, 4, 5, 8, 9, 10, 12, 13] (VS q).1, (VS q).2)).bind (proj 126 [2, 3, 4, 5, 8, 9, 10, 12, 13])).All fun r => match r.1 with
      | .normal => ∃ q', PhiS n0 q' ∧ (q'.t - q'.k).toNat < (q.t - q.k).toNat ∧ Wk 126 [2, 3, 4, 5, 8, 9, 10, 12, 13] n0 r.2 (VS q') ∧ ∀ o, o = OS q' → o = OS q
      | e => ∃ s, (e, s) = OS q ∧ Wk 126 [2, 3, 4, 5, 8, 9, 10, 12, 13] n0 r.2 s := by
  unfold VS
  dsimp only
  rw [t_S]
  obtain ⟨a, b, c, x, y, z, s, t, M, f, k⟩ := q
  dsimp only
  obtain ⟨⟨h0, ha, hx, hb, s1, s2, t1, t2, f1, f2⟩, hk⟩ := hq
  simp only [] at h0 ha hx hb s1 s2 t1 t2 f1 f2 hk
  have w0 : ∀ {vs vs' : List SV}, RlL (idR 3) vs vs' → Wk 126 [2, 3, 4, 5, 8, 9, 10, 12, 13] n0 (vs, memS a b c x y z) (vs', memS a b c x y z) := fun h =>
    wk_of (idR 3) rfl h0 (fun b hb => idR_of (by omega)) h ⟨⟨rfl, rfl, rfl, rfl, trivial⟩, ⟨rfl, rfl, rfl, rfl, trivial⟩, ⟨rfl, rfl, rfl, rfl, trivial⟩, trivial⟩
  have fin : (¬ ((k : Int) < t ∧ f ≤ b ∧ f ≤ y ∧ has x y z f = false)) → ∃ s', ((Ex.exit 0, s') : Ex × Few) = OS ⟨a, b, c, x, y, z, s, t, M, f, k⟩ ∧ Wk 126 [2, 3, 4, 5, 8, 9, 10, 12, 13] n0 ([.ptr 0 0, .ptr 1 0, .ptr 2 0, .ki .i64 0, .lit (.int .i64 s), .lit (.int .i64 t), .lit (.int .i64 M), .lit (.int .i64 f), .lit (.int .i64 k)], memS a b c x y z) s' := fun hn => by
    refine ⟨(OS ⟨a, b, c, x, y, z, s, t, M, f, k⟩).2, rfl, w0 ⟨⟨rfl, rfl⟩, ⟨rfl, rfl⟩, ⟨rfl, rfl⟩, ⟨rfl, rfl⟩, rfl, rfl, rfl, ?_, trivial, trivial⟩⟩
    show Value.int .i64 f = Value.int .i64 (se b x y z s (t - k).toNat f)
    by_cases hkt : (k : Int) < t
    · rw [se_end (fun h => hn ⟨hkt, h⟩)]
    · rw [show (t - (k : Int)).toNat = 0 by omega]; rfl
  simp only [T.All, U.le_t, U.le_f, U.lt_t, U.lt_f, U.gt_t, U.gt_f, U.ge_t, U.ge_f, U.eq_t, U.eq_f, U.ne_t, U.ne_f, U.not_t, U.not_f, U.andb_t, U.andb_f, SV.lit.injEq, SV.agg.injEq, SV.tup.injEq, List.cons.injEq, Value.int.injEq, Value.bool.injEq, true_and, and_true, lk_eq, hx, and_self, true_and]
  refine ⟨fun hlt => ⟨fun hfb => ⟨fun hfy => ⟨fun hh => ?_, fun hh => fin (fun h => by rw [hh] at h; cases h.2.2.2)⟩, fun h => fin (by omega)⟩, fun h => fin (by omega)⟩, fun h => fin (by omega)⟩
  have e1 : U.add .i64 f s = f + s := by rw [U.add64 (by unfold I64; omega)]
  have e2 : U.add .i64 (k : Int) 1 = ((k + 1 : Nat) : Int) := by rw [U.add64 (by unfold I64; omega)]; omega
  refine ⟨⟨a, b, c, x, y, z, s, t, M, f + s, k + 1⟩, ⟨⟨h0, ha, hx, hb, s1, s2, t1, t2, by simp only []; omega, by simp only []; omega⟩, by simp only []; omega⟩, by simp only []; omega, ?_, fun o ho => ?_⟩
  · rw [e1, e2]
    exact w0 ⟨⟨rfl, rfl⟩, ⟨rfl, rfl⟩, ⟨rfl, rfl⟩, ⟨rfl, rfl⟩, rfl, rfl, rfl, rfl, rfl, trivial⟩
  · rw [ho]
    simp only [OS]
    rw [show (t - (k : Int)).toNat = (t - ((k + 1 : Nat) : Int)).toNat + 1 by omega, se_go ⟨hfb, hfy, hh⟩]
theorem loopS : LoopOK P (loopOf P 51 16) (few 126 [2, 3, 4, 5, 8, 9, 10, 12, 13] gS) :=
  loop_few (E := Er) mixed Er_ok loopsOK_none 126 [2, 3, 4, 5, 8, 9, 10, 12, 13] (X := XS) gS (fun _ x => VS x) PhiS (fun x => (x.t - x.k).toNat) (fun _ x o => o = OS x)
    (fun n0 st r h => by
      unfold gS at h
      split at h
      · rename_i n0 s t M f a b c x y z
        have hp := (T.is_ask h).1
        have hp' := hp
        obtain ⟨h0, ha, hx, hb, s1, s2, t1, t2, f1, f2⟩ := hp'
        obtain rfl := T.is_ret (T.is_ask h).2
        refine ⟨⟨a, b, c, x, y, z, s, t, M, f, 0⟩, ⟨hp, by simp only []; omega⟩, wk_of (idR 3) rfl h0 (fun b hb => idR_of (by omega)) ⟨⟨rfl, rfl⟩, ⟨rfl, rfl⟩, ⟨rfl, rfl⟩, ⟨rfl, rfl⟩, rfl, rfl, rfl, rfl, rfl, trivial⟩ ⟨⟨rfl, rfl, rfl, rfl, trivial⟩, ⟨rfl, rfl, rfl, rfl, trivial⟩, ⟨rfl, rfl, rfl, rfl, trivial⟩, trivial⟩, fun o ho => ?_⟩
        rw [ho]
        simp only [OS, lk_eq, U.toNat_eq]
        rw [show t - ((0 : Nat) : Int) = t by omega]
        rfl
      · exact h.elim)
    roundS
theorem l51_ok : ∀ p ∈ l51, LoopsOK P p.2 (bodyOf P p.1) := by
  intro p hp
  simp only [l51, List.mem_singleton] at hp
  subst hp
  refine loopsOK_of (by kernel_rfl) fun k g hk => ?_
  simp only [List.mem_singleton, Prod.mk.injEq, LoopC.sum.injEq] at hk
  obtain ⟨rfl, rfl⟩ := hk
  exact loopS
set_option maxRecDepth 100000 in
theorem t_rIntersect (a b c x y z : Int) : conB Go.Proofs.Try.prog (conOf kr) (loopsOf l51) 10 51 [.agg [.lit (.int .i64 a), .lit (.int .i64 b), .lit (.int .i64 c)], .agg [.lit (.int .i64 x), .lit (.int .i64 y), .lit (.int .i64 z)]] =
    T.ask (I64 a ∧ I64 b ∧ I64 c) (T.br (U.ne (lk chk a b c) (0 : Int)) (T.ret (SV.tup [SV.agg [SV.lit (Value.int IntKind.i64 (0 : Int)), SV.lit (Value.int IntKind.i64 (0 : Int)),
      SV.lit (Value.int IntKind.i64 (0 : Int))], SV.lit (Value.int IntKind.i64 (lk chk a b c))])) (T.ask (I64 x ∧ I64 y ∧ I64 z) (T.br (U.ne (lk chk x y z) (0 : Int)) (T.ret (SV.tup
      [SV.agg [SV.lit (Value.int IntKind.i64 (0 : Int)), SV.lit (Value.int IntKind.i64 (0 : Int)), SV.lit (Value.int IntKind.i64 (0 : Int))], SV.lit (Value.int IntKind.i64 (lk chk x y
      z))])) (T.br (lk isE a b c) (T.ret (SV.tup [SV.agg [SV.lit (Value.int IntKind.i64 (1 : Int)), SV.lit (Value.int IntKind.i64 (0 : Int)), SV.lit (Value.int IntKind.i64 (1 : Int))],
      SV.lit (Value.int IntKind.i64 (0 : Int))])) (T.br (lk isE x y z) (T.ret (SV.tup [SV.agg [SV.lit (Value.int IntKind.i64 (1 : Int)), SV.lit (Value.int IntKind.i64 (0 : Int)), SV.lit
      (Value.int IntKind.i64 (1 : Int))], SV.lit (Value.int IntKind.i64 (0 : Int))])) (T.ask (I64 (-c)) (T.ask (I64 (-z)) (T.ask ((0 : Int) ≤ lk absI c ∧ (0 : Int) ≤ lk absI z) (T.ask (lk
      gcdI (lk absI c) (lk absI z) ≠ (0 : Int)) (T.br (U.gt (U.mm true a x) a) (T.ask (lk absI c ≠ (0 : Int)) (T.ask (PreS (nat_lit 0) a b c x y z (lk absI c) (lk absI z) (U.mul
      IntKind.i64 (U.quo IntKind.i64 (lk absI c) (lk gcdI (lk absI c) (lk absI z))) (lk absI z)) (U.add IntKind.i64 a (U.mul IntKind.i64 (U.quo IntKind.i64 (U.sub IntKind.i64 (U.add
      IntKind.i64 (U.sub IntKind.i64 (U.mm true a x) a) (lk absI c)) (1 : Int)) (lk absI c)) (lk absI c)))) (T.ask (I64 a ∧ I64 b ∧ I64 c) (T.br (U.not (lk has a b c (lk se b x y z (lk
      absI c) (U.toNat (lk absI z)) (U.add IntKind.i64 a (U.mul IntKind.i64 (U.quo IntKind.i64 (U.sub IntKind.i64 (U.add IntKind.i64 (U.sub IntKind.i64 (U.mm true a x) a) (lk absI c)) (1
      : Int)) (lk absI c)) (lk absI c)))))) (T.ret (SV.tup [SV.agg [SV.lit (Value.int IntKind.i64 (1 : Int)), SV.lit (Value.int IntKind.i64 (0 : Int)), SV.lit (Value.int IntKind.i64 (1 :
      Int))], SV.lit (Value.int IntKind.i64 (0 : Int))])) (T.ask (I64 x ∧ I64 y ∧ I64 z) (T.br (U.not (lk has x y z (lk se b x y z (lk absI c) (U.toNat (lk absI z)) (U.add IntKind.i64 a
      (U.mul IntKind.i64 (U.quo IntKind.i64 (U.sub IntKind.i64 (U.add IntKind.i64 (U.sub IntKind.i64 (U.mm true a x) a) (lk absI c)) (1 : Int)) (lk absI c)) (lk absI c)))))) (T.ret
      (SV.tup [SV.agg [SV.lit (Value.int IntKind.i64 (1 : Int)), SV.lit (Value.int IntKind.i64 (0 : Int)), SV.lit (Value.int IntKind.i64 (1 : Int))], SV.lit (Value.int IntKind.i64 (0 :
      Int))])) (T.ask (U.mul IntKind.i64 (U.quo IntKind.i64 (lk absI c) (lk gcdI (lk absI c) (lk absI z))) (lk absI z) ≠ (0 : Int)) (T.ask (lk se b x y z (lk absI c) (U.toNat (lk absI z))
      (U.add IntKind.i64 a (U.mul IntKind.i64 (U.quo IntKind.i64 (U.sub IntKind.i64 (U.add IntKind.i64 (U.sub IntKind.i64 (U.mm true a x) a) (lk absI c)) (1 : Int)) (lk absI c)) (lk absI
      c))) < U.add IntKind.i64 (lk se b x y z (lk absI c) (U.toNat (lk absI z)) (U.add IntKind.i64 a (U.mul IntKind.i64 (U.quo IntKind.i64 (U.sub IntKind.i64 (U.add IntKind.i64 (U.sub
      IntKind.i64 (U.mm true a x) a) (lk absI c)) (1 : Int)) (lk absI c)) (lk absI c)))) (U.mul IntKind.i64 (U.quo IntKind.i64 (U.sub IntKind.i64 (U.mm false b y) (lk se b x y z (lk absI
      c) (U.toNat (lk absI z)) (U.add IntKind.i64 a (U.mul IntKind.i64 (U.quo IntKind.i64 (U.sub IntKind.i64 (U.add IntKind.i64 (U.sub IntKind.i64 (U.mm true a x) a) (lk absI c)) (1 :
      Int)) (lk absI c)) (lk absI c))))) (U.mul IntKind.i64 (U.quo IntKind.i64 (lk absI c) (lk gcdI (lk absI c) (lk absI z))) (lk absI z))) (U.mul IntKind.i64 (U.quo IntKind.i64 (lk absI
      c) (lk gcdI (lk absI c) (lk absI z))) (lk absI z))) → U.lt c (0 : Int) = true → I64 (-U.mul IntKind.i64 (U.quo IntKind.i64 (lk absI c) (lk gcdI (lk absI c) (lk absI z))) (lk absI
      z))) (T.ret (SV.tup [SV.agg [SV.lit (Value.int IntKind.i64 (lk rnL (lk se b x y z (lk absI c) (U.toNat (lk absI z)) (U.add IntKind.i64 a (U.mul IntKind.i64 (U.quo IntKind.i64 (U.sub
      IntKind.i64 (U.add IntKind.i64 (U.sub IntKind.i64 (U.mm true a x) a) (lk absI c)) (1 : Int)) (lk absI c)) (lk absI c)))) (U.add IntKind.i64 (lk se b x y z (lk absI c) (U.toNat (lk
      absI z)) (U.add IntKind.i64 a (U.mul IntKind.i64 (U.quo IntKind.i64 (U.sub IntKind.i64 (U.add IntKind.i64 (U.sub IntKind.i64 (U.mm true a x) a) (lk absI c)) (1 : Int)) (lk absI c))
      (lk absI c)))) (U.mul IntKind.i64 (U.quo IntKind.i64 (U.sub IntKind.i64 (U.mm false b y) (lk se b x y z (lk absI c) (U.toNat (lk absI z)) (U.add IntKind.i64 a (U.mul IntKind.i64
      (U.quo IntKind.i64 (U.sub IntKind.i64 (U.add IntKind.i64 (U.sub IntKind.i64 (U.mm true a x) a) (lk absI c)) (1 : Int)) (lk absI c)) (lk absI c))))) (U.mul IntKind.i64 (U.quo
      IntKind.i64 (lk absI c) (lk gcdI (lk absI c) (lk absI z))) (lk absI z))) (U.mul IntKind.i64 (U.quo IntKind.i64 (lk absI c) (lk gcdI (lk absI c) (lk absI z))) (lk absI z)))) (U.mul
      IntKind.i64 (U.quo IntKind.i64 (lk absI c) (lk gcdI (lk absI c) (lk absI z))) (lk absI z)) (U.lt c (0 : Int)))), SV.lit (Value.int IntKind.i64 (lk rnH (lk se b x y z (lk absI c)
      (U.toNat (lk absI z)) (U.add IntKind.i64 a (U.mul IntKind.i64 (U.quo IntKind.i64 (U.sub IntKind.i64 (U.add IntKind.i64 (U.sub IntKind.i64 (U.mm true a x) a) (lk absI c)) (1 : Int))
      (lk absI c)) (lk absI c)))) (U.add IntKind.i64 (lk se b x y z (lk absI c) (U.toNat (lk absI z)) (U.add IntKind.i64 a (U.mul IntKind.i64 (U.quo IntKind.i64 (U.sub IntKind.i64 (U.add
      IntKind.i64 (U.sub IntKind.i64 (U.mm true a x) a) (lk absI c)) (1 : Int)) (lk absI c)) (lk absI c)))) (U.mul IntKind.i64 (U.quo IntKind.i64 (U.sub IntKind.i64 (U.mm false b y) (lk
      se b x y z (lk absI c) (U.toNat (lk absI z)) (U.add IntKind.i64 a (U.mul IntKind.i64 (U.quo IntKind.i64 (U.sub IntKind.i64 (U.add IntKind.i64 (U.sub IntKind.i64 (U.mm true a x) a)
      (lk absI c)) (1 : Int)) (lk absI c)) (lk absI c))))) (U.mul IntKind.i64 (U.quo IntKind.i64 (lk absI c) (lk gcdI (lk absI c) (lk absI z))) (lk absI z))) (U.mul IntKind.i64 (U.quo
      IntKind.i64 (lk absI c) (lk gcdI (lk absI c) (lk absI z))) (lk absI z)))) (U.mul IntKind.i64 (U.quo IntKind.i64 (lk absI c) (lk gcdI (lk absI c) (lk absI z))) (lk absI z)) (U.lt c
      (0 : Int)))), SV.lit (Value.int IntKind.i64 (lk rnS (lk se b x y z (lk absI c) (U.toNat (lk absI z)) (U.add IntKind.i64 a (U.mul IntKind.i64 (U.quo IntKind.i64 (U.sub IntKind.i64
      (U.add IntKind.i64 (U.sub IntKind.i64 (U.mm true a x) a) (lk absI c)) (1 : Int)) (lk absI c)) (lk absI c)))) (U.add IntKind.i64 (lk se b x y z (lk absI c) (U.toNat (lk absI z))
      (U.add IntKind.i64 a (U.mul IntKind.i64 (U.quo IntKind.i64 (U.sub IntKind.i64 (U.add IntKind.i64 (U.sub IntKind.i64 (U.mm true a x) a) (lk absI c)) (1 : Int)) (lk absI c)) (lk absI
      c)))) (U.mul IntKind.i64 (U.quo IntKind.i64 (U.sub IntKind.i64 (U.mm false b y) (lk se b x y z (lk absI c) (U.toNat (lk absI z)) (U.add IntKind.i64 a (U.mul IntKind.i64 (U.quo
      IntKind.i64 (U.sub IntKind.i64 (U.add IntKind.i64 (U.sub IntKind.i64 (U.mm true a x) a) (lk absI c)) (1 : Int)) (lk absI c)) (lk absI c))))) (U.mul IntKind.i64 (U.quo IntKind.i64
      (lk absI c) (lk gcdI (lk absI c) (lk absI z))) (lk absI z))) (U.mul IntKind.i64 (U.quo IntKind.i64 (lk absI c) (lk gcdI (lk absI c) (lk absI z))) (lk absI z)))) (U.mul IntKind.i64
      (U.quo IntKind.i64 (lk absI c) (lk gcdI (lk absI c) (lk absI z))) (lk absI z)) (U.lt c (0 : Int))))], SV.lit (Value.int IntKind.i64 (0 : Int))])))))))))) (T.ask (PreS (nat_lit 0) a
      b c x y z (lk absI c) (lk absI z) (U.mul IntKind.i64 (U.quo IntKind.i64 (lk absI c) (lk gcdI (lk absI c) (lk absI z))) (lk absI z)) a) (T.ask (I64 a ∧ I64 b ∧ I64 c) (T.br (U.not
      (lk has a b c (lk se b x y z (lk absI c) (U.toNat (lk absI z)) a))) (T.ret (SV.tup [SV.agg [SV.lit (Value.int IntKind.i64 (1 : Int)), SV.lit (Value.int IntKind.i64 (0 : Int)),
      SV.lit (Value.int IntKind.i64 (1 : Int))], SV.lit (Value.int IntKind.i64 (0 : Int))])) (T.ask (I64 x ∧ I64 y ∧ I64 z) (T.br (U.not (lk has x y z (lk se b x y z (lk absI c) (U.toNat
      (lk absI z)) a))) (T.ret (SV.tup [SV.agg [SV.lit (Value.int IntKind.i64 (1 : Int)), SV.lit (Value.int IntKind.i64 (0 : Int)), SV.lit (Value.int IntKind.i64 (1 : Int))], SV.lit
      (Value.int IntKind.i64 (0 : Int))])) (T.ask (U.mul IntKind.i64 (U.quo IntKind.i64 (lk absI c) (lk gcdI (lk absI c) (lk absI z))) (lk absI z) ≠ (0 : Int)) (T.ask (lk se b x y z (lk
      absI c) (U.toNat (lk absI z)) a < U.add IntKind.i64 (lk se b x y z (lk absI c) (U.toNat (lk absI z)) a) (U.mul IntKind.i64 (U.quo IntKind.i64 (U.sub IntKind.i64 (U.mm false b y) (lk
      se b x y z (lk absI c) (U.toNat (lk absI z)) a)) (U.mul IntKind.i64 (U.quo IntKind.i64 (lk absI c) (lk gcdI (lk absI c) (lk absI z))) (lk absI z))) (U.mul IntKind.i64 (U.quo
      IntKind.i64 (lk absI c) (lk gcdI (lk absI c) (lk absI z))) (lk absI z))) → U.lt c (0 : Int) = true → I64 (-U.mul IntKind.i64 (U.quo IntKind.i64 (lk absI c) (lk gcdI (lk absI c) (lk
      absI z))) (lk absI z))) (T.ret (SV.tup [SV.agg [SV.lit (Value.int IntKind.i64 (lk rnL (lk se b x y z (lk absI c) (U.toNat (lk absI z)) a) (U.add IntKind.i64 (lk se b x y z (lk absI
      c) (U.toNat (lk absI z)) a) (U.mul IntKind.i64 (U.quo IntKind.i64 (U.sub IntKind.i64 (U.mm false b y) (lk se b x y z (lk absI c) (U.toNat (lk absI z)) a)) (U.mul IntKind.i64 (U.quo
      IntKind.i64 (lk absI c) (lk gcdI (lk absI c) (lk absI z))) (lk absI z))) (U.mul IntKind.i64 (U.quo IntKind.i64 (lk absI c) (lk gcdI (lk absI c) (lk absI z))) (lk absI z)))) (U.mul
      IntKind.i64 (U.quo IntKind.i64 (lk absI c) (lk gcdI (lk absI c) (lk absI z))) (lk absI z)) (U.lt c (0 : Int)))), SV.lit (Value.int IntKind.i64 (lk rnH (lk se b x y z (lk absI c)
      (U.toNat (lk absI z)) a) (U.add IntKind.i64 (lk se b x y z (lk absI c) (U.toNat (lk absI z)) a) (U.mul IntKind.i64 (U.quo IntKind.i64 (U.sub IntKind.i64 (U.mm false b y) (lk se b x
      y z (lk absI c) (U.toNat (lk absI z)) a)) (U.mul IntKind.i64 (U.quo IntKind.i64 (lk absI c) (lk gcdI (lk absI c) (lk absI z))) (lk absI z))) (U.mul IntKind.i64 (U.quo IntKind.i64
      (lk absI c) (lk gcdI (lk absI c) (lk absI z))) (lk absI z)))) (U.mul IntKind.i64 (U.quo IntKind.i64 (lk absI c) (lk gcdI (lk absI c) (lk absI z))) (lk absI z)) (U.lt c (0 : Int)))),
      SV.lit (Value.int IntKind.i64 (lk rnS (lk se b x y z (lk absI c) (U.toNat (lk absI z)) a) (U.add IntKind.i64 (lk se b x y z (lk absI c) (U.toNat (lk absI z)) a) (U.mul IntKind.i64
      (U.quo IntKind.i64 (U.sub IntKind.i64 (U.mm false b y) (lk se b x y z (lk absI c) (U.toNat (lk absI z)) a)) (U.mul IntKind.i64 (U.quo IntKind.i64 (lk absI c) (lk gcdI (lk absI c)
      (lk absI z))) (lk absI z))) (U.mul IntKind.i64 (U.quo IntKind.i64 (lk absI c) (lk gcdI (lk absI c) (lk absI z))) (lk absI z)))) (U.mul IntKind.i64 (U.quo IntKind.i64 (lk absI c) (lk
      gcdI (lk absI c) (lk absI z))) (lk absI z)) (U.lt c (0 : Int))))], SV.lit (Value.int IntKind.i64 (0 : Int))]))))))))))))))))))) := by kernel_rfl
theorem is_zero {a b c x y z : Int} (h : Right a b c) (h' : Right x y z) (hC : isC a b c x y z = 0) : isL a b c x y z = 1 ∧ isH a b c x y z = 0 ∧ isS a b c x y z = 1 := by
  have hn : ¬ ckd a b c x y z ≠ 0 := by simp [ckd_zero h h']
  simp only [isL, isH, isS, if_neg hn, hC]
  simp [nLow, nHigh, nStr]
theorem is_empty {a b c x y z : Int} (h : Right a b c) (h' : Right x y z) (he : isE a b c = true ∨ isE x y z = true) : isC a b c x y z = 0 := by
  obtain ⟨w1, w2⟩ := is_sw h h'
  rcases w1 with h0 | h1
  · exact h0
  · have f1 := (w2 _).1 (sIn_first h1.2.1 h1.1)
    rcases he with he | he
    · rw [isE_t] at he
      have := (empty_of (a := a) (b := b) (c := c) (by omega)).2.2
      have := f1.1.2.2.1
      omega
    · rw [isE_t] at he
      have := (empty_of (a := x) (b := y) (c := z) (by omega)).2.2
      have := f1.2.2.2.1
      omega
/-- The reference's reckoning, without overflow. -/
theorem ri_nums {a b c x y z : Int} (h : Right a b c) (h' : Right x y z) (hab : a ≤ b) (hxy : x ≤ y) :
    gcdI (absI c) (absI z) ≠ 0 ∧ U.mul .i64 (U.quo .i64 (absI c) (gcdI (absI c) (absI z))) (absI z) = riM c z ∧ 1 ≤ riM c z ∧ riM c z ≤ 4000000000000 ∧
    (max a x > a → U.add .i64 a (U.mul .i64 (U.quo .i64 (U.sub .i64 (U.add .i64 (U.sub .i64 (max a x) a) (absI c)) 1) (absI c)) (absI c)) = riF0 a c x) ∧
    (riG a b c x y z = true → U.add .i64 (riF a b c x y z) (U.mul .i64 (U.quo .i64 (U.sub .i64 (min b y) (riF a b c x y z)) (riM c z)) (riM c z)) = riF a b c x y z + riQ a b c x y z * riM c z) := by
  obtain ⟨s1, s2, _⟩ := parts h hab
  obtain ⟨t1, t2, _⟩ := parts h' hxy
  have hla := h.1
  have hlx := h'.1
  obtain ⟨g, s', m, u, w, g3, g4, g9, g1, g6, g7, gl⟩ := riM_eq s1 t1
  have hM1 : 1 ≤ riM c z := by
    rw [gl]
    have := mulle (s := absI c) (x := 1) (y := m) s1 g6
    omega
  have hMt : riM c z ≤ 4000000000000 := by
    rw [gl]
    have := mulle (s := absI c) (x := m) (y := 2000000) s1 (by omega)
    omega
  have hg0 : gcdI (absI c) (absI z) ≠ 0 := by
    unfold gcdI
    have : 0 < Int.gcd (absI c) (absI z) := Int.gcd_pos_of_ne_zero_left _ (by omega)
    omega
  have hgp : 0 ≤ gcdI (absI c) (absI z) := by unfold gcdI; omega
  have q1 := Int.tdiv_eq_ediv_of_nonneg (b := gcdI (absI c) (absI z)) (show 0 ≤ absI c by omega)
  have q2 := Int.ediv_nonneg (show 0 ≤ absI c by omega) hgp
  have q3 := Int.ediv_le_self (gcdI (absI c) (absI z)) (show 0 ≤ absI c by omega)
  have hMM : U.mul .i64 (U.quo .i64 (absI c) (gcdI (absI c) (absI z))) (absI z) = riM c z := by
    have e := U.quo64 (a := absI c) (b := gcdI (absI c) (absI z)) (by unfold I64; omega)
    have e' : riM c z = (absI c).tdiv (gcdI (absI c) (absI z)) * absI z := rfl
    rw [e, U.mul64 (by unfold I64; omega), e']
  refine ⟨hg0, hMM, hM1, hMt, fun hgt => ?_, fun hG => ?_⟩
  · obtain ⟨f1, f2, p0, f3, f4⟩ := riF0_spec (a := a) (c := c) (x := x) s1
    have e : riF0 a c x = a + (max a x - a + absI c - 1).tdiv (absI c) * absI c := by unfold riF0; rw [if_pos hgt]
    have r1 := Int.tdiv_eq_ediv_of_nonneg (b := absI c) (show 0 ≤ max a x - a + absI c - 1 by omega)
    have r2 := Int.ediv_nonneg (show 0 ≤ max a x - a + absI c - 1 by omega) (show 0 ≤ absI c by omega)
    have r3 := Int.ediv_le_self (absI c) (show 0 ≤ max a x - a + absI c - 1 by omega)
    have e1 : U.sub .i64 (max a x) a = max a x - a := U.sub64 (by unfold I64; omega)
    have e2 : U.add .i64 (max a x - a) (absI c) = max a x - a + absI c := U.add64 (by unfold I64; omega)
    have e3 : U.sub .i64 (max a x - a + absI c) 1 = max a x - a + absI c - 1 := U.sub64 (by unfold I64; omega)
    have e4 : U.quo .i64 (max a x - a + absI c - 1) (absI c) = (max a x - a + absI c - 1).tdiv (absI c) := U.quo64 (by unfold I64; omega)
    rw [e1, e2, e3, e4, U.mul64 (by unfold I64; omega), U.add64 (by unfold I64; omega), e]
  · obtain ⟨v1, v2, v3, v4⟩ := (ri_set h h' hab hxy).1 hG
    have w := v1.resolve_left (by omega)
    have w4 := w.2.2.2.1
    have w5 := w.2.2.2.2
    rw [show riQ a b c x y z + 1 - 1 = riQ a b c x y z by omega] at w5
    have m0 := mulle (s := riM c z) (x := 0) (y := riQ a b c x y z) hM1 v2.1
    have e1 : U.sub .i64 (min b y) (riF a b c x y z) = min b y - riF a b c x y z := U.sub64 (by unfold I64; omega)
    have hq : riQ a b c x y z = (min b y - riF a b c x y z).tdiv (riM c z) := rfl
    have e2 : U.quo .i64 (min b y - riF a b c x y z) (riM c z) = riQ a b c x y z := by
      rw [U.quo64 (by unfold I64; omega), hq]
    rw [e1, e2, U.mul64 (by rw [Int.mul_comm]; unfold I64; omega), U.add64 (by rw [Int.mul_comm]; unfold I64; omega)]
theorem rIntersect_ok : ConOK P 51 c_Intersect := con_of (allOKL mixed kr_ok l51_ok) 10 51 fun args r h => by
  unfold c_Intersect at h
  split at h
  · rename_i a b c x y z
    have hp := (T.is_ask h).1
    have h := (T.is_ask h).2
    obtain rfl := T.is_ret h
    rw [t_rIntersect]
    obtain ⟨ha, hb, hc, hx, hy, hz⟩ := hp
    by_cases h1 : chk a b c = 0
    · by_cases h2 : chk x y z = 0
      · have r1 := chk_zero.1 h1
        have r2 := chk_zero.1 h2
        have er := (is_set r1 r2).1
        cases i1 : isE a b c
        · cases i2 : isE x y z
          · have hab := right_le r1 (by rw [isE_f] at i1; exact i1)
            have hxy := right_le r2 (by rw [isE_f] at i2; exact i2)
            obtain ⟨s1, s2, _⟩ := parts r1 hab
            obtain ⟨t1, t2, _⟩ := parts r2 hxy
            have hla := r1.1
            have hlx := r2.1
            have rc := right_c r1
            have rz := right_c r2
            obtain ⟨n1, n2, n3, n4, n5, n6⟩ := ri_nums r1 r2 hab hxy
            obtain ⟨k1, k2⟩ := ri_is r1 r2 hab hxy
            obtain ⟨f1, f2, _⟩ := riF0_spec (a := a) (c := c) (x := x) s1
            have hse : se b x y z (absI c) (absI z).toNat (riF0 a c x) = riF a b c x y z := rfl
            have pre : PreS 0 a b c x y z (absI c) (absI z) (riM c z) (riF0 a c x) := ⟨by omega, ⟨ha, hb, hc⟩, ⟨hx, hy, hz⟩, by omega, s1, s2, t1, t2, by omega, by omega⟩
            have neg : I64 (-riM c z) := by unfold I64; omega
            have negc : I64 (-c) := by unfold I64; omega
            have negz : I64 (-z) := by unfold I64; omega
            have hs0 : absI c ≠ 0 := by omega
            have hM0 : riM c z ≠ 0 := by omega
            have nn : (0 : Int) ≤ absI c ∧ (0 : Int) ≤ absI z := by omega
            have hlt : U.lt c 0 = decide (c < 0) := U.lt_eq c 0
            have body : ∀ (f : Int), f = riF0 a c x → T.All (fun x_1 => x_1 = (SV.tup [SV.agg [.lit (.int .i64 (isL a b c x y z)), .lit (.int .i64 (isH a b c x y z)), .lit (.int .i64 (isS a b c x y z))], .lit (.int .i64 (isEr a b c x y z))])) (T.ask (PreS 0 a b c x y z (absI c) (absI z) (riM c z) f)
                (T.ask (I64 a ∧ I64 b ∧ I64 c) (T.br (U.not (has a b c (se b x y z (absI c) (absI z).toNat f))) (T.ret (.tup [.agg [.lit (.int .i64 1), .lit (.int .i64 0), .lit (.int .i64 1)], .lit (.int .i64 0)]))
                (T.ask (I64 x ∧ I64 y ∧ I64 z) (T.br (U.not (has x y z (se b x y z (absI c) (absI z).toNat f))) (T.ret (.tup [.agg [.lit (.int .i64 1), .lit (.int .i64 0), .lit (.int .i64 1)], .lit (.int .i64 0)]))
                (T.ask (riM c z ≠ 0) (T.ask (se b x y z (absI c) (absI z).toNat f < U.add .i64 (se b x y z (absI c) (absI z).toNat f) (U.mul .i64 (U.quo .i64 (U.sub .i64 (min b y) (se b x y z (absI c) (absI z).toNat f)) (riM c z)) (riM c z)) → decide (c < 0) = true → I64 (-riM c z))
                (T.ret (.tup [.agg [.lit (.int .i64 (rnL (se b x y z (absI c) (absI z).toNat f) (U.add .i64 (se b x y z (absI c) (absI z).toNat f) (U.mul .i64 (U.quo .i64 (U.sub .i64 (min b y) (se b x y z (absI c) (absI z).toNat f)) (riM c z)) (riM c z))) (riM c z) (decide (c < 0)))),
                  .lit (.int .i64 (rnH (se b x y z (absI c) (absI z).toNat f) (U.add .i64 (se b x y z (absI c) (absI z).toNat f) (U.mul .i64 (U.quo .i64 (U.sub .i64 (min b y) (se b x y z (absI c) (absI z).toNat f)) (riM c z)) (riM c z))) (riM c z) (decide (c < 0)))),
                  .lit (.int .i64 (rnS (se b x y z (absI c) (absI z).toNat f) (U.add .i64 (se b x y z (absI c) (absI z).toNat f) (U.mul .i64 (U.quo .i64 (U.sub .i64 (min b y) (se b x y z (absI c) (absI z).toNat f)) (riM c z)) (riM c z))) (riM c z) (decide (c < 0))))], .lit (.int .i64 0)]))))))))) := by
              rintro f rfl
              rw [hse]
              cases g1 : has a b c (riF a b c x y z)
              · obtain ⟨m1, m2, m3⟩ := k2 (by unfold riG; rw [g1]; rfl)
                simp [T.All, U.not_eq, pre, ha, hb, hc, m1, m2, m3, er]
              · cases g2 : has x y z (riF a b c x y z)
                · obtain ⟨m1, m2, m3⟩ := k2 (by unfold riG; rw [g1, g2]; rfl)
                  simp [T.All, U.not_eq, pre, ha, hb, hc, hx, hy, hz, m1, m2, m3, er]
                · have hG : riG a b c x y z = true := by unfold riG; rw [g1, g2]; rfl
                  obtain ⟨m1, m2, m3⟩ := k1 hG
                  rw [n6 hG]
                  simp [T.All, U.not_eq, pre, ha, hb, hc, hx, hy, hz, m1, m2, m3, er, hM0, neg]
            simp only [lk_eq, mm_max, mm_min, n2, hlt, U.toNat_eq]
            simp only [T.All, U.ne_eq, h1, h2, i1, i2, ha, hb, hc, hx, hy, hz, negc, negz, nn, n1, hs0, and_self, true_and, ne_eq, not_false_eq_true, not_true_eq_false, U.gt_t, U.gt_f] at body ⊢
            refine ⟨fun h => by simp at h, fun _ => ⟨fun h => by simp at h, fun _ => ⟨fun h => by simp at h, fun _ => ⟨fun h => by simp at h, fun _ => ⟨fun hgt => body _ (n5 hgt), fun hle => body _ ?_⟩⟩⟩⟩⟩
            unfold riF0
            rw [if_neg (by omega)]
          · obtain ⟨e1, e2, e3⟩ := is_zero r1 r2 (is_empty r1 r2 (.inr i2))
            simp [T.All, U.ne_eq, lk_eq, h1, h2, i1, i2, e1, e2, e3, er, ha, hb, hc, hx, hy, hz]
        · obtain ⟨e1, e2, e3⟩ := is_zero r1 r2 (is_empty r1 r2 (.inl i1))
          simp [T.All, U.ne_eq, lk_eq, h1, h2, i1, e1, e2, e3, er, ha, hb, hc, hx, hy, hz]
      · simp [T.All, U.ne_eq, lk_eq, isL, isH, isS, isEr, ckd, h1, h2, ha, hb, hc, hx, hy, hz]
    · simp [T.All, U.ne_eq, lk_eq, isL, isH, isS, isEr, ckd, h1, ha, hb, hc]
  · exact h.elim
end Go.RX.Span

