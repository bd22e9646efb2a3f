/- Ranges: series upwards and in a range's direction. -/
import Derived.Test.YtfcafajfllegaaaSPl
set_option linter.unusedVariables false
set_option linter.unusedSimpArgs false
set_option maxRecDepth 100000
namespace Go.RX.Span
open Go Go.RX

def uF (a b c : Int) : Int := if b < 0 then tF a b c else a
def uB (a b c : Int) : Int := if b < 0 then tB a b c else b
def kF (a b c r : Int) : Int := if r < 0 then tF a b c else a
def kB (a b c r : Int) : Int := if r < 0 then tB a b c else b
noncomputable def c_up : Con := fun args => match args with
  | [.agg [.lit (.int .i64 a), .lit (.int .i64 b), .lit (.int .i64 c)]] =>
    .ask (b < 0 → c ≠ 0 → I64 (c - 1) ∧ I64 (b * (c - 1)) ∧ I64 (a + b * (c - 1)) ∧ I64 (-b)) (.ret (.agg [.lit (.int .i64 (lk uF a b c)), .lit (.int .i64 (lk uB a b c)), .lit (.int .i64 c)]))
  | _ => .stuck 1
noncomputable def c_like : Con := fun args => match args with
  | [.agg [.lit (.int .i64 a), .lit (.int .i64 b), .lit (.int .i64 c)], .agg [.lit (.int .i64 x), .lit (.int .i64 y), .lit (.int .i64 r)]] =>
    .ask (r < 0 → c ≠ 0 → I64 (c - 1) ∧ I64 (b * (c - 1)) ∧ I64 (a + b * (c - 1)) ∧ I64 (-b)) (.ret (.agg [.lit (.int .i64 (lk kF a b c r)), .lit (.int .i64 (lk kB a b c r)), .lit (.int .i64 c)]))
  | _ => .stuck 1

set_option maxRecDepth 100000 in
theorem t_up (a b c : Int) : conB Go.Proofs.Try.prog (conOf k7) noLoops 10 112 [.agg [.lit (.int .i64 a), .lit (.int .i64 b), .lit (.int .i64 c)]] =
    T.br (U.lt b (0 : Int))
    (T.ask (c ≠ (0 : Int) → I64 (c - (1 : Int)) ∧ I64 (b * (c - (1 : Int))) ∧ I64 (a + b * (c - (1 : Int))) ∧ I64 (-b))
      (T.ret
        (SV.agg
          [SV.lit (Value.int IntKind.i64 (lk tF a b c)), SV.lit (Value.int IntKind.i64 (lk tB a b c)),
            SV.lit (Value.int IntKind.i64 c)])))
    (T.ret
      (SV.agg [SV.lit (Value.int IntKind.i64 a), SV.lit (Value.int IntKind.i64 b), SV.lit (Value.int IntKind.i64 c)])) := by kernel_rfl
theorem up_ok : ConOK P 112 c_up := con_of (allOK mixed k7_ok) 10 112 fun args r h => by
  unfold c_up at h
  split at h
  · rename_i a b c
    have hp := (T.is_ask h).1
    have h := (T.is_ask h).2
    obtain rfl := T.is_ret h
    rw [t_up]
    simp only [T.All, U.le_t, U.le_f, U.lt_t, U.lt_f, U.gt_t, U.gt_f, U.ge_t, U.ge_f, U.eq_t, U.eq_f, U.ne_t, U.ne_f, U.not_t, U.not_f, U.andb_t, U.andb_f, SV.lit.injEq, SV.agg.injEq, SV.tup.injEq, List.cons.injEq, Value.int.injEq, Value.bool.injEq, true_and, and_true, lk_eq]
    refine ⟨fun h => ⟨hp h, ?_⟩, fun h => ?_⟩
    · simp [uF, uB, h]
    · have n1 : ¬ b < 0 := by omega
      simp [uF, uB, n1]
  · exact h.elim
set_option maxRecDepth 100000 in
theorem t_like (a b c x y r : Int) : conB Go.Proofs.Try.prog (conOf k7) noLoops 10 113 [.agg [.lit (.int .i64 a), .lit (.int .i64 b), .lit (.int .i64 c)], .agg [.lit (.int .i64 x), .lit (.int .i64 y), .lit (.int .i64 r)]] =
    T.br (U.lt r (0 : Int))
    (T.ask (c ≠ (0 : Int) → I64 (c - (1 : Int)) ∧ I64 (b * (c - (1 : Int))) ∧ I64 (a + b * (c - (1 : Int))) ∧ I64 (-b))
      (T.ret
        (SV.agg
          [SV.lit (Value.int IntKind.i64 (lk tF a b c)), SV.lit (Value.int IntKind.i64 (lk tB a b c)),
            SV.lit (Value.int IntKind.i64 c)])))
    (T.ret
      (SV.agg [SV.lit (Value.int IntKind.i64 a), SV.lit (Value.int IntKind.i64 b), SV.lit (Value.int IntKind.i64 c)])) := by kernel_rfl
theorem like_ok : ConOK P 113 c_like := con_of (allOK mixed k7_ok) 10 113 fun args r h => by
  unfold c_like at h
  split at h
  · rename_i a b c x y r
    have hp := (T.is_ask h).1
    have h := (T.is_ask h).2
    obtain rfl := T.is_ret h
    rw [t_like]
    simp only [T.All, U.le_t, U.le_f, U.lt_t, U.lt_f, U.gt_t, U.gt_f, U.ge_t, U.ge_f, U.eq_t, U.eq_f, U.ne_t, U.ne_f, U.not_t, U.not_f, U.andb_t, U.andb_f, SV.lit.injEq, SV.agg.injEq, SV.tup.injEq, List.cons.injEq, Value.int.injEq, Value.bool.injEq, true_and, and_true, lk_eq]
    refine ⟨fun h => ⟨hp h, ?_⟩, fun h => ?_⟩
    · simp [kF, kB, h]
    · have n1 : ¬ r < 0 := by omega
      simp [kF, kB, n1]
  · exact h.elim

noncomputable abbrev k8 : List (Nat × Con) := (112, c_up) :: (113, c_like) :: (35, c_Count) :: (39, c_Count) :: (38, c_By) :: k7 --%K
theorem k8_ok : ∀ p ∈ k8, ConOK P p.1 p.2 := by
  intro p hp
  simp only [k8, List.mem_cons] at hp
  rcases hp with rfl | rfl | rfl | rfl | rfl | hp
  · exact up_ok
  · exact like_ok
  · exact Count_ok
  · exact rCount_ok
  · exact rBy_ok
  · exact k7_ok p (by simpa [k7] using hp)
end Go.RX.Span
