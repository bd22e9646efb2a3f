/- Intersect and Within of the program: the walks. -/
import Derived.Test.YtfcafajfllegaaaSRd
import Derived.Test.YtfcafajfllegaaaSRe
set_option linter.unusedVariables false
set_option linter.unusedSimpArgs false
set_option maxRecDepth 100000
namespace Go.RX.Span
open Go Go.RX

def ckd (a b c x y z : Int) : Int := if chk a b c ≠ 0 then chk a b c else chk x y z
noncomputable def c_checked : Con := fun args => match args with
  | [.agg [.lit (.int .i64 a), .lit (.int .i64 b), .lit (.int .i64 c)], .agg [.lit (.int .i64 x), .lit (.int .i64 y), .lit (.int .i64 z)]] =>
    .ask (I64 a ∧ I64 b ∧ I64 c ∧ I64 x ∧ I64 y ∧ I64 z) (.ret (.lit (.int .i64 (lk ckd a b c x y z))))
  | _ => .stuck 1
set_option maxRecDepth 100000 in
theorem t_checked (a b c x y z : Int) : conB Go.Proofs.Try.prog (conOf k8) noLoops 10 116 [.agg [.lit (.int .i64 a), .lit (.int .i64 b), .lit (.int .i64 c)], .agg [.lit (.int .i64 x), .lit (.int .i64 y), .lit (.int .i64 z)]] =
    T.ask (I64 a ∧ I64 b ∧ I64 c)
    (T.br (U.ne (lk chk a b c) (0 : Int)) (T.ret (SV.lit (Value.int IntKind.i64 (lk chk a b c))))
      (T.ask (I64 x ∧ I64 y ∧ I64 z) (T.ret (SV.lit (Value.int IntKind.i64 (lk chk x y z)))))) := by kernel_rfl
theorem checked_ok : ConOK P 116 c_checked := con_of (allOK mixed k8_ok) 10 116 fun args r h => by
  unfold c_checked at h
  split at h
  · rename_i a b c x y z
    have hp := (T.is_ask h).1
    have h := (T.is_ask h).2
    obtain rfl := T.is_ret h
    rw [t_checked]
    obtain ⟨ha, hb, hc, hx, hy, hz⟩ := hp
    by_cases h1 : chk a b c = 0 <;> simp [T.All, U.ne_eq, lk_eq, ckd, h1, ha, hb, hc, hx, hy, hz]
  · exact h.elim

noncomputable abbrev ke : List (Nat × Con) := (116, c_checked) :: (117, c_common) :: (118, c_euclid) :: k8
theorem ke_ok : ∀ p ∈ ke, ConOK P p.1 p.2 := by
  intro p hp
  simp only [ke, List.mem_cons] at hp
  rcases hp with rfl | rfl | rfl | hp
  · exact checked_ok
  · exact common_ok
  · exact euclid_ok
  · exact k8_ok p (by simpa [k8] using hp)
theorem ckd_right {a b c x y z : Int} (h : ckd a b c x y z = 0) : Right a b c ∧ Right x y z := by
  unfold ckd at h
  by_cases h1 : chk a b c = 0
  · rw [if_neg (by simp [h1])] at h
    exact ⟨chk_zero.1 h1, chk_zero.1 h⟩
  · rw [if_pos h1] at h
    exact absurd h h1
end Go.RX.Span
