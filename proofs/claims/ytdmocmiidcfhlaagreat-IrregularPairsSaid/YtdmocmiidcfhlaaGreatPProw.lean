/- What is proved here: IrregularPairs: Union, Both, Minus and Within of any domains return the results of the reference, or its error (up to 100 positions, ranges of up to 1000 numbers): the law returns true, whatever the input; no condition. -/
import Derived.Test.YtdmocmiidcfhlaaGreatPPi
import Derived.Test.YtdmocmiidcfhlaaGreatPPj
import Derived.Test.YtdmocmiidcfhlaaGreatPPc
import Derived.Test.YtdmocmiidcfhlaaGreatRows
import Derived.WalkKit
import Derived.ProofKit
import Derived.OpenShut
import Derived.Below
import Derived.ChangeOld
import Derived.JoinedOf
import Derived.JoinedAt
import Derived.RowKit3
import Derived.Lib.SmallJoins
set_option linter.unusedVariables false
namespace Go.Proofs.YtdmocmiidcfhlaaGreat
open Go Go.ChangeShapes Go.WideShapes Go.ChangeAt Go.RowKit Go.Joins

theorem own : ownKnob Tryz.prog.godebug = Option.none := by kernel_rfl
theorem laidOut : laidOutB Tryz.prog = true := by kernel_rfl
theorem row64 {e : Go.RX.Els [.sl [.int .i64, .int .i64, .int .i64], .int .i64, .int .i64, .int .i64]} (h : Go.RX.OkEs _ e) : Go.RX.Span.Row64 e.1.1 e.1.2 := fun i hi =>
  have g := h.1.2 i hi
  ⟨bounds_i64 g.1, bounds_i64 g.2.1, bounds_i64 g.2.2.1⟩
theorem row64s {e : Go.RX.Els [.sl [.int .i64, .int .i64, .int .i64], .int .i64, .int .i64, .int .i64, .sl [.int .i64]]} (h : Go.RX.OkEs _ e) : Go.RX.Span.Row64 e.1.1 e.1.2 := fun i hi =>
  have g := h.1.2 i hi
  ⟨bounds_i64 g.1, bounds_i64 g.2.1, bounds_i64 g.2.2.1⟩
theorem row64l {e : Go.RX.El (.sl [.int .i64, .int .i64, .int .i64])} (h : Go.RX.OkE _ e) : Go.RX.Span.Row64 e.1 e.2 := fun i hi =>
  have g := h.2 i hi
  ⟨bounds_i64 g.1, bounds_i64 g.2.1, bounds_i64 g.2.2.1⟩
theorem row64i {e : Go.RX.El (.sl [.int .i64])} (h : Go.RX.OkE _ e) : ∀ i, i < e.1 → Go.RX.I64 (e.2 i).1 := fun i hi => bounds_i64 (h.2 i hi).1

set_option maxRecDepth 100000 in
theorem irregularPairs_lifted (os : Os) (started : os.Started) (H : Type) (enc : TypeId × Value → H) :
    ReturnsInHanded {} Tryz.checked os 3 .any (Rows.irregularPairsSpec.pre6 enc Tryz.prog Tryz.f3 Rows.irregularPairsRow.domain false) (Rows.irregularPairsSpec.post enc Tryz.prog Tryz.f3 false true false false) := by
  refine returnsInHanded_of_change (C := Tryz.checked) own started (by kernel_rfl) Tryz.func3
    (ChangeSpec.witness6 (enc := enc) (C := Tryz.checked) false ⟨#[], #[.agg #[.slice none 0 0, .int .i64 0, .int .i64 0, .int .i64 0, .slice none 0 0], .agg #[.slice none 0 0, .int .i64 0, .int .i64 0, .int .i64 0, .slice none 0 0], .agg #[.slice none 0 0, .int .i64 0, .int .i64 0, .int .i64 0]], []⟩ 8 (by kernel_rfl) (by kernel_rfl) (by kernel_rfl) (by kernel_rfl)) ?_
  intro W base args ds gs before hval0 hW hcnd _
  have hval : ∀ (j : Nat) t v, Tryz.f3.params[j]? = some t → args[j]? = some v → Value.okWide Tryz.prog W .any base t v := hval0
  have hW' := hW
  obtain ⟨p, q, hA0, hV, rfl, hfz, hnd⟩ := hW
  have hA : DataW.TrodAll enc Tryz.prog W 0 (fun _ => true) true Tryz.f3.params.toList args.toList ds p := hA0
  rw [Tryz.params3] at hA hval
  obtain ⟨v0, vs0, d0, ds0, p0, q0, hargs, rfl, rfl, h0, r0⟩ := trodAll_cons hA
  obtain ⟨v1, vs1, d1, ds1, p1, q1, rfl, rfl, rfl, h1, r1⟩ := trodAll_cons r0
  obtain ⟨v2, vs2, d2, ds2, p2, q2, rfl, rfl, rfl, h2, r2⟩ := trodAll_cons r1
  obtain ⟨rfl, rfl, rfl⟩ := trodAll_nil r2
  obtain rfl : args = #[v0, v1, v2] := by cases args; simp_all
  obtain ⟨rfl, rfl⟩ := trodVars_none hV
  have k0 := h0
  have lt0 : ∀ x ∈ p0, x.block < W.heap.size := by obtain ⟨m, hm⟩ := k0; exact DataW.trod_lt m _ _ _ hm
  obtain ⟨e0, g0, w0⟩ := Go.RX.param_agg (ss := [.sl [.int .i64, .int .i64, .int .i64], .int .i64, .int .i64, .int .i64, .sl [.int .i64]]) Tryz.underlying29 (by kernel_rfl) (hval 0 29 v0 rfl rfl) h0
  have k1 := h1
  have lt1 : ∀ x ∈ p1, x.block < W.heap.size := by obtain ⟨m, hm⟩ := k1; exact DataW.trod_lt m _ _ _ hm
  obtain ⟨e1, g1, w1⟩ := Go.RX.param_agg (ss := [.sl [.int .i64, .int .i64, .int .i64], .int .i64, .int .i64, .int .i64, .sl [.int .i64]]) Tryz.underlying29 (by kernel_rfl) (hval 1 29 v1 rfl rfl) h1
  have k2 := h2
  have lt2 : ∀ x ∈ p2, x.block < W.heap.size := by obtain ⟨m, hm⟩ := k2; exact DataW.trod_lt m _ _ _ hm
  obtain ⟨e2, g2, w2⟩ := Go.RX.param_agg (ss := [.sl [.int .i64, .int .i64, .int .i64], .int .i64, .int .i64, .int .i64]) Tryz.underlying26 (by kernel_rfl) (hval 2 26 v2 rfl rfl) h2
  clear hA0 hval0
  refine (Go.RX.Span.IrregularPairs_ok [.agg (Go.RX.svs [.sl [.int .i64, .int .i64, .int .i64], .int .i64, .int .i64, .int .i64, .sl [.int .i64]] e0), .agg (Go.RX.svs [.sl [.int .i64, .int .i64, .int .i64], .int .i64, .int .i64, .int .i64, .sl [.int .i64]] e1), .agg (Go.RX.svs [.sl [.int .i64, .int .i64, .int .i64], .int .i64, .int .i64, .int .i64] e2)] (.lit (.bool true)) ⟨⟨row64s w0, row64s w1, row64 w2⟩, rfl⟩ Go.RX.noLv W [v0, v1, v2] (fun _ h => h.elim) (Go.RX.RepL.cons g0 (Go.RX.RepL.cons g1 (Go.RX.RepL.cons g2 Go.RX.RepL.nil)))).mono fun e W' ⟨v, he, bel, hr⟩ => ?_
  obtain rfl : v = .bool true := hr
  subst he
  exact ⟨_, rfl, _, _, _, [], _, [], hW', trodAll_mk1 (shut_bool Tryz.underlying4 _), (trodAll_cons_mk (Below.trod laidOut (by kernel_rfl) (of_decide_eq_true (by kernel_rfl)) k0 bel lt0) (trodAll_cons_mk (Below.trod laidOut (by kernel_rfl) (of_decide_eq_true (by kernel_rfl)) k1 bel lt1) (trodAll_cons_mk (Below.trod laidOut (by kernel_rfl) (of_decide_eq_true (by kernel_rfl)) k2 bel lt2) trodAll_mk0))), rfl, bel.frame _, fun h => by cases h⟩

theorem irregularPairs_holds : Rows.IrregularPairsSaid :=
  OpenClaim.holds_of_wide 3 Tryz.f3 rfl rfl rfl rfl rfl rfl rfl ⟨rfl, rfl, rfl, rfl, rfl⟩ rfl rfl rfl rfl rfl (by kernel_rfl) Tryz.func3 (Go.RX.joined_of jA jB jC jD jE jF jG jH jI jJ jK jL jM)
    (of_decide_eq_true (by kernel_rfl)) (by unfold Func.isWrapper; first | (rw [if_pos (by decide +kernel)]; kernel_rfl) | (rw [if_neg (by decide +kernel)]; exact ⟨rfl, rfl⟩))
    (fun os started H enc _ => irregularPairs_lifted os started H enc)
#print axioms irregularPairs_holds
end Go.Proofs.YtdmocmiidcfhlaaGreat
