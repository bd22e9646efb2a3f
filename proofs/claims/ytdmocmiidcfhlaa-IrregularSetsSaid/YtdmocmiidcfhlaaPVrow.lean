/- What is proved here: IrregularSets: an index is in the union, in both, in the difference, as sets say; it has the number with which it stands in Indices; Of of Indices is the domain (up to 100 positions, ranges of up to 1000 numbers) (without the reference): the law returns true, whatever the input; no condition. -/
import Derived.Test.YtdmocmiidcfhlaaPVi
import Derived.Test.YtdmocmiidcfhlaaPVj
import Derived.Test.YtdmocmiidcfhlaaPVc
import Derived.Test.YtdmocmiidcfhlaaRows
import Derived.WalkKit
import Derived.ProofKit
import Derived.OpenShut
import Derived.Below
import Derived.ChangeOld
import Derived.JoinedOf
import Derived.JoinedAt
import Derived.RowKit3
import Derived.Lib.SmallJoins
set_option linter.unusedVariables false
namespace Go.Proofs.Ytdmocmiidcfhlaa
open Go Go.ChangeShapes Go.WideShapes Go.ChangeAt Go.RowKit Go.Joins

theorem own : ownKnob Try.prog.godebug = Option.none := by kernel_rfl
theorem laidOut : laidOutB Try.prog = true := by kernel_rfl
theorem row64 {e : Go.RX.Els [.sl [.int .i64, .int .i64, .int .i64], .int .i64, .int .i64, .int .i64]} (h : Go.RX.OkEs _ e) : Go.RX.Span.Row64 e.1.1 e.1.2 := fun i hi =>
  have g := h.1.2 i hi
  ⟨bounds_i64 g.1, bounds_i64 g.2.1, bounds_i64 g.2.2.1⟩
theorem row64s {e : Go.RX.Els [.sl [.int .i64, .int .i64, .int .i64], .int .i64, .int .i64, .int .i64, .sl [.int .i64]]} (h : Go.RX.OkEs _ e) : Go.RX.Span.Row64 e.1.1 e.1.2 := fun i hi =>
  have g := h.1.2 i hi
  ⟨bounds_i64 g.1, bounds_i64 g.2.1, bounds_i64 g.2.2.1⟩
theorem row64l {e : Go.RX.El (.sl [.int .i64, .int .i64, .int .i64])} (h : Go.RX.OkE _ e) : Go.RX.Span.Row64 e.1 e.2 := fun i hi =>
  have g := h.2 i hi
  ⟨bounds_i64 g.1, bounds_i64 g.2.1, bounds_i64 g.2.2.1⟩
theorem row64i {e : Go.RX.El (.sl [.int .i64])} (h : Go.RX.OkE _ e) : ∀ i, i < e.1 → Go.RX.I64 (e.2 i).1 := fun i hi => bounds_i64 (h.2 i hi).1

set_option maxRecDepth 100000 in
theorem irregularSets_lifted (os : Os) (started : os.Started) (H : Type) (enc : TypeId × Value → H) :
    ReturnsInHanded {} Try.checked os 5 .any (Rows.irregularSetsSpec.pre6 enc Try.prog Try.f5 Rows.irregularSetsRow.domain false) (Rows.irregularSetsSpec.post enc Try.prog Try.f5 false true false false) := by
  refine returnsInHanded_of_change (C := Try.checked) own started (by kernel_rfl) Try.func5
    (ChangeSpec.witness6 (enc := enc) (C := Try.checked) false ⟨#[], #[.agg #[.slice none 0 0, .int .i64 0, .int .i64 0, .int .i64 0, .slice none 0 0], .agg #[.slice none 0 0, .int .i64 0, .int .i64 0, .int .i64 0, .slice none 0 0]], []⟩ 8 (by kernel_rfl) (by kernel_rfl) (by kernel_rfl) (by kernel_rfl)) ?_
  intro W base args ds gs before hval0 hW hcnd _
  have hval : ∀ (j : Nat) t v, Try.f5.params[j]? = some t → args[j]? = some v → Value.okWide Try.prog W .any base t v := hval0
  have hW' := hW
  obtain ⟨p, q, hA0, hV, rfl, hfz, hnd⟩ := hW
  have hA : DataW.TrodAll enc Try.prog W 0 (fun _ => true) true Try.f5.params.toList args.toList ds p := hA0
  rw [Try.params5] at hA hval
  obtain ⟨v0, vs0, d0, ds0, p0, q0, hargs, rfl, rfl, h0, r0⟩ := trodAll_cons hA
  obtain ⟨v1, vs1, d1, ds1, p1, q1, rfl, rfl, rfl, h1, r1⟩ := trodAll_cons r0
  obtain ⟨rfl, rfl, rfl⟩ := trodAll_nil r1
  obtain rfl : args = #[v0, v1] := by cases args; simp_all
  obtain ⟨rfl, rfl⟩ := trodVars_none hV
  have k0 := h0
  have lt0 : ∀ x ∈ p0, x.block < W.heap.size := by obtain ⟨m, hm⟩ := k0; exact DataW.trod_lt m _ _ _ hm
  obtain ⟨e0, g0, w0⟩ := Go.RX.param_agg (ss := [.sl [.int .i64, .int .i64, .int .i64], .int .i64, .int .i64, .int .i64, .sl [.int .i64]]) Try.underlying29 (by kernel_rfl) (hval 0 29 v0 rfl rfl) h0
  have k1 := h1
  have lt1 : ∀ x ∈ p1, x.block < W.heap.size := by obtain ⟨m, hm⟩ := k1; exact DataW.trod_lt m _ _ _ hm
  obtain ⟨e1, g1, w1⟩ := Go.RX.param_agg (ss := [.sl [.int .i64, .int .i64, .int .i64], .int .i64, .int .i64, .int .i64, .sl [.int .i64]]) Try.underlying29 (by kernel_rfl) (hval 1 29 v1 rfl rfl) h1
  clear hA0 hval0
  refine (Go.RX.Span.IrregularSets_ok [.agg (Go.RX.svs [.sl [.int .i64, .int .i64, .int .i64], .int .i64, .int .i64, .int .i64, .sl [.int .i64]] e0), .agg (Go.RX.svs [.sl [.int .i64, .int .i64, .int .i64], .int .i64, .int .i64, .int .i64, .sl [.int .i64]] e1)] (.lit (.bool true)) ⟨⟨row64s w0, row64s w1⟩, rfl⟩ Go.RX.noLv W [v0, v1] (fun _ h => h.elim) (Go.RX.RepL.cons g0 (Go.RX.RepL.cons g1 Go.RX.RepL.nil))).mono fun e W' ⟨v, he, bel, hr⟩ => ?_
  obtain rfl : v = .bool true := hr
  subst he
  exact ⟨_, rfl, _, _, _, [], _, [], hW', trodAll_mk1 (shut_bool Try.underlying4 _), (trodAll_cons_mk (Below.trod laidOut (by kernel_rfl) (of_decide_eq_true (by kernel_rfl)) k0 bel lt0) (trodAll_cons_mk (Below.trod laidOut (by kernel_rfl) (of_decide_eq_true (by kernel_rfl)) k1 bel lt1) trodAll_mk0)), rfl, bel.frame _, fun h => by cases h⟩

theorem irregularSets_holds : Rows.IrregularSetsSaid :=
  OpenClaim.holds_of_wide 5 Try.f5 rfl rfl rfl rfl rfl rfl rfl ⟨rfl, rfl, rfl, rfl, rfl⟩ rfl rfl rfl rfl rfl (by kernel_rfl) Try.func5 (Go.RX.joined_of jA jB jC jD jE jF jG jH jI jJ jK jL jM)
    (of_decide_eq_true (by kernel_rfl)) (by unfold Func.isWrapper; first | (rw [if_pos (by decide +kernel)]; kernel_rfl) | (rw [if_neg (by decide +kernel)]; exact ⟨rfl, rfl⟩))
    (fun os started H enc _ => irregularSets_lifted os started H enc)
#print axioms irregularSets_holds
end Go.Proofs.Ytdmocmiidcfhlaa
