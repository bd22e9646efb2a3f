/-
  No cell of these rows narrows 'for every input' (looked for: loops, veiled, ifaces, maps, wideKeys, modest, calm, conditions, laid).
  DERIVED. THE GIVEN ROWS OF THIS SEAT. 6 by the template 'for every input the law returns true; each argument reads behind the call as it read before'; 0 by the template 'total and deterministic' (their statements: YtdmocmiidcfhlaaTotals.lean).
  GIVEN WITH THE SEED: the statements are not yours to turn. If you find one false, say at which input.
  Laid BY PROGRAM, IN A SANDBOX (cutbox-rows.mjs): the forced cells as the released guide's own fill.sh prints them over the translation a26aaf3ecb20bec5… (all of the seat's roots in one cut). By AI agents, Wed Nov 11 2026. No macro, syntax, notation, axiom, sorry.
-/
import Derived.Test.YtdmocmiidcfhlaaChecked
import GoSem.Claim
import GoSem.ClaimJoined
import GoSem.ClaimMapViews
import Derived.JoinedTies
import Derived.KernelRfl
namespace Go.Proofs.Ytdmocmiidcfhlaa
/- THE CELL 'sum', in the pinned program and in every row, IS THE sha256 OF THE DUMP (.gsa) THAT YtdmocmiidcfhlaaProg.lean LOADS. Nothing in Lean hashes anything: it is a label: what it is worth is what the hold of that sum in a sandbox is worth. -/
noncomputable def Try.pinned : Pinned := { name := "ytdmocmiidcfhlaa", sum := "a26aaf3ecb20bec501552a71df1ce7b824dc64f4245f2462c67886913a11f825", checked := Try.checked }
namespace Rows
def none {H : Type} : Left H := { results := [], args := [] }

/-- 'raddlelaw03.IrregularRows': WHATEVER THE INPUT: true; the input reads as it did. -/
def irregularRowsSpec : ChangeSpec := { name := "irregularRows", fn := fun _ => fun
  | [d1, d2] => { results := [.lit (.bool true)], args := [d1, d2] }
  | _ => none }
def irregularRowsRow : OpenClaim := { program := "ytdmocmiidcfhlaa", sum := "a26aaf3ecb20bec501552a71df1ce7b824dc64f4245f2462c67886913a11f825", func := "raddle/raddlelaw03.IrregularRows", spec := "irregularRows", unfollowed := true, recurses := true, plainKeys := false, apart := false }
def IrregularRowsSaid : Prop := irregularRowsRow.holds Try.pinned (OpenSpec.ofChange irregularRowsSpec)

/-- ITS FALSE NEIGHBOUR: 'it returns false'. Refute it at one input. -/
def irregularRowsWrong : ChangeSpec := { name := "irregularRows", fn := fun _ => fun
  | [d1, d2] => { results := [.lit (.bool false)], args := [d1, d2] }
  | _ => none }
def IrregularRowsWrongFalsely : Prop := irregularRowsRow.holds Try.pinned (OpenSpec.ofChange irregularRowsWrong)

/-- 'raddlelaw03.IrregularSparse': WHATEVER THE INPUT: true; the input reads as it did. -/
def irregularSparseSpec : ChangeSpec := { name := "irregularSparse", fn := fun _ => fun
  | [d1, d2, d3] => { results := [.lit (.bool true)], args := [d1, d2, d3] }
  | _ => none }
def irregularSparseRow : OpenClaim := { program := "ytdmocmiidcfhlaa", sum := "a26aaf3ecb20bec501552a71df1ce7b824dc64f4245f2462c67886913a11f825", func := "raddle/raddlelaw03.IrregularSparse", spec := "irregularSparse", unfollowed := true, recurses := true, plainKeys := false, apart := false }
def IrregularSparseSaid : Prop := irregularSparseRow.holds Try.pinned (OpenSpec.ofChange irregularSparseSpec)

/-- ITS FALSE NEIGHBOUR: 'it returns false'. Refute it at one input. -/
def irregularSparseWrong : ChangeSpec := { name := "irregularSparse", fn := fun _ => fun
  | [d1, d2, d3] => { results := [.lit (.bool false)], args := [d1, d2, d3] }
  | _ => none }
def IrregularSparseWrongFalsely : Prop := irregularSparseRow.holds Try.pinned (OpenSpec.ofChange irregularSparseWrong)

/-- 'raddlelaw03.IrregularSets': WHATEVER THE INPUT: true; the input reads as it did. -/
def irregularSetsSpec : ChangeSpec := { name := "irregularSets", fn := fun _ => fun
  | [d1, d2] => { results := [.lit (.bool true)], args := [d1, d2] }
  | _ => none }
def irregularSetsRow : OpenClaim := { program := "ytdmocmiidcfhlaa", sum := "a26aaf3ecb20bec501552a71df1ce7b824dc64f4245f2462c67886913a11f825", func := "raddle/raddlelaw03.IrregularSets", spec := "irregularSets", unfollowed := true, recurses := true, plainKeys := false, apart := false }
def IrregularSetsSaid : Prop := irregularSetsRow.holds Try.pinned (OpenSpec.ofChange irregularSetsSpec)

/-- ITS FALSE NEIGHBOUR: 'it returns false'. Refute it at one input. -/
def irregularSetsWrong : ChangeSpec := { name := "irregularSets", fn := fun _ => fun
  | [d1, d2] => { results := [.lit (.bool false)], args := [d1, d2] }
  | _ => none }
def IrregularSetsWrongFalsely : Prop := irregularSetsRow.holds Try.pinned (OpenSpec.ofChange irregularSetsWrong)

/-- 'raddlelaw03.IrregularBack': WHATEVER THE INPUT: true; the input reads as it did. -/
def irregularBackSpec : ChangeSpec := { name := "irregularBack", fn := fun _ => fun
  | [d] => { results := [.lit (.bool true)], args := [d] }
  | _ => none }
def irregularBackRow : OpenClaim := { program := "ytdmocmiidcfhlaa", sum := "a26aaf3ecb20bec501552a71df1ce7b824dc64f4245f2462c67886913a11f825", func := "raddle/raddlelaw03.IrregularBack", spec := "irregularBack", unfollowed := true, recurses := true, plainKeys := false, apart := false }
def IrregularBackSaid : Prop := irregularBackRow.holds Try.pinned (OpenSpec.ofChange irregularBackSpec)

/-- ITS FALSE NEIGHBOUR: 'it returns false'. Refute it at one input. -/
def irregularBackWrong : ChangeSpec := { name := "irregularBack", fn := fun _ => fun
  | [d] => { results := [.lit (.bool false)], args := [d] }
  | _ => none }
def IrregularBackWrongFalsely : Prop := irregularBackRow.holds Try.pinned (OpenSpec.ofChange irregularBackWrong)

/-- 'raddlelaw03.IrregularKeys': WHATEVER THE INPUT: true; the input reads as it did. -/
def irregularKeysSpec : ChangeSpec := { name := "irregularKeys", fn := fun _ => fun
  | [d1, d2, d3] => { results := [.lit (.bool true)], args := [d1, d2, d3] }
  | _ => none }
def irregularKeysRow : OpenClaim := { program := "ytdmocmiidcfhlaa", sum := "a26aaf3ecb20bec501552a71df1ce7b824dc64f4245f2462c67886913a11f825", func := "raddle/raddlelaw03.IrregularKeys", spec := "irregularKeys", inPlace := ["slices.overlaps[string]"], unfollowed := true, recurses := true, plainKeys := false, apart := false }
def IrregularKeysSaid : Prop := irregularKeysRow.holds Try.pinned (OpenSpec.ofChange irregularKeysSpec)

/-- ITS FALSE NEIGHBOUR: 'it returns false'. Refute it at one input. -/
def irregularKeysWrong : ChangeSpec := { name := "irregularKeys", fn := fun _ => fun
  | [d1, d2, d3] => { results := [.lit (.bool false)], args := [d1, d2, d3] }
  | _ => none }
def IrregularKeysWrongFalsely : Prop := irregularKeysRow.holds Try.pinned (OpenSpec.ofChange irregularKeysWrong)

/-- 'raddlelaw03.IrregularAlgebra': WHATEVER THE INPUT: true; the input reads as it did. -/
def irregularAlgebraSpec : ChangeSpec := { name := "irregularAlgebra", fn := fun _ => fun
  | [d1, d2, d3] => { results := [.lit (.bool true)], args := [d1, d2, d3] }
  | _ => none }
def irregularAlgebraRow : OpenClaim := { program := "ytdmocmiidcfhlaa", sum := "a26aaf3ecb20bec501552a71df1ce7b824dc64f4245f2462c67886913a11f825", func := "raddle/raddlelaw03.IrregularAlgebra", spec := "irregularAlgebra", inPlace := ["slices.overlaps[string]"], unfollowed := true, recurses := true, plainKeys := false, apart := false }
def IrregularAlgebraSaid : Prop := irregularAlgebraRow.holds Try.pinned (OpenSpec.ofChange irregularAlgebraSpec)

/-- ITS FALSE NEIGHBOUR: 'it returns false'. Refute it at one input. -/
def irregularAlgebraWrong : ChangeSpec := { name := "irregularAlgebra", fn := fun _ => fun
  | [d1, d2, d3] => { results := [.lit (.bool false)], args := [d1, d2, d3] }
  | _ => none }
def IrregularAlgebraWrongFalsely : Prop := irregularAlgebraRow.holds Try.pinned (OpenSpec.ofChange irregularAlgebraWrong)

/- THE SECOND FORM. 'bulk': how many values and letters a reading holds, each counted each time it is reached (what is shared counts as often as it is met; a slice's spare places count too). A statement '..UptoSaid' is the law's where the arguments, and the package variables that the reading takes, are together of bulk at most 1048576: NARROWER than '..Said'. Prove '..Said' where nothing that the law and all that it calls make is longer than what came in: it says more and counts as full. Else prove '..UptoSaid'. A law counts once. -/
mutual
def uptoBulk {H : Type} : DataW H → Nat
  | .lit (.string bytes) => bytes.length + 1
  | .lit _ => 1
  | .nil => 1
  | .ptr d => uptoBulk d + 1
  | .slice elems spare => uptoBulkAll elems + uptoBulkAll spare + 1
  | .agg parts => uptoBulkAll parts + 1
  | .iface _ d => uptoBulk d + 1
  | .map entries => uptoBulkEntries entries + 1
  | .held _ => 1
def uptoBulkAll {H : Type} : List (DataW H) → Nat
  | [] => 0
  | d :: r => uptoBulk d + uptoBulkAll r
def uptoBulkEntries {H : Type} : List (Lit × DataW H) → Nat
  | [] => 0
  | x :: r => uptoBulkEntry x + uptoBulkEntries r
def uptoBulkEntry {H : Type} : Lit × DataW H → Nat
  | (.string bytes, d) => bytes.length + uptoBulk d + 1
  | (_, d) => uptoBulk d + 1
 end
def uptoSmall : (H : Type) → List (DataW H) → Bool := fun _ ds => decide (uptoBulkAll ds ≤ 1048576)
def OpenSpec.upto (s : _root_.Go.ChangeSpec) : _root_.Go.OpenSpec := { _root_.Go.OpenSpec.ofChange s with cond := some uptoSmall }

/-- 'raddlelaw03.IrregularRows', WHERE WHAT IT READS IS OF BULK AT MOST 1048576: true; the input reads as it did. -/
def irregularRowsUptoRow : OpenClaim := { program := "ytdmocmiidcfhlaa", sum := "a26aaf3ecb20bec501552a71df1ce7b824dc64f4245f2462c67886913a11f825", func := "raddle/raddlelaw03.IrregularRows", spec := "irregularRows", unfollowed := true, recurses := true, plainKeys := false, apart := false, narrowed := true }
def IrregularRowsUptoSaid : Prop := irregularRowsUptoRow.holds Try.pinned (OpenSpec.upto irregularRowsSpec)

/-- 'raddlelaw03.IrregularSparse', WHERE WHAT IT READS IS OF BULK AT MOST 1048576: true; the input reads as it did. -/
def irregularSparseUptoRow : OpenClaim := { program := "ytdmocmiidcfhlaa", sum := "a26aaf3ecb20bec501552a71df1ce7b824dc64f4245f2462c67886913a11f825", func := "raddle/raddlelaw03.IrregularSparse", spec := "irregularSparse", unfollowed := true, recurses := true, plainKeys := false, apart := false, narrowed := true }
def IrregularSparseUptoSaid : Prop := irregularSparseUptoRow.holds Try.pinned (OpenSpec.upto irregularSparseSpec)

/-- 'raddlelaw03.IrregularSets', WHERE WHAT IT READS IS OF BULK AT MOST 1048576: true; the input reads as it did. -/
def irregularSetsUptoRow : OpenClaim := { program := "ytdmocmiidcfhlaa", sum := "a26aaf3ecb20bec501552a71df1ce7b824dc64f4245f2462c67886913a11f825", func := "raddle/raddlelaw03.IrregularSets", spec := "irregularSets", unfollowed := true, recurses := true, plainKeys := false, apart := false, narrowed := true }
def IrregularSetsUptoSaid : Prop := irregularSetsUptoRow.holds Try.pinned (OpenSpec.upto irregularSetsSpec)

/-- 'raddlelaw03.IrregularBack', WHERE WHAT IT READS IS OF BULK AT MOST 1048576: true; the input reads as it did. -/
def irregularBackUptoRow : OpenClaim := { program := "ytdmocmiidcfhlaa", sum := "a26aaf3ecb20bec501552a71df1ce7b824dc64f4245f2462c67886913a11f825", func := "raddle/raddlelaw03.IrregularBack", spec := "irregularBack", unfollowed := true, recurses := true, plainKeys := false, apart := false, narrowed := true }
def IrregularBackUptoSaid : Prop := irregularBackUptoRow.holds Try.pinned (OpenSpec.upto irregularBackSpec)

/-- 'raddlelaw03.IrregularKeys', WHERE WHAT IT READS IS OF BULK AT MOST 1048576: true; the input reads as it did. -/
def irregularKeysUptoRow : OpenClaim := { program := "ytdmocmiidcfhlaa", sum := "a26aaf3ecb20bec501552a71df1ce7b824dc64f4245f2462c67886913a11f825", func := "raddle/raddlelaw03.IrregularKeys", spec := "irregularKeys", inPlace := ["slices.overlaps[string]"], unfollowed := true, recurses := true, plainKeys := false, apart := false, narrowed := true }
def IrregularKeysUptoSaid : Prop := irregularKeysUptoRow.holds Try.pinned (OpenSpec.upto irregularKeysSpec)

/-- 'raddlelaw03.IrregularAlgebra', WHERE WHAT IT READS IS OF BULK AT MOST 1048576: true; the input reads as it did. -/
def irregularAlgebraUptoRow : OpenClaim := { program := "ytdmocmiidcfhlaa", sum := "a26aaf3ecb20bec501552a71df1ce7b824dc64f4245f2462c67886913a11f825", func := "raddle/raddlelaw03.IrregularAlgebra", spec := "irregularAlgebra", inPlace := ["slices.overlaps[string]"], unfollowed := true, recurses := true, plainKeys := false, apart := false, narrowed := true }
def IrregularAlgebraUptoSaid : Prop := irregularAlgebraUptoRow.holds Try.pinned (OpenSpec.upto irregularAlgebraSpec)

end Rows
end Go.Proofs.Ytdmocmiidcfhlaa
