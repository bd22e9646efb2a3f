/-
  No cell of these rows narrows 'for every input' (looked for: loops, veiled, ifaces, maps, wideKeys, modest, calm, conditions, laid).
  DERIVED. THE GIVEN ROWS OF THIS SEAT. 16 by the template 'for every input the law returns true; each argument reads behind the call as it read before'; 0 by the template 'total and deterministic' (their statements: YtfcafajfllegaaaTotals.lean).
  GIVEN WITH THE SEED: the statements are not yours to turn. If you find one false, say at which input.
  Laid BY PROGRAM, IN A SANDBOX (cutbox-rows.mjs): the forced cells as the released guide's own fill.sh prints them over the translation 69dacc5a34a9a195… (all of the seat's roots in one cut). By AI agents, Wed Nov 11 2026. No macro, syntax, notation, axiom, sorry.
-/
import Derived.Test.YtfcafajfllegaaaChecked
import GoSem.Claim
import GoSem.ClaimJoined
import GoSem.ClaimMapViews
import Derived.JoinedTies
import Derived.KernelRfl
namespace Go.Proofs.Ytfcafajfllegaaa
/- THE CELL 'sum', in the pinned program and in every row, IS THE sha256 OF THE DUMP (.gsa) THAT YtfcafajfllegaaaProg.lean LOADS. Nothing in Lean hashes anything: it is a label: what it is worth is what the hold of that sum in a sandbox is worth. -/
noncomputable def Try.pinned : Pinned := { name := "ytfcafajfllegaaa", sum := "69dacc5a34a9a195a0d4f9e97ba389b49e54eae4b55f332f59ea8f19f67787de", checked := Try.checked }
namespace Rows
def none {H : Type} : Left H := { results := [], args := [] }

/-- 'raddlelaw01.SpanOf': WHATEVER THE INPUT: true; the input reads as it did. -/
def spanOfSpec : ChangeSpec := { name := "spanOf", fn := fun _ => fun
  | [d1, d2, d3, d4, d5] => { results := [.lit (.bool true)], args := [d1, d2, d3, d4, d5] }
  | _ => none }
def spanOfRow : OpenClaim := { program := "ytfcafajfllegaaa", sum := "69dacc5a34a9a195a0d4f9e97ba389b49e54eae4b55f332f59ea8f19f67787de", func := "raddle/raddlelaw01.SpanOf", spec := "spanOf", apart := false }
def SpanOfSaid : Prop := spanOfRow.holds Try.pinned (OpenSpec.ofChange spanOfSpec)

/-- ITS FALSE NEIGHBOUR: 'it returns false'. Refute it at one input. -/
def spanOfWrong : ChangeSpec := { name := "spanOf", fn := fun _ => fun
  | [d1, d2, d3, d4, d5] => { results := [.lit (.bool false)], args := [d1, d2, d3, d4, d5] }
  | _ => none }
def SpanOfWrongFalsely : Prop := spanOfRow.holds Try.pinned (OpenSpec.ofChange spanOfWrong)

/-- 'raddlelaw01.SpanOrders': WHATEVER THE INPUT: true; the input reads as it did. -/
def spanOrdersSpec : ChangeSpec := { name := "spanOrders", fn := fun _ => fun
  | [d] => { results := [.lit (.bool true)], args := [d] }
  | _ => none }
def spanOrdersRow : OpenClaim := { program := "ytfcafajfllegaaa", sum := "69dacc5a34a9a195a0d4f9e97ba389b49e54eae4b55f332f59ea8f19f67787de", func := "raddle/raddlelaw01.SpanOrders", spec := "spanOrders", unfollowed := true, recurses := true, apart := false }
def SpanOrdersSaid : Prop := spanOrdersRow.holds Try.pinned (OpenSpec.ofChange spanOrdersSpec)

/-- ITS FALSE NEIGHBOUR: 'it returns false'. Refute it at one input. -/
def spanOrdersWrong : ChangeSpec := { name := "spanOrders", fn := fun _ => fun
  | [d] => { results := [.lit (.bool false)], args := [d] }
  | _ => none }
def SpanOrdersWrongFalsely : Prop := spanOrdersRow.holds Try.pinned (OpenSpec.ofChange spanOrdersWrong)

/-- 'raddlelaw01.SpanByBy': WHATEVER THE INPUT: true; the input reads as it did. -/
def spanByBySpec : ChangeSpec := { name := "spanByBy", fn := fun _ => fun
  | [d1, d2, d3, d4] => { results := [.lit (.bool true)], args := [d1, d2, d3, d4] }
  | _ => none }
def spanByByRow : OpenClaim := { program := "ytfcafajfllegaaa", sum := "69dacc5a34a9a195a0d4f9e97ba389b49e54eae4b55f332f59ea8f19f67787de", func := "raddle/raddlelaw01.SpanByBy", spec := "spanByBy", unfollowed := true, recurses := true, apart := false }
def SpanByBySaid : Prop := spanByByRow.holds Try.pinned (OpenSpec.ofChange spanByBySpec)

/-- ITS FALSE NEIGHBOUR: 'it returns false'. Refute it at one input. -/
def spanByByWrong : ChangeSpec := { name := "spanByBy", fn := fun _ => fun
  | [d1, d2, d3, d4] => { results := [.lit (.bool false)], args := [d1, d2, d3, d4] }
  | _ => none }
def SpanByByWrongFalsely : Prop := spanByByRow.holds Try.pinned (OpenSpec.ofChange spanByByWrong)

/-- 'raddlelaw01.SpanChanges': WHATEVER THE INPUT: true; the input reads as it did. -/
def spanChangesSpec : ChangeSpec := { name := "spanChanges", fn := fun _ => fun
  | [d1, d2] => { results := [.lit (.bool true)], args := [d1, d2] }
  | _ => none }
def spanChangesRow : OpenClaim := { program := "ytfcafajfllegaaa", sum := "69dacc5a34a9a195a0d4f9e97ba389b49e54eae4b55f332f59ea8f19f67787de", func := "raddle/raddlelaw01.SpanChanges", spec := "spanChanges", unfollowed := true, recurses := true, apart := false }
def SpanChangesSaid : Prop := spanChangesRow.holds Try.pinned (OpenSpec.ofChange spanChangesSpec)

/-- ITS FALSE NEIGHBOUR: 'it returns false'. Refute it at one input. -/
def spanChangesWrong : ChangeSpec := { name := "spanChanges", fn := fun _ => fun
  | [d1, d2] => { results := [.lit (.bool false)], args := [d1, d2] }
  | _ => none }
def SpanChangesWrongFalsely : Prop := spanChangesRow.holds Try.pinned (OpenSpec.ofChange spanChangesWrong)

/-- 'raddlelaw01.SpanAlgebra': WHATEVER THE INPUT: true; the input reads as it did. -/
def spanAlgebraSpec : ChangeSpec := { name := "spanAlgebra", fn := fun _ => fun
  | [d1, d2, d3] => { results := [.lit (.bool true)], args := [d1, d2, d3] }
  | _ => none }
def spanAlgebraRow : OpenClaim := { program := "ytfcafajfllegaaa", sum := "69dacc5a34a9a195a0d4f9e97ba389b49e54eae4b55f332f59ea8f19f67787de", func := "raddle/raddlelaw01.SpanAlgebra", spec := "spanAlgebra", apart := false }
def SpanAlgebraSaid : Prop := spanAlgebraRow.holds Try.pinned (OpenSpec.ofChange spanAlgebraSpec)

/-- ITS FALSE NEIGHBOUR: 'it returns false'. Refute it at one input. -/
def spanAlgebraWrong : ChangeSpec := { name := "spanAlgebra", fn := fun _ => fun
  | [d1, d2, d3] => { results := [.lit (.bool false)], args := [d1, d2, d3] }
  | _ => none }
def SpanAlgebraWrongFalsely : Prop := spanAlgebraRow.holds Try.pinned (OpenSpec.ofChange spanAlgebraWrong)

/-- 'raddlelaw01.SpanPairs': WHATEVER THE INPUT: true; the input reads as it did. -/
def spanPairsSpec : ChangeSpec := { name := "spanPairs", fn := fun _ => fun
  | [d1, d2] => { results := [.lit (.bool true)], args := [d1, d2] }
  | _ => none }
def spanPairsRow : OpenClaim := { program := "ytfcafajfllegaaa", sum := "69dacc5a34a9a195a0d4f9e97ba389b49e54eae4b55f332f59ea8f19f67787de", func := "raddle/raddlelaw01.SpanPairs", spec := "spanPairs", unfollowed := true, recurses := true, apart := false }
def SpanPairsSaid : Prop := spanPairsRow.holds Try.pinned (OpenSpec.ofChange spanPairsSpec)

/-- ITS FALSE NEIGHBOUR: 'it returns false'. Refute it at one input. -/
def spanPairsWrong : ChangeSpec := { name := "spanPairs", fn := fun _ => fun
  | [d1, d2] => { results := [.lit (.bool false)], args := [d1, d2] }
  | _ => none }
def SpanPairsWrongFalsely : Prop := spanPairsRow.holds Try.pinned (OpenSpec.ofChange spanPairsWrong)

/-- 'raddlelaw05.DmapBalance': WHATEVER THE INPUT: true; the input reads as it did. -/
def dmapBalanceSpec : ChangeSpec := { name := "dmapBalance", fn := fun _ => fun
  | [d1, d2] => { results := [.lit (.bool true)], args := [d1, d2] }
  | _ => none }
def dmapBalanceRow : OpenClaim := { program := "ytfcafajfllegaaa", sum := "69dacc5a34a9a195a0d4f9e97ba389b49e54eae4b55f332f59ea8f19f67787de", func := "raddle/raddlelaw05.DmapBalance", spec := "dmapBalance", unfollowed := true, recurses := true, apart := false }
def DmapBalanceSaid : Prop := dmapBalanceRow.holds Try.pinned (OpenSpec.ofChange dmapBalanceSpec)

/-- ITS FALSE NEIGHBOUR: 'it returns false'. Refute it at one input. -/
def dmapBalanceWrong : ChangeSpec := { name := "dmapBalance", fn := fun _ => fun
  | [d1, d2] => { results := [.lit (.bool false)], args := [d1, d2] }
  | _ => none }
def DmapBalanceWrongFalsely : Prop := dmapBalanceRow.holds Try.pinned (OpenSpec.ofChange dmapBalanceWrong)

/-- 'raddlelaw05.DmapPieces': WHATEVER THE INPUT: true; the input reads as it did. -/
def dmapPiecesSpec : ChangeSpec := { name := "dmapPieces", fn := fun _ => fun
  | [d1, d2, d3] => { results := [.lit (.bool true)], args := [d1, d2, d3] }
  | _ => none }
def dmapPiecesRow : OpenClaim := { program := "ytfcafajfllegaaa", sum := "69dacc5a34a9a195a0d4f9e97ba389b49e54eae4b55f332f59ea8f19f67787de", func := "raddle/raddlelaw05.DmapPieces", spec := "dmapPieces", unfollowed := true, recurses := true, apart := false }
def DmapPiecesSaid : Prop := dmapPiecesRow.holds Try.pinned (OpenSpec.ofChange dmapPiecesSpec)

/-- ITS FALSE NEIGHBOUR: 'it returns false'. Refute it at one input. -/
def dmapPiecesWrong : ChangeSpec := { name := "dmapPieces", fn := fun _ => fun
  | [d1, d2, d3] => { results := [.lit (.bool false)], args := [d1, d2, d3] }
  | _ => none }
def DmapPiecesWrongFalsely : Prop := dmapPiecesRow.holds Try.pinned (OpenSpec.ofChange dmapPiecesWrong)

/-- 'raddlelaw05.DmapOwners': WHATEVER THE INPUT: true; the input reads as it did. -/
def dmapOwnersSpec : ChangeSpec := { name := "dmapOwners", fn := fun _ => fun
  | [d1, d2, d3, d4] => { results := [.lit (.bool true)], args := [d1, d2, d3, d4] }
  | _ => none }
def dmapOwnersRow : OpenClaim := { program := "ytfcafajfllegaaa", sum := "69dacc5a34a9a195a0d4f9e97ba389b49e54eae4b55f332f59ea8f19f67787de", func := "raddle/raddlelaw05.DmapOwners", spec := "dmapOwners", unfollowed := true, recurses := true, apart := false }
def DmapOwnersSaid : Prop := dmapOwnersRow.holds Try.pinned (OpenSpec.ofChange dmapOwnersSpec)

/-- ITS FALSE NEIGHBOUR: 'it returns false'. Refute it at one input. -/
def dmapOwnersWrong : ChangeSpec := { name := "dmapOwners", fn := fun _ => fun
  | [d1, d2, d3, d4] => { results := [.lit (.bool false)], args := [d1, d2, d3, d4] }
  | _ => none }
def DmapOwnersWrongFalsely : Prop := dmapOwnersRow.holds Try.pinned (OpenSpec.ofChange dmapOwnersWrong)

/-- 'raddlelaw05.DmapParts': WHATEVER THE INPUT: true; the input reads as it did. -/
def dmapPartsSpec : ChangeSpec := { name := "dmapParts", fn := fun _ => fun
  | [d1, d2, d3] => { results := [.lit (.bool true)], args := [d1, d2, d3] }
  | _ => none }
def dmapPartsRow : OpenClaim := { program := "ytfcafajfllegaaa", sum := "69dacc5a34a9a195a0d4f9e97ba389b49e54eae4b55f332f59ea8f19f67787de", func := "raddle/raddlelaw05.DmapParts", spec := "dmapParts", unfollowed := true, recurses := true, apart := false }
def DmapPartsSaid : Prop := dmapPartsRow.holds Try.pinned (OpenSpec.ofChange dmapPartsSpec)

/-- ITS FALSE NEIGHBOUR: 'it returns false'. Refute it at one input. -/
def dmapPartsWrong : ChangeSpec := { name := "dmapParts", fn := fun _ => fun
  | [d1, d2, d3] => { results := [.lit (.bool false)], args := [d1, d2, d3] }
  | _ => none }
def DmapPartsWrongFalsely : Prop := dmapPartsRow.holds Try.pinned (OpenSpec.ofChange dmapPartsWrong)

/-- 'raddlelaw05.DmapInverse': WHATEVER THE INPUT: true; the input reads as it did. -/
def dmapInverseSpec : ChangeSpec := { name := "dmapInverse", fn := fun _ => fun
  | [d1, d2] => { results := [.lit (.bool true)], args := [d1, d2] }
  | _ => none }
def dmapInverseRow : OpenClaim := { program := "ytfcafajfllegaaa", sum := "69dacc5a34a9a195a0d4f9e97ba389b49e54eae4b55f332f59ea8f19f67787de", func := "raddle/raddlelaw05.DmapInverse", spec := "dmapInverse", unfollowed := true, recurses := true, apart := false }
def DmapInverseSaid : Prop := dmapInverseRow.holds Try.pinned (OpenSpec.ofChange dmapInverseSpec)

/-- ITS FALSE NEIGHBOUR: 'it returns false'. Refute it at one input. -/
def dmapInverseWrong : ChangeSpec := { name := "dmapInverse", fn := fun _ => fun
  | [d1, d2] => { results := [.lit (.bool false)], args := [d1, d2] }
  | _ => none }
def DmapInverseWrongFalsely : Prop := dmapInverseRow.holds Try.pinned (OpenSpec.ofChange dmapInverseWrong)

/-- 'raddlelaw05.DmapOne': WHATEVER THE INPUT: true; the input reads as it did. -/
def dmapOneSpec : ChangeSpec := { name := "dmapOne", fn := fun _ => fun
  | [d1, d2] => { results := [.lit (.bool true)], args := [d1, d2] }
  | _ => none }
def dmapOneRow : OpenClaim := { program := "ytfcafajfllegaaa", sum := "69dacc5a34a9a195a0d4f9e97ba389b49e54eae4b55f332f59ea8f19f67787de", func := "raddle/raddlelaw05.DmapOne", spec := "dmapOne", unfollowed := true, recurses := true, apart := false }
def DmapOneSaid : Prop := dmapOneRow.holds Try.pinned (OpenSpec.ofChange dmapOneSpec)

/-- ITS FALSE NEIGHBOUR: 'it returns false'. Refute it at one input. -/
def dmapOneWrong : ChangeSpec := { name := "dmapOne", fn := fun _ => fun
  | [d1, d2] => { results := [.lit (.bool false)], args := [d1, d2] }
  | _ => none }
def DmapOneWrongFalsely : Prop := dmapOneRow.holds Try.pinned (OpenSpec.ofChange dmapOneWrong)

/-- 'raddlelaw05.DmapBlocks': WHATEVER THE INPUT: true; the input reads as it did. -/
def dmapBlocksSpec : ChangeSpec := { name := "dmapBlocks", fn := fun _ => fun
  | [d1, d2] => { results := [.lit (.bool true)], args := [d1, d2] }
  | _ => none }
def dmapBlocksRow : OpenClaim := { program := "ytfcafajfllegaaa", sum := "69dacc5a34a9a195a0d4f9e97ba389b49e54eae4b55f332f59ea8f19f67787de", func := "raddle/raddlelaw05.DmapBlocks", spec := "dmapBlocks", unfollowed := true, recurses := true, apart := false }
def DmapBlocksSaid : Prop := dmapBlocksRow.holds Try.pinned (OpenSpec.ofChange dmapBlocksSpec)

/-- ITS FALSE NEIGHBOUR: 'it returns false'. Refute it at one input. -/
def dmapBlocksWrong : ChangeSpec := { name := "dmapBlocks", fn := fun _ => fun
  | [d1, d2] => { results := [.lit (.bool false)], args := [d1, d2] }
  | _ => none }
def DmapBlocksWrongFalsely : Prop := dmapBlocksRow.holds Try.pinned (OpenSpec.ofChange dmapBlocksWrong)

/-- 'raddlelaw05.DmapNumbers': WHATEVER THE INPUT: true; the input reads as it did. -/
def dmapNumbersSpec : ChangeSpec := { name := "dmapNumbers", fn := fun _ => fun
  | [d1, d2, d3, d4, d5] => { results := [.lit (.bool true)], args := [d1, d2, d3, d4, d5] }
  | _ => none }
def dmapNumbersRow : OpenClaim := { program := "ytfcafajfllegaaa", sum := "69dacc5a34a9a195a0d4f9e97ba389b49e54eae4b55f332f59ea8f19f67787de", func := "raddle/raddlelaw05.DmapNumbers", spec := "dmapNumbers", unfollowed := true, recurses := true, apart := false }
def DmapNumbersSaid : Prop := dmapNumbersRow.holds Try.pinned (OpenSpec.ofChange dmapNumbersSpec)

/-- ITS FALSE NEIGHBOUR: 'it returns false'. Refute it at one input. -/
def dmapNumbersWrong : ChangeSpec := { name := "dmapNumbers", fn := fun _ => fun
  | [d1, d2, d3, d4, d5] => { results := [.lit (.bool false)], args := [d1, d2, d3, d4, d5] }
  | _ => none }
def DmapNumbersWrongFalsely : Prop := dmapNumbersRow.holds Try.pinned (OpenSpec.ofChange dmapNumbersWrong)

/-- 'raddlelaw01.SpanSets': WHATEVER THE INPUT: true; the input reads as it did. -/
def spanSetsSpec : ChangeSpec := { name := "spanSets", fn := fun _ => fun
  | [d1, d2] => { results := [.lit (.bool true)], args := [d1, d2] }
  | _ => none }
def spanSetsRow : OpenClaim := { program := "ytfcafajfllegaaa", sum := "69dacc5a34a9a195a0d4f9e97ba389b49e54eae4b55f332f59ea8f19f67787de", func := "raddle/raddlelaw01.SpanSets", spec := "spanSets", unfollowed := true, recurses := true, apart := false }
def SpanSetsSaid : Prop := spanSetsRow.holds Try.pinned (OpenSpec.ofChange spanSetsSpec)

/-- ITS FALSE NEIGHBOUR: 'it returns false'. Refute it at one input. -/
def spanSetsWrong : ChangeSpec := { name := "spanSets", fn := fun _ => fun
  | [d1, d2] => { results := [.lit (.bool false)], args := [d1, d2] }
  | _ => none }
def SpanSetsWrongFalsely : Prop := spanSetsRow.holds Try.pinned (OpenSpec.ofChange spanSetsWrong)

/-- 'raddlelaw01.SpanMoves': WHATEVER THE INPUT: true; the input reads as it did. -/
def spanMovesSpec : ChangeSpec := { name := "spanMoves", fn := fun _ => fun
  | [d1, d2] => { results := [.lit (.bool true)], args := [d1, d2] }
  | _ => none }
def spanMovesRow : OpenClaim := { program := "ytfcafajfllegaaa", sum := "69dacc5a34a9a195a0d4f9e97ba389b49e54eae4b55f332f59ea8f19f67787de", func := "raddle/raddlelaw01.SpanMoves", spec := "spanMoves", unfollowed := true, recurses := true, apart := false }
def SpanMovesSaid : Prop := spanMovesRow.holds Try.pinned (OpenSpec.ofChange spanMovesSpec)

/-- ITS FALSE NEIGHBOUR: 'it returns false'. Refute it at one input. -/
def spanMovesWrong : ChangeSpec := { name := "spanMoves", fn := fun _ => fun
  | [d1, d2] => { results := [.lit (.bool false)], args := [d1, d2] }
  | _ => none }
def SpanMovesWrongFalsely : Prop := spanMovesRow.holds Try.pinned (OpenSpec.ofChange spanMovesWrong)

/- THE SECOND FORM. 'bulk': how many values and letters a reading holds, each counted each time it is reached (what is shared counts as often as it is met; a slice's spare places count too). A statement '..UptoSaid' is the law's where the arguments, and the package variables that the reading takes, are together of bulk at most 1048576: NARROWER than '..Said'. Prove '..Said' where nothing that the law and all that it calls make is longer than what came in: it says more and counts as full. Else prove '..UptoSaid'. A law counts once. -/
mutual
def uptoBulk {H : Type} : DataW H → Nat
  | .lit (.string bytes) => bytes.length + 1
  | .lit _ => 1
  | .nil => 1
  | .ptr d => uptoBulk d + 1
  | .slice elems spare => uptoBulkAll elems + uptoBulkAll spare + 1
  | .agg parts => uptoBulkAll parts + 1
  | .iface _ d => uptoBulk d + 1
  | .map entries => uptoBulkEntries entries + 1
  | .held _ => 1
def uptoBulkAll {H : Type} : List (DataW H) → Nat
  | [] => 0
  | d :: r => uptoBulk d + uptoBulkAll r
def uptoBulkEntries {H : Type} : List (Lit × DataW H) → Nat
  | [] => 0
  | x :: r => uptoBulkEntry x + uptoBulkEntries r
def uptoBulkEntry {H : Type} : Lit × DataW H → Nat
  | (.string bytes, d) => bytes.length + uptoBulk d + 1
  | (_, d) => uptoBulk d + 1
 end
def uptoSmall : (H : Type) → List (DataW H) → Bool := fun _ ds => decide (uptoBulkAll ds ≤ 1048576)
def OpenSpec.upto (s : _root_.Go.ChangeSpec) : _root_.Go.OpenSpec := { _root_.Go.OpenSpec.ofChange s with cond := some uptoSmall }

/-- 'raddlelaw01.SpanOf', WHERE WHAT IT READS IS OF BULK AT MOST 1048576: true; the input reads as it did. -/
def spanOfUptoRow : OpenClaim := { program := "ytfcafajfllegaaa", sum := "69dacc5a34a9a195a0d4f9e97ba389b49e54eae4b55f332f59ea8f19f67787de", func := "raddle/raddlelaw01.SpanOf", spec := "spanOf", apart := false, narrowed := true }
def SpanOfUptoSaid : Prop := spanOfUptoRow.holds Try.pinned (OpenSpec.upto spanOfSpec)

/-- 'raddlelaw01.SpanOrders', WHERE WHAT IT READS IS OF BULK AT MOST 1048576: true; the input reads as it did. -/
def spanOrdersUptoRow : OpenClaim := { program := "ytfcafajfllegaaa", sum := "69dacc5a34a9a195a0d4f9e97ba389b49e54eae4b55f332f59ea8f19f67787de", func := "raddle/raddlelaw01.SpanOrders", spec := "spanOrders", unfollowed := true, recurses := true, apart := false, narrowed := true }
def SpanOrdersUptoSaid : Prop := spanOrdersUptoRow.holds Try.pinned (OpenSpec.upto spanOrdersSpec)

/-- 'raddlelaw01.SpanByBy', WHERE WHAT IT READS IS OF BULK AT MOST 1048576: true; the input reads as it did. -/
def spanByByUptoRow : OpenClaim := { program := "ytfcafajfllegaaa", sum := "69dacc5a34a9a195a0d4f9e97ba389b49e54eae4b55f332f59ea8f19f67787de", func := "raddle/raddlelaw01.SpanByBy", spec := "spanByBy", unfollowed := true, recurses := true, apart := false, narrowed := true }
def SpanByByUptoSaid : Prop := spanByByUptoRow.holds Try.pinned (OpenSpec.upto spanByBySpec)

/-- 'raddlelaw01.SpanChanges', WHERE WHAT IT READS IS OF BULK AT MOST 1048576: true; the input reads as it did. -/
def spanChangesUptoRow : OpenClaim := { program := "ytfcafajfllegaaa", sum := "69dacc5a34a9a195a0d4f9e97ba389b49e54eae4b55f332f59ea8f19f67787de", func := "raddle/raddlelaw01.SpanChanges", spec := "spanChanges", unfollowed := true, recurses := true, apart := false, narrowed := true }
def SpanChangesUptoSaid : Prop := spanChangesUptoRow.holds Try.pinned (OpenSpec.upto spanChangesSpec)

/-- 'raddlelaw01.SpanAlgebra', WHERE WHAT IT READS IS OF BULK AT MOST 1048576: true; the input reads as it did. -/
def spanAlgebraUptoRow : OpenClaim := { program := "ytfcafajfllegaaa", sum := "69dacc5a34a9a195a0d4f9e97ba389b49e54eae4b55f332f59ea8f19f67787de", func := "raddle/raddlelaw01.SpanAlgebra", spec := "spanAlgebra", apart := false, narrowed := true }
def SpanAlgebraUptoSaid : Prop := spanAlgebraUptoRow.holds Try.pinned (OpenSpec.upto spanAlgebraSpec)

/-- 'raddlelaw01.SpanPairs', WHERE WHAT IT READS IS OF BULK AT MOST 1048576: true; the input reads as it did. -/
def spanPairsUptoRow : OpenClaim := { program := "ytfcafajfllegaaa", sum := "69dacc5a34a9a195a0d4f9e97ba389b49e54eae4b55f332f59ea8f19f67787de", func := "raddle/raddlelaw01.SpanPairs", spec := "spanPairs", unfollowed := true, recurses := true, apart := false, narrowed := true }
def SpanPairsUptoSaid : Prop := spanPairsUptoRow.holds Try.pinned (OpenSpec.upto spanPairsSpec)

/-- 'raddlelaw05.DmapBalance', WHERE WHAT IT READS IS OF BULK AT MOST 1048576: true; the input reads as it did. -/
def dmapBalanceUptoRow : OpenClaim := { program := "ytfcafajfllegaaa", sum := "69dacc5a34a9a195a0d4f9e97ba389b49e54eae4b55f332f59ea8f19f67787de", func := "raddle/raddlelaw05.DmapBalance", spec := "dmapBalance", unfollowed := true, recurses := true, apart := false, narrowed := true }
def DmapBalanceUptoSaid : Prop := dmapBalanceUptoRow.holds Try.pinned (OpenSpec.upto dmapBalanceSpec)

/-- 'raddlelaw05.DmapPieces', WHERE WHAT IT READS IS OF BULK AT MOST 1048576: true; the input reads as it did. -/
def dmapPiecesUptoRow : OpenClaim := { program := "ytfcafajfllegaaa", sum := "69dacc5a34a9a195a0d4f9e97ba389b49e54eae4b55f332f59ea8f19f67787de", func := "raddle/raddlelaw05.DmapPieces", spec := "dmapPieces", unfollowed := true, recurses := true, apart := false, narrowed := true }
def DmapPiecesUptoSaid : Prop := dmapPiecesUptoRow.holds Try.pinned (OpenSpec.upto dmapPiecesSpec)

/-- 'raddlelaw05.DmapOwners', WHERE WHAT IT READS IS OF BULK AT MOST 1048576: true; the input reads as it did. -/
def dmapOwnersUptoRow : OpenClaim := { program := "ytfcafajfllegaaa", sum := "69dacc5a34a9a195a0d4f9e97ba389b49e54eae4b55f332f59ea8f19f67787de", func := "raddle/raddlelaw05.DmapOwners", spec := "dmapOwners", unfollowed := true, recurses := true, apart := false, narrowed := true }
def DmapOwnersUptoSaid : Prop := dmapOwnersUptoRow.holds Try.pinned (OpenSpec.upto dmapOwnersSpec)

/-- 'raddlelaw05.DmapParts', WHERE WHAT IT READS IS OF BULK AT MOST 1048576: true; the input reads as it did. -/
def dmapPartsUptoRow : OpenClaim := { program := "ytfcafajfllegaaa", sum := "69dacc5a34a9a195a0d4f9e97ba389b49e54eae4b55f332f59ea8f19f67787de", func := "raddle/raddlelaw05.DmapParts", spec := "dmapParts", unfollowed := true, recurses := true, apart := false, narrowed := true }
def DmapPartsUptoSaid : Prop := dmapPartsUptoRow.holds Try.pinned (OpenSpec.upto dmapPartsSpec)

/-- 'raddlelaw05.DmapInverse', WHERE WHAT IT READS IS OF BULK AT MOST 1048576: true; the input reads as it did. -/
def dmapInverseUptoRow : OpenClaim := { program := "ytfcafajfllegaaa", sum := "69dacc5a34a9a195a0d4f9e97ba389b49e54eae4b55f332f59ea8f19f67787de", func := "raddle/raddlelaw05.DmapInverse", spec := "dmapInverse", unfollowed := true, recurses := true, apart := false, narrowed := true }
def DmapInverseUptoSaid : Prop := dmapInverseUptoRow.holds Try.pinned (OpenSpec.upto dmapInverseSpec)

/-- 'raddlelaw05.DmapOne', WHERE WHAT IT READS IS OF BULK AT MOST 1048576: true; the input reads as it did. -/
def dmapOneUptoRow : OpenClaim := { program := "ytfcafajfllegaaa", sum := "69dacc5a34a9a195a0d4f9e97ba389b49e54eae4b55f332f59ea8f19f67787de", func := "raddle/raddlelaw05.DmapOne", spec := "dmapOne", unfollowed := true, recurses := true, apart := false, narrowed := true }
def DmapOneUptoSaid : Prop := dmapOneUptoRow.holds Try.pinned (OpenSpec.upto dmapOneSpec)

/-- 'raddlelaw05.DmapBlocks', WHERE WHAT IT READS IS OF BULK AT MOST 1048576: true; the input reads as it did. -/
def dmapBlocksUptoRow : OpenClaim := { program := "ytfcafajfllegaaa", sum := "69dacc5a34a9a195a0d4f9e97ba389b49e54eae4b55f332f59ea8f19f67787de", func := "raddle/raddlelaw05.DmapBlocks", spec := "dmapBlocks", unfollowed := true, recurses := true, apart := false, narrowed := true }
def DmapBlocksUptoSaid : Prop := dmapBlocksUptoRow.holds Try.pinned (OpenSpec.upto dmapBlocksSpec)

/-- 'raddlelaw05.DmapNumbers', WHERE WHAT IT READS IS OF BULK AT MOST 1048576: true; the input reads as it did. -/
def dmapNumbersUptoRow : OpenClaim := { program := "ytfcafajfllegaaa", sum := "69dacc5a34a9a195a0d4f9e97ba389b49e54eae4b55f332f59ea8f19f67787de", func := "raddle/raddlelaw05.DmapNumbers", spec := "dmapNumbers", unfollowed := true, recurses := true, apart := false, narrowed := true }
def DmapNumbersUptoSaid : Prop := dmapNumbersUptoRow.holds Try.pinned (OpenSpec.upto dmapNumbersSpec)

/-- 'raddlelaw01.SpanSets', WHERE WHAT IT READS IS OF BULK AT MOST 1048576: true; the input reads as it did. -/
def spanSetsUptoRow : OpenClaim := { program := "ytfcafajfllegaaa", sum := "69dacc5a34a9a195a0d4f9e97ba389b49e54eae4b55f332f59ea8f19f67787de", func := "raddle/raddlelaw01.SpanSets", spec := "spanSets", unfollowed := true, recurses := true, apart := false, narrowed := true }
def SpanSetsUptoSaid : Prop := spanSetsUptoRow.holds Try.pinned (OpenSpec.upto spanSetsSpec)

/-- 'raddlelaw01.SpanMoves', WHERE WHAT IT READS IS OF BULK AT MOST 1048576: true; the input reads as it did. -/
def spanMovesUptoRow : OpenClaim := { program := "ytfcafajfllegaaa", sum := "69dacc5a34a9a195a0d4f9e97ba389b49e54eae4b55f332f59ea8f19f67787de", func := "raddle/raddlelaw01.SpanMoves", spec := "spanMoves", unfollowed := true, recurses := true, apart := false, narrowed := true }
def SpanMovesUptoSaid : Prop := spanMovesUptoRow.holds Try.pinned (OpenSpec.upto spanMovesSpec)

end Rows
end Go.Proofs.Ytfcafajfllegaaa
