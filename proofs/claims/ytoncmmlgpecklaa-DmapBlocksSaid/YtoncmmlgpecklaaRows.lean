/-
  No cell of these rows narrows 'for every input' (looked for: loops, veiled, ifaces, maps, wideKeys, modest, calm, conditions, laid).
  DERIVED. THE GIVEN ROWS OF THIS SEAT. 17 by the template 'for every input the law returns true; each argument reads behind the call as it read before'; 0 by the template 'total and deterministic' (their statements: YtoncmmlgpecklaaTotals.lean).
  GIVEN WITH THE SEED: the statements are not yours to turn. If you find one false, say at which input.
  Laid BY PROGRAM, IN A SANDBOX (cutbox-rows.mjs): the forced cells as the released guide's own fill.sh prints them over the translation 0aacb68f9eb453f6… (all of the seat's roots in one cut). By AI agents, Wed Nov 11 2026. No macro, syntax, notation, axiom, sorry.
-/
import Derived.Test.YtoncmmlgpecklaaChecked
import GoSem.Claim
import GoSem.ClaimJoined
import GoSem.ClaimMapViews
import Derived.JoinedTies
import Derived.KernelRfl
namespace Go.Proofs.Ytoncmmlgpecklaa
/- THE CELL 'sum', in the pinned program and in every row, IS THE sha256 OF THE DUMP (.gsa) THAT YtoncmmlgpecklaaProg.lean LOADS. Nothing in Lean hashes anything: it is a label: what it is worth is what the hold of that sum in a sandbox is worth. -/
noncomputable def Try.pinned : Pinned := { name := "ytoncmmlgpecklaa", sum := "0aacb68f9eb453f65a6e23ff5675946052e21a889a7cbca8765e6c21c623b490", checked := Try.checked }
namespace Rows
def none {H : Type} : Left H := { results := [], args := [] }

/-- 'raddlelaw01.SpanSets': WHATEVER THE INPUT: true; the input reads as it did. -/
def spanSetsSpec : ChangeSpec := { name := "spanSets", fn := fun _ => fun
  | [d1, d2] => { results := [.lit (.bool true)], args := [d1, d2] }
  | _ => none }
def spanSetsRow : OpenClaim := { program := "ytoncmmlgpecklaa", sum := "0aacb68f9eb453f65a6e23ff5675946052e21a889a7cbca8765e6c21c623b490", func := "raddle/raddlelaw01.SpanSets", spec := "spanSets", unfollowed := true, recurses := true, apart := false }
def SpanSetsSaid : Prop := spanSetsRow.holds Try.pinned (OpenSpec.ofChange spanSetsSpec)

/-- ITS FALSE NEIGHBOUR: 'it returns false'. Refute it at one input. -/
def spanSetsWrong : ChangeSpec := { name := "spanSets", fn := fun _ => fun
  | [d1, d2] => { results := [.lit (.bool false)], args := [d1, d2] }
  | _ => none }
def SpanSetsWrongFalsely : Prop := spanSetsRow.holds Try.pinned (OpenSpec.ofChange spanSetsWrong)

/-- 'raddlelaw01.SpanMoves': WHATEVER THE INPUT: true; the input reads as it did. -/
def spanMovesSpec : ChangeSpec := { name := "spanMoves", fn := fun _ => fun
  | [d1, d2] => { results := [.lit (.bool true)], args := [d1, d2] }
  | _ => none }
def spanMovesRow : OpenClaim := { program := "ytoncmmlgpecklaa", sum := "0aacb68f9eb453f65a6e23ff5675946052e21a889a7cbca8765e6c21c623b490", func := "raddle/raddlelaw01.SpanMoves", spec := "spanMoves", unfollowed := true, recurses := true, apart := false }
def SpanMovesSaid : Prop := spanMovesRow.holds Try.pinned (OpenSpec.ofChange spanMovesSpec)

/-- ITS FALSE NEIGHBOUR: 'it returns false'. Refute it at one input. -/
def spanMovesWrong : ChangeSpec := { name := "spanMoves", fn := fun _ => fun
  | [d1, d2] => { results := [.lit (.bool false)], args := [d1, d2] }
  | _ => none }
def SpanMovesWrongFalsely : Prop := spanMovesRow.holds Try.pinned (OpenSpec.ofChange spanMovesWrong)

/-- 'raddlelaw05.DmapBalance': WHATEVER THE INPUT: true; the input reads as it did. -/
def dmapBalanceSpec : ChangeSpec := { name := "dmapBalance", fn := fun _ => fun
  | [d1, d2] => { results := [.lit (.bool true)], args := [d1, d2] }
  | _ => none }
def dmapBalanceRow : OpenClaim := { program := "ytoncmmlgpecklaa", sum := "0aacb68f9eb453f65a6e23ff5675946052e21a889a7cbca8765e6c21c623b490", func := "raddle/raddlelaw05.DmapBalance", spec := "dmapBalance", unfollowed := true, recurses := true, apart := false }
def DmapBalanceSaid : Prop := dmapBalanceRow.holds Try.pinned (OpenSpec.ofChange dmapBalanceSpec)

/-- ITS FALSE NEIGHBOUR: 'it returns false'. Refute it at one input. -/
def dmapBalanceWrong : ChangeSpec := { name := "dmapBalance", fn := fun _ => fun
  | [d1, d2] => { results := [.lit (.bool false)], args := [d1, d2] }
  | _ => none }
def DmapBalanceWrongFalsely : Prop := dmapBalanceRow.holds Try.pinned (OpenSpec.ofChange dmapBalanceWrong)

/-- 'raddlelaw05.DmapPieces': WHATEVER THE INPUT: true; the input reads as it did. -/
def dmapPiecesSpec : ChangeSpec := { name := "dmapPieces", fn := fun _ => fun
  | [d1, d2, d3] => { results := [.lit (.bool true)], args := [d1, d2, d3] }
  | _ => none }
def dmapPiecesRow : OpenClaim := { program := "ytoncmmlgpecklaa", sum := "0aacb68f9eb453f65a6e23ff5675946052e21a889a7cbca8765e6c21c623b490", func := "raddle/raddlelaw05.DmapPieces", spec := "dmapPieces", unfollowed := true, recurses := true, apart := false }
def DmapPiecesSaid : Prop := dmapPiecesRow.holds Try.pinned (OpenSpec.ofChange dmapPiecesSpec)

/-- ITS FALSE NEIGHBOUR: 'it returns false'. Refute it at one input. -/
def dmapPiecesWrong : ChangeSpec := { name := "dmapPieces", fn := fun _ => fun
  | [d1, d2, d3] => { results := [.lit (.bool false)], args := [d1, d2, d3] }
  | _ => none }
def DmapPiecesWrongFalsely : Prop := dmapPiecesRow.holds Try.pinned (OpenSpec.ofChange dmapPiecesWrong)

/-- 'raddlelaw05.DmapOwners': WHATEVER THE INPUT: true; the input reads as it did. -/
def dmapOwnersSpec : ChangeSpec := { name := "dmapOwners", fn := fun _ => fun
  | [d1, d2, d3, d4] => { results := [.lit (.bool true)], args := [d1, d2, d3, d4] }
  | _ => none }
def dmapOwnersRow : OpenClaim := { program := "ytoncmmlgpecklaa", sum := "0aacb68f9eb453f65a6e23ff5675946052e21a889a7cbca8765e6c21c623b490", func := "raddle/raddlelaw05.DmapOwners", spec := "dmapOwners", unfollowed := true, recurses := true, apart := false }
def DmapOwnersSaid : Prop := dmapOwnersRow.holds Try.pinned (OpenSpec.ofChange dmapOwnersSpec)

/-- ITS FALSE NEIGHBOUR: 'it returns false'. Refute it at one input. -/
def dmapOwnersWrong : ChangeSpec := { name := "dmapOwners", fn := fun _ => fun
  | [d1, d2, d3, d4] => { results := [.lit (.bool false)], args := [d1, d2, d3, d4] }
  | _ => none }
def DmapOwnersWrongFalsely : Prop := dmapOwnersRow.holds Try.pinned (OpenSpec.ofChange dmapOwnersWrong)

/-- 'raddlelaw05.DmapParts': WHATEVER THE INPUT: true; the input reads as it did. -/
def dmapPartsSpec : ChangeSpec := { name := "dmapParts", fn := fun _ => fun
  | [d1, d2, d3] => { results := [.lit (.bool true)], args := [d1, d2, d3] }
  | _ => none }
def dmapPartsRow : OpenClaim := { program := "ytoncmmlgpecklaa", sum := "0aacb68f9eb453f65a6e23ff5675946052e21a889a7cbca8765e6c21c623b490", func := "raddle/raddlelaw05.DmapParts", spec := "dmapParts", unfollowed := true, recurses := true, apart := false }
def DmapPartsSaid : Prop := dmapPartsRow.holds Try.pinned (OpenSpec.ofChange dmapPartsSpec)

/-- ITS FALSE NEIGHBOUR: 'it returns false'. Refute it at one input. -/
def dmapPartsWrong : ChangeSpec := { name := "dmapParts", fn := fun _ => fun
  | [d1, d2, d3] => { results := [.lit (.bool false)], args := [d1, d2, d3] }
  | _ => none }
def DmapPartsWrongFalsely : Prop := dmapPartsRow.holds Try.pinned (OpenSpec.ofChange dmapPartsWrong)

/-- 'raddlelaw05.DmapInverse': WHATEVER THE INPUT: true; the input reads as it did. -/
def dmapInverseSpec : ChangeSpec := { name := "dmapInverse", fn := fun _ => fun
  | [d1, d2] => { results := [.lit (.bool true)], args := [d1, d2] }
  | _ => none }
def dmapInverseRow : OpenClaim := { program := "ytoncmmlgpecklaa", sum := "0aacb68f9eb453f65a6e23ff5675946052e21a889a7cbca8765e6c21c623b490", func := "raddle/raddlelaw05.DmapInverse", spec := "dmapInverse", unfollowed := true, recurses := true, apart := false }
def DmapInverseSaid : Prop := dmapInverseRow.holds Try.pinned (OpenSpec.ofChange dmapInverseSpec)

/-- ITS FALSE NEIGHBOUR: 'it returns false'. Refute it at one input. -/
def dmapInverseWrong : ChangeSpec := { name := "dmapInverse", fn := fun _ => fun
  | [d1, d2] => { results := [.lit (.bool false)], args := [d1, d2] }
  | _ => none }
def DmapInverseWrongFalsely : Prop := dmapInverseRow.holds Try.pinned (OpenSpec.ofChange dmapInverseWrong)

/-- 'raddlelaw02.DomainWithin': WHATEVER THE INPUT: true; the input reads as it did. -/
def domainWithinSpec : ChangeSpec := { name := "domainWithin", fn := fun _ => fun
  | [d1, d2, d3] => { results := [.lit (.bool true)], args := [d1, d2, d3] }
  | _ => none }
def domainWithinRow : OpenClaim := { program := "ytoncmmlgpecklaa", sum := "0aacb68f9eb453f65a6e23ff5675946052e21a889a7cbca8765e6c21c623b490", func := "raddle/raddlelaw02.DomainWithin", spec := "domainWithin", unfollowed := true, recurses := true, apart := false }
def DomainWithinSaid : Prop := domainWithinRow.holds Try.pinned (OpenSpec.ofChange domainWithinSpec)

/-- ITS FALSE NEIGHBOUR: 'it returns false'. Refute it at one input. -/
def domainWithinWrong : ChangeSpec := { name := "domainWithin", fn := fun _ => fun
  | [d1, d2, d3] => { results := [.lit (.bool false)], args := [d1, d2, d3] }
  | _ => none }
def DomainWithinWrongFalsely : Prop := domainWithinRow.holds Try.pinned (OpenSpec.ofChange domainWithinWrong)

/-- 'raddlelaw05.DmapOne': WHATEVER THE INPUT: true; the input reads as it did. -/
def dmapOneSpec : ChangeSpec := { name := "dmapOne", fn := fun _ => fun
  | [d1, d2] => { results := [.lit (.bool true)], args := [d1, d2] }
  | _ => none }
def dmapOneRow : OpenClaim := { program := "ytoncmmlgpecklaa", sum := "0aacb68f9eb453f65a6e23ff5675946052e21a889a7cbca8765e6c21c623b490", func := "raddle/raddlelaw05.DmapOne", spec := "dmapOne", unfollowed := true, recurses := true, apart := false }
def DmapOneSaid : Prop := dmapOneRow.holds Try.pinned (OpenSpec.ofChange dmapOneSpec)

/-- ITS FALSE NEIGHBOUR: 'it returns false'. Refute it at one input. -/
def dmapOneWrong : ChangeSpec := { name := "dmapOne", fn := fun _ => fun
  | [d1, d2] => { results := [.lit (.bool false)], args := [d1, d2] }
  | _ => none }
def DmapOneWrongFalsely : Prop := dmapOneRow.holds Try.pinned (OpenSpec.ofChange dmapOneWrong)

/-- 'raddlelaw05.DmapBlocks': WHATEVER THE INPUT: true; the input reads as it did. -/
def dmapBlocksSpec : ChangeSpec := { name := "dmapBlocks", fn := fun _ => fun
  | [d1, d2] => { results := [.lit (.bool true)], args := [d1, d2] }
  | _ => none }
def dmapBlocksRow : OpenClaim := { program := "ytoncmmlgpecklaa", sum := "0aacb68f9eb453f65a6e23ff5675946052e21a889a7cbca8765e6c21c623b490", func := "raddle/raddlelaw05.DmapBlocks", spec := "dmapBlocks", unfollowed := true, recurses := true, apart := false }
def DmapBlocksSaid : Prop := dmapBlocksRow.holds Try.pinned (OpenSpec.ofChange dmapBlocksSpec)

/-- ITS FALSE NEIGHBOUR: 'it returns false'. Refute it at one input. -/
def dmapBlocksWrong : ChangeSpec := { name := "dmapBlocks", fn := fun _ => fun
  | [d1, d2] => { results := [.lit (.bool false)], args := [d1, d2] }
  | _ => none }
def DmapBlocksWrongFalsely : Prop := dmapBlocksRow.holds Try.pinned (OpenSpec.ofChange dmapBlocksWrong)

/-- 'raddlelaw05.DmapNumbers': WHATEVER THE INPUT: true; the input reads as it did. -/
def dmapNumbersSpec : ChangeSpec := { name := "dmapNumbers", fn := fun _ => fun
  | [d1, d2, d3, d4, d5] => { results := [.lit (.bool true)], args := [d1, d2, d3, d4, d5] }
  | _ => none }
def dmapNumbersRow : OpenClaim := { program := "ytoncmmlgpecklaa", sum := "0aacb68f9eb453f65a6e23ff5675946052e21a889a7cbca8765e6c21c623b490", func := "raddle/raddlelaw05.DmapNumbers", spec := "dmapNumbers", unfollowed := true, recurses := true, apart := false }
def DmapNumbersSaid : Prop := dmapNumbersRow.holds Try.pinned (OpenSpec.ofChange dmapNumbersSpec)

/-- ITS FALSE NEIGHBOUR: 'it returns false'. Refute it at one input. -/
def dmapNumbersWrong : ChangeSpec := { name := "dmapNumbers", fn := fun _ => fun
  | [d1, d2, d3, d4, d5] => { results := [.lit (.bool false)], args := [d1, d2, d3, d4, d5] }
  | _ => none }
def DmapNumbersWrongFalsely : Prop := dmapNumbersRow.holds Try.pinned (OpenSpec.ofChange dmapNumbersWrong)

/-- 'raddlelaw02.DomainPairs': WHATEVER THE INPUT: true; the input reads as it did. -/
def domainPairsSpec : ChangeSpec := { name := "domainPairs", fn := fun _ => fun
  | [d1, d2] => { results := [.lit (.bool true)], args := [d1, d2] }
  | _ => none }
def domainPairsRow : OpenClaim := { program := "ytoncmmlgpecklaa", sum := "0aacb68f9eb453f65a6e23ff5675946052e21a889a7cbca8765e6c21c623b490", func := "raddle/raddlelaw02.DomainPairs", spec := "domainPairs", unfollowed := true, recurses := true, apart := false }
def DomainPairsSaid : Prop := domainPairsRow.holds Try.pinned (OpenSpec.ofChange domainPairsSpec)

/-- ITS FALSE NEIGHBOUR: 'it returns false'. Refute it at one input. -/
def domainPairsWrong : ChangeSpec := { name := "domainPairs", fn := fun _ => fun
  | [d1, d2] => { results := [.lit (.bool false)], args := [d1, d2] }
  | _ => none }
def DomainPairsWrongFalsely : Prop := domainPairsRow.holds Try.pinned (OpenSpec.ofChange domainPairsWrong)

/-- 'raddlelaw02.DomainOf': WHATEVER THE INPUT: true; the input reads as it did. -/
def domainOfSpec : ChangeSpec := { name := "domainOf", fn := fun _ => fun
  | [d1, d2, d3, d4] => { results := [.lit (.bool true)], args := [d1, d2, d3, d4] }
  | _ => none }
def domainOfRow : OpenClaim := { program := "ytoncmmlgpecklaa", sum := "0aacb68f9eb453f65a6e23ff5675946052e21a889a7cbca8765e6c21c623b490", func := "raddle/raddlelaw02.DomainOf", spec := "domainOf", unfollowed := true, recurses := true, apart := false }
def DomainOfSaid : Prop := domainOfRow.holds Try.pinned (OpenSpec.ofChange domainOfSpec)

/-- ITS FALSE NEIGHBOUR: 'it returns false'. Refute it at one input. -/
def domainOfWrong : ChangeSpec := { name := "domainOf", fn := fun _ => fun
  | [d1, d2, d3, d4] => { results := [.lit (.bool false)], args := [d1, d2, d3, d4] }
  | _ => none }
def DomainOfWrongFalsely : Prop := domainOfRow.holds Try.pinned (OpenSpec.ofChange domainOfWrong)

/-- 'raddlelaw02.DomainChanges': WHATEVER THE INPUT: true; the input reads as it did. -/
def domainChangesSpec : ChangeSpec := { name := "domainChanges", fn := fun _ => fun
  | [d1, d2] => { results := [.lit (.bool true)], args := [d1, d2] }
  | _ => none }
def domainChangesRow : OpenClaim := { program := "ytoncmmlgpecklaa", sum := "0aacb68f9eb453f65a6e23ff5675946052e21a889a7cbca8765e6c21c623b490", func := "raddle/raddlelaw02.DomainChanges", spec := "domainChanges", unfollowed := true, recurses := true, apart := false }
def DomainChangesSaid : Prop := domainChangesRow.holds Try.pinned (OpenSpec.ofChange domainChangesSpec)

/-- ITS FALSE NEIGHBOUR: 'it returns false'. Refute it at one input. -/
def domainChangesWrong : ChangeSpec := { name := "domainChanges", fn := fun _ => fun
  | [d1, d2] => { results := [.lit (.bool false)], args := [d1, d2] }
  | _ => none }
def DomainChangesWrongFalsely : Prop := domainChangesRow.holds Try.pinned (OpenSpec.ofChange domainChangesWrong)

/-- 'raddlelaw02.DomainOrder': WHATEVER THE INPUT: true; the input reads as it did. -/
def domainOrderSpec : ChangeSpec := { name := "domainOrder", fn := fun _ => fun
  | [d] => { results := [.lit (.bool true)], args := [d] }
  | _ => none }
def domainOrderRow : OpenClaim := { program := "ytoncmmlgpecklaa", sum := "0aacb68f9eb453f65a6e23ff5675946052e21a889a7cbca8765e6c21c623b490", func := "raddle/raddlelaw02.DomainOrder", spec := "domainOrder", unfollowed := true, recurses := true, apart := false }
def DomainOrderSaid : Prop := domainOrderRow.holds Try.pinned (OpenSpec.ofChange domainOrderSpec)

/-- ITS FALSE NEIGHBOUR: 'it returns false'. Refute it at one input. -/
def domainOrderWrong : ChangeSpec := { name := "domainOrder", fn := fun _ => fun
  | [d] => { results := [.lit (.bool false)], args := [d] }
  | _ => none }
def DomainOrderWrongFalsely : Prop := domainOrderRow.holds Try.pinned (OpenSpec.ofChange domainOrderWrong)

/-- 'raddlelaw02.DomainParts': WHATEVER THE INPUT: true; the input reads as it did. -/
def domainPartsSpec : ChangeSpec := { name := "domainParts", fn := fun _ => fun
  | [d1, d2, d3] => { results := [.lit (.bool true)], args := [d1, d2, d3] }
  | _ => none }
def domainPartsRow : OpenClaim := { program := "ytoncmmlgpecklaa", sum := "0aacb68f9eb453f65a6e23ff5675946052e21a889a7cbca8765e6c21c623b490", func := "raddle/raddlelaw02.DomainParts", spec := "domainParts", unfollowed := true, recurses := true, apart := false }
def DomainPartsSaid : Prop := domainPartsRow.holds Try.pinned (OpenSpec.ofChange domainPartsSpec)

/-- ITS FALSE NEIGHBOUR: 'it returns false'. Refute it at one input. -/
def domainPartsWrong : ChangeSpec := { name := "domainParts", fn := fun _ => fun
  | [d1, d2, d3] => { results := [.lit (.bool false)], args := [d1, d2, d3] }
  | _ => none }
def DomainPartsWrongFalsely : Prop := domainPartsRow.holds Try.pinned (OpenSpec.ofChange domainPartsWrong)

/-- 'raddlelaw02.DomainSets': WHATEVER THE INPUT: true; the input reads as it did. -/
def domainSetsSpec : ChangeSpec := { name := "domainSets", fn := fun _ => fun
  | [d1, d2] => { results := [.lit (.bool true)], args := [d1, d2] }
  | _ => none }
def domainSetsRow : OpenClaim := { program := "ytoncmmlgpecklaa", sum := "0aacb68f9eb453f65a6e23ff5675946052e21a889a7cbca8765e6c21c623b490", func := "raddle/raddlelaw02.DomainSets", spec := "domainSets", unfollowed := true, recurses := true, apart := false }
def DomainSetsSaid : Prop := domainSetsRow.holds Try.pinned (OpenSpec.ofChange domainSetsSpec)

/-- ITS FALSE NEIGHBOUR: 'it returns false'. Refute it at one input. -/
def domainSetsWrong : ChangeSpec := { name := "domainSets", fn := fun _ => fun
  | [d1, d2] => { results := [.lit (.bool false)], args := [d1, d2] }
  | _ => none }
def DomainSetsWrongFalsely : Prop := domainSetsRow.holds Try.pinned (OpenSpec.ofChange domainSetsWrong)

/- THE SECOND FORM. 'bulk': how many values and letters a reading holds, each counted each time it is reached (what is shared counts as often as it is met; a slice's spare places count too). A statement '..UptoSaid' is the law's where the arguments, and the package variables that the reading takes, are together of bulk at most 1048576: NARROWER than '..Said'. Prove '..Said' where nothing that the law and all that it calls make is longer than what came in: it says more and counts as full. Else prove '..UptoSaid'. A law counts once. -/
mutual
def uptoBulk {H : Type} : DataW H → Nat
  | .lit (.string bytes) => bytes.length + 1
  | .lit _ => 1
  | .nil => 1
  | .ptr d => uptoBulk d + 1
  | .slice elems spare => uptoBulkAll elems + uptoBulkAll spare + 1
  | .agg parts => uptoBulkAll parts + 1
  | .iface _ d => uptoBulk d + 1
  | .map entries => uptoBulkEntries entries + 1
  | .held _ => 1
def uptoBulkAll {H : Type} : List (DataW H) → Nat
  | [] => 0
  | d :: r => uptoBulk d + uptoBulkAll r
def uptoBulkEntries {H : Type} : List (Lit × DataW H) → Nat
  | [] => 0
  | x :: r => uptoBulkEntry x + uptoBulkEntries r
def uptoBulkEntry {H : Type} : Lit × DataW H → Nat
  | (.string bytes, d) => bytes.length + uptoBulk d + 1
  | (_, d) => uptoBulk d + 1
 end
def uptoSmall : (H : Type) → List (DataW H) → Bool := fun _ ds => decide (uptoBulkAll ds ≤ 1048576)
def OpenSpec.upto (s : _root_.Go.ChangeSpec) : _root_.Go.OpenSpec := { _root_.Go.OpenSpec.ofChange s with cond := some uptoSmall }

/-- 'raddlelaw01.SpanSets', WHERE WHAT IT READS IS OF BULK AT MOST 1048576: true; the input reads as it did. -/
def spanSetsUptoRow : OpenClaim := { program := "ytoncmmlgpecklaa", sum := "0aacb68f9eb453f65a6e23ff5675946052e21a889a7cbca8765e6c21c623b490", func := "raddle/raddlelaw01.SpanSets", spec := "spanSets", unfollowed := true, recurses := true, apart := false, narrowed := true }
def SpanSetsUptoSaid : Prop := spanSetsUptoRow.holds Try.pinned (OpenSpec.upto spanSetsSpec)

/-- 'raddlelaw01.SpanMoves', WHERE WHAT IT READS IS OF BULK AT MOST 1048576: true; the input reads as it did. -/
def spanMovesUptoRow : OpenClaim := { program := "ytoncmmlgpecklaa", sum := "0aacb68f9eb453f65a6e23ff5675946052e21a889a7cbca8765e6c21c623b490", func := "raddle/raddlelaw01.SpanMoves", spec := "spanMoves", unfollowed := true, recurses := true, apart := false, narrowed := true }
def SpanMovesUptoSaid : Prop := spanMovesUptoRow.holds Try.pinned (OpenSpec.upto spanMovesSpec)

/-- 'raddlelaw05.DmapBalance', WHERE WHAT IT READS IS OF BULK AT MOST 1048576: true; the input reads as it did. -/
def dmapBalanceUptoRow : OpenClaim := { program := "ytoncmmlgpecklaa", sum := "0aacb68f9eb453f65a6e23ff5675946052e21a889a7cbca8765e6c21c623b490", func := "raddle/raddlelaw05.DmapBalance", spec := "dmapBalance", unfollowed := true, recurses := true, apart := false, narrowed := true }
def DmapBalanceUptoSaid : Prop := dmapBalanceUptoRow.holds Try.pinned (OpenSpec.upto dmapBalanceSpec)

/-- 'raddlelaw05.DmapPieces', WHERE WHAT IT READS IS OF BULK AT MOST 1048576: true; the input reads as it did. -/
def dmapPiecesUptoRow : OpenClaim := { program := "ytoncmmlgpecklaa", sum := "0aacb68f9eb453f65a6e23ff5675946052e21a889a7cbca8765e6c21c623b490", func := "raddle/raddlelaw05.DmapPieces", spec := "dmapPieces", unfollowed := true, recurses := true, apart := false, narrowed := true }
def DmapPiecesUptoSaid : Prop := dmapPiecesUptoRow.holds Try.pinned (OpenSpec.upto dmapPiecesSpec)

/-- 'raddlelaw05.DmapOwners', WHERE WHAT IT READS IS OF BULK AT MOST 1048576: true; the input reads as it did. -/
def dmapOwnersUptoRow : OpenClaim := { program := "ytoncmmlgpecklaa", sum := "0aacb68f9eb453f65a6e23ff5675946052e21a889a7cbca8765e6c21c623b490", func := "raddle/raddlelaw05.DmapOwners", spec := "dmapOwners", unfollowed := true, recurses := true, apart := false, narrowed := true }
def DmapOwnersUptoSaid : Prop := dmapOwnersUptoRow.holds Try.pinned (OpenSpec.upto dmapOwnersSpec)

/-- 'raddlelaw05.DmapParts', WHERE WHAT IT READS IS OF BULK AT MOST 1048576: true; the input reads as it did. -/
def dmapPartsUptoRow : OpenClaim := { program := "ytoncmmlgpecklaa", sum := "0aacb68f9eb453f65a6e23ff5675946052e21a889a7cbca8765e6c21c623b490", func := "raddle/raddlelaw05.DmapParts", spec := "dmapParts", unfollowed := true, recurses := true, apart := false, narrowed := true }
def DmapPartsUptoSaid : Prop := dmapPartsUptoRow.holds Try.pinned (OpenSpec.upto dmapPartsSpec)

/-- 'raddlelaw05.DmapInverse', WHERE WHAT IT READS IS OF BULK AT MOST 1048576: true; the input reads as it did. -/
def dmapInverseUptoRow : OpenClaim := { program := "ytoncmmlgpecklaa", sum := "0aacb68f9eb453f65a6e23ff5675946052e21a889a7cbca8765e6c21c623b490", func := "raddle/raddlelaw05.DmapInverse", spec := "dmapInverse", unfollowed := true, recurses := true, apart := false, narrowed := true }
def DmapInverseUptoSaid : Prop := dmapInverseUptoRow.holds Try.pinned (OpenSpec.upto dmapInverseSpec)

/-- 'raddlelaw02.DomainWithin', WHERE WHAT IT READS IS OF BULK AT MOST 1048576: true; the input reads as it did. -/
def domainWithinUptoRow : OpenClaim := { program := "ytoncmmlgpecklaa", sum := "0aacb68f9eb453f65a6e23ff5675946052e21a889a7cbca8765e6c21c623b490", func := "raddle/raddlelaw02.DomainWithin", spec := "domainWithin", unfollowed := true, recurses := true, apart := false, narrowed := true }
def DomainWithinUptoSaid : Prop := domainWithinUptoRow.holds Try.pinned (OpenSpec.upto domainWithinSpec)

/-- 'raddlelaw05.DmapOne', WHERE WHAT IT READS IS OF BULK AT MOST 1048576: true; the input reads as it did. -/
def dmapOneUptoRow : OpenClaim := { program := "ytoncmmlgpecklaa", sum := "0aacb68f9eb453f65a6e23ff5675946052e21a889a7cbca8765e6c21c623b490", func := "raddle/raddlelaw05.DmapOne", spec := "dmapOne", unfollowed := true, recurses := true, apart := false, narrowed := true }
def DmapOneUptoSaid : Prop := dmapOneUptoRow.holds Try.pinned (OpenSpec.upto dmapOneSpec)

/-- 'raddlelaw05.DmapBlocks', WHERE WHAT IT READS IS OF BULK AT MOST 1048576: true; the input reads as it did. -/
def dmapBlocksUptoRow : OpenClaim := { program := "ytoncmmlgpecklaa", sum := "0aacb68f9eb453f65a6e23ff5675946052e21a889a7cbca8765e6c21c623b490", func := "raddle/raddlelaw05.DmapBlocks", spec := "dmapBlocks", unfollowed := true, recurses := true, apart := false, narrowed := true }
def DmapBlocksUptoSaid : Prop := dmapBlocksUptoRow.holds Try.pinned (OpenSpec.upto dmapBlocksSpec)

/-- 'raddlelaw05.DmapNumbers', WHERE WHAT IT READS IS OF BULK AT MOST 1048576: true; the input reads as it did. -/
def dmapNumbersUptoRow : OpenClaim := { program := "ytoncmmlgpecklaa", sum := "0aacb68f9eb453f65a6e23ff5675946052e21a889a7cbca8765e6c21c623b490", func := "raddle/raddlelaw05.DmapNumbers", spec := "dmapNumbers", unfollowed := true, recurses := true, apart := false, narrowed := true }
def DmapNumbersUptoSaid : Prop := dmapNumbersUptoRow.holds Try.pinned (OpenSpec.upto dmapNumbersSpec)

/-- 'raddlelaw02.DomainPairs', WHERE WHAT IT READS IS OF BULK AT MOST 1048576: true; the input reads as it did. -/
def domainPairsUptoRow : OpenClaim := { program := "ytoncmmlgpecklaa", sum := "0aacb68f9eb453f65a6e23ff5675946052e21a889a7cbca8765e6c21c623b490", func := "raddle/raddlelaw02.DomainPairs", spec := "domainPairs", unfollowed := true, recurses := true, apart := false, narrowed := true }
def DomainPairsUptoSaid : Prop := domainPairsUptoRow.holds Try.pinned (OpenSpec.upto domainPairsSpec)

/-- 'raddlelaw02.DomainOf', WHERE WHAT IT READS IS OF BULK AT MOST 1048576: true; the input reads as it did. -/
def domainOfUptoRow : OpenClaim := { program := "ytoncmmlgpecklaa", sum := "0aacb68f9eb453f65a6e23ff5675946052e21a889a7cbca8765e6c21c623b490", func := "raddle/raddlelaw02.DomainOf", spec := "domainOf", unfollowed := true, recurses := true, apart := false, narrowed := true }
def DomainOfUptoSaid : Prop := domainOfUptoRow.holds Try.pinned (OpenSpec.upto domainOfSpec)

/-- 'raddlelaw02.DomainChanges', WHERE WHAT IT READS IS OF BULK AT MOST 1048576: true; the input reads as it did. -/
def domainChangesUptoRow : OpenClaim := { program := "ytoncmmlgpecklaa", sum := "0aacb68f9eb453f65a6e23ff5675946052e21a889a7cbca8765e6c21c623b490", func := "raddle/raddlelaw02.DomainChanges", spec := "domainChanges", unfollowed := true, recurses := true, apart := false, narrowed := true }
def DomainChangesUptoSaid : Prop := domainChangesUptoRow.holds Try.pinned (OpenSpec.upto domainChangesSpec)

/-- 'raddlelaw02.DomainOrder', WHERE WHAT IT READS IS OF BULK AT MOST 1048576: true; the input reads as it did. -/
def domainOrderUptoRow : OpenClaim := { program := "ytoncmmlgpecklaa", sum := "0aacb68f9eb453f65a6e23ff5675946052e21a889a7cbca8765e6c21c623b490", func := "raddle/raddlelaw02.DomainOrder", spec := "domainOrder", unfollowed := true, recurses := true, apart := false, narrowed := true }
def DomainOrderUptoSaid : Prop := domainOrderUptoRow.holds Try.pinned (OpenSpec.upto domainOrderSpec)

/-- 'raddlelaw02.DomainParts', WHERE WHAT IT READS IS OF BULK AT MOST 1048576: true; the input reads as it did. -/
def domainPartsUptoRow : OpenClaim := { program := "ytoncmmlgpecklaa", sum := "0aacb68f9eb453f65a6e23ff5675946052e21a889a7cbca8765e6c21c623b490", func := "raddle/raddlelaw02.DomainParts", spec := "domainParts", unfollowed := true, recurses := true, apart := false, narrowed := true }
def DomainPartsUptoSaid : Prop := domainPartsUptoRow.holds Try.pinned (OpenSpec.upto domainPartsSpec)

/-- 'raddlelaw02.DomainSets', WHERE WHAT IT READS IS OF BULK AT MOST 1048576: true; the input reads as it did. -/
def domainSetsUptoRow : OpenClaim := { program := "ytoncmmlgpecklaa", sum := "0aacb68f9eb453f65a6e23ff5675946052e21a889a7cbca8765e6c21c623b490", func := "raddle/raddlelaw02.DomainSets", spec := "domainSets", unfollowed := true, recurses := true, apart := false, narrowed := true }
def DomainSetsUptoSaid : Prop := domainSetsUptoRow.holds Try.pinned (OpenSpec.upto domainSetsSpec)

end Rows
end Go.Proofs.Ytoncmmlgpecklaa
