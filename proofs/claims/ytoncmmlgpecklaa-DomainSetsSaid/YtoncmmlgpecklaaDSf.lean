/- slices.Sort on a slice of the call's own: what it writes. -/
import Derived.Test.YtoncmmlgpecklaaDSe
import Derived.Test.YtoncmmlgpecklaaDSb
import Derived.Shelf.Sort.Plain
import Derived.Shelf.Slices.In.SortNone
import Derived.Sort.OwnSortedInts
set_option linter.unusedVariables false
set_option linter.unusedSimpArgs false
namespace Go.RX.Span
open Go Go.RX Go.RowKit

/-- What lies in a block of the call's own is written anew; behind it lies what is new. -/
theorem minv_put {lv0 : Am} {w0 w w' : World} {bs : Bs} {D : Nat → Prop} {m : Nat → Option Blk} (h : MInv lv0 w0 bs D m w) {b x : Nat} {cap : Nat × Nat} {k0 k : Blk} (hb : m b = some k0) (hx : bs b = some (x, cap)) {old new : Array Value} {e : TypeId}
    (ho : w.heap[x]? = some (.cells old e (0, 0))) (hn : w'.heap[x]? = some (.cells new e (0, 0))) (ht : Turn (fun y => y = x) w w')
    (hk : ∀ (w' : World), Ext bs (live lv0 bs m) w bs (live lv0 bs (upd m b (some k))) w' → w'.heap[x]? = some (.cells new e (0, 0)) → BlkRep lv0 bs (live lv0 bs (upd m b (some k))) w' b k) (hns : k.isSeq = false := by rfl) (hnn : k.isNest = k0.isNest := by rfl) :
    MInv lv0 w0 bs D (upd m b (some k)) w' ∧ Ext bs (live lv0 bs m) w bs (live lv0 bs (upd m b (some k))) w' := by
  obtain ⟨g1, g2⟩ := h.set hb hx ho hk hns hnn
  have hB : Below (w.setRow x new).heap.size (w.setRow x new) w' := ⟨ht.os, ht.tape, ht.output, by simpa using ht.size, fun y hy => by
    by_cases e' : y = x
    · subst e'; rw [hn, setRow_heap _ _ _ _ _ _ ho]
    · rw [setRow_other _ _ _ _ e']; exact ht.heap y (by simpa using hy) e'⟩
  exact ⟨g1.grow hB, g2.trans (ext_grow _ _ hB)⟩

end Go.RX.Span

