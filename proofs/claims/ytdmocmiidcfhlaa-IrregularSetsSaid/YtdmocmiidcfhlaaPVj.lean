/- What the claim of IrregularSets asks of the program's text; no condition. -/
import Derived.Test.YtdmocmiidcfhlaaPVd
import Derived.Test.YtdmocmiidcfhlaaRows
import Derived.Test.YtdmocmiidcfhlaaProg
namespace Go.Proofs.Ytdmocmiidcfhlaa
open Go Go.RX
theorem jA : jfA Rows.irregularSetsSpec Rows.irregularSetsRow = true := by kernel_rfl
theorem jB : jfB Try.pinned.checked.prog = true := by kernel_rfl
theorem jC : jfC Try.pinned.checked.prog Try.f5 Rows.irregularSetsSpec Rows.irregularSetsRow = true := by kernel_rfl
theorem jD : jfD Try.pinned.checked.prog 5 Rows.irregularSetsRow = true := by kernel_rfl
theorem jE : jfE Try.pinned.checked.prog 5 Rows.irregularSetsRow = true := by kernel_rfl
theorem jF : jfF Try.pinned.checked.prog 5 Rows.irregularSetsRow = true := by kernel_rfl
theorem jG : jfG Try.pinned.checked.prog 5 Rows.irregularSetsRow = true := by kernel_rfl
theorem jH : jfH Try.pinned.checked.prog Try.f5 Rows.irregularSetsSpec Rows.irregularSetsRow = true := by kernel_rfl
theorem jI : jfI Try.pinned.checked.prog Rows.irregularSetsRow = true := by kernel_rfl
theorem jJ : jfJ Try.pinned.checked.prog = true := by kernel_rfl
theorem jK : jfK Try.pinned.checked.prog = true := by kernel_rfl
theorem jL : jfL Try.pinned.checked.prog Rows.irregularSetsRow = true := by kernel_rfl
theorem jM : jfM Try.pinned.checked.prog Try.f5 Rows.irregularSetsSpec Rows.irregularSetsRow = true := by kernel_rfl
end Go.Proofs.Ytdmocmiidcfhlaa

