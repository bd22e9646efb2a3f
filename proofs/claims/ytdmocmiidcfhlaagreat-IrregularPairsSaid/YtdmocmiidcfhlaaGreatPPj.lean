/- What the claim of IrregularPairs asks of the program's text; no condition. -/
import Derived.Test.YtdmocmiidcfhlaaGreatPPd
import Derived.Test.YtdmocmiidcfhlaaGreatRows
import Derived.Test.YtdmocmiidcfhlaaGreatProg
namespace Go.Proofs.YtdmocmiidcfhlaaGreat
open Go Go.RX
theorem jA : jfA Rows.irregularPairsSpec Rows.irregularPairsRow = true := by kernel_rfl
theorem jB : jfB Tryz.pinned.checked.prog = true := by kernel_rfl
theorem jC : jfC Tryz.pinned.checked.prog Tryz.f3 Rows.irregularPairsSpec Rows.irregularPairsRow = true := by kernel_rfl
theorem jD : jfD Tryz.pinned.checked.prog 3 Rows.irregularPairsRow = true := by kernel_rfl
theorem jE : jfE Tryz.pinned.checked.prog 3 Rows.irregularPairsRow = true := by kernel_rfl
theorem jF : jfF Tryz.pinned.checked.prog 3 Rows.irregularPairsRow = true := by kernel_rfl
theorem jG : jfG Tryz.pinned.checked.prog 3 Rows.irregularPairsRow = true := by kernel_rfl
theorem jH : jfH Tryz.pinned.checked.prog Tryz.f3 Rows.irregularPairsSpec Rows.irregularPairsRow = true := by kernel_rfl
theorem jI : jfI Tryz.pinned.checked.prog Rows.irregularPairsRow = true := by kernel_rfl
theorem jJ : jfJ Tryz.pinned.checked.prog = true := by kernel_rfl
theorem jK : jfK Tryz.pinned.checked.prog = true := by kernel_rfl
theorem jL : jfL Tryz.pinned.checked.prog Rows.irregularPairsRow = true := by kernel_rfl
theorem jM : jfM Tryz.pinned.checked.prog Tryz.f3 Rows.irregularPairsSpec Rows.irregularPairsRow = true := by kernel_rfl
end Go.Proofs.YtdmocmiidcfhlaaGreat

