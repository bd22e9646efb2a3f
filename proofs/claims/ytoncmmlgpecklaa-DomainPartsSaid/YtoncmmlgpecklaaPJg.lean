/- slices.Sort on a slice of the call's own: what it writes. -/
import Derived.Test.YtoncmmlgpecklaaPJe
import Derived.Test.YtoncmmlgpecklaaPJb
import Derived.Shelf.Sort.Plain
import Derived.Shelf.Slices.In.SortNone
import Derived.Sort.OwnSortedInts
set_option linter.unusedVariables false
set_option linter.unusedSimpArgs false
namespace Go.RX.Span
open Go Go.RX Go.RowKit

end Go.RX.Span

