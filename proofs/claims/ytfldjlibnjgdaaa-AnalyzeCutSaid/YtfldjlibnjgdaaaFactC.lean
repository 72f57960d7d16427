/- A fact of the whole program. Conditions: none. -/
import Derived.Test.YtfldjlibnjgdaaaRows
namespace Go.Proofs.Ytfldjlibnjgdaaa
open Go
set_option maxRecDepth 100000 in
theorem fact_make : (Try.prog.make == some Rows.analyzeSmallRow.make) = true := by kernel_rfl
end Go.Proofs.Ytfldjlibnjgdaaa
