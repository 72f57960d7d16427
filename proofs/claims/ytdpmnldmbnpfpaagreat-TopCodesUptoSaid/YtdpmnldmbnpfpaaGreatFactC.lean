/- A fact of the whole program. Conditions: none. -/
import Derived.Test.YtdpmnldmbnpfpaaGreatRows
namespace Go.Proofs.YtdpmnldmbnpfpaaGreat
open Go
set_option maxRecDepth 100000 in
theorem fact_make : (Tryz.prog.make == some Rows.topWholeRow.make) = true := by kernel_rfl
end Go.Proofs.YtdpmnldmbnpfpaaGreat
