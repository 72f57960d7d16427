/- A fact of the whole program. Conditions: none. -/
import Derived.Test.YtdpmnldmbnpfpaaDoorRows
namespace Go.Proofs.YtdpmnldmbnpfpaaDoor
open Go
set_option maxRecDepth 100000 in
theorem fact_make : (Tryd.prog.make == some Rows.toolExplainsRow.make) = true := by kernel_rfl
end Go.Proofs.YtdpmnldmbnpfpaaDoor
