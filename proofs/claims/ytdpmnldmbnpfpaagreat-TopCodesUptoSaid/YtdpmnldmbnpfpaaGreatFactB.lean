/- A fact of the whole program. Conditions: none. -/
import Derived.Test.YtdpmnldmbnpfpaaGreatRows
namespace Go.Proofs.YtdpmnldmbnpfpaaGreat
open Go
set_option maxRecDepth 100000 in
theorem fact_lifts : (Rows.topWholeRow.lifted == Tryz.prog.liftsFinal) = true := by kernel_rfl
end Go.Proofs.YtdpmnldmbnpfpaaGreat
