/- A fact of the whole program. Conditions: none. -/
import Derived.Test.YtdpmnldmbnpfpaaGreatRows
namespace Go.Proofs.YtdpmnldmbnpfpaaGreat
open Go
set_option maxRecDepth 100000 in
theorem fact_mayEnter : Tryz.prog.mayEnter = true := by kernel_rfl
end Go.Proofs.YtdpmnldmbnpfpaaGreat
