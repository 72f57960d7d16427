/- A fact of the whole program. Conditions: none. -/
import Derived.Test.YtdpmnldmbnpfpaaGreatDoorRows
namespace Go.Proofs.YtdpmnldmbnpfpaaGreatDoor
open Go
set_option maxRecDepth 100000 in
theorem fact_make : (Tryz.prog.make == some Rows.toolSoundRow.make) = true := by kernel_rfl
end Go.Proofs.YtdpmnldmbnpfpaaGreatDoor
