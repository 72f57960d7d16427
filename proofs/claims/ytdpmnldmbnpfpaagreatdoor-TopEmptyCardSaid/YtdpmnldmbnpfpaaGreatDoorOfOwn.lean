/- r12.put, r12.Of: the row that they return is new memory. Conditions: whole numbers are within 64 bits. -/
import Derived.Test.YtdpmnldmbnpfpaaGreatDoorGIns
namespace Go.Proofs.YtdpmnldmbnpfpaaGreatDoor
open Go.RowKit

end Go.Proofs.YtdpmnldmbnpfpaaGreatDoor
