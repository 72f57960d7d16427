/- Vec13Cmp, R15: these texts in one. Conditions: each part names its own. -/
import Derived.Test.YtdpmnldmbnpfpaaGreatDoorGVec
import Derived.Test.YtdpmnldmbnpfpaaGreatDoorGRule
import Derived.Test.YtdpmnldmbnpfpaaGreatDoorGPl
/- How vectors stand, and which may be, by the reference; and numbers made a vector that may be. Conditions: whole numbers are within 64 bits. -/
namespace Go.Proofs.YtdpmnldmbnpfpaaGreatDoor
open Go.RowKit

end Go.Proofs.YtdpmnldmbnpfpaaGreatDoor

/- theseusref15: May and Ranks. Conditions: whole numbers are within 64 bits. -/
namespace Go.Proofs.YtdpmnldmbnpfpaaGreatDoor
open Go.RowKit

theorem vok_may {v : List Int} (h : VOk v) : vmayV v = 0 := mayG_zero h
end Go.Proofs.YtdpmnldmbnpfpaaGreatDoor
