/- FactB, FactC, FactA: these texts in one. Conditions: each theorem names its own. -/
import Derived.Test.YtjflkifodfncmaaGreatDoorRows
namespace Go.Proofs.YtjflkifodfncmaaGreatDoor
set_option maxRecDepth 100000
open Go
theorem fact_lifts:(Rows.toolAllRow.lifted==Tryz.prog.liftsFinal)=true:=by kernel_rfl
theorem fact_make:(Tryz.prog.make==some Rows.toolAllRow.make)=true:=by kernel_rfl
theorem fact_mayEnter:Tryz.prog.mayEnter=true:=by kernel_rfl
end Go.Proofs.YtjflkifodfncmaaGreatDoor
