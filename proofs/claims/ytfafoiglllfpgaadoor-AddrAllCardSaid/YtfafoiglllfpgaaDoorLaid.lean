/- The listed package-level variables: what the statements' condition gives, and that a start meets it. Conditions: none. -/
import Derived.Test.YtfafoiglllfpgaaDoorRows
import Derived.Test.YtfafoiglllfpgaaDoorArgs
import Derived.Test.YtfafoiglllfpgaaDoorItoa
import Derived.LaidMore
import Derived.Stop.Joined
import Derived.Stop.LaidErr
import Derived.Lib.LaidTab
namespace Go.Proofs.YtfafoiglllfpgaaDoor
open Go.ChangeShapes Go.WideShapes Go.ChangeAt Go.RowKit

abbrev laidL {H : Type} : List (String × DataW H) := [("math/bits.deBruijn32tab", Rows.laid_math_bits_deBruijn32tab), ("math/bits.deBruijn64tab", Rows.laid_math_bits_deBruijn64tab), ("internal/strconv.uint64pow10", Rows.laid_internal_strconv_uint64pow10)]
theorem door_met (os : Os) (args : Array Value) : laidMetH Tryd.prog laidL ((World.doorLaid Tryd.prog 24 os).forCall (fun _ _ => 0) ⟨#[], args, []⟩).memory :=
  laidMetH_of_parts3 (fuel := 8) (laidMet_of_run' 8 (by kernel_rfl) (by kernel_rfl)) (by kernel_rfl) (by kernel_rfl)
theorem gPow : (Tryd.prog.globalNamed "internal/strconv.uint64pow10") = some 1 := by kernel_rfl
theorem tab_of_laid {W : World} (h : laidMetH Tryd.prog laidL W) : Tab10 W := by
  rw [MakeChecks.laidMetH_plain _ _ _ (by kernel_rfl)] at h
  have h2 := h.tail.tail
  refine Lib.tabIs_of_head (g := 1) (t := 78) (e := 45) (n := 20) gPow (by kernel_rfl) Tryd.underlying78 Tryd.underlying45 (by kernel_rfl) (by kernel_rfl) (rest := []) ?_
  exact h2
end Go.Proofs.YtfafoiglllfpgaaDoor
