/- The statements' head: the document's example of points. Conditions: none. -/
import Derived.Test.YthcnihchfkmphaaPoints
import Derived.Test.YthcnihchfkmphaaGCuts
namespace Go.Proofs.Ythcnihchfkmphaa
open Go.RowKit

theorem s19_in : insideV s12L 0#32 4294967295#32 = s12L := by decide +kernel
def s19P : Prt := ⟨0#32, 4294967295#32, none, 0, 0⟩
set_option maxHeartbeats 1000000 in
set_option maxRecDepth 100000 in
theorem shown19_any (w : World) : Calls Try.prog 24 #[] w fun e w' => e = .returned (.bool true) ∧ Ext w w' := by
  have H1 := Lib.hid (net1_at w s12R)
  have HXA := Lib.hid (show Ext w ((w.alloc (.cells #[U s12R.pa, I s12R.pl, I s12R.act, I s12R.nx] 35)).alloc (.cells #[.slice (some ⟨w.heap.size, 0, none⟩) 1 1] 31)) by (repeat (first | with_reducible exact Ext.refl _ | with_reducible assumption | with_reducible refine Ext.alloc ?_ _ | with_reducible refine Ext.drew ?_ | with_reducible refine Ext.drewN ?_ _ | (with_reducible refine Ext.setCellP ?_ ?_; focus (first | (simp; done) | (simp; omega) | omega)))))
  have HS := Lib.hid (show sizeN [[s12R]] ≤ 10000000 by decide)
  go_enter Try.func24, Try.ntmps24
  go_wp2_with (first
    | (go_at_call 25; refine (coverPoints_any _ s19P [[s12R]] _ H1.out s12_ok HS.out).mono ?_; rintro e w1 ⟨v, l, he, hC, hO, hx1⟩; subst he; have he2 := Cuts.at hC s12_cut; subst he2; have HO := Lib.hid hO; have HX1 := Lib.hid hx1; clear hO hx1 hC)
    | (go_at_call 26; refine (r12Same_any _ _ _ s12L _ (HO.out.later ((Ext.refl w1).alloc _)) (us_made w1 s12L (by unfold maxLen; decide))).mono ?_; rintro e w3 ⟨he, hx3⟩; replace he := he.trans (congrArg (fun b => Ending.returned (.bool b)) (decide_eq_true s19_in)); subst he; have HX3 := Lib.hid hx3; clear hx3))
  go_ret
  exact ⟨rfl, HXA.out.trans (HX1.out.trans (((Ext.refl w1).alloc _).trans HX3.out))⟩
end Go.Proofs.Ythcnihchfkmphaa
