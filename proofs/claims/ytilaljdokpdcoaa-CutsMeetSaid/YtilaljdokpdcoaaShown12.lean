/- The statements' head: the document's example of cuts. Conditions: none. -/
import Derived.Test.YtilaljdokpdcoaaCutsOf
import Derived.Test.YtilaljdokpdcoaaCuts12
namespace Go.Proofs.Ytilaljdokpdcoaa
open Go.RowKit

theorem cuts_eq {rs : List Rul} {z : List (BitVec 32)} (h : cutI rs = z.map uv) (hz : z.Pairwise (fun a b => uv a < uv b)) : Cuts rs z := by
  refine ⟨hz, fun a => ?_⟩
  rw [h, List.mem_map]
  exact ⟨fun ha => ⟨a, ha, rfl⟩, fun ⟨b, hb, e⟩ => by rw [← uv_inj e]; exact hb⟩
theorem net1_at (w : World) (r : Rul) : TablesAt ((w.alloc (.cells #[U r.pa, I r.pl, I r.act, I r.nx] 42)).alloc (.cells #[.slice (some ⟨w.heap.size, 0, none⟩) 1 1] 39)) (.slice (some ⟨w.heap.size + 1, 0, none⟩) 1 1) [[r]] := by
  have h := TablesAt.made (w.alloc (.cells #[U r.pa, I r.pl, I r.act, I r.nx] 42)) 39 1 [.slice (some ⟨w.heap.size, 0, none⟩) 1 1] [[r]] rfl (by unfold maxLen; simp) rfl (fun i l hi => by
    match i, hi with
    | 0, hi =>
      simp at hi; subst hi
      exact ⟨_, rfl, Reads.made w 4 42 1 r.cells rfl (by unfold maxLen; omega)⟩
    | i + 1, hi => simp at hi)
  simpa using h
def s12R : Rul := ⟨2147483648#32, 2, 3, 0⟩
def s12L : List (BitVec 32) := [0#32, 2147483648#32, 3221225472#32]
theorem s12_cut : Cuts [s12R] s12L := cuts_eq (by decide +kernel) (by decide +kernel)
theorem s12_len : SortCap (cutI [[s12R]].flatten).length := by show (cutI [[s12R]].flatten).length ≤ 12; decide +kernel
theorem s12_ok : TablesOk [[s12R]] := by
  intro l hl r hr
  simp at hl; subst hl
  simp at hr; subst hr
  exact ⟨by unfold In64 s12R; decide, by unfold In64 s12R; decide, by unfold In64 s12R; decide⟩
theorem OwnU.later' {w w' : World} {B : Nat} {v : Value} {l : List (BitVec 32)} (h : OwnU w B v l) (hx : Ext w w') : UsAt w' v l := (h.later hx).us
set_option maxHeartbeats 1000000 in
theorem shown12_any (w : World) : Calls Try.prog 29 #[] w fun e w' => e = .returned (.bool true) ∧ Ext w w' := by
  have H1 := Lib.hid (net1_at w s12R)
  have HXA := Lib.hid (show Ext w ((w.alloc (.cells #[U s12R.pa, I s12R.pl, I s12R.act, I s12R.nx] 42)).alloc (.cells #[.slice (some ⟨w.heap.size, 0, none⟩) 1 1] 39)) by (repeat (first | with_reducible exact Ext.refl _ | with_reducible assumption | with_reducible refine Ext.alloc ?_ _ | with_reducible refine Ext.drew ?_ | with_reducible refine Ext.drewN ?_ _ | (with_reducible refine Ext.setCellP ?_ ?_; focus (first | (simp; done) | (simp; omega) | omega)))))
  go_enter Try.func29, Try.ntmps29
  go_wp2_with (first
    | (go_at_call 30; refine (cutsOf_any _ [[s12R]] _ H1.out s12_ok s12_len).mono ?_; rintro e w1 ⟨v, l, he, hO, hC, hx1⟩; subst he; have he2 := Cuts.at hC s12_cut; subst he2; have HO := Lib.hid hO; have HX1 := Lib.hid hx1; clear hO hx1 hC)
    | (go_at_call 40; refine (r12Same_any _ _ s12L s12L _ (HO.out.later' ((Ext.refl w1).alloc _)) (us_made w1 s12L (by unfold maxLen; decide))).mono ?_; rintro e w3 ⟨he, hx3⟩; replace he := he.trans (congrArg (fun b => Ending.returned (.bool b)) (decide_eq_true rfl)); subst he; have HX3 := Lib.hid hx3; clear hx3))
  go_ret
  exact ⟨rfl, HXA.out.trans (HX1.out.trans (((Ext.refl w1).alloc _).trans HX3.out))⟩
end Go.Proofs.Ytilaljdokpdcoaa
