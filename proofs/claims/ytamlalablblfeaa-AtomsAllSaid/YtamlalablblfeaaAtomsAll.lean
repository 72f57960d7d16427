/- The law AtomsAll: a network's atoms are as the document says. Conditions: whole numbers are within 64 bits. -/
import Derived.Test.YtamlalablblfeaaAtomsAny
import Derived.Test.YtamlalablblfeaaSame16
import Derived.Test.YtamlalablblfeaaShown16
import Derived.Test.YtamlalablblfeaaFew
namespace Go.Proofs.Ytamlalablblfeaa
open Go Go.RowKit Go.Maps Go.Proofs

set_option maxHeartbeats 4000000 in
set_option maxRecDepth 100000 in
theorem atomsAll_any (lv : Value) (ls : List (List Rul)) (w : World) (hl : TablesAt w lv ls) (hok : TablesOk ls) :
    Calls Try.prog 3 #[.agg #[lv]] w fun e w' => e = .returned (.bool true) ∧ Ext w w' := by
  have HL := Lib.hid hl
  have HOK := Lib.hid hok
  obtain ⟨ad, cap, hlv, a1, a2, a3⟩ := hl.form
  subst hlv
  clear a3 hl hok
  unfold maxLen at a2
  go_enter Try.func3, Try.ntmps3
  go_upto_region 1 with (fail)
  refine hideW (Φ := fun W => Code.wp _ _ _ _ W) (fun W => Ext w W ∧ Blk W w.heap.size [.slice ad ls.length cap] 24)
    ⟨by (repeat (first | with_reducible exact Ext.refl _ | with_reducible assumption | with_reducible refine Ext.alloc ?_ _ | with_reducible refine Ext.drew ?_ | with_reducible refine Ext.drewN ?_ _ | (with_reducible refine Ext.setCellP ?_ ?_; focus (first | (simp; done) | (simp; omega) | omega)))), (Blk.new w [.slice ad ls.length cap] 24)⟩ (fun W1 hW1 => ?_)
  obtain ⟨hx1, hb1⟩ := hW1
  have HX1 := Lib.hid hx1
  have HB1 := Lib.hid hb1
  clear hx1 hb1
  generalize w.heap.size = nb at *
  have HFS := Lib.hid (fewN_size ls)
  have HFO := Lib.hid (fewN_ok HOK.out)
  have HNM := Lib.hid (fitN_may ls)
  have HNS := Lib.hid (fitN_size ls)
  have HNO := Lib.hid (fitN_ok ls)
  go_upto_region 2 with (first
    | (go_at_call 21; (with_reducible refine (shown16_any _).mono ?_); rintro e w2 ⟨rfl, hx2⟩; have HX2 := Lib.hid (HX1.out.trans hx2); have HB2 := Lib.hid (HB1.out.later hx2); clear hx2))
  have hbc0 := HB2.out.cells
  go_upto_region 3 with (first
    | (go_at_call 23; (with_reducible refine (few16_any _ ls _ (HL.out.later HX2.out)).mono ?_); rintro e wA0 ⟨vA, he, hF, hx⟩; subst he; have HT0 := Lib.hid hF; have HYA0 := Lib.hid hx; have HXA0 := Lib.hid (HX2.out.trans hx); have HBA0 := Lib.hid (HB2.out.later hx); clear hF hx)
    | (go_at_call 22; (with_reducible refine (atomsOf_any _ (fewN ls) _ HT0.out HFO.out (Nat.le_trans HFS.out (by decide))).mono ?_); rintro e wB0 ⟨fv0, hv0, vv0, s0, he, hA, hI, hx⟩; subst he; have HI0 := Lib.hid hI; have HA0 := Lib.hid hA; have HYB0 := Lib.hid hx; have HXB0 := Lib.hid (HXA0.out.trans hx); have HBB0 := Lib.hid (HBA0.out.later hx); obtain ⟨fa0, fc0, ha0, hc0, va0, vc0, e1, e2, e3⟩ := hA.forms; subst e1 e2 e3; clear hA hI hx))
  clear hbc0
  refine hideW (Φ := fun W => Code.wp _ _ _ _ W) (fun W => Ext wB0 W ∧ Blk W wB0.heap.size [.slice fa0 s0.fr.length fc0, .slice ha0 s0.wh.length hc0, .slice va0 s0.vs.length vc0] 30)
    ⟨by (repeat (first | with_reducible exact Ext.refl _ | with_reducible assumption | with_reducible refine Ext.alloc ?_ _ | with_reducible refine Ext.drew ?_ | with_reducible refine Ext.drewN ?_ _ | (with_reducible refine Ext.setCellP ?_ ?_; focus (first | (simp; done) | (simp; omega) | omega)))), Blk.new wB0 [.slice fa0 s0.fr.length fc0, .slice ha0 s0.wh.length hc0, .slice va0 s0.vs.length vc0] 30⟩ (fun WC0 hWC => ?_)
  obtain ⟨hx, hb⟩ := hWC
  have HXC0 := Lib.hid (HXB0.out.trans hx)
  have HBC0 := Lib.hid (HBB0.out.later hx)
  have HAC0 := Lib.hid (HA0.out.later hx)
  have HKC0 := Lib.hid hb
  have HXD0 := Lib.hid hx
  clear hx hb
  generalize hxb0 : wB0.heap.size = xb0 at *
  clear hxb0
  have hbc1 := HBC0.out.cells
  go_upto_region 4 with (first
    | (go_at_call 23; (with_reducible refine (few16_any _ ls _ (HL.out.later HXC0.out)).mono ?_); rintro e wA1 ⟨vA, he, hF, hx⟩; subst he; have HT1 := Lib.hid hF; have HYA1 := Lib.hid hx; have HXA1 := Lib.hid (HXC0.out.trans hx); have HBA1 := Lib.hid (HBC0.out.later hx); clear hF hx)
    | (go_at_call 24; (with_reducible refine (r16Of_any _ (fewN ls) _ HT1.out HFO.out (Nat.le_trans HFS.out (by decide))).mono ?_); rintro e wB1 ⟨fv1, hv1, vv1, s1, he, hA, hI, hx⟩; subst he; have HI1 := Lib.hid hI; have HA1 := Lib.hid hA; have HYB1 := Lib.hid hx; have HXB1 := Lib.hid (HXA1.out.trans hx); have HBB1 := Lib.hid (HBA1.out.later hx); obtain ⟨fa1, fc1, ha1, hc1, va1, vc1, e1, e2, e3⟩ := hA.forms; subst e1 e2 e3; clear hA hI hx))
  clear hbc1
  refine hideW (Φ := fun W => Code.wp _ _ _ _ W) (fun W => Ext wB1 W ∧ Blk W wB1.heap.size [.slice fa1 s1.fr.length fc1, .slice ha1 s1.wh.length hc1, .slice va1 s1.vs.length vc1] 35)
    ⟨by (repeat (first | with_reducible exact Ext.refl _ | with_reducible assumption | with_reducible refine Ext.alloc ?_ _ | with_reducible refine Ext.drew ?_ | with_reducible refine Ext.drewN ?_ _ | (with_reducible refine Ext.setCellP ?_ ?_; focus (first | (simp; done) | (simp; omega) | omega)))), Blk.new wB1 [.slice fa1 s1.fr.length fc1, .slice ha1 s1.wh.length hc1, .slice va1 s1.vs.length vc1] 35⟩ (fun WC1 hWC => ?_)
  obtain ⟨hx, hb⟩ := hWC
  have HXC1 := Lib.hid (HXB1.out.trans hx)
  have HBC1 := Lib.hid (HBB1.out.later hx)
  have HAC1 := Lib.hid (HA1.out.later hx)
  have HKC1 := Lib.hid hb
  have HXD1 := Lib.hid hx
  clear hx hb
  generalize hxb1 : wB1.heap.size = xb1 at *
  clear hxb1
  have hbc2 := HBC1.out.cells
  go_upto_region 5 with (first
    | (go_at_call 25; (with_reducible refine (r09Fit_any _ ls _ (HL.out.later HXC1.out) HOK.out).mono ?_); rintro e wA2 ⟨vA, he, hF, hx⟩; subst he; have HT2 := Lib.hid hF.tables; have HYA2 := Lib.hid hx; have HXA2 := Lib.hid (HXC1.out.trans hx); have HBA2 := Lib.hid (HBC1.out.later hx); clear hF hx)
    | (go_at_call 22; (with_reducible refine (atomsOf_any _ (fitN ls) _ HT2.out HNO.out (Nat.le_trans HNS.out (by decide))).mono ?_); rintro e wB2 ⟨fv2, hv2, vv2, s2, he, hA, hI, hx⟩; rw [HNM.out] at he; subst he; have HI2 := Lib.hid hI; have HA2 := Lib.hid hA; have HYB2 := Lib.hid hx; have HXB2 := Lib.hid (HXA2.out.trans hx); have HBB2 := Lib.hid (HBA2.out.later hx); obtain ⟨fa2, fc2, ha2, hc2, va2, vc2, e1, e2, e3⟩ := hA.forms; subst e1 e2 e3; clear hA hI hx))
  clear hbc2
  refine hideW (Φ := fun W => Code.wp _ _ _ _ W) (fun W => Ext wB2 W ∧ Blk W wB2.heap.size [.slice fa2 s2.fr.length fc2, .slice ha2 s2.wh.length hc2, .slice va2 s2.vs.length vc2] 30)
    ⟨by (repeat (first | with_reducible exact Ext.refl _ | with_reducible assumption | with_reducible refine Ext.alloc ?_ _ | with_reducible refine Ext.drew ?_ | with_reducible refine Ext.drewN ?_ _ | (with_reducible refine Ext.setCellP ?_ ?_; focus (first | (simp; done) | (simp; omega) | omega)))), Blk.new wB2 [.slice fa2 s2.fr.length fc2, .slice ha2 s2.wh.length hc2, .slice va2 s2.vs.length vc2] 30⟩ (fun WC2 hWC => ?_)
  obtain ⟨hx, hb⟩ := hWC
  have HXC2 := Lib.hid (HXB2.out.trans hx)
  have HBC2 := Lib.hid (HBB2.out.later hx)
  have HAC2 := Lib.hid (HA2.out.later hx)
  have HKC2 := Lib.hid hb
  have HXD2 := Lib.hid hx
  clear hx hb
  generalize hxb2 : wB2.heap.size = xb2 at *
  clear hxb2
  have hbc3 := HBC2.out.cells
  go_upto_region 6 with (first
    | (go_at_call 25; (with_reducible refine (r09Fit_any _ ls _ (HL.out.later HXC2.out) HOK.out).mono ?_); rintro e wA3 ⟨vA, he, hF, hx⟩; subst he; have HT3 := Lib.hid hF.tables; have HYA3 := Lib.hid hx; have HXA3 := Lib.hid (HXC2.out.trans hx); have HBA3 := Lib.hid (HBC2.out.later hx); clear hF hx)
    | (go_at_call 24; (with_reducible refine (r16Of_any _ (fitN ls) _ HT3.out HNO.out (Nat.le_trans HNS.out (by decide))).mono ?_); rintro e wB3 ⟨fv3, hv3, vv3, s3, he, hA, hI, hx⟩; rw [HNM.out] at he; subst he; have HI3 := Lib.hid hI; have HA3 := Lib.hid hA; have HYB3 := Lib.hid hx; have HXB3 := Lib.hid (HXA3.out.trans hx); have HBB3 := Lib.hid (HBA3.out.later hx); obtain ⟨fa3, fc3, ha3, hc3, va3, vc3, e1, e2, e3⟩ := hA.forms; subst e1 e2 e3; clear hA hI hx))
  clear hbc3
  refine hideW (Φ := fun W => Code.wp _ _ _ _ W) (fun W => Ext wB3 W ∧ Blk W wB3.heap.size [.slice fa3 s3.fr.length fc3, .slice ha3 s3.wh.length hc3, .slice va3 s3.vs.length vc3] 35)
    ⟨by (repeat (first | with_reducible exact Ext.refl _ | with_reducible assumption | with_reducible refine Ext.alloc ?_ _ | with_reducible refine Ext.drew ?_ | with_reducible refine Ext.drewN ?_ _ | (with_reducible refine Ext.setCellP ?_ ?_; focus (first | (simp; done) | (simp; omega) | omega)))), Blk.new wB3 [.slice fa3 s3.fr.length fc3, .slice ha3 s3.wh.length hc3, .slice va3 s3.vs.length vc3] 35⟩ (fun WC3 hWC => ?_)
  obtain ⟨hx, hb⟩ := hWC
  have HXC3 := Lib.hid (HXB3.out.trans hx)
  have HBC3 := Lib.hid (HBB3.out.later hx)
  have HAC3 := Lib.hid (HA3.out.later hx)
  have HKC3 := Lib.hid hb
  have HXD3 := Lib.hid hx
  clear hx hb
  generalize hxb3 : wB3.heap.size = xb3 at *
  clear hxb3
  have HE1 := Lib.hid (HYA1.out.trans (HYB1.out.trans HXD1.out))
  have HE2 := Lib.hid (HYA2.out.trans (HYB2.out.trans HXD2.out))
  have HE3 := Lib.hid (HYA3.out.trans (HYB3.out.trans HXD3.out))
  obtain rfl := HI0.out.one HI1.out
  obtain rfl := HI2.out.one HI3.out
  have HP0 := Lib.hid (HAC0.out.later (HE1.out.trans (HE2.out.trans HE3.out)))
  have HP1 := Lib.hid (HAC1.out.later (HE2.out.trans HE3.out))
  have HP2 := Lib.hid (HAC2.out.later HE3.out)
  have HQ0 := Lib.hid (HKC0.out.later (HE1.out.trans (HE2.out.trans HE3.out)))
  have HQ1 := Lib.hid (HKC1.out.later (HE2.out.trans HE3.out))
  have HQ2 := Lib.hid (HKC2.out.later HE3.out)
  have c0 := HQ0.out.cells
  have c1 := HQ1.out.cells
  have c2 := HQ2.out.cells
  have c3 := HKC3.out.cells
  generalize netMayV (fewN ls) = mf at *
  have hmf : (mf == mf) = true := by simp
  go_wp2_with (first
    | (go_at_call 26; (with_reducible refine (same16_any _ _ _ _ _ _ s0 _ HP0.out HP1.out).mono ?_); rintro e w8 ⟨he, hx8⟩; subst he; have HX8 := Lib.hid hx8; have d2 := (HQ2.out.later hx8).cells; have d3 := (HKC3.out.later hx8).cells; have HR2 := Lib.hid (HP2.out.later hx8); have HR3 := Lib.hid (HAC3.out.later hx8); clear hx8 c0 c1 c2 c3)
    | (go_at_call 26; (with_reducible refine (same16_any _ _ _ _ _ _ s2 _ HR2.out HR3.out).mono ?_); rintro e w9 ⟨he, hx9⟩; subst he; have HX9 := Lib.hid (HX8.out.trans hx9); clear hx9))
  go_ret
  exact ⟨rfl, HXC3.out.trans HX9.out⟩
end Go.Proofs.Ytamlalablblfeaa
