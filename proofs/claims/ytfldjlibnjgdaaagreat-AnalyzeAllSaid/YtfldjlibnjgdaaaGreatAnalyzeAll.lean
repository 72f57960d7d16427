/- The law AnalyzeAll: a network's certificate, or why there is none, is as the document says. Conditions: whole numbers are within 64 bits. -/
import Derived.Test.YtfldjlibnjgdaaaGreatGAna
import Derived.Test.YtfldjlibnjgdaaaGreatR21
import Derived.Test.YtfldjlibnjgdaaaGreatR17S
import Derived.Test.YtfldjlibnjgdaaaGreatFew
namespace Go.Proofs.YtfldjlibnjgdaaaGreat
open Go Go.RowKit Go.Maps Go.Proofs

def AnaRes (ls : List (List Rul)) (c : Crt) : Prop := netMayV ls = 0 ∧ AnaIs ls c ∨ netMayV ls ≠ 0 ∧ c = crt0
theorem AnaRes.one {ls : List (List Rul)} {c d : Crt} (h : AnaRes ls c) (k : AnaRes ls d) : CrtEq c d := by
  rcases h with ⟨h0, h⟩ | ⟨h0, rfl⟩
  · rcases k with ⟨_, k⟩ | ⟨k0, _⟩
    · exact h.one k
    · exact absurd h0 k0
  · rcases k with ⟨k0, _⟩ | ⟨_, rfl⟩
    · exact absurd k0 h0
    · exact ⟨rfl, rfl, rfl, rfl, rfl⟩
set_option maxHeartbeats 4000000 in
set_option maxRecDepth 100000 in
theorem analyzeAll_any (lv : Value) (ls : List (List Rul)) (w : World) (hl : TablesAt w lv ls) (hok : TablesOk ls) :
    Calls Tryz.prog 3 #[.agg #[lv]] w fun e w' => e = .returned (.bool true) ∧ Ext w w' := by
  have HL := Lib.hid hl
  have HOK := Lib.hid hok
  obtain ⟨ad, cap, hlv, a1, a2, a3⟩ := hl.form
  subst hlv
  clear a3 hl hok
  unfold maxLen at a2
  go_enter Tryz.func3, Tryz.ntmps3
  go_upto_region 1 with (fail)
  refine hideW (Φ := fun W => Code.wp _ _ _ _ W) (fun W => Ext w W ∧ Blk W w.heap.size [.slice ad ls.length cap] 24)
    ⟨by (repeat (first | with_reducible exact Ext.refl _ | with_reducible assumption | with_reducible refine Ext.alloc ?_ _ | with_reducible refine Ext.drew ?_ | with_reducible refine Ext.drewN ?_ _ | (with_reducible refine Ext.setCellP ?_ ?_; focus (first | (simp; done) | (simp; omega) | omega)))), (Blk.new w [.slice ad ls.length cap] 24)⟩ (fun W1 hW1 => ?_)
  obtain ⟨hx1, hb1⟩ := hW1
  have HX1 := Lib.hid hx1
  have HB1 := Lib.hid hb1
  clear hx1 hb1
  generalize w.heap.size = nb at *
  have HFS := Lib.hid (fewN_size ls)
  have HFO := Lib.hid (fewN_ok HOK.out)
  have HNM := Lib.hid (fitN_may ls)
  have HNS := Lib.hid (fitN_size ls)
  have HNO := Lib.hid (fitN_ok ls)
  go_upto_region 2 with (first
    | (go_at_call 5; (with_reducible refine (shown21_any _).mono ?_); rintro e w2 ⟨rfl, hx2⟩; have HX2 := Lib.hid (HX1.out.trans hx2); have HB2 := Lib.hid (HB1.out.later hx2); clear hx2))
  have hbc0 := HB2.out.cells
  go_upto_region 3 with (first
    | (go_at_call 7; (with_reducible refine (few21_any _ ls _ (HL.out.later HX2.out)).mono ?_); rintro e wA0 ⟨vA, he, hF, hx⟩; subst he; have HT0 := Lib.hid hF; have HYA0 := Lib.hid hx; have HXA0 := Lib.hid (HX2.out.trans hx); have HBA0 := Lib.hid (HB2.out.later hx); clear hF hx)
    | (go_at_call 6; (with_reducible refine (aNet_any _ (fewN ls) _ HT0.out HFO.out (Nat.le_trans HFS.out (by decide))).mono ?_); rintro e wB0 ⟨pv0, tv0, c0, he, hA, hI, hx⟩; subst he; have HI0 := Lib.hid (show AnaRes (fewN ls) c0 from hI); have HA0 := Lib.hid hA; have HYB0 := Lib.hid hx; have HXB0 := Lib.hid (HXA0.out.trans hx); have HBB0 := Lib.hid (HBA0.out.later hx); obtain ⟨pa0, pc0, e1, -⟩ := hA.parts.form; obtain ⟨ta0, tc0, e2, -⟩ := hA.tr.form; subst e1 e2; clear hA hI hx))
  clear hbc0
  refine hideW (Φ := fun W => Code.wp _ _ _ _ W) (fun W => Ext wB0 W ∧ Blk W wB0.heap.size [I c0.vd, .slice pa0 c0.ps.length pc0, U c0.dest, .slice ta0 c0.tr.length tc0] 30)
    ⟨by (repeat (first | with_reducible exact Ext.refl _ | with_reducible assumption | with_reducible refine Ext.alloc ?_ _ | with_reducible refine Ext.drew ?_ | with_reducible refine Ext.drewN ?_ _ | (with_reducible refine Ext.setCellP ?_ ?_; focus (first | (simp; done) | (simp; omega) | omega)))), Blk.new wB0 [I c0.vd, .slice pa0 c0.ps.length pc0, U c0.dest, .slice ta0 c0.tr.length tc0] 30⟩ (fun WC0 hWC => ?_)
  obtain ⟨hx, hb⟩ := hWC
  have HXC0 := Lib.hid (HXB0.out.trans hx)
  have HBC0 := Lib.hid (HBB0.out.later hx)
  have HAC0 := Lib.hid (HA0.out.later hx)
  have HKC0 := Lib.hid hb
  have HXD0 := Lib.hid hx
  clear hx hb
  generalize hxb0 : wB0.heap.size = xb0 at *
  clear hxb0
  have hbc1 := HBC0.out.cells
  go_upto_region 4 with (first
    | (go_at_call 7; (with_reducible refine (few21_any _ ls _ (HL.out.later HXC0.out)).mono ?_); rintro e wA1 ⟨vA, he, hF, hx⟩; subst he; have HT1 := Lib.hid hF; have HYA1 := Lib.hid hx; have HXA1 := Lib.hid (HXC0.out.trans hx); have HBA1 := Lib.hid (HBC0.out.later hx); clear hF hx)
    | (go_at_call 8; (with_reducible refine (r21Net_any _ (fewN ls) _ HT1.out HFO.out (Nat.le_trans HFS.out (by decide))).mono ?_); rintro e wB1 ⟨pv1, tv1, c1, he, hA, hI, hx⟩; subst he; have HI1 := Lib.hid (show AnaRes (fewN ls) c1 from hI); have HA1 := Lib.hid hA; have HYB1 := Lib.hid hx; have HXB1 := Lib.hid (HXA1.out.trans hx); have HBB1 := Lib.hid (HBA1.out.later hx); obtain ⟨pa1, pc1, e1, -⟩ := hA.parts.form; obtain ⟨ta1, tc1, e2, -⟩ := hA.tr.form; subst e1 e2; clear hA hI hx))
  clear hbc1
  refine hideW (Φ := fun W => Code.wp _ _ _ _ W) (fun W => Ext wB1 W ∧ Blk W wB1.heap.size [I c1.vd, .slice pa1 c1.ps.length pc1, U c1.dest, .slice ta1 c1.tr.length tc1] 30)
    ⟨by (repeat (first | with_reducible exact Ext.refl _ | with_reducible assumption | with_reducible refine Ext.alloc ?_ _ | with_reducible refine Ext.drew ?_ | with_reducible refine Ext.drewN ?_ _ | (with_reducible refine Ext.setCellP ?_ ?_; focus (first | (simp; done) | (simp; omega) | omega)))), Blk.new wB1 [I c1.vd, .slice pa1 c1.ps.length pc1, U c1.dest, .slice ta1 c1.tr.length tc1] 30⟩ (fun WC1 hWC => ?_)
  obtain ⟨hx, hb⟩ := hWC
  have HXC1 := Lib.hid (HXB1.out.trans hx)
  have HBC1 := Lib.hid (HBB1.out.later hx)
  have HAC1 := Lib.hid (HA1.out.later hx)
  have HKC1 := Lib.hid hb
  have HXD1 := Lib.hid hx
  clear hx hb
  generalize hxb1 : wB1.heap.size = xb1 at *
  clear hxb1
  have hbc2 := HBC1.out.cells
  go_upto_region 5 with (first
    | (go_at_call 9; (with_reducible refine (r09Fit_any _ ls _ (HL.out.later HXC1.out) HOK.out).mono ?_); rintro e wA2 ⟨vA, he, hF, hx⟩; subst he; have HT2 := Lib.hid hF.tables; have HYA2 := Lib.hid hx; have HXA2 := Lib.hid (HXC1.out.trans hx); have HBA2 := Lib.hid (HBC1.out.later hx); clear hF hx)
    | (go_at_call 6; (with_reducible refine (aNet_any _ (fitN ls) _ HT2.out HNO.out (Nat.le_trans HNS.out (by decide))).mono ?_); rintro e wB2 ⟨pv2, tv2, c2, he, hA, hI, hx⟩; rw [HNM.out] at he; subst he; have HI2 := Lib.hid (show AnaRes (fitN ls) c2 from hI); have HA2 := Lib.hid hA; have HYB2 := Lib.hid hx; have HXB2 := Lib.hid (HXA2.out.trans hx); have HBB2 := Lib.hid (HBA2.out.later hx); obtain ⟨pa2, pc2, e1, -⟩ := hA.parts.form; obtain ⟨ta2, tc2, e2, -⟩ := hA.tr.form; subst e1 e2; clear hA hI hx))
  clear hbc2
  refine hideW (Φ := fun W => Code.wp _ _ _ _ W) (fun W => Ext wB2 W ∧ Blk W wB2.heap.size [I c2.vd, .slice pa2 c2.ps.length pc2, U c2.dest, .slice ta2 c2.tr.length tc2] 30)
    ⟨by (repeat (first | with_reducible exact Ext.refl _ | with_reducible assumption | with_reducible refine Ext.alloc ?_ _ | with_reducible refine Ext.drew ?_ | with_reducible refine Ext.drewN ?_ _ | (with_reducible refine Ext.setCellP ?_ ?_; focus (first | (simp; done) | (simp; omega) | omega)))), Blk.new wB2 [I c2.vd, .slice pa2 c2.ps.length pc2, U c2.dest, .slice ta2 c2.tr.length tc2] 30⟩ (fun WC2 hWC => ?_)
  obtain ⟨hx, hb⟩ := hWC
  have HXC2 := Lib.hid (HXB2.out.trans hx)
  have HBC2 := Lib.hid (HBB2.out.later hx)
  have HAC2 := Lib.hid (HA2.out.later hx)
  have HKC2 := Lib.hid hb
  have HXD2 := Lib.hid hx
  clear hx hb
  generalize hxb2 : wB2.heap.size = xb2 at *
  clear hxb2
  have hbc3 := HBC2.out.cells
  go_upto_region 6 with (first
    | (go_at_call 9; (with_reducible refine (r09Fit_any _ ls _ (HL.out.later HXC2.out) HOK.out).mono ?_); rintro e wA3 ⟨vA, he, hF, hx⟩; subst he; have HT3 := Lib.hid hF.tables; have HYA3 := Lib.hid hx; have HXA3 := Lib.hid (HXC2.out.trans hx); have HBA3 := Lib.hid (HBC2.out.later hx); clear hF hx)
    | (go_at_call 8; (with_reducible refine (r21Net_any _ (fitN ls) _ HT3.out HNO.out (Nat.le_trans HNS.out (by decide))).mono ?_); rintro e wB3 ⟨pv3, tv3, c3, he, hA, hI, hx⟩; rw [HNM.out] at he; subst he; have HI3 := Lib.hid (show AnaRes (fitN ls) c3 from hI); have HA3 := Lib.hid hA; have HYB3 := Lib.hid hx; have HXB3 := Lib.hid (HXA3.out.trans hx); have HBB3 := Lib.hid (HBA3.out.later hx); obtain ⟨pa3, pc3, e1, -⟩ := hA.parts.form; obtain ⟨ta3, tc3, e2, -⟩ := hA.tr.form; subst e1 e2; clear hA hI hx))
  clear hbc3
  refine hideW (Φ := fun W => Code.wp _ _ _ _ W) (fun W => Ext wB3 W ∧ Blk W wB3.heap.size [I c3.vd, .slice pa3 c3.ps.length pc3, U c3.dest, .slice ta3 c3.tr.length tc3] 30)
    ⟨by (repeat (first | with_reducible exact Ext.refl _ | with_reducible assumption | with_reducible refine Ext.alloc ?_ _ | with_reducible refine Ext.drew ?_ | with_reducible refine Ext.drewN ?_ _ | (with_reducible refine Ext.setCellP ?_ ?_; focus (first | (simp; done) | (simp; omega) | omega)))), Blk.new wB3 [I c3.vd, .slice pa3 c3.ps.length pc3, U c3.dest, .slice ta3 c3.tr.length tc3] 30⟩ (fun WC3 hWC => ?_)
  obtain ⟨hx, hb⟩ := hWC
  have HXC3 := Lib.hid (HXB3.out.trans hx)
  have HBC3 := Lib.hid (HBB3.out.later hx)
  have HAC3 := Lib.hid (HA3.out.later hx)
  have HKC3 := Lib.hid hb
  have HXD3 := Lib.hid hx
  clear hx hb
  generalize hxb3 : wB3.heap.size = xb3 at *
  clear hxb3
  have HE1 := Lib.hid (HYA1.out.trans (HYB1.out.trans HXD1.out))
  have HE2 := Lib.hid (HYA2.out.trans (HYB2.out.trans HXD2.out))
  have HE3 := Lib.hid (HYA3.out.trans (HYB3.out.trans HXD3.out))
  have HEQ0 := Lib.hid (HI0.out.one HI1.out)
  have HEQ2 := Lib.hid (HI2.out.one HI3.out)
  have HP0 := Lib.hid (HAC0.out.later (HE1.out.trans (HE2.out.trans HE3.out)))
  have HP1 := Lib.hid (HAC1.out.later (HE2.out.trans HE3.out))
  have HP2 := Lib.hid (HAC2.out.later HE3.out)
  have HQ0 := Lib.hid (HKC0.out.later (HE1.out.trans (HE2.out.trans HE3.out)))
  have HQ1 := Lib.hid (HKC1.out.later (HE2.out.trans HE3.out))
  have HQ2 := Lib.hid (HKC2.out.later HE3.out)
  have c0c := HQ0.out.cells
  have c1c := HQ1.out.cells
  have c2c := HQ2.out.cells
  have c3c := HKC3.out.cells
  generalize netMayV (fewN ls) = mv at *
  have hmm : (mv == mv) = true := beq_self_eq_true _
  have HTOT := Lib.hid HXC3.out
  go_wp2_with (first
    | (go_at_call 10; (first | (with_reducible refine (r17Same_yes _ _ _ _ c0 c1 _ HEQ0.out HP0.out HP1.out).mono ?_) | (with_reducible refine (r17Same_yes _ _ _ _ c2 c3 _ HEQ2.out (HP2.out.later HXS.out) (HAC3.out.later HXS.out)).mono ?_)); rintro e wS ⟨he, hx⟩; subst he; have HXS := Lib.hid hx; have HTOT := Lib.hid (HTOT.out.trans hx); first | (have c2s := (HQ2.out.later hx).cells; have c3s := (HKC3.out.later hx).cells; clear hx) | clear hx))
  go_ret
  exact ⟨rfl, HTOT.out⟩
end Go.Proofs.YtfldjlibnjgdaaaGreat