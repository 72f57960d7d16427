/- The law AtomsLeast: neighbours differ, each vector is there once, in the order in which they come first; few atoms. Conditions: whole numbers are within 64 bits. -/
import Derived.Test.YtamlalablblfeaaAtomsOfG
import Derived.Test.YtamlalablblfeaaAtomsAt
import Derived.Test.YtamlalablblfeaaAtomsL
import Derived.Test.YtamlalablblfeaaShown16
namespace Go.Proofs.Ytamlalablblfeaa
open Go Go.RowKit Go.Maps Go.Proofs

set_option maxHeartbeats 4000000 in
set_option maxRecDepth 100000 in
theorem atomsLeast_any (lv : Value) (ls : List (List Rul)) (w : World) (hl : TablesAt w lv ls) (hok : TablesOk ls) :
    Calls Try.prog 5 #[.agg #[lv]] w fun e w' => e = .returned (.bool true) ∧ Ext w w' := by
  have HL := Lib.hid hl
  have HOK := Lib.hid hok
  obtain ⟨ad, cap, hlv, a1, a2, a3⟩ := hl.form
  subst hlv
  clear a3 hl hok
  unfold maxLen at a2
  go_enter Try.func5, Try.ntmps5
  go_upto_region 1 with (fail)
  refine hideW (Φ := fun W => Code.wp _ _ _ _ W) (fun W => Ext w W ∧ Blk W w.heap.size [.slice ad ls.length cap] 24)
    ⟨by (repeat (first | with_reducible exact Ext.refl _ | with_reducible assumption | with_reducible refine Ext.alloc ?_ _ | with_reducible refine Ext.drew ?_ | with_reducible refine Ext.drewN ?_ _ | (with_reducible refine Ext.setCellP ?_ ?_; focus (first | (simp; done) | (simp; omega) | omega)))), (Blk.new w [.slice ad ls.length cap] 24)⟩ (fun W1 hW1 => ?_)
  obtain ⟨hx1, hb1⟩ := hW1
  have HX1 := Lib.hid hx1
  have HB1 := Lib.hid hb1
  clear hx1 hb1
  generalize w.heap.size = nb at *
  go_upto_region 2 with (first
    | (go_at_call 21; (with_reducible refine (shown16_any _).mono ?_); rintro e w2 ⟨rfl, hx2⟩; have HX2 := Lib.hid (HX1.out.trans hx2); have HB2 := Lib.hid (HB1.out.later hx2); clear hx2))
  have hbc2 := HB2.out.cells
  have HNM := Lib.hid (fitN_may ls)
  have HNS := Lib.hid (fitN_size ls)
  have HNO := Lib.hid (fitN_ok ls)
  have HN20 := Lib.hid (@fitN_short ls)
  have hN := fitN_bd ls
  go_upto_region 3 with (first
    | (go_at_call 25; (with_reducible refine (r09Fit_any _ ls _ (HL.out.later HX2.out) HOK.out).mono ?_); rintro e w3 ⟨v3, he, hF, hx3⟩; subst he; have HF3 := Lib.hid hF.tables; obtain ⟨va, vcap, hv3, q1, q2, q3⟩ := HF3.out.form; subst hv3; clear q3; have HX3 := Lib.hid (HX2.out.trans hx3); clear hF hx3))
  generalize fitN ls = N at *
  clear hbc2 HB2 HB1
  unfold maxLen at q2
  refine hideW (Φ := fun W => Code.wp _ _ _ _ W) (fun W => Ext w3 W ∧ Blk W w3.heap.size [.slice va N.length vcap] 24)
    ⟨by (repeat (first | with_reducible exact Ext.refl _ | with_reducible assumption | with_reducible refine Ext.alloc ?_ _ | with_reducible refine Ext.drew ?_ | with_reducible refine Ext.drewN ?_ _ | (with_reducible refine Ext.setCellP ?_ ?_; focus (first | (simp; done) | (simp; omega) | omega)))), Blk.new w3 [.slice va N.length vcap] 24⟩ (fun W4 hW4 => ?_)
  obtain ⟨hx4, hb4⟩ := hW4
  have HX4 := Lib.hid (HX3.out.trans hx4)
  have HF4 := Lib.hid (HF3.out.later hx4)
  have HB4 := Lib.hid hb4
  have hbc4 := hb4.cells
  clear hx4 hb4 HF3 HX3 HX1 HX2
  generalize w3.heap.size = fb at *
  go_upto_region 4 with (first
    | (go_at_call 22; (with_reducible refine (atomsOf_good _ N _ HF4.out HNO.out HNM.out).mono ?_); rintro e w5 ⟨fv, hv, vv, l, he, hC, hA, hx5⟩; subst he; have HC := Lib.hid hC; have HIT := Lib.hid (atomsIt hC); have HA5 := Lib.hid hA; have HX5 := Lib.hid (HX4.out.trans hx5); have HF5 := Lib.hid (HF4.out.later hx5); have HB5 := Lib.hid (HB4.out.later hx5); obtain ⟨fa, fc, ha, hc, ya, yc, e1, e2, e3⟩ := hA.forms; subst e1 e2 e3; clear hC hA hx5))
  clear hbc4
  have HLL := Lib.hid (show (atomsL (vecV N) l).fr.length ≤ 100000 by
    have h1 := ats_few (vecV N) l
    have h2 := HC.out.len
    rw [sizeN_flat] at h2
    have h3 := HNS.out
    omega)
  generalize hs : atomsL (vecV N) l = s at *
  have HS := Lib.hid hs
  clear hs
  refine hideW (Φ := fun W => Code.wp _ _ _ _ W) (fun W => Ext w5 W ∧ Blk W w5.heap.size [.slice fa s.fr.length fc, .slice ha s.wh.length hc, .slice ya s.vs.length yc] 30)
    ⟨by (repeat (first | with_reducible exact Ext.refl _ | with_reducible assumption | with_reducible refine Ext.alloc ?_ _ | with_reducible refine Ext.drew ?_ | with_reducible refine Ext.drewN ?_ _ | (with_reducible refine Ext.setCellP ?_ ?_; focus (first | (simp; done) | (simp; omega) | omega)))), Blk.new w5 [.slice fa s.fr.length fc, .slice ha s.wh.length hc, .slice ya s.vs.length yc] 30⟩ (fun W6 hW6 => ?_)
  obtain ⟨hx6, hb6⟩ := hW6
  have HX6 := Lib.hid (HX5.out.trans hx6)
  have HA6 := Lib.hid (HA5.out.later hx6)
  have HF6 := Lib.hid (HF5.out.later hx6)
  have HB6 := Lib.hid (HB5.out.later hx6)
  have HK6 := Lib.hid hb6
  have hbc6 := HB6.out.cells
  have hkc6 := HK6.out.cells
  clear hx6 hb6 HA5 HF5 HB5 HX5 HF4 HB4 HX4
  generalize w5.heap.size = xb at *
  have HOKS := Lib.hid HIT.out.inv.ok
  have HWL := Lib.hid HOKS.out.len
  have HLS := Lib.hid (show s.fr.length ≤ 2 * sizeN N + 1 by
    have h1 := ats_few (vecV N) l
    have h2 := HC.out.len
    rw [sizeN_flat] at h2
    rw [HS.out] at h1
    exact Nat.le_trans h1 h2)
  have HLP := Lib.hid (show 0 < s.fr.length from (List.getElem?_eq_some_iff.1 HIT.out.zero).1)
  have HSZ := Lib.hid (Nat.le_trans HNS.out (by decide : 160 ≤ 100000000))
  have HVN := Lib.hid (show s.vs.length ≤ 100000 by have := HOKS.out.short; have := HWL.out; have := HLL.out; omega)
  have hz := HNS.out
  have hzl := HLS.out
  have HNZ := Lib.hid (show ∀ W, TablesAt W (.slice va N.length vcap) N → Calls Try.prog 32 #[.agg #[.slice va N.length vcap]] W fun e w' => e = .returned (I (sizeN N)) ∧ Ext W w' from fun W hW => netSize_any _ N W hW HSZ.out)
  generalize sizeN N = z at *
  have hL0 : ((s.fr.length : Int) == 0) = false := beq_false_of_ne (by have := HLP.out; omega)
  have hwl : ((s.wh.length : Int) != (s.fr.length : Int)) = false := by have := HWL.out; simp; omega
  have hLL : s.fr.length ≤ 100000 := HLL.out
  have hgt : decide (2 * (z : Int) + 1 < (s.fr.length : Int)) = false := decide_eq_false (by omega)
  go_upto_region 4 with (fail)
  refine wp_region_E 35 rfl (by kernel_rfl) (by kernel_rfl) ?_
  have k1 := HK6.out.keep
  have k2 := HB6.out.keep
  refine WE_q 0 rfl (by decide) (by kernel_rfl) rfl ?_; apply Exists.intro; refine ⟨fun w1 hx1 => ?_, ?_⟩
  · have hq1 := hx1.cells; go_simp; try go_bits
    first | with_reducible rfl | (first | (refine (atomsLen_any _ _ _ s _ (HA6.out.later hx1)).mono ?_; rintro e w' ⟨rfl, hx⟩; exact ⟨rfl, hx⟩) | (refine (HNZ.out _ (HF6.out.later hx1)).mono ?_; rintro e w' ⟨rfl, hx⟩; exact ⟨rfl, hx⟩))
  simp only [Act.put, List.setIfInBounds_toArray, List.set_cons_zero, List.set_cons_succ]
  refine WE_q 1 rfl (by decide) (by kernel_rfl) rfl ?_; apply Exists.intro; refine ⟨fun w1 hx1 => ?_, ?_⟩
  · have hq1 := hx1.cells; go_simp; try go_bits
    first | with_reducible rfl | (first | (refine (atomsLen_any _ _ _ s _ (HA6.out.later hx1)).mono ?_; rintro e w' ⟨rfl, hx⟩; exact ⟨rfl, hx⟩) | (refine (HNZ.out _ (HF6.out.later hx1)).mono ?_; rintro e w' ⟨rfl, hx⟩; exact ⟨rfl, hx⟩))
  simp only [Act.put, List.setIfInBounds_toArray, List.set_cons_zero, List.set_cons_succ]
  refine WE_q 2 rfl (by decide) (by kernel_rfl) rfl ?_; apply Exists.intro; refine ⟨fun w1 hx1 => ?_, ?_⟩
  · have hq1 := hx1.cells; go_simp; try go_bits
    first | with_reducible rfl | (first | (refine (atomsLen_any _ _ _ s _ (HA6.out.later hx1)).mono ?_; rintro e w' ⟨rfl, hx⟩; exact ⟨rfl, hx⟩) | (refine (HNZ.out _ (HF6.out.later hx1)).mono ?_; rintro e w' ⟨rfl, hx⟩; exact ⟨rfl, hx⟩))
  simp only [Act.put, List.setIfInBounds_toArray, List.set_cons_zero, List.set_cons_succ]
  refine WE_q 3 rfl (by decide) (by kernel_rfl) rfl ?_; apply Exists.intro; refine ⟨fun w1 hx1 => ?_, ?_⟩
  · have hq1 := hx1.cells; go_simp; try go_bits
    first | with_reducible rfl | (first | (refine (atomsLen_any _ _ _ s _ (HA6.out.later hx1)).mono ?_; rintro e w' ⟨rfl, hx⟩; exact ⟨rfl, hx⟩) | (refine (HNZ.out _ (HF6.out.later hx1)).mono ?_; rintro e w' ⟨rfl, hx⟩; exact ⟨rfl, hx⟩))
  simp only [Act.put, List.setIfInBounds_toArray, List.set_cons_zero, List.set_cons_succ]
  refine WE_q 4 rfl (by decide) (by kernel_rfl) rfl ?_; apply Exists.intro; refine ⟨fun w1 hx1 => ?_, ?_⟩
  · have hq1 := hx1.cells; go_simp; try go_bits
    first | with_reducible rfl | (first | (refine (atomsLen_any _ _ _ s _ (HA6.out.later hx1)).mono ?_; rintro e w' ⟨rfl, hx⟩; exact ⟨rfl, hx⟩) | (refine (HNZ.out _ (HF6.out.later hx1)).mono ?_; rintro e w' ⟨rfl, hx⟩; exact ⟨rfl, hx⟩))
  simp only [Act.put, List.setIfInBounds_toArray, List.set_cons_zero, List.set_cons_succ]
  refine WE_q 5 rfl (by decide) (by kernel_rfl) rfl ?_; apply Exists.intro; refine ⟨fun w1 hx1 => ?_, ?_⟩
  · have hq1 := hx1.cells; go_simp; try go_bits
    first | with_reducible rfl | (first | (refine (atomsLen_any _ _ _ s _ (HA6.out.later hx1)).mono ?_; rintro e w' ⟨rfl, hx⟩; exact ⟨rfl, hx⟩) | (refine (HNZ.out _ (HF6.out.later hx1)).mono ?_; rintro e w' ⟨rfl, hx⟩; exact ⟨rfl, hx⟩))
  simp only [Act.put, List.setIfInBounds_toArray, List.set_cons_zero, List.set_cons_succ]
  refine WE_q 6 rfl (by decide) (by kernel_rfl) rfl ?_; apply Exists.intro; refine ⟨fun w1 hx1 => ?_, ?_⟩
  · have hq1 := hx1.cells; go_simp; try go_bits
    first | with_reducible rfl | (first | (refine (atomsLen_any _ _ _ s _ (HA6.out.later hx1)).mono ?_; rintro e w' ⟨rfl, hx⟩; exact ⟨rfl, hx⟩) | (refine (HNZ.out _ (HF6.out.later hx1)).mono ?_; rintro e w' ⟨rfl, hx⟩; exact ⟨rfl, hx⟩))
  simp only [Act.put, List.setIfInBounds_toArray, List.set_cons_zero, List.set_cons_succ]
  refine WE_q 7 rfl (by decide) (by kernel_rfl) rfl ?_; apply Exists.intro; refine ⟨fun w1 hx1 => ?_, ?_⟩
  · have hq1 := hx1.cells; go_simp; try go_bits
    first | with_reducible rfl | (first | (refine (atomsLen_any _ _ _ s _ (HA6.out.later hx1)).mono ?_; rintro e w' ⟨rfl, hx⟩; exact ⟨rfl, hx⟩) | (refine (HNZ.out _ (HF6.out.later hx1)).mono ?_; rintro e w' ⟨rfl, hx⟩; exact ⟨rfl, hx⟩))
  simp only [Act.put, List.setIfInBounds_toArray, List.set_cons_zero, List.set_cons_succ]
  refine WE_q 8 rfl (by decide) (by kernel_rfl) rfl ?_; apply Exists.intro; refine ⟨fun w1 hx1 => ?_, ?_⟩
  · have hq1 := hx1.cells; go_simp; try go_bits
    first | with_reducible rfl | (first | (refine (atomsLen_any _ _ _ s _ (HA6.out.later hx1)).mono ?_; rintro e w' ⟨rfl, hx⟩; exact ⟨rfl, hx⟩) | (refine (HNZ.out _ (HF6.out.later hx1)).mono ?_; rintro e w' ⟨rfl, hx⟩; exact ⟨rfl, hx⟩))
  simp only [Act.put, List.setIfInBounds_toArray, List.set_cons_zero, List.set_cons_succ]
  refine WE_q 9 rfl (by decide) (by kernel_rfl) rfl ?_; apply Exists.intro; refine ⟨fun w1 hx1 => ?_, ?_⟩
  · have hq1 := hx1.cells; go_simp; try go_bits
    first | with_reducible rfl | (first | (refine (atomsLen_any _ _ _ s _ (HA6.out.later hx1)).mono ?_; rintro e w' ⟨rfl, hx⟩; exact ⟨rfl, hx⟩) | (refine (HNZ.out _ (HF6.out.later hx1)).mono ?_; rintro e w' ⟨rfl, hx⟩; exact ⟨rfl, hx⟩))
  simp only [Act.put, List.setIfInBounds_toArray, List.set_cons_zero, List.set_cons_succ]
  refine WE_q 10 rfl (by decide) (by kernel_rfl) rfl ?_; apply Exists.intro; refine ⟨fun w1 hx1 => ?_, ?_⟩
  · have hq1 := hx1.cells; go_simp; try go_bits
    first | with_reducible rfl | (first | (refine (atomsLen_any _ _ _ s _ (HA6.out.later hx1)).mono ?_; rintro e w' ⟨rfl, hx⟩; exact ⟨rfl, hx⟩) | (refine (HNZ.out _ (HF6.out.later hx1)).mono ?_; rintro e w' ⟨rfl, hx⟩; exact ⟨rfl, hx⟩))
  simp only [Act.put, List.setIfInBounds_toArray, List.set_cons_zero, List.set_cons_succ]
  refine WE_q 11 rfl (by decide) (by kernel_rfl) rfl ?_; apply Exists.intro; refine ⟨fun w1 hx1 => ?_, ?_⟩
  · have hq1 := hx1.cells; go_simp; try go_bits
    first | with_reducible rfl | (first | (refine (atomsLen_any _ _ _ s _ (HA6.out.later hx1)).mono ?_; rintro e w' ⟨rfl, hx⟩; exact ⟨rfl, hx⟩) | (refine (HNZ.out _ (HF6.out.later hx1)).mono ?_; rintro e w' ⟨rfl, hx⟩; exact ⟨rfl, hx⟩))
  simp only [Act.put, List.setIfInBounds_toArray, List.set_cons_zero, List.set_cons_succ]
  refine WE_q 12 rfl (by decide) (by kernel_rfl) rfl ?_; apply Exists.intro; refine ⟨fun w1 hx1 => ?_, ?_⟩
  · have hq1 := hx1.cells; go_simp; try go_bits
    first | with_reducible rfl | (first | (refine (atomsLen_any _ _ _ s _ (HA6.out.later hx1)).mono ?_; rintro e w' ⟨rfl, hx⟩; exact ⟨rfl, hx⟩) | (refine (HNZ.out _ (HF6.out.later hx1)).mono ?_; rintro e w' ⟨rfl, hx⟩; exact ⟨rfl, hx⟩))
  simp only [Act.put, List.setIfInBounds_toArray, List.set_cons_zero, List.set_cons_succ]
  refine WE_q 13 rfl (by decide) (by kernel_rfl) rfl ?_; apply Exists.intro; refine ⟨fun w1 hx1 => ?_, ?_⟩
  · have hq1 := hx1.cells; go_simp; try go_bits
    first | with_reducible rfl | (first | (refine (atomsLen_any _ _ _ s _ (HA6.out.later hx1)).mono ?_; rintro e w' ⟨rfl, hx⟩; exact ⟨rfl, hx⟩) | (refine (HNZ.out _ (HF6.out.later hx1)).mono ?_; rintro e w' ⟨rfl, hx⟩; exact ⟨rfl, hx⟩))
  simp only [Act.put, List.setIfInBounds_toArray, List.set_cons_zero, List.set_cons_succ]
  refine WE_q 14 rfl (by decide) (by kernel_rfl) rfl ?_; apply Exists.intro; refine ⟨fun w1 hx1 => ?_, ?_⟩
  · have hq1 := hx1.cells; go_simp; try go_bits
    first | with_reducible rfl | (first | (refine (atomsLen_any _ _ _ s _ (HA6.out.later hx1)).mono ?_; rintro e w' ⟨rfl, hx⟩; exact ⟨rfl, hx⟩) | (refine (HNZ.out _ (HF6.out.later hx1)).mono ?_; rintro e w' ⟨rfl, hx⟩; exact ⟨rfl, hx⟩))
  simp only [Act.put, List.setIfInBounds_toArray, List.set_cons_zero, List.set_cons_succ]
  refine WE_q 15 rfl (by decide) (by kernel_rfl) rfl ?_; apply Exists.intro; refine ⟨fun w1 hx1 => ?_, ?_⟩
  · have hq1 := hx1.cells; go_simp; try go_bits
    first | with_reducible rfl | (first | (refine (atomsLen_any _ _ _ s _ (HA6.out.later hx1)).mono ?_; rintro e w' ⟨rfl, hx⟩; exact ⟨rfl, hx⟩) | (refine (HNZ.out _ (HF6.out.later hx1)).mono ?_; rintro e w' ⟨rfl, hx⟩; exact ⟨rfl, hx⟩))
  simp only [Act.put, List.setIfInBounds_toArray, List.set_cons_zero, List.set_cons_succ]
  refine WE_q 16 rfl (by decide) (by kernel_rfl) rfl ?_; apply Exists.intro; refine ⟨fun w1 hx1 => ?_, ?_⟩
  · have hq1 := hx1.cells; go_simp; try go_bits
    first | with_reducible rfl | (first | (refine (atomsLen_any _ _ _ s _ (HA6.out.later hx1)).mono ?_; rintro e w' ⟨rfl, hx⟩; exact ⟨rfl, hx⟩) | (refine (HNZ.out _ (HF6.out.later hx1)).mono ?_; rintro e w' ⟨rfl, hx⟩; exact ⟨rfl, hx⟩))
  simp only [Act.put, List.setIfInBounds_toArray, List.set_cons_zero, List.set_cons_succ]
  refine WE_q 17 rfl (by decide) (by kernel_rfl) rfl ?_; apply Exists.intro; refine ⟨fun w1 hx1 => ?_, ?_⟩
  · have hq1 := hx1.cells; go_simp; try go_bits
    first | with_reducible rfl | (first | (refine (atomsLen_any _ _ _ s _ (HA6.out.later hx1)).mono ?_; rintro e w' ⟨rfl, hx⟩; exact ⟨rfl, hx⟩) | (refine (HNZ.out _ (HF6.out.later hx1)).mono ?_; rintro e w' ⟨rfl, hx⟩; exact ⟨rfl, hx⟩))
  simp only [Act.put, List.setIfInBounds_toArray, List.set_cons_zero, List.set_cons_succ]
  refine WE_q 18 rfl (by decide) (by kernel_rfl) rfl ?_; apply Exists.intro; refine ⟨fun w1 hx1 => ?_, ?_⟩
  · have hq1 := hx1.cells; go_simp; try go_bits
    first | with_reducible rfl | (first | (refine (atomsLen_any _ _ _ s _ (HA6.out.later hx1)).mono ?_; rintro e w' ⟨rfl, hx⟩; exact ⟨rfl, hx⟩) | (refine (HNZ.out _ (HF6.out.later hx1)).mono ?_; rintro e w' ⟨rfl, hx⟩; exact ⟨rfl, hx⟩))
  simp only [Act.put, List.setIfInBounds_toArray, List.set_cons_zero, List.set_cons_succ]
  refine WE_q 19 rfl (by decide) (by kernel_rfl) rfl ?_; apply Exists.intro; refine ⟨fun w1 hx1 => ?_, ?_⟩
  · have hq1 := hx1.cells; go_simp; try go_bits
    first | with_reducible rfl | (first | (refine (atomsLen_any _ _ _ s _ (HA6.out.later hx1)).mono ?_; rintro e w' ⟨rfl, hx⟩; exact ⟨rfl, hx⟩) | (refine (HNZ.out _ (HF6.out.later hx1)).mono ?_; rintro e w' ⟨rfl, hx⟩; exact ⟨rfl, hx⟩))
  simp only [Act.put, List.setIfInBounds_toArray, List.set_cons_zero, List.set_cons_succ]
  refine WE_q 20 rfl (by decide) (by kernel_rfl) rfl ?_; apply Exists.intro; refine ⟨fun w1 hx1 => ?_, ?_⟩
  · have hq1 := hx1.cells; go_simp; try go_bits
    first | with_reducible rfl | (first | (refine (atomsLen_any _ _ _ s _ (HA6.out.later hx1)).mono ?_; rintro e w' ⟨rfl, hx⟩; exact ⟨rfl, hx⟩) | (refine (HNZ.out _ (HF6.out.later hx1)).mono ?_; rintro e w' ⟨rfl, hx⟩; exact ⟨rfl, hx⟩))
  simp only [Act.put, List.setIfInBounds_toArray, List.set_cons_zero, List.set_cons_succ]
  refine WE_q 21 rfl (by decide) (by kernel_rfl) rfl ?_; apply Exists.intro; refine ⟨fun w1 hx1 => ?_, ?_⟩
  · have hq1 := hx1.cells; go_simp; try go_bits
    first | with_reducible rfl | (first | (refine (atomsLen_any _ _ _ s _ (HA6.out.later hx1)).mono ?_; rintro e w' ⟨rfl, hx⟩; exact ⟨rfl, hx⟩) | (refine (HNZ.out _ (HF6.out.later hx1)).mono ?_; rintro e w' ⟨rfl, hx⟩; exact ⟨rfl, hx⟩))
  simp only [Act.put, List.setIfInBounds_toArray, List.set_cons_zero, List.set_cons_succ]
  refine WE_q 22 rfl (by decide) (by kernel_rfl) rfl ?_; apply Exists.intro; refine ⟨fun w1 hx1 => ?_, ?_⟩
  · have hq1 := hx1.cells; go_simp; try go_bits
    first | with_reducible rfl | (first | (refine (atomsLen_any _ _ _ s _ (HA6.out.later hx1)).mono ?_; rintro e w' ⟨rfl, hx⟩; exact ⟨rfl, hx⟩) | (refine (HNZ.out _ (HF6.out.later hx1)).mono ?_; rintro e w' ⟨rfl, hx⟩; exact ⟨rfl, hx⟩))
  simp only [Act.put, List.setIfInBounds_toArray, List.set_cons_zero, List.set_cons_succ]
  refine WE_q 23 rfl (by decide) (by kernel_rfl) rfl ?_; apply Exists.intro; refine ⟨fun w1 hx1 => ?_, ?_⟩
  · have hq1 := hx1.cells; go_simp; try go_bits
    first | with_reducible rfl | (first | (refine (atomsLen_any _ _ _ s _ (HA6.out.later hx1)).mono ?_; rintro e w' ⟨rfl, hx⟩; exact ⟨rfl, hx⟩) | (refine (HNZ.out _ (HF6.out.later hx1)).mono ?_; rintro e w' ⟨rfl, hx⟩; exact ⟨rfl, hx⟩))
  simp only [Act.put, List.setIfInBounds_toArray, List.set_cons_zero, List.set_cons_succ]
  refine WE_q 24 rfl (by decide) (by kernel_rfl) rfl ?_; apply Exists.intro; refine ⟨fun w1 hx1 => ?_, ?_⟩
  · have hq1 := hx1.cells; go_simp; try go_bits
    first | with_reducible rfl | (first | (refine (atomsLen_any _ _ _ s _ (HA6.out.later hx1)).mono ?_; rintro e w' ⟨rfl, hx⟩; exact ⟨rfl, hx⟩) | (refine (HNZ.out _ (HF6.out.later hx1)).mono ?_; rintro e w' ⟨rfl, hx⟩; exact ⟨rfl, hx⟩))
  simp only [Act.put, List.setIfInBounds_toArray, List.set_cons_zero, List.set_cons_succ]
  refine WE_q 25 rfl (by decide) (by kernel_rfl) rfl ?_; apply Exists.intro; refine ⟨fun w1 hx1 => ?_, ?_⟩
  · have hq1 := hx1.cells; go_simp; try go_bits
    first | with_reducible rfl | (first | (refine (atomsLen_any _ _ _ s _ (HA6.out.later hx1)).mono ?_; rintro e w' ⟨rfl, hx⟩; exact ⟨rfl, hx⟩) | (refine (HNZ.out _ (HF6.out.later hx1)).mono ?_; rintro e w' ⟨rfl, hx⟩; exact ⟨rfl, hx⟩))
  simp only [Act.put, List.setIfInBounds_toArray, List.set_cons_zero, List.set_cons_succ]
  refine WE_q 26 rfl (by decide) (by kernel_rfl) rfl ?_; apply Exists.intro; refine ⟨fun w1 hx1 => ?_, ?_⟩
  · have hq1 := hx1.cells; go_simp; try go_bits
    first | with_reducible rfl | (first | (refine (atomsLen_any _ _ _ s _ (HA6.out.later hx1)).mono ?_; rintro e w' ⟨rfl, hx⟩; exact ⟨rfl, hx⟩) | (refine (HNZ.out _ (HF6.out.later hx1)).mono ?_; rintro e w' ⟨rfl, hx⟩; exact ⟨rfl, hx⟩))
  simp only [Act.put, List.setIfInBounds_toArray, List.set_cons_zero, List.set_cons_succ]
  refine WE_q 27 rfl (by decide) (by kernel_rfl) rfl ?_; apply Exists.intro; refine ⟨fun w1 hx1 => ?_, ?_⟩
  · have hq1 := hx1.cells; go_simp; try go_bits
    first | with_reducible rfl | (first | (refine (atomsLen_any _ _ _ s _ (HA6.out.later hx1)).mono ?_; rintro e w' ⟨rfl, hx⟩; exact ⟨rfl, hx⟩) | (refine (HNZ.out _ (HF6.out.later hx1)).mono ?_; rintro e w' ⟨rfl, hx⟩; exact ⟨rfl, hx⟩))
  simp only [Act.put, List.setIfInBounds_toArray, List.set_cons_zero, List.set_cons_succ]
  refine WE_q 28 rfl (by decide) (by kernel_rfl) rfl ?_; apply Exists.intro; refine ⟨fun w1 hx1 => ?_, ?_⟩
  · have hq1 := hx1.cells; go_simp; try go_bits
    first | with_reducible rfl | (first | (refine (atomsLen_any _ _ _ s _ (HA6.out.later hx1)).mono ?_; rintro e w' ⟨rfl, hx⟩; exact ⟨rfl, hx⟩) | (refine (HNZ.out _ (HF6.out.later hx1)).mono ?_; rintro e w' ⟨rfl, hx⟩; exact ⟨rfl, hx⟩))
  simp only [Act.put, List.setIfInBounds_toArray, List.set_cons_zero, List.set_cons_succ]
  refine WE_q 29 rfl (by decide) (by kernel_rfl) rfl ?_; apply Exists.intro; refine ⟨fun w1 hx1 => ?_, ?_⟩
  · have hq1 := hx1.cells; go_simp; try go_bits
    first | with_reducible rfl | (first | (refine (atomsLen_any _ _ _ s _ (HA6.out.later hx1)).mono ?_; rintro e w' ⟨rfl, hx⟩; exact ⟨rfl, hx⟩) | (refine (HNZ.out _ (HF6.out.later hx1)).mono ?_; rintro e w' ⟨rfl, hx⟩; exact ⟨rfl, hx⟩))
  simp only [Act.put, List.setIfInBounds_toArray, List.set_cons_zero, List.set_cons_succ]
  refine WE_q 30 rfl (by decide) (by kernel_rfl) rfl ?_; apply Exists.intro; refine ⟨fun w1 hx1 => ?_, ?_⟩
  · have hq1 := hx1.cells; go_simp; try go_bits
    first | with_reducible rfl | (first | (refine (atomsLen_any _ _ _ s _ (HA6.out.later hx1)).mono ?_; rintro e w' ⟨rfl, hx⟩; exact ⟨rfl, hx⟩) | (refine (HNZ.out _ (HF6.out.later hx1)).mono ?_; rintro e w' ⟨rfl, hx⟩; exact ⟨rfl, hx⟩))
  simp only [Act.put, List.setIfInBounds_toArray, List.set_cons_zero, List.set_cons_succ]
  refine WE_q 31 rfl (by decide) (by kernel_rfl) rfl ?_; apply Exists.intro; refine ⟨fun w1 hx1 => ?_, ?_⟩
  · have hq1 := hx1.cells; go_simp; try go_bits
    first | with_reducible rfl | (first | (refine (atomsLen_any _ _ _ s _ (HA6.out.later hx1)).mono ?_; rintro e w' ⟨rfl, hx⟩; exact ⟨rfl, hx⟩) | (refine (HNZ.out _ (HF6.out.later hx1)).mono ?_; rintro e w' ⟨rfl, hx⟩; exact ⟨rfl, hx⟩))
  simp only [Act.put, List.setIfInBounds_toArray, List.set_cons_zero, List.set_cons_succ]
  refine WE_q 32 rfl (by decide) (by kernel_rfl) rfl ?_; apply Exists.intro; refine ⟨fun w1 hx1 => ?_, ?_⟩
  · have hq1 := hx1.cells; go_simp; try go_bits
    first | with_reducible rfl | (first | (refine (atomsLen_any _ _ _ s _ (HA6.out.later hx1)).mono ?_; rintro e w' ⟨rfl, hx⟩; exact ⟨rfl, hx⟩) | (refine (HNZ.out _ (HF6.out.later hx1)).mono ?_; rintro e w' ⟨rfl, hx⟩; exact ⟨rfl, hx⟩))
  simp only [Act.put, List.setIfInBounds_toArray, List.set_cons_zero, List.set_cons_succ]
  refine WE_q 33 rfl (by decide) (by kernel_rfl) rfl ?_; apply Exists.intro; refine ⟨fun w1 hx1 => ?_, ?_⟩
  · have hq1 := hx1.cells; go_simp; try go_bits
    first | with_reducible rfl | (first | (refine (atomsLen_any _ _ _ s _ (HA6.out.later hx1)).mono ?_; rintro e w' ⟨rfl, hx⟩; exact ⟨rfl, hx⟩) | (refine (HNZ.out _ (HF6.out.later hx1)).mono ?_; rintro e w' ⟨rfl, hx⟩; exact ⟨rfl, hx⟩))
  simp only [Act.put, List.setIfInBounds_toArray, List.set_cons_zero, List.set_cons_succ]
  refine WE_q 34 rfl (by decide) (by kernel_rfl) rfl ?_; apply Exists.intro; refine ⟨fun w1 hx1 => ?_, ?_⟩
  · have hq1 := hx1.cells; go_simp; try go_bits
    first | with_reducible rfl | (first | (refine (atomsLen_any _ _ _ s _ (HA6.out.later hx1)).mono ?_; rintro e w' ⟨rfl, hx⟩; exact ⟨rfl, hx⟩) | (refine (HNZ.out _ (HF6.out.later hx1)).mono ?_; rintro e w' ⟨rfl, hx⟩; exact ⟨rfl, hx⟩))
  simp only [Act.put, List.setIfInBounds_toArray, List.set_cons_zero, List.set_cons_succ]
  refine WE_done (by kernel_rfl) (fun w7 hx7 => ?_)
  (try simp only [List.drop_succ_cons, List.drop_zero])
  clear k1 k2 hbc6 hkc6 hgt hwl
  have HA7 := Lib.hid (HA6.out.later hx7)
  have HK7 := Lib.hid (HK6.out.later hx7)
  have HX7 := Lib.hid (HX6.out.trans hx7)
  clear hx7 HA6 HK6 HF6 HB6 HX6 HNZ hz hzl
  obtain ⟨xh, xhc, hhe, h1, h2, h3⟩ := HA7.out.wh.form
  have H3 := Lib.hid h3
  simp only [Value.slice.injEq, true_and] at hhe
  obtain ⟨rfl, rfl⟩ := hhe
  unfold maxLen at h2
  obtain ⟨xv, xvc, hve, v1, v2, v3⟩ := HA7.out.vs.form
  have V3 := Lib.hid v3
  simp only [Value.slice.injEq, true_and] at hve
  obtain ⟨rfl, rfl⟩ := hve
  unfold maxLen at v2
  clear h3 v3
  go_wp2_with fail
  go_loopw [7, 8, 9] (fun most next i wr => ∃ k : Nat, k ≤ s.fr.length ∧ i = I k ∧ most = I (mxW (s.wh.take k)) ∧ next = I (nxt s.fr k) ∧ Hid (Ext w7 wr)) (fun _ _ i _ => s.fr.length - (intOf i).toNat)
  case atStart =>
    refine ⟨0, by omega, rfl, rfl, ?_, Ext.refl _⟩
    have h0 := nxt_at (l := s.fr) (k := 0) HLP.out
    have h1 := HIT.out.zero
    rw [List.getElem?_eq_getElem HLP.out] at h1
    rw [h0, Option.some.inj h1]; rfl
  case round =>
    obtain ⟨k, hk, rfl, rfl, rfl, HX⟩ := hrel
    have HAr := Lib.hid (HA7.out.later HX.out)
    have HKr := Lib.hid (HK7.out.later HX.out)
    have hkr := HKr.out.cells
    by_cases hlt : k < s.fr.length
    · have hkd : decide ((k : Int) < (s.fr.length : Int)) = true := decide_eq_true (by omega)
      have hkw : k < s.wh.length := by have := HWL.out; omega
      have HXG := Lib.hid (show s.wh[k]? = some s.wh[k] from List.getElem?_eq_getElem hkw)
      have HXB := Lib.hid (HOKS.out.wh _ (List.getElem_mem hkw))
      have HXO := Lib.hid (HIT.out.inv.ord k _ HXG.out)
      have HXD := Lib.hid (fun (j : Nat) (y : Int) (hj : j + 1 = k) (hy : s.wh[j]? = some y) => HIT.out.inv.diff j y hy)
      have HMS := Lib.hid (show mxW (s.wh.take (k + 1)) = max (mxW (s.wh.take k)) s.wh[k] by rw [List.take_succ_eq_append_getElem hkw, mxW_snoc])
      have HMB := Lib.hid (show -1 ≤ mxW (s.wh.take k) ∧ mxW (s.wh.take k) ≤ 100000 from mxW_bd (fun x hx => by have := (HOKS.out.wh x (List.mem_of_mem_take hx)).2; have := HVN.out; omega))
      have HNA := Lib.hid (nxt_at hlt)
      have HNS2 := Lib.hid (nxt_step HIT.out.rise (k := k))
      have HEB := Lib.hid (uv_bd (endV s.fr k))
      obtain ⟨b0, o0, he0, p0⟩ := H3.out k _ HXG.out
      subst he0
      have HE := Lib.hid (show ∀ W, AtomsAt W (.slice fa s.fr.length fc) (.slice (some ⟨b0, o0, none⟩) s.wh.length hc) (.slice ya s.vs.length yc) s → Calls Try.prog 33 #[.agg #[.slice fa s.fr.length fc, .slice (some ⟨b0, o0, none⟩) s.wh.length hc, .slice ya s.vs.length yc], I k] W fun e w' => e = .returned (.tuple #[U s.fr[k], U (endV s.fr k), .bool true]) ∧ Ext W w' from fun W hW =>
        atomsEnds_any _ _ _ s _ W hW _ (fun W' hW' => (cutsEnds_any _ s.fr k W' hW' hlt).mono fun e w' ⟨g1, g2⟩ => ⟨g1, by rw [g2]; exact Ext.refl _⟩) ⟨_, _, _, rfl⟩)
      have HJ := Lib.hid (show (k = 0) ∨ (∃ (j : Nat) (y : Int), j + 1 = k ∧ (w7.cell? ⟨b0, o0 + j, none⟩ = some (I y)) ∧ s.wh[k] ≠ y) from by
        rcases Nat.eq_zero_or_pos k with g | g
        · exact .inl g
        · refine .inr ⟨k - 1, s.wh[k - 1], by omega, ?_, ?_⟩
          · obtain ⟨b1, o1, he1, p1⟩ := H3.out (k - 1) _ (List.getElem?_eq_getElem (by omega))
            simp only [Option.some.injEq, Addr.mk.injEq, and_true] at he1
            obtain ⟨rfl, rfl⟩ := he1
            exact p1
          · intro e
            have h := HXD.out (k - 1) _ (by omega) (List.getElem?_eq_getElem (by omega))
            rw [show k - 1 + 1 = k by omega, HXG.out, e] at h
            exact h rfl)
      replace p0 := HX.out.cell p0
      have hxb := HXB.out
      have hxo := HXO.out
      have hmb := HMB.out
      have hvn := HVN.out
      have heb := HEB.out
      rw [HNA.out]
      clear HXG HXB HXO HXD
      generalize s.fr[k] = lo at *
      generalize hhi : endV s.fr k = hi at *
      generalize mxW (s.wh.take k) = m at *
      generalize s.wh[k] = x at *
      have t1 : decide (x < 0) = false := decide_eq_false (by omega)
      have t2 : decide ((s.vs.length : Int) ≤ x) = false := decide_eq_false (by omega)
      have t3 : decide (m + 1 < x) = false := decide_eq_false (by omega)
      have t4 : (uv lo != uv lo) = false := by simp
      have W1 := Lib.hid p0
      rcases HJ.out with hk0 | ⟨j, y, hjk, q0, hne⟩
      case' inl =>
        have t5 : decide ((0 : Int) < (k : Int)) = false := decide_eq_false (by omega)
        have t5n : decide (0 < k) = false := decide_eq_false (by omega)
        have HJK := Lib.hid hk0
        clear hk0
      case' inr =>
        have t5 : decide ((0 : Int) < (k : Int)) = true := decide_eq_true (by omega)
        have hsub : (k : Int) - 1 = (j : Int) := by omega
        have hwj : IntKind.i64.wrap (j : Int) = (j : Int) := by rw [IntKind.wrap_i64]; omega
        have hjl : j < s.wh.length := by omega
        have t6 : (x == y) = false := beq_false_of_ne hne
        replace q0 := HX.out.cell q0
        have HJK := Lib.hid hjk
        have W2 := Lib.hid q0
        clear hjk hne
      all_goals
        go_wp2_with (first
          | (go_at_call 31; (with_reducible refine (atomsLen_any _ _ _ s _ HAr.out).mono ?_); rintro e w8 ⟨he, hx8⟩; subst he; have HX8 := Lib.hid hx8; replace p0 := hx8.cell W1.out; have hk8 := (HKr.out.later hx8).cells; have HA8 := Lib.hid (HAr.out.later hx8); clear hx8)
          | (go_at_call 33; (with_reducible refine (HE.out _ HA8.out).mono ?_); rintro e w9 ⟨he, hx9⟩; subst he; have HX9 := Lib.hid (HX8.out.trans hx9); have hk9 := (HKr.out.later HX9.out).cells; try replace q0 := HX9.out.cell W2.out; clear hx9))
        go_roundw
        case rel => exact ⟨k + 1, by omega, by go_num, by rw [HMS.out], by rw [HNS2.out], HX.out.trans HX9.out⟩
        case measure => simp [intOf]; omega
    · have hkd : decide ((k : Int) < (s.fr.length : Int)) = false := decide_eq_false (by omega)
      have hkn : decide (k < s.fr.length) = false := decide_eq_false hlt
      have HM1 := Lib.hid (show mxW (s.wh.take k) = (s.vs.length : Int) - 1 by rw [List.take_of_length_le (by have := HWL.out; omega)]; exact HIT.out.inv.mx)
      have HN1 := Lib.hid (show nxt s.fr k = 4294967296 by unfold nxt; rw [dif_neg hlt])
      have HND := Lib.hid HOKS.out.nodup
      rw [HM1.out, HN1.out]
      have hvn := HVN.out
      go_wp2_with (first
        | (go_at_call 31; (with_reducible refine (atomsLen_any _ _ _ s _ HAr.out).mono ?_); rintro e w8 ⟨he, hx8⟩; subst he; have HX8 := Lib.hid (HX.out.trans hx8); have HA8 := Lib.hid (HAr.out.later hx8); have HK8 := Lib.hid (HKr.out.later hx8); have hk8 := HK8.out.cells; clear hx8))
      go_loopw [14] (fun i wr => ∃ k : Nat, k ≤ s.vs.length ∧ i = I k ∧ Hid (Ext w8 wr)) (fun i _ => s.vs.length - (intOf i).toNat)
      case atStart => exact ⟨0, by omega, rfl, Ext.refl _⟩
      case round =>
        obtain ⟨i, hi, rfl, HXI⟩ := hrel
        have HKI := Lib.hid (HK8.out.later HXI.out)
        have hki := HKI.out.cells
        by_cases hil : i < s.vs.length
        · have hid : decide ((i : Int) < (s.vs.length : Int)) = true := decide_eq_true (by omega)
          go_wp2_with fail
          go_loopw [15] (fun q wr => ∃ k : Nat, k ≤ i ∧ q = I k ∧ Hid (Ext w8 wr)) (fun q _ => i - (intOf q).toNat)
          case atStart => exact ⟨0, by omega, rfl, HXI.out⟩
          case round =>
            obtain ⟨q, hq, rfl, HXQ⟩ := hrel
            by_cases hql : q < i
            · have hqd : decide ((q : Int) < (i : Int)) = true := decide_eq_true (by omega)
              have hqs : q < s.vs.length := by omega
              have HXX := Lib.hid (HX8.out.trans HXQ.out)
              obtain ⟨b1, o1, u1, he1, p1, hu1⟩ := V3.out i _ (List.getElem?_eq_getElem hil)
              subst he1
              obtain ⟨b2, o2, u2, he2, p2, hu2⟩ := V3.out q _ (List.getElem?_eq_getElem hqs)
              simp only [Option.some.injEq, Addr.mk.injEq, and_true] at he2
              obtain ⟨rfl, rfl⟩ := he2
              have HU1 := Lib.hid (hu1.later HXX.out)
              have HU2 := Lib.hid (hu2.later HXX.out)
              have P1 := Lib.hid (HXX.out.cell p1)
              have P2 := Lib.hid (HXX.out.cell p2)
              have HNE := Lib.hid (show (cmpL s.vs[i] s.vs[q] == 0) = false from beq_false_of_ne fun e => by
                have h := cmpL_zero.1 e
                have := (List.getElem_inj HND.out).1 h
                omega)
              obtain ⟨ya1, yc1, hyv, -⟩ := HU1.out.form
              obtain ⟨ya2, yc2, hyv2, -⟩ := HU2.out.form
              clear hu1 hu2 p1 p2
              subst hyv hyv2
              generalize s.vs[i] = Z1 at *
              generalize s.vs[q] = Z2 at *
              have HKQ := Lib.hid (HK8.out.later HXQ.out)
              have hne := HNE.out
              go_wp2_with fail
              refine wp_region_E 11 rfl (by kernel_rfl) (by kernel_rfl) ?_
              have k1 := HKQ.out.keep
              have k2 := Ext.keep P1.out
              have k3 := Ext.keep P2.out
              refine WE_q 0 rfl (by decide) (by kernel_rfl) rfl ?_; apply Exists.intro; refine ⟨fun w1 hx1 => ?_, ?_⟩
              · have hq1 := hx1.cells; go_simp; try go_bits
                first | with_reducible rfl | (refine (vecCompare_any _ _ Z1 Z2 _ (HU1.out.later hx1) (HU2.out.later hx1)).mono ?_; rintro e w' ⟨rfl, hx⟩; exact ⟨rfl, hx⟩)
              simp only [Act.put, List.setIfInBounds_toArray, List.set_cons_zero, List.set_cons_succ]
              refine WE_q 1 rfl (by decide) (by kernel_rfl) rfl ?_; apply Exists.intro; refine ⟨fun w1 hx1 => ?_, ?_⟩
              · have hq1 := hx1.cells; go_simp; try go_bits
                first | with_reducible rfl | (refine (vecCompare_any _ _ Z1 Z2 _ (HU1.out.later hx1) (HU2.out.later hx1)).mono ?_; rintro e w' ⟨rfl, hx⟩; exact ⟨rfl, hx⟩)
              simp only [Act.put, List.setIfInBounds_toArray, List.set_cons_zero, List.set_cons_succ]
              refine WE_q 2 rfl (by decide) (by kernel_rfl) rfl ?_; apply Exists.intro; refine ⟨fun w1 hx1 => ?_, ?_⟩
              · have hq1 := hx1.cells; go_simp; try go_bits
                first | with_reducible rfl | (refine (vecCompare_any _ _ Z1 Z2 _ (HU1.out.later hx1) (HU2.out.later hx1)).mono ?_; rintro e w' ⟨rfl, hx⟩; exact ⟨rfl, hx⟩)
              simp only [Act.put, List.setIfInBounds_toArray, List.set_cons_zero, List.set_cons_succ]
              refine WE_q 3 rfl (by decide) (by kernel_rfl) rfl ?_; apply Exists.intro; refine ⟨fun w1 hx1 => ?_, ?_⟩
              · have hq1 := hx1.cells; go_simp; try go_bits
                first | with_reducible rfl | (refine (vecCompare_any _ _ Z1 Z2 _ (HU1.out.later hx1) (HU2.out.later hx1)).mono ?_; rintro e w' ⟨rfl, hx⟩; exact ⟨rfl, hx⟩)
              simp only [Act.put, List.setIfInBounds_toArray, List.set_cons_zero, List.set_cons_succ]
              refine WE_q 4 rfl (by decide) (by kernel_rfl) rfl ?_; apply Exists.intro; refine ⟨fun w1 hx1 => ?_, ?_⟩
              · have hq1 := hx1.cells; go_simp; try go_bits
                first | with_reducible rfl | (refine (vecCompare_any _ _ Z1 Z2 _ (HU1.out.later hx1) (HU2.out.later hx1)).mono ?_; rintro e w' ⟨rfl, hx⟩; exact ⟨rfl, hx⟩)
              simp only [Act.put, List.setIfInBounds_toArray, List.set_cons_zero, List.set_cons_succ]
              refine WE_q 5 rfl (by decide) (by kernel_rfl) rfl ?_; apply Exists.intro; refine ⟨fun w1 hx1 => ?_, ?_⟩
              · have hq1 := hx1.cells; go_simp; try go_bits
                first | with_reducible rfl | (refine (vecCompare_any _ _ Z1 Z2 _ (HU1.out.later hx1) (HU2.out.later hx1)).mono ?_; rintro e w' ⟨rfl, hx⟩; exact ⟨rfl, hx⟩)
              simp only [Act.put, List.setIfInBounds_toArray, List.set_cons_zero, List.set_cons_succ]
              refine WE_q 6 rfl (by decide) (by kernel_rfl) rfl ?_; apply Exists.intro; refine ⟨fun w1 hx1 => ?_, ?_⟩
              · have hq1 := hx1.cells; go_simp; try go_bits
                first | with_reducible rfl | (refine (vecCompare_any _ _ Z1 Z2 _ (HU1.out.later hx1) (HU2.out.later hx1)).mono ?_; rintro e w' ⟨rfl, hx⟩; exact ⟨rfl, hx⟩)
              simp only [Act.put, List.setIfInBounds_toArray, List.set_cons_zero, List.set_cons_succ]
              refine WE_q 7 rfl (by decide) (by kernel_rfl) rfl ?_; apply Exists.intro; refine ⟨fun w1 hx1 => ?_, ?_⟩
              · have hq1 := hx1.cells; go_simp; try go_bits
                first | with_reducible rfl | (refine (vecCompare_any _ _ Z1 Z2 _ (HU1.out.later hx1) (HU2.out.later hx1)).mono ?_; rintro e w' ⟨rfl, hx⟩; exact ⟨rfl, hx⟩)
              simp only [Act.put, List.setIfInBounds_toArray, List.set_cons_zero, List.set_cons_succ]
              refine WE_q 8 rfl (by decide) (by kernel_rfl) rfl ?_; apply Exists.intro; refine ⟨fun w1 hx1 => ?_, ?_⟩
              · have hq1 := hx1.cells; go_simp; try go_bits
                first | with_reducible rfl | (refine (vecCompare_any _ _ Z1 Z2 _ (HU1.out.later hx1) (HU2.out.later hx1)).mono ?_; rintro e w' ⟨rfl, hx⟩; exact ⟨rfl, hx⟩)
              simp only [Act.put, List.setIfInBounds_toArray, List.set_cons_zero, List.set_cons_succ]
              refine WE_q 9 rfl (by decide) (by kernel_rfl) rfl ?_; apply Exists.intro; refine ⟨fun w1 hx1 => ?_, ?_⟩
              · have hq1 := hx1.cells; go_simp; try go_bits
                first | with_reducible rfl | (refine (vecCompare_any _ _ Z1 Z2 _ (HU1.out.later hx1) (HU2.out.later hx1)).mono ?_; rintro e w' ⟨rfl, hx⟩; exact ⟨rfl, hx⟩)
              simp only [Act.put, List.setIfInBounds_toArray, List.set_cons_zero, List.set_cons_succ]
              refine WE_q 10 rfl (by decide) (by kernel_rfl) rfl ?_; apply Exists.intro; refine ⟨fun w1 hx1 => ?_, ?_⟩
              · have hq1 := hx1.cells; go_simp; try go_bits
                first | with_reducible rfl | (refine (vecCompare_any _ _ Z1 Z2 _ (HU1.out.later hx1) (HU2.out.later hx1)).mono ?_; rintro e w' ⟨rfl, hx⟩; exact ⟨rfl, hx⟩)
              simp only [Act.put, List.setIfInBounds_toArray, List.set_cons_zero, List.set_cons_succ]
              refine WE_done (by kernel_rfl) (fun w9 hx9 => ?_)
              (try simp only [List.drop_succ_cons, List.drop_zero])
              clear k1 k2 k3
              have HX9 := Lib.hid (HXQ.out.trans hx9)
              clear hx9
              go_wp2_with fail
              go_roundw
              case rel => exact ⟨q + 1, by omega, by go_num, HX9.out⟩
              case measure => simp [intOf]; omega
            · have hqd : decide ((q : Int) < (i : Int)) = false := decide_eq_false (by omega)
              have hqn : decide (q < i) = false := decide_eq_false hql
              go_wp2_with fail
              go_roundw
              case rel => exact ⟨i + 1, by omega, by go_num, HXQ.out⟩
              case measure => simp [intOf]; omega
        · have hid : decide ((i : Int) < (s.vs.length : Int)) = false := decide_eq_false (by omega)
          have hin : decide (i < s.vs.length) = false := decide_eq_false hil
          have HAI := Lib.hid (HA8.out.later HXI.out)
          go_upto_region 25 with (fail)
          refine wp_region_E 10 rfl (by kernel_rfl) (by kernel_rfl) ?_
          have k1 := HKI.out.keep
          refine WE_q 0 rfl (by decide) (by kernel_rfl) rfl ?_; apply Exists.intro; refine ⟨fun w1 hx1 => ?_, ?_⟩
          · have hq1 := hx1.cells; go_simp; try go_bits
            first | with_reducible rfl | (first | (refine (atomsLen_any _ _ _ s _ (HAI.out.later hx1)).mono ?_; rintro e w' ⟨rfl, hx⟩; exact ⟨rfl, hx⟩) | (refine (atomsEnds_any _ _ _ s _ _ (HAI.out.later hx1) (.tuple #[U 0#32, U 0#32, .bool false]) (fun W' hW' => (cutsEnds_out _ s.fr (s.fr.length : Nat) W' hW' (.inr (Int.le_refl _))).mono fun e w' ⟨g1, g2⟩ => ⟨g1, by rw [g2]; exact Ext.refl _⟩) ⟨_, _, _, rfl⟩).mono ?_; rintro e w' ⟨rfl, hx⟩; exact ⟨rfl, hx⟩))
          simp only [Act.put, List.setIfInBounds_toArray, List.set_cons_zero, List.set_cons_succ]
          refine WE_q 1 rfl (by decide) (by kernel_rfl) rfl ?_; apply Exists.intro; refine ⟨fun w1 hx1 => ?_, ?_⟩
          · have hq1 := hx1.cells; go_simp; try go_bits
            first | with_reducible rfl | (first | (refine (atomsLen_any _ _ _ s _ (HAI.out.later hx1)).mono ?_; rintro e w' ⟨rfl, hx⟩; exact ⟨rfl, hx⟩) | (refine (atomsEnds_any _ _ _ s _ _ (HAI.out.later hx1) (.tuple #[U 0#32, U 0#32, .bool false]) (fun W' hW' => (cutsEnds_out _ s.fr (s.fr.length : Nat) W' hW' (.inr (Int.le_refl _))).mono fun e w' ⟨g1, g2⟩ => ⟨g1, by rw [g2]; exact Ext.refl _⟩) ⟨_, _, _, rfl⟩).mono ?_; rintro e w' ⟨rfl, hx⟩; exact ⟨rfl, hx⟩))
          simp only [Act.put, List.setIfInBounds_toArray, List.set_cons_zero, List.set_cons_succ]
          refine WE_q 2 rfl (by decide) (by kernel_rfl) rfl ?_; apply Exists.intro; refine ⟨fun w1 hx1 => ?_, ?_⟩
          · have hq1 := hx1.cells; go_simp; try go_bits
            first | with_reducible rfl | (first | (refine (atomsLen_any _ _ _ s _ (HAI.out.later hx1)).mono ?_; rintro e w' ⟨rfl, hx⟩; exact ⟨rfl, hx⟩) | (refine (atomsEnds_any _ _ _ s _ _ (HAI.out.later hx1) (.tuple #[U 0#32, U 0#32, .bool false]) (fun W' hW' => (cutsEnds_out _ s.fr (s.fr.length : Nat) W' hW' (.inr (Int.le_refl _))).mono fun e w' ⟨g1, g2⟩ => ⟨g1, by rw [g2]; exact Ext.refl _⟩) ⟨_, _, _, rfl⟩).mono ?_; rintro e w' ⟨rfl, hx⟩; exact ⟨rfl, hx⟩))
          simp only [Act.put, List.setIfInBounds_toArray, List.set_cons_zero, List.set_cons_succ]
          refine WE_q 3 rfl (by decide) (by kernel_rfl) rfl ?_; apply Exists.intro; refine ⟨fun w1 hx1 => ?_, ?_⟩
          · have hq1 := hx1.cells; go_simp; try go_bits
            first | with_reducible rfl | (first | (refine (atomsLen_any _ _ _ s _ (HAI.out.later hx1)).mono ?_; rintro e w' ⟨rfl, hx⟩; exact ⟨rfl, hx⟩) | (refine (atomsEnds_any _ _ _ s _ _ (HAI.out.later hx1) (.tuple #[U 0#32, U 0#32, .bool false]) (fun W' hW' => (cutsEnds_out _ s.fr (s.fr.length : Nat) W' hW' (.inr (Int.le_refl _))).mono fun e w' ⟨g1, g2⟩ => ⟨g1, by rw [g2]; exact Ext.refl _⟩) ⟨_, _, _, rfl⟩).mono ?_; rintro e w' ⟨rfl, hx⟩; exact ⟨rfl, hx⟩))
          simp only [Act.put, List.setIfInBounds_toArray, List.set_cons_zero, List.set_cons_succ]
          refine WE_q 4 rfl (by decide) (by kernel_rfl) rfl ?_; apply Exists.intro; refine ⟨fun w1 hx1 => ?_, ?_⟩
          · have hq1 := hx1.cells; go_simp; try go_bits
            first | with_reducible rfl | (first | (refine (atomsLen_any _ _ _ s _ (HAI.out.later hx1)).mono ?_; rintro e w' ⟨rfl, hx⟩; exact ⟨rfl, hx⟩) | (refine (atomsEnds_any _ _ _ s _ _ (HAI.out.later hx1) (.tuple #[U 0#32, U 0#32, .bool false]) (fun W' hW' => (cutsEnds_out _ s.fr (s.fr.length : Nat) W' hW' (.inr (Int.le_refl _))).mono fun e w' ⟨g1, g2⟩ => ⟨g1, by rw [g2]; exact Ext.refl _⟩) ⟨_, _, _, rfl⟩).mono ?_; rintro e w' ⟨rfl, hx⟩; exact ⟨rfl, hx⟩))
          simp only [Act.put, List.setIfInBounds_toArray, List.set_cons_zero, List.set_cons_succ]
          refine WE_q 5 rfl (by decide) (by kernel_rfl) rfl ?_; apply Exists.intro; refine ⟨fun w1 hx1 => ?_, ?_⟩
          · have hq1 := hx1.cells; go_simp; try go_bits
            first | with_reducible rfl | (first | (refine (atomsLen_any _ _ _ s _ (HAI.out.later hx1)).mono ?_; rintro e w' ⟨rfl, hx⟩; exact ⟨rfl, hx⟩) | (refine (atomsEnds_any _ _ _ s _ _ (HAI.out.later hx1) (.tuple #[U 0#32, U 0#32, .bool false]) (fun W' hW' => (cutsEnds_out _ s.fr (s.fr.length : Nat) W' hW' (.inr (Int.le_refl _))).mono fun e w' ⟨g1, g2⟩ => ⟨g1, by rw [g2]; exact Ext.refl _⟩) ⟨_, _, _, rfl⟩).mono ?_; rintro e w' ⟨rfl, hx⟩; exact ⟨rfl, hx⟩))
          simp only [Act.put, List.setIfInBounds_toArray, List.set_cons_zero, List.set_cons_succ]
          refine WE_q 6 rfl (by decide) (by kernel_rfl) rfl ?_; apply Exists.intro; refine ⟨fun w1 hx1 => ?_, ?_⟩
          · have hq1 := hx1.cells; go_simp; try go_bits
            first | with_reducible rfl | (first | (refine (atomsLen_any _ _ _ s _ (HAI.out.later hx1)).mono ?_; rintro e w' ⟨rfl, hx⟩; exact ⟨rfl, hx⟩) | (refine (atomsEnds_any _ _ _ s _ _ (HAI.out.later hx1) (.tuple #[U 0#32, U 0#32, .bool false]) (fun W' hW' => (cutsEnds_out _ s.fr (s.fr.length : Nat) W' hW' (.inr (Int.le_refl _))).mono fun e w' ⟨g1, g2⟩ => ⟨g1, by rw [g2]; exact Ext.refl _⟩) ⟨_, _, _, rfl⟩).mono ?_; rintro e w' ⟨rfl, hx⟩; exact ⟨rfl, hx⟩))
          simp only [Act.put, List.setIfInBounds_toArray, List.set_cons_zero, List.set_cons_succ]
          refine WE_q 7 rfl (by decide) (by kernel_rfl) rfl ?_; apply Exists.intro; refine ⟨fun w1 hx1 => ?_, ?_⟩
          · have hq1 := hx1.cells; go_simp; try go_bits
            first | with_reducible rfl | (first | (refine (atomsLen_any _ _ _ s _ (HAI.out.later hx1)).mono ?_; rintro e w' ⟨rfl, hx⟩; exact ⟨rfl, hx⟩) | (refine (atomsEnds_any _ _ _ s _ _ (HAI.out.later hx1) (.tuple #[U 0#32, U 0#32, .bool false]) (fun W' hW' => (cutsEnds_out _ s.fr (s.fr.length : Nat) W' hW' (.inr (Int.le_refl _))).mono fun e w' ⟨g1, g2⟩ => ⟨g1, by rw [g2]; exact Ext.refl _⟩) ⟨_, _, _, rfl⟩).mono ?_; rintro e w' ⟨rfl, hx⟩; exact ⟨rfl, hx⟩))
          simp only [Act.put, List.setIfInBounds_toArray, List.set_cons_zero, List.set_cons_succ]
          refine WE_q 8 rfl (by decide) (by kernel_rfl) rfl ?_; apply Exists.intro; refine ⟨fun w1 hx1 => ?_, ?_⟩
          · have hq1 := hx1.cells; go_simp; try go_bits
            first | with_reducible rfl | (first | (refine (atomsLen_any _ _ _ s _ (HAI.out.later hx1)).mono ?_; rintro e w' ⟨rfl, hx⟩; exact ⟨rfl, hx⟩) | (refine (atomsEnds_any _ _ _ s _ _ (HAI.out.later hx1) (.tuple #[U 0#32, U 0#32, .bool false]) (fun W' hW' => (cutsEnds_out _ s.fr (s.fr.length : Nat) W' hW' (.inr (Int.le_refl _))).mono fun e w' ⟨g1, g2⟩ => ⟨g1, by rw [g2]; exact Ext.refl _⟩) ⟨_, _, _, rfl⟩).mono ?_; rintro e w' ⟨rfl, hx⟩; exact ⟨rfl, hx⟩))
          simp only [Act.put, List.setIfInBounds_toArray, List.set_cons_zero, List.set_cons_succ]
          refine WE_q 9 rfl (by decide) (by kernel_rfl) rfl ?_; apply Exists.intro; refine ⟨fun w1 hx1 => ?_, ?_⟩
          · have hq1 := hx1.cells; go_simp; try go_bits
            first | with_reducible rfl | (first | (refine (atomsLen_any _ _ _ s _ (HAI.out.later hx1)).mono ?_; rintro e w' ⟨rfl, hx⟩; exact ⟨rfl, hx⟩) | (refine (atomsEnds_any _ _ _ s _ _ (HAI.out.later hx1) (.tuple #[U 0#32, U 0#32, .bool false]) (fun W' hW' => (cutsEnds_out _ s.fr (s.fr.length : Nat) W' hW' (.inr (Int.le_refl _))).mono fun e w' ⟨g1, g2⟩ => ⟨g1, by rw [g2]; exact Ext.refl _⟩) ⟨_, _, _, rfl⟩).mono ?_; rintro e w' ⟨rfl, hx⟩; exact ⟨rfl, hx⟩))
          simp only [Act.put, List.setIfInBounds_toArray, List.set_cons_zero, List.set_cons_succ]
          refine WE_done (by kernel_rfl) (fun w10 hx10 => ?_)
          (try simp only [List.drop_succ_cons, List.drop_zero])
          clear k1
          have hk10 := (HKI.out.later hx10).cells
          have hve : ((s.vs.length : Int) - 1 == (s.vs.length : Int) - 1) = true := by simp
          go_wp2_with fail
          go_ret
          exact ⟨rfl, HX7.out.trans (HX8.out.trans (HXI.out.trans hx10))⟩
end Go.Proofs.Ytamlalablblfeaa
