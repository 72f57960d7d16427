/- theseuslaw16.same at atoms that are the same. Conditions: whole numbers are within 64 bits. -/
import Derived.Test.YtamlalablblfeaaAtomsAt
import Derived.Test.YtamlalablblfeaaGNetP
namespace Go.Proofs.Ytamlalablblfeaa
open Go Go.RowKit Go.Maps Go.Proofs

set_option maxHeartbeats 4000000 in
set_option maxRecDepth 100000 in
theorem same16_any (fv hv vv fv' hv' vv' : Value) (s : Ats) (w : World) (h : AtomsAt w fv hv vv s) (h' : AtomsAt w fv' hv' vv' s) :
    Calls Try.prog 26 #[.agg #[fv, hv, vv], .agg #[fv', hv', vv']] w fun e w' => e = .returned (.bool true) ∧ Ext w w' := by
  have HA := Lib.hid h
  have HB := Lib.hid h'
  obtain ⟨fa, fc, ha, hc, va, vc, hfe, hhe, hve⟩ := h.forms
  obtain ⟨fa', fc', ha', hc', va', vc', hfe', hhe', hve'⟩ := h'.forms
  obtain ⟨xa, xc, hxe, x1, x2, x3⟩ := h.vs.form
  obtain ⟨ya, yc, hye, y1, y2, y3⟩ := h'.vs.form
  subst hfe hhe hfe' hhe' hxe hye
  simp only [Value.slice.injEq, true_and] at hve hve'
  obtain ⟨rfl, rfl⟩ := hve
  obtain ⟨rfl, rfl⟩ := hve'
  have X3 := Lib.hid x3
  have Y3 := Lib.hid y3
  clear x3 y3 h h'
  unfold maxLen at x2 y2
  have hle : ((s.vs.length : Int) != (s.vs.length : Int)) = false := by simp
  go_enter Try.func26, Try.ntmps26
  go_upto_region 1 with (fail)
  refine hideW (Φ := fun W => Code.wp _ _ _ _ W) (fun W => Ext w W ∧ Blk W w.heap.size [.slice fa s.fr.length fc, .slice ha s.wh.length hc, .slice xa s.vs.length xc] 30 ∧ Blk W (w.heap.size + 1) [.slice fa' s.fr.length fc', .slice ha' s.wh.length hc', .slice ya s.vs.length yc] 35)
    ⟨by (repeat (first | with_reducible exact Ext.refl _ | with_reducible assumption | with_reducible refine Ext.alloc ?_ _ | with_reducible refine Ext.drew ?_ | with_reducible refine Ext.drewN ?_ _ | (with_reducible refine Ext.setCellP ?_ ?_; focus (first | (simp; done) | (simp; omega) | omega)))), (Blk.new w [.slice fa s.fr.length fc, .slice ha s.wh.length hc, .slice xa s.vs.length xc] 30).old _, Blk.newAt _ (by simp)⟩ (fun W1 hW1 => ?_)
  obtain ⟨hx1, hb1, hr1⟩ := hW1
  have HX1 := Lib.hid hx1
  have HB1 := Lib.hid hb1
  have HR1 := Lib.hid hr1
  clear hx1 hb1 hr1
  generalize w.heap.size + 1 = rb at *
  generalize w.heap.size = nb at *
  have hbc := HB1.out.cells
  have hrc := HR1.out.cells
  go_upto_region 3 with (first
    | (go_at_call 35; (with_reducible refine (r12Same_any _ _ s.fr s.fr _ (HA.out.fr.later HX1.out) (HB.out.fr.later HX1.out)).mono ?_); rintro e w2 ⟨he, hx2⟩; replace he := he.trans (congrArg (fun b => Ending.returned (.bool b)) (decide_eq_true rfl)); subst he; have HX2 := Lib.hid (HX1.out.trans hx2); have hbc2 := (HB1.out.later hx2).cells; have hrc2 := (HR1.out.later hx2).cells; have HB2 := Lib.hid (HB1.out.later hx2); have HR2 := Lib.hid (HR1.out.later hx2); clear hx2)
    | (go_at_call 36; (with_reducible refine (r09Row_any _ _ s.wh s.wh _ (HA.out.wh.later HX2.out) (HB.out.wh.later HX2.out)).mono ?_); rintro e w3 ⟨he, hx3⟩; replace he := he.trans (congrArg (fun b => Ending.returned (.bool b)) (decide_eq_true rfl)); subst he; have HX3 := Lib.hid (HX2.out.trans hx3); have HB3 := Lib.hid (HB2.out.later hx3); have HR3 := Lib.hid (HR2.out.later hx3); have hbc3 := HB3.out.cells; have hrc3 := HR3.out.cells; clear hx3))
  clear hbc hrc hbc2 hrc2 hbc3 hrc3
  go_wp2_with fail
  go_loopw [5] (fun i wr => ∃ k : Nat, k ≤ s.vs.length ∧ i = I k ∧ Hid (Ext w3 wr)) (fun i _ => s.vs.length - (intOf i).toNat)
  case atStart => exact ⟨0, by omega, rfl, Ext.refl _⟩
  case round =>
    obtain ⟨k, hk, rfl, HX⟩ := hrel
    have HB4 := Lib.hid (HB3.out.later HX.out)
    have HR4 := Lib.hid (HR3.out.later HX.out)
    have hbc4 := HB4.out.cells
    have hrc4 := HR4.out.cells
    have HXE := Lib.hid (HX3.out.trans HX.out)
    by_cases hlt : k < s.vs.length
    · obtain ⟨b1, o1, u1, he1, c1, hu1⟩ := X3.out k s.vs[k] (List.getElem?_eq_getElem hlt)
      obtain ⟨b2, o2, u2, he2, c2, hu2⟩ := Y3.out k s.vs[k] (List.getElem?_eq_getElem hlt)
      replace c1 := HXE.out.cell c1
      replace c2 := HXE.out.cell c2
      have HU1 := Lib.hid (hu1.later HXE.out)
      have HU2 := Lib.hid (hu2.later HXE.out)
      clear hu1 hu2
      generalize s.vs[k] = Z at *
      obtain ⟨za1, zc1, hzv1, -⟩ := HU1.out.form
      obtain ⟨za2, zc2, hzv2, -⟩ := HU2.out.form
      subst hzv1 hzv2 he1 he2
      have hjd : decide ((k : Int) < (s.vs.length : Int)) = true := decide_eq_true (by omega)
      go_wp2_with fail
      refine wp_region_E 10 rfl (by kernel_rfl) (by kernel_rfl) ?_
      have k1 := Ext.keep c1
      have k2 := Ext.keep c2
      have k3 := HB4.out.keep
      have k4 := HR4.out.keep
      refine WE_q 0 rfl (by decide) (by kernel_rfl) rfl ?_; apply Exists.intro; refine ⟨fun w1 hx1 => ?_, ?_⟩
      · have hq1 := hx1.cells; go_simp; try go_bits
        first | with_reducible rfl
      simp only [Act.put, List.setIfInBounds_toArray, List.set_cons_zero, List.set_cons_succ]
      refine WE_q 1 rfl (by decide) (by kernel_rfl) rfl ?_; apply Exists.intro; refine ⟨fun w1 hx1 => ?_, ?_⟩
      · have hq1 := hx1.cells; go_simp; try go_bits
        first | with_reducible rfl
      simp only [Act.put, List.setIfInBounds_toArray, List.set_cons_zero, List.set_cons_succ]
      refine WE_q 2 rfl (by decide) (by kernel_rfl) rfl ?_; apply Exists.intro; refine ⟨fun w1 hx1 => ?_, ?_⟩
      · have hq1 := hx1.cells; go_simp; try go_bits
        first | with_reducible rfl
      simp only [Act.put, List.setIfInBounds_toArray, List.set_cons_zero, List.set_cons_succ]
      refine WE_q 3 rfl (by decide) (by kernel_rfl) rfl ?_; apply Exists.intro; refine ⟨fun w1 hx1 => ?_, ?_⟩
      · have hq1 := hx1.cells; go_simp; try go_bits
        first | with_reducible rfl
      simp only [Act.put, List.setIfInBounds_toArray, List.set_cons_zero, List.set_cons_succ]
      refine WE_q 4 rfl (by decide) (by kernel_rfl) rfl ?_; apply Exists.intro; refine ⟨fun w1 hx1 => ?_, ?_⟩
      · have hq1 := hx1.cells; go_simp; try go_bits
        first | with_reducible rfl
      simp only [Act.put, List.setIfInBounds_toArray, List.set_cons_zero, List.set_cons_succ]
      refine WE_q 5 rfl (by decide) (by kernel_rfl) rfl ?_; apply Exists.intro; refine ⟨fun w1 hx1 => ?_, ?_⟩
      · have hq1 := hx1.cells; go_simp; try go_bits
        first | with_reducible rfl
      simp only [Act.put, List.setIfInBounds_toArray, List.set_cons_zero, List.set_cons_succ]
      refine WE_q 6 rfl (by decide) (by kernel_rfl) rfl ?_; apply Exists.intro; refine ⟨fun w1 hx1 => ?_, ?_⟩
      · have hq1 := hx1.cells; go_simp; try go_bits
        first | with_reducible rfl
      simp only [Act.put, List.setIfInBounds_toArray, List.set_cons_zero, List.set_cons_succ]
      refine WE_q 7 rfl (by decide) (by kernel_rfl) rfl ?_; apply Exists.intro; refine ⟨fun w1 hx1 => ?_, ?_⟩
      · have hq1 := hx1.cells; go_simp; try go_bits
        first | with_reducible rfl
      simp only [Act.put, List.setIfInBounds_toArray, List.set_cons_zero, List.set_cons_succ]
      refine WE_q 8 rfl (by decide) (by kernel_rfl) rfl ?_; apply Exists.intro; refine ⟨fun w1 hx1 => ?_, ?_⟩
      · have hq1 := hx1.cells; go_simp; try go_bits
        first | with_reducible rfl
      simp only [Act.put, List.setIfInBounds_toArray, List.set_cons_zero, List.set_cons_succ]
      refine WE_q 9 rfl (by decide) (by kernel_rfl) rfl ?_; apply Exists.intro; refine ⟨fun w1 hx1 => ?_, ?_⟩
      · have hq1 := hx1.cells; go_simp; try go_bits
        first | with_reducible rfl
      simp only [Act.put, List.setIfInBounds_toArray, List.set_cons_zero, List.set_cons_succ]
      refine WE_done (by kernel_rfl) (fun w11 hx11 => ?_)
      (try simp only [List.drop_succ_cons, List.drop_zero])
      clear k1 k2 k3 k4
      go_wp2_with (first
        | (go_at_call 36; (with_reducible refine (r09Row_any _ _ Z Z _ (HU1.out.later hx11) (HU2.out.later hx11)).mono ?_); rintro e w12 ⟨he, hx12⟩; replace he := he.trans (congrArg (fun b => Ending.returned (.bool b)) (decide_eq_true rfl)); subst he; have HX12 := Lib.hid (HX.out.trans (hx11.trans hx12)); clear hx12))
      go_roundw
      case rel => exact ⟨k + 1, by omega, by go_num, HX12.out⟩
      case measure => simp [intOf]; omega
    · have hjd : decide ((k : Int) < (s.vs.length : Int)) = false := decide_eq_false (by omega)
      have hjn : decide (k < s.vs.length) = false := decide_eq_false hlt
      go_wp2_with fail
      go_ret
      exact ⟨rfl, HXE.out⟩
end Go.Proofs.Ytamlalablblfeaa
