/- The law VectorAll: the walk. Conditions: whole numbers are within 64 bits. -/
import Derived.Test.YtilaljdokpdcoaaShown13
import Derived.Test.YtilaljdokpdcoaaFew13
namespace Go.Proofs.Ytilaljdokpdcoaa
open Go.RowKit

set_option maxHeartbeats 4000000 in
set_option maxRecDepth 100000 in
theorem vectorAll_any (lv : Value) (ls : List (List Rul)) (a : BitVec 32) (w : World) (hl : TablesAt w lv ls) (hok : TablesOk ls) :
    Calls Try.prog 3 #[.agg #[lv], U a] w fun e w' => e = .returned (.bool true) ∧ Ext w w' := by
  have HL := Lib.hid hl
  have HOK := Lib.hid hok
  obtain ⟨ad, cap, hlv, a1, a2, a3⟩ := hl.form
  subst hlv
  clear a3 hl hok
  unfold maxLen at a2
  go_enter Try.func3, Try.ntmps3
  go_upto_region 1 with (fail)
  refine hideW (Φ := fun W => Code.wp _ _ _ _ W) (fun W => Ext w W ∧ Blk W w.heap.size [.slice ad ls.length cap] 24)
    ⟨by (repeat (first | with_reducible exact Ext.refl _ | with_reducible assumption | with_reducible refine Ext.alloc ?_ _ | with_reducible refine Ext.drew ?_ | with_reducible refine Ext.drewN ?_ _ | (with_reducible refine Ext.setCellP ?_ ?_; focus (first | (simp; done) | (simp; omega) | omega)))), Blk.new w [.slice ad ls.length cap] 24⟩ (fun W1 hW1 => ?_)
  obtain ⟨hx1, hb1⟩ := hW1
  have HX1 := Lib.hid hx1
  have HB1 := Lib.hid hb1
  clear hx1 hb1
  generalize w.heap.size = nb at *
  go_upto_region 2 with (first
    | (go_at_call 15; (with_reducible refine (shown13_any _).mono ?_); rintro e w2 ⟨rfl, hx2⟩; have HX2 := Lib.hid (HX1.out.trans hx2); have HB2 := Lib.hid (HB1.out.later hx2); clear hx2))
  have hbc2 := HB2.out.cells
  have HFS := Lib.hid (fewN_size ls)
  have HFO := Lib.hid (fewN_ok HOK.out)
  have HFL := Lib.hid (fewN_len ls)
  by_cases hm : netMayV (fewN ls) = 0
  · have HM := Lib.hid hm
    have HTB := Lib.hid (netMay_tab hm)
    clear hm
    go_upto_region 3 with (first
      | (go_at_call 17; (with_reducible refine (few13_any _ ls _ (HL.out.later HX2.out)).mono ?_); rintro e w3 ⟨v3, he, hF, hx3⟩; subst he; have HF3 := Lib.hid hF; have HX3 := Lib.hid (HX2.out.trans hx3); have HB3 := Lib.hid (HB2.out.later hx3); clear hF hx3)
      | (go_at_call 16; (with_reducible refine (vecNew_good _ (fewN ls) _ HF3.out HFO.out HM.out (Nat.le_trans HFS.out (by decide))).mono ?_); rintro e w4 ⟨mb, he, hM, hx4⟩; subst he; have HK4 := Lib.hid hM; have HX4 := Lib.hid (HX3.out.trans hx4); have HB4 := Lib.hid (HB3.out.later hx4); clear hM hx4))
    have hbc4 := HB4.out.cells
    go_upto_region 4 with (first
      | (go_at_call 17; (with_reducible refine (few13_any _ ls _ (HL.out.later HX4.out)).mono ?_); rintro e w5 ⟨v5, he, hF, hx5⟩; subst he; have HF5 := Lib.hid hF; have HX5 := Lib.hid (HX4.out.trans hx5); have HB5 := Lib.hid (HB4.out.later hx5); have HK5 := Lib.hid (HK4.out.later hx5); clear hF hx5)
      | (go_at_call 18; (with_reducible refine (r09May_any _ (fewN ls) _ HF5.out HFO.out (Nat.le_trans HFS.out (by decide))).mono ?_); rintro e w6 ⟨he, hx6⟩; rw [HM.out] at he; subst he; have HX6 := Lib.hid (HX5.out.trans hx6); have HB6 := Lib.hid (HB5.out.later hx6); have HK6 := Lib.hid (HK5.out.later hx6); clear hx6))
    clear hbc2 hbc4
    go_cut [50] (fun c wc => c = .bool false ∧ Ext w6 wc)
    case first =>
      refine wp_region_R (RB (nb + 1)) 28 rfl (by kernel_rfl) (by kernel_rfl) (fun w0 hx0 => ?_)
      have hwb : nb + 1 ≤ w0.heap.size := (HB6.out.later hx0).lt
      have hbk := RB.keep hwb (Nat.lt_succ_self _) ((HB6.out.later hx0).cells 0)
      have HLE := Lib.hid (show (fewN ls).length ≤ 1000000 from Nat.le_trans HFL.out (by decide))
      clear hwb
      refine WR_q (preRB _) 0 rfl (by decide) (by kernel_rfl) rfl ?_; apply Exists.intro; refine ⟨fun w1 hx1 => ?_, ?_⟩
      · go_simp; try go_bits
        first | with_reducible rfl | rfl
      simp only [Act.put, List.setIfInBounds_toArray, List.set_cons_zero, List.set_cons_succ]
      refine WR_q (preRB _) 1 rfl (by decide) (by kernel_rfl) rfl ?_; apply Exists.intro; refine ⟨fun w1 hx1 => ?_, ?_⟩
      · go_simp; try go_bits
        first | with_reducible rfl | rfl
      simp only [Act.put, List.setIfInBounds_toArray, List.set_cons_zero, List.set_cons_succ]
      refine WR_q (preRB _) 2 rfl (by decide) (by kernel_rfl) rfl ?_; apply Exists.intro; refine ⟨fun w1 hx1 => ?_, ?_⟩
      · go_simp; try go_bits
        first | with_reducible rfl | rfl
      simp only [Act.put, List.setIfInBounds_toArray, List.set_cons_zero, List.set_cons_succ]
      refine WR_q (preRB _) 3 rfl (by decide) (by kernel_rfl) rfl ?_; apply Exists.intro; refine ⟨fun w1 hx1 => ?_, ?_⟩
      · go_simp; try go_bits
        first | with_reducible rfl | rfl
      simp only [Act.put, List.setIfInBounds_toArray, List.set_cons_zero, List.set_cons_succ]
      refine WR_q (preRB _) 4 rfl (by decide) (by kernel_rfl) rfl ?_; apply Exists.intro; refine ⟨fun w1 hx1 => ?_, ?_⟩
      · go_simp; try go_bits
        first | with_reducible rfl | rfl
      simp only [Act.put, List.setIfInBounds_toArray, List.set_cons_zero, List.set_cons_succ]
      refine WR_q (preRB _) 5 rfl (by decide) (by kernel_rfl) rfl ?_; apply Exists.intro; refine ⟨fun w1 hx1 => ?_, ?_⟩
      · go_simp; try go_bits
        first | with_reducible rfl | rfl
      simp only [Act.put, List.setIfInBounds_toArray, List.set_cons_zero, List.set_cons_succ]
      refine WR_q (preRB _) 6 rfl (by decide) (by kernel_rfl) rfl ?_; apply Exists.intro; refine ⟨fun w1 hx1 => ?_, ?_⟩
      · go_simp; try go_bits
        first | with_reducible rfl | rfl
      simp only [Act.put, List.setIfInBounds_toArray, List.set_cons_zero, List.set_cons_succ]
      refine WR_q (preRB _) 7 rfl (by decide) (by kernel_rfl) rfl ?_; apply Exists.intro; refine ⟨fun w1 hx1 => ?_, ?_⟩
      · go_simp; try go_bits
        first | with_reducible rfl | rfl
      simp only [Act.put, List.setIfInBounds_toArray, List.set_cons_zero, List.set_cons_succ]
      refine WR_q (preRB _) 8 rfl (by decide) (by kernel_rfl) rfl ?_; apply Exists.intro; refine ⟨fun w1 hx1 => ?_, ?_⟩
      · go_simp; try go_bits
        first | with_reducible rfl | rfl
      simp only [Act.put, List.setIfInBounds_toArray, List.set_cons_zero, List.set_cons_succ]
      refine WR_q (preRB _) 9 rfl (by decide) (by kernel_rfl) rfl ?_; apply Exists.intro; refine ⟨fun w1 hx1 => ?_, ?_⟩
      · go_simp; try go_bits
        first | with_reducible rfl | rfl
      simp only [Act.put, List.setIfInBounds_toArray, List.set_cons_zero, List.set_cons_succ]
      refine WR_q (preRB _) 10 rfl (by decide) (by kernel_rfl) rfl ?_; apply Exists.intro; refine ⟨fun w1 hx1 => ?_, ?_⟩
      · go_simp; try go_bits
        first | with_reducible rfl | rfl
      simp only [Act.put, List.setIfInBounds_toArray, List.set_cons_zero, List.set_cons_succ]
      refine WR_q (preRB _) 11 rfl (by decide) (by kernel_rfl) rfl ?_; apply Exists.intro; refine ⟨fun w1 hx1 => ?_, ?_⟩
      · go_simp; try go_bits
        first | with_reducible rfl | rfl
      simp only [Act.put, List.setIfInBounds_toArray, List.set_cons_zero, List.set_cons_succ]
      refine WR_q (preRB _) 12 rfl (by decide) (by kernel_rfl) rfl ?_; apply Exists.intro; refine ⟨fun w1 hx1 => ?_, ?_⟩
      · go_simp; try go_bits
        first | with_reducible rfl | rfl
      simp only [Act.put, List.setIfInBounds_toArray, List.set_cons_zero, List.set_cons_succ]
      refine WR_q (preRB _) 13 rfl (by decide) (by kernel_rfl) rfl ?_; apply Exists.intro; refine ⟨fun w1 hx1 => ?_, ?_⟩
      · go_simp; try go_bits
        first | with_reducible rfl | rfl
      simp only [Act.put, List.setIfInBounds_toArray, List.set_cons_zero, List.set_cons_succ]
      refine WR_q (preRB _) 14 rfl (by decide) (by kernel_rfl) rfl ?_; apply Exists.intro; refine ⟨fun w1 hx1 => ?_, ?_⟩
      · go_simp; try go_bits
        first | with_reducible rfl | rfl
      simp only [Act.put, List.setIfInBounds_toArray, List.set_cons_zero, List.set_cons_succ]
      refine WR_q (preRB _) 15 rfl (by decide) (by kernel_rfl) rfl ?_; apply Exists.intro; refine ⟨fun w1 hx1 => ?_, ?_⟩
      · go_simp; try go_bits
        first | with_reducible rfl | rfl
      simp only [Act.put, List.setIfInBounds_toArray, List.set_cons_zero, List.set_cons_succ]
      refine WR_q (preRB _) 16 rfl (by decide) (by kernel_rfl) rfl ?_; apply Exists.intro; refine ⟨fun w1 hx1 => ?_, ?_⟩
      · go_simp; try go_bits
        first | with_reducible rfl | rfl
      simp only [Act.put, List.setIfInBounds_toArray, List.set_cons_zero, List.set_cons_succ]
      refine WR_q (preRB _) 17 rfl (by decide) (by kernel_rfl) rfl ?_; apply Exists.intro; refine ⟨fun w1 hx1 => ?_, ?_⟩
      · go_simp; try go_bits
        first | with_reducible rfl | rfl
      simp only [Act.put, List.setIfInBounds_toArray, List.set_cons_zero, List.set_cons_succ]
      refine WR_q (preRB _) 18 rfl (by decide) (by kernel_rfl) rfl ?_; apply Exists.intro; refine ⟨fun w1 hx1 => ?_, ?_⟩
      · go_simp; try go_bits
        first | with_reducible rfl | rfl
      simp only [Act.put, List.setIfInBounds_toArray, List.set_cons_zero, List.set_cons_succ]
      refine WR_q (preRB _) 19 rfl (by decide) (by kernel_rfl) rfl ?_; apply Exists.intro; refine ⟨fun w1 hx1 => ?_, ?_⟩
      · go_simp; try go_bits
        first | with_reducible rfl | rfl
      simp only [Act.put, List.setIfInBounds_toArray, List.set_cons_zero, List.set_cons_succ]
      refine WR_q (preRB _) 21 rfl (by decide) (by kernel_rfl) rfl ?_; apply Exists.intro; refine ⟨fun w1 hx1 => ?_, ?_⟩
      · go_simp; try go_bits
        first | with_reducible rfl | rfl
      simp only [Act.put, List.setIfInBounds_toArray, List.set_cons_zero, List.set_cons_succ]
      refine WR_q (preRB _) 23 rfl (by decide) (by kernel_rfl) rfl ?_; apply Exists.intro; refine ⟨fun w1 hx1 => ?_, ?_⟩
      · go_simp; try go_bits
        first | with_reducible rfl | rfl
      simp only [Act.put, List.setIfInBounds_toArray, List.set_cons_zero, List.set_cons_succ]
      clear hbk
      refine WR_one 20 rfl (by decide) (by kernel_rfl) rfl (fun K hK => ?_)
      go_simp
      (with_reducible refine (vecOf_any _ mb (fewN ls) a _ (HK6.out.later (hx0)) HTB.out HLE.out).mono ?_)
      rintro e wA ⟨vA, he, hA, hxA⟩
      subst he
      have HA := Lib.hid hA
      clear hA
      refine hK _ _ (RB.ext hxA) ?_
      clear hK K
      refine WR_one 22 rfl (by decide) (by kernel_rfl) rfl (fun K hK => ?_)
      go_simp
      (with_reducible refine (few13_any _ ls _ (HL.out.later (HX6.out.trans (hx0.trans hxA)))).mono ?_)
      rintro e wB ⟨vB, he, hB, hxB⟩
      subst he
      have HB := Lib.hid hB
      clear hB
      refine hK _ _ (RB.ext hxB) ?_
      clear hK K
      refine WR_one 24 rfl (by decide) (by kernel_rfl) rfl (fun K hK => ?_)
      go_simp
      (with_reducible refine (r13Of_any _ (fewN ls) a _ (HB.out) HFO.out HLE.out).mono ?_)
      rintro e wC ⟨vC, he, hC, hxC⟩
      subst he
      have HC := Lib.hid hC
      clear hC
      refine hK _ _ (RB.ext hxC) ?_
      clear hK K
      refine WR_one 25 rfl (by decide) (by kernel_rfl) rfl (fun K hK => ?_)
      go_simp
      (with_reducible refine (r09Row_any _ _ (vecV (fewN ls) a) (vecV (fewN ls) a) _ (HA.out.ints.later (hxB.trans hxC)) (HC.out.ints)).mono ?_)
      rintro e wD ⟨he, hxD⟩
      replace he := he.trans (congrArg (fun b => Ending.returned (.bool b)) (decide_eq_true rfl))
      subst he
      refine hK _ _ (RB.ext hxD) ?_
      clear hK K
      refine WR_q (preRB _) 26 rfl (by decide) (by kernel_rfl) rfl ?_; apply Exists.intro; refine ⟨fun w1 hx1 => ?_, ?_⟩
      · go_simp; try go_bits
        first | with_reducible rfl | rfl
      simp only [Act.put, List.setIfInBounds_toArray, List.set_cons_zero, List.set_cons_succ]
      refine WR_q (preRB _) 27 rfl (by decide) (by kernel_rfl) rfl ?_; apply Exists.intro; refine ⟨fun w1 hx1 => ?_, ?_⟩
      · go_simp; try go_bits
        first | with_reducible rfl | rfl
      simp only [Act.put, List.setIfInBounds_toArray, List.set_cons_zero, List.set_cons_succ]
      refine WR_done (by kernel_rfl) ?_
      (try simp only [List.drop_succ_cons, List.drop_zero])
      go_wp2_with fail
      go_meet
      case rel => exact ⟨rfl, hx0.trans (hxA.trans (hxB.trans (hxC.trans hxD)))⟩
    case rest =>
      obtain ⟨rfl, hx7⟩ := hcut
      have HX7 := Lib.hid (HX6.out.trans hx7)
      have hbc7 := (HB6.out.later hx7).cells
      clear hx7 HB6 HK6 HB5 HK5 HB4 HK4 HB3 HF3 HF5 HX3 HX4 HX5 HX6 HM HTB HFS HFO HFL
      go_upto_region 7 with (first
        | (go_at_call 22; (with_reducible refine (r09Fit_any _ ls _ (HL.out.later HX7.out) HOK.out).mono ?_); rintro e w8 ⟨v8, he, hF, hx8⟩; subst he; have HF8 := Lib.hid hF.tables; obtain ⟨va8, vcap8, hv8, q1, q2, q3⟩ := HF8.out.form; subst hv8; clear q1 q2 q3; have HX8 := Lib.hid (HX7.out.trans hx8); clear hF hx8))
      clear hbc7
      refine hideW (Φ := fun W => Code.wp _ _ _ _ W) (fun W => Ext w8 W ∧ Blk W w8.heap.size [.slice va8 (fitN ls).length vcap8] 24)
        ⟨by (repeat (first | with_reducible exact Ext.refl _ | with_reducible assumption | with_reducible refine Ext.alloc ?_ _ | with_reducible refine Ext.drew ?_ | with_reducible refine Ext.drewN ?_ _ | (with_reducible refine Ext.setCellP ?_ ?_; focus (first | (simp; done) | (simp; omega) | omega)))), Blk.new w8 [.slice va8 (fitN ls).length vcap8] 24⟩ (fun W9 hW9 => ?_)
      obtain ⟨hx9, hb9⟩ := hW9
      have HX9 := Lib.hid (HX8.out.trans hx9)
      have HF9 := Lib.hid (HF8.out.later hx9)
      have HB9 := Lib.hid hb9
      have hbc9 := hb9.cells
      clear hx9 hb9 HF8 HX8
      generalize w8.heap.size = fb at *
      go_upto_region 8 with (first
        | (go_at_call 16; (with_reducible refine (vecNew_good _ (fitN ls) _ HF9.out (fitN_ok ls) (fitN_may ls) (Nat.le_trans (fitN_size ls) (by decide))).mono ?_); rintro e w10 ⟨mk, he, hM, hx10⟩; subst he; have HK10 := Lib.hid hM; have HX10 := Lib.hid (HX9.out.trans hx10); have HF10 := Lib.hid (HF9.out.later hx10); have HB10 := Lib.hid (HB9.out.later hx10); clear hM hx10))
      refine wp_region_R (RB (fb + 1)) 15 rfl (by kernel_rfl) (by kernel_rfl) (fun w0 hx0 => ?_)
      have hwb : fb + 1 ≤ w0.heap.size := (HB10.out.later hx0).lt
      have hbk := RB.keep hwb (Nat.lt_succ_self _) ((HB10.out.later hx0).cells 0)
      have HLE := Lib.hid (show (fitN ls).length ≤ 1000000 by rw [fitN_len]; have := manyN_bd ls; omega)
      clear hwb hbc9
      refine WR_q (preRB _) 0 rfl (by decide) (by kernel_rfl) rfl ?_; apply Exists.intro; refine ⟨fun w1 hx1 => ?_, ?_⟩
      · go_simp; try go_bits
        first | with_reducible rfl | rfl
      simp only [Act.put, List.setIfInBounds_toArray, List.set_cons_zero, List.set_cons_succ]
      refine WR_q (preRB _) 1 rfl (by decide) (by kernel_rfl) rfl ?_; apply Exists.intro; refine ⟨fun w1 hx1 => ?_, ?_⟩
      · go_simp; try go_bits
        first | with_reducible rfl | rfl
      simp only [Act.put, List.setIfInBounds_toArray, List.set_cons_zero, List.set_cons_succ]
      refine WR_q (preRB _) 2 rfl (by decide) (by kernel_rfl) rfl ?_; apply Exists.intro; refine ⟨fun w1 hx1 => ?_, ?_⟩
      · go_simp; try go_bits
        first | with_reducible rfl | rfl
      simp only [Act.put, List.setIfInBounds_toArray, List.set_cons_zero, List.set_cons_succ]
      refine WR_q (preRB _) 3 rfl (by decide) (by kernel_rfl) rfl ?_; apply Exists.intro; refine ⟨fun w1 hx1 => ?_, ?_⟩
      · go_simp; try go_bits
        first | with_reducible rfl | rfl
      simp only [Act.put, List.setIfInBounds_toArray, List.set_cons_zero, List.set_cons_succ]
      refine WR_q (preRB _) 4 rfl (by decide) (by kernel_rfl) rfl ?_; apply Exists.intro; refine ⟨fun w1 hx1 => ?_, ?_⟩
      · go_simp; try go_bits
        first | with_reducible rfl | rfl
      simp only [Act.put, List.setIfInBounds_toArray, List.set_cons_zero, List.set_cons_succ]
      refine WR_q (preRB _) 5 rfl (by decide) (by kernel_rfl) rfl ?_; apply Exists.intro; refine ⟨fun w1 hx1 => ?_, ?_⟩
      · go_simp; try go_bits
        first | with_reducible rfl | rfl
      simp only [Act.put, List.setIfInBounds_toArray, List.set_cons_zero, List.set_cons_succ]
      refine WR_q (preRB _) 6 rfl (by decide) (by kernel_rfl) rfl ?_; apply Exists.intro; refine ⟨fun w1 hx1 => ?_, ?_⟩
      · go_simp; try go_bits
        first | with_reducible rfl | rfl
      simp only [Act.put, List.setIfInBounds_toArray, List.set_cons_zero, List.set_cons_succ]
      refine WR_q (preRB _) 7 rfl (by decide) (by kernel_rfl) rfl ?_; apply Exists.intro; refine ⟨fun w1 hx1 => ?_, ?_⟩
      · go_simp; try go_bits
        first | with_reducible rfl | rfl
      simp only [Act.put, List.setIfInBounds_toArray, List.set_cons_zero, List.set_cons_succ]
      refine WR_q (preRB _) 8 rfl (by decide) (by kernel_rfl) rfl ?_; apply Exists.intro; refine ⟨fun w1 hx1 => ?_, ?_⟩
      · go_simp; try go_bits
        first | with_reducible rfl | rfl
      simp only [Act.put, List.setIfInBounds_toArray, List.set_cons_zero, List.set_cons_succ]
      refine WR_q (preRB _) 10 rfl (by decide) (by kernel_rfl) rfl ?_; apply Exists.intro; refine ⟨fun w1 hx1 => ?_, ?_⟩
      · go_simp; try go_bits
        first | with_reducible rfl | rfl
      simp only [Act.put, List.setIfInBounds_toArray, List.set_cons_zero, List.set_cons_succ]
      refine WR_q (preRB _) 11 rfl (by decide) (by kernel_rfl) rfl ?_; apply Exists.intro; refine ⟨fun w1 hx1 => ?_, ?_⟩
      · go_simp; try go_bits
        first | with_reducible rfl | rfl
      simp only [Act.put, List.setIfInBounds_toArray, List.set_cons_zero, List.set_cons_succ]
      clear hbk
      refine WR_one 9 rfl (by decide) (by kernel_rfl) rfl (fun K hK => ?_)
      go_simp
      (with_reducible refine (vecOf_any _ mk (fitN ls) a _ (HK10.out.later hx0) (netMay_tab (fitN_may ls)) HLE.out).mono ?_)
      rintro e wA ⟨vA, he, hA, hxA⟩
      subst he
      have HA := Lib.hid hA
      clear hA
      refine hK _ _ (RB.ext hxA) ?_
      clear hK K
      refine WR_one 12 rfl (by decide) (by kernel_rfl) rfl (fun K hK => ?_)
      go_simp
      (with_reducible refine (r13Of_any _ (fitN ls) a _ (HF10.out.later (hx0.trans hxA)) (fitN_ok ls) HLE.out).mono ?_)
      rintro e wC ⟨vC, he, hC, hxC⟩
      subst he
      have HC := Lib.hid hC
      clear hC
      refine hK _ _ (RB.ext hxC) ?_
      clear hK K
      refine WR_one 13 rfl (by decide) (by kernel_rfl) rfl (fun K hK => ?_)
      go_simp
      (with_reducible refine (r09Row_any _ _ (vecV (fitN ls) a) (vecV (fitN ls) a) _ (HA.out.ints.later hxC) (HC.out.ints)).mono ?_)
      rintro e wD ⟨he, hxD⟩
      replace he := he.trans (congrArg (fun b => Ending.returned (.bool b)) (decide_eq_true rfl))
      subst he
      refine hK _ _ (RB.ext hxD) ?_
      clear hK K
      refine WR_q (preRB _) 14 rfl (by decide) (by kernel_rfl) rfl ?_; apply Exists.intro; refine ⟨fun w1 hx1 => ?_, ?_⟩
      · go_simp; try go_bits
        first | with_reducible rfl | rfl
      simp only [Act.put, List.setIfInBounds_toArray, List.set_cons_zero, List.set_cons_succ]
      refine WR_done (by kernel_rfl) ?_
      (try simp only [List.drop_succ_cons, List.drop_zero])
      go_wp2_with fail
      go_ret
      exact ⟨rfl, HX10.out.trans (hx0.trans (hxA.trans (hxC.trans hxD)))⟩
  · have hmd : (netMayV (fewN ls) != 0) = true := by simpa using hm
    have HM := Lib.hid hm
    clear hm
    go_upto_region 3 with (first
      | (go_at_call 17; (with_reducible refine (few13_any _ ls _ (HL.out.later HX2.out)).mono ?_); rintro e w3 ⟨v3, he, hF, hx3⟩; subst he; have HF3 := Lib.hid hF; have HX3 := Lib.hid (HX2.out.trans hx3); have HB3 := Lib.hid (HB2.out.later hx3); clear hF hx3)
      | (go_at_call 16; (with_reducible refine (vecNew_bad _ (fewN ls) _ HF3.out HFO.out (Nat.le_trans HFS.out (by decide)) HM.out).mono ?_); rintro e w4 ⟨he, hx4⟩; subst he; have HX4 := Lib.hid (HX3.out.trans hx4); have HB4 := Lib.hid (HB3.out.later hx4); clear hx4))
    have hbc4 := HB4.out.cells
    go_upto_region 4 with (first
      | (go_at_call 17; (with_reducible refine (few13_any _ ls _ (HL.out.later HX4.out)).mono ?_); rintro e w5 ⟨v5, he, hF, hx5⟩; subst he; have HF5 := Lib.hid hF; have HX5 := Lib.hid (HX4.out.trans hx5); have HB5 := Lib.hid (HB4.out.later hx5); clear hF hx5)
      | (go_at_call 18; (with_reducible refine (r09May_any _ (fewN ls) _ HF5.out HFO.out (Nat.le_trans HFS.out (by decide))).mono ?_); rintro e w6 ⟨he, hx6⟩; subst he; have HX6 := Lib.hid (HX5.out.trans hx6); have HB6 := Lib.hid (HB5.out.later hx6); clear hx6))
    clear hbc2 hbc4
    go_cut [50] (fun c wc => c = .bool false ∧ Ext w6 wc)
    case first =>
      refine wp_region_R (RB (nb + 1)) 28 rfl (by kernel_rfl) (by kernel_rfl) (fun w0 hx0 => ?_)
      refine WR_q (preRB _) 0 rfl (by decide) (by kernel_rfl) rfl ?_; apply Exists.intro; refine ⟨fun w1 hx1 => ?_, ?_⟩
      · go_simp; try go_bits
        first | with_reducible rfl | rfl
      simp only [Act.put, List.setIfInBounds_toArray, List.set_cons_zero, List.set_cons_succ]
      refine WR_q (preRB _) 1 rfl (by decide) (by kernel_rfl) rfl ?_; apply Exists.intro; refine ⟨fun w1 hx1 => ?_, ?_⟩
      · go_simp; try go_bits
        first | with_reducible rfl | rfl
      simp only [Act.put, List.setIfInBounds_toArray, List.set_cons_zero, List.set_cons_succ]
      refine WR_q (preRB _) 2 rfl (by decide) (by kernel_rfl) rfl ?_; apply Exists.intro; refine ⟨fun w1 hx1 => ?_, ?_⟩
      · go_simp; try go_bits
        first | with_reducible rfl | rfl
      simp only [Act.put, List.setIfInBounds_toArray, List.set_cons_zero, List.set_cons_succ]
      refine WR_q (preRB _) 3 rfl (by decide) (by kernel_rfl) rfl ?_; apply Exists.intro; refine ⟨fun w1 hx1 => ?_, ?_⟩
      · go_simp; try go_bits
        first | with_reducible rfl | rfl
      simp only [Act.put, List.setIfInBounds_toArray, List.set_cons_zero, List.set_cons_succ]
      refine WR_q (preRB _) 4 rfl (by decide) (by kernel_rfl) rfl ?_; apply Exists.intro; refine ⟨fun w1 hx1 => ?_, ?_⟩
      · go_simp; try go_bits
        first | with_reducible rfl | rfl
      simp only [Act.put, List.setIfInBounds_toArray, List.set_cons_zero, List.set_cons_succ]
      refine WR_q (preRB _) 5 rfl (by decide) (by kernel_rfl) rfl ?_; apply Exists.intro; refine ⟨fun w1 hx1 => ?_, ?_⟩
      · go_simp; try go_bits
        first | with_reducible rfl | rfl
      simp only [Act.put, List.setIfInBounds_toArray, List.set_cons_zero, List.set_cons_succ]
      refine WR_q (preRB _) 6 rfl (by decide) (by kernel_rfl) rfl ?_; apply Exists.intro; refine ⟨fun w1 hx1 => ?_, ?_⟩
      · go_simp; try go_bits
        first | with_reducible rfl | rfl
      simp only [Act.put, List.setIfInBounds_toArray, List.set_cons_zero, List.set_cons_succ]
      refine WR_q (preRB _) 7 rfl (by decide) (by kernel_rfl) rfl ?_; apply Exists.intro; refine ⟨fun w1 hx1 => ?_, ?_⟩
      · go_simp; try go_bits
        first | with_reducible rfl | rfl
      simp only [Act.put, List.setIfInBounds_toArray, List.set_cons_zero, List.set_cons_succ]
      refine WR_q (preRB _) 8 rfl (by decide) (by kernel_rfl) rfl ?_; apply Exists.intro; refine ⟨fun w1 hx1 => ?_, ?_⟩
      · go_simp; try go_bits
        first | with_reducible rfl | rfl
      simp only [Act.put, List.setIfInBounds_toArray, List.set_cons_zero, List.set_cons_succ]
      refine WR_q (preRB _) 9 rfl (by decide) (by kernel_rfl) rfl ?_; apply Exists.intro; refine ⟨fun w1 hx1 => ?_, ?_⟩
      · go_simp; try go_bits
        first | with_reducible rfl | rfl
      simp only [Act.put, List.setIfInBounds_toArray, List.set_cons_zero, List.set_cons_succ]
      refine WR_q (preRB _) 10 rfl (by decide) (by kernel_rfl) rfl ?_; apply Exists.intro; refine ⟨fun w1 hx1 => ?_, ?_⟩
      · go_simp; try go_bits
        first | with_reducible rfl | rfl
      simp only [Act.put, List.setIfInBounds_toArray, List.set_cons_zero, List.set_cons_succ]
      refine WR_q (preRB _) 11 rfl (by decide) (by kernel_rfl) rfl ?_; apply Exists.intro; refine ⟨fun w1 hx1 => ?_, ?_⟩
      · go_simp; try go_bits
        first | with_reducible rfl | rfl
      simp only [Act.put, List.setIfInBounds_toArray, List.set_cons_zero, List.set_cons_succ]
      refine WR_q (preRB _) 12 rfl (by decide) (by kernel_rfl) rfl ?_; apply Exists.intro; refine ⟨fun w1 hx1 => ?_, ?_⟩
      · go_simp; try go_bits
        first | with_reducible rfl | rfl
      simp only [Act.put, List.setIfInBounds_toArray, List.set_cons_zero, List.set_cons_succ]
      refine WR_q (preRB _) 13 rfl (by decide) (by kernel_rfl) rfl ?_; apply Exists.intro; refine ⟨fun w1 hx1 => ?_, ?_⟩
      · go_simp; try go_bits
        first | with_reducible rfl | rfl
      simp only [Act.put, List.setIfInBounds_toArray, List.set_cons_zero, List.set_cons_succ]
      refine WR_q (preRB _) 14 rfl (by decide) (by kernel_rfl) rfl ?_; apply Exists.intro; refine ⟨fun w1 hx1 => ?_, ?_⟩
      · go_simp; try go_bits
        first | with_reducible rfl | rfl
      simp only [Act.put, List.setIfInBounds_toArray, List.set_cons_zero, List.set_cons_succ]
      refine WR_q (preRB _) 15 rfl (by decide) (by kernel_rfl) rfl ?_; apply Exists.intro; refine ⟨fun w1 hx1 => ?_, ?_⟩
      · go_simp; try go_bits
        first | with_reducible rfl | rfl
      simp only [Act.put, List.setIfInBounds_toArray, List.set_cons_zero, List.set_cons_succ]
      refine WR_q (preRB _) 16 rfl (by decide) (by kernel_rfl) rfl ?_; apply Exists.intro; refine ⟨fun w1 hx1 => ?_, ?_⟩
      · go_simp; try go_bits
        first | with_reducible rfl | rfl
      simp only [Act.put, List.setIfInBounds_toArray, List.set_cons_zero, List.set_cons_succ]
      refine WR_q (preRB _) 17 rfl (by decide) (by kernel_rfl) rfl ?_; apply Exists.intro; refine ⟨fun w1 hx1 => ?_, ?_⟩
      · go_simp; try go_bits
        first | with_reducible rfl | rfl
      simp only [Act.put, List.setIfInBounds_toArray, List.set_cons_zero, List.set_cons_succ]
      refine WR_s (preRB _) 18 rfl (by decide) (by kernel_rfl) rfl ?_
      simp only [Act.put, List.setIfInBounds_toArray, List.set_cons_zero, List.set_cons_succ]
      refine WR_s (preRB _) 19 rfl (by decide) (by kernel_rfl) rfl ?_
      simp only [Act.put, List.setIfInBounds_toArray, List.set_cons_zero, List.set_cons_succ]
      refine WR_s (preRB _) 20 rfl (by decide) (by kernel_rfl) rfl ?_
      simp only [Act.put, List.setIfInBounds_toArray, List.set_cons_zero, List.set_cons_succ]
      refine WR_s (preRB _) 21 rfl (by decide) (by kernel_rfl) rfl ?_
      simp only [Act.put, List.setIfInBounds_toArray, List.set_cons_zero, List.set_cons_succ]
      refine WR_s (preRB _) 22 rfl (by decide) (by kernel_rfl) rfl ?_
      simp only [Act.put, List.setIfInBounds_toArray, List.set_cons_zero, List.set_cons_succ]
      refine WR_s (preRB _) 23 rfl (by decide) (by kernel_rfl) rfl ?_
      simp only [Act.put, List.setIfInBounds_toArray, List.set_cons_zero, List.set_cons_succ]
      refine WR_s (preRB _) 24 rfl (by decide) (by kernel_rfl) rfl ?_
      simp only [Act.put, List.setIfInBounds_toArray, List.set_cons_zero, List.set_cons_succ]
      refine WR_s (preRB _) 25 rfl (by decide) (by kernel_rfl) rfl ?_
      simp only [Act.put, List.setIfInBounds_toArray, List.set_cons_zero, List.set_cons_succ]
      refine WR_s (preRB _) 26 rfl (by decide) (by kernel_rfl) rfl ?_
      simp only [Act.put, List.setIfInBounds_toArray, List.set_cons_zero, List.set_cons_succ]
      refine WR_q (preRB _) 27 rfl (by decide) (by kernel_rfl) rfl ?_; apply Exists.intro; refine ⟨fun w1 hx1 => ?_, ?_⟩
      · go_simp; try go_bits
        first | with_reducible rfl | rfl
      simp only [Act.put, List.setIfInBounds_toArray, List.set_cons_zero, List.set_cons_succ]
      refine WR_done (by kernel_rfl) ?_
      (try simp only [List.drop_succ_cons, List.drop_zero])
      go_wp2_with fail
      go_meet
      case rel => exact ⟨rfl, hx0⟩
    case rest =>
      obtain ⟨rfl, hx7⟩ := hcut
      have HX7 := Lib.hid (HX6.out.trans hx7)
      have hbc7 := (HB6.out.later hx7).cells
      clear hx7 HB6 HB5 HB4 HB3 HF3 HF5 HX3 HX4 HX5 HX6 HM HFS HFO HFL hmd
      go_upto_region 7 with (first
        | (go_at_call 22; (with_reducible refine (r09Fit_any _ ls _ (HL.out.later HX7.out) HOK.out).mono ?_); rintro e w8 ⟨v8, he, hF, hx8⟩; subst he; have HF8 := Lib.hid hF.tables; obtain ⟨va8, vcap8, hv8, q1, q2, q3⟩ := HF8.out.form; subst hv8; clear q1 q2 q3; have HX8 := Lib.hid (HX7.out.trans hx8); clear hF hx8))
      clear hbc7
      refine hideW (Φ := fun W => Code.wp _ _ _ _ W) (fun W => Ext w8 W ∧ Blk W w8.heap.size [.slice va8 (fitN ls).length vcap8] 24)
        ⟨by (repeat (first | with_reducible exact Ext.refl _ | with_reducible assumption | with_reducible refine Ext.alloc ?_ _ | with_reducible refine Ext.drew ?_ | with_reducible refine Ext.drewN ?_ _ | (with_reducible refine Ext.setCellP ?_ ?_; focus (first | (simp; done) | (simp; omega) | omega)))), Blk.new w8 [.slice va8 (fitN ls).length vcap8] 24⟩ (fun W9 hW9 => ?_)
      obtain ⟨hx9, hb9⟩ := hW9
      have HX9 := Lib.hid (HX8.out.trans hx9)
      have HF9 := Lib.hid (HF8.out.later hx9)
      have HB9 := Lib.hid hb9
      have hbc9 := hb9.cells
      clear hx9 hb9 HF8 HX8
      generalize w8.heap.size = fb at *
      go_upto_region 8 with (first
        | (go_at_call 16; (with_reducible refine (vecNew_good _ (fitN ls) _ HF9.out (fitN_ok ls) (fitN_may ls) (Nat.le_trans (fitN_size ls) (by decide))).mono ?_); rintro e w10 ⟨mk, he, hM, hx10⟩; subst he; have HK10 := Lib.hid hM; have HX10 := Lib.hid (HX9.out.trans hx10); have HF10 := Lib.hid (HF9.out.later hx10); have HB10 := Lib.hid (HB9.out.later hx10); clear hM hx10))
      refine wp_region_R (RB (fb + 1)) 15 rfl (by kernel_rfl) (by kernel_rfl) (fun w0 hx0 => ?_)
      have hwb : fb + 1 ≤ w0.heap.size := (HB10.out.later hx0).lt
      have hbk := RB.keep hwb (Nat.lt_succ_self _) ((HB10.out.later hx0).cells 0)
      have HLE := Lib.hid (show (fitN ls).length ≤ 1000000 by rw [fitN_len]; have := manyN_bd ls; omega)
      clear hwb hbc9
      refine WR_q (preRB _) 0 rfl (by decide) (by kernel_rfl) rfl ?_; apply Exists.intro; refine ⟨fun w1 hx1 => ?_, ?_⟩
      · go_simp; try go_bits
        first | with_reducible rfl | rfl
      simp only [Act.put, List.setIfInBounds_toArray, List.set_cons_zero, List.set_cons_succ]
      refine WR_q (preRB _) 1 rfl (by decide) (by kernel_rfl) rfl ?_; apply Exists.intro; refine ⟨fun w1 hx1 => ?_, ?_⟩
      · go_simp; try go_bits
        first | with_reducible rfl | rfl
      simp only [Act.put, List.setIfInBounds_toArray, List.set_cons_zero, List.set_cons_succ]
      refine WR_q (preRB _) 2 rfl (by decide) (by kernel_rfl) rfl ?_; apply Exists.intro; refine ⟨fun w1 hx1 => ?_, ?_⟩
      · go_simp; try go_bits
        first | with_reducible rfl | rfl
      simp only [Act.put, List.setIfInBounds_toArray, List.set_cons_zero, List.set_cons_succ]
      refine WR_q (preRB _) 3 rfl (by decide) (by kernel_rfl) rfl ?_; apply Exists.intro; refine ⟨fun w1 hx1 => ?_, ?_⟩
      · go_simp; try go_bits
        first | with_reducible rfl | rfl
      simp only [Act.put, List.setIfInBounds_toArray, List.set_cons_zero, List.set_cons_succ]
      refine WR_q (preRB _) 4 rfl (by decide) (by kernel_rfl) rfl ?_; apply Exists.intro; refine ⟨fun w1 hx1 => ?_, ?_⟩
      · go_simp; try go_bits
        first | with_reducible rfl | rfl
      simp only [Act.put, List.setIfInBounds_toArray, List.set_cons_zero, List.set_cons_succ]
      refine WR_q (preRB _) 5 rfl (by decide) (by kernel_rfl) rfl ?_; apply Exists.intro; refine ⟨fun w1 hx1 => ?_, ?_⟩
      · go_simp; try go_bits
        first | with_reducible rfl | rfl
      simp only [Act.put, List.setIfInBounds_toArray, List.set_cons_zero, List.set_cons_succ]
      refine WR_q (preRB _) 6 rfl (by decide) (by kernel_rfl) rfl ?_; apply Exists.intro; refine ⟨fun w1 hx1 => ?_, ?_⟩
      · go_simp; try go_bits
        first | with_reducible rfl | rfl
      simp only [Act.put, List.setIfInBounds_toArray, List.set_cons_zero, List.set_cons_succ]
      refine WR_q (preRB _) 7 rfl (by decide) (by kernel_rfl) rfl ?_; apply Exists.intro; refine ⟨fun w1 hx1 => ?_, ?_⟩
      · go_simp; try go_bits
        first | with_reducible rfl | rfl
      simp only [Act.put, List.setIfInBounds_toArray, List.set_cons_zero, List.set_cons_succ]
      refine WR_q (preRB _) 8 rfl (by decide) (by kernel_rfl) rfl ?_; apply Exists.intro; refine ⟨fun w1 hx1 => ?_, ?_⟩
      · go_simp; try go_bits
        first | with_reducible rfl | rfl
      simp only [Act.put, List.setIfInBounds_toArray, List.set_cons_zero, List.set_cons_succ]
      refine WR_q (preRB _) 10 rfl (by decide) (by kernel_rfl) rfl ?_; apply Exists.intro; refine ⟨fun w1 hx1 => ?_, ?_⟩
      · go_simp; try go_bits
        first | with_reducible rfl | rfl
      simp only [Act.put, List.setIfInBounds_toArray, List.set_cons_zero, List.set_cons_succ]
      refine WR_q (preRB _) 11 rfl (by decide) (by kernel_rfl) rfl ?_; apply Exists.intro; refine ⟨fun w1 hx1 => ?_, ?_⟩
      · go_simp; try go_bits
        first | with_reducible rfl | rfl
      simp only [Act.put, List.setIfInBounds_toArray, List.set_cons_zero, List.set_cons_succ]
      clear hbk
      refine WR_one 9 rfl (by decide) (by kernel_rfl) rfl (fun K hK => ?_)
      go_simp
      (with_reducible refine (vecOf_any _ mk (fitN ls) a _ (HK10.out.later hx0) (netMay_tab (fitN_may ls)) HLE.out).mono ?_)
      rintro e wA ⟨vA, he, hA, hxA⟩
      subst he
      have HA := Lib.hid hA
      clear hA
      refine hK _ _ (RB.ext hxA) ?_
      clear hK K
      refine WR_one 12 rfl (by decide) (by kernel_rfl) rfl (fun K hK => ?_)
      go_simp
      (with_reducible refine (r13Of_any _ (fitN ls) a _ (HF10.out.later (hx0.trans hxA)) (fitN_ok ls) HLE.out).mono ?_)
      rintro e wC ⟨vC, he, hC, hxC⟩
      subst he
      have HC := Lib.hid hC
      clear hC
      refine hK _ _ (RB.ext hxC) ?_
      clear hK K
      refine WR_one 13 rfl (by decide) (by kernel_rfl) rfl (fun K hK => ?_)
      go_simp
      (with_reducible refine (r09Row_any _ _ (vecV (fitN ls) a) (vecV (fitN ls) a) _ (HA.out.ints.later hxC) (HC.out.ints)).mono ?_)
      rintro e wD ⟨he, hxD⟩
      replace he := he.trans (congrArg (fun b => Ending.returned (.bool b)) (decide_eq_true rfl))
      subst he
      refine hK _ _ (RB.ext hxD) ?_
      clear hK K
      refine WR_q (preRB _) 14 rfl (by decide) (by kernel_rfl) rfl ?_; apply Exists.intro; refine ⟨fun w1 hx1 => ?_, ?_⟩
      · go_simp; try go_bits
        first | with_reducible rfl | rfl
      simp only [Act.put, List.setIfInBounds_toArray, List.set_cons_zero, List.set_cons_succ]
      refine WR_done (by kernel_rfl) ?_
      (try simp only [List.drop_succ_cons, List.drop_zero])
      go_wp2_with fail
      go_ret
      exact ⟨rfl, HX10.out.trans (hx0.trans (hxA.trans (hxC.trans hxD)))⟩
end Go.Proofs.Ytilaljdokpdcoaa
