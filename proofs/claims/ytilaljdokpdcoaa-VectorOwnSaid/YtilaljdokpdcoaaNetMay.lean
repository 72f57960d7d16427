/- Which networks may be: the program's and the reference's answers. Conditions: whole numbers are within 64 bits; a million rules at most where they are counted. -/
import Derived.Test.YtilaljdokpdcoaaNetP
import Derived.Test.YtilaljdokpdcoaaRef08
namespace Go.Proofs.Ytilaljdokpdcoaa
open Go.RowKit

set_option maxHeartbeats 1000000 in
theorem netSize_any (lv : Value) (ls : List (List Rul)) (w : World) (hl : TablesAt w lv ls) (hs : sizeN ls ≤ 100000000) :
    Calls Try.prog 37 #[.agg #[lv]] w fun e w' => e = .returned (I (sizeN ls)) ∧ Ext w w' := by
  obtain ⟨ad, cap, rfl, a1, a2, a3⟩ := hl.form
  have A3 := Lib.hid a3
  clear a3
  unfold maxLen at a2
  go_enter Try.func37, Try.ntmps37
  go_wp2_with fail
  go_loopw [3, 9] (fun s i wr => ∃ k : Nat, k ≤ ls.length ∧ i = I k ∧ s = I (sizeN (ls.take k)) ∧ Ext w wr) (fun _ i _ => ls.length - (intOf i).toNat)
  case atStart => exact ⟨0, by omega, rfl, rfl, by (repeat (first | with_reducible exact Ext.refl _ | with_reducible assumption | with_reducible refine Ext.alloc ?_ _ | with_reducible refine Ext.drew ?_ | with_reducible refine Ext.drewN ?_ _ | (with_reducible refine Ext.setCellP ?_ ?_; focus (first | (simp; done) | (simp; omega) | omega))))⟩
  case round =>
    obtain ⟨k, hk, rfl, rfl, hx⟩ := hrel
    by_cases hlt : k < ls.length
    · obtain ⟨b0, o0, u, rfl, p0, hr⟩ := A3.out k ls[k] (List.getElem?_eq_getElem hlt)
      replace p0 := hx.cell p0
      obtain ⟨ra, rcap, rfl, r1, r2, r3⟩ := hr.form
      clear r3
      unfold maxLen at r2
      have HS := Lib.hid (sizeN_step hlt)
      have hle := sizeN_take ls (k + 1)
      rw [HS.out] at hle
      go_wp2_with fail
      go_roundw
      case rel => exact ⟨k + 1, by omega, by go_num, by rw [HS.out]; go_num, hx⟩
      case measure => simp [intOf]; omega
    · have HE := Lib.hid (sizeN_all (ls := ls) (k := k) (by omega))
      go_wp2_with fail
      go_ret
      exact ⟨ret_int (by rw [HE.out]), hx⟩
set_option maxHeartbeats 1000000 in
theorem r09Size_any (lv : Value) (ls : List (List Rul)) (w : World) (hl : TablesAt w lv ls) (hs : sizeN ls ≤ 100000000) :
    Calls Try.prog 49 #[.agg #[lv]] w fun e w' => e = .returned (I (sizeN ls)) ∧ Ext w w' := by
  obtain ⟨ad, cap, rfl, a1, a2, a3⟩ := hl.form
  have A3 := Lib.hid a3
  clear a3
  unfold maxLen at a2
  go_enter Try.func49, Try.ntmps49
  go_wp2_with fail
  go_loopw [3, 4] (fun s i wr => ∃ k : Nat, k ≤ ls.length ∧ i = I k ∧ s = I (sizeN (ls.take k)) ∧ Blk wr w.heap.size [.slice ad ls.length cap] 24 ∧ Ext w wr) (fun _ i _ => ls.length - (intOf i).toNat)
  case atStart => exact ⟨0, by omega, rfl, rfl, Blk.newAt [Value.slice ad ls.length cap] rfl, by (repeat (first | with_reducible exact Ext.refl _ | with_reducible assumption | with_reducible refine Ext.alloc ?_ _ | with_reducible refine Ext.drew ?_ | with_reducible refine Ext.drewN ?_ _ | (with_reducible refine Ext.setCellP ?_ ?_; focus (first | (simp; done) | (simp; omega) | omega))))⟩
  case round =>
    obtain ⟨k, hk, rfl, rfl, hb, hx⟩ := hrel
    have hbc := hb.cells
    by_cases hlt : k < ls.length
    · obtain ⟨b0, o0, u, rfl, p0, hr⟩ := A3.out k ls[k] (List.getElem?_eq_getElem hlt)
      replace p0 := hx.cell p0
      obtain ⟨ra, rcap, rfl, r1, r2, r3⟩ := hr.form
      clear r3
      unfold maxLen at r2
      have HS := Lib.hid (sizeN_step hlt)
      have hle := sizeN_take ls (k + 1)
      rw [HS.out] at hle
      go_wp2_with fail
      go_roundw
      case rel => exact ⟨k + 1, by omega, by go_num, by rw [HS.out]; go_num, hb, hx⟩
      case measure => simp [intOf]; omega
    · have HE := Lib.hid (sizeN_all (ls := ls) (k := k) (by omega))
      go_wp2_with fail
      go_ret
      exact ⟨ret_int (by rw [HE.out]), hx⟩

set_option maxHeartbeats 2000000 in
theorem netMay_any (lv : Value) (ls : List (List Rul)) (w : World) (hl : TablesAt w lv ls) (hok : TablesOk ls) (hs : sizeN ls ≤ 100000000) :
    Calls Try.prog 46 #[.agg #[lv]] w fun e w' => e = .returned (I (netMayV ls)) ∧ Ext w w' := by
  have HL := Lib.hid hl
  obtain ⟨ad, cap, rfl, a1, a2, a3⟩ := hl.form
  have A3 := Lib.hid a3
  clear a3 hl
  unfold maxLen at a2
  by_cases hbig : 256 < ls.length
  · have HV := Lib.hid (show netMayV ls = 12 by unfold netMayV; rw [if_pos (.inl hbig)])
    have hbd : decide ((ls.length : Int) > 256) = true := decide_eq_true (by omega)
    go_enter Try.func46, Try.ntmps46
    go_wp2_with fail
    go_ret
    exact ⟨ret_int HV.out.symm, by (repeat (first | with_reducible exact Ext.refl _ | with_reducible assumption | with_reducible refine Ext.alloc ?_ _ | with_reducible refine Ext.drew ?_ | with_reducible refine Ext.drewN ?_ _ | (with_reducible refine Ext.setCellP ?_ ?_; focus (first | (simp; done) | (simp; omega) | omega))))⟩
  · have hbd : decide ((ls.length : Int) > 256) = false := by simp; omega
    have HX := Lib.hid ((Ext.refl w).alloc (.cells #[Value.slice ad ls.length cap] 24))
    have HB := Lib.hid (Blk.newAt (w := w) (T := 24) [Value.slice ad ls.length cap] rfl)
    by_cases hsz : 4096 < sizeN ls
    · have HV := Lib.hid (show netMayV ls = 12 by unfold netMayV; rw [if_pos (.inr hsz)])
      have hsd : decide ((sizeN ls : Int) > 4096) = true := decide_eq_true (by omega)
      go_enter Try.func46, Try.ntmps46
      go_wp2_with (first
        | (go_at_call 37; (with_reducible refine (netSize_any _ ls _ (HL.out.later HX.out) hs).mono ?_); rintro e w2 ⟨rfl, hx2⟩; have HX2 := Lib.hid hx2; clear hx2))
      go_ret
      exact ⟨ret_int HV.out.symm, HX.out.trans HX2.out⟩
    · have HV := Lib.hid (show netMayV ls = netG ls.length ls by unfold netMayV; rw [if_neg (by omega)])
      have hsd : decide ((sizeN ls : Int) > 4096) = false := by simp; omega
      go_enter Try.func46, Try.ntmps46
      go_upto_region 3 with (first
        | (go_at_call 37; (with_reducible refine (netSize_any _ ls _ (HL.out.later HX.out) hs).mono ?_); rintro e w2 ⟨rfl, hx2⟩; have HX2 := Lib.hid (HX.out.trans hx2); have HB2 := Lib.hid (HB.out.later hx2); clear hx2; have hb2c := HB2.out.cells))
      go_wp2_with fail
      go_loopw [18] (fun i wr => ∃ k : Nat, k ≤ ls.length ∧ i = I k ∧ Hid (netG ls.length (ls.drop k) = netMayV ls) ∧ Ext w2 wr) (fun i _ => ls.length - (intOf i).toNat)
      case atStart => exact ⟨0, by omega, rfl, HV.out.symm, Ext.refl _⟩
      case round =>
        obtain ⟨k, hk, rfl, HN, hx⟩ := hrel
        have hbc := (HB2.out.later hx).cells
        have HXW := Lib.hid (HX2.out.trans hx)
        by_cases hlt : k < ls.length
        · obtain ⟨b0, o0, u, rfl, p0, hr⟩ := A3.out k ls[k] (List.getElem?_eq_getElem hlt)
          replace p0 := HXW.out.cell p0
          have HR := Lib.hid (hr.later HXW.out)
          have HOK := Lib.hid (hok.at hlt)
          have HS := Lib.hid (netG_step ls.length hlt)
          rw [HN.out] at HS
          clear hr
          by_cases hm : tabMayV ls.length ls[k] = 0
          · have hmd : (tabMayV ls.length ls[k] != 0) = false := by simpa using hm
            have HS2 := Lib.hid (HS.out.trans (if_neg (by simpa using hm)))
            clear hm HS HN
            go_wp2_with (first
              | (go_at_call 61; (with_reducible refine (tableMay_any _ ls[k] _ _ HR.out HOK.out).mono ?_); rintro e w3 ⟨rfl, hx3⟩; have HX3 := Lib.hid hx3; clear hx3))
            go_roundw
            case rel => exact ⟨k + 1, by omega, by go_num, HS2.out.symm, hx.trans HX3.out⟩
            case measure => simp [intOf]; omega
          · have hmd : (tabMayV ls.length ls[k] != 0) = true := by simpa using hm
            have HS2 := Lib.hid (HS.out.trans (if_pos hm))
            clear hm HS HN
            go_wp2_with (first
              | (go_at_call 61; (with_reducible refine (tableMay_any _ ls[k] _ _ HR.out HOK.out).mono ?_); rintro e w3 ⟨rfl, hx3⟩; have HX3 := Lib.hid hx3; clear hx3))
            go_ret
            exact ⟨ret_int HS2.out.symm, HXW.out.trans HX3.out⟩
        · have HE := Lib.hid (HN.out.symm.trans (netG_end ls.length (ls := ls) (k := k) (by omega)))
          go_wp2_with fail
          go_ret
          exact ⟨ret_int HE.out.symm, HXW.out⟩
set_option maxHeartbeats 2000000 in
theorem r09May_any (lv : Value) (ls : List (List Rul)) (w : World) (hl : TablesAt w lv ls) (hok : TablesOk ls) (hs : sizeN ls ≤ 100000000) :
    Calls Try.prog 18 #[.agg #[lv]] w fun e w' => e = .returned (I (netMayV ls)) ∧ Ext w w' := by
  have HL := Lib.hid hl
  obtain ⟨ad, cap, rfl, a1, a2, a3⟩ := hl.form
  have A3 := Lib.hid a3
  clear a3 hl
  unfold maxLen at a2
  by_cases hbig : 256 < ls.length
  · have HV := Lib.hid (show netMayV ls = 12 by unfold netMayV; rw [if_pos (.inl hbig)])
    have hbd : decide ((ls.length : Int) > 256) = true := decide_eq_true (by omega)
    go_enter Try.func18, Try.ntmps18
    go_wp2_with fail
    go_ret
    exact ⟨ret_int HV.out.symm, by (repeat (first | with_reducible exact Ext.refl _ | with_reducible assumption | with_reducible refine Ext.alloc ?_ _ | with_reducible refine Ext.drew ?_ | with_reducible refine Ext.drewN ?_ _ | (with_reducible refine Ext.setCellP ?_ ?_; focus (first | (simp; done) | (simp; omega) | omega))))⟩
  · have hbd : decide ((ls.length : Int) > 256) = false := by simp; omega
    have HX := Lib.hid ((Ext.refl w).alloc (.cells #[Value.slice ad ls.length cap] 24))
    have HB := Lib.hid (Blk.newAt (w := w) (T := 24) [Value.slice ad ls.length cap] rfl)
    by_cases hsz : 4096 < sizeN ls
    · have HV := Lib.hid (show netMayV ls = 12 by unfold netMayV; rw [if_pos (.inr hsz)])
      have hsd : decide ((sizeN ls : Int) > 4096) = true := decide_eq_true (by omega)
      go_enter Try.func18, Try.ntmps18
      go_wp2_with (first
        | (go_at_call 49; (with_reducible refine (r09Size_any _ ls _ (HL.out.later HX.out) hs).mono ?_); rintro e w2 ⟨rfl, hx2⟩; have HX2 := Lib.hid hx2; clear hx2))
      go_ret
      exact ⟨ret_int HV.out.symm, HX.out.trans HX2.out⟩
    · have HV := Lib.hid (show netMayV ls = netG ls.length ls by unfold netMayV; rw [if_neg (by omega)])
      have hsd : decide ((sizeN ls : Int) > 4096) = false := by simp; omega
      go_enter Try.func18, Try.ntmps18
      go_upto_region 3 with (first
        | (go_at_call 49; (with_reducible refine (r09Size_any _ ls _ (HL.out.later HX.out) hs).mono ?_); rintro e w2 ⟨rfl, hx2⟩; have HX2 := Lib.hid (HX.out.trans hx2); have HB2 := Lib.hid (HB.out.later hx2); clear hx2; have hb2c := HB2.out.cells))
      go_wp2_with fail
      go_loopw [3] (fun i wr => ∃ k : Nat, k ≤ ls.length ∧ i = I k ∧ Hid (netG ls.length (ls.drop k) = netMayV ls) ∧ Ext w2 wr) (fun i _ => ls.length - (intOf i).toNat)
      case atStart => exact ⟨0, by omega, rfl, HV.out.symm, Ext.refl _⟩
      case round =>
        obtain ⟨k, hk, rfl, HN, hx⟩ := hrel
        have hbk := (HB2.out.later hx).keep
        have hbc := (HB2.out.later hx).cells
        have HXW := Lib.hid (HX2.out.trans hx)
        by_cases hlt : k < ls.length
        · obtain ⟨b0, o0, u, rfl, p0, hr⟩ := A3.out k ls[k] (List.getElem?_eq_getElem hlt)
          replace p0 := Ext.keep (HXW.out.cell p0)
          have HR := Lib.hid (hr.later HXW.out)
          have HOK := Lib.hid (hok.at hlt)
          have HS := Lib.hid (netG_step ls.length hlt)
          rw [HN.out] at HS
          clear hr
          by_cases hm : tabMayV ls.length ls[k] = 0
          · have hmd : (tabMayV ls.length ls[k] != 0) = false := by simpa using hm
            have HS2 := Lib.hid (HS.out.trans (if_neg (by simpa using hm)))
            clear hm HS HN
            go_wp2_with fail
            refine wp_region_E 9 rfl (by kernel_rfl) (by kernel_rfl) ?_
            refine WE_q 0 rfl (by decide) (by kernel_rfl) rfl ?_; apply Exists.intro; refine ⟨fun w1 hx1 => ?_, ?_⟩
            · have hq1 := hx1.cells; go_simp; try go_bits
              first | with_reducible rfl | (refine (r08May_any _ ls[k] _ _ (HR.out.later hx1) HOK.out).mono ?_; rintro e w2 ⟨rfl, hx2⟩; exact ⟨rfl, hx2⟩)
            simp only [Act.put, List.setIfInBounds_toArray, List.set_cons_zero, List.set_cons_succ]
            refine WE_q 1 rfl (by decide) (by kernel_rfl) rfl ?_; apply Exists.intro; refine ⟨fun w1 hx1 => ?_, ?_⟩
            · have hq1 := hx1.cells; go_simp; try go_bits
              first | with_reducible rfl | (refine (r08May_any _ ls[k] _ _ (HR.out.later hx1) HOK.out).mono ?_; rintro e w2 ⟨rfl, hx2⟩; exact ⟨rfl, hx2⟩)
            simp only [Act.put, List.setIfInBounds_toArray, List.set_cons_zero, List.set_cons_succ]
            refine WE_q 2 rfl (by decide) (by kernel_rfl) rfl ?_; apply Exists.intro; refine ⟨fun w1 hx1 => ?_, ?_⟩
            · have hq1 := hx1.cells; go_simp; try go_bits
              first | with_reducible rfl | (refine (r08May_any _ ls[k] _ _ (HR.out.later hx1) HOK.out).mono ?_; rintro e w2 ⟨rfl, hx2⟩; exact ⟨rfl, hx2⟩)
            simp only [Act.put, List.setIfInBounds_toArray, List.set_cons_zero, List.set_cons_succ]
            refine WE_q 3 rfl (by decide) (by kernel_rfl) rfl ?_; apply Exists.intro; refine ⟨fun w1 hx1 => ?_, ?_⟩
            · have hq1 := hx1.cells; go_simp; try go_bits
              first | with_reducible rfl | (refine (r08May_any _ ls[k] _ _ (HR.out.later hx1) HOK.out).mono ?_; rintro e w2 ⟨rfl, hx2⟩; exact ⟨rfl, hx2⟩)
            simp only [Act.put, List.setIfInBounds_toArray, List.set_cons_zero, List.set_cons_succ]
            refine WE_q 4 rfl (by decide) (by kernel_rfl) rfl ?_; apply Exists.intro; refine ⟨fun w1 hx1 => ?_, ?_⟩
            · have hq1 := hx1.cells; go_simp; try go_bits
              first | with_reducible rfl | (refine (r08May_any _ ls[k] _ _ (HR.out.later hx1) HOK.out).mono ?_; rintro e w2 ⟨rfl, hx2⟩; exact ⟨rfl, hx2⟩)
            simp only [Act.put, List.setIfInBounds_toArray, List.set_cons_zero, List.set_cons_succ]
            refine WE_q 5 rfl (by decide) (by kernel_rfl) rfl ?_; apply Exists.intro; refine ⟨fun w1 hx1 => ?_, ?_⟩
            · have hq1 := hx1.cells; go_simp; try go_bits
              first | with_reducible rfl | (refine (r08May_any _ ls[k] _ _ (HR.out.later hx1) HOK.out).mono ?_; rintro e w2 ⟨rfl, hx2⟩; exact ⟨rfl, hx2⟩)
            simp only [Act.put, List.setIfInBounds_toArray, List.set_cons_zero, List.set_cons_succ]
            refine WE_q 6 rfl (by decide) (by kernel_rfl) rfl ?_; apply Exists.intro; refine ⟨fun w1 hx1 => ?_, ?_⟩
            · have hq1 := hx1.cells; go_simp; try go_bits
              first | with_reducible rfl | (refine (r08May_any _ ls[k] _ _ (HR.out.later hx1) HOK.out).mono ?_; rintro e w2 ⟨rfl, hx2⟩; exact ⟨rfl, hx2⟩)
            simp only [Act.put, List.setIfInBounds_toArray, List.set_cons_zero, List.set_cons_succ]
            refine WE_q 7 rfl (by decide) (by kernel_rfl) rfl ?_; apply Exists.intro; refine ⟨fun w1 hx1 => ?_, ?_⟩
            · have hq1 := hx1.cells; go_simp; try go_bits
              first | with_reducible rfl | (refine (r08May_any _ ls[k] _ _ (HR.out.later hx1) HOK.out).mono ?_; rintro e w2 ⟨rfl, hx2⟩; exact ⟨rfl, hx2⟩)
            simp only [Act.put, List.setIfInBounds_toArray, List.set_cons_zero, List.set_cons_succ]
            refine WE_q 8 rfl (by decide) (by kernel_rfl) rfl ?_; apply Exists.intro; refine ⟨fun w1 hx1 => ?_, ?_⟩
            · have hq1 := hx1.cells; go_simp; try go_bits
              first | with_reducible rfl | (refine (r08May_any _ ls[k] _ _ (HR.out.later hx1) HOK.out).mono ?_; rintro e w2 ⟨rfl, hx2⟩; exact ⟨rfl, hx2⟩)
            simp only [Act.put, List.setIfInBounds_toArray, List.set_cons_zero, List.set_cons_succ]
            refine WE_done (by kernel_rfl) (fun w3 hx3 => ?_)
            (try simp only [List.drop_succ_cons, List.drop_zero])
            have HX3 := Lib.hid hx3
            clear hx3
            go_wp2_with fail
            go_roundw
            case rel => exact ⟨k + 1, by omega, by go_num, HS2.out.symm, hx.trans HX3.out⟩
            case measure => simp [intOf]; omega
          · have hmd : (tabMayV ls.length ls[k] != 0) = true := by simpa using hm
            have HS2 := Lib.hid (HS.out.trans (if_pos hm))
            clear hm HS HN
            go_wp2_with fail
            refine wp_region_E 9 rfl (by kernel_rfl) (by kernel_rfl) ?_
            refine WE_q 0 rfl (by decide) (by kernel_rfl) rfl ?_; apply Exists.intro; refine ⟨fun w1 hx1 => ?_, ?_⟩
            · have hq1 := hx1.cells; go_simp; try go_bits
              first | with_reducible rfl | (refine (r08May_any _ ls[k] _ _ (HR.out.later hx1) HOK.out).mono ?_; rintro e w2 ⟨rfl, hx2⟩; exact ⟨rfl, hx2⟩)
            simp only [Act.put, List.setIfInBounds_toArray, List.set_cons_zero, List.set_cons_succ]
            refine WE_q 1 rfl (by decide) (by kernel_rfl) rfl ?_; apply Exists.intro; refine ⟨fun w1 hx1 => ?_, ?_⟩
            · have hq1 := hx1.cells; go_simp; try go_bits
              first | with_reducible rfl | (refine (r08May_any _ ls[k] _ _ (HR.out.later hx1) HOK.out).mono ?_; rintro e w2 ⟨rfl, hx2⟩; exact ⟨rfl, hx2⟩)
            simp only [Act.put, List.setIfInBounds_toArray, List.set_cons_zero, List.set_cons_succ]
            refine WE_q 2 rfl (by decide) (by kernel_rfl) rfl ?_; apply Exists.intro; refine ⟨fun w1 hx1 => ?_, ?_⟩
            · have hq1 := hx1.cells; go_simp; try go_bits
              first | with_reducible rfl | (refine (r08May_any _ ls[k] _ _ (HR.out.later hx1) HOK.out).mono ?_; rintro e w2 ⟨rfl, hx2⟩; exact ⟨rfl, hx2⟩)
            simp only [Act.put, List.setIfInBounds_toArray, List.set_cons_zero, List.set_cons_succ]
            refine WE_q 3 rfl (by decide) (by kernel_rfl) rfl ?_; apply Exists.intro; refine ⟨fun w1 hx1 => ?_, ?_⟩
            · have hq1 := hx1.cells; go_simp; try go_bits
              first | with_reducible rfl | (refine (r08May_any _ ls[k] _ _ (HR.out.later hx1) HOK.out).mono ?_; rintro e w2 ⟨rfl, hx2⟩; exact ⟨rfl, hx2⟩)
            simp only [Act.put, List.setIfInBounds_toArray, List.set_cons_zero, List.set_cons_succ]
            refine WE_q 4 rfl (by decide) (by kernel_rfl) rfl ?_; apply Exists.intro; refine ⟨fun w1 hx1 => ?_, ?_⟩
            · have hq1 := hx1.cells; go_simp; try go_bits
              first | with_reducible rfl | (refine (r08May_any _ ls[k] _ _ (HR.out.later hx1) HOK.out).mono ?_; rintro e w2 ⟨rfl, hx2⟩; exact ⟨rfl, hx2⟩)
            simp only [Act.put, List.setIfInBounds_toArray, List.set_cons_zero, List.set_cons_succ]
            refine WE_q 5 rfl (by decide) (by kernel_rfl) rfl ?_; apply Exists.intro; refine ⟨fun w1 hx1 => ?_, ?_⟩
            · have hq1 := hx1.cells; go_simp; try go_bits
              first | with_reducible rfl | (refine (r08May_any _ ls[k] _ _ (HR.out.later hx1) HOK.out).mono ?_; rintro e w2 ⟨rfl, hx2⟩; exact ⟨rfl, hx2⟩)
            simp only [Act.put, List.setIfInBounds_toArray, List.set_cons_zero, List.set_cons_succ]
            refine WE_q 6 rfl (by decide) (by kernel_rfl) rfl ?_; apply Exists.intro; refine ⟨fun w1 hx1 => ?_, ?_⟩
            · have hq1 := hx1.cells; go_simp; try go_bits
              first | with_reducible rfl | (refine (r08May_any _ ls[k] _ _ (HR.out.later hx1) HOK.out).mono ?_; rintro e w2 ⟨rfl, hx2⟩; exact ⟨rfl, hx2⟩)
            simp only [Act.put, List.setIfInBounds_toArray, List.set_cons_zero, List.set_cons_succ]
            refine WE_q 7 rfl (by decide) (by kernel_rfl) rfl ?_; apply Exists.intro; refine ⟨fun w1 hx1 => ?_, ?_⟩
            · have hq1 := hx1.cells; go_simp; try go_bits
              first | with_reducible rfl | (refine (r08May_any _ ls[k] _ _ (HR.out.later hx1) HOK.out).mono ?_; rintro e w2 ⟨rfl, hx2⟩; exact ⟨rfl, hx2⟩)
            simp only [Act.put, List.setIfInBounds_toArray, List.set_cons_zero, List.set_cons_succ]
            refine WE_q 8 rfl (by decide) (by kernel_rfl) rfl ?_; apply Exists.intro; refine ⟨fun w1 hx1 => ?_, ?_⟩
            · have hq1 := hx1.cells; go_simp; try go_bits
              first | with_reducible rfl | (refine (r08May_any _ ls[k] _ _ (HR.out.later hx1) HOK.out).mono ?_; rintro e w2 ⟨rfl, hx2⟩; exact ⟨rfl, hx2⟩)
            simp only [Act.put, List.setIfInBounds_toArray, List.set_cons_zero, List.set_cons_succ]
            refine WE_done (by kernel_rfl) (fun w3 hx3 => ?_)
            (try simp only [List.drop_succ_cons, List.drop_zero])
            have HX3 := Lib.hid hx3
            clear hx3
            go_wp2_with fail
            go_ret
            exact ⟨ret_int HS2.out.symm, HXW.out.trans HX3.out⟩
        · have HE := Lib.hid (HN.out.symm.trans (netG_end ls.length (ls := ls) (k := k) (by omega)))
          go_wp2_with fail
          go_ret
          exact ⟨ret_int HE.out.symm, HXW.out⟩
end Go.Proofs.Ytilaljdokpdcoaa
