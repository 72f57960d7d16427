/- Which tables may be: the program's and the reference's answers. Conditions: whole numbers are within 64 bits. -/
import Derived.Test.YtilaljdokpdcoaaMay
namespace Go.Proofs.Ytilaljdokpdcoaa
open Go.RowKit

def badOrd (p : Option Rul) (r : Rul) : Bool :=
  match p with
  | none => false
  | some q => cmpV r.pa r.pl q.pa q.pl != 1
def tabG (nodes : Int) : Option Rul → List Rul → Int
  | _, [] => 0
  | p, r :: l => if ruleMayV r nodes ≠ 0 then ruleMayV r nodes else if badOrd p r then 11 else tabG nodes (some r) l
def tabMayV (nodes : Int) (l : List Rul) : Int := tabG nodes none l
/-- The rule ahead of place k. -/
def ahead (l : List Rul) : Nat → Option Rul
  | 0 => none
  | k + 1 => l[k]?
theorem tab_step (nodes : Int) {l : List Rul} {k : Nat} (h : k < l.length) : tabG nodes (ahead l k) (l.drop k) =
    if ruleMayV l[k] nodes ≠ 0 then ruleMayV l[k] nodes else if badOrd (ahead l k) l[k] then 11 else tabG nodes (ahead l (k + 1)) (l.drop (k + 1)) := by
  rw [List.drop_eq_getElem_cons h]
  have e : ahead l (k + 1) = some l[k] := by unfold ahead; exact List.getElem?_eq_getElem h
  rw [e]; rfl
theorem tab_end (nodes : Int) {l : List Rul} {k : Nat} (h : l.length ≤ k) (p : Option Rul) : tabG nodes p (l.drop k) = 0 := by
  rw [List.drop_of_length_le h]; cases p <;> rfl
set_option maxHeartbeats 2000000 in
theorem tableMay_any (lv : Value) (l : List Rul) (nodes : Int) (w : World) (hl : RulesAt w lv l) (hok : RulesOk l) :
    Calls Try.prog 61 #[lv, I nodes] w fun e w' => e = .returned (I (tabMayV nodes l)) ∧ Ext w w' := by
  obtain ⟨ad, cap, rfl, a1, a2, a3⟩ := hl.form
  have A3 := Lib.hid a3
  clear a3
  unfold maxLen at a2
  go_enter Try.func61, Try.ntmps61
  go_wp2_with fail
  go_loopw [10] (fun i wr => ∃ k : Nat, k ≤ l.length ∧ i = I k ∧ Hid (tabG nodes (ahead l k) (l.drop k) = tabMayV nodes l) ∧ Ext w wr) (fun i _ => l.length - (intOf i).toNat)
  case atStart => exact ⟨0, by omega, rfl, rfl, Ext.refl _⟩
  case round =>
    obtain ⟨k, hk, rfl, HV, hx⟩ := hrel
    by_cases hlt : k < l.length
    · obtain ⟨b0, o0, rfl, p0, p1, p2, p3⟩ := A3.out k l[k] (List.getElem?_eq_getElem hlt)
      replace p0 := hx.cell p0
      replace p1 := hx.cell p1
      replace p2 := hx.cell p2
      replace p3 := hx.cell p3
      have HS := Lib.hid (tab_step nodes hlt)
      rw [HV.out] at HS
      have HOK := Lib.hid (hok l[k] (List.getElem_mem hlt))
      have HW := Lib.hid (hx.alloc (.cells l[k].cells.toArray 42))
      by_cases hm : ruleMayV l[k] nodes = 0
      · have hmd : (ruleMayV l[k] nodes != 0) = false := by simpa using hm
        have HS2 := Lib.hid (show tabMayV nodes l = if badOrd (ahead l k) l[k] then 11 else tabG nodes (ahead l (k + 1)) (l.drop (k + 1)) by rw [HS.out, if_neg (by simpa using hm)])
        clear hm HS HV
        cases k with
        | zero =>
          simp only [Nat.zero_mul, Nat.add_zero] at p0 p1 p2 p3
          have HS3 := Lib.hid (show tabG nodes (ahead l (0 + 1)) (l.drop (0 + 1)) = tabMayV nodes l from HS2.out.symm)
          clear HS2
          go_wp2_with (first
            | (go_at_call 75; with_reducible refine (ruleMay_any l[0] nodes _ HOK.out).mono ?_; rintro e w2 ⟨rfl, hx2⟩))
          refine wp_region_E 11 rfl (by kernel_rfl) (by kernel_rfl) ?_
          refine WE_q 0 rfl (by decide) (by kernel_rfl) rfl ?_; apply Exists.intro; refine ⟨fun w1 hx1 => ?_, ?_⟩
          · have hq1 := hx1.cells; go_simp; try go_bits
            first | with_reducible rfl
          simp only [Act.put, List.setIfInBounds_toArray, List.set_cons_zero, List.set_cons_succ]
          refine WE_q 1 rfl (by decide) (by kernel_rfl) rfl ?_; apply Exists.intro; refine ⟨fun w1 hx1 => ?_, ?_⟩
          · have hq1 := hx1.cells; go_simp; try go_bits
            first | with_reducible rfl
          simp only [Act.put, List.setIfInBounds_toArray, List.set_cons_zero, List.set_cons_succ]
          refine WE_q 2 rfl (by decide) (by kernel_rfl) rfl ?_; apply Exists.intro; refine ⟨fun w1 hx1 => ?_, ?_⟩
          · have hq1 := hx1.cells; go_simp; try go_bits
            first | with_reducible rfl
          simp only [Act.put, List.setIfInBounds_toArray, List.set_cons_zero, List.set_cons_succ]
          refine WE_s 3 rfl (by decide) (by kernel_rfl) rfl ?_
          simp only [Act.put, List.setIfInBounds_toArray, List.set_cons_zero, List.set_cons_succ]
          refine WE_s 4 rfl (by decide) (by kernel_rfl) rfl ?_
          simp only [Act.put, List.setIfInBounds_toArray, List.set_cons_zero, List.set_cons_succ]
          refine WE_s 5 rfl (by decide) (by kernel_rfl) rfl ?_
          simp only [Act.put, List.setIfInBounds_toArray, List.set_cons_zero, List.set_cons_succ]
          refine WE_s 6 rfl (by decide) (by kernel_rfl) rfl ?_
          simp only [Act.put, List.setIfInBounds_toArray, List.set_cons_zero, List.set_cons_succ]
          refine WE_s 7 rfl (by decide) (by kernel_rfl) rfl ?_
          simp only [Act.put, List.setIfInBounds_toArray, List.set_cons_zero, List.set_cons_succ]
          refine WE_s 8 rfl (by decide) (by kernel_rfl) rfl ?_
          simp only [Act.put, List.setIfInBounds_toArray, List.set_cons_zero, List.set_cons_succ]
          refine WE_s 9 rfl (by decide) (by kernel_rfl) rfl ?_
          simp only [Act.put, List.setIfInBounds_toArray, List.set_cons_zero, List.set_cons_succ]
          refine WE_s 10 rfl (by decide) (by kernel_rfl) rfl ?_
          simp only [Act.put, List.setIfInBounds_toArray, List.set_cons_zero, List.set_cons_succ]
          refine WE_done (by kernel_rfl) (fun w3 hx3 => ?_)
          (try simp only [List.drop_succ_cons, List.drop_zero])
          go_wp2
          go_roundw
          case rel => exact ⟨1, by omega, by go_num, HS3.out, HW.out.trans (hx2.trans hx3)⟩
          case measure => simp [intOf]; omega
        | succ p =>
          have hpl : p < l.length := by omega
          obtain ⟨b1, o1, hbb, q0, q1, q2, q3⟩ := A3.out p l[p] (List.getElem?_eq_getElem hpl)
          obtain ⟨rfl, rfl⟩ : b0 = b1 ∧ o0 = o1 := by simpa using hbb
          replace q0 := hx.cell q0
          replace q1 := hx.cell q1
          replace q2 := hx.cell q2
          replace q3 := hx.cell q3
          clear hbb
          have HA := Lib.hid (show ahead l (p + 1) = some l[p] by unfold ahead; exact List.getElem?_eq_getElem hpl)
          have HS4 := Lib.hid (show tabMayV nodes l = if (cmpV l[p + 1].pa l[p + 1].pl l[p].pa l[p].pl != 1) = true then 11 else tabG nodes (ahead l (p + 1 + 1)) (l.drop (p + 1 + 1)) by
            rw [HS2.out, HA.out]; rfl)
          clear HS2 HA
          go_wp2_with (first
            | (go_at_call 75; with_reducible refine (ruleMay_any l[p + 1] nodes _ HOK.out).mono ?_; rintro e w2 ⟨rfl, hx2⟩))
          have HX2 := HW.out.trans hx2
          have k0 := Ext.keep (hx2.cell (((Ext.refl wr).alloc _).cell q0))
          have k1 := Ext.keep (hx2.cell (((Ext.refl wr).alloc _).cell q1))
          have k2 := Ext.keep (hx2.cell (((Ext.refl wr).alloc _).cell q2))
          have k3 := Ext.keep (hx2.cell (((Ext.refl wr).alloc _).cell q3))
          have hb4 := ((Blk.newAt (w := wr) l[p + 1].cells rfl).later hx2).keep
          by_cases hc : (cmpV l[p + 1].pa l[p + 1].pl l[p].pa l[p].pl != 1) = true
          · have HS5 := Lib.hid (HS4.out.trans (if_pos hc))
            clear HS4
            refine wp_region_E 11 rfl (by kernel_rfl) (by kernel_rfl) ?_
            refine WE_q 0 rfl (by decide) (by kernel_rfl) rfl ?_; apply Exists.intro; refine ⟨fun w1 hx1 => ?_, ?_⟩
            · have hq1 := hx1.cells; go_simp; try go_bits
              first | with_reducible rfl | (refine (ruleCompare_any l[p + 1] l[p] _).mono ?_; rintro e w2 ⟨rfl, hx2⟩; exact ⟨rfl, hx2⟩)
            simp only [Act.put, List.setIfInBounds_toArray, List.set_cons_zero, List.set_cons_succ]
            refine WE_q 1 rfl (by decide) (by kernel_rfl) rfl ?_; apply Exists.intro; refine ⟨fun w1 hx1 => ?_, ?_⟩
            · have hq1 := hx1.cells; go_simp; try go_bits
              first | with_reducible rfl | (refine (ruleCompare_any l[p + 1] l[p] _).mono ?_; rintro e w2 ⟨rfl, hx2⟩; exact ⟨rfl, hx2⟩)
            simp only [Act.put, List.setIfInBounds_toArray, List.set_cons_zero, List.set_cons_succ]
            refine WE_q 2 rfl (by decide) (by kernel_rfl) rfl ?_; apply Exists.intro; refine ⟨fun w1 hx1 => ?_, ?_⟩
            · have hq1 := hx1.cells; go_simp; try go_bits
              first | with_reducible rfl | (refine (ruleCompare_any l[p + 1] l[p] _).mono ?_; rintro e w2 ⟨rfl, hx2⟩; exact ⟨rfl, hx2⟩)
            simp only [Act.put, List.setIfInBounds_toArray, List.set_cons_zero, List.set_cons_succ]
            refine WE_q 3 rfl (by decide) (by kernel_rfl) rfl ?_; apply Exists.intro; refine ⟨fun w1 hx1 => ?_, ?_⟩
            · have hq1 := hx1.cells; go_simp; try go_bits
              first | with_reducible rfl | (refine (ruleCompare_any l[p + 1] l[p] _).mono ?_; rintro e w2 ⟨rfl, hx2⟩; exact ⟨rfl, hx2⟩)
            simp only [Act.put, List.setIfInBounds_toArray, List.set_cons_zero, List.set_cons_succ]
            refine WE_q 4 rfl (by decide) (by kernel_rfl) rfl ?_; apply Exists.intro; refine ⟨fun w1 hx1 => ?_, ?_⟩
            · have hq1 := hx1.cells; go_simp; try go_bits
              first | with_reducible rfl | (refine (ruleCompare_any l[p + 1] l[p] _).mono ?_; rintro e w2 ⟨rfl, hx2⟩; exact ⟨rfl, hx2⟩)
            simp only [Act.put, List.setIfInBounds_toArray, List.set_cons_zero, List.set_cons_succ]
            refine WE_q 5 rfl (by decide) (by kernel_rfl) rfl ?_; apply Exists.intro; refine ⟨fun w1 hx1 => ?_, ?_⟩
            · have hq1 := hx1.cells; go_simp; try go_bits
              first | with_reducible rfl | (refine (ruleCompare_any l[p + 1] l[p] _).mono ?_; rintro e w2 ⟨rfl, hx2⟩; exact ⟨rfl, hx2⟩)
            simp only [Act.put, List.setIfInBounds_toArray, List.set_cons_zero, List.set_cons_succ]
            refine WE_q 6 rfl (by decide) (by kernel_rfl) rfl ?_; apply Exists.intro; refine ⟨fun w1 hx1 => ?_, ?_⟩
            · have hq1 := hx1.cells; go_simp; try go_bits
              first | with_reducible rfl | (refine (ruleCompare_any l[p + 1] l[p] _).mono ?_; rintro e w2 ⟨rfl, hx2⟩; exact ⟨rfl, hx2⟩)
            simp only [Act.put, List.setIfInBounds_toArray, List.set_cons_zero, List.set_cons_succ]
            refine WE_q 7 rfl (by decide) (by kernel_rfl) rfl ?_; apply Exists.intro; refine ⟨fun w1 hx1 => ?_, ?_⟩
            · have hq1 := hx1.cells; go_simp; try go_bits
              first | with_reducible rfl | (refine (ruleCompare_any l[p + 1] l[p] _).mono ?_; rintro e w2 ⟨rfl, hx2⟩; exact ⟨rfl, hx2⟩)
            simp only [Act.put, List.setIfInBounds_toArray, List.set_cons_zero, List.set_cons_succ]
            refine WE_q 8 rfl (by decide) (by kernel_rfl) rfl ?_; apply Exists.intro; refine ⟨fun w1 hx1 => ?_, ?_⟩
            · have hq1 := hx1.cells; go_simp; try go_bits
              first | with_reducible rfl | (refine (ruleCompare_any l[p + 1] l[p] _).mono ?_; rintro e w2 ⟨rfl, hx2⟩; exact ⟨rfl, hx2⟩)
            simp only [Act.put, List.setIfInBounds_toArray, List.set_cons_zero, List.set_cons_succ]
            refine WE_q 9 rfl (by decide) (by kernel_rfl) rfl ?_; apply Exists.intro; refine ⟨fun w1 hx1 => ?_, ?_⟩
            · have hq1 := hx1.cells; go_simp; try go_bits
              first | with_reducible rfl | (refine (ruleCompare_any l[p + 1] l[p] _).mono ?_; rintro e w2 ⟨rfl, hx2⟩; exact ⟨rfl, hx2⟩)
            simp only [Act.put, List.setIfInBounds_toArray, List.set_cons_zero, List.set_cons_succ]
            refine WE_q 10 rfl (by decide) (by kernel_rfl) rfl ?_; apply Exists.intro; refine ⟨fun w1 hx1 => ?_, ?_⟩
            · have hq1 := hx1.cells; go_simp; try go_bits
              first | with_reducible rfl | (refine (ruleCompare_any l[p + 1] l[p] _).mono ?_; rintro e w2 ⟨rfl, hx2⟩; exact ⟨rfl, hx2⟩)
            simp only [Act.put, List.setIfInBounds_toArray, List.set_cons_zero, List.set_cons_succ]
            refine WE_done (by kernel_rfl) (fun w3 hx3 => ?_)
            (try simp only [List.drop_succ_cons, List.drop_zero])
            go_wp2
            go_ret
            exact ⟨ret_int HS5.out.symm, HX2.trans hx3⟩
          · have hcf : (cmpV l[p + 1].pa l[p + 1].pl l[p].pa l[p].pl != 1) = false := by simpa using hc
            have HS5 := Lib.hid (HS4.out.trans (if_neg hc))
            clear HS4 hc
            refine wp_region_E 11 rfl (by kernel_rfl) (by kernel_rfl) ?_
            refine WE_q 0 rfl (by decide) (by kernel_rfl) rfl ?_; apply Exists.intro; refine ⟨fun w1 hx1 => ?_, ?_⟩
            · have hq1 := hx1.cells; go_simp; try go_bits
              first | with_reducible rfl | (refine (ruleCompare_any l[p + 1] l[p] _).mono ?_; rintro e w2 ⟨rfl, hx2⟩; exact ⟨rfl, hx2⟩)
            simp only [Act.put, List.setIfInBounds_toArray, List.set_cons_zero, List.set_cons_succ]
            refine WE_q 1 rfl (by decide) (by kernel_rfl) rfl ?_; apply Exists.intro; refine ⟨fun w1 hx1 => ?_, ?_⟩
            · have hq1 := hx1.cells; go_simp; try go_bits
              first | with_reducible rfl | (refine (ruleCompare_any l[p + 1] l[p] _).mono ?_; rintro e w2 ⟨rfl, hx2⟩; exact ⟨rfl, hx2⟩)
            simp only [Act.put, List.setIfInBounds_toArray, List.set_cons_zero, List.set_cons_succ]
            refine WE_q 2 rfl (by decide) (by kernel_rfl) rfl ?_; apply Exists.intro; refine ⟨fun w1 hx1 => ?_, ?_⟩
            · have hq1 := hx1.cells; go_simp; try go_bits
              first | with_reducible rfl | (refine (ruleCompare_any l[p + 1] l[p] _).mono ?_; rintro e w2 ⟨rfl, hx2⟩; exact ⟨rfl, hx2⟩)
            simp only [Act.put, List.setIfInBounds_toArray, List.set_cons_zero, List.set_cons_succ]
            refine WE_q 3 rfl (by decide) (by kernel_rfl) rfl ?_; apply Exists.intro; refine ⟨fun w1 hx1 => ?_, ?_⟩
            · have hq1 := hx1.cells; go_simp; try go_bits
              first | with_reducible rfl | (refine (ruleCompare_any l[p + 1] l[p] _).mono ?_; rintro e w2 ⟨rfl, hx2⟩; exact ⟨rfl, hx2⟩)
            simp only [Act.put, List.setIfInBounds_toArray, List.set_cons_zero, List.set_cons_succ]
            refine WE_q 4 rfl (by decide) (by kernel_rfl) rfl ?_; apply Exists.intro; refine ⟨fun w1 hx1 => ?_, ?_⟩
            · have hq1 := hx1.cells; go_simp; try go_bits
              first | with_reducible rfl | (refine (ruleCompare_any l[p + 1] l[p] _).mono ?_; rintro e w2 ⟨rfl, hx2⟩; exact ⟨rfl, hx2⟩)
            simp only [Act.put, List.setIfInBounds_toArray, List.set_cons_zero, List.set_cons_succ]
            refine WE_q 5 rfl (by decide) (by kernel_rfl) rfl ?_; apply Exists.intro; refine ⟨fun w1 hx1 => ?_, ?_⟩
            · have hq1 := hx1.cells; go_simp; try go_bits
              first | with_reducible rfl | (refine (ruleCompare_any l[p + 1] l[p] _).mono ?_; rintro e w2 ⟨rfl, hx2⟩; exact ⟨rfl, hx2⟩)
            simp only [Act.put, List.setIfInBounds_toArray, List.set_cons_zero, List.set_cons_succ]
            refine WE_q 6 rfl (by decide) (by kernel_rfl) rfl ?_; apply Exists.intro; refine ⟨fun w1 hx1 => ?_, ?_⟩
            · have hq1 := hx1.cells; go_simp; try go_bits
              first | with_reducible rfl | (refine (ruleCompare_any l[p + 1] l[p] _).mono ?_; rintro e w2 ⟨rfl, hx2⟩; exact ⟨rfl, hx2⟩)
            simp only [Act.put, List.setIfInBounds_toArray, List.set_cons_zero, List.set_cons_succ]
            refine WE_q 7 rfl (by decide) (by kernel_rfl) rfl ?_; apply Exists.intro; refine ⟨fun w1 hx1 => ?_, ?_⟩
            · have hq1 := hx1.cells; go_simp; try go_bits
              first | with_reducible rfl | (refine (ruleCompare_any l[p + 1] l[p] _).mono ?_; rintro e w2 ⟨rfl, hx2⟩; exact ⟨rfl, hx2⟩)
            simp only [Act.put, List.setIfInBounds_toArray, List.set_cons_zero, List.set_cons_succ]
            refine WE_q 8 rfl (by decide) (by kernel_rfl) rfl ?_; apply Exists.intro; refine ⟨fun w1 hx1 => ?_, ?_⟩
            · have hq1 := hx1.cells; go_simp; try go_bits
              first | with_reducible rfl | (refine (ruleCompare_any l[p + 1] l[p] _).mono ?_; rintro e w2 ⟨rfl, hx2⟩; exact ⟨rfl, hx2⟩)
            simp only [Act.put, List.setIfInBounds_toArray, List.set_cons_zero, List.set_cons_succ]
            refine WE_q 9 rfl (by decide) (by kernel_rfl) rfl ?_; apply Exists.intro; refine ⟨fun w1 hx1 => ?_, ?_⟩
            · have hq1 := hx1.cells; go_simp; try go_bits
              first | with_reducible rfl | (refine (ruleCompare_any l[p + 1] l[p] _).mono ?_; rintro e w2 ⟨rfl, hx2⟩; exact ⟨rfl, hx2⟩)
            simp only [Act.put, List.setIfInBounds_toArray, List.set_cons_zero, List.set_cons_succ]
            refine WE_q 10 rfl (by decide) (by kernel_rfl) rfl ?_; apply Exists.intro; refine ⟨fun w1 hx1 => ?_, ?_⟩
            · have hq1 := hx1.cells; go_simp; try go_bits
              first | with_reducible rfl | (refine (ruleCompare_any l[p + 1] l[p] _).mono ?_; rintro e w2 ⟨rfl, hx2⟩; exact ⟨rfl, hx2⟩)
            simp only [Act.put, List.setIfInBounds_toArray, List.set_cons_zero, List.set_cons_succ]
            refine WE_done (by kernel_rfl) (fun w3 hx3 => ?_)
            (try simp only [List.drop_succ_cons, List.drop_zero])
            go_wp2
            go_roundw
            case rel => exact ⟨p + 1 + 1, by omega, by go_num, HS5.out.symm, HX2.trans hx3⟩
            case measure => simp [intOf]; omega
      · have hmd : (ruleMayV l[k] nodes != 0) = true := by simpa using hm
        have HS2 := Lib.hid (show ruleMayV l[k] nodes = tabMayV nodes l by rw [HS.out, if_pos (by simpa using hm)])
        clear hm HS HV
        go_wp2_with (first
          | (go_at_call 75; with_reducible refine (ruleMay_any l[k] nodes _ HOK.out).mono ?_; rintro e w2 ⟨rfl, hx2⟩))
        go_ret
        exact ⟨ret_int HS2.out, HW.out.trans hx2⟩
    · have HE := Lib.hid (show tabMayV nodes l = 0 by rw [← HV.out, tab_end nodes (by omega)])
      go_wp2
      go_ret
      exact ⟨ret_int HE.out.symm, hx⟩
end Go.Proofs.Ytilaljdokpdcoaa
