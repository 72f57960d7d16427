/- How vectors stand, and which may be, by the reference; and numbers made a vector that may be. Conditions: whole numbers are within 64 bits. -/
import Derived.Test.YtilaljdokpdcoaaVecCmp
import Derived.Test.YtilaljdokpdcoaaRule
namespace Go.Proofs.Ytilaljdokpdcoaa
open Go.RowKit

set_option maxHeartbeats 1000000 in
theorem r13Compare_any (va vb : Value) (la lb : List Int) (w : World) (ha : IntsAt w va la) (hb : IntsAt w vb lb) :
    Calls Try.prog 28 #[va, vb] w fun e w' => e = .returned (I (cmpL la lb)) ∧ Ext w w' := by
  obtain ⟨a, cap, rfl, a1, a2, a3⟩ := ha.form
  obtain ⟨b, cap', rfl, b1, b2, b3⟩ := hb.form
  have A3 := Lib.hid a3
  have B3 := Lib.hid b3
  clear a3 b3
  unfold maxLen at a2 b2
  rcases cmpI_cases la.length lb.length with ⟨hl, he⟩ | ⟨hl, he⟩ | ⟨hl, he⟩
  · have HC := Lib.hid (show cmpL la lb = -1 by unfold cmpL; rw [he]; rfl)
    have hne : ((la.length : Int) != lb.length) = true := by simp; omega
    have hd : decide ((la.length : Int) < lb.length) = true := decide_eq_true hl
    have hdn : decide (la.length < lb.length) = true := decide_eq_true (by omega)
    clear he
    go_enter Try.func28, Try.ntmps28
    go_wp2_with fail
    go_ret
    exact ⟨ret_int HC.out.symm, Ext.refl _⟩
  · have HL := Lib.hid (show la.length = lb.length by omega)
    have hne : ((la.length : Int) != lb.length) = false := by simp; omega
    have HC := Lib.hid (show cmpL la lb = cmpG la lb by unfold cmpL; rw [he]; simp)
    clear he hl
    go_enter Try.func28, Try.ntmps28
    go_wp2_with fail
    go_loopw [5] (fun i wr => ∃ k : Nat, k ≤ la.length ∧ i = I k ∧ Hid (cmpG (la.drop k) (lb.drop k) = cmpL la lb) ∧ Ext w wr) (fun i _ => la.length - (intOf i).toNat)
    case atStart => exact ⟨0, by omega, rfl, HC.out.symm, Ext.refl w⟩
    case round =>
      obtain ⟨k, hk, rfl, HG, hx⟩ := hrel
      by_cases hlt : k < la.length
      · obtain ⟨b0, o0, rfl, p0⟩ := A3.out k la[k] (List.getElem?_eq_getElem hlt)
        have hlt' : k < lb.length := by rw [← HL.out]; exact hlt
        obtain ⟨b1, o1, rfl, q0⟩ := B3.out k lb[k] (List.getElem?_eq_getElem hlt')
        have p1 := Ext.keep (hx.cell p0)
        have q1 := Ext.keep (hx.cell q0)
        have HS := Lib.hid (cmpG_step hlt hlt')
        rw [HG.out] at HS
        clear HG
        rcases cmpI_cases la[k] lb[k] with ⟨g, f⟩ | ⟨g, f⟩ | ⟨g, f⟩
        · have HS2 := Lib.hid (HS.out.trans (if_pos (by omega)))
          rw [f] at HS2
          have hd : decide (la[k] < lb[k]) = true := decide_eq_true g
          clear HS g f
          go_wp2_with fail
          refine wp_region_E 8 rfl (by kernel_rfl) (by kernel_rfl) ?_
          refine WE_q 0 rfl (by decide) (by kernel_rfl) rfl ?_; apply Exists.intro; refine ⟨fun w1 hx1 => ?_, ?_⟩
          · have hq1 := hx1.cells; go_simp; try go_bits
            first | with_reducible rfl
          simp only [Act.put, List.setIfInBounds_toArray, List.set_cons_zero, List.set_cons_succ]
          refine WE_q 1 rfl (by decide) (by kernel_rfl) rfl ?_; apply Exists.intro; refine ⟨fun w1 hx1 => ?_, ?_⟩
          · have hq1 := hx1.cells; go_simp; try go_bits
            first | with_reducible rfl
          simp only [Act.put, List.setIfInBounds_toArray, List.set_cons_zero, List.set_cons_succ]
          refine WE_q 2 rfl (by decide) (by kernel_rfl) rfl ?_; apply Exists.intro; refine ⟨fun w1 hx1 => ?_, ?_⟩
          · have hq1 := hx1.cells; go_simp; try go_bits
            first | with_reducible rfl
          simp only [Act.put, List.setIfInBounds_toArray, List.set_cons_zero, List.set_cons_succ]
          refine WE_q 3 rfl (by decide) (by kernel_rfl) rfl ?_; apply Exists.intro; refine ⟨fun w1 hx1 => ?_, ?_⟩
          · have hq1 := hx1.cells; go_simp; try go_bits
            first | with_reducible rfl
          simp only [Act.put, List.setIfInBounds_toArray, List.set_cons_zero, List.set_cons_succ]
          refine WE_q 4 rfl (by decide) (by kernel_rfl) rfl ?_; apply Exists.intro; refine ⟨fun w1 hx1 => ?_, ?_⟩
          · have hq1 := hx1.cells; go_simp; try go_bits
            first | with_reducible rfl
          simp only [Act.put, List.setIfInBounds_toArray, List.set_cons_zero, List.set_cons_succ]
          refine WE_q 5 rfl (by decide) (by kernel_rfl) rfl ?_; apply Exists.intro; refine ⟨fun w1 hx1 => ?_, ?_⟩
          · have hq1 := hx1.cells; go_simp; try go_bits
            first | with_reducible rfl
          simp only [Act.put, List.setIfInBounds_toArray, List.set_cons_zero, List.set_cons_succ]
          refine WE_q 6 rfl (by decide) (by kernel_rfl) rfl ?_; apply Exists.intro; refine ⟨fun w1 hx1 => ?_, ?_⟩
          · have hq1 := hx1.cells; go_simp; try go_bits
            first | with_reducible rfl
          simp only [Act.put, List.setIfInBounds_toArray, List.set_cons_zero, List.set_cons_succ]
          refine WE_q 7 rfl (by decide) (by kernel_rfl) rfl ?_; apply Exists.intro; refine ⟨fun w1 hx1 => ?_, ?_⟩
          · have hq1 := hx1.cells; go_simp; try go_bits
            first | with_reducible rfl
          simp only [Act.put, List.setIfInBounds_toArray, List.set_cons_zero, List.set_cons_succ]
          refine WE_done (by kernel_rfl) (fun w3 hx3 => ?_)
          (try simp only [List.drop_succ_cons, List.drop_zero])
          go_wp2_with fail
          go_ret
          exact ⟨ret_int HS2.out.symm, hx.trans hx3⟩
        · have HS2 := Lib.hid (HS.out.trans (if_neg (by omega)))
          have hd : decide (la[k] < lb[k]) = false := decide_eq_false (by omega)
          have hd2 : decide (lb[k] < la[k]) = false := decide_eq_false (by omega)
          clear HS g f
          go_wp2_with fail
          refine wp_region_E 8 rfl (by kernel_rfl) (by kernel_rfl) ?_
          refine WE_q 0 rfl (by decide) (by kernel_rfl) rfl ?_; apply Exists.intro; refine ⟨fun w1 hx1 => ?_, ?_⟩
          · have hq1 := hx1.cells; go_simp; try go_bits
            first | with_reducible rfl
          simp only [Act.put, List.setIfInBounds_toArray, List.set_cons_zero, List.set_cons_succ]
          refine WE_q 1 rfl (by decide) (by kernel_rfl) rfl ?_; apply Exists.intro; refine ⟨fun w1 hx1 => ?_, ?_⟩
          · have hq1 := hx1.cells; go_simp; try go_bits
            first | with_reducible rfl
          simp only [Act.put, List.setIfInBounds_toArray, List.set_cons_zero, List.set_cons_succ]
          refine WE_q 2 rfl (by decide) (by kernel_rfl) rfl ?_; apply Exists.intro; refine ⟨fun w1 hx1 => ?_, ?_⟩
          · have hq1 := hx1.cells; go_simp; try go_bits
            first | with_reducible rfl
          simp only [Act.put, List.setIfInBounds_toArray, List.set_cons_zero, List.set_cons_succ]
          refine WE_q 3 rfl (by decide) (by kernel_rfl) rfl ?_; apply Exists.intro; refine ⟨fun w1 hx1 => ?_, ?_⟩
          · have hq1 := hx1.cells; go_simp; try go_bits
            first | with_reducible rfl
          simp only [Act.put, List.setIfInBounds_toArray, List.set_cons_zero, List.set_cons_succ]
          refine WE_q 4 rfl (by decide) (by kernel_rfl) rfl ?_; apply Exists.intro; refine ⟨fun w1 hx1 => ?_, ?_⟩
          · have hq1 := hx1.cells; go_simp; try go_bits
            first | with_reducible rfl
          simp only [Act.put, List.setIfInBounds_toArray, List.set_cons_zero, List.set_cons_succ]
          refine WE_q 5 rfl (by decide) (by kernel_rfl) rfl ?_; apply Exists.intro; refine ⟨fun w1 hx1 => ?_, ?_⟩
          · have hq1 := hx1.cells; go_simp; try go_bits
            first | with_reducible rfl
          simp only [Act.put, List.setIfInBounds_toArray, List.set_cons_zero, List.set_cons_succ]
          refine WE_q 6 rfl (by decide) (by kernel_rfl) rfl ?_; apply Exists.intro; refine ⟨fun w1 hx1 => ?_, ?_⟩
          · have hq1 := hx1.cells; go_simp; try go_bits
            first | with_reducible rfl
          simp only [Act.put, List.setIfInBounds_toArray, List.set_cons_zero, List.set_cons_succ]
          refine WE_q 7 rfl (by decide) (by kernel_rfl) rfl ?_; apply Exists.intro; refine ⟨fun w1 hx1 => ?_, ?_⟩
          · have hq1 := hx1.cells; go_simp; try go_bits
            first | with_reducible rfl
          simp only [Act.put, List.setIfInBounds_toArray, List.set_cons_zero, List.set_cons_succ]
          refine WE_done (by kernel_rfl) (fun w3 hx3 => ?_)
          (try simp only [List.drop_succ_cons, List.drop_zero])
          have p3 := Ext.keep ((hx.trans hx3).cell p0)
          have q3 := Ext.keep ((hx.trans hx3).cell q0)
          go_wp2_with fail
          refine wp_region_E 8 rfl (by kernel_rfl) (by kernel_rfl) ?_
          refine WE_q 0 rfl (by decide) (by kernel_rfl) rfl ?_; apply Exists.intro; refine ⟨fun w1 hx1 => ?_, ?_⟩
          · have hq1 := hx1.cells; go_simp; try go_bits
            first | with_reducible rfl
          simp only [Act.put, List.setIfInBounds_toArray, List.set_cons_zero, List.set_cons_succ]
          refine WE_q 1 rfl (by decide) (by kernel_rfl) rfl ?_; apply Exists.intro; refine ⟨fun w1 hx1 => ?_, ?_⟩
          · have hq1 := hx1.cells; go_simp; try go_bits
            first | with_reducible rfl
          simp only [Act.put, List.setIfInBounds_toArray, List.set_cons_zero, List.set_cons_succ]
          refine WE_q 2 rfl (by decide) (by kernel_rfl) rfl ?_; apply Exists.intro; refine ⟨fun w1 hx1 => ?_, ?_⟩
          · have hq1 := hx1.cells; go_simp; try go_bits
            first | with_reducible rfl
          simp only [Act.put, List.setIfInBounds_toArray, List.set_cons_zero, List.set_cons_succ]
          refine WE_q 3 rfl (by decide) (by kernel_rfl) rfl ?_; apply Exists.intro; refine ⟨fun w1 hx1 => ?_, ?_⟩
          · have hq1 := hx1.cells; go_simp; try go_bits
            first | with_reducible rfl
          simp only [Act.put, List.setIfInBounds_toArray, List.set_cons_zero, List.set_cons_succ]
          refine WE_q 4 rfl (by decide) (by kernel_rfl) rfl ?_; apply Exists.intro; refine ⟨fun w1 hx1 => ?_, ?_⟩
          · have hq1 := hx1.cells; go_simp; try go_bits
            first | with_reducible rfl
          simp only [Act.put, List.setIfInBounds_toArray, List.set_cons_zero, List.set_cons_succ]
          refine WE_q 5 rfl (by decide) (by kernel_rfl) rfl ?_; apply Exists.intro; refine ⟨fun w1 hx1 => ?_, ?_⟩
          · have hq1 := hx1.cells; go_simp; try go_bits
            first | with_reducible rfl
          simp only [Act.put, List.setIfInBounds_toArray, List.set_cons_zero, List.set_cons_succ]
          refine WE_q 6 rfl (by decide) (by kernel_rfl) rfl ?_; apply Exists.intro; refine ⟨fun w1 hx1 => ?_, ?_⟩
          · have hq1 := hx1.cells; go_simp; try go_bits
            first | with_reducible rfl
          simp only [Act.put, List.setIfInBounds_toArray, List.set_cons_zero, List.set_cons_succ]
          refine WE_q 7 rfl (by decide) (by kernel_rfl) rfl ?_; apply Exists.intro; refine ⟨fun w1 hx1 => ?_, ?_⟩
          · have hq1 := hx1.cells; go_simp; try go_bits
            first | with_reducible rfl
          simp only [Act.put, List.setIfInBounds_toArray, List.set_cons_zero, List.set_cons_succ]
          refine WE_done (by kernel_rfl) (fun w4 hx4 => ?_)
          (try simp only [List.drop_succ_cons, List.drop_zero])
          go_wp2_with fail
          go_roundw
          case rel => exact ⟨k + 1, by omega, by go_num, HS2.out.symm, hx.trans (hx3.trans hx4)⟩
          case measure => simp [intOf]; omega
        · have HS2 := Lib.hid (HS.out.trans (if_pos (by omega)))
          rw [f] at HS2
          have hd : decide (la[k] < lb[k]) = false := decide_eq_false (by omega)
          have hd2 : decide (lb[k] < la[k]) = true := decide_eq_true g
          clear HS g f
          go_wp2_with fail
          refine wp_region_E 8 rfl (by kernel_rfl) (by kernel_rfl) ?_
          refine WE_q 0 rfl (by decide) (by kernel_rfl) rfl ?_; apply Exists.intro; refine ⟨fun w1 hx1 => ?_, ?_⟩
          · have hq1 := hx1.cells; go_simp; try go_bits
            first | with_reducible rfl
          simp only [Act.put, List.setIfInBounds_toArray, List.set_cons_zero, List.set_cons_succ]
          refine WE_q 1 rfl (by decide) (by kernel_rfl) rfl ?_; apply Exists.intro; refine ⟨fun w1 hx1 => ?_, ?_⟩
          · have hq1 := hx1.cells; go_simp; try go_bits
            first | with_reducible rfl
          simp only [Act.put, List.setIfInBounds_toArray, List.set_cons_zero, List.set_cons_succ]
          refine WE_q 2 rfl (by decide) (by kernel_rfl) rfl ?_; apply Exists.intro; refine ⟨fun w1 hx1 => ?_, ?_⟩
          · have hq1 := hx1.cells; go_simp; try go_bits
            first | with_reducible rfl
          simp only [Act.put, List.setIfInBounds_toArray, List.set_cons_zero, List.set_cons_succ]
          refine WE_q 3 rfl (by decide) (by kernel_rfl) rfl ?_; apply Exists.intro; refine ⟨fun w1 hx1 => ?_, ?_⟩
          · have hq1 := hx1.cells; go_simp; try go_bits
            first | with_reducible rfl
          simp only [Act.put, List.setIfInBounds_toArray, List.set_cons_zero, List.set_cons_succ]
          refine WE_q 4 rfl (by decide) (by kernel_rfl) rfl ?_; apply Exists.intro; refine ⟨fun w1 hx1 => ?_, ?_⟩
          · have hq1 := hx1.cells; go_simp; try go_bits
            first | with_reducible rfl
          simp only [Act.put, List.setIfInBounds_toArray, List.set_cons_zero, List.set_cons_succ]
          refine WE_q 5 rfl (by decide) (by kernel_rfl) rfl ?_; apply Exists.intro; refine ⟨fun w1 hx1 => ?_, ?_⟩
          · have hq1 := hx1.cells; go_simp; try go_bits
            first | with_reducible rfl
          simp only [Act.put, List.setIfInBounds_toArray, List.set_cons_zero, List.set_cons_succ]
          refine WE_q 6 rfl (by decide) (by kernel_rfl) rfl ?_; apply Exists.intro; refine ⟨fun w1 hx1 => ?_, ?_⟩
          · have hq1 := hx1.cells; go_simp; try go_bits
            first | with_reducible rfl
          simp only [Act.put, List.setIfInBounds_toArray, List.set_cons_zero, List.set_cons_succ]
          refine WE_q 7 rfl (by decide) (by kernel_rfl) rfl ?_; apply Exists.intro; refine ⟨fun w1 hx1 => ?_, ?_⟩
          · have hq1 := hx1.cells; go_simp; try go_bits
            first | with_reducible rfl
          simp only [Act.put, List.setIfInBounds_toArray, List.set_cons_zero, List.set_cons_succ]
          refine WE_done (by kernel_rfl) (fun w3 hx3 => ?_)
          (try simp only [List.drop_succ_cons, List.drop_zero])
          have p3 := Ext.keep ((hx.trans hx3).cell p0)
          have q3 := Ext.keep ((hx.trans hx3).cell q0)
          go_wp2_with fail
          refine wp_region_E 8 rfl (by kernel_rfl) (by kernel_rfl) ?_
          refine WE_q 0 rfl (by decide) (by kernel_rfl) rfl ?_; apply Exists.intro; refine ⟨fun w1 hx1 => ?_, ?_⟩
          · have hq1 := hx1.cells; go_simp; try go_bits
            first | with_reducible rfl
          simp only [Act.put, List.setIfInBounds_toArray, List.set_cons_zero, List.set_cons_succ]
          refine WE_q 1 rfl (by decide) (by kernel_rfl) rfl ?_; apply Exists.intro; refine ⟨fun w1 hx1 => ?_, ?_⟩
          · have hq1 := hx1.cells; go_simp; try go_bits
            first | with_reducible rfl
          simp only [Act.put, List.setIfInBounds_toArray, List.set_cons_zero, List.set_cons_succ]
          refine WE_q 2 rfl (by decide) (by kernel_rfl) rfl ?_; apply Exists.intro; refine ⟨fun w1 hx1 => ?_, ?_⟩
          · have hq1 := hx1.cells; go_simp; try go_bits
            first | with_reducible rfl
          simp only [Act.put, List.setIfInBounds_toArray, List.set_cons_zero, List.set_cons_succ]
          refine WE_q 3 rfl (by decide) (by kernel_rfl) rfl ?_; apply Exists.intro; refine ⟨fun w1 hx1 => ?_, ?_⟩
          · have hq1 := hx1.cells; go_simp; try go_bits
            first | with_reducible rfl
          simp only [Act.put, List.setIfInBounds_toArray, List.set_cons_zero, List.set_cons_succ]
          refine WE_q 4 rfl (by decide) (by kernel_rfl) rfl ?_; apply Exists.intro; refine ⟨fun w1 hx1 => ?_, ?_⟩
          · have hq1 := hx1.cells; go_simp; try go_bits
            first | with_reducible rfl
          simp only [Act.put, List.setIfInBounds_toArray, List.set_cons_zero, List.set_cons_succ]
          refine WE_q 5 rfl (by decide) (by kernel_rfl) rfl ?_; apply Exists.intro; refine ⟨fun w1 hx1 => ?_, ?_⟩
          · have hq1 := hx1.cells; go_simp; try go_bits
            first | with_reducible rfl
          simp only [Act.put, List.setIfInBounds_toArray, List.set_cons_zero, List.set_cons_succ]
          refine WE_q 6 rfl (by decide) (by kernel_rfl) rfl ?_; apply Exists.intro; refine ⟨fun w1 hx1 => ?_, ?_⟩
          · have hq1 := hx1.cells; go_simp; try go_bits
            first | with_reducible rfl
          simp only [Act.put, List.setIfInBounds_toArray, List.set_cons_zero, List.set_cons_succ]
          refine WE_q 7 rfl (by decide) (by kernel_rfl) rfl ?_; apply Exists.intro; refine ⟨fun w1 hx1 => ?_, ?_⟩
          · have hq1 := hx1.cells; go_simp; try go_bits
            first | with_reducible rfl
          simp only [Act.put, List.setIfInBounds_toArray, List.set_cons_zero, List.set_cons_succ]
          refine WE_done (by kernel_rfl) (fun w4 hx4 => ?_)
          (try simp only [List.drop_succ_cons, List.drop_zero])
          go_wp2_with fail
          go_ret
          exact ⟨ret_int HS2.out.symm, hx.trans (hx3.trans hx4)⟩
      · have HE := Lib.hid (HG.out.symm.trans (cmpG_end (v := la) (w := lb) (k := k) (by omega)))
        go_wp2_with fail
        go_ret
        exact ⟨ret_int HE.out.symm, hx⟩
  · have HC := Lib.hid (show cmpL la lb = 1 by unfold cmpL; rw [he]; rfl)
    have hne : ((la.length : Int) != lb.length) = true := by simp; omega
    have hd : decide ((la.length : Int) < lb.length) = false := decide_eq_false (by omega)
    have hdn : decide (la.length < lb.length) = false := decide_eq_false (by omega)
    clear he
    go_enter Try.func28, Try.ntmps28
    go_wp2_with fail
    go_ret
    exact ⟨ret_int HC.out.symm, Ext.refl _⟩

set_option maxHeartbeats 1000000 in
theorem r13May_any (va : Value) (la : List Int) (w : World) (ha : IntsAt w va la) :
    Calls Try.prog 26 #[va] w fun e w' => e = .returned (I (vmayV la)) ∧ Ext w w' := by
  obtain ⟨a, cap, rfl, a1, a2, a3⟩ := ha.form
  have A3 := Lib.hid a3
  clear a3
  unfold maxLen at a2
  go_enter Try.func26, Try.ntmps26
  go_wp2_with fail
  go_loopw [3] (fun i wr => ∃ k : Nat, k ≤ la.length ∧ i = I k ∧ Hid (mayG la.length (la.drop k) = vmayV la) ∧ Ext w wr) (fun i _ => la.length - (intOf i).toNat)
  case atStart => exact ⟨0, by omega, rfl, rfl, Ext.refl w⟩
  case round =>
    obtain ⟨k, hk, rfl, HG, hx⟩ := hrel
    by_cases hlt : k < la.length
    · obtain ⟨b0, o0, rfl, p0⟩ := A3.out k la[k] (List.getElem?_eq_getElem hlt)
      replace p0 := hx.cell p0
      have HS := Lib.hid (mayG_step (n := la.length) hlt)
      rw [HG.out] at HS
      clear HG
      by_cases h1 : la[k] < -1
      · have hd : decide (la[k] < -1) = true := decide_eq_true h1
        have HS2 := Lib.hid (HS.out.trans (if_pos (.inl h1)))
        clear HS h1
        go_wp2_with fail
        go_ret
        exact ⟨ret_int HS2.out.symm, hx⟩
      · have hd : decide (la[k] < -1) = false := decide_eq_false h1
        by_cases h2 : (la.length : Int) ≤ la[k]
        · have hd2 : decide ((la.length : Int) ≤ la[k]) = true := decide_eq_true h2
          have HS2 := Lib.hid (HS.out.trans (if_pos (.inr h2)))
          clear HS h1 h2
          go_wp2_with fail
          go_ret
          exact ⟨ret_int HS2.out.symm, hx⟩
        · have hd2 : decide ((la.length : Int) ≤ la[k]) = false := decide_eq_false h2
          have HS2 := Lib.hid (HS.out.trans (if_neg (by omega)))
          clear HS h1 h2
          go_wp2_with fail
          go_roundw
          case rel => exact ⟨k + 1, by omega, by go_num, HS2.out.symm, hx⟩
          case measure => simp [intOf]; omega
    · have HE := Lib.hid (HG.out.symm.trans (mayG_end (n := la.length) (v := la) (k := k) (by omega)))
      go_wp2_with fail
      go_ret
      exact ⟨ret_int HE.out.symm, hx⟩
end Go.Proofs.Ytilaljdokpdcoaa
