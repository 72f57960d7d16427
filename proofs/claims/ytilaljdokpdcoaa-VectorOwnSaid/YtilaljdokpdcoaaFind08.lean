/- The reference's find in a table, and where a node sends an address: the program's and the reference's answers. Conditions: whole numbers are within 64 bits. -/
import Derived.Test.YtilaljdokpdcoaaNetP
import Derived.Test.YtilaljdokpdcoaaRef06b
namespace Go.Proofs.Ytilaljdokpdcoaa
open Go.RowKit

/-- The place of what was found so far, -1 if nothing was. -/
def BestAt (l : List Rul) (o : Option Rul) (b : Int) : Prop := (o = none ∧ b = -1) ∨ ∃ (j : Nat) (h : j < l.length), o = some l[j] ∧ b = j
set_option maxHeartbeats 2000000 in
theorem r08Find_any (lv : Value) (l : List Rul) (a : BitVec 32) (w : World) (hl : RulesAt w lv l) (hok : RulesOk l) :
    Calls Try.prog 82 #[lv, U a] w fun e w' => e = .returned (foundV (findL l a)) ∧ Ext w w' := by
  obtain ⟨ad, cap, rfl, a1, a2, a3⟩ := hl.form
  have A3 := Lib.hid a3
  clear a3
  unfold maxLen at a2
  go_enter Try.func82, Try.ntmps82
  go_wp2_with fail
  go_loopw [6, 7] (fun b i wr => ∃ (k : Nat) (o : Option Rul) (bi : Int), k ≤ l.length ∧ i = I k ∧ b = I bi ∧ Hid (o = findL (l.take k) a) ∧ Hid (BestAt l o bi) ∧ Blk wr w.heap.size zeroR.cells 42 ∧ Ext w wr) (fun _ i _ => l.length - (intOf i).toNat)
  case atStart => exact ⟨0, none, -1, by omega, rfl, rfl, rfl, .inl ⟨rfl, rfl⟩, Blk.newAt zeroR.cells rfl, by (repeat (first | with_reducible exact Ext.refl _ | with_reducible assumption | with_reducible refine Ext.alloc ?_ _ | with_reducible refine Ext.drew ?_ | with_reducible refine Ext.drewN ?_ _ | (with_reducible refine Ext.setCellP ?_ ?_; focus (first | (simp; done) | (simp; omega) | omega))))⟩
  case round =>
    obtain ⟨k, o, bi, hk, rfl, rfl, HO, HB, hz, hx⟩ := hrel
    by_cases hlt : k < l.length
    · obtain ⟨b0, o0, rfl, p0, p1, p2, p3⟩ := A3.out k l[k] (List.getElem?_eq_getElem hlt)
      replace p0 := Ext.keep (hx.cell p0)
      replace p1 := Ext.keep (hx.cell p1)
      clear p2 p3
      have HOK := Lib.hid (hok l[k] (List.getElem_mem hlt))
      have HST := Lib.hid (findL_step l a k hlt)
      rw [← HO.out] at HST
      by_cases hh : holdsV l[k].pa l[k].pl a = true
      · rcases HB.out with ⟨ho, hb⟩ | ⟨j, hj, ho, hb⟩
        · subst ho hb
          have HN := Lib.hid (HST.out.trans (show findStep a none l[k] = some l[k] by unfold findStep; rw [if_pos]; unfold better; rw [hh]; rfl))
          clear HST HO HB
          go_wp2_with fail
          refine wp_region_E 28 rfl (by kernel_rfl) (by kernel_rfl) ?_
          refine WE_q 0 rfl (by decide) (by kernel_rfl) rfl ?_; apply Exists.intro; refine ⟨fun w1 hx1 => ?_, ?_⟩
          · have hq1 := hx1.cells; go_simp; try go_bits
            first | with_reducible rfl | (refine (r06Holds_any _ _ _ _ HOK.out.pl).mono ?_; rintro e w2 ⟨rfl, rfl⟩; exact ⟨rfl, Ext.refl _⟩)
          simp only [Act.put, List.setIfInBounds_toArray, List.set_cons_zero, List.set_cons_succ]
          refine WE_q 1 rfl (by decide) (by kernel_rfl) rfl ?_; apply Exists.intro; refine ⟨fun w1 hx1 => ?_, ?_⟩
          · have hq1 := hx1.cells; go_simp; try go_bits
            first | with_reducible rfl | (refine (r06Holds_any _ _ _ _ HOK.out.pl).mono ?_; rintro e w2 ⟨rfl, rfl⟩; exact ⟨rfl, Ext.refl _⟩)
          simp only [Act.put, List.setIfInBounds_toArray, List.set_cons_zero, List.set_cons_succ]
          refine WE_q 2 rfl (by decide) (by kernel_rfl) rfl ?_; apply Exists.intro; refine ⟨fun w1 hx1 => ?_, ?_⟩
          · have hq1 := hx1.cells; go_simp; try go_bits
            first | with_reducible rfl | (refine (r06Holds_any _ _ _ _ HOK.out.pl).mono ?_; rintro e w2 ⟨rfl, rfl⟩; exact ⟨rfl, Ext.refl _⟩)
          simp only [Act.put, List.setIfInBounds_toArray, List.set_cons_zero, List.set_cons_succ]
          refine WE_q 3 rfl (by decide) (by kernel_rfl) rfl ?_; apply Exists.intro; refine ⟨fun w1 hx1 => ?_, ?_⟩
          · have hq1 := hx1.cells; go_simp; try go_bits
            first | with_reducible rfl | (refine (r06Holds_any _ _ _ _ HOK.out.pl).mono ?_; rintro e w2 ⟨rfl, rfl⟩; exact ⟨rfl, Ext.refl _⟩)
          simp only [Act.put, List.setIfInBounds_toArray, List.set_cons_zero, List.set_cons_succ]
          refine WE_q 4 rfl (by decide) (by kernel_rfl) rfl ?_; apply Exists.intro; refine ⟨fun w1 hx1 => ?_, ?_⟩
          · have hq1 := hx1.cells; go_simp; try go_bits
            first | with_reducible rfl | (refine (r06Holds_any _ _ _ _ HOK.out.pl).mono ?_; rintro e w2 ⟨rfl, rfl⟩; exact ⟨rfl, Ext.refl _⟩)
          simp only [Act.put, List.setIfInBounds_toArray, List.set_cons_zero, List.set_cons_succ]
          refine WE_q 5 rfl (by decide) (by kernel_rfl) rfl ?_; apply Exists.intro; refine ⟨fun w1 hx1 => ?_, ?_⟩
          · have hq1 := hx1.cells; go_simp; try go_bits
            first | with_reducible rfl | (refine (r06Holds_any _ _ _ _ HOK.out.pl).mono ?_; rintro e w2 ⟨rfl, rfl⟩; exact ⟨rfl, Ext.refl _⟩)
          simp only [Act.put, List.setIfInBounds_toArray, List.set_cons_zero, List.set_cons_succ]
          refine WE_q 6 rfl (by decide) (by kernel_rfl) rfl ?_; apply Exists.intro; refine ⟨fun w1 hx1 => ?_, ?_⟩
          · have hq1 := hx1.cells; go_simp; try go_bits
            first | with_reducible rfl | (refine (r06Holds_any _ _ _ _ HOK.out.pl).mono ?_; rintro e w2 ⟨rfl, rfl⟩; exact ⟨rfl, Ext.refl _⟩)
          simp only [Act.put, List.setIfInBounds_toArray, List.set_cons_zero, List.set_cons_succ]
          refine WE_q 7 rfl (by decide) (by kernel_rfl) rfl ?_; apply Exists.intro; refine ⟨fun w1 hx1 => ?_, ?_⟩
          · have hq1 := hx1.cells; go_simp; try go_bits
            first | with_reducible rfl | (refine (r06Holds_any _ _ _ _ HOK.out.pl).mono ?_; rintro e w2 ⟨rfl, rfl⟩; exact ⟨rfl, Ext.refl _⟩)
          simp only [Act.put, List.setIfInBounds_toArray, List.set_cons_zero, List.set_cons_succ]
          refine WE_q 8 rfl (by decide) (by kernel_rfl) rfl ?_; apply Exists.intro; refine ⟨fun w1 hx1 => ?_, ?_⟩
          · have hq1 := hx1.cells; go_simp; try go_bits
            first | with_reducible rfl | (refine (r06Holds_any _ _ _ _ HOK.out.pl).mono ?_; rintro e w2 ⟨rfl, rfl⟩; exact ⟨rfl, Ext.refl _⟩)
          simp only [Act.put, List.setIfInBounds_toArray, List.set_cons_zero, List.set_cons_succ]
          refine WE_q 9 rfl (by decide) (by kernel_rfl) rfl ?_; apply Exists.intro; refine ⟨fun w1 hx1 => ?_, ?_⟩
          · have hq1 := hx1.cells; go_simp; try go_bits
            first | with_reducible rfl | (refine (r06Holds_any _ _ _ _ HOK.out.pl).mono ?_; rintro e w2 ⟨rfl, rfl⟩; exact ⟨rfl, Ext.refl _⟩)
          simp only [Act.put, List.setIfInBounds_toArray, List.set_cons_zero, List.set_cons_succ]
          refine WE_q 10 rfl (by decide) (by kernel_rfl) rfl ?_; apply Exists.intro; refine ⟨fun w1 hx1 => ?_, ?_⟩
          · have hq1 := hx1.cells; go_simp; try go_bits
            first | with_reducible rfl | (refine (r06Holds_any _ _ _ _ HOK.out.pl).mono ?_; rintro e w2 ⟨rfl, rfl⟩; exact ⟨rfl, Ext.refl _⟩)
          simp only [Act.put, List.setIfInBounds_toArray, List.set_cons_zero, List.set_cons_succ]
          refine WE_q 11 rfl (by decide) (by kernel_rfl) rfl ?_; apply Exists.intro; refine ⟨fun w1 hx1 => ?_, ?_⟩
          · have hq1 := hx1.cells; go_simp; try go_bits
            first | with_reducible rfl | (refine (r06Holds_any _ _ _ _ HOK.out.pl).mono ?_; rintro e w2 ⟨rfl, rfl⟩; exact ⟨rfl, Ext.refl _⟩)
          simp only [Act.put, List.setIfInBounds_toArray, List.set_cons_zero, List.set_cons_succ]
          refine WE_q 12 rfl (by decide) (by kernel_rfl) rfl ?_; apply Exists.intro; refine ⟨fun w1 hx1 => ?_, ?_⟩
          · have hq1 := hx1.cells; go_simp; try go_bits
            first | with_reducible rfl | (refine (r06Holds_any _ _ _ _ HOK.out.pl).mono ?_; rintro e w2 ⟨rfl, rfl⟩; exact ⟨rfl, Ext.refl _⟩)
          simp only [Act.put, List.setIfInBounds_toArray, List.set_cons_zero, List.set_cons_succ]
          refine WE_q 13 rfl (by decide) (by kernel_rfl) rfl ?_; apply Exists.intro; refine ⟨fun w1 hx1 => ?_, ?_⟩
          · have hq1 := hx1.cells; go_simp; try go_bits
            first | with_reducible rfl | (refine (r06Holds_any _ _ _ _ HOK.out.pl).mono ?_; rintro e w2 ⟨rfl, rfl⟩; exact ⟨rfl, Ext.refl _⟩)
          simp only [Act.put, List.setIfInBounds_toArray, List.set_cons_zero, List.set_cons_succ]
          refine WE_q 14 rfl (by decide) (by kernel_rfl) rfl ?_; apply Exists.intro; refine ⟨fun w1 hx1 => ?_, ?_⟩
          · have hq1 := hx1.cells; go_simp; try go_bits
            first | with_reducible rfl | (refine (r06Holds_any _ _ _ _ HOK.out.pl).mono ?_; rintro e w2 ⟨rfl, rfl⟩; exact ⟨rfl, Ext.refl _⟩)
          simp only [Act.put, List.setIfInBounds_toArray, List.set_cons_zero, List.set_cons_succ]
          refine WE_q 15 rfl (by decide) (by kernel_rfl) rfl ?_; apply Exists.intro; refine ⟨fun w1 hx1 => ?_, ?_⟩
          · have hq1 := hx1.cells; go_simp; try go_bits
            first | with_reducible rfl | (refine (r06Holds_any _ _ _ _ HOK.out.pl).mono ?_; rintro e w2 ⟨rfl, rfl⟩; exact ⟨rfl, Ext.refl _⟩)
          simp only [Act.put, List.setIfInBounds_toArray, List.set_cons_zero, List.set_cons_succ]
          refine WE_s 16 rfl (by decide) (by kernel_rfl) rfl ?_
          simp only [Act.put, List.setIfInBounds_toArray, List.set_cons_zero, List.set_cons_succ]
          refine WE_s 17 rfl (by decide) (by kernel_rfl) rfl ?_
          simp only [Act.put, List.setIfInBounds_toArray, List.set_cons_zero, List.set_cons_succ]
          refine WE_s 18 rfl (by decide) (by kernel_rfl) rfl ?_
          simp only [Act.put, List.setIfInBounds_toArray, List.set_cons_zero, List.set_cons_succ]
          refine WE_s 19 rfl (by decide) (by kernel_rfl) rfl ?_
          simp only [Act.put, List.setIfInBounds_toArray, List.set_cons_zero, List.set_cons_succ]
          refine WE_s 20 rfl (by decide) (by kernel_rfl) rfl ?_
          simp only [Act.put, List.setIfInBounds_toArray, List.set_cons_zero, List.set_cons_succ]
          refine WE_s 21 rfl (by decide) (by kernel_rfl) rfl ?_
          simp only [Act.put, List.setIfInBounds_toArray, List.set_cons_zero, List.set_cons_succ]
          refine WE_s 22 rfl (by decide) (by kernel_rfl) rfl ?_
          simp only [Act.put, List.setIfInBounds_toArray, List.set_cons_zero, List.set_cons_succ]
          refine WE_s 23 rfl (by decide) (by kernel_rfl) rfl ?_
          simp only [Act.put, List.setIfInBounds_toArray, List.set_cons_zero, List.set_cons_succ]
          refine WE_s 24 rfl (by decide) (by kernel_rfl) rfl ?_
          simp only [Act.put, List.setIfInBounds_toArray, List.set_cons_zero, List.set_cons_succ]
          refine WE_s 25 rfl (by decide) (by kernel_rfl) rfl ?_
          simp only [Act.put, List.setIfInBounds_toArray, List.set_cons_zero, List.set_cons_succ]
          refine WE_s 26 rfl (by decide) (by kernel_rfl) rfl ?_
          simp only [Act.put, List.setIfInBounds_toArray, List.set_cons_zero, List.set_cons_succ]
          refine WE_q 27 rfl (by decide) (by kernel_rfl) rfl ?_; apply Exists.intro; refine ⟨fun w1 hx1 => ?_, ?_⟩
          · have hq1 := hx1.cells; go_simp; try go_bits
            first | with_reducible rfl
          simp only [Act.put, List.setIfInBounds_toArray, List.set_cons_zero, List.set_cons_succ]
          refine WE_done (by kernel_rfl) (fun w3 hx3 => ?_)
          (try simp only [List.drop_succ_cons, List.drop_zero])
          go_wp2_with fail
          go_roundw
          case rel => exact ⟨k + 1, some l[k], (k : Int), by omega, by go_num, rfl, HN.out.symm, .inr ⟨k, hlt, rfl, rfl⟩, hz.later hx3, hx.trans hx3⟩
          case measure => simp [intOf]; omega
        · subst ho hb
          obtain ⟨b1, o1, hbb, q0, q1, q2, q3⟩ := A3.out j l[j] (List.getElem?_eq_getElem hj)
          obtain ⟨rfl, rfl⟩ : b0 = b1 ∧ o0 = o1 := by simpa using hbb
          replace q1 := Ext.keep (hx.cell q1)
          clear q0 q2 q3 hbb
          by_cases hc : l[j].pl < l[k].pl
          · have hcd : decide (l[j].pl < l[k].pl) = true := by simpa using hc
            have HN := Lib.hid (HST.out.trans (show findStep a (some l[j]) l[k] = some l[k] by unfold findStep; rw [if_pos]; unfold better; rw [hh]; simpa using hc))
            clear HST HO HB hc
            go_wp2_with fail
            refine wp_region_E 28 rfl (by kernel_rfl) (by kernel_rfl) ?_
            refine WE_q 0 rfl (by decide) (by kernel_rfl) rfl ?_; apply Exists.intro; refine ⟨fun w1 hx1 => ?_, ?_⟩
            · have hq1 := hx1.cells; go_simp; try go_bits
              first | with_reducible rfl | (refine (r06Holds_any _ _ _ _ HOK.out.pl).mono ?_; rintro e w2 ⟨rfl, rfl⟩; exact ⟨rfl, Ext.refl _⟩)
            simp only [Act.put, List.setIfInBounds_toArray, List.set_cons_zero, List.set_cons_succ]
            refine WE_q 1 rfl (by decide) (by kernel_rfl) rfl ?_; apply Exists.intro; refine ⟨fun w1 hx1 => ?_, ?_⟩
            · have hq1 := hx1.cells; go_simp; try go_bits
              first | with_reducible rfl | (refine (r06Holds_any _ _ _ _ HOK.out.pl).mono ?_; rintro e w2 ⟨rfl, rfl⟩; exact ⟨rfl, Ext.refl _⟩)
            simp only [Act.put, List.setIfInBounds_toArray, List.set_cons_zero, List.set_cons_succ]
            refine WE_q 2 rfl (by decide) (by kernel_rfl) rfl ?_; apply Exists.intro; refine ⟨fun w1 hx1 => ?_, ?_⟩
            · have hq1 := hx1.cells; go_simp; try go_bits
              first | with_reducible rfl | (refine (r06Holds_any _ _ _ _ HOK.out.pl).mono ?_; rintro e w2 ⟨rfl, rfl⟩; exact ⟨rfl, Ext.refl _⟩)
            simp only [Act.put, List.setIfInBounds_toArray, List.set_cons_zero, List.set_cons_succ]
            refine WE_q 3 rfl (by decide) (by kernel_rfl) rfl ?_; apply Exists.intro; refine ⟨fun w1 hx1 => ?_, ?_⟩
            · have hq1 := hx1.cells; go_simp; try go_bits
              first | with_reducible rfl | (refine (r06Holds_any _ _ _ _ HOK.out.pl).mono ?_; rintro e w2 ⟨rfl, rfl⟩; exact ⟨rfl, Ext.refl _⟩)
            simp only [Act.put, List.setIfInBounds_toArray, List.set_cons_zero, List.set_cons_succ]
            refine WE_q 4 rfl (by decide) (by kernel_rfl) rfl ?_; apply Exists.intro; refine ⟨fun w1 hx1 => ?_, ?_⟩
            · have hq1 := hx1.cells; go_simp; try go_bits
              first | with_reducible rfl | (refine (r06Holds_any _ _ _ _ HOK.out.pl).mono ?_; rintro e w2 ⟨rfl, rfl⟩; exact ⟨rfl, Ext.refl _⟩)
            simp only [Act.put, List.setIfInBounds_toArray, List.set_cons_zero, List.set_cons_succ]
            refine WE_q 5 rfl (by decide) (by kernel_rfl) rfl ?_; apply Exists.intro; refine ⟨fun w1 hx1 => ?_, ?_⟩
            · have hq1 := hx1.cells; go_simp; try go_bits
              first | with_reducible rfl | (refine (r06Holds_any _ _ _ _ HOK.out.pl).mono ?_; rintro e w2 ⟨rfl, rfl⟩; exact ⟨rfl, Ext.refl _⟩)
            simp only [Act.put, List.setIfInBounds_toArray, List.set_cons_zero, List.set_cons_succ]
            refine WE_q 6 rfl (by decide) (by kernel_rfl) rfl ?_; apply Exists.intro; refine ⟨fun w1 hx1 => ?_, ?_⟩
            · have hq1 := hx1.cells; go_simp; try go_bits
              first | with_reducible rfl | (refine (r06Holds_any _ _ _ _ HOK.out.pl).mono ?_; rintro e w2 ⟨rfl, rfl⟩; exact ⟨rfl, Ext.refl _⟩)
            simp only [Act.put, List.setIfInBounds_toArray, List.set_cons_zero, List.set_cons_succ]
            refine WE_q 7 rfl (by decide) (by kernel_rfl) rfl ?_; apply Exists.intro; refine ⟨fun w1 hx1 => ?_, ?_⟩
            · have hq1 := hx1.cells; go_simp; try go_bits
              first | with_reducible rfl | (refine (r06Holds_any _ _ _ _ HOK.out.pl).mono ?_; rintro e w2 ⟨rfl, rfl⟩; exact ⟨rfl, Ext.refl _⟩)
            simp only [Act.put, List.setIfInBounds_toArray, List.set_cons_zero, List.set_cons_succ]
            refine WE_q 8 rfl (by decide) (by kernel_rfl) rfl ?_; apply Exists.intro; refine ⟨fun w1 hx1 => ?_, ?_⟩
            · have hq1 := hx1.cells; go_simp; try go_bits
              first | with_reducible rfl | (refine (r06Holds_any _ _ _ _ HOK.out.pl).mono ?_; rintro e w2 ⟨rfl, rfl⟩; exact ⟨rfl, Ext.refl _⟩)
            simp only [Act.put, List.setIfInBounds_toArray, List.set_cons_zero, List.set_cons_succ]
            refine WE_q 9 rfl (by decide) (by kernel_rfl) rfl ?_; apply Exists.intro; refine ⟨fun w1 hx1 => ?_, ?_⟩
            · have hq1 := hx1.cells; go_simp; try go_bits
              first | with_reducible rfl | (refine (r06Holds_any _ _ _ _ HOK.out.pl).mono ?_; rintro e w2 ⟨rfl, rfl⟩; exact ⟨rfl, Ext.refl _⟩)
            simp only [Act.put, List.setIfInBounds_toArray, List.set_cons_zero, List.set_cons_succ]
            refine WE_q 10 rfl (by decide) (by kernel_rfl) rfl ?_; apply Exists.intro; refine ⟨fun w1 hx1 => ?_, ?_⟩
            · have hq1 := hx1.cells; go_simp; try go_bits
              first | with_reducible rfl | (refine (r06Holds_any _ _ _ _ HOK.out.pl).mono ?_; rintro e w2 ⟨rfl, rfl⟩; exact ⟨rfl, Ext.refl _⟩)
            simp only [Act.put, List.setIfInBounds_toArray, List.set_cons_zero, List.set_cons_succ]
            refine WE_q 11 rfl (by decide) (by kernel_rfl) rfl ?_; apply Exists.intro; refine ⟨fun w1 hx1 => ?_, ?_⟩
            · have hq1 := hx1.cells; go_simp; try go_bits
              first | with_reducible rfl | (refine (r06Holds_any _ _ _ _ HOK.out.pl).mono ?_; rintro e w2 ⟨rfl, rfl⟩; exact ⟨rfl, Ext.refl _⟩)
            simp only [Act.put, List.setIfInBounds_toArray, List.set_cons_zero, List.set_cons_succ]
            refine WE_q 12 rfl (by decide) (by kernel_rfl) rfl ?_; apply Exists.intro; refine ⟨fun w1 hx1 => ?_, ?_⟩
            · have hq1 := hx1.cells; go_simp; try go_bits
              first | with_reducible rfl | (refine (r06Holds_any _ _ _ _ HOK.out.pl).mono ?_; rintro e w2 ⟨rfl, rfl⟩; exact ⟨rfl, Ext.refl _⟩)
            simp only [Act.put, List.setIfInBounds_toArray, List.set_cons_zero, List.set_cons_succ]
            refine WE_q 13 rfl (by decide) (by kernel_rfl) rfl ?_; apply Exists.intro; refine ⟨fun w1 hx1 => ?_, ?_⟩
            · have hq1 := hx1.cells; go_simp; try go_bits
              first | with_reducible rfl | (refine (r06Holds_any _ _ _ _ HOK.out.pl).mono ?_; rintro e w2 ⟨rfl, rfl⟩; exact ⟨rfl, Ext.refl _⟩)
            simp only [Act.put, List.setIfInBounds_toArray, List.set_cons_zero, List.set_cons_succ]
            refine WE_q 14 rfl (by decide) (by kernel_rfl) rfl ?_; apply Exists.intro; refine ⟨fun w1 hx1 => ?_, ?_⟩
            · have hq1 := hx1.cells; go_simp; try go_bits
              first | with_reducible rfl | (refine (r06Holds_any _ _ _ _ HOK.out.pl).mono ?_; rintro e w2 ⟨rfl, rfl⟩; exact ⟨rfl, Ext.refl _⟩)
            simp only [Act.put, List.setIfInBounds_toArray, List.set_cons_zero, List.set_cons_succ]
            refine WE_q 15 rfl (by decide) (by kernel_rfl) rfl ?_; apply Exists.intro; refine ⟨fun w1 hx1 => ?_, ?_⟩
            · have hq1 := hx1.cells; go_simp; try go_bits
              first | with_reducible rfl | (refine (r06Holds_any _ _ _ _ HOK.out.pl).mono ?_; rintro e w2 ⟨rfl, rfl⟩; exact ⟨rfl, Ext.refl _⟩)
            simp only [Act.put, List.setIfInBounds_toArray, List.set_cons_zero, List.set_cons_succ]
            refine WE_q 16 rfl (by decide) (by kernel_rfl) rfl ?_; apply Exists.intro; refine ⟨fun w1 hx1 => ?_, ?_⟩
            · have hq1 := hx1.cells; go_simp; try go_bits
              first | with_reducible rfl | (refine (r06Holds_any _ _ _ _ HOK.out.pl).mono ?_; rintro e w2 ⟨rfl, rfl⟩; exact ⟨rfl, Ext.refl _⟩)
            simp only [Act.put, List.setIfInBounds_toArray, List.set_cons_zero, List.set_cons_succ]
            refine WE_q 17 rfl (by decide) (by kernel_rfl) rfl ?_; apply Exists.intro; refine ⟨fun w1 hx1 => ?_, ?_⟩
            · have hq1 := hx1.cells; go_simp; try go_bits
              first | with_reducible rfl | (refine (r06Holds_any _ _ _ _ HOK.out.pl).mono ?_; rintro e w2 ⟨rfl, rfl⟩; exact ⟨rfl, Ext.refl _⟩)
            simp only [Act.put, List.setIfInBounds_toArray, List.set_cons_zero, List.set_cons_succ]
            refine WE_q 18 rfl (by decide) (by kernel_rfl) rfl ?_; apply Exists.intro; refine ⟨fun w1 hx1 => ?_, ?_⟩
            · have hq1 := hx1.cells; go_simp; try go_bits
              first | with_reducible rfl | (refine (r06Holds_any _ _ _ _ HOK.out.pl).mono ?_; rintro e w2 ⟨rfl, rfl⟩; exact ⟨rfl, Ext.refl _⟩)
            simp only [Act.put, List.setIfInBounds_toArray, List.set_cons_zero, List.set_cons_succ]
            refine WE_q 19 rfl (by decide) (by kernel_rfl) rfl ?_; apply Exists.intro; refine ⟨fun w1 hx1 => ?_, ?_⟩
            · have hq1 := hx1.cells; go_simp; try go_bits
              first | with_reducible rfl | (refine (r06Holds_any _ _ _ _ HOK.out.pl).mono ?_; rintro e w2 ⟨rfl, rfl⟩; exact ⟨rfl, Ext.refl _⟩)
            simp only [Act.put, List.setIfInBounds_toArray, List.set_cons_zero, List.set_cons_succ]
            refine WE_q 20 rfl (by decide) (by kernel_rfl) rfl ?_; apply Exists.intro; refine ⟨fun w1 hx1 => ?_, ?_⟩
            · have hq1 := hx1.cells; go_simp; try go_bits
              first | with_reducible rfl | (refine (r06Holds_any _ _ _ _ HOK.out.pl).mono ?_; rintro e w2 ⟨rfl, rfl⟩; exact ⟨rfl, Ext.refl _⟩)
            simp only [Act.put, List.setIfInBounds_toArray, List.set_cons_zero, List.set_cons_succ]
            refine WE_q 21 rfl (by decide) (by kernel_rfl) rfl ?_; apply Exists.intro; refine ⟨fun w1 hx1 => ?_, ?_⟩
            · have hq1 := hx1.cells; go_simp; try go_bits
              first | with_reducible rfl | (refine (r06Holds_any _ _ _ _ HOK.out.pl).mono ?_; rintro e w2 ⟨rfl, rfl⟩; exact ⟨rfl, Ext.refl _⟩)
            simp only [Act.put, List.setIfInBounds_toArray, List.set_cons_zero, List.set_cons_succ]
            refine WE_q 22 rfl (by decide) (by kernel_rfl) rfl ?_; apply Exists.intro; refine ⟨fun w1 hx1 => ?_, ?_⟩
            · have hq1 := hx1.cells; go_simp; try go_bits
              first | with_reducible rfl | (refine (r06Holds_any _ _ _ _ HOK.out.pl).mono ?_; rintro e w2 ⟨rfl, rfl⟩; exact ⟨rfl, Ext.refl _⟩)
            simp only [Act.put, List.setIfInBounds_toArray, List.set_cons_zero, List.set_cons_succ]
            refine WE_q 23 rfl (by decide) (by kernel_rfl) rfl ?_; apply Exists.intro; refine ⟨fun w1 hx1 => ?_, ?_⟩
            · have hq1 := hx1.cells; go_simp; try go_bits
              first | with_reducible rfl | (refine (r06Holds_any _ _ _ _ HOK.out.pl).mono ?_; rintro e w2 ⟨rfl, rfl⟩; exact ⟨rfl, Ext.refl _⟩)
            simp only [Act.put, List.setIfInBounds_toArray, List.set_cons_zero, List.set_cons_succ]
            refine WE_q 24 rfl (by decide) (by kernel_rfl) rfl ?_; apply Exists.intro; refine ⟨fun w1 hx1 => ?_, ?_⟩
            · have hq1 := hx1.cells; go_simp; try go_bits
              first | with_reducible rfl | (refine (r06Holds_any _ _ _ _ HOK.out.pl).mono ?_; rintro e w2 ⟨rfl, rfl⟩; exact ⟨rfl, Ext.refl _⟩)
            simp only [Act.put, List.setIfInBounds_toArray, List.set_cons_zero, List.set_cons_succ]
            refine WE_q 25 rfl (by decide) (by kernel_rfl) rfl ?_; apply Exists.intro; refine ⟨fun w1 hx1 => ?_, ?_⟩
            · have hq1 := hx1.cells; go_simp; try go_bits
              first | with_reducible rfl | (refine (r06Holds_any _ _ _ _ HOK.out.pl).mono ?_; rintro e w2 ⟨rfl, rfl⟩; exact ⟨rfl, Ext.refl _⟩)
            simp only [Act.put, List.setIfInBounds_toArray, List.set_cons_zero, List.set_cons_succ]
            refine WE_q 26 rfl (by decide) (by kernel_rfl) rfl ?_; apply Exists.intro; refine ⟨fun w1 hx1 => ?_, ?_⟩
            · have hq1 := hx1.cells; go_simp; try go_bits
              first | with_reducible rfl | (refine (r06Holds_any _ _ _ _ HOK.out.pl).mono ?_; rintro e w2 ⟨rfl, rfl⟩; exact ⟨rfl, Ext.refl _⟩)
            simp only [Act.put, List.setIfInBounds_toArray, List.set_cons_zero, List.set_cons_succ]
            refine WE_q 27 rfl (by decide) (by kernel_rfl) rfl ?_; apply Exists.intro; refine ⟨fun w1 hx1 => ?_, ?_⟩
            · have hq1 := hx1.cells; go_simp; try go_bits
              first | with_reducible rfl | (refine (r06Holds_any _ _ _ _ HOK.out.pl).mono ?_; rintro e w2 ⟨rfl, rfl⟩; exact ⟨rfl, Ext.refl _⟩)
            simp only [Act.put, List.setIfInBounds_toArray, List.set_cons_zero, List.set_cons_succ]
            refine WE_done (by kernel_rfl) (fun w3 hx3 => ?_)
            (try simp only [List.drop_succ_cons, List.drop_zero])
            go_wp2_with fail
            go_roundw
            case rel => exact ⟨k + 1, some l[k], (k : Int), by omega, by go_num, rfl, HN.out.symm, .inr ⟨k, hlt, rfl, rfl⟩, hz.later hx3, hx.trans hx3⟩
            case measure => simp [intOf]; omega
          · have hcd : decide (l[j].pl < l[k].pl) = false := by simpa using hc
            have HN := Lib.hid (HST.out.trans (show findStep a (some l[j]) l[k] = some l[j] by unfold findStep; rw [if_neg]; unfold better; rw [hh]; simpa using hc))
            clear HST HO HB hc
            go_wp2_with fail
            refine wp_region_E 28 rfl (by kernel_rfl) (by kernel_rfl) ?_
            refine WE_q 0 rfl (by decide) (by kernel_rfl) rfl ?_; apply Exists.intro; refine ⟨fun w1 hx1 => ?_, ?_⟩
            · have hq1 := hx1.cells; go_simp; try go_bits
              first | with_reducible rfl | (refine (r06Holds_any _ _ _ _ HOK.out.pl).mono ?_; rintro e w2 ⟨rfl, rfl⟩; exact ⟨rfl, Ext.refl _⟩)
            simp only [Act.put, List.setIfInBounds_toArray, List.set_cons_zero, List.set_cons_succ]
            refine WE_q 1 rfl (by decide) (by kernel_rfl) rfl ?_; apply Exists.intro; refine ⟨fun w1 hx1 => ?_, ?_⟩
            · have hq1 := hx1.cells; go_simp; try go_bits
              first | with_reducible rfl | (refine (r06Holds_any _ _ _ _ HOK.out.pl).mono ?_; rintro e w2 ⟨rfl, rfl⟩; exact ⟨rfl, Ext.refl _⟩)
            simp only [Act.put, List.setIfInBounds_toArray, List.set_cons_zero, List.set_cons_succ]
            refine WE_q 2 rfl (by decide) (by kernel_rfl) rfl ?_; apply Exists.intro; refine ⟨fun w1 hx1 => ?_, ?_⟩
            · have hq1 := hx1.cells; go_simp; try go_bits
              first | with_reducible rfl | (refine (r06Holds_any _ _ _ _ HOK.out.pl).mono ?_; rintro e w2 ⟨rfl, rfl⟩; exact ⟨rfl, Ext.refl _⟩)
            simp only [Act.put, List.setIfInBounds_toArray, List.set_cons_zero, List.set_cons_succ]
            refine WE_q 3 rfl (by decide) (by kernel_rfl) rfl ?_; apply Exists.intro; refine ⟨fun w1 hx1 => ?_, ?_⟩
            · have hq1 := hx1.cells; go_simp; try go_bits
              first | with_reducible rfl | (refine (r06Holds_any _ _ _ _ HOK.out.pl).mono ?_; rintro e w2 ⟨rfl, rfl⟩; exact ⟨rfl, Ext.refl _⟩)
            simp only [Act.put, List.setIfInBounds_toArray, List.set_cons_zero, List.set_cons_succ]
            refine WE_q 4 rfl (by decide) (by kernel_rfl) rfl ?_; apply Exists.intro; refine ⟨fun w1 hx1 => ?_, ?_⟩
            · have hq1 := hx1.cells; go_simp; try go_bits
              first | with_reducible rfl | (refine (r06Holds_any _ _ _ _ HOK.out.pl).mono ?_; rintro e w2 ⟨rfl, rfl⟩; exact ⟨rfl, Ext.refl _⟩)
            simp only [Act.put, List.setIfInBounds_toArray, List.set_cons_zero, List.set_cons_succ]
            refine WE_q 5 rfl (by decide) (by kernel_rfl) rfl ?_; apply Exists.intro; refine ⟨fun w1 hx1 => ?_, ?_⟩
            · have hq1 := hx1.cells; go_simp; try go_bits
              first | with_reducible rfl | (refine (r06Holds_any _ _ _ _ HOK.out.pl).mono ?_; rintro e w2 ⟨rfl, rfl⟩; exact ⟨rfl, Ext.refl _⟩)
            simp only [Act.put, List.setIfInBounds_toArray, List.set_cons_zero, List.set_cons_succ]
            refine WE_q 6 rfl (by decide) (by kernel_rfl) rfl ?_; apply Exists.intro; refine ⟨fun w1 hx1 => ?_, ?_⟩
            · have hq1 := hx1.cells; go_simp; try go_bits
              first | with_reducible rfl | (refine (r06Holds_any _ _ _ _ HOK.out.pl).mono ?_; rintro e w2 ⟨rfl, rfl⟩; exact ⟨rfl, Ext.refl _⟩)
            simp only [Act.put, List.setIfInBounds_toArray, List.set_cons_zero, List.set_cons_succ]
            refine WE_q 7 rfl (by decide) (by kernel_rfl) rfl ?_; apply Exists.intro; refine ⟨fun w1 hx1 => ?_, ?_⟩
            · have hq1 := hx1.cells; go_simp; try go_bits
              first | with_reducible rfl | (refine (r06Holds_any _ _ _ _ HOK.out.pl).mono ?_; rintro e w2 ⟨rfl, rfl⟩; exact ⟨rfl, Ext.refl _⟩)
            simp only [Act.put, List.setIfInBounds_toArray, List.set_cons_zero, List.set_cons_succ]
            refine WE_q 8 rfl (by decide) (by kernel_rfl) rfl ?_; apply Exists.intro; refine ⟨fun w1 hx1 => ?_, ?_⟩
            · have hq1 := hx1.cells; go_simp; try go_bits
              first | with_reducible rfl | (refine (r06Holds_any _ _ _ _ HOK.out.pl).mono ?_; rintro e w2 ⟨rfl, rfl⟩; exact ⟨rfl, Ext.refl _⟩)
            simp only [Act.put, List.setIfInBounds_toArray, List.set_cons_zero, List.set_cons_succ]
            refine WE_q 9 rfl (by decide) (by kernel_rfl) rfl ?_; apply Exists.intro; refine ⟨fun w1 hx1 => ?_, ?_⟩
            · have hq1 := hx1.cells; go_simp; try go_bits
              first | with_reducible rfl | (refine (r06Holds_any _ _ _ _ HOK.out.pl).mono ?_; rintro e w2 ⟨rfl, rfl⟩; exact ⟨rfl, Ext.refl _⟩)
            simp only [Act.put, List.setIfInBounds_toArray, List.set_cons_zero, List.set_cons_succ]
            refine WE_q 10 rfl (by decide) (by kernel_rfl) rfl ?_; apply Exists.intro; refine ⟨fun w1 hx1 => ?_, ?_⟩
            · have hq1 := hx1.cells; go_simp; try go_bits
              first | with_reducible rfl | (refine (r06Holds_any _ _ _ _ HOK.out.pl).mono ?_; rintro e w2 ⟨rfl, rfl⟩; exact ⟨rfl, Ext.refl _⟩)
            simp only [Act.put, List.setIfInBounds_toArray, List.set_cons_zero, List.set_cons_succ]
            refine WE_q 11 rfl (by decide) (by kernel_rfl) rfl ?_; apply Exists.intro; refine ⟨fun w1 hx1 => ?_, ?_⟩
            · have hq1 := hx1.cells; go_simp; try go_bits
              first | with_reducible rfl | (refine (r06Holds_any _ _ _ _ HOK.out.pl).mono ?_; rintro e w2 ⟨rfl, rfl⟩; exact ⟨rfl, Ext.refl _⟩)
            simp only [Act.put, List.setIfInBounds_toArray, List.set_cons_zero, List.set_cons_succ]
            refine WE_q 12 rfl (by decide) (by kernel_rfl) rfl ?_; apply Exists.intro; refine ⟨fun w1 hx1 => ?_, ?_⟩
            · have hq1 := hx1.cells; go_simp; try go_bits
              first | with_reducible rfl | (refine (r06Holds_any _ _ _ _ HOK.out.pl).mono ?_; rintro e w2 ⟨rfl, rfl⟩; exact ⟨rfl, Ext.refl _⟩)
            simp only [Act.put, List.setIfInBounds_toArray, List.set_cons_zero, List.set_cons_succ]
            refine WE_q 13 rfl (by decide) (by kernel_rfl) rfl ?_; apply Exists.intro; refine ⟨fun w1 hx1 => ?_, ?_⟩
            · have hq1 := hx1.cells; go_simp; try go_bits
              first | with_reducible rfl | (refine (r06Holds_any _ _ _ _ HOK.out.pl).mono ?_; rintro e w2 ⟨rfl, rfl⟩; exact ⟨rfl, Ext.refl _⟩)
            simp only [Act.put, List.setIfInBounds_toArray, List.set_cons_zero, List.set_cons_succ]
            refine WE_q 14 rfl (by decide) (by kernel_rfl) rfl ?_; apply Exists.intro; refine ⟨fun w1 hx1 => ?_, ?_⟩
            · have hq1 := hx1.cells; go_simp; try go_bits
              first | with_reducible rfl | (refine (r06Holds_any _ _ _ _ HOK.out.pl).mono ?_; rintro e w2 ⟨rfl, rfl⟩; exact ⟨rfl, Ext.refl _⟩)
            simp only [Act.put, List.setIfInBounds_toArray, List.set_cons_zero, List.set_cons_succ]
            refine WE_q 15 rfl (by decide) (by kernel_rfl) rfl ?_; apply Exists.intro; refine ⟨fun w1 hx1 => ?_, ?_⟩
            · have hq1 := hx1.cells; go_simp; try go_bits
              first | with_reducible rfl | (refine (r06Holds_any _ _ _ _ HOK.out.pl).mono ?_; rintro e w2 ⟨rfl, rfl⟩; exact ⟨rfl, Ext.refl _⟩)
            simp only [Act.put, List.setIfInBounds_toArray, List.set_cons_zero, List.set_cons_succ]
            refine WE_q 16 rfl (by decide) (by kernel_rfl) rfl ?_; apply Exists.intro; refine ⟨fun w1 hx1 => ?_, ?_⟩
            · have hq1 := hx1.cells; go_simp; try go_bits
              first | with_reducible rfl | (refine (r06Holds_any _ _ _ _ HOK.out.pl).mono ?_; rintro e w2 ⟨rfl, rfl⟩; exact ⟨rfl, Ext.refl _⟩)
            simp only [Act.put, List.setIfInBounds_toArray, List.set_cons_zero, List.set_cons_succ]
            refine WE_q 17 rfl (by decide) (by kernel_rfl) rfl ?_; apply Exists.intro; refine ⟨fun w1 hx1 => ?_, ?_⟩
            · have hq1 := hx1.cells; go_simp; try go_bits
              first | with_reducible rfl | (refine (r06Holds_any _ _ _ _ HOK.out.pl).mono ?_; rintro e w2 ⟨rfl, rfl⟩; exact ⟨rfl, Ext.refl _⟩)
            simp only [Act.put, List.setIfInBounds_toArray, List.set_cons_zero, List.set_cons_succ]
            refine WE_q 18 rfl (by decide) (by kernel_rfl) rfl ?_; apply Exists.intro; refine ⟨fun w1 hx1 => ?_, ?_⟩
            · have hq1 := hx1.cells; go_simp; try go_bits
              first | with_reducible rfl | (refine (r06Holds_any _ _ _ _ HOK.out.pl).mono ?_; rintro e w2 ⟨rfl, rfl⟩; exact ⟨rfl, Ext.refl _⟩)
            simp only [Act.put, List.setIfInBounds_toArray, List.set_cons_zero, List.set_cons_succ]
            refine WE_q 19 rfl (by decide) (by kernel_rfl) rfl ?_; apply Exists.intro; refine ⟨fun w1 hx1 => ?_, ?_⟩
            · have hq1 := hx1.cells; go_simp; try go_bits
              first | with_reducible rfl | (refine (r06Holds_any _ _ _ _ HOK.out.pl).mono ?_; rintro e w2 ⟨rfl, rfl⟩; exact ⟨rfl, Ext.refl _⟩)
            simp only [Act.put, List.setIfInBounds_toArray, List.set_cons_zero, List.set_cons_succ]
            refine WE_q 20 rfl (by decide) (by kernel_rfl) rfl ?_; apply Exists.intro; refine ⟨fun w1 hx1 => ?_, ?_⟩
            · have hq1 := hx1.cells; go_simp; try go_bits
              first | with_reducible rfl | (refine (r06Holds_any _ _ _ _ HOK.out.pl).mono ?_; rintro e w2 ⟨rfl, rfl⟩; exact ⟨rfl, Ext.refl _⟩)
            simp only [Act.put, List.setIfInBounds_toArray, List.set_cons_zero, List.set_cons_succ]
            refine WE_q 21 rfl (by decide) (by kernel_rfl) rfl ?_; apply Exists.intro; refine ⟨fun w1 hx1 => ?_, ?_⟩
            · have hq1 := hx1.cells; go_simp; try go_bits
              first | with_reducible rfl | (refine (r06Holds_any _ _ _ _ HOK.out.pl).mono ?_; rintro e w2 ⟨rfl, rfl⟩; exact ⟨rfl, Ext.refl _⟩)
            simp only [Act.put, List.setIfInBounds_toArray, List.set_cons_zero, List.set_cons_succ]
            refine WE_q 22 rfl (by decide) (by kernel_rfl) rfl ?_; apply Exists.intro; refine ⟨fun w1 hx1 => ?_, ?_⟩
            · have hq1 := hx1.cells; go_simp; try go_bits
              first | with_reducible rfl | (refine (r06Holds_any _ _ _ _ HOK.out.pl).mono ?_; rintro e w2 ⟨rfl, rfl⟩; exact ⟨rfl, Ext.refl _⟩)
            simp only [Act.put, List.setIfInBounds_toArray, List.set_cons_zero, List.set_cons_succ]
            refine WE_q 23 rfl (by decide) (by kernel_rfl) rfl ?_; apply Exists.intro; refine ⟨fun w1 hx1 => ?_, ?_⟩
            · have hq1 := hx1.cells; go_simp; try go_bits
              first | with_reducible rfl | (refine (r06Holds_any _ _ _ _ HOK.out.pl).mono ?_; rintro e w2 ⟨rfl, rfl⟩; exact ⟨rfl, Ext.refl _⟩)
            simp only [Act.put, List.setIfInBounds_toArray, List.set_cons_zero, List.set_cons_succ]
            refine WE_q 24 rfl (by decide) (by kernel_rfl) rfl ?_; apply Exists.intro; refine ⟨fun w1 hx1 => ?_, ?_⟩
            · have hq1 := hx1.cells; go_simp; try go_bits
              first | with_reducible rfl | (refine (r06Holds_any _ _ _ _ HOK.out.pl).mono ?_; rintro e w2 ⟨rfl, rfl⟩; exact ⟨rfl, Ext.refl _⟩)
            simp only [Act.put, List.setIfInBounds_toArray, List.set_cons_zero, List.set_cons_succ]
            refine WE_q 25 rfl (by decide) (by kernel_rfl) rfl ?_; apply Exists.intro; refine ⟨fun w1 hx1 => ?_, ?_⟩
            · have hq1 := hx1.cells; go_simp; try go_bits
              first | with_reducible rfl | (refine (r06Holds_any _ _ _ _ HOK.out.pl).mono ?_; rintro e w2 ⟨rfl, rfl⟩; exact ⟨rfl, Ext.refl _⟩)
            simp only [Act.put, List.setIfInBounds_toArray, List.set_cons_zero, List.set_cons_succ]
            refine WE_q 26 rfl (by decide) (by kernel_rfl) rfl ?_; apply Exists.intro; refine ⟨fun w1 hx1 => ?_, ?_⟩
            · have hq1 := hx1.cells; go_simp; try go_bits
              first | with_reducible rfl | (refine (r06Holds_any _ _ _ _ HOK.out.pl).mono ?_; rintro e w2 ⟨rfl, rfl⟩; exact ⟨rfl, Ext.refl _⟩)
            simp only [Act.put, List.setIfInBounds_toArray, List.set_cons_zero, List.set_cons_succ]
            refine WE_q 27 rfl (by decide) (by kernel_rfl) rfl ?_; apply Exists.intro; refine ⟨fun w1 hx1 => ?_, ?_⟩
            · have hq1 := hx1.cells; go_simp; try go_bits
              first | with_reducible rfl | (refine (r06Holds_any _ _ _ _ HOK.out.pl).mono ?_; rintro e w2 ⟨rfl, rfl⟩; exact ⟨rfl, Ext.refl _⟩)
            simp only [Act.put, List.setIfInBounds_toArray, List.set_cons_zero, List.set_cons_succ]
            refine WE_done (by kernel_rfl) (fun w3 hx3 => ?_)
            (try simp only [List.drop_succ_cons, List.drop_zero])
            go_wp2_with fail
            go_roundw
            case rel => exact ⟨k + 1, some l[j], (j : Int), by omega, by go_num, rfl, HN.out.symm, .inr ⟨j, hj, rfl, rfl⟩, hz.later hx3, hx.trans hx3⟩
            case measure => simp [intOf]; omega
      · have hhd : holdsV l[k].pa l[k].pl a = false := by simpa using hh
        have HN := Lib.hid (HST.out.trans (show findStep a o l[k] = o by unfold findStep; rw [if_neg]; unfold better; rw [hhd]; simp))
        clear hh HST HO
        go_wp2_with fail
        refine wp_region_E 28 rfl (by kernel_rfl) (by kernel_rfl) ?_
        refine WE_q 0 rfl (by decide) (by kernel_rfl) rfl ?_; apply Exists.intro; refine ⟨fun w1 hx1 => ?_, ?_⟩
        · have hq1 := hx1.cells; go_simp; try go_bits
          first | with_reducible rfl | (refine (r06Holds_any _ _ _ _ HOK.out.pl).mono ?_; rintro e w2 ⟨rfl, rfl⟩; exact ⟨rfl, Ext.refl _⟩)
        simp only [Act.put, List.setIfInBounds_toArray, List.set_cons_zero, List.set_cons_succ]
        refine WE_q 1 rfl (by decide) (by kernel_rfl) rfl ?_; apply Exists.intro; refine ⟨fun w1 hx1 => ?_, ?_⟩
        · have hq1 := hx1.cells; go_simp; try go_bits
          first | with_reducible rfl | (refine (r06Holds_any _ _ _ _ HOK.out.pl).mono ?_; rintro e w2 ⟨rfl, rfl⟩; exact ⟨rfl, Ext.refl _⟩)
        simp only [Act.put, List.setIfInBounds_toArray, List.set_cons_zero, List.set_cons_succ]
        refine WE_q 2 rfl (by decide) (by kernel_rfl) rfl ?_; apply Exists.intro; refine ⟨fun w1 hx1 => ?_, ?_⟩
        · have hq1 := hx1.cells; go_simp; try go_bits
          first | with_reducible rfl | (refine (r06Holds_any _ _ _ _ HOK.out.pl).mono ?_; rintro e w2 ⟨rfl, rfl⟩; exact ⟨rfl, Ext.refl _⟩)
        simp only [Act.put, List.setIfInBounds_toArray, List.set_cons_zero, List.set_cons_succ]
        refine WE_q 3 rfl (by decide) (by kernel_rfl) rfl ?_; apply Exists.intro; refine ⟨fun w1 hx1 => ?_, ?_⟩
        · have hq1 := hx1.cells; go_simp; try go_bits
          first | with_reducible rfl | (refine (r06Holds_any _ _ _ _ HOK.out.pl).mono ?_; rintro e w2 ⟨rfl, rfl⟩; exact ⟨rfl, Ext.refl _⟩)
        simp only [Act.put, List.setIfInBounds_toArray, List.set_cons_zero, List.set_cons_succ]
        refine WE_q 4 rfl (by decide) (by kernel_rfl) rfl ?_; apply Exists.intro; refine ⟨fun w1 hx1 => ?_, ?_⟩
        · have hq1 := hx1.cells; go_simp; try go_bits
          first | with_reducible rfl | (refine (r06Holds_any _ _ _ _ HOK.out.pl).mono ?_; rintro e w2 ⟨rfl, rfl⟩; exact ⟨rfl, Ext.refl _⟩)
        simp only [Act.put, List.setIfInBounds_toArray, List.set_cons_zero, List.set_cons_succ]
        refine WE_q 5 rfl (by decide) (by kernel_rfl) rfl ?_; apply Exists.intro; refine ⟨fun w1 hx1 => ?_, ?_⟩
        · have hq1 := hx1.cells; go_simp; try go_bits
          first | with_reducible rfl | (refine (r06Holds_any _ _ _ _ HOK.out.pl).mono ?_; rintro e w2 ⟨rfl, rfl⟩; exact ⟨rfl, Ext.refl _⟩)
        simp only [Act.put, List.setIfInBounds_toArray, List.set_cons_zero, List.set_cons_succ]
        refine WE_q 6 rfl (by decide) (by kernel_rfl) rfl ?_; apply Exists.intro; refine ⟨fun w1 hx1 => ?_, ?_⟩
        · have hq1 := hx1.cells; go_simp; try go_bits
          first | with_reducible rfl | (refine (r06Holds_any _ _ _ _ HOK.out.pl).mono ?_; rintro e w2 ⟨rfl, rfl⟩; exact ⟨rfl, Ext.refl _⟩)
        simp only [Act.put, List.setIfInBounds_toArray, List.set_cons_zero, List.set_cons_succ]
        refine WE_q 7 rfl (by decide) (by kernel_rfl) rfl ?_; apply Exists.intro; refine ⟨fun w1 hx1 => ?_, ?_⟩
        · have hq1 := hx1.cells; go_simp; try go_bits
          first | with_reducible rfl | (refine (r06Holds_any _ _ _ _ HOK.out.pl).mono ?_; rintro e w2 ⟨rfl, rfl⟩; exact ⟨rfl, Ext.refl _⟩)
        simp only [Act.put, List.setIfInBounds_toArray, List.set_cons_zero, List.set_cons_succ]
        refine WE_q 8 rfl (by decide) (by kernel_rfl) rfl ?_; apply Exists.intro; refine ⟨fun w1 hx1 => ?_, ?_⟩
        · have hq1 := hx1.cells; go_simp; try go_bits
          first | with_reducible rfl | (refine (r06Holds_any _ _ _ _ HOK.out.pl).mono ?_; rintro e w2 ⟨rfl, rfl⟩; exact ⟨rfl, Ext.refl _⟩)
        simp only [Act.put, List.setIfInBounds_toArray, List.set_cons_zero, List.set_cons_succ]
        refine WE_q 9 rfl (by decide) (by kernel_rfl) rfl ?_; apply Exists.intro; refine ⟨fun w1 hx1 => ?_, ?_⟩
        · have hq1 := hx1.cells; go_simp; try go_bits
          first | with_reducible rfl | (refine (r06Holds_any _ _ _ _ HOK.out.pl).mono ?_; rintro e w2 ⟨rfl, rfl⟩; exact ⟨rfl, Ext.refl _⟩)
        simp only [Act.put, List.setIfInBounds_toArray, List.set_cons_zero, List.set_cons_succ]
        refine WE_q 10 rfl (by decide) (by kernel_rfl) rfl ?_; apply Exists.intro; refine ⟨fun w1 hx1 => ?_, ?_⟩
        · have hq1 := hx1.cells; go_simp; try go_bits
          first | with_reducible rfl | (refine (r06Holds_any _ _ _ _ HOK.out.pl).mono ?_; rintro e w2 ⟨rfl, rfl⟩; exact ⟨rfl, Ext.refl _⟩)
        simp only [Act.put, List.setIfInBounds_toArray, List.set_cons_zero, List.set_cons_succ]
        refine WE_q 11 rfl (by decide) (by kernel_rfl) rfl ?_; apply Exists.intro; refine ⟨fun w1 hx1 => ?_, ?_⟩
        · have hq1 := hx1.cells; go_simp; try go_bits
          first | with_reducible rfl | (refine (r06Holds_any _ _ _ _ HOK.out.pl).mono ?_; rintro e w2 ⟨rfl, rfl⟩; exact ⟨rfl, Ext.refl _⟩)
        simp only [Act.put, List.setIfInBounds_toArray, List.set_cons_zero, List.set_cons_succ]
        refine WE_q 12 rfl (by decide) (by kernel_rfl) rfl ?_; apply Exists.intro; refine ⟨fun w1 hx1 => ?_, ?_⟩
        · have hq1 := hx1.cells; go_simp; try go_bits
          first | with_reducible rfl | (refine (r06Holds_any _ _ _ _ HOK.out.pl).mono ?_; rintro e w2 ⟨rfl, rfl⟩; exact ⟨rfl, Ext.refl _⟩)
        simp only [Act.put, List.setIfInBounds_toArray, List.set_cons_zero, List.set_cons_succ]
        refine WE_s 13 rfl (by decide) (by kernel_rfl) rfl ?_
        simp only [Act.put, List.setIfInBounds_toArray, List.set_cons_zero, List.set_cons_succ]
        refine WE_s 14 rfl (by decide) (by kernel_rfl) rfl ?_
        simp only [Act.put, List.setIfInBounds_toArray, List.set_cons_zero, List.set_cons_succ]
        refine WE_s 15 rfl (by decide) (by kernel_rfl) rfl ?_
        simp only [Act.put, List.setIfInBounds_toArray, List.set_cons_zero, List.set_cons_succ]
        refine WE_s 16 rfl (by decide) (by kernel_rfl) rfl ?_
        simp only [Act.put, List.setIfInBounds_toArray, List.set_cons_zero, List.set_cons_succ]
        refine WE_s 17 rfl (by decide) (by kernel_rfl) rfl ?_
        simp only [Act.put, List.setIfInBounds_toArray, List.set_cons_zero, List.set_cons_succ]
        refine WE_s 18 rfl (by decide) (by kernel_rfl) rfl ?_
        simp only [Act.put, List.setIfInBounds_toArray, List.set_cons_zero, List.set_cons_succ]
        refine WE_s 19 rfl (by decide) (by kernel_rfl) rfl ?_
        simp only [Act.put, List.setIfInBounds_toArray, List.set_cons_zero, List.set_cons_succ]
        refine WE_s 20 rfl (by decide) (by kernel_rfl) rfl ?_
        simp only [Act.put, List.setIfInBounds_toArray, List.set_cons_zero, List.set_cons_succ]
        refine WE_s 21 rfl (by decide) (by kernel_rfl) rfl ?_
        simp only [Act.put, List.setIfInBounds_toArray, List.set_cons_zero, List.set_cons_succ]
        refine WE_s 22 rfl (by decide) (by kernel_rfl) rfl ?_
        simp only [Act.put, List.setIfInBounds_toArray, List.set_cons_zero, List.set_cons_succ]
        refine WE_s 23 rfl (by decide) (by kernel_rfl) rfl ?_
        simp only [Act.put, List.setIfInBounds_toArray, List.set_cons_zero, List.set_cons_succ]
        refine WE_s 24 rfl (by decide) (by kernel_rfl) rfl ?_
        simp only [Act.put, List.setIfInBounds_toArray, List.set_cons_zero, List.set_cons_succ]
        refine WE_s 25 rfl (by decide) (by kernel_rfl) rfl ?_
        simp only [Act.put, List.setIfInBounds_toArray, List.set_cons_zero, List.set_cons_succ]
        refine WE_s 26 rfl (by decide) (by kernel_rfl) rfl ?_
        simp only [Act.put, List.setIfInBounds_toArray, List.set_cons_zero, List.set_cons_succ]
        refine WE_s 27 rfl (by decide) (by kernel_rfl) rfl ?_
        simp only [Act.put, List.setIfInBounds_toArray, List.set_cons_zero, List.set_cons_succ]
        refine WE_done (by kernel_rfl) (fun w3 hx3 => ?_)
        (try simp only [List.drop_succ_cons, List.drop_zero])
        go_wp2_with fail
        go_roundw
        case rel => exact ⟨k + 1, o, bi, by omega, by go_num, rfl, HN.out.symm, HB.out, hz.later hx3, hx.trans hx3⟩
        case measure => simp [intOf]; omega
    · have HN := Lib.hid (show findL l a = o by rw [HO.out, List.take_of_length_le (by omega)])
      have hzf := hz.frozen
      have hzc := hz.cells
      have hzl := hz.lt
      rcases HB.out with ⟨ho, hb⟩ | ⟨j, hj, ho, hb⟩
      · subst ho hb
        have HR := Lib.hid (show foundV (findL l a) = .tuple #[zeroR.val, .bool false] by rw [HN.out]; rfl)
        clear HO HB HN
        go_wp2_with fail
        have hb4 : Blk ((((wr.setCell ⟨w.heap.size, 0, none⟩ (.int .u32 0)).setCell ⟨w.heap.size, 1, none⟩ (I 0)).setCell ⟨w.heap.size, 2, none⟩ (I 0)).setCell ⟨w.heap.size, 3, none⟩ (I 0)) w.heap.size zeroR.cells 42 := by (repeat (first | with_reducible assumption | with_reducible refine Blk.old ?_ _ | with_reducible refine Blk.drew ?_ | (with_reducible refine Blk.otherP ?_ ?_; focus (first | (simp; done) | (simp; omega))) | with_reducible exact Row4.of (by with_reducible assumption) | refine Blk.set4 ?_ | with_reducible refine Row4.old ?_ _))
        have hbc := hb4.cells
        clear hzc
        refine bodyPost_ret (v := foundV (findL l a)) ?_ rfl ⟨rfl, ?_⟩
        · rw [HR.out]; simp [results, Try.results82, go_sem, hbc]
        · (repeat (first | with_reducible exact Ext.refl _ | with_reducible assumption | with_reducible refine Ext.alloc ?_ _ | with_reducible refine Ext.drew ?_ | with_reducible refine Ext.drewN ?_ _ | (with_reducible refine Ext.setCellP ?_ ?_; focus (first | (simp; done) | (simp; omega) | omega))))
      · subst ho hb
        obtain ⟨b1, o1, rfl, q0, q1, q2, q3⟩ := A3.out j l[j] (List.getElem?_eq_getElem hj)
        replace q0 := hx.cell q0
        replace q1 := hx.cell q1
        replace q2 := hx.cell q2
        replace q3 := hx.cell q3
        have HR := Lib.hid (show foundV (findL l a) = .tuple #[l[j].val, .bool true] by rw [HN.out]; rfl)
        clear HO HB HN
        go_wp2_with fail
        have hb4 : Blk ((((wr.setCell ⟨w.heap.size, 0, none⟩ (U l[j].pa)).setCell ⟨w.heap.size, 1, none⟩ (I l[j].pl)).setCell ⟨w.heap.size, 2, none⟩ (I l[j].act)).setCell ⟨w.heap.size, 3, none⟩ (I l[j].nx)) w.heap.size l[j].cells 42 := by (repeat (first | with_reducible assumption | with_reducible refine Blk.old ?_ _ | with_reducible refine Blk.drew ?_ | (with_reducible refine Blk.otherP ?_ ?_; focus (first | (simp; done) | (simp; omega))) | with_reducible exact Row4.of (by with_reducible assumption) | refine Blk.set4 ?_ | with_reducible refine Row4.old ?_ _))
        have hbc := hb4.cells
        clear hzc
        refine bodyPost_ret (v := foundV (findL l a)) ?_ rfl ⟨rfl, ?_⟩
        · rw [HR.out]; simp [results, Try.results82, go_sem, hbc]
        · (repeat (first | with_reducible exact Ext.refl _ | with_reducible assumption | with_reducible refine Ext.alloc ?_ _ | with_reducible refine Ext.drew ?_ | with_reducible refine Ext.drewN ?_ _ | (with_reducible refine Ext.setCellP ?_ ?_; focus (first | (simp; done) | (simp; omega) | omega))))
end Go.Proofs.Ytilaljdokpdcoaa
