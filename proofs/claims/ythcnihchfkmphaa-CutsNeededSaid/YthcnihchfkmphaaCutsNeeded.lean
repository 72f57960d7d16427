/- The law CutsNeeded: each cut is where a rule begins or behind one's end, and all of these are there. Conditions: whole numbers are within 64 bits. -/
import Derived.Test.YthcnihchfkmphaaGCuts
import Derived.Test.YthcnihchfkmphaaGNetP
import Derived.Deep.OwnRows
import Derived.Laws.OwnMore
namespace Go.Proofs.Ythcnihchfkmphaa
open Go.RowKit

theorem infoBool : (Try.prog.info? 4).map (fun i => (i.zero, i.size, i.bytes)) = some (some (.bool false), 1, 1) := by kernel_rfl
theorem ndV_begin (n : Nat) : List.replicate n (Value.bool false) = (madeCells #[Value.bool false] n).toList := by rw [toList_madeCells_one]
/-- What a rule's ends say of the cuts. -/
structure EndsIn (l : List (BitVec 32)) (h0 : l[0]? = some 0#32) (lo hi : BitVec 32) : Prop where
  low : l[ivN l lo]'(ivN_lt h0 lo) = lo
  next : uv hi ≠ 4294967295 → ∃ h : ivN l hi + 1 < l.length, uv l[ivN l hi + 1] = uv hi + 1
  top : uv hi = 4294967295 → ivN l hi + 1 = l.length
theorem ends_in {rs : List Rul} {l : List (BitVec 32)} (hC : Cuts rs l) (h0 : l[0]? = some 0#32) {r : Rul} (hr : r ∈ rs) : EndsIn l h0 (lowV r.pa r.pl) (highV r.pa r.pl) :=
  ⟨iv_mem hC.rise h0 (hC.low hr), hC.nextAt hr, top_last h0⟩
theorem part_step {ls : List (List Rul)} {k j : Nat} (h : k < ls.length) (hj : j < ls[k].length) : (ls.take k).flatten ++ ls[k].take (j + 1) = ((ls.take k).flatten ++ ls[k].take j) ++ [ls[k][j]] := by
  rw [List.take_succ_eq_append_getElem hj, ← List.append_assoc]
theorem part_all {ls : List (List Rul)} {k : Nat} (h : k < ls.length) : (ls.take k).flatten ++ ls[k].take ls[k].length = (ls.take (k + 1)).flatten := by
  rw [flat_step h, List.take_of_length_le (Nat.le_refl _)]
set_option maxHeartbeats 4000000 in
set_option maxRecDepth 100000 in
theorem cutsNeeded_any (lv : Value) (ls : List (List Rul)) (w : World) (hl : TablesAt w lv ls) (hok : TablesOk ls) :
    Calls Try.prog 3 #[.agg #[lv]] w fun e w' => e = .returned (.bool true) ∧ Ext w w' := by
  have HL := Lib.hid hl
  have HOK := Lib.hid hok
  obtain ⟨ad, cap, hlv, a1, a2, a3⟩ := hl.form
  subst hlv
  clear a3 hl hok
  unfold maxLen at a2
  go_enter Try.func3, Try.ntmps3
  go_upto_region 1 with (fail)
  refine hideW (Φ := fun W => Code.wp _ _ _ _ W) (fun W => Ext w W ∧ Blk W w.heap.size [.slice ad ls.length cap] 24)
    ⟨by (repeat (first | with_reducible exact Ext.refl _ | with_reducible assumption | with_reducible refine Ext.alloc ?_ _ | with_reducible refine Ext.drew ?_ | with_reducible refine Ext.drewN ?_ _ | (with_reducible refine Ext.setCellP ?_ ?_; focus (first | (simp; done) | (simp; omega) | omega)))), Blk.new w [.slice ad ls.length cap] 24⟩ (fun W1 hW1 => ?_)
  obtain ⟨hx1, hb1⟩ := hW1
  have HX1 := Lib.hid hx1
  have HB1 := Lib.hid hb1
  clear hx1 hb1
  generalize w.heap.size = nb at *
  go_upto_region 2 with (first
    | (go_at_call 19; (with_reducible refine (shown12_any _).mono ?_); rintro e w2 ⟨rfl, hx2⟩; have HX2 := Lib.hid (HX1.out.trans hx2); have HB2 := Lib.hid (HB1.out.later hx2); clear hx2))
  have hbc2 := HB2.out.cells
  have HNS := Lib.hid (fitN_size ls)
  have HNO := Lib.hid (fitN_ok ls)
  have hN := fitN_bd ls
  go_upto_region 3 with (first
    | (go_at_call 20; (with_reducible refine (r09Fit_any _ ls _ (HL.out.later HX2.out) HOK.out).mono ?_); rintro e w3 ⟨v3, he, hF, hx3⟩; subst he; have HF3 := Lib.hid hF.tables; obtain ⟨va, vcap, hv3, q1, q2, q3⟩ := HF3.out.form; subst hv3; clear q3; have HX3 := Lib.hid (HX2.out.trans hx3); clear hF hx3))
  generalize fitN ls = N at *
  clear hbc2 HB2 HB1
  unfold maxLen at q2
  refine hideW (Φ := fun W => Code.wp _ _ _ _ W) (fun W => Ext w3 W ∧ Blk W w3.heap.size [.slice va N.length vcap] 24)
    ⟨by (repeat (first | with_reducible exact Ext.refl _ | with_reducible assumption | with_reducible refine Ext.alloc ?_ _ | with_reducible refine Ext.drew ?_ | with_reducible refine Ext.drewN ?_ _ | (with_reducible refine Ext.setCellP ?_ ?_; focus (first | (simp; done) | (simp; omega) | omega)))), Blk.new w3 [.slice va N.length vcap] 24⟩ (fun W4 hW4 => ?_)
  obtain ⟨hx4, hb4⟩ := hW4
  have HX4 := Lib.hid (HX3.out.trans hx4)
  have HF4 := Lib.hid (HF3.out.later hx4)
  have HB4 := Lib.hid hb4
  have hbc4 := hb4.cells
  clear hx4 hb4 HF3 HX3 HX1 HX2
  generalize w3.heap.size = fb at *
  go_upto_region 4 with (first
    | (go_at_call 21; (with_reducible refine (cutsOf_any _ N _ HF4.out HNO.out (cap_of (Nat.le_trans HNS.out (by decide)))).mono ?_); rintro e w5 ⟨v5, l, he, hO, hC, hx5⟩; subst he; have HU5 := Lib.hid hO.us; have HC := Lib.hid hC; have HX5 := Lib.hid (HX4.out.trans hx5); have HF5 := Lib.hid (HF4.out.later hx5); have HB5 := Lib.hid (HB4.out.later hx5); clear hO hC hx5))
  have HZ := Lib.hid HC.out.zero
  have hpos := HC.out.pos
  have hle : l.length ≤ 321 := by
    have h1 := HC.out.len
    have h2 := HNS.out
    rw [sizeN_flat] at h1
    omega
  clear hbc4 HF4 HB4 HX4
  obtain ⟨ca, ccap, hcv, c1, c2, c3⟩ := HU5.out.form
  subst hcv
  obtain ⟨cb, co, hca, pz⟩ := c3 0 _ HZ.out
  subst hca
  rw [Nat.add_zero] at pz
  clear c3
  unfold maxLen at c2
  have hmk := fun w => run_make_row' (P := Try.prog) 30 4 (.bool false) 1 Try.underlying30 infoBool rfl .i64 .i64 l.length (by omega) (by omega) w
  have hln0 : ((l.length : Int) == 0) = false := beq_false_of_ne (by omega)
  have hln1 : (l.length == 0) = false := beq_false_of_ne (by omega)
  have hz0 : ((0#32 : BitVec 32) != 0#32) = false := rfl
  go_upto_region 7 with (fail)
  refine hideW (Φ := fun W => Code.wp _ _ _ _ W) (fun W => Ext w5 W ∧ Blk W w5.heap.size (List.replicate l.length (Value.bool false)) 4)
    ⟨by (repeat (first | with_reducible exact Ext.refl _ | with_reducible assumption | with_reducible refine Ext.alloc ?_ _ | with_reducible refine Ext.drew ?_ | with_reducible refine Ext.drewN ?_ _ | (with_reducible refine Ext.setCellP ?_ ?_; focus (first | (simp; done) | (simp; omega) | omega)))), by rw [ndV_begin]; exact Blk.new w5 (madeCells #[Value.bool false] l.length).toList 4⟩ (fun W6 hW6 => ?_)
  obtain ⟨hx6, hd6⟩ := hW6
  have HD6 := Lib.hid hd6
  have HX56 := Lib.hid hx6
  have hdc := hd6.cells 0
  have hdf := hd6.frozen 0
  rw [List.getElem?_replicate, if_pos hpos] at hdc
  clear hx6 hd6 hmk pz hln0 hln1 hz0
  generalize hdb : w5.heap.size = db at *
  have HDB := Lib.hid (show w5.heap.size ≤ db from Nat.le_of_eq hdb)
  clear hdb
  go_upto_region 8 with (fail)
  have HST := Lib.hid (ndV_start HZ.out HC.out.rise)
  refine hideW (Φ := fun W => Code.wp _ _ _ _ W) (fun W => Ext w5 W ∧ Blk W db (ndV l (cutI [])) 4)
    ⟨Ext.setCell HX56.out (by simpa using HDB.out) _, by rw [← HST.out]; exact HD6.out.set 0 _⟩ (fun W7 hW7 => ?_)
  obtain ⟨hx7, hd7⟩ := hW7
  have HX57 := Lib.hid hx7
  have HD7 := Lib.hid hd7
  clear hdc hdf hx7 hd7 HST HD6 HX56
  have CU := Lib.hid (show ∀ W, Ext w5 W → ∀ (i : Nat) (x : BitVec 32), l[i]? = some x → W.cell? ⟨cb, co + i, none⟩ = some (U x) from fun W hW i x hi => by
    obtain ⟨_, _, e, _, _, h⟩ := (HU5.out.later hW).form
    obtain ⟨b, o, e2, h2⟩ := h i x hi
    simp only [Value.slice.injEq, true_and] at e
    rw [← e.1] at e2
    simp only [Option.some.injEq, Addr.mk.injEq, and_true] at e2
    obtain ⟨rfl, rfl⟩ := e2
    exact h2)
  go_wp2_with fail
  go_loopw [7] (fun i wr => ∃ k : Nat, k ≤ N.length ∧ i = I k ∧ Hid (Blk wr db (ndV l (cutI (N.take k).flatten)) 4) ∧ Hid (Ext w5 wr)) (fun i _ => N.length - (intOf i).toNat)
  case atStart => exact ⟨0, by omega, rfl, HD7.out, HX57.out⟩
  case round =>
    obtain ⟨k, hk, rfl, HDk, HXk⟩ := hrel
    have hbc := (HB5.out.later HXk.out).cells
    by_cases hlt : k < N.length
    · obtain ⟨_, _, he, _, _, g3⟩ := HF5.out.form
      obtain ⟨b0, o0, u, he2, p0, hru⟩ := g3 k N[k] (List.getElem?_eq_getElem hlt)
      simp only [Value.slice.injEq, true_and] at he
      obtain ⟨rfl, rfl⟩ := he
      subst he2
      have HP := Lib.hid p0
      obtain ⟨ra, rcap, rfl, r1, r2, r3⟩ := hru.form
      have R3 := Lib.hid r3
      have HO1 := Lib.hid (HNO.out.at hlt)
      clear r3 g3 hru p0
      unfold maxLen at r2
      obtain ⟨wo, rfl⟩ : ∃ wo : World, wo = wr := ⟨_, rfl⟩
      go_wp2_with fail
      go_loopw [8] (fun i wq => ∃ j : Nat, j ≤ N[k].length ∧ i = I j ∧ Hid (Blk wq db (ndV l (cutI ((N.take k).flatten ++ N[k].take j))) 4) ∧ Hid (Ext w5 wq)) (fun i _ => N[k].length - (intOf i).toNat)
      case atStart => exact ⟨0, by omega, rfl, Lib.hid (by simpa using HDk.out), HXk⟩
      case round =>
        obtain ⟨j, hj, rfl, HDj, HXj⟩ := hrel
        have hbcj := (HB5.out.later HXj.out).cells
        have hp0 := HXj.out.cell HP.out
        by_cases hjl : j < N[k].length
        · obtain ⟨b1, o1, rfl, q0, q1, q2, q3⟩ := R3.out j N[k][j] (List.getElem?_eq_getElem hjl)
          have kb := (HB5.out.later HXj.out).keep
          replace hp0 := Ext.keep hp0
          replace q0 := Ext.keep (HXj.out.cell q0)
          replace q1 := Ext.keep (HXj.out.cell q1)
          clear q2 q3 hbcj hbc
          have HOK1 := Lib.hid (HO1.out N[k][j] (List.getElem_mem hjl)).pl
          have HEN := Lib.hid (ends_in HC.out HZ.out (show N[k][j] ∈ N.flatten from List.mem_flatten.2 ⟨N[k], List.getElem_mem hlt, List.getElem_mem hjl⟩))
          have HST := Lib.hid (show cutI ((N.take k).flatten ++ N[k].take (j + 1)) = cutI ((N.take k).flatten ++ N[k].take j) ++ rcut N[k][j] by rw [part_step hlt hjl, cutI_app])
          have HRC := Lib.hid (show rcut N[k][j] = uv (lowV N[k][j].pa N[k][j].pl) :: (if uv (highV N[k][j].pa N[k][j].pl) = 4294967295 then [] else [uv (highV N[k][j].pa N[k][j].pl) + 1]) from rfl)
          have HEC := Lib.hid (show ∀ W, Calls Try.prog 22 #[U N[k][j].pa, I N[k][j].pl] W fun e w' => e = .returned (.tuple #[U (lowV N[k][j].pa N[k][j].pl), U (highV N[k][j].pa N[k][j].pl)]) ∧ W = w' from fun W => ends_any _ _ _ HOK1.out)
          go_wp2_with fail
          refine wp_region_E 23 rfl (by kernel_rfl) (by kernel_rfl) ?_
          refine WE_q 0 rfl (by decide) (by kernel_rfl) rfl ?_; apply Exists.intro; refine ⟨fun w1 hx1 => ?_, ?_⟩
          · have hq1 := hx1.cells; go_simp; try go_bits
            first | with_reducible rfl | (refine (HEC.out _).mono ?_; rintro e w' ⟨rfl, rfl⟩; exact ⟨rfl, Ext.refl _⟩)
          simp only [Act.put, List.setIfInBounds_toArray, List.set_cons_zero, List.set_cons_succ]
          refine WE_q 1 rfl (by decide) (by kernel_rfl) rfl ?_; apply Exists.intro; refine ⟨fun w1 hx1 => ?_, ?_⟩
          · have hq1 := hx1.cells; go_simp; try go_bits
            first | with_reducible rfl | (refine (HEC.out _).mono ?_; rintro e w' ⟨rfl, rfl⟩; exact ⟨rfl, Ext.refl _⟩)
          simp only [Act.put, List.setIfInBounds_toArray, List.set_cons_zero, List.set_cons_succ]
          refine WE_q 2 rfl (by decide) (by kernel_rfl) rfl ?_; apply Exists.intro; refine ⟨fun w1 hx1 => ?_, ?_⟩
          · have hq1 := hx1.cells; go_simp; try go_bits
            first | with_reducible rfl | (refine (HEC.out _).mono ?_; rintro e w' ⟨rfl, rfl⟩; exact ⟨rfl, Ext.refl _⟩)
          simp only [Act.put, List.setIfInBounds_toArray, List.set_cons_zero, List.set_cons_succ]
          refine WE_q 3 rfl (by decide) (by kernel_rfl) rfl ?_; apply Exists.intro; refine ⟨fun w1 hx1 => ?_, ?_⟩
          · have hq1 := hx1.cells; go_simp; try go_bits
            first | with_reducible rfl | (refine (HEC.out _).mono ?_; rintro e w' ⟨rfl, rfl⟩; exact ⟨rfl, Ext.refl _⟩)
          simp only [Act.put, List.setIfInBounds_toArray, List.set_cons_zero, List.set_cons_succ]
          refine WE_q 4 rfl (by decide) (by kernel_rfl) rfl ?_; apply Exists.intro; refine ⟨fun w1 hx1 => ?_, ?_⟩
          · have hq1 := hx1.cells; go_simp; try go_bits
            first | with_reducible rfl | (refine (HEC.out _).mono ?_; rintro e w' ⟨rfl, rfl⟩; exact ⟨rfl, Ext.refl _⟩)
          simp only [Act.put, List.setIfInBounds_toArray, List.set_cons_zero, List.set_cons_succ]
          refine WE_q 5 rfl (by decide) (by kernel_rfl) rfl ?_; apply Exists.intro; refine ⟨fun w1 hx1 => ?_, ?_⟩
          · have hq1 := hx1.cells; go_simp; try go_bits
            first | with_reducible rfl | (refine (HEC.out _).mono ?_; rintro e w' ⟨rfl, rfl⟩; exact ⟨rfl, Ext.refl _⟩)
          simp only [Act.put, List.setIfInBounds_toArray, List.set_cons_zero, List.set_cons_succ]
          refine WE_q 6 rfl (by decide) (by kernel_rfl) rfl ?_; apply Exists.intro; refine ⟨fun w1 hx1 => ?_, ?_⟩
          · have hq1 := hx1.cells; go_simp; try go_bits
            first | with_reducible rfl | (refine (HEC.out _).mono ?_; rintro e w' ⟨rfl, rfl⟩; exact ⟨rfl, Ext.refl _⟩)
          simp only [Act.put, List.setIfInBounds_toArray, List.set_cons_zero, List.set_cons_succ]
          refine WE_q 7 rfl (by decide) (by kernel_rfl) rfl ?_; apply Exists.intro; refine ⟨fun w1 hx1 => ?_, ?_⟩
          · have hq1 := hx1.cells; go_simp; try go_bits
            first | with_reducible rfl | (refine (HEC.out _).mono ?_; rintro e w' ⟨rfl, rfl⟩; exact ⟨rfl, Ext.refl _⟩)
          simp only [Act.put, List.setIfInBounds_toArray, List.set_cons_zero, List.set_cons_succ]
          refine WE_q 8 rfl (by decide) (by kernel_rfl) rfl ?_; apply Exists.intro; refine ⟨fun w1 hx1 => ?_, ?_⟩
          · have hq1 := hx1.cells; go_simp; try go_bits
            first | with_reducible rfl | (refine (HEC.out _).mono ?_; rintro e w' ⟨rfl, rfl⟩; exact ⟨rfl, Ext.refl _⟩)
          simp only [Act.put, List.setIfInBounds_toArray, List.set_cons_zero, List.set_cons_succ]
          refine WE_q 9 rfl (by decide) (by kernel_rfl) rfl ?_; apply Exists.intro; refine ⟨fun w1 hx1 => ?_, ?_⟩
          · have hq1 := hx1.cells; go_simp; try go_bits
            first | with_reducible rfl | (refine (HEC.out _).mono ?_; rintro e w' ⟨rfl, rfl⟩; exact ⟨rfl, Ext.refl _⟩)
          simp only [Act.put, List.setIfInBounds_toArray, List.set_cons_zero, List.set_cons_succ]
          refine WE_q 10 rfl (by decide) (by kernel_rfl) rfl ?_; apply Exists.intro; refine ⟨fun w1 hx1 => ?_, ?_⟩
          · have hq1 := hx1.cells; go_simp; try go_bits
            first | with_reducible rfl | (refine (HEC.out _).mono ?_; rintro e w' ⟨rfl, rfl⟩; exact ⟨rfl, Ext.refl _⟩)
          simp only [Act.put, List.setIfInBounds_toArray, List.set_cons_zero, List.set_cons_succ]
          refine WE_q 11 rfl (by decide) (by kernel_rfl) rfl ?_; apply Exists.intro; refine ⟨fun w1 hx1 => ?_, ?_⟩
          · have hq1 := hx1.cells; go_simp; try go_bits
            first | with_reducible rfl | (refine (HEC.out _).mono ?_; rintro e w' ⟨rfl, rfl⟩; exact ⟨rfl, Ext.refl _⟩)
          simp only [Act.put, List.setIfInBounds_toArray, List.set_cons_zero, List.set_cons_succ]
          refine WE_q 12 rfl (by decide) (by kernel_rfl) rfl ?_; apply Exists.intro; refine ⟨fun w1 hx1 => ?_, ?_⟩
          · have hq1 := hx1.cells; go_simp; try go_bits
            first | with_reducible rfl | (refine (HEC.out _).mono ?_; rintro e w' ⟨rfl, rfl⟩; exact ⟨rfl, Ext.refl _⟩)
          simp only [Act.put, List.setIfInBounds_toArray, List.set_cons_zero, List.set_cons_succ]
          refine WE_q 13 rfl (by decide) (by kernel_rfl) rfl ?_; apply Exists.intro; refine ⟨fun w1 hx1 => ?_, ?_⟩
          · have hq1 := hx1.cells; go_simp; try go_bits
            first | with_reducible rfl | (refine (HEC.out _).mono ?_; rintro e w' ⟨rfl, rfl⟩; exact ⟨rfl, Ext.refl _⟩)
          simp only [Act.put, List.setIfInBounds_toArray, List.set_cons_zero, List.set_cons_succ]
          refine WE_q 14 rfl (by decide) (by kernel_rfl) rfl ?_; apply Exists.intro; refine ⟨fun w1 hx1 => ?_, ?_⟩
          · have hq1 := hx1.cells; go_simp; try go_bits
            first | with_reducible rfl | (refine (HEC.out _).mono ?_; rintro e w' ⟨rfl, rfl⟩; exact ⟨rfl, Ext.refl _⟩)
          simp only [Act.put, List.setIfInBounds_toArray, List.set_cons_zero, List.set_cons_succ]
          refine WE_q 15 rfl (by decide) (by kernel_rfl) rfl ?_; apply Exists.intro; refine ⟨fun w1 hx1 => ?_, ?_⟩
          · have hq1 := hx1.cells; go_simp; try go_bits
            first | with_reducible rfl | (refine (HEC.out _).mono ?_; rintro e w' ⟨rfl, rfl⟩; exact ⟨rfl, Ext.refl _⟩)
          simp only [Act.put, List.setIfInBounds_toArray, List.set_cons_zero, List.set_cons_succ]
          refine WE_q 16 rfl (by decide) (by kernel_rfl) rfl ?_; apply Exists.intro; refine ⟨fun w1 hx1 => ?_, ?_⟩
          · have hq1 := hx1.cells; go_simp; try go_bits
            first | with_reducible rfl | (refine (HEC.out _).mono ?_; rintro e w' ⟨rfl, rfl⟩; exact ⟨rfl, Ext.refl _⟩)
          simp only [Act.put, List.setIfInBounds_toArray, List.set_cons_zero, List.set_cons_succ]
          refine WE_q 17 rfl (by decide) (by kernel_rfl) rfl ?_; apply Exists.intro; refine ⟨fun w1 hx1 => ?_, ?_⟩
          · have hq1 := hx1.cells; go_simp; try go_bits
            first | with_reducible rfl | (refine (HEC.out _).mono ?_; rintro e w' ⟨rfl, rfl⟩; exact ⟨rfl, Ext.refl _⟩)
          simp only [Act.put, List.setIfInBounds_toArray, List.set_cons_zero, List.set_cons_succ]
          refine WE_q 18 rfl (by decide) (by kernel_rfl) rfl ?_; apply Exists.intro; refine ⟨fun w1 hx1 => ?_, ?_⟩
          · have hq1 := hx1.cells; go_simp; try go_bits
            first | with_reducible rfl | (refine (HEC.out _).mono ?_; rintro e w' ⟨rfl, rfl⟩; exact ⟨rfl, Ext.refl _⟩)
          simp only [Act.put, List.setIfInBounds_toArray, List.set_cons_zero, List.set_cons_succ]
          refine WE_q 19 rfl (by decide) (by kernel_rfl) rfl ?_; apply Exists.intro; refine ⟨fun w1 hx1 => ?_, ?_⟩
          · have hq1 := hx1.cells; go_simp; try go_bits
            first | with_reducible rfl | (refine (HEC.out _).mono ?_; rintro e w' ⟨rfl, rfl⟩; exact ⟨rfl, Ext.refl _⟩)
          simp only [Act.put, List.setIfInBounds_toArray, List.set_cons_zero, List.set_cons_succ]
          refine WE_q 20 rfl (by decide) (by kernel_rfl) rfl ?_; apply Exists.intro; refine ⟨fun w1 hx1 => ?_, ?_⟩
          · have hq1 := hx1.cells; go_simp; try go_bits
            first | with_reducible rfl | (refine (HEC.out _).mono ?_; rintro e w' ⟨rfl, rfl⟩; exact ⟨rfl, Ext.refl _⟩)
          simp only [Act.put, List.setIfInBounds_toArray, List.set_cons_zero, List.set_cons_succ]
          refine WE_q 21 rfl (by decide) (by kernel_rfl) rfl ?_; apply Exists.intro; refine ⟨fun w1 hx1 => ?_, ?_⟩
          · have hq1 := hx1.cells; go_simp; try go_bits
            first | with_reducible rfl | (refine (HEC.out _).mono ?_; rintro e w' ⟨rfl, rfl⟩; exact ⟨rfl, Ext.refl _⟩)
          simp only [Act.put, List.setIfInBounds_toArray, List.set_cons_zero, List.set_cons_succ]
          refine WE_q 22 rfl (by decide) (by kernel_rfl) rfl ?_; apply Exists.intro; refine ⟨fun w1 hx1 => ?_, ?_⟩
          · have hq1 := hx1.cells; go_simp; try go_bits
            first | with_reducible rfl | (refine (HEC.out _).mono ?_; rintro e w' ⟨rfl, rfl⟩; exact ⟨rfl, Ext.refl _⟩)
          simp only [Act.put, List.setIfInBounds_toArray, List.set_cons_zero, List.set_cons_succ]
          refine WE_done (by kernel_rfl) (fun w8 hx8 => ?_)
          (try simp only [List.drop_succ_cons, List.drop_zero])
          clear kb hp0 q0 q1
          have HX8 := Lib.hid (HXj.out.trans hx8)
          have HD8 := Lib.hid (HDj.out.later hx8)
          clear hx8
          generalize hS : cutI ((N.take k).flatten ++ N[k].take j) = S at *
          clear hS
          generalize rcut N[k][j] = rc at *
          generalize lowV N[k][j].pa N[k][j].pl = lo at *
          generalize highV N[k][j].pa N[k][j].pl = hi at *
          obtain ⟨e1, e2, e3⟩ := HEN.out
          have E1 := Lib.hid (show l[ivN l lo]? = some lo from (List.getElem?_eq_getElem (ivN_lt HZ.out lo)).trans (congrArg some e1))
          have L1 := Lib.hid (ivN_lt HZ.out lo)
          have L2 := Lib.hid (ivN_lt HZ.out hi)
          have E2 := Lib.hid (show uv hi ≠ 4294967295 → ivN l hi + 1 < l.length ∧ l[ivN l hi + 1]? = some (hi + 1#32) from fun h => by
            obtain ⟨g1, g2⟩ := e2 h
            exact ⟨g1, by rw [List.getElem?_eq_getElem g1]; congr 1; exact uv_inj (by rw [g2, uv_inc h])⟩)
          have E3 := Lib.hid e3
          have A1 := Lib.hid (show ∀ W, UsAt W (.slice (some ⟨cb, co, none⟩) l.length ccap) l → Calls Try.prog 23 #[.slice (some ⟨cb, co, none⟩) l.length ccap, U lo] W fun e w' => e = .returned (I (ivN l lo : Nat)) ∧ w' = W from fun W hW =>
            (cutsAt_any _ l _ W hW).mono fun e w' ⟨h1, h2⟩ => ⟨by rw [h1, ivN_int HZ.out lo], h2⟩)
          have A2 := Lib.hid (show ∀ W, UsAt W (.slice (some ⟨cb, co, none⟩) l.length ccap) l → Calls Try.prog 23 #[.slice (some ⟨cb, co, none⟩) l.length ccap, U hi] W fun e w' => e = .returned (I (ivN l hi : Nat)) ∧ w' = W from fun W hW =>
            (cutsAt_any _ l _ W hW).mono fun e w' ⟨h1, h2⟩ => ⟨by rw [h1, ivN_int HZ.out hi], h2⟩)
          clear e1 e2 e3 HEN
          generalize ivN l lo = ki at *
          generalize ivN l hi = mi at *
          have l1 := L1.out
          have l2 := L2.out
          have ck := CU.out w8 HX8.out ki lo E1.out
          have kd := HD8.out.cells ki
          rw [ndV_get _ l1] at kd
          have kf := HD8.out.frozen ki
          have hd1 : (lo == lo) = true := beq_self_eq_true lo
          have hd2 : (lo != lo) = false := by simp
          have HSET := Lib.hid (show (ndV l S).set ki (.bool true) = ndV l (S ++ [uv lo]) by
            have e := Option.some.inj ((List.getElem?_eq_getElem l1).symm.trans E1.out)
            rw [ndV_set HC.out.rise S l1, e])
          have hdt := uv_beq hi 4294967295#32
          by_cases ht : uv hi = 4294967295
          · have ht1 : (hi == 4294967295#32) = true := by rw [beq_iff_eq]; exact uv_inj (by rw [ht]; rfl)
            have ht2 : (uv hi == 4294967295) = true := by simpa using ht
            have hm : ((mi : Int) != (l.length : Int) - 1) = false := by have := E3.out ht; simp; omega
            have HRC' := Lib.hid (show rc = [uv lo] by rw [HRC.out, if_pos ht])
            clear hdt ht
            go_wp2_with (first
              | (go_at_call 23; (with_reducible refine (A1.out _ (HU5.out.later HX8.out)).mono ?_); rintro e w' ⟨rfl, rfl⟩)
              | (go_at_call 23; (with_reducible refine (A2.out _ (HU5.out.later HX8.out)).mono ?_); rintro e w' ⟨rfl, rfl⟩))
            go_roundw
            case rel =>
              refine ⟨j + 1, by omega, by go_num, ?_, HX8.out.setCell (by simpa using HDB.out) _⟩
              have := HD8.out.set ki (.bool true)
              rw [HSET.out] at this
              show Blk _ _ _ _
              rw [HST.out, HRC'.out]
              exact this
            case measure => simp [intOf]; omega
          · have ht1 : (hi == 4294967295#32) = false := by rw [beq_eq_false_iff_ne]; intro e; exact ht (by rw [e]; rfl)
            have ht2 : (uv hi == 4294967295) = false := by simpa using ht
            obtain ⟨g1, g2⟩ := E2.out ht
            have G1 := Lib.hid g1
            have hge : decide ((l.length : Int) ≤ (mi : Int) + 1) = false := decide_eq_false (by omega)
            have hge2 : decide (l.length ≤ mi + 1) = false := decide_eq_false (by omega)
            have cn := CU.out w8 HX8.out (mi + 1) (hi + 1#32) g2
            have hd3 : (hi + 1#32 != hi + 1#32) = false := by simp
            have HRC' := Lib.hid (show rc = [uv lo, uv hi + 1] by rw [HRC.out, if_neg ht])
            have HSET2 := Lib.hid (show (ndV l (S ++ [uv lo])).set (mi + 1) (.bool true) = ndV l ((S ++ [uv lo]) ++ [uv hi + 1]) by
              have e := Option.some.inj ((List.getElem?_eq_getElem g1).symm.trans g2)
              rw [ndV_set HC.out.rise _ g1, e, uv_inc ht])
            have HX9 := Lib.hid (HX8.out.setCell (p := ⟨db, ki, none⟩) (by simpa using HDB.out) (.bool true))
            have cn9 := CU.out _ HX9.out (mi + 1) (hi + 1#32) g2
            have HD9 := Lib.hid (HD8.out.set ki (.bool true))
            have kd9 := HD9.out.cells (mi + 1)
            rw [HSET.out, ndV_get _ g1] at kd9
            have kf9 := HD9.out.frozen (mi + 1)
            clear hdt ht g2
            go_wp2_with (first
              | (go_at_call 23; (with_reducible refine (A1.out _ (HU5.out.later HX8.out)).mono ?_); rintro e w' ⟨rfl, rfl⟩)
              | (go_at_call 23; (with_reducible refine (A2.out _ (HU5.out.later HX8.out)).mono ?_); rintro e w' ⟨rfl, rfl⟩))
            go_roundw
            case rel =>
              refine ⟨j + 1, by omega, by go_num, ?_, HX9.out.setCell (by simpa using HDB.out) _⟩
              have := HD9.out.set (mi + 1) (.bool true)
              rw [HSET.out, HSET2.out] at this
              show Blk _ _ _ _
              rw [HST.out, HRC'.out]
              rw [List.append_assoc] at this
              exact this
            case measure => simp [intOf]; omega
        · have hje : j = N[k].length := by omega
          have HE := Lib.hid (show (N.take k).flatten ++ N[k].take j = (N.take (k + 1)).flatten by rw [hje]; exact part_all hlt)
          have hjd : decide ((j : Int) < (N[k].length : Int)) = false := decide_eq_false (by omega)
          have hjn : decide (j < N[k].length) = false := decide_eq_false hjl
          clear hje
          go_wp2_with fail
          go_roundw
          case rel => exact ⟨k + 1, by omega, by go_num, by show Blk _ _ _ _; rw [← HE.out]; exact HDj.out, HXj⟩
          case measure => simp [intOf]; omega
    · have HE := Lib.hid (show N.take k = N by rw [List.take_of_length_le (by omega)])
      have hkd : decide ((k : Int) < (N.length : Int)) = false := decide_eq_false (by omega)
      have hkn : decide (k < N.length) = false := decide_eq_false hlt
      obtain ⟨wo, rfl⟩ : ∃ wo : World, wo = wr := ⟨_, rfl⟩
      have HDE := Lib.hid (show Blk wo db (ndV l (cutI N.flatten)) 4 by have := HDk.out; rwa [HE.out] at this)
      have HALL := Lib.hid (show ∀ (i : Nat) (h : i < l.length), decide (uv l[i] ∈ cutI N.flatten) = true from fun i h => decide_eq_true ((HC.out.2 _).1 (List.getElem_mem h)))
      clear HDk
      go_wp2_with fail
      go_loopw [13] (fun i wq => ∃ m : Nat, m ≤ l.length ∧ i = I m ∧ Hid (Ext wo wq)) (fun i _ => l.length - (intOf i).toNat)
      case atStart => exact ⟨0, by omega, rfl, Ext.refl _⟩
      case round =>
        obtain ⟨m, hm, rfl, HXm⟩ := hrel
        by_cases hml : m < l.length
        · have kd := (HDE.out.later HXm.out).cells m
          rw [ndV_get _ hml, HALL.out m hml] at kd
          have c0 := CU.out _ (HXk.out.trans HXm.out) m l[m] (List.getElem?_eq_getElem hml)
          cases m with
          | zero =>
            clear c0
            go_wp2_with fail
            go_quiet (fail)
            go_wp2
            go_roundw
            case rel => exact ⟨1, by omega, by go_num, HXm.out.drewN _⟩
            case measure => simp [intOf]; omega
          | succ m =>
            have c1 := CU.out _ (HXk.out.trans HXm.out) m l[m] (List.getElem?_eq_getElem (by omega))
            have hlt2 : decide (uv l[m + 1] ≤ uv l[m]) = false := decide_eq_false (by have := HC.out.rise.lt (show m < m + 1 by omega) hml; omega)
            have hpos2 : decide ((0 : Int) < ((m + 1 : Nat) : Int)) = true := decide_eq_true (by omega)
            have hpos3 : decide ((0 : Int) < (m : Int) + 1) = true := decide_eq_true (by omega)
            generalize l[m + 1] = x1 at *
            generalize l[m] = x0 at *
            go_wp2_with fail
            go_quiet (fail)
            go_wp2
            go_roundw
            case rel => exact ⟨m + 2, by omega, by go_num, HXm.out.drewN _⟩
            case measure => simp [intOf]; omega
        · have hjd : decide ((m : Int) < (l.length : Int)) = false := decide_eq_false (by omega)
          have hjn : decide (m < l.length) = false := decide_eq_false hml
          go_wp2_with fail
          go_ret
          exact ⟨rfl, HX5.out.trans (HXk.out.trans HXm.out)⟩
end Go.Proofs.Ythcnihchfkmphaa
