/- The law CoverAll: which part has any address, and the points of any parts, are as the reference says. Conditions: whole numbers are within 64 bits. -/
import Derived.Test.YthcnihchfkmphaaShown19
import Derived.Test.YthcnihchfkmphaaCoverA
import Derived.Test.YthcnihchfkmphaaFit19
import Derived.Test.YthcnihchfkmphaaGNetP
import Derived.Test.YthcnihchfkmphaaFew
namespace Go.Proofs.Ythcnihchfkmphaa
open Go.RowKit

theorem meet_ways (ps : List Prt) : meetV ps = 0 ∨ meetV ps = 15 := by
  unfold meetV
  split
  · exact .inl rfl
  · exact .inr rfl
def AllP (N : List (List Rul)) (qs : List Prt) (LL : List (List (BitVec 32))) : Prop :=
  (meetV qs = 0 ∧ ∃ l, Cuts N.flatten l ∧ LL = pointsL l qs) ∨ (meetV qs = 15 ∧ LL = [])
theorem AllP.same {N : List (List Rul)} {qs : List Prt} {A B : List (List (BitVec 32))} (h : AllP N qs A) (k : AllP N qs B) : A = B := by
  rcases h with ⟨h, l, hl, rfl⟩ | ⟨h, rfl⟩ <;> rcases k with ⟨k, l2, hl2, rfl⟩ | ⟨k, rfl⟩
  · rw [Cuts.at hl hl2]
  · omega
  · omega
  · rfl
theorem AllP.len {N : List (List Rul)} {qs : List Prt} {A : List (List (BitVec 32))} (h : AllP N qs A) : A.length ≤ qs.length := by
  rcases h with ⟨h, l, hl, rfl⟩ | ⟨h, rfl⟩
  · rw [pointsL_len]; omega
  · simp
theorem AllP.each {N : List (List Rul)} {qs : List Prt} {A : List (List (BitVec 32))} (h : AllP N qs A) (hs : sizeN N ≤ 160) : ∀ z ∈ A, z.length ≤ 1000 := by
  rcases h with ⟨h, l, hl, rfl⟩ | ⟨h, rfl⟩
  · intro z hz
    unfold pointsL at hz
    obtain ⟨p, _, rfl⟩ := List.mem_map.1 hz
    have h0 := insideV_len l p.fr p.up
    have h1 := hl.len
    rw [sizeN_flat] at h1
    omega
  · intro z hz; cases hz
theorem coverAll_both (lv pv : Value) (ls : List (List Rul)) (ps : List Prt) (w : World) (hl : TablesAt w lv ls) (hok : TablesOk ls) (hs : sizeN ls ≤ 10000000) (hp : PartsAt w pv ps) (hn : ps.length ≤ 1000000) :
    Calls Try.prog 32 #[.agg #[lv], pv] w fun e w' => ∃ v LL, e = .returned (.tuple #[v, I (meetV ps)]) ∧ AllP ls ps LL ∧ UUsAt w' v LL ∧ Ext w w' := by
  rcases meet_ways ps with hm | hm
  · refine (coverAll_yes lv pv ls ps w hl hok hs hp hn hm).mono ?_
    rintro e w' ⟨v, l, rfl, hC, hO, hx⟩
    exact ⟨v, _, by rw [hm], .inl ⟨hm, l, hC, rfl⟩, hO.read, hx⟩
  · refine (coverAll_no lv pv ls ps w hl hp hm).mono ?_
    rintro e w' ⟨rfl, hx⟩
    exact ⟨_, [], by rw [hm], .inr ⟨hm, rfl⟩, UUsAt.nil _, hx⟩
theorem r19All_both (lv pv : Value) (ls : List (List Rul)) (ps : List Prt) (w : World) (hl : TablesAt w lv ls) (hok : TablesOk ls) (hs : sizeN ls ≤ 10000000) (hp : PartsAt w pv ps) (hn : ps.length ≤ 1000000) :
    Calls Try.prog 34 #[.agg #[lv], pv] w fun e w' => ∃ v LL, e = .returned (.tuple #[v, I (meetV ps)]) ∧ AllP ls ps LL ∧ UUsAt w' v LL ∧ Ext w w' := by
  rcases meet_ways ps with hm | hm
  · refine (r19All_yes lv pv ls ps w hl hok hs hp hn hm).mono ?_
    rintro e w' ⟨v, l, rfl, hC, hO, hx⟩
    exact ⟨v, _, by rw [hm], .inl ⟨hm, l, hC, rfl⟩, hO, hx⟩
  · refine (r19All_no lv pv ls ps w hl hp hm).mono ?_
    rintro e w' ⟨rfl, hx⟩
    exact ⟨_, [], by rw [hm], .inr ⟨hm, rfl⟩, UUsAt.nil _, hx⟩
set_option maxHeartbeats 4000000 in
set_option maxRecDepth 100000 in
theorem coverAllLaw_any (lv pv : Value) (ls : List (List Rul)) (ps : List Prt) (a : BitVec 32) (w : World) (hl : TablesAt w lv ls) (hok : TablesOk ls) (hps : PartsAt w pv ps) :
    Calls Try.prog 8 #[.agg #[lv], pv, U a] w fun e w' => e = .returned (.bool true) ∧ Ext w w' := by
  have HL := Lib.hid hl
  have HOK := Lib.hid hok
  obtain ⟨ad, cap, hlv, a1, a2, a3⟩ := hl.form
  subst hlv
  obtain ⟨za, zcap, hzv, z1, z2, z3⟩ := hps.form
  subst hzv
  clear a3 z3 hl hok
  unfold maxLen at a2 z2
  go_enter Try.func8, Try.ntmps8
  go_upto_region 1 with (fail)
  refine hideW (Φ := fun W => Code.wp _ _ _ _ W) (fun W => Ext w W ∧ Blk W w.heap.size [.slice ad ls.length cap] 24)
    ⟨by (repeat (first | with_reducible exact Ext.refl _ | with_reducible assumption | with_reducible refine Ext.alloc ?_ _ | with_reducible refine Ext.drew ?_ | with_reducible refine Ext.drewN ?_ _ | (with_reducible refine Ext.setCellP ?_ ?_; focus (first | (simp; done) | (simp; omega) | omega)))), (Blk.new w [.slice ad ls.length cap] 24)⟩ (fun W1 hW1 => ?_)
  obtain ⟨hx1, hb1⟩ := hW1
  have HX1 := Lib.hid hx1
  have HB1 := Lib.hid hb1
  clear hx1 hb1
  generalize w.heap.size = nb at *
  go_upto_region 2 with (first
    | (go_at_call 24; (with_reducible refine (shown19_any _).mono ?_); rintro e w2 ⟨rfl, hx2⟩; have HX2 := Lib.hid (HX1.out.trans hx2); have HB2 := Lib.hid (HB1.out.later hx2); clear hx2))
  have hbc2 := HB2.out.cells
  have HNS := Lib.hid (fewN_size ls)
  have HNO := Lib.hid (fewN_ok HOK.out)
  have hN := fewN_len ls
  go_upto_region 3 with (first
    | (go_at_call 33; (with_reducible refine (few19_any _ ls _ (HL.out.later HX2.out)).mono ?_); rintro e w3 ⟨v3, he, hF, hx3⟩; subst he; have HF3 := Lib.hid hF; obtain ⟨va, vcap, hv3, q1, q2, q3⟩ := HF3.out.form; subst hv3; clear q3; have HX3 := Lib.hid (HX2.out.trans hx3); clear hF hx3))
  generalize fewN ls = N at *
  clear hbc2 HB2 HB1
  unfold maxLen at q2
  refine hideW (Φ := fun W => Code.wp _ _ _ _ W) (fun W => Ext w3 W ∧ Blk W w3.heap.size [.slice va N.length vcap] 24)
    ⟨by (repeat (first | with_reducible exact Ext.refl _ | with_reducible assumption | with_reducible refine Ext.alloc ?_ _ | with_reducible refine Ext.drew ?_ | with_reducible refine Ext.drewN ?_ _ | (with_reducible refine Ext.setCellP ?_ ?_; focus (first | (simp; done) | (simp; omega) | omega)))), Blk.new w3 [.slice va N.length vcap] 24⟩ (fun W4 hW4 => ?_)
  obtain ⟨hx4, hb4⟩ := hW4
  have HX4 := Lib.hid (HX3.out.trans hx4)
  have HF4 := Lib.hid (HF3.out.later hx4)
  have HB4 := Lib.hid hb4
  have hbc4 := hb4.cells
  clear hx4 hb4 HF3 HX3 HX1 HX2
  generalize w3.heap.size = fb at *
  have HPS := Lib.hid hps
  clear hps
  have HS := Lib.hid (Nat.le_trans HNS.out (by decide : 160 ≤ 10000000))
  clear hbc4
  go_upto_region 4 with (first
    | (go_at_call 31; (with_reducible refine (parts19_any _ ps _ (HPS.out.later HX4.out)).mono ?_); rintro e w5 ⟨v5, he, hO, hx5⟩; subst he; have HP5 := Lib.hid hO.parts; obtain ⟨pa5, pc5, hv5, -⟩ := HP5.out.form; have hv5' : v5 = .slice pa5 (partsN ps).length pc5 := hv5; subst hv5'; have HX5 := Lib.hid hx5; clear hv5 hO hx5))
  have hn20 := partsN_len ps
  have HXE := Lib.hid (HX4.out.trans HX5.out)
  go_wp2_with fail
  go_loopw [9, 10] (fun v i wr => ∃ (k : Nat) (qs : List Prt), k ≤ 2 ∧ i = I k ∧ Hid (PartsAt wr v qs) ∧ qs.length ≤ 31 ∧ Hid (Ext w5 wr)) (fun _ i _ => 2 - (intOf i).toNat)
  case atStart => exact ⟨0, partsN ps, by omega, rfl, HP5.out, by omega, Ext.refl _⟩
  case round =>
    obtain ⟨k, qs, hk, rfl, HP, hq31, HX⟩ := hrel
    have HF := Lib.hid (HF4.out.later (HX5.out.trans HX.out))
    have HB := Lib.hid (HB4.out.later (HX5.out.trans HX.out))
    obtain ⟨pa, pcap, hpv, p1, p2, p3⟩ := HP.out.form
    subst hpv
    have P3 := Lib.hid p3
    clear p3
    unfold maxLen at p2
    have HQM := Lib.hid (Nat.le_trans hq31 (by decide : 31 ≤ 1000000))
    by_cases hk2 : k < 2
    · have hkd : decide ((k : Int) < 2) = true := decide_eq_true (by omega)
      have hbc := HB.out.cells
      obtain ⟨wo, rfl⟩ : ∃ wo : World, wo = wr := ⟨_, rfl⟩
      have hmv : (I (meetV qs) : Value) = I (meetV qs) := rfl
      go_upto_region 8 with (first
        | (go_at_call 32; (with_reducible refine (coverAll_both _ _ N qs _ HF.out HNO.out HS.out HP.out HQM.out).mono ?_); rintro e w7 ⟨v7, LL, he, hA, hU, hx7⟩; subst he; have HA := Lib.hid hA; have HU7 := Lib.hid hU; have HX7 := Lib.hid hx7; have HF7 := Lib.hid (HF.out.later hx7); have HB7 := Lib.hid (HB.out.later hx7); have HP7 := Lib.hid (HP.out.later hx7); clear hA hU hx7))
      have hbc7 := HB7.out.cells
      clear hbc hmv
      go_upto_region 9 with (first
        | (go_at_call 34; (with_reducible refine (r19All_both _ _ N qs _ HF7.out HNO.out HS.out HP7.out HQM.out).mono ?_); rintro e w8 ⟨v8, LL8, he, hA, hU, hx8⟩; subst he; obtain rfl := AllP.same HA.out hA; have HU8 := Lib.hid hU; have HU78 := Lib.hid (HU7.out.later hx8); have HX8 := Lib.hid (HX7.out.trans hx8); clear hA hU hx8))
      have HLL := Lib.hid (Nat.le_trans HA.out.len hq31)
      have HLB := Lib.hid (HA.out.each HNS.out)
      clear HA hbc7 HU7 HF7 HB7 HP7
      obtain ⟨xa, xcap, hxv, x1, x2, x3⟩ := HU78.out.form
      obtain ⟨ya, ycap, hyv, y1, y2, y3⟩ := HU8.out.form
      subst hxv hyv
      have X3 := Lib.hid x3
      have Y3 := Lib.hid y3
      clear x3 y3
      unfold maxLen at x2 y2
      have hll := HLL.out
      have hP8 := HP.out.later HX8.out
      have hle1 : ((LL.length : Int) != (LL.length : Int)) = false := by simp
      have hmv : ((meetV qs : Int) != (meetV qs : Int)) = false := by simp
      generalize (meetV qs : Int) = mv at *
      obtain ⟨kk, okk, hcv⟩ : ∃ (kk : Int) (okk : Bool), coverV qs a = .tuple #[I kk, .bool okk] := ⟨_, _, rfl⟩
      have HCV := Lib.hid hcv
      clear hcv
      have hkk : (kk != kk) = false := by simp
      have hokk : (okk != okk) = false := by simp
      go_upto_region 13 with (first
        | (go_at_call 35; (with_reducible refine (coverAt_any _ qs a _ hP8).mono ?_); rintro e w9 ⟨he, hx9⟩; rw [HCV.out] at he; subst he; have HX9 := Lib.hid (HX8.out.trans hx9); have HY9 := Lib.hid hx9; clear hx9)
        | (go_at_call 36; (with_reducible refine (r19At_any _ qs a _ (HP.out.later HX9.out)).mono ?_); rintro e w10 ⟨he, hx10⟩; rw [HCV.out] at he; subst he; have HX10 := Lib.hid (HX9.out.trans hx10); have HY10 := Lib.hid (HY9.out.trans hx10); clear hx10))
      go_wp2_with fail
      go_loopw [19] (fun i wr => ∃ j : Nat, j ≤ LL.length ∧ i = I j ∧ Hid (Ext w10 wr)) (fun i _ => LL.length - (intOf i).toNat)
      case atStart => exact ⟨0, by omega, rfl, Ext.refl _⟩
      case round =>
        obtain ⟨j, hj, rfl, HXj⟩ := hrel
        by_cases hjl : j < LL.length
        · have hZL := HLB.out LL[j] (List.getElem_mem hjl)
          obtain ⟨b1, o1, u1, he1, c1, hu1⟩ := X3.out j LL[j] (List.getElem?_eq_getElem hjl)
          obtain ⟨b2, o2, u2, he2, c2, hu2⟩ := Y3.out j LL[j] (List.getElem?_eq_getElem hjl)
          replace c1 := (HY10.out.trans HXj.out).cell c1
          replace c2 := (HY10.out.trans HXj.out).cell c2
          have HU1 := Lib.hid (hu1.later (HY10.out.trans HXj.out))
          have HU2 := Lib.hid (hu2.later (HY10.out.trans HXj.out))
          clear hu1 hu2
          generalize LL[j] = Z at *
          obtain ⟨za1, zc1, hzv1, -⟩ := HU1.out.form
          obtain ⟨za2, zc2, hzv2, -⟩ := HU2.out.form
          subst hzv1 hzv2
          subst he1
          first
            | subst he2
            | (simp only [Option.some.injEq, Addr.mk.injEq, and_true] at he2; obtain ⟨rfl, rfl⟩ := he2)
          have hjd : decide ((j : Int) < (LL.length : Int)) = true := decide_eq_true (by omega)
          go_wp2_with fail
          refine wp_region_E 8 rfl (by kernel_rfl) (by kernel_rfl) ?_
          have k1 := Ext.keep c1
          have k2 := Ext.keep c2
          refine WE_q 0 rfl (by decide) (by kernel_rfl) rfl ?_; apply Exists.intro; refine ⟨fun w1 hx1 => ?_, ?_⟩
          · have hq1 := hx1.cells; go_simp; try go_bits
            first | with_reducible rfl
          simp only [Act.put, List.setIfInBounds_toArray, List.set_cons_zero, List.set_cons_succ]
          refine WE_q 1 rfl (by decide) (by kernel_rfl) rfl ?_; apply Exists.intro; refine ⟨fun w1 hx1 => ?_, ?_⟩
          · have hq1 := hx1.cells; go_simp; try go_bits
            first | with_reducible rfl
          simp only [Act.put, List.setIfInBounds_toArray, List.set_cons_zero, List.set_cons_succ]
          refine WE_q 2 rfl (by decide) (by kernel_rfl) rfl ?_; apply Exists.intro; refine ⟨fun w1 hx1 => ?_, ?_⟩
          · have hq1 := hx1.cells; go_simp; try go_bits
            first | with_reducible rfl
          simp only [Act.put, List.setIfInBounds_toArray, List.set_cons_zero, List.set_cons_succ]
          refine WE_q 3 rfl (by decide) (by kernel_rfl) rfl ?_; apply Exists.intro; refine ⟨fun w1 hx1 => ?_, ?_⟩
          · have hq1 := hx1.cells; go_simp; try go_bits
            first | with_reducible rfl
          simp only [Act.put, List.setIfInBounds_toArray, List.set_cons_zero, List.set_cons_succ]
          refine WE_q 4 rfl (by decide) (by kernel_rfl) rfl ?_; apply Exists.intro; refine ⟨fun w1 hx1 => ?_, ?_⟩
          · have hq1 := hx1.cells; go_simp; try go_bits
            first | with_reducible rfl
          simp only [Act.put, List.setIfInBounds_toArray, List.set_cons_zero, List.set_cons_succ]
          refine WE_q 5 rfl (by decide) (by kernel_rfl) rfl ?_; apply Exists.intro; refine ⟨fun w1 hx1 => ?_, ?_⟩
          · have hq1 := hx1.cells; go_simp; try go_bits
            first | with_reducible rfl
          simp only [Act.put, List.setIfInBounds_toArray, List.set_cons_zero, List.set_cons_succ]
          refine WE_q 6 rfl (by decide) (by kernel_rfl) rfl ?_; apply Exists.intro; refine ⟨fun w1 hx1 => ?_, ?_⟩
          · have hq1 := hx1.cells; go_simp; try go_bits
            first | with_reducible rfl
          simp only [Act.put, List.setIfInBounds_toArray, List.set_cons_zero, List.set_cons_succ]
          refine WE_q 7 rfl (by decide) (by kernel_rfl) rfl ?_; apply Exists.intro; refine ⟨fun w1 hx1 => ?_, ?_⟩
          · have hq1 := hx1.cells; go_simp; try go_bits
            first | with_reducible rfl
          simp only [Act.put, List.setIfInBounds_toArray, List.set_cons_zero, List.set_cons_succ]
          refine WE_done (by kernel_rfl) (fun w11 hx11 => ?_)
          (try simp only [List.drop_succ_cons, List.drop_zero])
          clear k1 k2
          go_wp2_with (first
            | (go_at_call 26; (with_reducible refine (r12Same_any _ _ Z Z _ (HU1.out.later hx11) (HU2.out.later hx11)).mono ?_); rintro e w12 ⟨he, hx12⟩; replace he := he.trans (congrArg (fun b => Ending.returned (.bool b)) (decide_eq_true rfl)); subst he; have HX12 := Lib.hid (HXj.out.trans (hx11.trans hx12)); clear hx12))
          go_roundw
          case rel => exact ⟨j + 1, by omega, by go_num, HX12.out⟩
          case measure => simp [intOf]; omega
        · have hjd : decide ((j : Int) < (LL.length : Int)) = false := decide_eq_false (by omega)
          have hjn : decide (j < LL.length) = false := decide_eq_false hjl
          obtain ⟨wo2, hwo2⟩ : ∃ wo2 : World, wo2 = wr := ⟨_, rfl⟩
          go_wp2_with fail
          go_loopw [20] (fun i wq => ∃ m : Nat, m ≤ qs.length ∧ i = I m ∧ Hid (Ext w10 wq)) (fun i _ => qs.length - (intOf i).toNat)
          case atStart => exact ⟨0, by omega, rfl, HXj.out⟩
          case round =>
            obtain ⟨m, hm, rfl, HXm⟩ := hrel
            by_cases hml : m < qs.length
            · have HXA := Lib.hid (HX10.out.trans HXm.out)
              have HFm := Lib.hid (HF.out.later HXA.out)
              have HBm := Lib.hid (HB.out.later HXA.out)
              obtain ⟨b3, o3, rfl, e0, e1, e2⟩ := P3.out m qs[m] (List.getElem?_eq_getElem hml)
              replace e0 := HXA.out.cell e0
              replace e1 := HXA.out.cell e1
              replace e2 := HXA.out.cell e2
              generalize qs[m] = q at *
              have hmd : decide ((m : Int) < (qs.length : Int)) = true := decide_eq_true (by omega)
              go_wp2_with fail
              refine wp_region_R (RB (wr.heap.size)) 12 rfl (by kernel_rfl) (by kernel_rfl) (fun w0 hx0 => ?_)
              have hsz : wr.heap.size ≤ w0.heap.size := hx0.size
              have kb := RB.keep (p := ⟨fb, 0, none⟩) hsz HBm.out.lt ((HBm.out.later hx0).cells 0)
              have k0 := RB.keep hsz (cell_lt e0) (hx0.cell e0)
              have k1 := RB.keep hsz (cell_lt e1) (hx0.cell e1)
              have k2 := RB.keep hsz (cell_lt e2) (hx0.cell e2)
              refine WR_q (preRB _) 0 rfl (by decide) (by kernel_rfl) rfl ?_; apply Exists.intro; refine ⟨fun w1 hx1 => ?_, ?_⟩
              · go_simp; try go_bits
                first | with_reducible rfl | rfl
              simp only [Act.put, List.setIfInBounds_toArray, List.set_cons_zero, List.set_cons_succ]
              refine WR_q (preRB _) 1 rfl (by decide) (by kernel_rfl) rfl ?_; apply Exists.intro; refine ⟨fun w1 hx1 => ?_, ?_⟩
              · go_simp; try go_bits
                first | with_reducible rfl | rfl
              simp only [Act.put, List.setIfInBounds_toArray, List.set_cons_zero, List.set_cons_succ]
              refine WR_q (preRB _) 2 rfl (by decide) (by kernel_rfl) rfl ?_; apply Exists.intro; refine ⟨fun w1 hx1 => ?_, ?_⟩
              · go_simp; try go_bits
                first | with_reducible rfl | rfl
              simp only [Act.put, List.setIfInBounds_toArray, List.set_cons_zero, List.set_cons_succ]
              refine WR_q (preRB _) 3 rfl (by decide) (by kernel_rfl) rfl ?_; apply Exists.intro; refine ⟨fun w1 hx1 => ?_, ?_⟩
              · go_simp; try go_bits
                first | with_reducible rfl | rfl
              simp only [Act.put, List.setIfInBounds_toArray, List.set_cons_zero, List.set_cons_succ]
              refine WR_q (preRB _) 4 rfl (by decide) (by kernel_rfl) rfl ?_; apply Exists.intro; refine ⟨fun w1 hx1 => ?_, ?_⟩
              · go_simp; try go_bits
                first | with_reducible rfl | rfl
              simp only [Act.put, List.setIfInBounds_toArray, List.set_cons_zero, List.set_cons_succ]
              refine WR_q (preRB _) 6 rfl (by decide) (by kernel_rfl) rfl ?_; apply Exists.intro; refine ⟨fun w1 hx1 => ?_, ?_⟩
              · go_simp; try go_bits
                first | with_reducible rfl | rfl
              simp only [Act.put, List.setIfInBounds_toArray, List.set_cons_zero, List.set_cons_succ]
              refine WR_q (preRB _) 7 rfl (by decide) (by kernel_rfl) rfl ?_; apply Exists.intro; refine ⟨fun w1 hx1 => ?_, ?_⟩
              · go_simp; try go_bits
                first | with_reducible rfl | rfl
              simp only [Act.put, List.setIfInBounds_toArray, List.set_cons_zero, List.set_cons_succ]
              refine WR_q (preRB _) 8 rfl (by decide) (by kernel_rfl) rfl ?_; apply Exists.intro; refine ⟨fun w1 hx1 => ?_, ?_⟩
              · go_simp; try go_bits
                first | with_reducible rfl | rfl
              simp only [Act.put, List.setIfInBounds_toArray, List.set_cons_zero, List.set_cons_succ]
              refine WR_q (preRB _) 9 rfl (by decide) (by kernel_rfl) rfl ?_; apply Exists.intro; refine ⟨fun w1 hx1 => ?_, ?_⟩
              · go_simp; try go_bits
                first | with_reducible rfl | rfl
              simp only [Act.put, List.setIfInBounds_toArray, List.set_cons_zero, List.set_cons_succ]
              refine WR_q (preRB _) 10 rfl (by decide) (by kernel_rfl) rfl ?_; apply Exists.intro; refine ⟨fun w1 hx1 => ?_, ?_⟩
              · go_simp; try go_bits
                first | with_reducible rfl | rfl
              simp only [Act.put, List.setIfInBounds_toArray, List.set_cons_zero, List.set_cons_succ]
              clear kb k0 k1 k2
              refine WR_one 5 rfl (by decide) (by kernel_rfl) rfl (fun K hK => ?_)
              go_simp
              refine (coverPoints_any _ q N _ (HFm.out.later hx0) HNO.out HS.out).mono ?_
              rintro e w11 ⟨v11, l11, he, hC, hU, hx11⟩
              subst he
              refine hK _ _ (RB.ext hx11) ?_
              clear hK K
              refine WR_one 11 rfl (by decide) (by kernel_rfl) rfl (fun K hK => ?_)
              go_simp
              refine (r19Points_any _ q N _ (HFm.out.later (hx0.trans hx11)) HNO.out HS.out).mono ?_
              rintro e w12 ⟨v12, l12, he, hC2, hO, hx12⟩
              subst he
              refine hK _ _ (RB.ext hx12) ?_
              clear hK K
              obtain rfl := Cuts.at hC hC2
              have HS1 := Lib.hid (hU.later hx12)
              have HS2 := Lib.hid hO.us
              have HX12 := Lib.hid (HXm.out.trans (hx0.trans (hx11.trans hx12)))
              clear hC hC2 hU hO hx11 hx12
              refine WR_done (by kernel_rfl) ?_
              (try simp only [List.drop_succ_cons, List.drop_zero])
              go_wp2_with (first
                | (go_at_call 26; (with_reducible refine (r12Same_any _ _ _ _ _ HS1.out HS2.out).mono ?_); rintro e w13 ⟨he, hx13⟩; replace he := he.trans (congrArg (fun b => Ending.returned (.bool b)) (decide_eq_true rfl)); subst he; have HX13 := Lib.hid (HX12.out.trans hx13); clear hx13))
              go_roundw
              case rel => exact ⟨m + 1, by omega, by go_num, HX13.out⟩
              case measure => simp [intOf]; omega
            · have hmd : decide ((m : Int) < (qs.length : Int)) = false := decide_eq_false (by omega)
              have hmn : decide (m < qs.length) = false := decide_eq_false hml
              have HXB := Lib.hid (HX.out.trans (HX10.out.trans HXm.out))
              obtain ⟨wo3, hwo3⟩ : ∃ wo3 : World, wo3 = wr := ⟨_, rfl⟩
              go_wp2_with (first
                | (go_at_call 31; (with_reducible refine (parts19_any _ ps _ (HPS.out.later (HX4.out.trans (HX5.out.trans HXB.out)))).mono ?_); rintro e w15 ⟨v15, he, hO, hx15⟩; subst he; have HP15 := Lib.hid hO.parts; obtain ⟨pa15, pc15, hv15, -⟩ := HP15.out.form; have hv15' : v15 = .slice pa15 (partsN ps).length pc15 := hv15; subst hv15'; have HX15 := Lib.hid (HXB.out.trans hx15); clear hv15 hO hx15)
                | (go_at_call 30; (with_reducible refine (fit19_any _ ps _ HP15.out).mono ?_); rintro e w16 ⟨u16, qs16, L16, he, hO, hCP, hq16, hx16⟩; subst he; have HP16 := Lib.hid hO.parts; have HX16 := Lib.hid (HX15.out.trans hx16); have HQ16 := Lib.hid hq16; obtain ⟨pa16, pcap16, hu16, -⟩ := HP16.out.form; have hu16' : u16 = .slice pa16 qs16.length pcap16 := hu16; subst hu16'; clear hu16 hO hCP hx16 hq16))
              go_roundw
              case rel => exact ⟨k + 1, qs16, by omega, by go_num, HP16.out, HQ16.out, HX16.out⟩
              case measure => simp [intOf]; omega
    · have hkd : decide ((k : Int) < 2) = false := decide_eq_false (by omega)
      go_wp2_with fail
      go_ret
      exact ⟨rfl, HXE.out.trans HX.out⟩
end Go.Proofs.Ythcnihchfkmphaa
