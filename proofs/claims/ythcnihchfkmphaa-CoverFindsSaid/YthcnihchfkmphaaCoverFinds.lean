/- The law CoverFinds: of parts that meet just one has any address, and one of its points finds what it finds. Conditions: whole numbers are within 64 bits. -/
import Derived.Test.YthcnihchfkmphaaShown19
import Derived.Test.YthcnihchfkmphaaCoverA
import Derived.Test.YthcnihchfkmphaaFit19
import Derived.Test.YthcnihchfkmphaaGNetP
namespace Go.Proofs.Ythcnihchfkmphaa
open Go.RowKit

set_option maxHeartbeats 4000000 in
set_option maxRecDepth 100000 in
theorem coverFinds_any (lv pv : Value) (ls : List (List Rul)) (ps : List Prt) (a : BitVec 32) (w : World) (hl : TablesAt w lv ls) (hok : TablesOk ls) (hps : PartsAt w pv ps) :
    Calls Try.prog 10 #[.agg #[lv], pv, U a] w fun e w' => e = .returned (.bool true) ∧ Ext w w' := by
  have HL := Lib.hid hl
  have HOK := Lib.hid hok
  obtain ⟨ad, cap, hlv, a1, a2, a3⟩ := hl.form
  subst hlv
  obtain ⟨za, zcap, hzv, z1, z2, z3⟩ := hps.form
  subst hzv
  clear a3 z3 hl hok
  unfold maxLen at a2 z2
  go_enter Try.func10, Try.ntmps10
  go_upto_region 1 with (fail)
  refine hideW (Φ := fun W => Code.wp _ _ _ _ W) (fun W => Ext w W ∧ Blk W w.heap.size [.slice ad ls.length cap] 24)
    ⟨by (repeat (first | with_reducible exact Ext.refl _ | with_reducible assumption | with_reducible refine Ext.alloc ?_ _ | with_reducible refine Ext.drew ?_ | with_reducible refine Ext.drewN ?_ _ | (with_reducible refine Ext.setCellP ?_ ?_; focus (first | (simp; done) | (simp; omega) | omega)))), (Blk.new w [.slice ad ls.length cap] 24)⟩ (fun W1 hW1 => ?_)
  obtain ⟨hx1, hb1⟩ := hW1
  have HX1 := Lib.hid hx1
  have HB1 := Lib.hid hb1
  clear hx1 hb1
  generalize w.heap.size = nb at *
  go_upto_region 2 with (first
    | (go_at_call 24; (with_reducible refine (shown19_any _).mono ?_); rintro e w2 ⟨rfl, hx2⟩; have HX2 := Lib.hid (HX1.out.trans hx2); have HB2 := Lib.hid (HB1.out.later hx2); clear hx2))
  have hbc2 := HB2.out.cells
  have HNM := Lib.hid (fitN_may ls)
  have HNS := Lib.hid (fitN_size ls)
  have HNO := Lib.hid (fitN_ok ls)
  have HN20 := Lib.hid (@fitN_short ls)
  have hN := fitN_bd ls
  go_upto_region 3 with (first
    | (go_at_call 20; (with_reducible refine (r09Fit_any _ ls _ (HL.out.later HX2.out) HOK.out).mono ?_); rintro e w3 ⟨v3, he, hF, hx3⟩; subst he; have HF3 := Lib.hid hF.tables; obtain ⟨va, vcap, hv3, q1, q2, q3⟩ := HF3.out.form; subst hv3; clear q3; have HX3 := Lib.hid (HX2.out.trans hx3); clear hF hx3))
  generalize fitN ls = N at *
  clear hbc2 HB2 HB1
  unfold maxLen at q2
  refine hideW (Φ := fun W => Code.wp _ _ _ _ W) (fun W => Ext w3 W ∧ Blk W w3.heap.size [.slice va N.length vcap] 24)
    ⟨by (repeat (first | with_reducible exact Ext.refl _ | with_reducible assumption | with_reducible refine Ext.alloc ?_ _ | with_reducible refine Ext.drew ?_ | with_reducible refine Ext.drewN ?_ _ | (with_reducible refine Ext.setCellP ?_ ?_; focus (first | (simp; done) | (simp; omega) | omega)))), Blk.new w3 [.slice va N.length vcap] 24⟩ (fun W4 hW4 => ?_)
  obtain ⟨hx4, hb4⟩ := hW4
  have HX4 := Lib.hid (HX3.out.trans hx4)
  have HF4 := Lib.hid (HF3.out.later hx4)
  have HB4 := Lib.hid hb4
  have hbc4 := hb4.cells
  clear hx4 hb4 HF3 HX3 HX1 HX2
  generalize w3.heap.size = fb at *
  have HPS := Lib.hid hps
  clear hps
  go_upto_region 4 with (first
    | (go_at_call 31; (with_reducible refine (parts19_any _ ps _ (HPS.out.later HX4.out)).mono ?_); rintro e w5 ⟨v5, he, hO, hx5⟩; subst he; have HP5 := Lib.hid hO.parts; obtain ⟨pa5, pc5, hv5, -⟩ := HP5.out.form; have hv5' : v5 = .slice pa5 (partsN ps).length pc5 := hv5; subst hv5'; have HX5 := Lib.hid hx5; clear hv5 hO hx5)
    | (go_at_call 30; (with_reducible refine (fit19_any _ ps _ HP5.out).mono ?_); rintro e w6 ⟨u6, qs, L, he, hO, hCP, hq31, hx6⟩; subst he; have HP6 := Lib.hid hO.parts; have HCP := Lib.hid hCP; have HX6 := Lib.hid (HX5.out.trans hx6); obtain ⟨pa, pcap, hu6, p1, p2, p3⟩ := HP6.out.form; have hu6' : u6 = .slice pa qs.length pcap := hu6; subst hu6'; have P3 := Lib.hid p3; clear hu6 hO hCP hx6 p3))
  have HF6 := Lib.hid (HF4.out.later HX6.out)
  have HB6 := Lib.hid (HB4.out.later HX6.out)
  have HXE := Lib.hid (HX4.out.trans HX6.out)
  have hbc6 := HB6.out.cells
  have HS := Lib.hid (Nat.le_trans HNS.out (by decide : 160 ≤ 10000000))
  unfold maxLen at p2
  clear HF4 HB4 HX4 hbc4 HPS
  have HIV := Lib.hid (HCP.out.at a)
  have HV := Lib.hid (coverV_yes HIV.out.1 HIV.out.2)
  have HMT := Lib.hid HCP.out.meet
  have hlt := HIV.out.2
  have HIN := Lib.hid (fun (k : Nat) (h : k < qs.length) => HCP.out.inIff a h)
  obtain ⟨b1, o1, rfl, d0, d1, d2⟩ := P3.out (ivN L a) qs[ivN L a] (List.getElem?_eq_getElem hlt)
  have HD0 := Lib.hid d0
  have HD1 := Lib.hid d1
  have HD2 := Lib.hid d2
  have HBD := Lib.hid (inP_iff.1 ((HIN.out _ hlt).2 rfl))
  clear d0 d1 d2 HIV
  generalize qs[ivN L a] = p at *
  generalize ivN L a = iv at *
  go_upto_region 7 with (first
    | (go_at_call 35; (with_reducible refine (coverAt_any _ qs a _ HP6.out).mono ?_); rintro e w7 ⟨he, hx7⟩; rw [HV.out] at he; subst he; have HX7 := Lib.hid hx7; clear hx7)
    | (go_at_call 38; (with_reducible refine (certMeet_any _ qs _ (HP6.out.later HX7.out)).mono ?_); rintro e w8 ⟨he, hx8⟩; rw [HMT.out] at he; subst he; have HX8 := Lib.hid (HX7.out.trans hx8); clear hx8))
  have HF8 := Lib.hid (HF6.out.later HX8.out)
  have HB8 := Lib.hid (HB6.out.later HX8.out)
  clear hbc6 HX7
  go_wp2_with fail
  refine wp_region_E 5 rfl (by kernel_rfl) (by kernel_rfl) ?_
  have kb := (HB8.out).keep
  have k0 := Ext.keep (HX8.out.cell HD0.out)
  have k1 := Ext.keep (HX8.out.cell HD1.out)
  have k2 := Ext.keep (HX8.out.cell HD2.out)
  refine WE_q 0 rfl (by decide) (by kernel_rfl) rfl ?_; apply Exists.intro; refine ⟨fun w1 hx1 => ?_, ?_⟩
  · have hq1 := hx1.cells; go_simp; try go_bits
    first | with_reducible rfl
  simp only [Act.put, List.setIfInBounds_toArray, List.set_cons_zero, List.set_cons_succ]
  refine WE_q 1 rfl (by decide) (by kernel_rfl) rfl ?_; apply Exists.intro; refine ⟨fun w1 hx1 => ?_, ?_⟩
  · have hq1 := hx1.cells; go_simp; try go_bits
    first | with_reducible rfl
  simp only [Act.put, List.setIfInBounds_toArray, List.set_cons_zero, List.set_cons_succ]
  refine WE_q 2 rfl (by decide) (by kernel_rfl) rfl ?_; apply Exists.intro; refine ⟨fun w1 hx1 => ?_, ?_⟩
  · have hq1 := hx1.cells; go_simp; try go_bits
    first | with_reducible rfl
  simp only [Act.put, List.setIfInBounds_toArray, List.set_cons_zero, List.set_cons_succ]
  refine WE_q 3 rfl (by decide) (by kernel_rfl) rfl ?_; apply Exists.intro; refine ⟨fun w1 hx1 => ?_, ?_⟩
  · have hq1 := hx1.cells; go_simp; try go_bits
    first | with_reducible rfl
  simp only [Act.put, List.setIfInBounds_toArray, List.set_cons_zero, List.set_cons_succ]
  refine WE_q 4 rfl (by decide) (by kernel_rfl) rfl ?_; apply Exists.intro; refine ⟨fun w1 hx1 => ?_, ?_⟩
  · have hq1 := hx1.cells; go_simp; try go_bits
    first | with_reducible rfl
  simp only [Act.put, List.setIfInBounds_toArray, List.set_cons_zero, List.set_cons_succ]
  refine WE_done (by kernel_rfl) (fun w9 hx9 => ?_)
  (try simp only [List.drop_succ_cons, List.drop_zero])
  clear kb k0 k1 k2
  have HX9 := Lib.hid (HX8.out.trans hx9)
  have HF9 := Lib.hid (HF8.out.later hx9)
  have HB9 := Lib.hid (HB8.out.later hx9)
  clear hx9
  go_upto_region 8 with (first
    | (go_at_call 25; (with_reducible refine (coverPoints_any _ p N _ HF9.out HNO.out HS.out).mono ?_); rintro e w10 ⟨v10, l, he, hC, hU, hx10⟩; subst he; have HC := Lib.hid hC; have HU10 := Lib.hid hU; have HX10 := Lib.hid (HX9.out.trans hx10); have HF10 := Lib.hid (HF9.out.later hx10); have HB10 := Lib.hid (HB9.out.later hx10); clear hC hU hx10))
  have hZL : (insideV l p.fr p.up).length ≤ 1000 := by have h0 := insideV_len l p.fr p.up; have h1 := HC.out.len; have h2 := HNS.out; rw [sizeN_flat] at h1; omega
  obtain ⟨k, hkl, hat, hka, hfs⟩ := point_find (ls := N) HC.out HBD.out.1 HBD.out.2
  have HFS := Lib.hid hfs
  have HKE := Lib.hid (show (insideV l p.fr p.up)[k]? = some (insideV l p.fr p.up)[k] from List.getElem?_eq_getElem hkl)
  generalize insideV l p.fr p.up = Z at *
  have HAT := Lib.hid (show ∀ W, UsAt W v10 Z → Calls Try.prog 23 #[v10, U a] W fun e w' => e = .returned (I (k : Int)) ∧ w' = W from fun W hW =>
    (cutsAt_any _ Z _ W hW).mono fun e w' ⟨h1, h2⟩ => ⟨by rw [h1, hat]; congr 2; omega, h2⟩)
  generalize Z[k] = c at *
  obtain ⟨ya, ycap, hyv, y1, y2, y3⟩ := HU10.out.form
  have hyv' : v10 = .slice ya Z.length ycap := hyv
  subst hyv'
  obtain ⟨bz, oz, rfl, ez⟩ := y3 k c HKE.out
  have HEZ := Lib.hid ez
  have hgt : decide (uv a < uv c) = false := decide_eq_false (by omega)
  clear y3 hyv hat hka hfs
  unfold maxLen at y2
  go_upto_region 11 with (first
    | (go_at_call 23; (with_reducible refine (HAT.out _ HU10.out).mono ?_); rintro e w' ⟨rfl, hw⟩; obtain rfl := hw.symm))
  clear ez hgt
  go_wp2_with fail
  go_loopw [14] (fun i wr => ∃ m : Nat, m ≤ N.length ∧ i = I m ∧ Hid (Ext w10 wr)) (fun i _ => N.length - (intOf i).toNat)
  case atStart => exact ⟨0, by omega, rfl, Ext.refl _⟩
  case round =>
    obtain ⟨m, hm, rfl, HX⟩ := hrel
    have hbc := (HB10.out.later HX.out).cells
    by_cases hml : m < N.length
    · have HFm := Lib.hid (HF10.out.later HX.out)
      obtain ⟨_, _, he, _, _, g3⟩ := HFm.out.form
      obtain ⟨b2, o2, u, he2, p0, hru⟩ := g3 m N[m] (List.getElem?_eq_getElem hml)
      simp only [Value.slice.injEq, true_and] at he
      obtain ⟨rfl, rfl⟩ := he
      subst he2
      have HR := Lib.hid hru
      have HO1 := Lib.hid (HNO.out.at hml)
      have HE1 := Lib.hid (HFS.out N[m] (List.getElem_mem hml))
      have HP := Lib.hid p0
      clear g3 hru
      generalize N[m] = t at *
      generalize ho : findL t a = o at *
      have HOA := Lib.hid ho
      clear ho
      go_upto_region 15 with (first
        | (go_at_call 29; (with_reducible refine (tableFind_any _ t a _ HR.out HO1.out).mono ?_); rintro e w11 ⟨he, hx11⟩; rw [HOA.out] at he; subst he; have HX11 := Lib.hid hx11; clear hx11))
      refine hideW (Φ := fun W => Code.wp _ _ _ _ W) (fun W => Ext wr W ∧ Blk W w11.heap.size (resR o).cells 35)
        ⟨by have := HX11.out; (repeat (first | with_reducible exact Ext.refl _ | with_reducible assumption | with_reducible refine Ext.alloc ?_ _ | with_reducible refine Ext.drew ?_ | with_reducible refine Ext.drewN ?_ _ | (with_reducible refine Ext.setCellP ?_ ?_; focus (first | (simp; done) | (simp; omega) | omega)))), Blk.new w11 (resR o).cells 35⟩ (fun W12 hW12 => ?_)
      obtain ⟨hx12, hk12⟩ := hW12
      have HX12 := Lib.hid hx12
      have HK12 := Lib.hid hk12
      clear hbc p0 hx12 hk12
      generalize w11.heap.size = k1 at *
      have HB12 := Lib.hid (HB10.out.later (HX.out.trans HX12.out))
      have HP12 := Lib.hid (HX12.out.cell HP.out)
      have HZ12 := Lib.hid ((HX.out.trans HX12.out).cell HEZ.out)
      have HR12 := Lib.hid (HR.out.later HX12.out)
      go_wp2_with fail
      refine wp_region_R (RB (W12.heap.size)) 15 rfl (by kernel_rfl) (by kernel_rfl) (fun w0 hx0 => ?_)
      have hsz : W12.heap.size ≤ w0.heap.size := hx0.size
      have kb := RB.keep (p := ⟨fb, 0, none⟩) hsz HB12.out.lt ((HB12.out.later hx0).cells 0)
      have kp := RB.keep hsz (cell_lt HP12.out) (hx0.cell HP12.out)
      have kz := RB.keep hsz (cell_lt HZ12.out) (hx0.cell HZ12.out)
      refine WR_q (preRB _) 0 rfl (by decide) (by kernel_rfl) rfl ?_; apply Exists.intro; refine ⟨fun w1 hx1 => ?_, ?_⟩
      · go_simp; try go_bits
        first | with_reducible rfl | rfl
      simp only [Act.put, List.setIfInBounds_toArray, List.set_cons_zero, List.set_cons_succ]
      refine WR_q (preRB _) 1 rfl (by decide) (by kernel_rfl) rfl ?_; apply Exists.intro; refine ⟨fun w1 hx1 => ?_, ?_⟩
      · go_simp; try go_bits
        first | with_reducible rfl | rfl
      simp only [Act.put, List.setIfInBounds_toArray, List.set_cons_zero, List.set_cons_succ]
      refine WR_q (preRB _) 2 rfl (by decide) (by kernel_rfl) rfl ?_; apply Exists.intro; refine ⟨fun w1 hx1 => ?_, ?_⟩
      · go_simp; try go_bits
        first | with_reducible rfl | rfl
      simp only [Act.put, List.setIfInBounds_toArray, List.set_cons_zero, List.set_cons_succ]
      refine WR_q (preRB _) 3 rfl (by decide) (by kernel_rfl) rfl ?_; apply Exists.intro; refine ⟨fun w1 hx1 => ?_, ?_⟩
      · go_simp; try go_bits
        first | with_reducible rfl | rfl
      simp only [Act.put, List.setIfInBounds_toArray, List.set_cons_zero, List.set_cons_succ]
      refine WR_q (preRB _) 4 rfl (by decide) (by kernel_rfl) rfl ?_; apply Exists.intro; refine ⟨fun w1 hx1 => ?_, ?_⟩
      · go_simp; try go_bits
        first | with_reducible rfl | rfl
      simp only [Act.put, List.setIfInBounds_toArray, List.set_cons_zero, List.set_cons_succ]
      refine WR_q (preRB _) 5 rfl (by decide) (by kernel_rfl) rfl ?_; apply Exists.intro; refine ⟨fun w1 hx1 => ?_, ?_⟩
      · go_simp; try go_bits
        first | with_reducible rfl | rfl
      simp only [Act.put, List.setIfInBounds_toArray, List.set_cons_zero, List.set_cons_succ]
      refine WR_q (preRB _) 6 rfl (by decide) (by kernel_rfl) rfl ?_; apply Exists.intro; refine ⟨fun w1 hx1 => ?_, ?_⟩
      · go_simp; try go_bits
        first | with_reducible rfl | rfl
      simp only [Act.put, List.setIfInBounds_toArray, List.set_cons_zero, List.set_cons_succ]
      refine WR_q (preRB _) 7 rfl (by decide) (by kernel_rfl) rfl ?_; apply Exists.intro; refine ⟨fun w1 hx1 => ?_, ?_⟩
      · go_simp; try go_bits
        first | with_reducible rfl | rfl
      simp only [Act.put, List.setIfInBounds_toArray, List.set_cons_zero, List.set_cons_succ]
      refine WR_q (preRB _) 8 rfl (by decide) (by kernel_rfl) rfl ?_; apply Exists.intro; refine ⟨fun w1 hx1 => ?_, ?_⟩
      · go_simp; try go_bits
        first | with_reducible rfl | rfl
      simp only [Act.put, List.setIfInBounds_toArray, List.set_cons_zero, List.set_cons_succ]
      clear kb kp kz
      refine WR_two 9 13 rfl rfl (by decide) (by decide) (by kernel_rfl) rfl rfl (fun K hK => ?_) (fun K hK => ?_)
      case' refine_1 =>
        go_simp
        refine (tableFind_any _ t c _ (HR12.out.later hx0) HO1.out).mono ?_
        rintro e w13 ⟨he, hx13⟩
        rw [HE1.out] at he
        subst he
        refine hK _ _ (RB.ext hx13) ?_
        clear hK K
        refine WR_q (preRB _) 10 rfl (by decide) (by kernel_rfl) rfl ?_; apply Exists.intro; refine ⟨fun w1 hx1 => ?_, ?_⟩
        · go_simp; try go_bits
          first | with_reducible rfl | rfl
        simp only [Act.put, List.setIfInBounds_toArray, List.set_cons_zero, List.set_cons_succ]
        refine WR_q (preRB _) 11 rfl (by decide) (by kernel_rfl) rfl ?_; apply Exists.intro; refine ⟨fun w1 hx1 => ?_, ?_⟩
        · go_simp; try go_bits
          first | with_reducible rfl | rfl
        simp only [Act.put, List.setIfInBounds_toArray, List.set_cons_zero, List.set_cons_succ]
        refine WR_q (preRB _) 12 rfl (by decide) (by kernel_rfl) rfl ?_; apply Exists.intro; refine ⟨fun w1 hx1 => ?_, ?_⟩
        · go_simp; try go_bits
          first | with_reducible rfl | rfl
        simp only [Act.put, List.setIfInBounds_toArray, List.set_cons_zero, List.set_cons_succ]
        refine WR_one 13 rfl (by decide) (by kernel_rfl) rfl (fun K hK => ?_)
        go_simp
        refine hK _ _ (RB.ext ((Ext.refl _).alloc _)) ?_
        clear hK K
        have HXZ := Lib.hid (show Ext W12 (w13.alloc (.cells zeroR.cells.toArray 35)) from (hx0.trans hx13).alloc _)
        have HBZ := Lib.hid (show Blk (w13.alloc (.cells zeroR.cells.toArray 35)) w13.heap.size zeroR.cells 35 from Blk.new w13 zeroR.cells 35)
        have HGE := Lib.hid (show W12.heap.size ≤ w13.heap.size from (hx0.trans hx13).size)
        refine hideW (Φ := fun W => WR _ _ _ _ _ _ _ _ W) (fun W => Ext W12 W ∧ Blk W w13.heap.size zeroR.cells 35) ⟨HXZ.out, HBZ.out⟩ (fun W14 hW14 => ?_)
        obtain ⟨hx14, hb14⟩ := hW14
        generalize w13.heap.size = k2 at *
      case' refine_2 =>
        go_simp
        refine hK _ _ (RB.ext ((Ext.refl _).alloc _)) ?_
        clear hK K
        have HXZ := Lib.hid (show Ext W12 (w0.alloc (.cells zeroR.cells.toArray 35)) from hx0.alloc _)
        have HBZ := Lib.hid (show Blk (w0.alloc (.cells zeroR.cells.toArray 35)) w0.heap.size zeroR.cells 35 from Blk.new w0 zeroR.cells 35)
        refine WR_one 9 rfl (by decide) (by kernel_rfl) rfl (fun K hK => ?_)
        go_simp
        refine (tableFind_any _ t c _ (HR12.out.later HXZ.out) HO1.out).mono ?_
        rintro e w13 ⟨he, hx13⟩
        rw [HE1.out] at he
        subst he
        refine hK _ _ (RB.ext hx13) ?_
        clear hK K
        refine WR_q (preRB _) 10 rfl (by decide) (by kernel_rfl) rfl ?_; apply Exists.intro; refine ⟨fun w1 hx1 => ?_, ?_⟩
        · go_simp; try go_bits
          first | with_reducible rfl | rfl
        simp only [Act.put, List.setIfInBounds_toArray, List.set_cons_zero, List.set_cons_succ]
        refine WR_q (preRB _) 11 rfl (by decide) (by kernel_rfl) rfl ?_; apply Exists.intro; refine ⟨fun w1 hx1 => ?_, ?_⟩
        · go_simp; try go_bits
          first | with_reducible rfl | rfl
        simp only [Act.put, List.setIfInBounds_toArray, List.set_cons_zero, List.set_cons_succ]
        refine WR_q (preRB _) 12 rfl (by decide) (by kernel_rfl) rfl ?_; apply Exists.intro; refine ⟨fun w1 hx1 => ?_, ?_⟩
        · go_simp; try go_bits
          first | with_reducible rfl | rfl
        simp only [Act.put, List.setIfInBounds_toArray, List.set_cons_zero, List.set_cons_succ]
        have HGE := Lib.hid hsz
        have hx14 := HXZ.out.trans hx13
        have hb14 := HBZ.out.later hx13
        generalize w13 = W14 at *
        generalize w0.heap.size = k2 at *
      all_goals
        have hbc14 := hb14.cells
        have hbf14 := hb14.frozen
        have hge := HGE.out
        refine WR_one 14 rfl (by decide) (by kernel_rfl) rfl (fun K hK => ?_)
        go_simp
        refine hK _ _ (RB.below hx14.size (((((Below.refl _ _).setCell (by simpa using hge) _).setCell (by simpa using hge) _).setCell (by simpa using hge) _).setCell (by simpa using hge) _)) ?_
        clear hK K hbc14 hbf14
        have HB15 := Lib.hid ((((hb14.set 0 (U (resR o).pa)).set 1 (I (resR o).pl)).set 2 (I (resR o).act)).set 3 (I (resR o).nx))
        have HX15 := Lib.hid ((((hx14.setCell (p := ⟨k2, 0, none⟩) hge (U (resR o).pa)).setCell (p := ⟨k2, 1, none⟩) hge (I (resR o).pl)).setCell (p := ⟨k2, 2, none⟩) hge (I (resR o).act)).setCell (p := ⟨k2, 3, none⟩) hge (I (resR o).nx))
        clear hb14 hx14 hge
        refine WR_done (by kernel_rfl) ?_
        (try simp only [List.drop_succ_cons, List.drop_zero])
        go_upto_region 16 with (fail)
        refine hideW (Φ := fun W => Code.wp _ _ _ _ W) (fun W => Ext W12 W ∧ Blk W k2 [U (resR o).pa, I (resR o).pl, I (resR o).act, I (resR o).nx] 35) ⟨HX15.out, HB15.out⟩ (fun W16 hW16 => ?_)
        obtain ⟨hx16, hb16⟩ := hW16
        have kc1 := (HK12.out.later hx16).cells
        have kc2 := hb16.cells
        have HXr := Lib.hid (HX.out.trans (HX12.out.trans hx16))
        clear hx16 hb16 HB15 HX15 HBZ HXZ
        generalize resR o = rr at *
        have heq : decide (rr = rr) = true := decide_eq_true rfl
        go_wp2_with fail
        go_roundw
        case rel =>
          first | exact ⟨m + 1, by omega, by go_num, HXr.out⟩ | exact ⟨m + 1, by omega, by omega⟩
        case measure => simp [intOf]; omega
    · have hmd : decide ((m : Int) < (N.length : Int)) = false := decide_eq_false (by omega)
      have hmn : decide (m < N.length) = false := decide_eq_false hml
      obtain ⟨wo, rfl⟩ : ∃ wo : World, wo = wr := ⟨_, rfl⟩
      have HXW := Lib.hid (HX10.out.trans HX.out)
      go_wp2_with fail
      go_loopw [19] (fun i wq => ∃ j : Nat, j ≤ qs.length ∧ i = I j ∧ Hid (Ext w10 wq)) (fun i _ => qs.length - (intOf i).toNat)
      case atStart => exact ⟨0, by omega, rfl, HX.out⟩
      case round =>
        obtain ⟨j, hj, rfl, HXj⟩ := hrel
        by_cases hjl : j < qs.length
        · obtain ⟨b5, o5, he5, e0, e1, e2⟩ := P3.out j qs[j] (List.getElem?_eq_getElem hjl)
          simp only [Option.some.injEq, Addr.mk.injEq, and_true] at he5
          obtain ⟨rfl, rfl⟩ := he5
          replace e0 := (HX10.out.trans HXj.out).cell e0
          replace e1 := (HX10.out.trans HXj.out).cell e1
          clear e2
          have HIJ := Lib.hid (HIN.out j hjl)
          generalize qs[j] = q at *
          by_cases hje : j = iv
          · have hd : ((j : Int) != (iv : Int)) = false := by simp [hje]
            clear hje
            go_wp2_with fail
            go_roundw
            case rel => exact ⟨j + 1, by omega, by go_num, HXj.out⟩
            case measure => simp [intOf]; omega
          · have hd : ((j : Int) != (iv : Int)) = true := by simp; omega
            have hn : ¬ inP a q = true := fun h => hje (HIJ.out.1 h)
            rw [inP_iff] at hn
            clear hje
            by_cases h1 : uv q.fr ≤ uv a
            · have hd1 : decide (uv q.fr ≤ uv a) = true := decide_eq_true h1
              have hd2 : decide (uv a ≤ uv q.up) = false := decide_eq_false (fun h => hn ⟨h1, h⟩)
              clear hn h1
              go_wp2_with fail
              go_roundw
              case rel => exact ⟨j + 1, by omega, by go_num, HXj.out⟩
              case measure => simp [intOf]; omega
            · have hd1 : decide (uv q.fr ≤ uv a) = false := decide_eq_false h1
              clear hn h1
              go_wp2_with fail
              go_roundw
              case rel => exact ⟨j + 1, by omega, by go_num, HXj.out⟩
              case measure => simp [intOf]; omega
        · have hjd : decide ((j : Int) < (qs.length : Int)) = false := decide_eq_false (by omega)
          have hjn : decide (j < qs.length) = false := decide_eq_false hjl
          go_wp2_with fail
          go_ret
          exact ⟨rfl, HXE.out.trans (HX10.out.trans HXj.out)⟩
end Go.Proofs.Ythcnihchfkmphaa
