/- The law CheckSound: whatever is checked, of LoopFree no address goes round; of Loops Dest does. Conditions: whole numbers are within 64 bits. -/
import Derived.Test.YtpfkfboohblgoaaGShort
import Derived.Test.YtpfkfboohblgoaaSound
import Derived.Test.YtpfkfboohblgoaaGFitC
import Derived.Test.YtpfkfboohblgoaaFew
import Derived.Test.YtpfkfboohblgoaaGNetP
namespace Go.Proofs.Ytpfkfboohblgoaa
open Go Go.RowKit Go.Maps Go.Proofs

theorem Blk.keepR {w0 w : World} {b : Nat} {cs : List Value} {T : TypeId} (h : Blk w0 b cs T) (hx : Ext w0 w) : ∀ W, RB w0.heap.size w W → ∀ o, W.cell? ⟨b, o, none⟩ = cs[o]? :=
  fun _ hR o => (RB.cell hx.size hR h.lt).trans ((h.later hx).cells o)
set_option maxHeartbeats 4000000 in
set_option maxRecDepth 100000 in
theorem checkSound_any (lv pv tv : Value) (ls : List (List Rul)) (c : Crt) (a : BitVec 32) (w : World) (hl : TablesAt w lv ls) (hok : TablesOk ls) (hc : CertAt w pv tv c) (htr : ∀ x ∈ c.tr, In64 x) (hrk : ∀ r ∈ c.rks, ∀ x ∈ r, In64 x) :
    Calls Try.prog 10 #[.agg #[lv], .agg #[I c.vd, pv, U c.dest, tv], U a] w fun e w' => e = .returned (.bool true) ∧ Ext w w' := by
  have HC := Lib.hid hc
  have HTR := Lib.hid htr
  have HRK := Lib.hid hrk
  clear hc htr hrk
  have HL := Lib.hid hl
  have HOK := Lib.hid hok
  obtain ⟨ad, cap, hlv, a1, a2, a3⟩ := hl.form
  subst hlv
  clear a3 hl hok
  unfold maxLen at a2
  go_enter Try.func10, Try.ntmps10
  go_upto_region 1 with (fail)
  refine hideW (Φ := fun W => Code.wp _ _ _ _ W) (fun W => Ext w W ∧ Blk W w.heap.size [.slice ad ls.length cap] 24 ∧ Blk W (w.heap.size + 1) [I c.vd, pv, U c.dest, tv] 29)
    ⟨by (repeat (first | with_reducible exact Ext.refl _ | with_reducible assumption | with_reducible refine Ext.alloc ?_ _ | with_reducible refine Ext.drew ?_ | with_reducible refine Ext.drewN ?_ _ | (with_reducible refine Ext.setCellP ?_ ?_; focus (first | (simp; done) | (simp; omega) | omega)))), ((Blk.new w [.slice ad ls.length cap] 24).old _), (Blk.newAt [I c.vd, pv, U c.dest, tv] (by simp))⟩ (fun W1 hW1 => ?_)
  obtain ⟨hx1, hb1, hk0⟩ := hW1
  have HX1 := Lib.hid hx1
  have HB1 := Lib.hid hb1
  have HK1_0 := Lib.hid hk0
  clear hx1 hb1 hk0
  generalize w.heap.size + 1 = kb0 at *
  generalize w.heap.size = nb at *
  go_upto_region 2 with (first
    | (go_at_call 15; (with_reducible refine (shown20_any _).mono ?_); rintro e w2 ⟨rfl, hx2⟩; have HX2 := Lib.hid (HX1.out.trans hx2); have HB2 := Lib.hid (HB1.out.later hx2); have HK2_0 := Lib.hid (HK1_0.out.later hx2); clear hx2))
  have hbc2 := HB2.out.cells
  have HNM := Lib.hid (fitN_may ls)
  have HNS := Lib.hid (fitN_size ls)
  have HNO := Lib.hid (fitN_ok ls)
  have HN20 := Lib.hid (@fitN_short ls)
  have hN := fitN_bd ls
  go_upto_region 3 with (first
    | (go_at_call 16; (with_reducible refine (r09Fit_any _ ls _ (HL.out.later HX2.out) HOK.out).mono ?_); rintro e w3 ⟨v3, he, hF, hx3⟩; subst he; have HF3 := Lib.hid hF.tables; obtain ⟨va, vcap, hv3, q1, q2, q3⟩ := HF3.out.form; subst hv3; clear q3; have HX3 := Lib.hid (HX2.out.trans hx3); have HK3_0 := Lib.hid (HK2_0.out.later hx3); have HBN3 := Lib.hid (HB2.out.later hx3); clear hF hx3))
  generalize fitN ls = N at *
  clear hbc2 HB2 HB1 HK1_0 HK2_0
  unfold maxLen at q2
  refine hideW (Φ := fun W => Code.wp _ _ _ _ W) (fun W => Ext w3 W ∧ Blk W w3.heap.size [.slice va N.length vcap] 24)
    ⟨by (repeat (first | with_reducible exact Ext.refl _ | with_reducible assumption | with_reducible refine Ext.alloc ?_ _ | with_reducible refine Ext.drew ?_ | with_reducible refine Ext.drewN ?_ _ | (with_reducible refine Ext.setCellP ?_ ?_; focus (first | (simp; done) | (simp; omega) | omega)))), Blk.new w3 [.slice va N.length vcap] 24⟩ (fun W4 hW4 => ?_)
  obtain ⟨hx4, hb4⟩ := hW4
  have HX4 := Lib.hid (HX3.out.trans hx4)
  have HF4 := Lib.hid (HF3.out.later hx4)
  have HB4 := Lib.hid hb4
  have HK4_0 := Lib.hid (HK3_0.out.later hx4)
  have HBN := Lib.hid (HBN3.out.later hx4)
  have hbc4 := hb4.cells
  clear hx4 hb4 HF3 HX3 HX1 HX2 HK3_0
  generalize w3.heap.size = fb at *
  have HP0 := Lib.hid HC.out.parts.form
  have HT0 := Lib.hid HC.out.tr.form
  have HNS1 := Lib.hid (show sizeN N ≤ 10000000 by have := HNS.out; omega)
  have HFS := Lib.hid (show sizeN (fewN ls) ≤ 10000000 by have := fewN_size ls; omega)
  have HFO := Lib.hid (fewN_ok HOK.out)
  have HKB := Lib.hid HK4_0.out
  clear HK4_0 hbc4
  refine wp_region_R (RB (W4.heap.size)) 7 rfl (by kernel_rfl) (by kernel_rfl) (fun w0 hx0 => ?_)
  have HX0 := Lib.hid hx0
  have hsz : W4.heap.size ≤ w0.heap.size := hx0.size
  have g0 := RB.keep hsz HB4.out.lt ((HB4.out.later hx0).cells 0)
  have c0 := RB.keep hsz HKB.out.lt ((HKB.out.later hx0).cells 0)
  have c1 := RB.keep hsz HKB.out.lt ((HKB.out.later hx0).cells 1)
  have c2 := RB.keep hsz HKB.out.lt ((HKB.out.later hx0).cells 2)
  have c3 := RB.keep hsz HKB.out.lt ((HKB.out.later hx0).cells 3)
  clear hx0 hsz
  refine WR_q (preRB _) 0 rfl (by decide) (by kernel_rfl) rfl ?_; apply Exists.intro; refine ⟨fun w1 hx1 => ?_, ?_⟩
  · go_simp; try go_bits
    first | with_reducible rfl | rfl
  simp only [Act.put, List.setIfInBounds_toArray, List.set_cons_zero, List.set_cons_succ]
  refine WRi_at 2 ?_
  iterate 3
    refine WRi_q (preRB _) rfl (by decide) (by kernel_rfl) rfl ?_; apply Exists.intro; refine ⟨fun w1 hx1 => ?_, ?_⟩
    · go_simp; try go_bits
      first | with_reducible rfl | rfl
    simp only [Act.put, List.setIfInBounds_toArray, List.set_cons_zero, List.set_cons_succ, Nat.reduceAdd]
  refine WRi_out ?_
  clear g0 c0 c1 c2 c3
  refine WR_two 1 6 rfl rfl (by decide) (by decide) (by kernel_rfl) rfl rfl (fun K hK => ?_) (fun K hK => ?_)
  · go_simp
    (with_reducible refine (short20_any _ _ c _ (HC.out.later (HX4.out.trans HX0.out))).mono ?_)
    rintro e w5 ⟨pv5, tv5, c5, he, hC5, hS5, hx5⟩
    subst he
    have HC5 := Lib.hid hC5
    have HS5 := Lib.hid hS5
    have HZ5 := Lib.hid hx5
    have HX5 := Lib.hid (HX0.out.trans hx5)
    refine hK _ _ (RB.ext hx5) ?_
    clear hK K hC5 hS5 hx5
    refine WR_two 5 6 rfl rfl (by decide) (by decide) (by kernel_rfl) rfl rfl (fun K hK => ?_) (fun K hK => ?_)
    · go_simp
      (with_reducible refine (r17Fit_any _ _ c5 N.length _ HC5.out (HS5.out.in_tr HTR.out) (HS5.out.in_ranks HRK.out) HS5.out.cap ⟨hN.1, Nat.le_trans hN.2 (by decide)⟩).mono ?_)
      rintro e w8 ⟨pv8, tv8, c8, he, hO, hm, hI, hv, hx8⟩
      subst he
      obtain ⟨pb, pbc, hpv, -, -, -⟩ := hO.at.parts.form
      obtain ⟨tb, tbc, htv, -, -, -⟩ := hO.at.tr.form
      subst hpv htv
      have HO8 := Lib.hid hO
      have HI8 := Lib.hid hI
      have HZ8 := Lib.hid hx8
      have HX8 := Lib.hid (HX5.out.trans hx8)
      refine hK _ _ (RB.ext hx8) ?_
      clear hK K hO hm hI hv hx8
      refine WR_one 6 rfl (by decide) (by kernel_rfl) rfl (fun K hK => ?_)
      go_simp
      refine hK _ _ (RB.ext ((Ext.refl _).alloc _)) ?_
      clear hK K
      refine WR_done (by kernel_rfl) ?_
      (try simp only [List.drop_succ_cons, List.drop_zero])
      go_upto_region 4 with fail
      refine hideW (Φ := fun W => Code.wp _ _ _ _ W) (fun W => Ext w8 W ∧ Blk W w8.heap.size [I c8.vd, .slice pb c8.ps.length pbc, U c8.dest, .slice tb c8.tr.length tbc] 29) ⟨by (repeat (first | with_reducible exact Ext.refl _ | with_reducible assumption | with_reducible refine Ext.alloc ?_ _ | with_reducible refine Ext.drew ?_ | with_reducible refine Ext.drewN ?_ _ | (with_reducible refine Ext.setCellP ?_ ?_; focus (first | (simp; done) | (simp; omega) | omega)))), Blk.new w8 [I c8.vd, .slice pb c8.ps.length pbc, U c8.dest, .slice tb c8.tr.length tbc] 29⟩ (fun W9 hW9 => ?_)
      obtain ⟨hx9, hb9⟩ := hW9
      have HQ9 := Lib.hid hb9
      have HC9 := Lib.hid (HO8.out.at.later hx9)
      have HXE := Lib.hid (HX8.out.trans hx9)
      clear hx9 hb9 HO8 HX8 HZ8 HX5 HC5 HS5 HZ5 HX0
      generalize w8.heap.size = xc at *
      have HF9 := Lib.hid (HF4.out.later HXE.out)
      have HC0 := Lib.hid (HC.out.later (HX4.out.trans HXE.out))
      have HL0 := Lib.hid (HL.out.later (HX4.out.trans HXE.out))
      have HB9 := Lib.hid (HB4.out.later HXE.out)
      have HN9 := Lib.hid (HBN.out.later HXE.out)
      have HK9 := Lib.hid (HKB.out.later HXE.out)
      refine wp_region_R (RB (W9.heap.size)) 22 rfl (by kernel_rfl) (by kernel_rfl) (fun wz hxz => ?_)
      have HXZ := Lib.hid hxz
      clear hxz
      have gf := HB9.out.keepR HXZ.out
      have gn := HN9.out.keepR HXZ.out
      have gk := HK9.out.keepR HXZ.out
      have gx := HQ9.out.keepR HXZ.out
      refine WRi_at 0 ?_
      iterate 5
        refine WRi_q (preRB _) rfl (by decide) (by kernel_rfl) rfl ?_; apply Exists.intro; refine ⟨fun w1 hx1 => ?_, ?_⟩
        · go_simp; try go_bits
          first | with_reducible rfl | rfl
        simp only [Act.put, List.setIfInBounds_toArray, List.set_cons_zero, List.set_cons_succ, Nat.reduceAdd]
      refine WRi_out ?_
      refine WR_one 5 rfl (by decide) (by kernel_rfl) rfl (fun K hK => ?_)
      go_simp
      (with_reducible refine (sound_any _ _ _ N c8 a _ (HF9.out.later HXZ.out) HNO.out HNS1.out (HC9.out.later HXZ.out) HI8.out).mono ?_)
      rintro e w10 ⟨he, hy⟩
      subst he
      have HX10 := Lib.hid (HXZ.out.trans hy)
      refine hK _ _ (RB.ext hy) ?_
      clear hK K hy
      clear gf gn gk gx
      have gf := HB9.out.keepR HX10.out
      have gn := HN9.out.keepR HX10.out
      have gk := HK9.out.keepR HX10.out
      have gx := HQ9.out.keepR HX10.out
      refine WRi_at 6 ?_
      iterate 4
        refine WRi_q (preRB _) rfl (by decide) (by kernel_rfl) rfl ?_; apply Exists.intro; refine ⟨fun w1 hx1 => ?_, ?_⟩
        · go_simp; try go_bits
          first | with_reducible rfl | rfl
        simp only [Act.put, List.setIfInBounds_toArray, List.set_cons_zero, List.set_cons_succ, Nat.reduceAdd]
      refine WRi_out ?_
      refine WR_q (preRB _) 11 rfl (by decide) (by kernel_rfl) rfl ?_; apply Exists.intro; refine ⟨fun w1 hx1 => ?_, ?_⟩
      · go_simp; try go_bits
        first | with_reducible rfl | rfl
      simp only [Act.put, List.setIfInBounds_toArray, List.set_cons_zero, List.set_cons_succ]
      refine WR_one 10 rfl (by decide) (by kernel_rfl) rfl (fun K hK => ?_)
      go_simp
      (with_reducible refine (short20_any _ _ c _ (HC0.out.later HX10.out)).mono ?_)
      rintro e w11 ⟨pvA, tvA, cA, he, hCA, hSA, hy⟩
      subst he
      have HCA := Lib.hid hCA
      have HIA := Lib.hid (hSA.in_tr HTR.out)
      have HX11 := Lib.hid (HX10.out.trans hy)
      refine hK _ _ (RB.ext hy) ?_
      clear hK K hCA hSA hy
      clear gf gn gk gx
      have gf := HB9.out.keepR HX11.out
      have gn := HN9.out.keepR HX11.out
      have gk := HK9.out.keepR HX11.out
      have gx := HQ9.out.keepR HX11.out
      refine WR_one 12 rfl (by decide) (by kernel_rfl) rfl (fun K hK => ?_)
      go_simp
      (with_reducible refine (sound_any _ _ _ N cA a _ (HF9.out.later HX11.out) HNO.out HNS1.out HCA.out HIA.out).mono ?_)
      rintro e w12 ⟨he, hy⟩
      subst he
      have HX12 := Lib.hid (HX11.out.trans hy)
      refine hK _ _ (RB.ext hy) ?_
      clear hK K hy
      clear gf gn gk gx
      have gf := HB9.out.keepR HX12.out
      have gn := HN9.out.keepR HX12.out
      have gk := HK9.out.keepR HX12.out
      have gx := HQ9.out.keepR HX12.out
      refine WRi_at 13 ?_
      iterate 3
        refine WRi_q (preRB _) rfl (by decide) (by kernel_rfl) rfl ?_; apply Exists.intro; refine ⟨fun w1 hx1 => ?_, ?_⟩
        · go_simp; try go_bits
          first | with_reducible rfl | rfl
        simp only [Act.put, List.setIfInBounds_toArray, List.set_cons_zero, List.set_cons_succ, Nat.reduceAdd]
      refine WRi_out ?_
      refine WR_q (preRB _) 17 rfl (by decide) (by kernel_rfl) rfl ?_; apply Exists.intro; refine ⟨fun w1 hx1 => ?_, ?_⟩
      · go_simp; try go_bits
        first | with_reducible rfl | rfl
      simp only [Act.put, List.setIfInBounds_toArray, List.set_cons_zero, List.set_cons_succ]
      refine WR_q (preRB _) 19 rfl (by decide) (by kernel_rfl) rfl ?_; apply Exists.intro; refine ⟨fun w1 hx1 => ?_, ?_⟩
      · go_simp; try go_bits
        first | with_reducible rfl | rfl
      simp only [Act.put, List.setIfInBounds_toArray, List.set_cons_zero, List.set_cons_succ]
      refine WR_one 16 rfl (by decide) (by kernel_rfl) rfl (fun K hK => ?_)
      go_simp
      (with_reducible refine (few20_any _ ls _ (HL0.out.later HX12.out)).mono ?_)
      rintro e w13 ⟨v13, he, hF, hy⟩
      subst he
      have HFW := Lib.hid hF
      have HX13 := Lib.hid (HX12.out.trans hy)
      refine hK _ _ (RB.ext hy) ?_
      clear hK K hF hy
      clear gf gn gk gx
      have gf := HB9.out.keepR HX13.out
      have gn := HN9.out.keepR HX13.out
      have gk := HK9.out.keepR HX13.out
      have gx := HQ9.out.keepR HX13.out
      refine WR_one 18 rfl (by decide) (by kernel_rfl) rfl (fun K hK => ?_)
      go_simp
      (with_reducible refine (short20_any _ _ c _ (HC0.out.later HX13.out)).mono ?_)
      rintro e w14 ⟨pvB, tvB, cB, he, hCB, hSB, hy⟩
      subst he
      have HCB := Lib.hid hCB
      have HIB := Lib.hid (hSB.in_tr HTR.out)
      have HZ14 := Lib.hid hy
      have HX14 := Lib.hid (HX13.out.trans hy)
      refine hK _ _ (RB.ext hy) ?_
      clear hK K hCB hSB hy
      clear gf gn gk gx
      have gf := HB9.out.keepR HX14.out
      have gn := HN9.out.keepR HX14.out
      have gk := HK9.out.keepR HX14.out
      have gx := HQ9.out.keepR HX14.out
      refine WR_one 20 rfl (by decide) (by kernel_rfl) rfl (fun K hK => ?_)
      go_simp
      (with_reducible refine (sound_any _ _ _ (fewN ls) cB a _ (HFW.out.later HZ14.out) HFO.out HFS.out HCB.out HIB.out).mono ?_)
      rintro e w15 ⟨he, hy⟩
      subst he
      have HX15 := Lib.hid (HX14.out.trans hy)
      refine hK _ _ (RB.ext hy) ?_
      clear hK K hy
      clear gf gn gk gx
      have gf := HB9.out.keepR HX15.out
      have gn := HN9.out.keepR HX15.out
      have gk := HK9.out.keepR HX15.out
      have gx := HQ9.out.keepR HX15.out
      refine WR_q (preRB _) 21 rfl (by decide) (by kernel_rfl) rfl ?_; apply Exists.intro; refine ⟨fun w1 hx1 => ?_, ?_⟩
      · go_simp; try go_bits
        first | with_reducible rfl | rfl
      simp only [Act.put, List.setIfInBounds_toArray, List.set_cons_zero, List.set_cons_succ]
      refine WR_done (by kernel_rfl) ?_
      (try simp only [List.drop_succ_cons, List.drop_zero])
      go_wp2_with fail
      go_ret
      exact ⟨rfl, HX4.out.trans (HXE.out.trans HX15.out)⟩
    · go_simp
      refine hK _ _ (RB.ext ((Ext.refl _).alloc _)) ?_
      clear hK K
      have HQA := Lib.hid (Blk.new w5 [I 0, .slice none 0 0, .int .u32 0, .slice none 0 0] 29)
      have HZA := Lib.hid ((Ext.refl w5).alloc (.cells #[I 0, .slice none 0 0, .int .u32 0, .slice none 0 0] 29))
      have HGE := Lib.hid (show W4.heap.size ≤ w5.heap.size from HX5.out.size)
      have HLTA := Lib.hid HQA.out.lt
      generalize (World.alloc w5 (.cells #[I 0, .slice none 0 0, .int .u32 0, .slice none 0 0] 29)) = wA at *
      generalize w5.heap.size = xc at *
      refine WR_one 5 rfl (by decide) (by kernel_rfl) rfl (fun K hK => ?_)
      go_simp
      (with_reducible refine (r17Fit_any _ _ c5 N.length _ (HC5.out.later HZA.out) (HS5.out.in_tr HTR.out) (HS5.out.in_ranks HRK.out) HS5.out.cap ⟨hN.1, Nat.le_trans hN.2 (by decide)⟩).mono ?_)
      rintro e w8 ⟨pv8, tv8, c8, he, hO, hm, hI, hv, hx8⟩
      subst he
      obtain ⟨pb, pbc, hpv, -, -, -⟩ := hO.at.parts.form
      obtain ⟨tb, tbc, htv, -, -, -⟩ := hO.at.tr.form
      subst hpv htv
      have HO8 := Lib.hid hO
      have HI8 := Lib.hid hI
      have HZ8 := Lib.hid hx8
      have HX8 := Lib.hid ((HX5.out.trans HZA.out).trans hx8)
      refine hK _ _ (RB.ext hx8) ?_
      clear hK K hO hm hI hv hx8
      have HQ8 := Lib.hid (HQA.out.later HZ8.out)
      have HLT8 := Lib.hid (show xc < _ from HLTA.out)
      have HLE := Lib.hid (fun (o : Nat) (A : World) (u : Value) (h : Ext W4 A) => h.setCell (p := ⟨xc, o, none⟩) HGE.out u)
      have hqc := HQ8.out.cells
      have hqf := HQ8.out.frozen
      refine WR_done (by kernel_rfl) ?_
      (try simp only [List.drop_succ_cons, List.drop_zero])
      go_upto_region 4 with fail
      refine hideW (Φ := fun W => Code.wp _ _ _ _ W) (fun W => Ext W4 W ∧ Blk W xc [I c8.vd, .slice pb c8.ps.length pbc, U c8.dest, .slice tb c8.tr.length tbc] 29 ∧ CertAt W (.slice pb c8.ps.length pbc) (.slice tb c8.tr.length tbc) c8)
        ⟨HLE.out _ _ _ (HLE.out _ _ _ (HLE.out _ _ _ (HLE.out _ _ _ HX8.out))), (((HQ8.out.set 0 _).set 1 _).set 2 _).set 3 _, ((((HO8.out.setCell HLT8.out _).setCell HLT8.out _).setCell HLT8.out _).setCell HLT8.out _).at⟩ (fun W9 hW9 => ?_)
      obtain ⟨hx9, hb9, hc9⟩ := hW9
      have HQ9 := Lib.hid hb9
      have HC9 := Lib.hid hc9
      have HXE := Lib.hid hx9
      clear hx9 hb9 hc9 hqc hqf HO8 HX8 HZ8 HX5 HC5 HS5 HZ5 HX0 HQ8 HLE HQA HZA HGE HLTA HLT8
      have HF9 := Lib.hid (HF4.out.later HXE.out)
      have HC0 := Lib.hid (HC.out.later (HX4.out.trans HXE.out))
      have HL0 := Lib.hid (HL.out.later (HX4.out.trans HXE.out))
      have HB9 := Lib.hid (HB4.out.later HXE.out)
      have HN9 := Lib.hid (HBN.out.later HXE.out)
      have HK9 := Lib.hid (HKB.out.later HXE.out)
      refine wp_region_R (RB (W9.heap.size)) 22 rfl (by kernel_rfl) (by kernel_rfl) (fun wz hxz => ?_)
      have HXZ := Lib.hid hxz
      clear hxz
      have gf := HB9.out.keepR HXZ.out
      have gn := HN9.out.keepR HXZ.out
      have gk := HK9.out.keepR HXZ.out
      have gx := HQ9.out.keepR HXZ.out
      refine WRi_at 0 ?_
      iterate 5
        refine WRi_q (preRB _) rfl (by decide) (by kernel_rfl) rfl ?_; apply Exists.intro; refine ⟨fun w1 hx1 => ?_, ?_⟩
        · go_simp; try go_bits
          first | with_reducible rfl | rfl
        simp only [Act.put, List.setIfInBounds_toArray, List.set_cons_zero, List.set_cons_succ, Nat.reduceAdd]
      refine WRi_out ?_
      refine WR_one 5 rfl (by decide) (by kernel_rfl) rfl (fun K hK => ?_)
      go_simp
      (with_reducible refine (sound_any _ _ _ N c8 a _ (HF9.out.later HXZ.out) HNO.out HNS1.out (HC9.out.later HXZ.out) HI8.out).mono ?_)
      rintro e w10 ⟨he, hy⟩
      subst he
      have HX10 := Lib.hid (HXZ.out.trans hy)
      refine hK _ _ (RB.ext hy) ?_
      clear hK K hy
      clear gf gn gk gx
      have gf := HB9.out.keepR HX10.out
      have gn := HN9.out.keepR HX10.out
      have gk := HK9.out.keepR HX10.out
      have gx := HQ9.out.keepR HX10.out
      refine WRi_at 6 ?_
      iterate 4
        refine WRi_q (preRB _) rfl (by decide) (by kernel_rfl) rfl ?_; apply Exists.intro; refine ⟨fun w1 hx1 => ?_, ?_⟩
        · go_simp; try go_bits
          first | with_reducible rfl | rfl
        simp only [Act.put, List.setIfInBounds_toArray, List.set_cons_zero, List.set_cons_succ, Nat.reduceAdd]
      refine WRi_out ?_
      refine WR_q (preRB _) 11 rfl (by decide) (by kernel_rfl) rfl ?_; apply Exists.intro; refine ⟨fun w1 hx1 => ?_, ?_⟩
      · go_simp; try go_bits
        first | with_reducible rfl | rfl
      simp only [Act.put, List.setIfInBounds_toArray, List.set_cons_zero, List.set_cons_succ]
      refine WR_one 10 rfl (by decide) (by kernel_rfl) rfl (fun K hK => ?_)
      go_simp
      (with_reducible refine (short20_any _ _ c _ (HC0.out.later HX10.out)).mono ?_)
      rintro e w11 ⟨pvA, tvA, cA, he, hCA, hSA, hy⟩
      subst he
      have HCA := Lib.hid hCA
      have HIA := Lib.hid (hSA.in_tr HTR.out)
      have HX11 := Lib.hid (HX10.out.trans hy)
      refine hK _ _ (RB.ext hy) ?_
      clear hK K hCA hSA hy
      clear gf gn gk gx
      have gf := HB9.out.keepR HX11.out
      have gn := HN9.out.keepR HX11.out
      have gk := HK9.out.keepR HX11.out
      have gx := HQ9.out.keepR HX11.out
      refine WR_one 12 rfl (by decide) (by kernel_rfl) rfl (fun K hK => ?_)
      go_simp
      (with_reducible refine (sound_any _ _ _ N cA a _ (HF9.out.later HX11.out) HNO.out HNS1.out HCA.out HIA.out).mono ?_)
      rintro e w12 ⟨he, hy⟩
      subst he
      have HX12 := Lib.hid (HX11.out.trans hy)
      refine hK _ _ (RB.ext hy) ?_
      clear hK K hy
      clear gf gn gk gx
      have gf := HB9.out.keepR HX12.out
      have gn := HN9.out.keepR HX12.out
      have gk := HK9.out.keepR HX12.out
      have gx := HQ9.out.keepR HX12.out
      refine WRi_at 13 ?_
      iterate 3
        refine WRi_q (preRB _) rfl (by decide) (by kernel_rfl) rfl ?_; apply Exists.intro; refine ⟨fun w1 hx1 => ?_, ?_⟩
        · go_simp; try go_bits
          first | with_reducible rfl | rfl
        simp only [Act.put, List.setIfInBounds_toArray, List.set_cons_zero, List.set_cons_succ, Nat.reduceAdd]
      refine WRi_out ?_
      refine WR_q (preRB _) 17 rfl (by decide) (by kernel_rfl) rfl ?_; apply Exists.intro; refine ⟨fun w1 hx1 => ?_, ?_⟩
      · go_simp; try go_bits
        first | with_reducible rfl | rfl
      simp only [Act.put, List.setIfInBounds_toArray, List.set_cons_zero, List.set_cons_succ]
      refine WR_q (preRB _) 19 rfl (by decide) (by kernel_rfl) rfl ?_; apply Exists.intro; refine ⟨fun w1 hx1 => ?_, ?_⟩
      · go_simp; try go_bits
        first | with_reducible rfl | rfl
      simp only [Act.put, List.setIfInBounds_toArray, List.set_cons_zero, List.set_cons_succ]
      refine WR_one 16 rfl (by decide) (by kernel_rfl) rfl (fun K hK => ?_)
      go_simp
      (with_reducible refine (few20_any _ ls _ (HL0.out.later HX12.out)).mono ?_)
      rintro e w13 ⟨v13, he, hF, hy⟩
      subst he
      have HFW := Lib.hid hF
      have HX13 := Lib.hid (HX12.out.trans hy)
      refine hK _ _ (RB.ext hy) ?_
      clear hK K hF hy
      clear gf gn gk gx
      have gf := HB9.out.keepR HX13.out
      have gn := HN9.out.keepR HX13.out
      have gk := HK9.out.keepR HX13.out
      have gx := HQ9.out.keepR HX13.out
      refine WR_one 18 rfl (by decide) (by kernel_rfl) rfl (fun K hK => ?_)
      go_simp
      (with_reducible refine (short20_any _ _ c _ (HC0.out.later HX13.out)).mono ?_)
      rintro e w14 ⟨pvB, tvB, cB, he, hCB, hSB, hy⟩
      subst he
      have HCB := Lib.hid hCB
      have HIB := Lib.hid (hSB.in_tr HTR.out)
      have HZ14 := Lib.hid hy
      have HX14 := Lib.hid (HX13.out.trans hy)
      refine hK _ _ (RB.ext hy) ?_
      clear hK K hCB hSB hy
      clear gf gn gk gx
      have gf := HB9.out.keepR HX14.out
      have gn := HN9.out.keepR HX14.out
      have gk := HK9.out.keepR HX14.out
      have gx := HQ9.out.keepR HX14.out
      refine WR_one 20 rfl (by decide) (by kernel_rfl) rfl (fun K hK => ?_)
      go_simp
      (with_reducible refine (sound_any _ _ _ (fewN ls) cB a _ (HFW.out.later HZ14.out) HFO.out HFS.out HCB.out HIB.out).mono ?_)
      rintro e w15 ⟨he, hy⟩
      subst he
      have HX15 := Lib.hid (HX14.out.trans hy)
      refine hK _ _ (RB.ext hy) ?_
      clear hK K hy
      clear gf gn gk gx
      have gf := HB9.out.keepR HX15.out
      have gn := HN9.out.keepR HX15.out
      have gk := HK9.out.keepR HX15.out
      have gx := HQ9.out.keepR HX15.out
      refine WR_q (preRB _) 21 rfl (by decide) (by kernel_rfl) rfl ?_; apply Exists.intro; refine ⟨fun w1 hx1 => ?_, ?_⟩
      · go_simp; try go_bits
        first | with_reducible rfl | rfl
      simp only [Act.put, List.setIfInBounds_toArray, List.set_cons_zero, List.set_cons_succ]
      refine WR_done (by kernel_rfl) ?_
      (try simp only [List.drop_succ_cons, List.drop_zero])
      go_wp2_with fail
      go_ret
      exact ⟨rfl, HX4.out.trans (HXE.out.trans HX15.out)⟩
  · go_simp
    refine hK _ _ (RB.ext ((Ext.refl _).alloc _)) ?_
    clear hK K
    have HQA := Lib.hid (Blk.new w0 [I 0, .slice none 0 0, .int .u32 0, .slice none 0 0] 29)
    have HZA := Lib.hid ((Ext.refl w0).alloc (.cells #[I 0, .slice none 0 0, .int .u32 0, .slice none 0 0] 29))
    have HGE := Lib.hid (show W4.heap.size ≤ w0.heap.size from HX0.out.size)
    have HLTA := Lib.hid HQA.out.lt
    generalize (World.alloc w0 (.cells #[I 0, .slice none 0 0, .int .u32 0, .slice none 0 0] 29)) = wA at *
    generalize w0.heap.size = xc at *
    refine WR_one 1 rfl (by decide) (by kernel_rfl) rfl (fun K hK => ?_)
    go_simp
    (with_reducible refine (short20_any _ _ c _ (HC.out.later (HX4.out.trans (HX0.out.trans HZA.out)))).mono ?_)
    rintro e w5 ⟨pv5, tv5, c5, he, hC5, hS5, hx5⟩
    subst he
    have HC5 := Lib.hid hC5
    have HS5 := Lib.hid hS5
    have HZ5 := Lib.hid hx5
    have HX5 := Lib.hid ((HX0.out.trans HZA.out).trans hx5)
    refine hK _ _ (RB.ext hx5) ?_
    clear hK K hC5 hS5 hx5
    refine WR_one 5 rfl (by decide) (by kernel_rfl) rfl (fun K hK => ?_)
    go_simp
    (with_reducible refine (r17Fit_any _ _ c5 N.length _ HC5.out (HS5.out.in_tr HTR.out) (HS5.out.in_ranks HRK.out) HS5.out.cap ⟨hN.1, Nat.le_trans hN.2 (by decide)⟩).mono ?_)
    rintro e w8 ⟨pv8, tv8, c8, he, hO, hm, hI, hv, hx8⟩
    subst he
    obtain ⟨pb, pbc, hpv, -, -, -⟩ := hO.at.parts.form
    obtain ⟨tb, tbc, htv, -, -, -⟩ := hO.at.tr.form
    subst hpv htv
    have HO8 := Lib.hid hO
    have HI8 := Lib.hid hI
    have HZ8 := Lib.hid hx8
    have HX8 := Lib.hid (HX5.out.trans hx8)
    refine hK _ _ (RB.ext hx8) ?_
    clear hK K hO hm hI hv hx8
    have HQ8 := Lib.hid (HQA.out.later (HZ5.out.trans HZ8.out))
    have HLT8 := Lib.hid (show xc < _ from Nat.lt_of_lt_of_le HLTA.out HZ5.out.size)
    have HLE := Lib.hid (fun (o : Nat) (A : World) (u : Value) (h : Ext W4 A) => h.setCell (p := ⟨xc, o, none⟩) HGE.out u)
    have hqc := HQ8.out.cells
    have hqf := HQ8.out.frozen
    refine WR_done (by kernel_rfl) ?_
    (try simp only [List.drop_succ_cons, List.drop_zero])
    go_upto_region 4 with fail
    refine hideW (Φ := fun W => Code.wp _ _ _ _ W) (fun W => Ext W4 W ∧ Blk W xc [I c8.vd, .slice pb c8.ps.length pbc, U c8.dest, .slice tb c8.tr.length tbc] 29 ∧ CertAt W (.slice pb c8.ps.length pbc) (.slice tb c8.tr.length tbc) c8)
      ⟨HLE.out _ _ _ (HLE.out _ _ _ (HLE.out _ _ _ (HLE.out _ _ _ HX8.out))), (((HQ8.out.set 0 _).set 1 _).set 2 _).set 3 _, ((((HO8.out.setCell HLT8.out _).setCell HLT8.out _).setCell HLT8.out _).setCell HLT8.out _).at⟩ (fun W9 hW9 => ?_)
    obtain ⟨hx9, hb9, hc9⟩ := hW9
    have HQ9 := Lib.hid hb9
    have HC9 := Lib.hid hc9
    have HXE := Lib.hid hx9
    clear hx9 hb9 hc9 hqc hqf HO8 HX8 HZ8 HX5 HC5 HS5 HZ5 HX0 HQ8 HLE HQA HZA HGE HLTA HLT8
    have HF9 := Lib.hid (HF4.out.later HXE.out)
    have HC0 := Lib.hid (HC.out.later (HX4.out.trans HXE.out))
    have HL0 := Lib.hid (HL.out.later (HX4.out.trans HXE.out))
    have HB9 := Lib.hid (HB4.out.later HXE.out)
    have HN9 := Lib.hid (HBN.out.later HXE.out)
    have HK9 := Lib.hid (HKB.out.later HXE.out)
    refine wp_region_R (RB (W9.heap.size)) 22 rfl (by kernel_rfl) (by kernel_rfl) (fun wz hxz => ?_)
    have HXZ := Lib.hid hxz
    clear hxz
    have gf := HB9.out.keepR HXZ.out
    have gn := HN9.out.keepR HXZ.out
    have gk := HK9.out.keepR HXZ.out
    have gx := HQ9.out.keepR HXZ.out
    refine WRi_at 0 ?_
    iterate 5
      refine WRi_q (preRB _) rfl (by decide) (by kernel_rfl) rfl ?_; apply Exists.intro; refine ⟨fun w1 hx1 => ?_, ?_⟩
      · go_simp; try go_bits
        first | with_reducible rfl | rfl
      simp only [Act.put, List.setIfInBounds_toArray, List.set_cons_zero, List.set_cons_succ, Nat.reduceAdd]
    refine WRi_out ?_
    refine WR_one 5 rfl (by decide) (by kernel_rfl) rfl (fun K hK => ?_)
    go_simp
    (with_reducible refine (sound_any _ _ _ N c8 a _ (HF9.out.later HXZ.out) HNO.out HNS1.out (HC9.out.later HXZ.out) HI8.out).mono ?_)
    rintro e w10 ⟨he, hy⟩
    subst he
    have HX10 := Lib.hid (HXZ.out.trans hy)
    refine hK _ _ (RB.ext hy) ?_
    clear hK K hy
    clear gf gn gk gx
    have gf := HB9.out.keepR HX10.out
    have gn := HN9.out.keepR HX10.out
    have gk := HK9.out.keepR HX10.out
    have gx := HQ9.out.keepR HX10.out
    refine WRi_at 6 ?_
    iterate 4
      refine WRi_q (preRB _) rfl (by decide) (by kernel_rfl) rfl ?_; apply Exists.intro; refine ⟨fun w1 hx1 => ?_, ?_⟩
      · go_simp; try go_bits
        first | with_reducible rfl | rfl
      simp only [Act.put, List.setIfInBounds_toArray, List.set_cons_zero, List.set_cons_succ, Nat.reduceAdd]
    refine WRi_out ?_
    refine WR_q (preRB _) 11 rfl (by decide) (by kernel_rfl) rfl ?_; apply Exists.intro; refine ⟨fun w1 hx1 => ?_, ?_⟩
    · go_simp; try go_bits
      first | with_reducible rfl | rfl
    simp only [Act.put, List.setIfInBounds_toArray, List.set_cons_zero, List.set_cons_succ]
    refine WR_one 10 rfl (by decide) (by kernel_rfl) rfl (fun K hK => ?_)
    go_simp
    (with_reducible refine (short20_any _ _ c _ (HC0.out.later HX10.out)).mono ?_)
    rintro e w11 ⟨pvA, tvA, cA, he, hCA, hSA, hy⟩
    subst he
    have HCA := Lib.hid hCA
    have HIA := Lib.hid (hSA.in_tr HTR.out)
    have HX11 := Lib.hid (HX10.out.trans hy)
    refine hK _ _ (RB.ext hy) ?_
    clear hK K hCA hSA hy
    clear gf gn gk gx
    have gf := HB9.out.keepR HX11.out
    have gn := HN9.out.keepR HX11.out
    have gk := HK9.out.keepR HX11.out
    have gx := HQ9.out.keepR HX11.out
    refine WR_one 12 rfl (by decide) (by kernel_rfl) rfl (fun K hK => ?_)
    go_simp
    (with_reducible refine (sound_any _ _ _ N cA a _ (HF9.out.later HX11.out) HNO.out HNS1.out HCA.out HIA.out).mono ?_)
    rintro e w12 ⟨he, hy⟩
    subst he
    have HX12 := Lib.hid (HX11.out.trans hy)
    refine hK _ _ (RB.ext hy) ?_
    clear hK K hy
    clear gf gn gk gx
    have gf := HB9.out.keepR HX12.out
    have gn := HN9.out.keepR HX12.out
    have gk := HK9.out.keepR HX12.out
    have gx := HQ9.out.keepR HX12.out
    refine WRi_at 13 ?_
    iterate 3
      refine WRi_q (preRB _) rfl (by decide) (by kernel_rfl) rfl ?_; apply Exists.intro; refine ⟨fun w1 hx1 => ?_, ?_⟩
      · go_simp; try go_bits
        first | with_reducible rfl | rfl
      simp only [Act.put, List.setIfInBounds_toArray, List.set_cons_zero, List.set_cons_succ, Nat.reduceAdd]
    refine WRi_out ?_
    refine WR_q (preRB _) 17 rfl (by decide) (by kernel_rfl) rfl ?_; apply Exists.intro; refine ⟨fun w1 hx1 => ?_, ?_⟩
    · go_simp; try go_bits
      first | with_reducible rfl | rfl
    simp only [Act.put, List.setIfInBounds_toArray, List.set_cons_zero, List.set_cons_succ]
    refine WR_q (preRB _) 19 rfl (by decide) (by kernel_rfl) rfl ?_; apply Exists.intro; refine ⟨fun w1 hx1 => ?_, ?_⟩
    · go_simp; try go_bits
      first | with_reducible rfl | rfl
    simp only [Act.put, List.setIfInBounds_toArray, List.set_cons_zero, List.set_cons_succ]
    refine WR_one 16 rfl (by decide) (by kernel_rfl) rfl (fun K hK => ?_)
    go_simp
    (with_reducible refine (few20_any _ ls _ (HL0.out.later HX12.out)).mono ?_)
    rintro e w13 ⟨v13, he, hF, hy⟩
    subst he
    have HFW := Lib.hid hF
    have HX13 := Lib.hid (HX12.out.trans hy)
    refine hK _ _ (RB.ext hy) ?_
    clear hK K hF hy
    clear gf gn gk gx
    have gf := HB9.out.keepR HX13.out
    have gn := HN9.out.keepR HX13.out
    have gk := HK9.out.keepR HX13.out
    have gx := HQ9.out.keepR HX13.out
    refine WR_one 18 rfl (by decide) (by kernel_rfl) rfl (fun K hK => ?_)
    go_simp
    (with_reducible refine (short20_any _ _ c _ (HC0.out.later HX13.out)).mono ?_)
    rintro e w14 ⟨pvB, tvB, cB, he, hCB, hSB, hy⟩
    subst he
    have HCB := Lib.hid hCB
    have HIB := Lib.hid (hSB.in_tr HTR.out)
    have HZ14 := Lib.hid hy
    have HX14 := Lib.hid (HX13.out.trans hy)
    refine hK _ _ (RB.ext hy) ?_
    clear hK K hCB hSB hy
    clear gf gn gk gx
    have gf := HB9.out.keepR HX14.out
    have gn := HN9.out.keepR HX14.out
    have gk := HK9.out.keepR HX14.out
    have gx := HQ9.out.keepR HX14.out
    refine WR_one 20 rfl (by decide) (by kernel_rfl) rfl (fun K hK => ?_)
    go_simp
    (with_reducible refine (sound_any _ _ _ (fewN ls) cB a _ (HFW.out.later HZ14.out) HFO.out HFS.out HCB.out HIB.out).mono ?_)
    rintro e w15 ⟨he, hy⟩
    subst he
    have HX15 := Lib.hid (HX14.out.trans hy)
    refine hK _ _ (RB.ext hy) ?_
    clear hK K hy
    clear gf gn gk gx
    have gf := HB9.out.keepR HX15.out
    have gn := HN9.out.keepR HX15.out
    have gk := HK9.out.keepR HX15.out
    have gx := HQ9.out.keepR HX15.out
    refine WR_q (preRB _) 21 rfl (by decide) (by kernel_rfl) rfl ?_; apply Exists.intro; refine ⟨fun w1 hx1 => ?_, ?_⟩
    · go_simp; try go_bits
      first | with_reducible rfl | rfl
    simp only [Act.put, List.setIfInBounds_toArray, List.set_cons_zero, List.set_cons_succ]
    refine WR_done (by kernel_rfl) ?_
    (try simp only [List.drop_succ_cons, List.drop_zero])
    go_wp2_with fail
    go_ret
    exact ⟨rfl, HX4.out.trans (HXE.out.trans HX15.out)⟩
end Go.Proofs.Ytpfkfboohblgoaa
