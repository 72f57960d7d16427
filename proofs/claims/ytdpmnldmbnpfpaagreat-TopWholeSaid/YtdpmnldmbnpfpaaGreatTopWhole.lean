/- The law TopWhole: the certificate of each network that may be is accepted, through its bytes, and by itself; with LoopFree just if no address goes round. Conditions: whole numbers are within 64 bits. -/
import Derived.Test.YtdpmnldmbnpfpaaGreatGTop
import Derived.Test.YtdpmnldmbnpfpaaGreatGRnd
import Derived.Test.YtdpmnldmbnpfpaaGreatCSameW
import Derived.Test.YtdpmnldmbnpfpaaGreatGNetP
import Derived.Test.YtdpmnldmbnpfpaaGreatOfOwn
namespace Go.Proofs.YtdpmnldmbnpfpaaGreat
open Go Go.RowKit Go.Maps Go.Proofs

/-- Whether one of the first k addresses goes round. -/
def AnyR (ls : List (List Rul)) (l : List (BitVec 32)) (k : Nat) (b : Bool) : Prop := b = true ↔ ∃ j, ∃ h : j < l.length, j < k ∧ ∃ x, OnL (vecV ls l[j]) x
theorem AnyR.start (ls : List (List Rul)) (l : List (BitVec 32)) : AnyR ls l 0 false := ⟨fun h => (by cases h), fun ⟨j, _, h, _⟩ => absurd h (Nat.not_lt_zero j)⟩
theorem AnyR.yes {ls : List (List Rul)} {l : List (BitVec 32)} {k : Nat} (h : AnyR ls l k true) : AnyR ls l (k + 1) true := ⟨fun _ => let ⟨j, h1, h2, h3⟩ := h.1 rfl; ⟨j, h1, by omega, h3⟩, fun _ => rfl⟩
theorem AnyR.next {ls : List (List Rul)} {l : List (BitVec 32)} {k : Nat} (h : AnyR ls l k false) (hk : k < l.length) {b : Bool} (hb : b = true ↔ ∃ x, OnL (vecV ls l[k]) x) : AnyR ls l (k + 1) b := by
 refine ⟨fun e => ⟨k, hk, Nat.lt_succ_self k, hb.1 e⟩, fun ⟨j, h1, h2, h3⟩ => ?_⟩
 rcases Nat.lt_or_ge j k with g | g
 · have := h.2 ⟨j, h1, g, h3⟩; cases this
 · obtain rfl : j = k := by omega
   exact hb.2 h3
theorem AnyR.done {ls : List (List Rul)} {l : List (BitVec 32)} {t : List (BitVec 32)} {b : Bool} {c : Crt} (h : AnyR ls (l ++ t) (l ++ t).length b) (hC : Cuts ls.flatten l) (hA : AnaIs ls c) : c.vd = 1 ∧ b = false ∨ c.vd = 2 ∧ b = true := by
 rcases hA.at hC with ⟨i, hL⟩ | hF
 · obtain ⟨k, hk, x, hx⟩ := ana_some hC hL
   refine .inr ⟨hL.vd, h.2 ⟨k, by rw [List.length_append]; omega, by rw [List.length_append]; omega, x, ?_⟩⟩
   rw [List.getElem_append_left hk]
   exact hx
 · refine .inl ⟨hF.vd, ?_⟩
   cases b with
   | false => rfl
   | true =>
     obtain ⟨j, h1, _, x, hx⟩ := h.1 rfl
     exact absurd hx (ana_none hC hF _ x)
theorem cell_ltW {w : World} {p : Addr} {v : Value} (h : w.cell? p = some v) : p.block < w.heap.size := by
 rcases Nat.lt_or_ge p.block w.heap.size with g | g
 · exact g
 · simp [World.cell?, Array.getElem?_eq_none g] at h
set_option maxHeartbeats 8000000 in
set_option maxRecDepth 100000 in
theorem topWhole_any (lv : Value) (ls : List (List Rul)) (x1 y1 : BitVec 32) (w : World) (hl : TablesAt w lv ls) (hok : TablesOk ls) :
 Calls Tryz.prog 3 #[.agg #[lv], .agg #[U x1, U y1]] w fun e w' => e = .returned (.bool true) ∧ Ext w w' := by
 have HL := Lib.hid hl
 have HOK := Lib.hid hok
 obtain ⟨ad, cap, hlv, a1, a2, a3⟩ := hl.form
 subst hlv
 clear a3 hl hok
 unfold maxLen at a2
 go_enter Tryz.func3, Tryz.ntmps3
 go_upto_region 1 with (fail)
 refine hideW (Φ := fun W => Code.wp _ _ _ _ W) (fun W => Ext w W ∧ Blk W w.heap.size [.slice ad ls.length cap] 24 ∧ Blk W (w.heap.size + 1) [U x1, U y1] 26)
  ⟨by (repeat (first | with_reducible exact Ext.refl _ | with_reducible assumption | with_reducible refine Ext.alloc ?_ _ | with_reducible refine Ext.drew ?_ | with_reducible refine Ext.drewN ?_ _ | (with_reducible refine Ext.setCellP ?_ ?_; focus (first | (simp; done) | (simp; omega) | omega)))), ((Blk.new w [.slice ad ls.length cap] 24).old _), (Blk.newAt [U x1, U y1] (by simp))⟩ (fun W1 hW1 => ?_)
 obtain ⟨hx1, hb1, hk0⟩ := hW1
 have HX1 := Lib.hid hx1
 have HB1 := Lib.hid hb1
 have HK1_0 := Lib.hid hk0
 clear hx1 hb1 hk0
 generalize w.heap.size + 1 = kb0 at *
 generalize w.heap.size = nb at *
 go_upto_region 2 with (first
  | (go_at_call 6; (with_reducible refine (shownTop_any _).mono ?_); rintro e w2 ⟨rfl, hx2⟩; have HX2 := Lib.hid (HX1.out.trans hx2); have HB2 := Lib.hid (HB1.out.later hx2); have HK2_0 := Lib.hid (HK1_0.out.later hx2); clear hx2))
 have hbc2 := HB2.out.cells
 have HNM := Lib.hid (fitN_may ls)
 have HNS := Lib.hid (fitN_size ls)
 have HNO := Lib.hid (fitN_ok ls)
 have HN20 := Lib.hid (@fitN_short ls)
 have hN := fitN_bd ls
 go_upto_region 3 with (first
  | (go_at_call 7; (with_reducible refine (r09Fit_any _ ls _ (HL.out.later HX2.out) HOK.out).mono ?_); rintro e w3 ⟨v3, he, hF, hx3⟩; subst he; have HF3 := Lib.hid hF.tables; obtain ⟨va, vcap, hv3, q1, q2, q3⟩ := HF3.out.form; subst hv3; clear q3; have HX3 := Lib.hid (HX2.out.trans hx3); have HK3_0 := Lib.hid (HK2_0.out.later hx3); clear hF hx3))
 generalize fitN ls = N at *
 clear hbc2 HB2 HB1 HK1_0 HK2_0
 unfold maxLen at q2
 refine hideW (Φ := fun W => Code.wp _ _ _ _ W) (fun W => Ext w3 W ∧ Blk W w3.heap.size [.slice va N.length vcap] 24)
  ⟨by (repeat (first | with_reducible exact Ext.refl _ | with_reducible assumption | with_reducible refine Ext.alloc ?_ _ | with_reducible refine Ext.drew ?_ | with_reducible refine Ext.drewN ?_ _ | (with_reducible refine Ext.setCellP ?_ ?_; focus (first | (simp; done) | (simp; omega) | omega)))), Blk.new w3 [.slice va N.length vcap] 24⟩ (fun W4 hW4 => ?_)
 obtain ⟨hx4, hb4⟩ := hW4
 have HX4 := Lib.hid (HX3.out.trans hx4)
 have HF4 := Lib.hid (HF3.out.later hx4)
 have HB4 := Lib.hid hb4
 have HK4_0 := Lib.hid (HK3_0.out.later hx4)
 have hbc4 := hb4.cells
 clear hx4 hb4 HF3 HX3 HX1 HX2 HK3_0
 generalize w3.heap.size = fb at *
 have HTN := Lib.hid (netTake_put HNM.out)
 have HLN := Lib.hid (netB_len HNM.out)
 have HNL := Lib.hid (netMay_tabs HNM.out).1
 have HPN := Lib.hid (netfilePut_any _ N W4 HF4.out HNO.out HNM.out)
 generalize netPut N = FN at *
 go_upto_region 4 with (first
  | (go_at_call 8; (with_reducible refine HPN.out.mono ?_); rintro e w5 ⟨u5, he, ho, hx⟩; obtain ⟨ua, uc, hue⟩ := ho.form; subst hue; subst he; have HX5 := Lib.hid hx; have HP5 := Lib.hid ho.bs; clear hx ho hbc4))
 go_upto_region 5 with (first
  | (go_at_call 9; (with_reducible refine (toolAnalyze_any _ FN _ HP5.out HLN.out).mono ?_); rintro e w6 ⟨h1, hx⟩; rw [HTN.out] at h1; obtain ⟨c, u6, ha, hl6, hm6, he, ho⟩ := h1; obtain ⟨ca, cc, hue⟩ := ho.form; subst hue; subst he; have HX6 := Lib.hid (HX5.out.trans hx); have HP6 := Lib.hid (HP5.out.later hx); have HC6 := Lib.hid ho.bs; have HA := Lib.hid ha; have HAM := Lib.hid (And.intro hl6 hm6); clear hx ho ha hl6 hm6))
 have HLC := Lib.hid (certP_len HNL.out HAM.out.1 HAM.out.2)
 obtain ⟨d, hct, hcq⟩ := certTake_put HNL.out HAM.out.1 HAM.out.2
 have HCT := Lib.hid hct
 have HCQ := Lib.hid hcq
 have HCK := Lib.hid (show chkV FN (certPut c N.length) = (c.vd, 0) by rw [chk_good HTN.out hct rfl, ansV_congr hcq, (ana_holds HNM.out (cutL_is N) HA.out).2])
 clear hct hcq
 generalize certPut c N.length = CN at *
 have hbc := (HB4.out.later HX6.out).cells
 go_upto_region 6 with (first
  | (go_at_call 10; (with_reducible refine (aNet_good _ N _ (HF4.out.later HX6.out) HNO.out HNM.out).mono ?_); rintro e w7 ⟨pv, tv, c2, he, hc, ha, hx⟩; subst he; have HC7 := Lib.hid hc; have HA2 := Lib.hid ha; obtain ⟨pa, pc, hpe, p1, p2, -⟩ := hc.parts.form; subst hpe; obtain ⟨ta, tc, hte, t1, t2, -⟩ := hc.tr.form; subst hte; have HX7 := Lib.hid (HX6.out.trans hx); have HP7 := Lib.hid (HP6.out.later hx); have HY7 := Lib.hid (HC6.out.later hx); clear hx hc ha hbc))
 refine hideW (Φ := fun W => Code.wp _ _ _ _ W) (fun W => Ext w7 W ∧ Blk W w7.heap.size [I c2.vd, .slice pa c2.ps.length pc, U c2.dest, .slice ta c2.tr.length tc] 37)
  ⟨(Ext.refl _).alloc _, Blk.new w7 [I c2.vd, .slice pa c2.ps.length pc, U c2.dest, .slice ta c2.tr.length tc] 37⟩ (fun W8 hW8 => ?_)
 obtain ⟨hx8, hk8⟩ := hW8
 have HC8 := Lib.hid (HC7.out.later hx8)
 have HX8 := Lib.hid (HX7.out.trans hx8)
 have HK8 := Lib.hid hk8
 have HP8 := Lib.hid (HP7.out.later hx8)
 have HY8 := Lib.hid (HY7.out.later hx8)
 clear hx8 hk8 HC7 HX7 HP7 HY7
 generalize w7.heap.size = kb at *
 have HTK := Lib.hid (fun W (h : BsAt W _ CN) => certfileTake_any (.slice ca CN.length cc) CN W h (by have := HLC.out; omega))
 go_upto_region 7 with (first
  | (go_at_call 11; (with_reducible refine (HTK.out _ HY8.out).mono ?_); rintro e w9 ⟨h1, hx⟩; rw [HCT.out] at h1; obtain ⟨pv, tv, c4, he, hc4, hq4⟩ := h1; obtain ⟨qa, qc, hpe, -⟩ := hc4.parts.form; obtain ⟨sa, sc, hte, -⟩ := hc4.tr.form; subst hpe; subst hte; subst he; have HX9 := Lib.hid (HX8.out.trans hx); have HXR := Lib.hid hx; have HP9 := Lib.hid (HP8.out.later hx); have HY9 := Lib.hid (HY8.out.later hx); have HC9 := Lib.hid hc4; have HQ9 := Lib.hid (hq4.trans HCQ.out); clear hx hc4 hq4))
 refine hideW (Φ := fun W => Code.wp _ _ _ _ W) (fun W => Ext w9 W ∧ Blk W w9.heap.size [I c4.vd, .slice qa c4.ps.length qc, U c4.dest, .slice sa c4.tr.length sc] 37)
  ⟨(Ext.refl _).alloc _, Blk.new w9 [I c4.vd, .slice qa c4.ps.length qc, U c4.dest, .slice sa c4.tr.length sc] 37⟩ (fun WA hWA => ?_)
 obtain ⟨hxa, hka⟩ := hWA
 have HXA := Lib.hid (HX9.out.trans hxa)
 have HX8A := Lib.hid (HXR.out.trans hxa)
 have HPA := Lib.hid (HP9.out.later hxa)
 have HYA := Lib.hid (HY9.out.later hxa)
 have HCA := Lib.hid (HC9.out.later hxa)
 have HKA := Lib.hid hka
 clear hxa hka HX9 HP9 HY9 HC9 HXR
 generalize w9.heap.size = xb at *
 have HCH := Lib.hid (toolCheck_any _ _ FN CN WA HPA.out HLN.out HYA.out (by have := HLC.out; omega))
 have HEQ := Lib.hid (HA2.out.one HA.out)
 rw [HCK.out, ← HEQ.out.vd] at HCH
 go_upto_region 8 with (first
  | (go_at_call 12; (with_reducible refine HCH.out.mono ?_); rintro e wb ⟨he, hx⟩; subst he; have HXB := Lib.hid (HXA.out.trans hx); have HXR := Lib.hid hx; clear hx))
 refine hideW (Φ := fun W => Code.wp _ _ _ _ W) (fun W => Ext wb W ∧ Blk W wb.heap.size [I c2.vd, I 0] 43)
  ⟨(Ext.refl _).alloc _, Blk.new wb [I c2.vd, I 0] 43⟩ (fun WC hWC => ?_)
 obtain ⟨hxc, hac⟩ := hWC
 have HXC := Lib.hid (HXB.out.trans hxc)
 have HXAC := Lib.hid (HXR.out.trans hxc)
 have HX8C := Lib.hid (HX8A.out.trans HXAC.out)
 have HAC := Lib.hid hac
 clear hxc hac HXB HXR HCH
 generalize wb.heap.size = ab at *
 have HFC := Lib.hid (HF4.out.later HXC.out)
 have HKC := Lib.hid (HK8.out.later HX8C.out)
 have HKAC := Lib.hid (HKA.out.later HXAC.out)
 have HBC := Lib.hid (HB4.out.later HXC.out)
 have HSAME := Lib.hid (fun W (h : Ext WC W) => (certSame_any _ _ _ _ c2 c4 W (HC8.out.later (HX8C.out.trans h)) (HCA.out.later (HXAC.out.trans h))).mono (R' := fun e w' => e = .returned (.bool true) ∧ Ext W w') (by
  rintro e w' ⟨⟨b, he, hb⟩, hx⟩
  have hbt : b = true := hb.2 (HEQ.out.trans HQ9.out.symm)
  rw [hbt] at he
  exact ⟨he, hx⟩))
 have HIN := Lib.hid (may_in64 (ana_holds HNM.out (cutL_is N) HA2.out).1 HNL.out)
 have HNZ0 := Lib.hid (Nat.le_trans HNS.out (by decide : 160 ≤ 10000000))
 have HNET := Lib.hid (fun W (h : Ext WC W) => (checkNet_any _ _ _ N c2 (cutL N) W (HFC.out.later h) HNO.out HNZ0.out (cutL_is N) (HC8.out.later (HX8C.out.trans h)) HIN.out).mono (R' := fun e w' => e = .returned (.agg #[I c2.vd, I 0]) ∧ Ext W w') (by
  rintro e w' ⟨he, hx⟩
  rw [(ana_holds HNM.out (cutL_is N) HA2.out).2] at he
  exact ⟨he, hx⟩))
 have hbk := HBC.out.keep
 have hkk := HKC.out.keep
 have hxk := HKAC.out.keep
 have hak := HAC.out.keep
 have hvv : (c2.vd != c2.vd) = false := bne_self_eq_false' _
 refine wp_region_E 42 rfl (by kernel_rfl) (by kernel_rfl) ?_
 refine WEi_at 0 ?_
 iterate 28
  refine WEi_q rfl (by decide) (by kernel_rfl) rfl ?_; apply Exists.intro; refine ⟨fun w1 hx1 => ?_, ?_⟩
  · have hq1 := hx1.cells; go_simp; try go_bits
    first | with_reducible rfl
  simp only [Act.put, List.setIfInBounds_toArray, List.set_cons_zero, List.set_cons_succ, Nat.reduceAdd]
 refine WEi_out ?_
 refine WE_q 28 rfl (by decide) (by kernel_rfl) rfl ?_; apply Exists.intro; refine ⟨fun w1 hx1 => ?_, ?_⟩
 · have hq1 := hx1.cells; go_simp; try go_bits
   first | with_reducible rfl | ((refine (HSAME.out _ hx1).mono ?_; rintro e w' ⟨rfl, hx⟩; exact ⟨rfl, hx⟩))
 simp only [Act.put, List.setIfInBounds_toArray, List.set_cons_zero, List.set_cons_succ]
 refine WEi_at 29 ?_
 iterate 5
  refine WEi_q rfl (by decide) (by kernel_rfl) rfl ?_; apply Exists.intro; refine ⟨fun w1 hx1 => ?_, ?_⟩
  · have hq1 := hx1.cells; go_simp; try go_bits
    first | with_reducible rfl
  simp only [Act.put, List.setIfInBounds_toArray, List.set_cons_zero, List.set_cons_succ, Nat.reduceAdd]
 refine WEi_out ?_
 refine WE_q 34 rfl (by decide) (by kernel_rfl) rfl ?_; apply Exists.intro; refine ⟨fun w1 hx1 => ?_, ?_⟩
 · have hq1 := hx1.cells; go_simp; try go_bits
   first | with_reducible rfl | ((refine (HNET.out _ hx1).mono ?_; rintro e w' ⟨rfl, hx⟩; exact ⟨rfl, hx⟩))
 simp only [Act.put, List.setIfInBounds_toArray, List.set_cons_zero, List.set_cons_succ]
 refine WEi_at 35 ?_
 iterate 7
  refine WEi_q rfl (by decide) (by kernel_rfl) rfl ?_; apply Exists.intro; refine ⟨fun w1 hx1 => ?_, ?_⟩
  · have hq1 := hx1.cells; go_simp; try go_bits
    first | with_reducible rfl
  simp only [Act.put, List.setIfInBounds_toArray, List.set_cons_zero, List.set_cons_succ, Nat.reduceAdd]
 refine WEi_out ?_
 refine WE_done (by kernel_rfl) (fun wd hxd => ?_)
 (try simp only [List.drop_succ_cons, List.drop_zero])
 have HXD := Lib.hid (HXC.out.trans hxd)
 have HXCD := Lib.hid hxd
 clear hbk hkk hxk hak hxd HSAME HNET
 go_upto_region 11 with fail
 refine wp_region_R (RB (wd.heap.size)) 8 rfl (by kernel_rfl) (by kernel_rfl) (fun wz hxz => ?_)
 have HZ := Lib.hid hxz
 have hsz : wd.heap.size ≤ wz.heap.size := hxz.size
 have HSZ := Lib.hid hsz
 have HK4 := Lib.hid (HK4_0.out.later HXD.out)
 have HBD := Lib.hid (HBC.out.later HXCD.out)
 have g0 := RB.keep hsz HBD.out.lt ((HBD.out.later hxz).cells 0)
 have c0 := RB.keep hsz HK4.out.lt ((HK4.out.later hxz).cells 0)
 have c1 := RB.keep hsz HK4.out.lt ((HK4.out.later hxz).cells 1)
 clear hxz hsz
 refine WR_q (preRB _) 0 rfl (by decide) (by kernel_rfl) rfl ?_; apply Exists.intro; refine ⟨fun w1 hx1 => ?_, ?_⟩
 · go_simp; try go_bits
   first | with_reducible rfl | rfl
 simp only [Act.put, List.setIfInBounds_toArray, List.set_cons_zero, List.set_cons_succ]
 refine WRi_at 2 ?_
 iterate 4
  refine WRi_q (preRB _) rfl (by decide) (by kernel_rfl) rfl ?_; apply Exists.intro; refine ⟨fun w1 hx1 => ?_, ?_⟩
  · go_simp; try go_bits
    first | with_reducible rfl | rfl
  simp only [Act.put, List.setIfInBounds_toArray, List.set_cons_zero, List.set_cons_succ, Nat.reduceAdd]
 refine WRi_out ?_
 clear g0 c0 c1
 have HOF := Lib.hid (fun W (h : Ext wd W) => r12OfO_any _ N W (HFC.out.later (HXCD.out.trans h)) HNO.out HNZ0.out)
 refine WR_two 1 6 rfl rfl (by decide) (by decide) (by kernel_rfl) rfl rfl (fun K hK => ?_) (fun K hK => ?_)
 go_simp
 (with_reducible refine (HOF.out _ HZ.out).mono ?_)
 rintro e we ⟨v9, l, he, hO, hC, hx⟩
 obtain ⟨oa, oc, hof, -⟩ := hO.us.form
 subst hof
 subst he
 have HC := Lib.hid hC
 refine hK _ _ (RB.ext hx) ?_
 have HE := Lib.hid (HZ.out.trans hx)
 have HOA := Lib.hid (show OwnU (we.alloc (.cells #[U x1, U y1] 25)) wd.heap.size (.slice oa l.length oc) l from own_low (hO.later ((Ext.refl we).alloc _)) HSZ.out)
 clear hK K hx hO hC
 refine WR_one 6 rfl (by decide) (by kernel_rfl) rfl (fun K hK => ?_)
 go_simp
 refine hK _ _ (RB.ext ((Ext.refl _).alloc _)) ?_
 have HSRC := Lib.hid (Reads.made we 1 25 2 [U x1, U y1] rfl (by unfold maxLen; omega))
 have HXG := Lib.hid (HE.out.alloc (.cells #[U x1, U y1] 25))
 clear hK K
 rotate_left
 go_simp
 refine hK _ _ (RB.ext ((Ext.refl _).alloc _)) ?_
 clear hK K
 refine WR_one 1 rfl (by decide) (by kernel_rfl) rfl (fun K hK => ?_)
 go_simp
 (with_reducible refine (HOF.out _ (HZ.out.alloc _)).mono ?_)
 rintro e we ⟨v9, l, he, hO, hC, hx⟩
 obtain ⟨oa, oc, hof, -⟩ := hO.us.form
 subst hof
 subst he
 have HC := Lib.hid hC
 refine hK _ _ (RB.ext hx) ?_
 have HE := Lib.hid (HZ.out.trans (((Ext.refl wz).alloc (.cells #[U x1, U y1] 25)).trans hx))
 have HOA := Lib.hid (show OwnU we wd.heap.size (.slice oa l.length oc) l from own_low hO (Nat.le_trans HSZ.out ((Ext.refl wz).alloc (.cells #[U x1, U y1] 25)).size))
 have HSRC := Lib.hid (Reads.later (Reads.made wz 1 25 2 [U x1, U y1] rfl (by unfold maxLen; omega)) hx)
 have HXG := HE
 clear hK K hx hO hC
 all_goals
  have hll : l.length ≤ 321 := by have h1 := HC.out.len; have h2 := HNS.out; rw [sizeN_flat] at h1; omega
  have HLL := Lib.hid hll
  refine WR_one 7 rfl (by decide) (by kernel_rfl) rfl (fun K hK => ?_)
  refine wp_of_list (ops := #[]) rfl ?_
  refine wpList_app rfl (.tmp 91) (.tmp 96) 47 rfl wd.heap.size 25 _ 1 4 Tryz.underlying47 infoU32 rfl (by decide) (by decide) _ _ _ rfl HOA.out _ _ _ rfl HSRC.out (ucells_one [x1, y1]) (by omega) HXG.out.size ?_
  intro vf wf hof hgf
  refine ⟨rfl, hK _ _ (RB.below HXG.out.size (Below.grown (Below.refl _ _) hgf HXG.out.size fun q hq => (HOA.out.lt q hq).1)) ?_⟩
  have HXF := Lib.hid (Ext.grown HXG.out hgf HOA.out (Nat.le_refl _))
  have HOF2 := Lib.hid (show OwnU wf wd.heap.size vf (l ++ [x1, y1]) from by
   unfold OwnU
   rw [ucells_app, List.length_append]
   exact hof)
  clear hK K hof hgf HOA HSRC HXG HE HZ hll
  (try simp only [Act.put, List.setIfInBounds_toArray, List.set_cons_zero, List.set_cons_succ])
  have HLB := Lib.hid (show (l ++ [x1, y1]).length ≤ 400 by rw [List.length_append]; have := HLL.out; simp; omega)
  have HDN := Lib.hid (fun (b : Bool) (h : AnyR N (l ++ [x1, y1]) (l ++ [x1, y1]).length b) => h.done HC.out HA2.out)
  generalize l ++ [x1, y1] = L at *
  obtain ⟨fa, fc, hff, f1, f2, f3⟩ := HOF2.out.us.form
  subst hff
  have F3 := Lib.hid f3
  unfold maxLen at f2
  clear f3
  have hlb := HLB.out
  refine WR_done (by kernel_rfl) ?_
  (try simp only [List.drop_succ_cons, List.drop_zero])
  go_wp2_with fail
  go_loopw [17, 19] (fun f i wr => ∃ (k : Nat) (b : Bool), k ≤ L.length ∧ i = I k ∧ f = .bool b ∧ Hid (AnyR N L k b) ∧ Hid (Ext wf wr)) (fun _ i _ => L.length - (intOf i).toNat)
  case atStart => exact ⟨0, false, Nat.zero_le _, rfl, rfl, Lib.hid (AnyR.start _ _), Lib.hid (Ext.refl _)⟩
  case round =>
   obtain ⟨k, b, hk, rfl, rfl, HR, HX⟩ := hrel
   by_cases hlt : k < L.length
   · have HLT := Lib.hid hlt
     cases b with
     | true =>
       have HR2 := Lib.hid HR.out.yes
       go_upto_region 15 with fail
       go_region
       go_wp2_with fail
       go_roundw
       case rel => exact ⟨k + 1, true, Nat.succ_le_of_lt HLT.out, by go_num, rfl, HR2, Lib.hid HX.out.drew⟩
       case measure => have := HLT.out; simp [intOf]; omega
     | false =>
       obtain ⟨b1, o1, he1, hc1⟩ := F3.out k L[k] (List.getElem?_eq_getElem hlt)
       cases he1
       have HC1 := Lib.hid (HX.out.cell hc1)
       have HR2 := Lib.hid (fun b' => HR.out.next hlt (b := b'))
       generalize L[k] = y at *
       clear hc1
       go_upto_region 15 with fail
       refine wp_region_R (RB (wr.heap.size)) 9 rfl (by kernel_rfl) (by kernel_rfl) (fun wy hxy => ?_)
       have hsz : wr.heap.size ≤ wy.heap.size := hxy.size
       have HZ := Lib.hid hxy
       have HBX := Lib.hid (HBD.out.later (HXF.out.trans HX.out))
       have g0 := RB.keep hsz HBX.out.lt ((HBX.out.later hxy).cells 0)
       have g1 := RB.keep hsz (cell_ltW HC1.out) (hxy.cell HC1.out)
       clear hxy hsz
       refine WRi_at 0 ?_
       iterate 7
        refine WRi_q (preRB _) rfl (by decide) (by kernel_rfl) rfl ?_; apply Exists.intro; refine ⟨fun w1 hx1 => ?_, ?_⟩
        · go_simp; try go_bits
          first | with_reducible rfl | rfl
        simp only [Act.put, List.setIfInBounds_toArray, List.set_cons_zero, List.set_cons_succ, Nat.reduceAdd]
       refine WRi_out ?_
       clear g0 g1
       refine WR_one 7 rfl (by decide) (by kernel_rfl) rfl (fun K hK => ?_)
       go_simp
       (with_reducible refine (topRound_any _ N y _ (HFC.out.later (HXCD.out.trans (HXF.out.trans (HX.out.trans HZ.out)))) HNO.out HNM.out).mono ?_)
       rintro e wv ⟨⟨b', he, hb⟩, hx⟩
       subst he
       refine hK _ _ (RB.ext hx) ?_
       have HXV := Lib.hid (HX.out.trans (HZ.out.trans hx))
       have HR3 := Lib.hid (HR2.out b' hb)
       clear hK K hx hb
       refine WR_q (preRB _) 8 rfl (by decide) (by kernel_rfl) rfl ?_; apply Exists.intro; refine ⟨fun w1 hx1 => ?_, ?_⟩
       · go_simp; try go_bits
         first | with_reducible rfl | rfl
       simp only [Act.put, List.setIfInBounds_toArray, List.set_cons_zero, List.set_cons_succ]
       refine WR_done (by kernel_rfl) ?_
       (try simp only [List.drop_succ_cons, List.drop_zero])
       go_wp2_with fail
       go_roundw
       case rel => exact ⟨k + 1, b', Nat.succ_le_of_lt HLT.out, by go_num, rfl, HR3, HXV⟩
       case measure => have := HLT.out; simp [intOf]; omega
   · have HKE := Lib.hid (show k = L.length by omega)
     have HRD := HDN.out b (by rw [← HKE.out]; exact HR.out)
     have HAW := Lib.hid (HAC.out.later (HXCD.out.trans (HXF.out.trans HX.out)))
     have HXX := Lib.hid (HX4.out.trans (HXD.out.trans (HXF.out.trans HX.out)))
     rcases HRD with ⟨h1, h2⟩ | ⟨h1, h2⟩
     · subst h2
       rw [h1] at HAW
       have hac := HAW.out.cells
       go_wp2_with fail
       go_ret
       exact ⟨rfl, HXX.out⟩
     · subst h2
       rw [h1] at HAW
       have hac := HAW.out.cells
       go_wp2_with fail
       go_ret
       exact ⟨rfl, HXX.out⟩
end Go.Proofs.YtdpmnldmbnpfpaaGreat
