/- The law TopCodes: networks and certificates are taken as they were put; whatever is taken may be, and is put to the same bytes; and a certificate's bytes are no network's. Conditions: whole numbers are within 64 bits; no more ranks than the proved part takes. -/
import Derived.Test.YtdpmnldmbnpfpaaGreatGTop
import Derived.Test.YtdpmnldmbnpfpaaGreatCodesW
import Derived.Test.YtdpmnldmbnpfpaaGreatGFitC
import Derived.Test.YtdpmnldmbnpfpaaGreatGNetP
namespace Go.Proofs.YtdpmnldmbnpfpaaGreat
open Go Go.RowKit Go.Maps Go.Proofs

theorem netTake_cert (c : Crt) (n : Nat) : netTake (certPut c n) = .error 5 := by
 unfold netTake certPut
 rw [ftake_other (by decide : magC ≠ magN)]; rfl
theorem certTake_net (ls : List (List Rul)) : certTake (netPut ls) = .error 5 := by
 unfold certTake netPut
 rw [ftake_other (by decide : magN ≠ magC)]; rfl
/-- A row of bytes whose form is plain. -/
structure RowY (W : World) (v : Value) (l : List Byt) : Prop where
 bs : BsAt W v l
 form : ∃ a c, v = .slice a l.length c
 few : l.length <= 1000
set_option maxHeartbeats 16000000 in
set_option maxRecDepth 100000 in
theorem topCodes_any (lv pv tv v2 : Value) (ls : List (List Rul)) (c1 : Crt) (l2 : List Byt) (w : World) (hl : TablesAt w lv ls) (hok : TablesOk ls) (hc1 : CertAt w pv tv c1) (htr : ∀ x ∈ c1.tr, In64 x) (hrk : ∀ x ∈ ranksF c1.rks, In64 x)
 (hcap : (ranksF c1.rks).length <= 1000000000) (hy : BsAt w v2 l2) : Calls Tryz.prog 4 #[.agg #[lv], .agg #[I c1.vd, pv, U c1.dest, tv], v2] w fun e w' => e = .returned (.bool true) /\ Ext w w' := by
 have HC1 := Lib.hid hc1
 have HT1 := Lib.hid htr
 have HR1 := Lib.hid hrk
 have HCP := Lib.hid hcap
 have HY := Lib.hid hy
 obtain ⟨pa1, pc1, hpv, -⟩ := hc1.parts.form
 obtain ⟨ta1, tc1, htv, -⟩ := hc1.tr.form
 obtain ⟨ya1, yc1, hyv, -⟩ := hy.form
 subst hpv
 subst htv
 subst hyv
 clear hc1 htr hrk hcap hy
 have HL := Lib.hid hl
 have HOK := Lib.hid hok
 obtain ⟨ad, cap, hlv, a1, a2, a3⟩ := hl.form
 subst hlv
 clear a3 hl hok
 unfold maxLen at a2
 go_enter Tryz.func4, Tryz.ntmps4
 go_upto_region 1 with (fail)
 refine hideW (Φ := fun W => Code.wp _ _ _ _ W) (fun W => Ext w W /\ Blk W w.heap.size [.slice ad ls.length cap] 24 /\ Blk W (w.heap.size + 1) [I c1.vd, .slice pa1 c1.ps.length pc1, U c1.dest, .slice ta1 c1.tr.length tc1] 37)
  ⟨by (repeat with_reducible first | exact Ext.refl _ | assumption | refine Ext.alloc ?_ _ | refine Ext.drew ?_ | refine Ext.drewN ?_ _ | (refine Ext.setCellP ?_ ?_; focus (first | (simp; done) | (simp; omega) | omega))), ((Blk.new w [.slice ad ls.length cap] 24).old _), (Blk.newAt [I c1.vd, .slice pa1 c1.ps.length pc1, U c1.dest, .slice ta1 c1.tr.length tc1] (by simp))⟩ (fun W1 hW1 => ?_)
 obtain ⟨hx1, hb1, hk0⟩ := hW1
 have HX1 := Lib.hid hx1
 have HB1 := Lib.hid hb1
 have HK1_0 := Lib.hid hk0
 clear hx1 hb1 hk0
 generalize w.heap.size + 1 = kb0 at *
 generalize w.heap.size = nb at *
 go_upto_region 2 with (first
  | (go_at_call 6; (with_reducible refine (shownTop_any _).mono ?_); rintro e w2 ⟨rfl, hx2⟩; have HX2 := Lib.hid (HX1.out.trans hx2); have HB2 := Lib.hid (HB1.out.later hx2); have HK2_0 := Lib.hid (HK1_0.out.later hx2); clear hx2))
 have hbc2 := HB2.out.cells
 have HNM := Lib.hid (fitN_may ls)
 have HNS := Lib.hid (fitN_size ls)
 have HNO := Lib.hid (fitN_ok ls)
 have HN20 := Lib.hid (@fitN_short ls)
 have hN := fitN_bd ls
 go_upto_region 3 with (first
  | (go_at_call 7; (with_reducible refine (r09Fit_any _ ls _ (HL.out.later HX2.out) HOK.out).mono ?_); rintro e w3 ⟨v3, he, hF, hx3⟩; subst he; have HF3 := Lib.hid hF.tables; obtain ⟨va, vcap, hv3, q1, q2, q3⟩ := HF3.out.form; subst hv3; clear q3; have HX3 := Lib.hid (HX2.out.trans hx3); have HK3_0 := Lib.hid (HK2_0.out.later hx3); clear hF hx3))
 generalize fitN ls = N at *
 clear hbc2 HB2 HB1 HK1_0 HK2_0
 unfold maxLen at q2
 refine hideW (Φ := fun W => Code.wp _ _ _ _ W) (fun W => Ext w3 W /\ Blk W w3.heap.size [.slice va N.length vcap] 24)
  ⟨by (repeat with_reducible first | exact Ext.refl _ | assumption | refine Ext.alloc ?_ _ | refine Ext.drew ?_ | refine Ext.drewN ?_ _ | (refine Ext.setCellP ?_ ?_; focus (first | (simp; done) | (simp; omega) | omega))), Blk.new w3 [.slice va N.length vcap] 24⟩ (fun W4 hW4 => ?_)
 obtain ⟨hx4, hb4⟩ := hW4
 have HX4 := Lib.hid (HX3.out.trans hx4)
 have HF4 := Lib.hid (HF3.out.later hx4)
 have HB4 := Lib.hid hb4
 have HK4_0 := Lib.hid (HK3_0.out.later hx4)
 have hbc4 := hb4.cells
 clear hx4 hb4 HF3 HX3 HX1 HX2 HK3_0
 generalize w3.heap.size = fb at *
 have HNL := Lib.hid (netMay_tabs HNM.out).1
 have hkc := HK4_0.out.cells
 have HFT := Lib.hid (fun W (h : Ext w W) => r17Fit_any _ _ c1 N.length W (HC1.out.later h) HT1.out HR1.out HCP.out ⟨hN.1, Nat.le_trans hN.2 (by decide)⟩)
 go_upto_region 4 with (first
  | (go_at_call 17; (with_reducible refine (HFT.out _ HX4.out).mono ?_); rintro e w5 ⟨pv5, tv5, c, he, hO, hm, hI, hv, hx⟩; subst he; obtain ⟨pa, pc, hpe, -⟩ := hO.at.parts.form; obtain ⟨ta, tc, hte, -⟩ := hO.at.tr.form; subst hpe; subst hte; have HX5 := Lib.hid hx; have HC5 := Lib.hid hO.at; have HCM := Lib.hid hm; clear hO hm hI hv hx))
 refine hideW (Φ := fun W => Code.wp _ _ _ _ W) (fun W => Ext w5 W /\ Blk W w5.heap.size [I c.vd, .slice pa c.ps.length pc, U c.dest, .slice ta c.tr.length tc] 37) ⟨(Ext.refl _).alloc _, Blk.new w5 [I c.vd, .slice pa c.ps.length pc, U c.dest, .slice ta c.tr.length tc] 37⟩ (fun W6 hW6 => ?_)
 obtain ⟨hx6, hk6⟩ := hW6
 have HX6 := Lib.hid (HX5.out.trans hx6)
 have HC6 := Lib.hid (HC5.out.later hx6)
 have HK6 := Lib.hid hk6
 have HB6 := Lib.hid (HB4.out.later HX6.out)
 have HF6 := Lib.hid (HF4.out.later HX6.out)
 clear hx6 hk6 hbc4 hkc HC5 HX5
 generalize w5.heap.size = kb at *
 have HTN := Lib.hid (netTake_put HNM.out)
 have HLN := Lib.hid (netB_len HNM.out)
 have HLC := Lib.hid (certP_len HNL.out HC6.out.len HCM.out)
 obtain ⟨d, hct, hcq⟩ := certTake_put HNL.out HC6.out.len HCM.out
 have HCT := Lib.hid hct
 have HCQ := Lib.hid hcq
 have HNC := Lib.hid (netTake_cert c N.length)
 have HCN := Lib.hid (certTake_net N)
 clear hct hcq
 have HPN := Lib.hid (netfilePut_any _ N W6 HF6.out HNO.out HNM.out)
 have HPC := Lib.hid (fun W (h : Ext W6 W) => certfilePut_any _ _ c N.length W (HC6.out.later h) HCM.out HNL.out)
 generalize netPut N = FN at *
 generalize certPut c N.length = CN at *
 have hbc := HB6.out.cells
 go_upto_region 5 with (first
  | (go_at_call 8; (with_reducible refine HPN.out.mono ?_); rintro e w7 ⟨u7, he, ho, hx⟩; obtain ⟨ua, uc, hue⟩ := ho.form; subst hue; subst he; have HX7 := Lib.hid hx; have HY7 := Lib.hid ho.bs; clear hx ho hbc))
 have hbc := (HB6.out.later HX7.out).cells
 have hkc := (HK6.out.later HX7.out).cells
 go_upto_region 6 with (first
  | (go_at_call 18; (with_reducible refine (HPC.out _ HX7.out).mono ?_); rintro e w8 ⟨u8, he, ho, hx⟩; obtain ⟨ca, cc, hue⟩ := ho.form; subst hue; subst he; have HX8 := Lib.hid (HX7.out.trans hx); have HY8 := Lib.hid (HY7.out.later hx); have HZ8 := Lib.hid ho.bs; clear hx ho hbc hkc))
 have HNT := Lib.hid (fun W (h : BsAt W _ FN) => netfileTake_any (.slice ua FN.length uc) FN W h HLN.out)
 have HNT2 := Lib.hid (fun W (h : BsAt W _ CN) => netfileTake_any (.slice ca CN.length cc) CN W h (by have := HLC.out; omega))
 have HCTK := Lib.hid (fun W (h : BsAt W _ CN) => certfileTake_any (.slice ca CN.length cc) CN W h (by have := HLC.out; omega))
 have HCTK2 := Lib.hid (fun W (h : BsAt W _ FN) => certfileTake_any (.slice ua FN.length uc) FN W h HLN.out)
 go_upto_region 7 with (first
  | (go_at_call 19; (with_reducible refine (HNT.out _ HY8.out).mono ?_); rintro e w9 ⟨h1, hx⟩; rw [HTN.out] at h1; obtain ⟨u9, he, ho⟩ := h1; obtain ⟨ma, mc, hue, -⟩ := ho.read.form; subst hue; subst he; have HX9 := Lib.hid (HX8.out.trans hx); have HY9 := Lib.hid (HY8.out.later hx); have HZ9 := Lib.hid (HZ8.out.later hx); have HM9 := Lib.hid ho.read; clear hx ho))
 refine hideW (Φ := fun W => Code.wp _ _ _ _ W) (fun W => Ext w9 W /\ Blk W w9.heap.size [.slice ma N.length mc] 24) ⟨(Ext.refl _).alloc _, Blk.new w9 [.slice ma N.length mc] 24⟩ (fun WA hWA => ?_)
 obtain ⟨hxa, hma⟩ := hWA
 have HXA := Lib.hid (HX9.out.trans hxa)
 have HYA := Lib.hid (HY9.out.later hxa)
 have HZA := Lib.hid (HZ9.out.later hxa)
 have HMA := Lib.hid (HM9.out.later hxa)
 have HMB := Lib.hid hma
 clear hxa hma HX9 HY9 HZ9 HM9
 generalize w9.heap.size = mb at *
 go_upto_region 8 with (first
  | (go_at_call 11; (with_reducible refine (HCTK.out _ HZA.out).mono ?_); rintro e wb ⟨h1, hx⟩; rw [HCT.out] at h1; obtain ⟨pv9, tv9, c4, he, hc4, hq4⟩ := h1; obtain ⟨qa, qc, hpe, -⟩ := hc4.parts.form; obtain ⟨sa, sc, hte, -⟩ := hc4.tr.form; subst hpe; subst hte; subst he; have HXB := Lib.hid (HXA.out.trans hx); have HXR := Lib.hid hx; have HCB := Lib.hid hc4; have HQB := Lib.hid (hq4.trans HCQ.out); clear hx hc4 hq4))
 refine hideW (Φ := fun W => Code.wp _ _ _ _ W) (fun W => Ext wb W /\ Blk W wb.heap.size [I c4.vd, .slice qa c4.ps.length qc, U c4.dest, .slice sa c4.tr.length sc] 37) ⟨(Ext.refl _).alloc _, Blk.new wb [I c4.vd, .slice qa c4.ps.length qc, U c4.dest, .slice sa c4.tr.length sc] 37⟩ (fun WC hWC => ?_)
 obtain ⟨hxc, hkc⟩ := hWC
 have HXC := Lib.hid (HXB.out.trans hxc)
 have HXAC := Lib.hid (HXR.out.trans hxc)
 have HYC := Lib.hid (HYA.out.later HXAC.out)
 have HZC := Lib.hid (HZA.out.later HXAC.out)
 have HMC := Lib.hid (HMB.out.later HXAC.out)
 have HMT := Lib.hid (HMA.out.later HXAC.out)
 have HCC := Lib.hid (HCB.out.later hxc)
 have HQC := Lib.hid hkc
 clear hxc hkc HXB HXR HCB HYA HZA HMA HMB
 generalize wb.heap.size = qb at *
 go_upto_region 9 with (first
  | (go_at_call 19; (with_reducible refine (HNT2.out _ HZC.out).mono ?_); rintro e wd ⟨h1, hx⟩; rw [HNC.out] at h1; obtain ⟨-, he⟩ := h1; subst he; have HXD := Lib.hid (HXC.out.trans hx); have HXCD := Lib.hid hx; have HYD := Lib.hid (HYC.out.later hx); clear hx))
 refine hideW (Φ := fun W => Code.wp _ _ _ _ W) (fun W => Ext wd W) ((Ext.refl _).alloc _) (fun WE hWE => ?_)
 have HXE := Lib.hid (HXD.out.trans hWE)
 have HXCE := Lib.hid (HXCD.out.trans hWE)
 have HYE := Lib.hid (HYD.out.later hWE)
 clear hWE HXD HXCD HYD
 generalize wd.heap.size = g1 at *
 go_upto_region 10 with (first
  | (go_at_call 11; (with_reducible refine (HCTK2.out _ HYE.out).mono ?_); rintro e wf ⟨h1, hx⟩; rw [HCN.out] at h1; obtain ⟨-, he⟩ := h1; subst he; have HXF := Lib.hid (HXE.out.trans hx); have HXCF := Lib.hid (HXCE.out.trans hx); clear hx))
 refine hideW (Φ := fun W => Code.wp _ _ _ _ W) (fun W => Ext wf W) ((Ext.refl _).alloc _) (fun WG hWG => ?_)
 have HXG := Lib.hid (HXF.out.trans hWG)
 have HXCG := Lib.hid (HXCF.out.trans hWG)
 clear hWG HXF HXCF HXE HXCE HYE
 generalize wf.heap.size = g2 at *
 have hbc := (HB6.out.later HXG.out).cells
 have hkc := (HK6.out.later HXG.out).cells
 have hmc := (HMC.out.later HXCG.out).cells
 have hqc := (HQC.out.later HXCG.out).cells
 have HSN := Lib.hid (r09Same_any _ _ N WG (HMT.out.later HXCG.out) (HF6.out.later HXG.out))
 have HSC := Lib.hid (fun W (h : Ext WG W) => (certSame_any _ _ _ _ c4 c W (HCC.out.later (HXCG.out.trans h)) (HC6.out.later (HXG.out.trans h))).mono (R' := fun e w' => e = .returned (.bool true) /\ Ext W w') (by
  rintro e w' ⟨⟨b, he, hb⟩, hx⟩
  have hbt : b = true := hb.2 HQB.out
  rw [hbt] at he
  exact ⟨he, hx⟩))
 go_upto_region 12 with (first
  | (go_at_call 20; (with_reducible refine HSN.out.mono ?_); rintro e wh ⟨he, hx⟩; subst he; have HXH := Lib.hid hx; clear hbc hkc hmc hqc; have hbc := (HB6.out.later (HXG.out.trans hx)).cells; have hkc := (HK6.out.later (HXG.out.trans hx)).cells; have hmc := (HMC.out.later (HXCG.out.trans hx)).cells; have hqc := (HQC.out.later (HXCG.out.trans hx)).cells; clear hx)
  | (go_at_call 13; (with_reducible refine (HSC.out _ HXH.out).mono ?_); rintro e wi ⟨he, hx⟩; subst he; have HXI := Lib.hid (HXH.out.trans hx); clear hbc hkc hmc hqc; have hbc := (HB6.out.later (HXG.out.trans HXI.out)).cells; clear hx))
 clear hbc
 have HXJ := Lib.hid (HX4.out.trans (HX6.out.trans (HXG.out.trans HXI.out)))
 have HFW := Lib.hid (fun W (h : Ext w W) => topFew_any ya1 yc1 l2 W (HY.out.later h))
 have HLF := Lib.hid (fewY_len l2)
 generalize fewY l2 = L at *
 have HFP1 := Lib.hid (fun V W (h : BsAt W V L) => show Calls Tryz.prog 22 #[.int .u32 1179206193, V] W fun e w' => ∃ u, e = .returned u /\ OwnY w' W.heap.size u (fput magN L) /\ Ext W w' from framePut_any magN V L W h (by have := HLF.out; omega))
 have HFP2 := Lib.hid (fun V W (h : BsAt W V L) => show Calls Tryz.prog 22 #[.int .u32 1129468977, V] W fun e w' => ∃ u, e = .returned u /\ OwnY w' W.heap.size u (fput magC L) /\ Ext W w' from framePut_any magC V L W h (by have := HLF.out; omega))
 have HLN2 := Lib.hid (show (fput magN L).length <= 1000 by rw [fput_len]; have := HLF.out; omega)
 have HLC2 := Lib.hid (show (fput magC L).length <= 1000 by rw [fput_len]; have := HLF.out; omega)
 generalize fput magN L = LN at *
 generalize fput magC L = LC at *
 have H1 := Lib.hid (HFW.out _ HXJ.out)
 go_upto_region 12 with fail
 go_upto_region 13 with (first
  | (go_at_call 21; (with_reducible refine H1.out.mono ?_); rintro e wk ⟨⟨he, hb⟩, hx⟩; subst he; have HK1 := Lib.hid (HXJ.out.trans hx); have HA1 := Lib.hid hb; clear hx hb H1; have H2 := Lib.hid (HFW.out _ HK1.out))
  | (go_at_call 21; (with_reducible refine H2.out.mono ?_); rintro e wl ⟨⟨he, hb⟩, hx⟩; subst he; have HK2 := Lib.hid (HK1.out.trans hx); have HA2 := Lib.hid (HA1.out.later hx); have HE2 := Lib.hid hb; clear hx hb H2; have H3 := Lib.hid (HFP1.out _ _ HE2.out))
  | (go_at_call 22; (with_reducible refine H3.out.mono ?_); rintro e wm ⟨um, he, ho, hx⟩; obtain ⟨fa, fc, hue⟩ := ho.form; subst hue; subst he; have HK3 := Lib.hid (HK2.out.trans hx); have HA3 := Lib.hid (HA2.out.later hx); have HN3 := Lib.hid ho.bs; clear hx ho H3; have H4 := Lib.hid (HFW.out _ HK3.out))
  | (go_at_call 21; (with_reducible refine H4.out.mono ?_); rintro e wn ⟨⟨he, hb⟩, hx⟩; subst he; have HK4 := Lib.hid (HK3.out.trans hx); have HA4 := Lib.hid (HA3.out.later hx); have HN4 := Lib.hid (HN3.out.later hx); have HE4 := Lib.hid hb; clear hx hb H4; have H5 := Lib.hid (HFP2.out _ _ HE4.out))
  | (go_at_call 22; (with_reducible refine H5.out.mono ?_); rintro e wo ⟨uo, he, ho, hx⟩; obtain ⟨ga, gc, hue⟩ := ho.form; subst hue; subst he; have HK5 := Lib.hid (HK4.out.trans hx); have HA5 := Lib.hid (HA4.out.later hx); have HN5 := Lib.hid (HN4.out.later hx); have HC5 := Lib.hid ho.bs; clear hx ho H5))
 refine hideW (Φ := fun W => Code.wp _ _ _ _ W) (fun W => Ext wo W /\ Blk W wo.heap.size [.slice ya1 L.length yc1, .slice fa LN.length fc, .slice ga LC.length gc] 58) ⟨(Ext.refl _).alloc _, Blk.new wo [.slice ya1 L.length yc1, .slice fa LN.length fc, .slice ga LC.length gc] 58⟩ (fun WJ hWJ => ?_)
 obtain ⟨hxj, haj⟩ := hWJ
 have HXW := Lib.hid (HK5.out.trans hxj)
 have HAB := Lib.hid haj
 have HROW := Lib.hid (show ∀ k, k < 3 -> ∃ v l, [Value.slice ya1 L.length yc1, .slice fa LN.length fc, .slice ga LC.length gc][k]? = some v /\ RowY WJ v l from fun k hk => by
  match k, hk with
  | 0, _ => exact ⟨_, L, rfl, HA5.out.later hxj, ⟨_, _, rfl⟩, by have := HLF.out; omega⟩
  | 1, _ => exact ⟨_, LN, rfl, HN5.out.later hxj, ⟨_, _, rfl⟩, HLN2.out⟩
  | 2, _ => exact ⟨_, LC, rfl, HC5.out.later hxj, ⟨_, _, rfl⟩, HLC2.out⟩)
 clear hxj haj HA5 HN5 HC5 HK5
 generalize wo.heap.size = ab at *
 go_wp2_with fail
 go_loopw [25] (fun i wr => ∃ k : Nat, k <= 3 /\ i = I k /\ Hid (Ext WJ wr)) (fun i _ => 3 - (intOf i).toNat)
 case atStart => exact ⟨0, by omega, rfl, Lib.hid (Ext.refl _)⟩
 case round =>
  obtain ⟨k, hk, rfl, HX⟩ := hrel
  by_cases hlt : k < 3
  · obtain ⟨v, l, hce, hrow⟩ := HROW.out k hlt
    obtain ⟨ba, bc, hvf⟩ := hrow.form
    subst hvf
    have HLT := Lib.hid hlt
    have HRB := Lib.hid hrow.bs
    have HRL := Lib.hid hrow.few
    have HVC := Lib.hid (show ∀ W, Ext WJ W -> W.cell? ⟨ab, k, none⟩ = some (.slice ba l.length bc) from fun W h => ((HAB.out.later h).cells k).trans hce)
    clear hce hrow
    have hvc := HVC.out _ HX.out
    have HT1 := Lib.hid (netfileTake_any _ l wr (HRB.out.later HX.out) (by have := HRL.out; omega))
    rcases hnt : netTake l with z | ls'
    focus
     have HNT' := Lib.hid hnt
     clear hnt
     go_upto_region 17 with (first
      | (go_at_call 19; (with_reducible refine HT1.out.mono ?_); rintro e w2 ⟨h1, hx⟩; rw [HNT'.out] at h1; obtain ⟨hz, he⟩ := h1; subst he; have HX2 := Lib.hid (HX.out.trans hx); have HZ := Lib.hid hz; clear hx hz hvc))
     refine hideW (Φ := fun W => Code.wp _ _ _ _ W) (fun W => Ext w2 W /\ Blk W w2.heap.size [.slice none 0 0] 24) ⟨(Ext.refl _).alloc _, Blk.new w2 [.slice none 0 0] 24⟩ (fun W3 hW3 => ?_)
     obtain ⟨hx3, hb3⟩ := hW3
     have HX3 := Lib.hid (HX2.out.trans hx3)
     have hnc := hb3.cells
     have HPZ := Lib.hid (netfilePut_any (.slice none 0 0) [] W3 (OwnTb.nil W3 0).read (fun l hl => by cases hl) (by decide +kernel))
     clear hx3 hb3
     generalize w2.heap.size = ub at *
     go_upto_region 18 with (first
      | (go_at_call 8; (with_reducible refine HPZ.out.mono ?_); rintro e w4 ⟨u4, he, ho, hx⟩; subst he; have HX4' := Lib.hid (HX3.out.trans hx); clear hx ho hnc))
     have hzb : (z == 0) = false := beq_false_of_ne HZ.out
     refine wp_region_E 14 rfl (by kernel_rfl) (by kernel_rfl) ?_
     refine WEi_at 0 ?_
     iterate 3
      refine WEi_q rfl (by decide) (by kernel_rfl) rfl ?_; apply Exists.intro; refine ⟨fun w1 hx1 => ?_, ?_⟩
      · have hq1 := hx1.cells; go_simp; try go_bits
        first | with_reducible rfl
      simp only [Act.put, List.setIfInBounds_toArray, List.set_cons_zero, List.set_cons_succ, Nat.reduceAdd]
     refine WEi_out ?_
     refine WEi_at 3 ?_
     iterate 11
      refine WEi_s rfl (by decide) (by kernel_rfl) rfl ?_
      simp only [Act.put, List.setIfInBounds_toArray, List.set_cons_zero, List.set_cons_succ, Nat.reduceAdd]
     refine WEi_out ?_
     refine WE_done (by kernel_rfl) (fun w5b hx5 => ?_)
     (try simp only [List.drop_succ_cons, List.drop_zero])
     have HX5' := Lib.hid (HX4'.out.trans hx5)
     clear hx5 hzb
     go_upto_region 20 with fail
     refine hideW (Φ := fun W => Code.wp _ _ _ _ W) (fun W => Ext WJ W) HX5'.out (fun WK hWK => ?_)
     clear HX2 HX3 HX4' HX5' HPZ HT1 HZ HNT'
    rotate_left
    focus
     have HNT' := Lib.hid hnt
     have HPT := Lib.hid (netPut_take hnt)
     clear hnt
     have HMA' := Lib.hid (may_ok HPT.out.1)
     go_upto_region 17 with (first
      | (go_at_call 19; (with_reducible refine HT1.out.mono ?_); rintro e w2 ⟨h1, hx⟩; rw [HNT'.out] at h1; obtain ⟨u2, he, ho⟩ := h1; obtain ⟨na, nc, hue, -⟩ := ho.read.form; subst hue; subst he; have HX2 := Lib.hid (HX.out.trans hx); have HR2 := Lib.hid ho.read; clear hx ho hvc))
     refine hideW (Φ := fun W => Code.wp _ _ _ _ W) (fun W => Ext w2 W /\ Blk W w2.heap.size [.slice na ls'.length nc] 24) ⟨(Ext.refl _).alloc _, Blk.new w2 [.slice na ls'.length nc] 24⟩ (fun W3 hW3 => ?_)
     obtain ⟨hx3, hb3⟩ := hW3
     have HX3 := Lib.hid (HX2.out.trans hx3)
     have hnc := hb3.cells
     have HPZ := Lib.hid (netfilePut_any _ ls' W3 (HR2.out.later hx3) HMA'.out HPT.out.1)
     rw [<- HPT.out.2] at HPZ
     clear hx3 hb3
     generalize w2.heap.size = ub at *
     go_upto_region 18 with (first
      | (go_at_call 8; (with_reducible refine HPZ.out.mono ?_); rintro e w4 ⟨u4, he, ho, hx⟩; obtain ⟨za, zc, hue⟩ := ho.form; subst hue; subst he; have HX4' := Lib.hid (HX3.out.trans hx); have HY4 := Lib.hid ho.bs; clear hx ho hnc))
     have hcv1 := Lib.hid (fun W (h : Ext w4 W) => bs_convert (HY4.out.later h))
     have hcv2 := Lib.hid (fun W (h : Ext w4 W) => bs_convert (HRB.out.later (HX4'.out.trans h)))
     have hvk := fun W (h : Ext w4 W) => HVC.out W (HX4'.out.trans h)
     have hlt3 : k < 3 := HLT.out
     generalize strOfNums (l.map yv) = sv at *
     refine wp_region_E 14 rfl (by kernel_rfl) (by kernel_rfl) ?_
     refine WEi_at 0 ?_
     iterate 7
      refine WEi_q rfl (by decide) (by kernel_rfl) rfl ?_; apply Exists.intro; refine ⟨fun w1 hx1 => ?_, ?_⟩
      · have hq1 := hx1.cells; go_simp; try go_bits
        first | with_reducible rfl
      simp only [Act.put, List.setIfInBounds_toArray, List.set_cons_zero, List.set_cons_succ, Nat.reduceAdd]
     refine WEi_out ?_
     refine WE_q 7 rfl (by decide) (by kernel_rfl) rfl ?_; apply Exists.intro; refine ⟨fun w1 hx1 => ?_, ?_⟩
     · have hq1 := hx1.cells; go_simp; try go_bits
       first | with_reducible rfl | ((rw [hcv1.out _ hx1]; exact ⟨Ext.refl _, rfl⟩))
     simp only [Act.put, List.setIfInBounds_toArray, List.set_cons_zero, List.set_cons_succ]
     refine WEi_at 8 ?_
     iterate 3
      refine WEi_q rfl (by decide) (by kernel_rfl) rfl ?_; apply Exists.intro; refine ⟨fun w1 hx1 => ?_, ?_⟩
      · have hq1 := hx1.cells; go_simp; try go_bits
        first | with_reducible rfl
      simp only [Act.put, List.setIfInBounds_toArray, List.set_cons_zero, List.set_cons_succ, Nat.reduceAdd]
     refine WEi_out ?_
     refine WE_q 11 rfl (by decide) (by kernel_rfl) rfl ?_; apply Exists.intro; refine ⟨fun w1 hx1 => ?_, ?_⟩
     · have hq1 := hx1.cells; go_simp; try go_bits
       first | with_reducible rfl | ((rw [hcv2.out _ hx1]; exact ⟨Ext.refl _, rfl⟩))
     simp only [Act.put, List.setIfInBounds_toArray, List.set_cons_zero, List.set_cons_succ]
     refine WEi_at 12 ?_
     iterate 2
      refine WEi_q rfl (by decide) (by kernel_rfl) rfl ?_; apply Exists.intro; refine ⟨fun w1 hx1 => ?_, ?_⟩
      · have hq1 := hx1.cells; go_simp; try go_bits
        first | with_reducible rfl
      simp only [Act.put, List.setIfInBounds_toArray, List.set_cons_zero, List.set_cons_succ, Nat.reduceAdd]
     refine WEi_out ?_
     refine WE_done (by kernel_rfl) (fun w5b hx5 => ?_)
     (try simp only [List.drop_succ_cons, List.drop_zero])
     have HX5' := Lib.hid (HX4'.out.trans hx5)
     clear hx5 hvk hlt3 hcv1 hcv2
     go_upto_region 20 with fail
     refine hideW (Φ := fun W => Code.wp _ _ _ _ W) (fun W => Ext WJ W) HX5'.out (fun WK hWK => ?_)
     clear HX2 HX3 HX4' HX5' HPZ HT1 HNT' HPT HMA' HR2 HY4
    all_goals
     have HXK := Lib.hid hWK
     have hvc := HVC.out _ hWK
     have HT2 := Lib.hid (certfileTake_any _ l WK (HRB.out.later hWK) (by have := HRL.out; omega))
     clear hWK
     have hlt3 : k < 3 := HLT.out
     cases hct2 : certTake l with
     | error z =>
       have HNT' := Lib.hid hct2
       clear hct2
       go_upto_region 21 with (first
        | (go_at_call 11; (with_reducible refine HT2.out.mono ?_); rintro e w2 ⟨h1, hx⟩; rw [HNT'.out] at h1; obtain ⟨hz, he⟩ := h1; subst he; have HX2 := Lib.hid (HXK.out.trans hx); have HZ := Lib.hid hz; clear hx hz hvc))
       refine hideW (Φ := fun W => Code.wp _ _ _ _ W) (fun W => Ext w2 W /\ Blk W w2.heap.size [I 0, .slice none 0 0, U 0#32, .slice none 0 0] 37) ⟨(Ext.refl _).alloc _, Blk.new w2 [I 0, .slice none 0 0, U 0#32, .slice none 0 0] 37⟩ (fun W3 hW3 => ?_)
       obtain ⟨hx3, hb3⟩ := hW3
       have HX3 := Lib.hid (HX2.out.trans hx3)
       have hnc := hb3.cells
       have HPZ := Lib.hid (certfilePut_zero W3)
       clear hx3 hb3
       generalize w2.heap.size = ub at *
       go_upto_region 22 with (first
        | (go_at_call 18; (with_reducible refine HPZ.out.mono ?_); rintro e w4 ⟨he, hx⟩; subst he; have HX4' := Lib.hid (HX3.out.trans hx); clear hx hnc))
       have hzb : (z == 0) = false := beq_false_of_ne HZ.out
       refine wp_region_E 14 rfl (by kernel_rfl) (by kernel_rfl) ?_
       refine WEi_at 0 ?_
       iterate 3
        refine WEi_q rfl (by decide) (by kernel_rfl) rfl ?_; apply Exists.intro; refine ⟨fun w1 hx1 => ?_, ?_⟩
        · have hq1 := hx1.cells; go_simp; try go_bits
          first | with_reducible rfl
        simp only [Act.put, List.setIfInBounds_toArray, List.set_cons_zero, List.set_cons_succ, Nat.reduceAdd]
       refine WEi_out ?_
       refine WEi_at 3 ?_
       iterate 11
        refine WEi_s rfl (by decide) (by kernel_rfl) rfl ?_
        simp only [Act.put, List.setIfInBounds_toArray, List.set_cons_zero, List.set_cons_succ, Nat.reduceAdd]
       refine WEi_out ?_
       refine WE_done (by kernel_rfl) (fun w5b hx5 => ?_)
       (try simp only [List.drop_succ_cons, List.drop_zero])
       have HX5' := Lib.hid (HX4'.out.trans hx5)
       clear hx5 hzb
       go_wp2_with fail
       go_roundw
       case rel => exact ⟨k + 1, by have := HLT.out; omega, by go_num, HX5'⟩
       case measure => have := HLT.out; simp [intOf]; omega
     | ok q =>
       obtain ⟨d', n'⟩ := q
       have HNT' := Lib.hid hct2
       have HPT := Lib.hid (certPut_take hct2)
       clear hct2
       go_upto_region 21 with (first
        | (go_at_call 11; (with_reducible refine HT2.out.mono ?_); rintro e w2 ⟨h1, hx⟩; rw [HNT'.out] at h1; obtain ⟨pv9, tv9, c9, he, hc9, hq9⟩ := h1; obtain ⟨ra, rc, hpe, -⟩ := hc9.parts.form; obtain ⟨oa, oc, hte, -⟩ := hc9.tr.form; subst hpe; subst hte; subst he; have HX2 := Lib.hid (HXK.out.trans hx); have HR2 := Lib.hid hc9; have HQ9 := Lib.hid hq9; clear hx hc9 hq9 hvc))
       refine hideW (Φ := fun W => Code.wp _ _ _ _ W) (fun W => Ext w2 W /\ Blk W w2.heap.size [I c9.vd, .slice ra c9.ps.length rc, U c9.dest, .slice oa c9.tr.length oc] 37) ⟨(Ext.refl _).alloc _, Blk.new w2 [I c9.vd, .slice ra c9.ps.length rc, U c9.dest, .slice oa c9.tr.length oc] 37⟩ (fun W3 hW3 => ?_)
       obtain ⟨hx3, hb3⟩ := hW3
       have HX3 := Lib.hid (HX2.out.trans hx3)
       have hnc := hb3.cells
       have HPZ := Lib.hid (certfilePut_any _ _ c9 n' W3 (HR2.out.later hx3) (by rw [certMayV_congr HQ9.out]; exact HPT.out.2.1) HPT.out.2.2)
       rw [certPut_congr HQ9.out, <- HPT.out.1] at HPZ
       clear hx3 hb3
       generalize w2.heap.size = ub at *
       go_upto_region 22 with (first
        | (go_at_call 18; (with_reducible refine HPZ.out.mono ?_); rintro e w4 ⟨u4, he, ho, hx⟩; obtain ⟨za, zc, hue⟩ := ho.form; subst hue; subst he; have HX4' := Lib.hid (HX3.out.trans hx); have HY4 := Lib.hid ho.bs; clear hx ho hnc))
       have hcv1 := Lib.hid (fun W (h : Ext w4 W) => bs_convert (HY4.out.later h))
       have hcv2 := Lib.hid (fun W (h : Ext w4 W) => bs_convert (HRB.out.later (HX4'.out.trans h)))
       have hvk := fun W (h : Ext w4 W) => HVC.out W (HX4'.out.trans h)
       generalize strOfNums (l.map yv) = sv at *
       refine wp_region_E 14 rfl (by kernel_rfl) (by kernel_rfl) ?_
       refine WEi_at 0 ?_
       iterate 7
        refine WEi_q rfl (by decide) (by kernel_rfl) rfl ?_; apply Exists.intro; refine ⟨fun w1 hx1 => ?_, ?_⟩
        · have hq1 := hx1.cells; go_simp; try go_bits
          first | with_reducible rfl
        simp only [Act.put, List.setIfInBounds_toArray, List.set_cons_zero, List.set_cons_succ, Nat.reduceAdd]
       refine WEi_out ?_
       refine WE_q 7 rfl (by decide) (by kernel_rfl) rfl ?_; apply Exists.intro; refine ⟨fun w1 hx1 => ?_, ?_⟩
       · have hq1 := hx1.cells; go_simp; try go_bits
         first | with_reducible rfl | ((rw [hcv1.out _ hx1]; exact ⟨Ext.refl _, rfl⟩))
       simp only [Act.put, List.setIfInBounds_toArray, List.set_cons_zero, List.set_cons_succ]
       refine WEi_at 8 ?_
       iterate 3
        refine WEi_q rfl (by decide) (by kernel_rfl) rfl ?_; apply Exists.intro; refine ⟨fun w1 hx1 => ?_, ?_⟩
        · have hq1 := hx1.cells; go_simp; try go_bits
          first | with_reducible rfl
        simp only [Act.put, List.setIfInBounds_toArray, List.set_cons_zero, List.set_cons_succ, Nat.reduceAdd]
       refine WEi_out ?_
       refine WE_q 11 rfl (by decide) (by kernel_rfl) rfl ?_; apply Exists.intro; refine ⟨fun w1 hx1 => ?_, ?_⟩
       · have hq1 := hx1.cells; go_simp; try go_bits
         first | with_reducible rfl | ((rw [hcv2.out _ hx1]; exact ⟨Ext.refl _, rfl⟩))
       simp only [Act.put, List.setIfInBounds_toArray, List.set_cons_zero, List.set_cons_succ]
       refine WEi_at 12 ?_
       iterate 2
        refine WEi_q rfl (by decide) (by kernel_rfl) rfl ?_; apply Exists.intro; refine ⟨fun w1 hx1 => ?_, ?_⟩
        · have hq1 := hx1.cells; go_simp; try go_bits
          first | with_reducible rfl
        simp only [Act.put, List.setIfInBounds_toArray, List.set_cons_zero, List.set_cons_succ, Nat.reduceAdd]
       refine WEi_out ?_
       refine WE_done (by kernel_rfl) (fun w5b hx5 => ?_)
       (try simp only [List.drop_succ_cons, List.drop_zero])
       have HX5' := Lib.hid (HX4'.out.trans hx5)
       clear hx5 hvk hlt3 hcv1 hcv2
       go_wp2_with fail
       go_roundw
       case rel => exact ⟨k + 1, by have := HLT.out; omega, by go_num, HX5'⟩
       case measure => have := HLT.out; simp [intOf]; omega
  · go_wp2_with fail
    go_ret
    exact ⟨rfl, HXW.out.trans HX.out⟩
end Go.Proofs.YtdpmnldmbnpfpaaGreat
