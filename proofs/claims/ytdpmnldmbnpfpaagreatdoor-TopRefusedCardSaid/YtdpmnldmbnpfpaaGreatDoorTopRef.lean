/- The law TopRefused, by the program. Conditions: the library's table of powers of ten, and the table of words, read as they are laid. -/
import Derived.Test.YtdpmnldmbnpfpaaGreatDoorGExp
import Derived.Test.YtdpmnldmbnpfpaaGreatDoorGTop
import Derived.Test.YtdpmnldmbnpfpaaGreatDoorGNetP
import Derived.Test.YtdpmnldmbnpfpaaGreatDoorGSnd
namespace Go.Proofs.YtdpmnldmbnpfpaaGreatDoor
open Go Go.RowKit Go.Maps Go.Proofs

set_option maxHeartbeats 8000000 in
set_option maxRecDepth 100000 in
theorem topRefused_any (v lv : Value) (f : List Byt) (ls : List (List Rul)) (w : World) (h : BsAt w v f) (hl : TablesAt w lv ls) (hok : TablesOk ls) (ht : Tab10 w) (hw : Words w) :
 Calls Tryz.prog 7 #[v, .agg #[lv]] w fun e w' => e = .returned (.bool true) /\ Ext w w' := by
 have HH := Lib.hid h
 have HTT := Lib.hid ht
 have HWW := Lib.hid hw
 obtain ⟨fa, fc, rfl, -⟩ := h.form
 have HL := Lib.hid hl
 have HOK := Lib.hid hok
 obtain ⟨ad, cap, hlv, a1, a2, a3⟩ := hl.form
 subst hlv
 clear a3 hl hok h ht hw
 unfold maxLen at a2
 have HFW := Lib.hid (fun W (x : Ext w W) => topFew_any fa fc f W (HH.out.later x))
 have HFL := Lib.hid (fewY_len f)
 generalize fewY f = F at *
 go_enter Tryz.func7, Tryz.ntmps7
 go_upto_region 1 with (fail)
 refine hideW (Φ := fun W => Code.wp _ _ _ _ W) (fun W => Ext w W /\ Blk W w.heap.size [.slice ad ls.length cap] 39)
  ⟨by (repeat with_reducible first | exact Ext.refl _ | assumption | refine Ext.alloc ?_ _ | refine Ext.drew ?_ | refine Ext.drewN ?_ _ | (refine Ext.setCellP ?_ ?_; focus (first | (simp; done) | (simp; omega) | omega))), (Blk.new w [.slice ad ls.length cap] 39)⟩ (fun W1 hW1 => ?_)
 obtain ⟨hx1, hb1⟩ := hW1
 have HX1 := Lib.hid hx1
 have HB1 := Lib.hid hb1
 clear hx1 hb1
 generalize w.heap.size = nb at *
 go_upto_region 2 with (first
  | (go_at_call 24; (with_reducible refine (shownTop_any _).mono ?_); rintro e w2 ⟨rfl, hx2⟩; have HX2 := Lib.hid (HX1.out.trans hx2); have HB2 := Lib.hid (HB1.out.later hx2); clear hx2))
 have hbc2 := HB2.out.cells
 have HNM := Lib.hid (fitN_may ls)
 have HNO := Lib.hid (fitN_ok ls)
 have hN := fitN_bd ls
 go_upto_region 3 with (first
  | (go_at_call 19; (with_reducible refine (r09Fit_any _ ls _ (HL.out.later HX2.out) HOK.out).mono ?_); rintro e w3 ⟨v3, he, hF, hx3⟩; subst he; have HF3 := Lib.hid hF.tables; obtain ⟨va, vcap, hv3, q1, q2, q3⟩ := HF3.out.form; subst hv3; clear q3; have HX3 := Lib.hid (HX2.out.trans hx3); clear hF hx3))
 generalize fitN ls = N at *
 clear hbc2 HB2 HB1
 unfold maxLen at q2
 refine hideW (Φ := fun W => Code.wp _ _ _ _ W) (fun W => Ext w3 W /\ Blk W w3.heap.size [.slice va N.length vcap] 39)
  ⟨by (repeat with_reducible first | exact Ext.refl _ | assumption | refine Ext.alloc ?_ _ | refine Ext.drew ?_ | refine Ext.drewN ?_ _ | (refine Ext.setCellP ?_ ?_; focus (first | (simp; done) | (simp; omega) | omega))), Blk.new w3 [.slice va N.length vcap] 39⟩ (fun W4 hW4 => ?_)
 obtain ⟨hx4, hb4⟩ := hW4
 have HX4 := Lib.hid (HX3.out.trans hx4)
 have HF4 := Lib.hid (HF3.out.later hx4)
 have hbc4 := hb4.cells
 clear hx4 hb4 HF3 HX3 HX1 HX2
 generalize w3.heap.size = fb at *
 have HTN := Lib.hid (netTake_put HNM.out)
 have HLN := Lib.hid (netB_len HNM.out)
 have HNL := Lib.hid (netMay_tabs HNM.out).1
 have HPN := Lib.hid (netfilePut_any _ N W4 HF4.out HNO.out HNM.out)
 generalize netPut N = FN at *
 go_upto_region 4 with (first
  | (go_at_call 20; (with_reducible refine HPN.out.mono ?_); rintro e w5 ⟨u5, he, ho, hx⟩; obtain ⟨ua, uc, hue⟩ := ho.form; subst hue; subst he; have HX5 := Lib.hid (HX4.out.trans hx); have HP5 := Lib.hid ho.bs; clear hx ho hbc4))
 go_upto_region 5 with (first
  | (go_at_call 13; (with_reducible refine (toolAnalyze_any _ FN _ HP5.out HLN.out).mono ?_); rintro e w6 ⟨h1, hx⟩; rw [HTN.out] at h1; obtain ⟨c, u6, ha, hl6, hm6, he, ho⟩ := h1; obtain ⟨ca, cc, hue⟩ := ho.form; subst hue; subst he; have HX6 := Lib.hid (HX5.out.trans hx); have HC6 := Lib.hid ho.bs; have HAM := Lib.hid (And.intro hl6 hm6); clear hx ho ha hl6 hm6))
 have HLC := Lib.hid (certP_len HNL.out HAM.out.1 HAM.out.2)
 generalize certPut c N.length = CN at *
 have HCL := Lib.hid (show CN.length <= 1000000000 by have := HLC.out; omega)
 have K6 := Lib.hid (HFW.out _ HX6.out)
 clear HX5 HP5 HPN HTN HLN HF4 HX4
 go_upto_region 8 with (first
  | (go_at_call 25; (with_reducible refine K6.out.mono ?_); rintro e w7 ⟨⟨he, hb⟩, hx⟩; subst he; have HX7 := Lib.hid (HX6.out.trans hx); have HF7 := Lib.hid hb; have HC7 := Lib.hid (HC6.out.later hx); clear hx hb K6))
 go_wp2_with fail
 go_loopw [11, 12] (fun x i wr => ∃ (k : Nat) (a : Option Addr) (b : Nat) (X : List Byt), k <= 2 /\ i = I k /\ x = .slice a X.length b /\ Hid (BsAt wr (.slice a X.length b) X) /\ Hid (X.length <= 500 + 8 * k) /\ Hid (Ext w7 wr)) (fun _ i _ => 2 - (intOf i).toNat)
 case atStart => exact ⟨0, fa, fc, F, by omega, rfl, rfl, HF7, Lib.hid (by have := HFL.out; omega), Lib.hid (Ext.refl _)⟩
 case round =>
  obtain ⟨k, xa, xc, X, hk, rfl, rfl, HX, HXL, HXR⟩ := hrel
  by_cases hlt : k < 2
  · have HLT := Lib.hid hlt
    have HL1 := Lib.hid (show X.length <= 1000000000 by have := HXL.out; omega)
    have HTK := Lib.hid (netfileTake_any _ X wr HX.out HL1.out)
    have HAN := Lib.hid (fun W (y : Ext wr W) => toolAnalyze_any _ X W (HX.out.later y) HL1.out)
    have HEX := Lib.hid (fun W (y : Ext wr W) => show Calls Tryz.prog 15 #[.slice xa X.length xc, .int .u32 0] W (ExOut W X 0#32) from toolExplain_any _ X 0#32 W (HX.out.later y) HL1.out (HTT.out.later (HX7.out.trans (HXR.out.trans y))) (HWW.out.later (HX7.out.trans (HXR.out.trans y))))
    have HFP := Lib.hid (fun W (y : Ext wr W) => show Calls Tryz.prog 12 #[.int .u32 1179206193, .slice xa X.length xc] W fun e w' => ∃ u, e = .returned u /\ OwnY w' W.heap.size u (fput magN X) /\ Ext W w' from framePut_any magN _ X W (HX.out.later y) (by have := HXL.out; omega))
    have HPL := Lib.hid (fput_len magN X)
    cases hnt : netTake X with
    | error z =>
      have HT := Lib.hid hnt
      have HCK := Lib.hid (fun V L W (y : Ext wr W) (hV : BsAt W V L) (hL : L.length <= 1000000000) => show Calls Tryz.prog 17 #[.slice xa X.length xc, V] W fun e w' => e = .returned (.agg #[I 0, I z]) /\ Ext W w' from by
       have := toolCheck_any _ V X L W (HX.out.later y) HL1.out hV hL
       rw [chk_bad HT.out] at this
       exact this)
      clear hnt
      go_upto_region 12 with (first
       | (go_at_call 21; (with_reducible refine HTK.out.mono ?_); rintro e w2 ⟨h1, hx⟩; rw [HT.out] at h1; obtain ⟨hz, he⟩ := h1; subst he; have HX2 := Lib.hid hx; have HZ := Lib.hid hz; clear hx hz))
      refine hideW (Φ := fun W => Code.wp _ _ _ _ W) (fun W => Ext wr W) (HX2.out.alloc _) (fun W3 hW3 => ?_)
      have HX3 := Lib.hid hW3
      clear hW3
      generalize w2.heap.size = ub at *
      go_upto_region 13 with (first
       | (go_at_call 13; (with_reducible refine (HAN.out _ HX3.out).mono ?_); rintro e w4 ⟨h1, hx⟩; rw [HT.out] at h1; obtain ⟨-, he⟩ := h1; subst he; have HX4 := Lib.hid (HX3.out.trans hx); clear hx))
      go_upto_region 14 with (first
       | (go_at_call 15; (with_reducible refine (HEX.out _ HX4.out).mono ?_); rintro e w5 ⟨h1, hx⟩; rw [HT.out] at h1; obtain ⟨-, he⟩ := h1; subst he; have HX5 := Lib.hid (HX4.out.trans hx); clear hx))
      have hzb : (z != 0) = true := by simp [HZ.out]
      have K5 := Lib.hid (HCK.out (.slice ca CN.length cc) CN _ HX5.out (HC7.out.later (HXR.out.trans HX5.out)) HCL.out)
      go_upto_region 16 with (first
       | (go_at_call 17; (with_reducible refine K5.out.mono ?_); rintro e w6 ⟨he, hx⟩; subst he; have HX6' := Lib.hid (HX5.out.trans hx); clear hx K5; have K6 := Lib.hid (HCK.out (.slice none 0 0) [] _ HX6'.out (BsAt.nil _) (Nat.zero_le _)))
       | (go_at_call 17; (with_reducible refine K6.out.mono ?_); rintro e w7' ⟨he, hx⟩; subst he; have HX7' := Lib.hid (HX6'.out.trans hx); clear hx K6))
      clear hzb
      go_wp2_with (first
       | (go_at_call 12; (with_reducible refine (HFP.out _ HX7'.out).mono ?_); rintro e w8 ⟨u8, he, ho, hx⟩; obtain ⟨ga, gc, hue⟩ := ho.form; subst hue; subst he; have HX8 := Lib.hid (HX7'.out.trans hx); have HB8 := Lib.hid ho.bs; clear hx ho))
      go_roundw
      case rel => exact ⟨k + 1, ga, gc, _, by have := HLT.out; omega, by go_num, rfl, HB8, Lib.hid (by have h1 := HPL.out; have h2 := HXL.out; omega), Lib.hid (HXR.out.trans HX8.out)⟩
      case measure => have := HLT.out; simp [intOf]; omega
    | ok qs =>
      have HT := Lib.hid hnt
      clear hnt
      go_upto_region 12 with (first
       | (go_at_call 21; (with_reducible refine HTK.out.mono ?_); rintro e w2 ⟨h1, hx⟩; rw [HT.out] at h1; obtain ⟨u2, he, ho⟩ := h1; obtain ⟨ma, mc, hue, -⟩ := ho.read.form; subst hue; subst he; have HX2 := Lib.hid hx; clear hx ho))
      refine hideW (Φ := fun W => Code.wp _ _ _ _ W) (fun W => Ext wr W) (HX2.out.alloc _) (fun W3 hW3 => ?_)
      have HX3 := Lib.hid hW3
      clear hW3
      generalize w2.heap.size = ub at *
      go_upto_region 13 with (first
       | (go_at_call 13; (with_reducible refine (HAN.out _ HX3.out).mono ?_); rintro e w4 ⟨h1, hx⟩; rw [HT.out] at h1; obtain ⟨c0, u4, ha, hlen, hcm, he, ho⟩ := h1; obtain ⟨pa, pc, hue⟩ := ho.form; subst hue; subst he; have HX4 := Lib.hid (HX3.out.trans hx); clear hx ho ha hlen hcm))
      go_upto_region 14 with (first
       | (go_at_call 15; (with_reducible refine (HEX.out _ HX4.out).mono ?_); rintro e w5 ⟨h1, hx⟩; rw [HT.out] at h1; obtain ⟨u5, he, ho⟩ := h1; obtain ⟨qa, qc, hue, -⟩ := own_bds ho; subst hue; subst he; have HX5 := Lib.hid (HX4.out.trans hx); clear hx ho))
      go_wp2_with (first
       | (go_at_call 12; (with_reducible refine (HFP.out _ HX5.out).mono ?_); rintro e w8 ⟨u8, he, ho, hx⟩; obtain ⟨ga, gc, hue⟩ := ho.form; subst hue; subst he; have HX8 := Lib.hid (HX5.out.trans hx); have HB8 := Lib.hid ho.bs; clear hx ho))
      go_roundw
      case rel => exact ⟨k + 1, ga, gc, _, by have := HLT.out; omega, by go_num, rfl, HB8, Lib.hid (by have h1 := HPL.out; have h2 := HXL.out; omega), Lib.hid (HXR.out.trans HX8.out)⟩
      case measure => have := HLT.out; simp [intOf]; omega
  · obtain rfl : k = 2 := by omega
    go_wp2_with fail
    go_ret
    exact ⟨rfl, HX7.out.trans HXR.out⟩
end Go.Proofs.YtdpmnldmbnpfpaaGreatDoor
