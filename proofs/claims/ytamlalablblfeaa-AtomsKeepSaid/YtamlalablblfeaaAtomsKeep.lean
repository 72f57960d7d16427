/- The law AtomsKeep: an address has the vector that it has in the network, and is between the ends of its atom. Conditions: whole numbers are within 64 bits. -/
import Derived.Test.YtamlalablblfeaaAtomsOfG
import Derived.Test.YtamlalablblfeaaCloneI
import Derived.Test.YtamlalablblfeaaShown16
import Derived.Test.YtamlalablblfeaaFew
namespace Go.Proofs.Ytamlalablblfeaa
open Go Go.RowKit Go.Maps Go.Proofs

set_option maxHeartbeats 4000000 in
set_option maxRecDepth 100000 in
theorem atomsKeep_any (lv : Value) (ls : List (List Rul)) (a : BitVec 32) (w : World) (hl : TablesAt w lv ls) (hok : TablesOk ls) :
    Calls Try.prog 8 #[.agg #[lv], U a] w fun e w' => e = .returned (.bool true) ∧ Ext w w' := by
  have HL := Lib.hid hl
  have HOK := Lib.hid hok
  obtain ⟨ad, cap, hlv, a1, a2, a3⟩ := hl.form
  subst hlv
  clear a3 hl hok
  unfold maxLen at a2
  go_enter Try.func8, Try.ntmps8
  go_upto_region 1 with (fail)
  refine hideW (Φ := fun W => Code.wp _ _ _ _ W) (fun W => Ext w W ∧ Blk W w.heap.size [.slice ad ls.length cap] 24)
    ⟨by (repeat (first | with_reducible exact Ext.refl _ | with_reducible assumption | with_reducible refine Ext.alloc ?_ _ | with_reducible refine Ext.drew ?_ | with_reducible refine Ext.drewN ?_ _ | (with_reducible refine Ext.setCellP ?_ ?_; focus (first | (simp; done) | (simp; omega) | omega)))), (Blk.new w [.slice ad ls.length cap] 24)⟩ (fun W1 hW1 => ?_)
  obtain ⟨hx1, hb1⟩ := hW1
  have HX1 := Lib.hid hx1
  have HB1 := Lib.hid hb1
  clear hx1 hb1
  generalize w.heap.size = nb at *
  go_upto_region 2 with (first
    | (go_at_call 21; (with_reducible refine (shown16_any _).mono ?_); rintro e w2 ⟨rfl, hx2⟩; have HX2 := Lib.hid (HX1.out.trans hx2); have HB2 := Lib.hid (HB1.out.later hx2); clear hx2))
  have hbc2 := HB2.out.cells
  have HNM := Lib.hid (fitN_may ls)
  have HNS := Lib.hid (fitN_size ls)
  have HNO := Lib.hid (fitN_ok ls)
  have HN20 := Lib.hid (@fitN_short ls)
  have hN := fitN_bd ls
  go_upto_region 3 with (first
    | (go_at_call 25; (with_reducible refine (r09Fit_any _ ls _ (HL.out.later HX2.out) HOK.out).mono ?_); rintro e w3 ⟨v3, he, hF, hx3⟩; subst he; have HF3 := Lib.hid hF.tables; obtain ⟨va, vcap, hv3, q1, q2, q3⟩ := HF3.out.form; subst hv3; clear q3; have HX3 := Lib.hid (HX2.out.trans hx3); clear hF hx3))
  generalize fitN ls = N at *
  clear hbc2 HB2 HB1
  unfold maxLen at q2
  refine hideW (Φ := fun W => Code.wp _ _ _ _ W) (fun W => Ext w3 W ∧ Blk W w3.heap.size [.slice va N.length vcap] 24)
    ⟨by (repeat (first | with_reducible exact Ext.refl _ | with_reducible assumption | with_reducible refine Ext.alloc ?_ _ | with_reducible refine Ext.drew ?_ | with_reducible refine Ext.drewN ?_ _ | (with_reducible refine Ext.setCellP ?_ ?_; focus (first | (simp; done) | (simp; omega) | omega)))), Blk.new w3 [.slice va N.length vcap] 24⟩ (fun W4 hW4 => ?_)
  obtain ⟨hx4, hb4⟩ := hW4
  have HX4 := Lib.hid (HX3.out.trans hx4)
  have HF4 := Lib.hid (HF3.out.later hx4)
  have HB4 := Lib.hid hb4
  have hbc4 := hb4.cells
  clear hx4 hb4 HF3 HX3 HX1 HX2
  generalize w3.heap.size = fb at *
  go_upto_region 4 with (first
    | (go_at_call 22; (with_reducible refine (atomsOf_good _ N _ HF4.out HNO.out HNM.out).mono ?_); rintro e w5 ⟨fv, hv, vv, l, he, hC, hA, hx5⟩; subst he; have HC := Lib.hid hC; have HIT := Lib.hid (atomsIt hC); have HA5 := Lib.hid hA; have HX5 := Lib.hid (HX4.out.trans hx5); have HF5 := Lib.hid (HF4.out.later hx5); have HB5 := Lib.hid (HB4.out.later hx5); obtain ⟨fa, fc, ha, hc, va, vc, e1, e2, e3⟩ := hA.forms; subst e1 e2 e3; clear hC hA hx5))
  clear hbc4
  have HLL := Lib.hid (show (atomsL (vecV N) l).fr.length ≤ 100000 by
    have h1 := ats_few (vecV N) l
    have h2 := HC.out.len
    rw [sizeN_flat] at h2
    have h3 := HNS.out
    omega)
  generalize hs : atomsL (vecV N) l = s at *
  have HS := Lib.hid hs
  clear hs
  refine hideW (Φ := fun W => Code.wp _ _ _ _ W) (fun W => Ext w5 W ∧ Blk W w5.heap.size [.slice fa s.fr.length fc, .slice ha s.wh.length hc, .slice va s.vs.length vc] 30)
    ⟨by (repeat (first | with_reducible exact Ext.refl _ | with_reducible assumption | with_reducible refine Ext.alloc ?_ _ | with_reducible refine Ext.drew ?_ | with_reducible refine Ext.drewN ?_ _ | (with_reducible refine Ext.setCellP ?_ ?_; focus (first | (simp; done) | (simp; omega) | omega)))), Blk.new w5 [.slice fa s.fr.length fc, .slice ha s.wh.length hc, .slice va s.vs.length vc] 30⟩ (fun W6 hW6 => ?_)
  obtain ⟨hx6, hb6⟩ := hW6
  have HX6 := Lib.hid (HX5.out.trans hx6)
  have HA6 := Lib.hid (HA5.out.later hx6)
  have HF6 := Lib.hid (HF5.out.later hx6)
  have HB6 := Lib.hid (HB5.out.later hx6)
  have HK6 := Lib.hid hb6
  have hbc6 := HB6.out.cells
  have hkc6 := HK6.out.cells
  clear hx6 hb6 HA5 HF5 HB5 HX5 HF4 HB4 HX4
  generalize w5.heap.size = xb at *
  go_upto_region 7 with (first
    | (go_at_call 27; (with_reducible refine (vecNew_good _ N _ HF6.out HNO.out HNM.out (Nat.le_trans HNS.out (by decide))).mono ?_); rintro e w7 ⟨mb, he, hM, hx7⟩; subst he; have HM7 := Lib.hid hM; have HX7 := Lib.hid (HX6.out.trans hx7); have HA7 := Lib.hid (HA6.out.later hx7); have HF7 := Lib.hid (HF6.out.later hx7); have HB7 := Lib.hid (HB6.out.later hx7); have HK7 := Lib.hid (HK6.out.later hx7); clear hM hx7))
  clear hbc6 hkc6 HA6 HF6 HB6 HK6 HX6
  have hbc7 := HB7.out.cells
  have hkc7 := HK7.out.cells
  have hN6 : N.length ≤ 1000000 := by omega
  have HAT := Lib.hid (HIT.out.at HC.out a)
  have HLT := Lib.hid (ivN_lt HIT.out.zero a)
  have HV1 := Lib.hid (HIT.out.vec HC.out a)
  have HV2 := Lib.hid (HIT.out.high HC.out a)
  have HLE1 := Lib.hid (iv_from HIT.out.zero a)
  have HLE2 := Lib.hid (iv_to HIT.out.rise HIT.out.zero a)
  have HZ := Lib.hid HIT.out.zero
  have HVL := Lib.hid (vecV_len N a)
  obtain ⟨j, hj1, hj2⟩ := HAT.out
  have HJ1 := Lib.hid hj1
  have HJ2 := Lib.hid hj2
  clear hj1 hj2 HAT
  have HE := Lib.hid (show ∀ W, UsAt W (.slice fa s.fr.length fc) s.fr → Calls Try.prog 71 #[.slice fa s.fr.length fc, I (ivN s.fr a : Nat)] W fun e w' => e = .returned (.tuple #[U (s.fr[ivN s.fr a]'HLT.out), U (endV s.fr (ivN s.fr a)), .bool true]) ∧ Ext W w' from fun W hW => (cutsEnds_any _ s.fr _ W hW HLT.out).mono fun e w' ⟨h1, h2⟩ => ⟨h1, by rw [h2]; exact Ext.refl _⟩)
  have HAV := Lib.hid (show ∀ W, AtomsAt W (.slice fa s.fr.length fc) (.slice ha s.wh.length hc) (.slice va s.vs.length vc) s → Calls Try.prog 34 #[.agg #[.slice fa s.fr.length fc, .slice ha s.wh.length hc, .slice va s.vs.length vc], U a] W fun e w' => ∃ v, e = .returned (.tuple #[v, .bool true]) ∧ OwnI w' W.heap.size v (vecV N a) ∧ Ext W w' from fun W hW => atomsAt_any _ _ _ s a j _ W hW HZ.out HJ1.out HJ2.out (by rw [HVL.out]; exact hN6))
  have HCA := Lib.hid (show ∀ W, UsAt W (.slice fa s.fr.length fc) s.fr → Calls Try.prog 37 #[.slice fa s.fr.length fc, U a] W fun e w' => e = .returned (I ((ivN s.fr a : Nat) : Int)) ∧ w' = W from fun W hW => (cutsAt_any _ s.fr a W hW).mono fun e w' ⟨h1, h2⟩ => ⟨by rw [h1, ivN_int HZ.out a], h2⟩)
  have HEV := Lib.hid (show ∀ W, AtomsAt W (.slice fa s.fr.length fc) (.slice ha s.wh.length hc) (.slice va s.vs.length vc) s → Calls Try.prog 33 #[.agg #[.slice fa s.fr.length fc, .slice ha s.wh.length hc, .slice va s.vs.length vc], I (ivN s.fr a : Nat)] W fun e w' => e = .returned (.tuple #[U (s.fr[ivN s.fr a]'HLT.out), U (endV s.fr (ivN s.fr a)), .bool true]) ∧ Ext W w' from fun W hW => atomsEnds_any _ _ _ s _ W hW _ HE.out ⟨_, _, _, rfl⟩)
  clear HE HJ1 HJ2
  generalize s.fr[ivN s.fr a]'HLT.out = lo at *
  generalize endV s.fr (ivN s.fr a) = hi at *
  have hd1 : decide (uv lo ≤ uv a) = true := decide_eq_true HLE1.out
  have hd2 : decide (uv a ≤ uv hi) = true := decide_eq_true HLE2.out
  clear HLE1 HLE2
  generalize ivN s.fr a = iv at *
  go_upto_region 8 with (first
    | (go_at_call 34; (with_reducible refine (HAV.out _ HA7.out).mono ?_); rintro e w8 ⟨v8, he, hV, hx8⟩; subst he; have HV8 := Lib.hid hV.ints; have HM8 := Lib.hid (HM7.out.later hx8); have HX8 := Lib.hid (HX7.out.trans hx8); have HA8 := Lib.hid (HA7.out.later hx8); have HK8 := Lib.hid (HK7.out.later hx8); clear hV hx8))
  have hkc8 := HK8.out.cells
  clear hkc7 hbc7
  go_upto_region 10 with (first
    | (go_at_call 37; (with_reducible refine (HCA.out _ HA8.out.fr).mono ?_); rintro e w9 ⟨he, hw⟩; subst he; obtain rfl := hw.symm)
    | (go_at_call 33; (with_reducible refine (HEV.out _ HA8.out).mono ?_); rintro e w9 ⟨he, hx9⟩; subst he; have HV9 := Lib.hid (HV8.out.later hx9); have HM9 := Lib.hid (HM8.out.later hx9); have HX9 := Lib.hid (HX8.out.trans hx9); clear hx9))
  clear hkc8
  go_wp2_with (first
    | (go_at_call 30; (with_reducible refine (vecOf_any _ mb N a _ HM9.out (netMay_tab HNM.out) hN6).mono ?_); rintro e w10 ⟨v10, he, hV, hx⟩; subst he; have HV10 := Lib.hid hV.ints; have HVO10 := Lib.hid (HV9.out.later hx); have HM10 := Lib.hid (HM9.out.later hx); have HX10 := Lib.hid (HX9.out.trans hx); clear hV hx)
    | (go_at_call 36; (with_reducible refine (r09Row_any _ _ (vecV N a) (vecV N a) _ HVO10.out HV10.out).mono ?_); rintro e w11 ⟨he, hx⟩; replace he := he.trans (congrArg (fun b => Ending.returned (.bool b)) (decide_eq_true rfl)); subst he; have HV11 := Lib.hid (HVO10.out.later hx); have HM11 := Lib.hid (HM10.out.later hx); have HX11 := Lib.hid (HX10.out.trans hx); clear hx)
    | (go_at_call 30; (with_reducible refine (vecOf_any _ mb N lo _ HM11.out (netMay_tab HNM.out) hN6).mono ?_); rintro e w12 ⟨v12, he, hV, hx⟩; subst he; rw [HV1.out] at hV; have HV12 := Lib.hid hV.ints; have HVO12 := Lib.hid (HV11.out.later hx); have HM12 := Lib.hid (HM11.out.later hx); have HX12 := Lib.hid (HX11.out.trans hx); clear hV hx)
    | (go_at_call 36; (with_reducible refine (r09Row_any _ _ (vecV N a) (vecV N a) _ HVO12.out HV12.out).mono ?_); rintro e w13 ⟨he, hx⟩; replace he := he.trans (congrArg (fun b => Ending.returned (.bool b)) (decide_eq_true rfl)); subst he; have HV13 := Lib.hid (HVO12.out.later hx); have HM13 := Lib.hid (HM12.out.later hx); have HX13 := Lib.hid (HX12.out.trans hx); clear hx)
    | (go_at_call 30; (with_reducible refine (vecOf_any _ mb N hi _ HM13.out (netMay_tab HNM.out) hN6).mono ?_); rintro e w14 ⟨v14, he, hV, hx⟩; subst he; rw [HV2.out] at hV; have HV14 := Lib.hid hV.ints; have HVO14 := Lib.hid (HV13.out.later hx); have HM14 := Lib.hid (HM13.out.later hx); have HX14 := Lib.hid (HX13.out.trans hx); clear hV hx)
    | (go_at_call 36; (with_reducible refine (r09Row_any _ _ (vecV N a) (vecV N a) _ HVO14.out HV14.out).mono ?_); rintro e w15 ⟨he, hx⟩; replace he := he.trans (congrArg (fun b => Ending.returned (.bool b)) (decide_eq_true rfl)); subst he; have HV15 := Lib.hid (HVO14.out.later hx); have HM15 := Lib.hid (HM14.out.later hx); have HX15 := Lib.hid (HX14.out.trans hx); clear hx))
  go_ret
  exact ⟨rfl, HX15.out⟩
end Go.Proofs.Ytamlalablblfeaa
