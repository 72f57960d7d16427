/- The law CutsKeep: within an interval of a network's cuts no node finds another rule. Conditions: whole numbers are within 64 bits. -/
import Derived.Test.YthcnihchfkmphaaGCuts
import Derived.Test.YthcnihchfkmphaaGNetP
namespace Go.Proofs.Ythcnihchfkmphaa
open Go.RowKit

set_option maxHeartbeats 4000000 in
set_option maxRecDepth 100000 in
theorem cutsKeep_any (lv : Value) (ls : List (List Rul)) (a : BitVec 32) (w : World) (hl : TablesAt w lv ls) (hok : TablesOk ls) :
    Calls Try.prog 6 #[.agg #[lv], U a] w fun e w' => e = .returned (.bool true) ∧ Ext w w' := by
  have HL := Lib.hid hl
  have HOK := Lib.hid hok
  obtain ⟨ad, cap, hlv, a1, a2, a3⟩ := hl.form
  subst hlv
  clear a3 hl hok
  unfold maxLen at a2
  go_enter Try.func6, Try.ntmps6
  go_upto_region 1 with (fail)
  refine hideW (Φ := fun W => Code.wp _ _ _ _ W) (fun W => Ext w W ∧ Blk W w.heap.size [.slice ad ls.length cap] 24)
    ⟨by (repeat (first | with_reducible exact Ext.refl _ | with_reducible assumption | with_reducible refine Ext.alloc ?_ _ | with_reducible refine Ext.drew ?_ | with_reducible refine Ext.drewN ?_ _ | (with_reducible refine Ext.setCellP ?_ ?_; focus (first | (simp; done) | (simp; omega) | omega)))), Blk.new w [.slice ad ls.length cap] 24⟩ (fun W1 hW1 => ?_)
  obtain ⟨hx1, hb1⟩ := hW1
  have HX1 := Lib.hid hx1
  have HB1 := Lib.hid hb1
  clear hx1 hb1
  generalize w.heap.size = nb at *
  go_upto_region 2 with (first
    | (go_at_call 19; (with_reducible refine (shown12_any _).mono ?_); rintro e w2 ⟨rfl, hx2⟩; have HX2 := Lib.hid (HX1.out.trans hx2); have HB2 := Lib.hid (HB1.out.later hx2); clear hx2))
  have hbc2 := HB2.out.cells
  have HNS := Lib.hid (fitN_size ls)
  have HNO := Lib.hid (fitN_ok ls)
  have hN := fitN_bd ls
  go_upto_region 3 with (first
    | (go_at_call 20; (with_reducible refine (r09Fit_any _ ls _ (HL.out.later HX2.out) HOK.out).mono ?_); rintro e w3 ⟨v3, he, hF, hx3⟩; subst he; have HF3 := Lib.hid hF.tables; obtain ⟨va, vcap, hv3, q1, q2, q3⟩ := HF3.out.form; subst hv3; clear q3; have HX3 := Lib.hid (HX2.out.trans hx3); clear hF hx3))
  generalize fitN ls = N at *
  clear hbc2 HB2 HB1
  unfold maxLen at q2
  refine hideW (Φ := fun W => Code.wp _ _ _ _ W) (fun W => Ext w3 W ∧ Blk W w3.heap.size [.slice va N.length vcap] 24)
    ⟨by (repeat (first | with_reducible exact Ext.refl _ | with_reducible assumption | with_reducible refine Ext.alloc ?_ _ | with_reducible refine Ext.drew ?_ | with_reducible refine Ext.drewN ?_ _ | (with_reducible refine Ext.setCellP ?_ ?_; focus (first | (simp; done) | (simp; omega) | omega)))), Blk.new w3 [.slice va N.length vcap] 24⟩ (fun W4 hW4 => ?_)
  obtain ⟨hx4, hb4⟩ := hW4
  have HX4 := Lib.hid (HX3.out.trans hx4)
  have HF4 := Lib.hid (HF3.out.later hx4)
  have HB4 := Lib.hid hb4
  have hbc4 := hb4.cells
  clear hx4 hb4 HF3 HX3 HX1 HX2
  generalize w3.heap.size = fb at *
  go_upto_region 4 with (first
    | (go_at_call 21; (with_reducible refine (cutsOf_any _ N _ HF4.out HNO.out (cap_of (Nat.le_trans HNS.out (by decide)))).mono ?_); rintro e w5 ⟨v5, l, he, hO, hC, hx5⟩; subst he; have HU5 := Lib.hid hO.us; have HC := Lib.hid hC; have HX5 := Lib.hid (HX4.out.trans hx5); have HF5 := Lib.hid (HF4.out.later hx5); have HB5 := Lib.hid (HB4.out.later hx5); clear hO hC hx5))
  have HZ := Lib.hid HC.out.zero
  have HLT := Lib.hid (ivN_lt HZ.out a)
  have HLO := Lib.hid (fun t ht => find_iv HC.out HZ.out a (Int.le_refl _) (Int.le_trans (iv_from HZ.out a) (iv_to HC.out.rise HZ.out a)) (t := t) ht)
  have HHI := Lib.hid (fun t ht => find_iv HC.out HZ.out a (Int.le_trans (iv_from HZ.out a) (iv_to HC.out.rise HZ.out a)) (Int.le_refl _) (t := t) ht)
  have HLN := Lib.hid (show (l.length : Int) ≤ 2 * sizeN N + 1 by have := HC.out.len; rw [sizeN_flat] at this; omega)
  have HC3 := Lib.hid (show ∀ W, UsAt W v5 l → Calls Try.prog 27 #[v5, I (ivN l a : Nat)] W fun e w' => e = .returned (.tuple #[U (l[ivN l a]'(ivN_lt HZ.out a)), U (endV l (ivN l a)), .bool true]) ∧ w' = W from fun W hW => cutsEnds_any _ l _ W hW HLT.out)
  generalize (l[ivN l a]'(ivN_lt HZ.out a)) = lo at *
  generalize endV l (ivN l a) = hi at *
  clear hbc4 HF4 HB4 HX4
  obtain ⟨ca, ccap, hcv, c1, c2, c3⟩ := HU5.out.form
  subst hcv
  clear c3
  unfold maxLen at c2
  go_upto_region 5 with (first
    | (go_at_call 23; (with_reducible refine (cutsAt_any _ l a _ HU5.out).mono ?_); rintro e w' ⟨he, rfl⟩; rw [ivN_int HZ.out a] at he; subst he)
    | (go_at_call 27; (with_reducible refine (HC3.out _ HU5.out).mono ?_); rintro e w' ⟨rfl, rfl⟩))
  have hln : decide (2 * (sizeN N : Int) + 1 < (l.length : Int)) = false := decide_eq_false (by have := HLN.out; omega)
  have hns := HNS.out
  have hbc5 := HB5.out.cells
  go_upto_region 7 with (first
    | (go_at_call 28; (with_reducible refine (netSize_any _ N _ HF5.out (by omega)).mono ?_); rintro e w6 ⟨rfl, hx6⟩; have HX6 := Lib.hid (HX5.out.trans hx6); have HF6 := Lib.hid (HF5.out.later hx6); have HB6 := Lib.hid (HB5.out.later hx6); clear hx6))
  clear hbc5 hln HF5 HB5 HX5 HU5 HLN HC3 HLT
  go_wp2_with fail
  go_loopw [11] (fun i wr => ∃ k : Nat, k ≤ N.length ∧ i = I k ∧ Ext w6 wr) (fun i _ => N.length - (intOf i).toNat)
  case atStart => exact ⟨0, by omega, rfl, Ext.refl _⟩
  case round =>
    obtain ⟨k, hk, rfl, hxr⟩ := hrel
    have hbc6 := (HB6.out.later hxr).cells
    by_cases hlt : k < N.length
    · have HFk := Lib.hid (HF6.out.later hxr)
      obtain ⟨_, _, he, _, _, g3⟩ := HFk.out.form
      obtain ⟨b0, o0, u, he2, p0, hru⟩ := g3 k N[k] (List.getElem?_eq_getElem hlt)
      simp only [Value.slice.injEq, true_and] at he
      obtain ⟨rfl, rfl⟩ := he
      subst he2
      have HR := Lib.hid hru
      have HO1 := Lib.hid (HNO.out.at hlt)
      have HE1 := Lib.hid (HLO.out N[k] (List.getElem_mem hlt))
      have HE2 := Lib.hid (HHI.out N[k] (List.getElem_mem hlt))
      have HP := Lib.hid p0
      have HXR := Lib.hid hxr
      clear g3 hru
      generalize ht : N[k] = t at *
      clear ht
      generalize ho : findL t a = o at *
      have HOA := Lib.hid ho
      clear ho
      go_upto_region 11 with (first
        | (go_at_call 29; (with_reducible refine (tableFind_any _ t a _ HR.out HO1.out).mono ?_); rintro e w7 ⟨he, hx7⟩; rw [HOA.out] at he; subst he; have HX7 := Lib.hid hx7; clear hx7))
      refine hideW (Φ := fun W => Code.wp _ _ _ _ W) (fun W => Ext wr W ∧ Blk W w7.heap.size (resR o).cells 35)
        ⟨by have := HX7.out; (repeat (first | with_reducible exact Ext.refl _ | with_reducible assumption | with_reducible refine Ext.alloc ?_ _ | with_reducible refine Ext.drew ?_ | with_reducible refine Ext.drewN ?_ _ | (with_reducible refine Ext.setCellP ?_ ?_; focus (first | (simp; done) | (simp; omega) | omega)))), Blk.new w7 (resR o).cells 35⟩ (fun W8 hW8 => ?_)
      obtain ⟨hx8, hk8⟩ := hW8
      have HX8 := Lib.hid hx8
      have HK8 := Lib.hid hk8
      have hbc8 := (HB6.out.later (HXR.out.trans hx8)).cells
      have hp8 := hx8.cell HP.out
      clear hbc6 p0 hx8 hk8
      generalize w7.heap.size = k1 at *
      go_upto_region 12 with (first
        | (go_at_call 29; (with_reducible refine (tableFind_any _ t lo _ (HR.out.later HX8.out) HO1.out).mono ?_); rintro e w9 ⟨he, hx9⟩; rw [HE1.out] at he; subst he; have HX9 := Lib.hid (HX8.out.trans hx9); have HK9 := Lib.hid (HK8.out.later hx9); clear hx9))
      refine hideW (Φ := fun W => Code.wp _ _ _ _ W) (fun W => Ext w9 W ∧ Blk W w9.heap.size (resR o).cells 35)
        ⟨by (repeat (first | with_reducible exact Ext.refl _ | with_reducible assumption | with_reducible refine Ext.alloc ?_ _ | with_reducible refine Ext.drew ?_ | with_reducible refine Ext.drewN ?_ _ | (with_reducible refine Ext.setCellP ?_ ?_; focus (first | (simp; done) | (simp; omega) | omega)))), Blk.new w9 (resR o).cells 35⟩ (fun W10 hW10 => ?_)
      obtain ⟨hx10, hl10⟩ := hW10
      have HX10 := Lib.hid (HX9.out.trans hx10)
      have HK10 := Lib.hid (HK9.out.later hx10)
      have HL10 := Lib.hid hl10
      have hbc10 := (HB6.out.later (HXR.out.trans HX10.out)).cells
      have hp10 := HX10.out.cell HP.out
      clear hbc8 hp8 hx10 hl10
      generalize w9.heap.size = k2 at *
      go_upto_region 13 with (first
        | (go_at_call 29; (with_reducible refine (tableFind_any _ t hi _ (HR.out.later HX10.out) HO1.out).mono ?_); rintro e w11 ⟨he, hx11⟩; rw [HE2.out] at he; subst he; have HX11 := Lib.hid (HX10.out.trans hx11); have HK11 := Lib.hid (HK10.out.later hx11); have HL11 := Lib.hid (HL10.out.later hx11); clear hx11))
      refine hideW (Φ := fun W => Code.wp _ _ _ _ W) (fun W => Ext w11 W ∧ Blk W w11.heap.size (resR o).cells 35)
        ⟨by (repeat (first | with_reducible exact Ext.refl _ | with_reducible assumption | with_reducible refine Ext.alloc ?_ _ | with_reducible refine Ext.drew ?_ | with_reducible refine Ext.drewN ?_ _ | (with_reducible refine Ext.setCellP ?_ ?_; focus (first | (simp; done) | (simp; omega) | omega)))), Blk.new w11 (resR o).cells 35⟩ (fun W12 hW12 => ?_)
      obtain ⟨hx12, hm12⟩ := hW12
      have HX12 := Lib.hid (HX11.out.trans hx12)
      have kc1 := (HK11.out.later hx12).cells
      have kc2 := (HL11.out.later hx12).cells
      have kc3 := hm12.cells
      clear hbc10 hp10 hx12 hm12
      generalize w11.heap.size = k3 at *
      generalize resR o = rr at *
      have heq : decide (rr = rr) = true := decide_eq_true rfl
      go_wp2_with fail
      go_roundw
      case rel => exact ⟨k + 1, by omega, by go_num, by have h1 := HXR.out; have h2 := HX12.out; have h3 := h1.trans h2; (repeat (first | with_reducible exact Ext.refl _ | with_reducible assumption | with_reducible refine Ext.alloc ?_ _ | with_reducible refine Ext.drew ?_ | with_reducible refine Ext.drewN ?_ _ | (with_reducible refine Ext.setCellP ?_ ?_; focus (first | (simp; done) | (simp; omega) | omega))))⟩
      case measure => simp [intOf]; omega
    · have hkd : decide ((k : Int) < (N.length : Int)) = false := decide_eq_false (by omega)
      have hkn : decide (k < N.length) = false := decide_eq_false hlt
      go_wp2_with fail
      go_ret
      exact ⟨rfl, HX6.out.trans hxr⟩
end Go.Proofs.Ythcnihchfkmphaa
