/- The law CoverPlaces: each point of each part is in that part, and in no other one. Conditions: whole numbers are within 64 bits. -/
import Derived.Test.YthcnihchfkmphaaShown19
import Derived.Test.YthcnihchfkmphaaCoverA
import Derived.Test.YthcnihchfkmphaaFit19
import Derived.Test.YthcnihchfkmphaaGNetP
namespace Go.Proofs.Ythcnihchfkmphaa
open Go.RowKit

set_option maxHeartbeats 4000000 in
set_option maxRecDepth 100000 in
theorem coverPlaces_any (lv pv : Value) (ls : List (List Rul)) (ps : List Prt) (a : BitVec 32) (w : World) (hl : TablesAt w lv ls) (hok : TablesOk ls) (hps : PartsAt w pv ps) :
    Calls Try.prog 9 #[.agg #[lv], pv, U a] w fun e w' => e = .returned (.bool true) ∧ Ext w w' := by
  have HL := Lib.hid hl
  have HOK := Lib.hid hok
  obtain ⟨ad, cap, hlv, a1, a2, a3⟩ := hl.form
  subst hlv
  obtain ⟨za, zcap, hzv, z1, z2, z3⟩ := hps.form
  subst hzv
  clear a3 z3 hl hok
  unfold maxLen at a2 z2
  go_enter Try.func9, Try.ntmps9
  go_upto_region 1 with (fail)
  refine hideW (Φ := fun W => Code.wp _ _ _ _ W) (fun W => Ext w W ∧ Blk W w.heap.size [.slice ad ls.length cap] 24)
    ⟨by (repeat (first | with_reducible exact Ext.refl _ | with_reducible assumption | with_reducible refine Ext.alloc ?_ _ | with_reducible refine Ext.drew ?_ | with_reducible refine Ext.drewN ?_ _ | (with_reducible refine Ext.setCellP ?_ ?_; focus (first | (simp; done) | (simp; omega) | omega)))), (Blk.new w [.slice ad ls.length cap] 24)⟩ (fun W1 hW1 => ?_)
  obtain ⟨hx1, hb1⟩ := hW1
  have HX1 := Lib.hid hx1
  have HB1 := Lib.hid hb1
  clear hx1 hb1
  generalize w.heap.size = nb at *
  go_upto_region 2 with (first
    | (go_at_call 24; (with_reducible refine (shown19_any _).mono ?_); rintro e w2 ⟨rfl, hx2⟩; have HX2 := Lib.hid (HX1.out.trans hx2); have HB2 := Lib.hid (HB1.out.later hx2); clear hx2))
  have hbc2 := HB2.out.cells
  have HNM := Lib.hid (fitN_may ls)
  have HNS := Lib.hid (fitN_size ls)
  have HNO := Lib.hid (fitN_ok ls)
  have HN20 := Lib.hid (@fitN_short ls)
  have hN := fitN_bd ls
  go_upto_region 3 with (first
    | (go_at_call 20; (with_reducible refine (r09Fit_any _ ls _ (HL.out.later HX2.out) HOK.out).mono ?_); rintro e w3 ⟨v3, he, hF, hx3⟩; subst he; have HF3 := Lib.hid hF.tables; obtain ⟨va, vcap, hv3, q1, q2, q3⟩ := HF3.out.form; subst hv3; clear q3; have HX3 := Lib.hid (HX2.out.trans hx3); clear hF hx3))
  generalize fitN ls = N at *
  clear hbc2 HB2 HB1
  unfold maxLen at q2
  refine hideW (Φ := fun W => Code.wp _ _ _ _ W) (fun W => Ext w3 W ∧ Blk W w3.heap.size [.slice va N.length vcap] 24)
    ⟨by (repeat (first | with_reducible exact Ext.refl _ | with_reducible assumption | with_reducible refine Ext.alloc ?_ _ | with_reducible refine Ext.drew ?_ | with_reducible refine Ext.drewN ?_ _ | (with_reducible refine Ext.setCellP ?_ ?_; focus (first | (simp; done) | (simp; omega) | omega)))), Blk.new w3 [.slice va N.length vcap] 24⟩ (fun W4 hW4 => ?_)
  obtain ⟨hx4, hb4⟩ := hW4
  have HX4 := Lib.hid (HX3.out.trans hx4)
  have HF4 := Lib.hid (HF3.out.later hx4)
  have HB4 := Lib.hid hb4
  have hbc4 := hb4.cells
  clear hx4 hb4 HF3 HX3 HX1 HX2
  generalize w3.heap.size = fb at *
  have HPS := Lib.hid hps
  clear hps
  go_upto_region 4 with (first
    | (go_at_call 31; (with_reducible refine (parts19_any _ ps _ (HPS.out.later HX4.out)).mono ?_); rintro e w5 ⟨v5, he, hO, hx5⟩; subst he; have HP5 := Lib.hid hO.parts; obtain ⟨pa5, pc5, hv5, -⟩ := HP5.out.form; have hv5' : v5 = .slice pa5 (partsN ps).length pc5 := hv5; subst hv5'; have HX5 := Lib.hid hx5; clear hv5 hO hx5)
    | (go_at_call 30; (with_reducible refine (fit19_any _ ps _ HP5.out).mono ?_); rintro e w6 ⟨u6, qs, L, he, hO, hCP, hq31, hx6⟩; subst he; have HP6 := Lib.hid hO.parts; have HCP := Lib.hid hCP; have HX6 := Lib.hid (HX5.out.trans hx6); obtain ⟨pa, pcap, hu6, p1, p2, p3⟩ := HP6.out.form; have hu6' : u6 = .slice pa qs.length pcap := hu6; subst hu6'; have P3 := Lib.hid p3; clear hu6 hO hCP hx6 p3))
  have HF6 := Lib.hid (HF4.out.later HX6.out)
  have HB6 := Lib.hid (HB4.out.later HX6.out)
  have HXE := Lib.hid (HX4.out.trans HX6.out)
  have hbc6 := HB6.out.cells
  have HS := Lib.hid (Nat.le_trans HNS.out (by decide : 160 ≤ 10000000))
  unfold maxLen at p2
  clear HF4 HB4 HX4 hbc4 HPS
  have HQM := Lib.hid (Nat.le_trans hq31 (by decide : 31 ≤ 1000000))
  go_upto_region 5 with (first
    | (go_at_call 32; (with_reducible refine (coverAll_yes _ _ N qs _ HF6.out HNO.out HS.out HP6.out HQM.out HCP.out.meet).mono ?_); rintro e w7 ⟨v7, l, he, hC, hO, hx7⟩; subst he; have HC := Lib.hid hC; have HU7 := Lib.hid hO.read; have HX7 := Lib.hid hx7; clear hC hO hx7))
  have HLN := Lib.hid (show l.length ≤ 321 by have h1 := HC.out.len; have h2 := HNS.out; rw [sizeN_flat] at h1; omega)
  obtain ⟨ra, rcap, hv7, s1, s2, s3⟩ := HU7.out.form
  rw [pointsL_len] at hv7 s1
  have hv7' : v7 = .slice ra qs.length rcap := hv7
  subst hv7'
  have S3 := Lib.hid s3
  clear s3 hv7 hbc6
  unfold maxLen at s2
  have hlen : ((qs.length : Int) != (qs.length : Int)) = false := by simp
  have HIV := Lib.hid (HCP.out.at a)
  go_upto_region 8 with (fail)
  go_loopw [12] (fun i wr => ∃ k : Nat, k ≤ qs.length ∧ i = I k ∧ Hid (Ext w7 wr)) (fun i _ => qs.length - (intOf i).toNat)
  case atStart => exact ⟨0, by omega, rfl, Ext.refl _⟩
  case round =>
    obtain ⟨k, hk, rfl, HX⟩ := hrel
    by_cases hlt : k < qs.length
    · have hpk : (pointsL l qs)[k]? = some (insideV l qs[k].fr qs[k].up) := by unfold pointsL; rw [List.getElem?_map, List.getElem?_eq_getElem hlt]; rfl
      obtain ⟨b0, o0, u, rfl, c0, hus⟩ := S3.out k _ hpk
      have HPL := Lib.hid (fun c => HCP.out.place (l := l) hlt (c := c))
      have hZL : (insideV l qs[k].fr qs[k].up).length ≤ 1000 := by have h1 := insideV_len l qs[k].fr qs[k].up; have h2 := HLN.out; omega
      have HUS := Lib.hid hus
      have HC0 := Lib.hid c0
      clear hus hpk c0
      generalize insideV l qs[k].fr qs[k].up = Z at *
      obtain ⟨ya, ycap, hyv, y1, y2, y3⟩ := HUS.out.form
      subst hyv
      have Y3 := Lib.hid y3
      clear y3
      unfold maxLen at y2
      obtain ⟨wo, rfl⟩ : ∃ wo : World, wo = wr := ⟨_, rfl⟩
      have hkd : decide ((k : Int) < (qs.length : Int)) = true := decide_eq_true (by omega)
      go_wp2_with fail
      go_loopw [13] (fun i wq => ∃ j : Nat, j ≤ Z.length ∧ i = I j ∧ Hid (Ext w7 wq)) (fun i _ => Z.length - (intOf i).toNat)
      case atStart => exact ⟨0, by omega, rfl, HX.out⟩
      case round =>
        obtain ⟨j, hj, rfl, HXj⟩ := hrel
        have hc0 := HXj.out.cell HC0.out
        by_cases hjl : j < Z.length
        · obtain ⟨b1, o1, rfl, d0⟩ := Y3.out j Z[j] (List.getElem?_eq_getElem hjl)
          replace d0 := HXj.out.cell d0
          have HV := Lib.hid (coverV_yes (HPL.out Z[j] (List.getElem_mem hjl)) hlt)
          generalize Z[j] = c at *
          have hkk : ((k : Int) != (k : Int)) = false := by simp
          go_wp2_with (first
            | (go_at_call 35; (with_reducible refine (coverAt_any _ qs c _ (HP6.out.later (HX7.out.trans HXj.out))).mono ?_); rintro e w8 ⟨he, hx8⟩; rw [HV.out] at he; subst he; have HX8 := Lib.hid (HXj.out.trans hx8); clear hx8))
          go_roundw
          case rel => exact ⟨j + 1, by omega, by go_num, HX8.out⟩
          case measure => simp [intOf]; omega
        · have hjd : decide ((j : Int) < (Z.length : Int)) = false := decide_eq_false (by omega)
          have hjn : decide (j < Z.length) = false := decide_eq_false hjl
          go_wp2_with fail
          go_roundw
          case rel => exact ⟨k + 1, by omega, by go_num, HXj.out⟩
          case measure => simp [intOf]; omega
    · have hkd : decide ((k : Int) < (qs.length : Int)) = false := decide_eq_false (by omega)
      have hkn : decide (k < qs.length) = false := decide_eq_false hlt
      obtain ⟨wo, rfl⟩ : ∃ wo : World, wo = wr := ⟨_, rfl⟩
      go_wp2_with fail
      go_loopw [16, 17] (fun b i wq => ∃ m : Nat, m ≤ qs.length ∧ i = I m ∧ b = I ((min m (ivN L a + 1) - 1 : Nat) : Int) ∧ Hid (Ext wo wq)) (fun _ i _ => qs.length - (intOf i).toNat)
      case atStart => exact ⟨0, by omega, rfl, by simp, Ext.refl _⟩
      case round =>
        obtain ⟨m, hm, rfl, rfl, HXm⟩ := hrel
        by_cases hml : m < qs.length
        · obtain ⟨b1, o1, rfl, d0, d1, d2⟩ := P3.out m qs[m] (List.getElem?_eq_getElem hml)
          replace d0 := (HX7.out.trans (HX.out.trans HXm.out)).cell d0
          have HBE := Lib.hid (HCP.out.best a hml)
          clear d1 d2
          generalize qs[m] = p at *
          by_cases hle : uv p.fr ≤ uv a
          · have hd : decide (uv p.fr ≤ uv a) = true := decide_eq_true hle
            have HM := Lib.hid (show (min (m + 1) (ivN L a + 1) - 1 : Nat) = m by have := HBE.out.1 hle; omega)
            clear hle
            go_wp2_with fail
            go_roundw
            case rel => exact ⟨m + 1, by omega, by go_num, by rw [HM.out], HXm.out⟩
            case measure => simp [intOf]; omega
          · have hd : decide (uv p.fr ≤ uv a) = false := decide_eq_false hle
            have HM := Lib.hid (show (min (m + 1) (ivN L a + 1) - 1 : Nat) = (min m (ivN L a + 1) - 1 : Nat) by
              have h1 : ¬ m ≤ ivN L a := fun h => hle (HBE.out.2 h)
              omega)
            clear hle
            go_wp2_with fail
            go_roundw
            case rel => exact ⟨m + 1, by omega, by go_num, by rw [HM.out], HXm.out⟩
            case measure => simp [intOf]; omega
        · have hjd : decide ((m : Int) < (qs.length : Int)) = false := decide_eq_false (by omega)
          have hjn : decide (m < qs.length) = false := decide_eq_false hml
          have HV := Lib.hid (coverV_yes HIV.out.1 HIV.out.2)
          have HV2 := Lib.hid (coverV_no (ps := []) (a := a) (Nat.zero_le _))
          have hmn : (min m (ivN L a + 1) - 1 : Nat) = ivN L a := by have := HIV.out.2; omega
          rw [hmn]
          clear hmn
          generalize ivN L a = iv at *
          have hiv : ((iv : Int) == (iv : Int)) = true := by simp
          go_wp2_with (first
            | (go_at_call 35; (with_reducible refine (coverAt_any _ qs a _ (HP6.out.later (HX7.out.trans (HX.out.trans HXm.out)))).mono ?_); rintro e w8 ⟨he, hx8⟩; rw [HV.out] at he; subst he; have HX8 := Lib.hid hx8; clear hx8)
            | (go_at_call 35; (with_reducible refine (coverAt_any _ [] a _ (parts_nil _)).mono ?_); rintro e w9 ⟨he, hx9⟩; rw [HV2.out] at he; subst he; have HX9 := Lib.hid hx9; clear hx9))
          go_ret
          exact ⟨rfl, HXE.out.trans (HX7.out.trans (HX.out.trans (HXm.out.trans (HX8.out.trans HX9.out))))⟩
end Go.Proofs.Ythcnihchfkmphaa
