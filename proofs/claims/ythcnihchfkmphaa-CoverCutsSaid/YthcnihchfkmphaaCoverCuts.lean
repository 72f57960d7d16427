/- The law CoverCuts: the points of all parts that meet, one behind the other, are the cuts and where the parts begin, rising. Conditions: whole numbers are within 64 bits. -/
import Derived.Test.YthcnihchfkmphaaShown19
import Derived.Test.YthcnihchfkmphaaCoverA
import Derived.Test.YthcnihchfkmphaaFit19
import Derived.Test.YthcnihchfkmphaaGNetP
import Derived.Test.YthcnihchfkmphaaAllCuts
namespace Go.Proofs.Ythcnihchfkmphaa
open Go.RowKit

def addD (m d : Nat) : Nat := if m = 0 then 0 else d
theorem addD_zero (d : Nat) : addD 0 d = 0 := rfl
theorem addD_succ {m : Nat} (h : m ≠ 0) (d : Nat) : addD m d = d := if_neg h
theorem addD_le (m d : Nat) : addD m d ≤ d := by unfold addD; split <;> omega
set_option maxHeartbeats 4000000 in
set_option maxRecDepth 100000 in
theorem coverCuts_any (lv pv : Value) (ls : List (List Rul)) (ps : List Prt) (w : World) (hl : TablesAt w lv ls) (hok : TablesOk ls) (hps : PartsAt w pv ps) :
    Calls Try.prog 7 #[.agg #[lv], pv] w fun e w' => e = .returned (.bool true) ∧ Ext w w' := by
  have HL := Lib.hid hl
  have HOK := Lib.hid hok
  obtain ⟨ad, cap, hlv, a1, a2, a3⟩ := hl.form
  subst hlv
  obtain ⟨za, zcap, hzv, z1, z2, z3⟩ := hps.form
  subst hzv
  clear a3 z3 hl hok
  unfold maxLen at a2 z2
  go_enter Try.func7, Try.ntmps7
  go_upto_region 1 with (fail)
  refine hideW (Φ := fun W => Code.wp _ _ _ _ W) (fun W => Ext w W ∧ Blk W w.heap.size [.slice ad ls.length cap] 24)
    ⟨by (repeat (first | with_reducible exact Ext.refl _ | with_reducible assumption | with_reducible refine Ext.alloc ?_ _ | with_reducible refine Ext.drew ?_ | with_reducible refine Ext.drewN ?_ _ | (with_reducible refine Ext.setCellP ?_ ?_; focus (first | (simp; done) | (simp; omega) | omega)))), (Blk.new w [.slice ad ls.length cap] 24)⟩ (fun W1 hW1 => ?_)
  obtain ⟨hx1, hb1⟩ := hW1
  have HX1 := Lib.hid hx1
  have HB1 := Lib.hid hb1
  clear hx1 hb1
  generalize w.heap.size = nb at *
  go_upto_region 2 with (first
    | (go_at_call 24; (with_reducible refine (shown19_any _).mono ?_); rintro e w2 ⟨rfl, hx2⟩; have HX2 := Lib.hid (HX1.out.trans hx2); have HB2 := Lib.hid (HB1.out.later hx2); clear hx2))
  have hbc2 := HB2.out.cells
  have HNM := Lib.hid (fitN_may ls)
  have HNS := Lib.hid (fitN_size ls)
  have HNO := Lib.hid (fitN_ok ls)
  have HN20 := Lib.hid (@fitN_short ls)
  have hN := fitN_bd ls
  go_upto_region 3 with (first
    | (go_at_call 20; (with_reducible refine (r09Fit_any _ ls _ (HL.out.later HX2.out) HOK.out).mono ?_); rintro e w3 ⟨v3, he, hF, hx3⟩; subst he; have HF3 := Lib.hid hF.tables; obtain ⟨va, vcap, hv3, q1, q2, q3⟩ := HF3.out.form; subst hv3; clear q3; have HX3 := Lib.hid (HX2.out.trans hx3); clear hF hx3))
  generalize fitN ls = N at *
  clear hbc2 HB2 HB1
  unfold maxLen at q2
  refine hideW (Φ := fun W => Code.wp _ _ _ _ W) (fun W => Ext w3 W ∧ Blk W w3.heap.size [.slice va N.length vcap] 24)
    ⟨by (repeat (first | with_reducible exact Ext.refl _ | with_reducible assumption | with_reducible refine Ext.alloc ?_ _ | with_reducible refine Ext.drew ?_ | with_reducible refine Ext.drewN ?_ _ | (with_reducible refine Ext.setCellP ?_ ?_; focus (first | (simp; done) | (simp; omega) | omega)))), Blk.new w3 [.slice va N.length vcap] 24⟩ (fun W4 hW4 => ?_)
  obtain ⟨hx4, hb4⟩ := hW4
  have HX4 := Lib.hid (HX3.out.trans hx4)
  have HF4 := Lib.hid (HF3.out.later hx4)
  have HB4 := Lib.hid hb4
  have hbc4 := hb4.cells
  clear hx4 hb4 HF3 HX3 HX1 HX2
  generalize w3.heap.size = fb at *
  have HPS := Lib.hid hps
  clear hps
  go_upto_region 4 with (first
    | (go_at_call 31; (with_reducible refine (parts19_any _ ps _ (HPS.out.later HX4.out)).mono ?_); rintro e w5 ⟨v5, he, hO, hx5⟩; subst he; have HP5 := Lib.hid hO.parts; obtain ⟨pa5, pc5, hv5, -⟩ := HP5.out.form; have hv5' : v5 = .slice pa5 (partsN ps).length pc5 := hv5; subst hv5'; have HX5 := Lib.hid hx5; clear hv5 hO hx5)
    | (go_at_call 30; (with_reducible refine (fit19_any _ ps _ HP5.out).mono ?_); rintro e w6 ⟨u6, qs, L, he, hO, hCP, hq31, hx6⟩; subst he; have HP6 := Lib.hid hO.parts; have HCP := Lib.hid hCP; have HX6 := Lib.hid (HX5.out.trans hx6); obtain ⟨pa, pcap, hu6, p1, p2, p3⟩ := HP6.out.form; have hu6' : u6 = .slice pa qs.length pcap := hu6; subst hu6'; have P3 := Lib.hid p3; clear hu6 hO hCP hx6 p3))
  have HF6 := Lib.hid (HF4.out.later HX6.out)
  have HB6 := Lib.hid (HB4.out.later HX6.out)
  have HXE := Lib.hid (HX4.out.trans HX6.out)
  have hbc6 := HB6.out.cells
  have HS := Lib.hid (Nat.le_trans HNS.out (by decide : 160 ≤ 10000000))
  unfold maxLen at p2
  clear HF4 HB4 HX4 hbc4 HPS
  have HQM := Lib.hid (Nat.le_trans hq31 (by decide : 31 ≤ 1000000))
  go_upto_region 5 with (first
    | (go_at_call 32; (with_reducible refine (coverAll_yes _ _ N qs _ HF6.out HNO.out HS.out HP6.out HQM.out HCP.out.meet).mono ?_); rintro e w7 ⟨v7, C, he, hC, hO, hx7⟩; subst he; have HC := Lib.hid hC; have HU7 := Lib.hid hO.read; have HX7 := Lib.hid hx7; have HF7 := Lib.hid (HF6.out.later hx7); have HB7 := Lib.hid (HB6.out.later hx7); clear hC hO hx7))
  have HLN := Lib.hid (show C.length ≤ 321 by have h1 := HC.out.len; have h2 := HNS.out; rw [sizeN_flat] at h1; omega)
  obtain ⟨ra, rcap, hv7, s1, s2, s3⟩ := HU7.out.form
  rw [pointsL_len] at hv7 s1
  have hv7' : v7 = .slice ra qs.length rcap := hv7
  subst hv7'
  have S3 := Lib.hid s3
  clear s3 hv7 hbc6
  unfold maxLen at s2
  have hlen : ((qs.length : Int) != (qs.length : Int)) = false := by simp
  go_upto_region 7 with (fail)
  have hbc7 := HB7.out.cells
  have HCAP := Lib.hid (cap_of HS.out)
  go_upto_region 8 with (first
    | (go_at_call 21; (with_reducible refine (cutsOf_any _ N _ HF7.out HNO.out HCAP.out).mono ?_); rintro e w8 ⟨v8, l2, he, hO, hC, hx8⟩; subst he; obtain rfl := Cuts.at HC.out hC; have HC8 := Lib.hid hO.us; have HX8 := Lib.hid (HX7.out.trans hx8); have HY8 := Lib.hid hx8; clear hC hO hx8))
  clear hbc7
  obtain ⟨ca, ccap, hcv, c1, c2, c3⟩ := HC8.out.form
  have hcv' : v8 = .slice ca C.length ccap := hcv
  subst hcv'
  have C3 := Lib.hid c3
  clear c3 hcv
  unfold maxLen at c2
  have HS0 := Lib.hid (show OwnU (w8.alloc (.cells #[] 29)) w8.heap.size (.slice (some ⟨w8.heap.size, 0, none⟩) 0 0) [] from ownU_made w8 [] (by unfold maxLen; simp))
  have HRS := Lib.hid HC.out.rise
  have hln := HLN.out
  go_wp2_with fail
  go_loopw [11, 12, 13] (fun v b i wr => ∃ k : Nat, k ≤ qs.length ∧ i = I k ∧ b = I (begN C qs k : Nat) ∧ Hid (OwnU wr w8.heap.size v (allN C qs k)) ∧ Hid (Ext w8 wr)) (fun _ _ i _ => qs.length - (intOf i).toNat)
  case atStart => exact ⟨0, by omega, rfl, rfl, HS0.out, (Ext.refl w8).alloc _⟩
  case round =>
    obtain ⟨k, hk, rfl, rfl, HO, HX⟩ := hrel
    have hbk := begN_le C qs k
    by_cases hlt : k < qs.length
    · have hpk : (pointsL C qs)[k]? = some (insideV C qs[k].fr qs[k].up) := by unfold pointsL; rw [List.getElem?_map, List.getElem?_eq_getElem hlt]; rfl
      obtain ⟨b0, o0, u, rfl, c0, hus⟩ := S3.out k _ hpk
      obtain ⟨b2, o2, rfl, e0, e1, e2⟩ := P3.out k qs[k] (List.getElem?_eq_getElem hlt)
      have HAL := Lib.hid (allN_step (C := C) hlt)
      have HBG := Lib.hid (begN_step (C := C) hlt)
      have HLA := Lib.hid (allN_len HCP.out HRS.out hk)
      have HLE := Lib.hid (HCP.out.nx hlt).2.2
      have HZ0 := Lib.hid (inside_first C qs[k].fr qs[k].up)
      have HZM := Lib.hid (fun (m : Nat) (h : m < (insideV C qs[k].fr qs[k].up).length) (g : m ≠ 0) => inside_later h g)
      have HZL := Lib.hid (insideV_len C qs[k].fr qs[k].up)
      have HZP := Lib.hid (show 0 < (insideV C qs[k].fr qs[k].up).length by unfold insideV; simp)
      have HUS := Lib.hid hus
      have HC0 := Lib.hid c0
      have HE0 := Lib.hid e0
      have HE1 := Lib.hid e1
      clear hus hpk c0 e0 e1 e2
      generalize insideV C qs[k].fr qs[k].up = Z at *
      generalize qs[k] = q at *
      generalize allN C qs k = AK at *
      generalize begN C qs k = bk at *
      obtain ⟨d, hd⟩ : ∃ d : Nat, d = if decide (q.fr ∈ C) = true then 0 else 1 := ⟨_, rfl⟩
      have hd1 : d ≤ 1 := by rw [hd]; split <;> omega
      rw [← hd] at HBG
      have HD := Lib.hid hd
      clear hd
      obtain ⟨ya, ycap, hyv, y1, y2, y3⟩ := HUS.out.form
      subst hyv
      have Y3 := Lib.hid y3
      clear y3
      unfold maxLen at y2
      have hzl : Z.length ≤ 322 := by have := HZL.out; omega
      have HAT := Lib.hid (show ∀ W, UsAt W (.slice ca C.length ccap) C → Calls Try.prog 23 #[.slice ca C.length ccap, U q.fr] W fun e w' => e = .returned (I ((ivN C q.fr : Nat) : Int)) ∧ w' = W from fun W hW =>
        (cutsAt_any _ C _ W hW).mono fun e w' ⟨h1, h2⟩ => ⟨by rw [h1]; have := atN_pos HC.out.zero q.fr; unfold ivN; congr 2; omega, h2⟩)
      have hiv := ivN_lt HC.out.zero q.fr
      have HIV := Lib.hid (iv_mem_iff HRS.out HC.out.zero q.fr)
      have HCI := Lib.hid (C3.out (ivN C q.fr) C[ivN C q.fr] (List.getElem?_eq_getElem hiv))
      generalize C[ivN C q.fr] = cx at *
      generalize ivN C q.fr = iv at *
      obtain ⟨wo, rfl⟩ : ∃ wo : World, wo = wr := ⟨_, rfl⟩
      go_wp2_with fail
      go_loopw [11, 12, 14] (fun v b i wq => ∃ m : Nat, m ≤ Z.length ∧ i = I m ∧ b = I (bk + addD m d : Nat) ∧ Hid (OwnU wq w8.heap.size v (AK ++ Z.take m)) ∧ Hid (Ext w8 wq)) (fun _ _ i _ => Z.length - (intOf i).toNat)
      case atStart => exact ⟨0, by omega, rfl, rfl, by show OwnU _ _ _ _; rw [List.take_zero, List.append_nil]; exact HO.out, HX.out⟩
      case round =>
        obtain ⟨m, hm, rfl, rfl, HOm, HXm⟩ := hrel
        have had := addD_le m d
        have hc0 := (HY8.out.trans HXm.out).cell HC0.out
        have he0 := (HX8.out.trans HXm.out).cell HE0.out
        have he1 := (HX8.out.trans HXm.out).cell HE1.out
        by_cases hml : m < Z.length
        · obtain ⟨b1, o1, rfl, d0⟩ := Y3.out m Z[m] (List.getElem?_eq_getElem hml)
          replace d0 := (HY8.out.trans HXm.out).cell d0
          have HST := Lib.hid (show AK ++ Z.take (m + 1) = (AK ++ Z.take m) ++ [Z[m]] by rw [List.take_succ_eq_append_getElem hml, List.append_assoc])
          have HLEN := Lib.hid (show (AK ++ Z.take m).length ≤ 1000 by have := HLA.out; rw [List.length_append, List.length_take]; omega)
          generalize AK ++ Z.take m = A at *
          have hmd : decide ((m : Int) < (Z.length : Int)) = true := decide_eq_true (by omega)
          have hkq : decide ((k : Int) < (qs.length : Int)) = true := decide_eq_true (by omega)
          by_cases hm0 : m = 0
          · have hz : Z[m] = q.fr := by
              have h := HZ0.out
              rw [← hm0, List.getElem?_eq_getElem hml] at h
              exact Option.some.inj h
            rw [hz] at d0 HST
            have hb0 : bk + addD m d = bk := by rw [hm0, addD_zero]; rfl
            have hb1 := addD_succ (m := m + 1) (by omega) d
            have HB1 := Lib.hid hb1
            rw [hb0]
            clear hb0 hb1 hz had
            have hmz : ((m : Int) == 0) = true := by simp [hm0]
            have hmz2 : (m == 0) = true := by simp [hm0]
            have h1 : decide (uv q.fr < uv q.fr) = false := decide_eq_false (by omega)
            have h2 : decide (uv q.up < uv q.fr) = false := decide_eq_false (by have := HLE.out; omega)
            have h3 : (q.fr == q.fr) = true := by simp
            obtain ⟨b3, o3, he3, f0⟩ := HCI.out
            subst he3
            replace f0 := HXm.out.cell f0
            have hivp : decide ((iv : Int) < 0) = false := decide_eq_false (by omega)
            have hivl : decide ((C.length : Int) ≤ (iv : Int)) = false := decide_eq_false (by omega)
            clear hm0
            have HA := Lib.hid (show Ext w8 (wr.alloc (.cells #[U q.fr] 29)) from HXm.out.alloc _)
            have HOA := Lib.hid (show (wr.alloc (.cells #[U q.fr] 29)).ownsRow w8.heap.size 29 1 _ A.length (ucells A) from HOm.out.later ((Ext.refl wr).alloc _))
            have HSRC := Lib.hid (show Reads (wr.alloc (.cells #[U q.fr] 29)) 1 (.slice (some ⟨wr.heap.size, 0, none⟩) 1 1) 1 [U q.fr] from (own1_at q.fr).us)
            by_cases hmem : q.fr ∈ C
            · have hcx : cx = q.fr := HIV.out.2 hmem
              rw [hcx] at f0
              have hne : (q.fr != q.fr) = false := by simp
              have HD0 := Lib.hid (show d = 0 by rw [HD.out, if_pos (decide_eq_true hmem)])
              clear hmem hcx
              go_wp2_with (first
                | (go_at_call 23; (with_reducible refine (HAT.out _ (HC8.out.later HXm.out)).mono ?_); rintro e w' ⟨rfl, hw⟩; obtain rfl := hw.symm)
                | (at_builtin; refine wpList_app rfl (.tmp 119) (.tmp 121) 27 rfl w8.heap.size 29 _ 1 4 Try.underlying27 infoU32 rfl (by decide) (by decide) _ _ _ rfl HOA.out _ _ _ rfl HSRC.out (one_U _) (by have := HLEN.out; omega) HA.out.size ?_; intro v9 w9 ho9 hg9; have HO9 := Lib.hid ho9; have HX9 := Lib.hid (Ext.grown HA.out hg9 HOA.out (Nat.le_refl _)); clear ho9 hg9))
              go_roundw
              case rel =>
                refine ⟨m + 1, by omega, by go_num, by rw [HB1.out, HD0.out]; rfl, ?_, HX9.out⟩
                show OwnU _ _ _ _
                rw [HST.out]
                unfold OwnU
                rw [List.length_append, ucells_app]
                exact HO9.out
              case measure => simp [intOf]; omega
            · have hne : (cx != q.fr) = true := by rw [bne_iff_ne]; exact fun h => hmem (HIV.out.1 h)
              have HD0 := Lib.hid (show d = 1 by rw [HD.out, if_neg (by simpa using hmem)])
              clear hmem
              go_wp2_with (first
                | (go_at_call 23; (with_reducible refine (HAT.out _ (HC8.out.later HXm.out)).mono ?_); rintro e w' ⟨rfl, hw⟩; obtain rfl := hw.symm)
                | (at_builtin; refine wpList_app rfl (.tmp 119) (.tmp 121) 27 rfl w8.heap.size 29 _ 1 4 Try.underlying27 infoU32 rfl (by decide) (by decide) _ _ _ rfl HOA.out _ _ _ rfl HSRC.out (one_U _) (by have := HLEN.out; omega) HA.out.size ?_; intro v9 w9 ho9 hg9; have HO9 := Lib.hid ho9; have HX9 := Lib.hid (Ext.grown HA.out hg9 HOA.out (Nat.le_refl _)); clear ho9 hg9))
              go_roundw
              case rel =>
                refine ⟨m + 1, by omega, by go_num, by rw [HB1.out, HD0.out]; go_num, ?_, HX9.out⟩
                show OwnU _ _ _ _
                rw [HST.out]
                unfold OwnU
                rw [List.length_append, ucells_app]
                exact HO9.out
              case measure => simp [intOf]; omega
          · have hzm := HZM.out m hml hm0
            have HB1 := Lib.hid (show bk + addD (m + 1) d = bk + addD m d by rw [addD_succ hm0, addD_succ (by omega)])
            generalize bk + addD m d = bb at *
            generalize Z[m] = x at *
            have hmz : ((m : Int) == 0) = false := beq_false_of_ne (by omega)
            have hmz2 : (m == 0) = false := beq_false_of_ne hm0
            have h1 : decide (uv x < uv q.fr) = false := decide_eq_false (by omega)
            have h2 : decide (uv q.up < uv x) = false := decide_eq_false (by omega)
            have h3 : (x == q.fr) = false := by
              refine beq_false_of_ne fun h => ?_
              rw [h] at hzm; omega
            clear hm0 hzm
            have HA := Lib.hid (show Ext w8 (wr.alloc (.cells #[U x] 29)) from HXm.out.alloc _)
            have HOA := Lib.hid (show (wr.alloc (.cells #[U x] 29)).ownsRow w8.heap.size 29 1 _ A.length (ucells A) from HOm.out.later ((Ext.refl wr).alloc _))
            have HSRC := Lib.hid (show Reads (wr.alloc (.cells #[U x] 29)) 1 (.slice (some ⟨wr.heap.size, 0, none⟩) 1 1) 1 [U x] from (own1_at x).us)
            go_wp2_with (first
              | (at_builtin; refine wpList_app rfl (.tmp 119) (.tmp 121) 27 rfl w8.heap.size 29 _ 1 4 Try.underlying27 infoU32 rfl (by decide) (by decide) _ _ _ rfl HOA.out _ _ _ rfl HSRC.out (one_U _) (by have := HLEN.out; omega) HA.out.size ?_; intro v9 w9 ho9 hg9; have HO9 := Lib.hid ho9; have HX9 := Lib.hid (Ext.grown HA.out hg9 HOA.out (Nat.le_refl _)); clear ho9 hg9))
            go_roundw
            case rel =>
              refine ⟨m + 1, by omega, by go_num, by rw [HB1.out], ?_, HX9.out⟩
              show OwnU _ _ _ _
              rw [HST.out]
              unfold OwnU
              rw [List.length_append, ucells_app]
              exact HO9.out
            case measure => simp [intOf]; omega
        · have hme : m = Z.length := by omega
          have HCNT := Lib.hid (show bk + addD m d = begN C qs (k + 1) by rw [HBG.out, addD_succ (by have := HZP.out; omega)])
          have HFL := Lib.hid (show AK ++ Z.take m = allN C qs (k + 1) by rw [HAL.out, List.take_of_length_le (by omega)])
          have hmd : decide ((m : Int) < (Z.length : Int)) = false := decide_eq_false (by omega)
          have hmn : decide (m < Z.length) = false := decide_eq_false hml
          have hkq : decide ((k : Int) < (qs.length : Int)) = true := decide_eq_true (by omega)
          rw [HCNT.out]
          generalize hbn : begN C qs (k + 1) = bn at *
          have HBN := Lib.hid hbn
          clear hbn
          clear hme
          go_wp2_with fail
          go_roundw
          case rel => exact ⟨k + 1, by omega, by go_num, by rw [HBN.out], by show OwnU _ _ _ _; rw [← HFL.out]; exact HOm.out, HXm.out⟩
          case measure => simp [intOf]; omega
    · have hke : k = qs.length := by omega
      subst hke
      have hkd : decide ((qs.length : Int) < (qs.length : Int)) = false := decide_eq_false (by omega)
      have hkn : decide (qs.length < qs.length) = false := decide_eq_false (by omega)
      have HRA := Lib.hid (HCP.out.all HRS.out qs.length (Nat.le_refl _)).1
      have hal := HCP.out.allLen HRS.out
      have hpos := HC.out.pos
      generalize allN C qs qs.length = A at *
      generalize begN C qs qs.length = bn at *
      obtain ⟨aa, acap, hav, g1, g2, g3⟩ := HO.out.us.form
      subst hav
      have G3 := Lib.hid g3
      clear g3
      unfold maxLen at g2
      have hap : 0 < A.length := by omega
      have hne : ((A.length : Int) != (C.length : Int) + (bn : Int)) = false := by rw [bne_eq_false_iff_eq]; omega
      have hA := hal
      clear hal
      obtain ⟨wo, rfl⟩ : ∃ wo : World, wo = wr := ⟨_, rfl⟩
      go_wp2_with fail
      go_loopw [17] (fun i wq => ∃ j : Nat, j + 1 ≤ A.length ∧ i = I ((j + 1 : Nat) : Int) ∧ Hid (Ext wo wq)) (fun i _ => A.length - (intOf i).toNat)
      case atStart => exact ⟨0, by omega, rfl, Ext.refl _⟩
      case round =>
        obtain ⟨j, hj, rfl, HXj⟩ := hrel
        by_cases hjl : j + 1 < A.length
        · obtain ⟨b1, o1, he1, f1⟩ := G3.out (j + 1) A[j + 1] (List.getElem?_eq_getElem hjl)
          obtain ⟨b2, o2, he2, f2⟩ := G3.out j A[j] (List.getElem?_eq_getElem (by omega))
          subst he1
          simp only [Option.some.injEq, Addr.mk.injEq, and_true] at he2
          obtain ⟨rfl, rfl⟩ := he2
          have hlt' := HRA.out.lt (show j < j + 1 by omega) hjl
          replace f1 := HXj.out.cell f1
          replace f2 := HXj.out.cell f2
          have hjl' : j < A.length := by omega
          have hle : decide (uv A[j + 1] ≤ uv A[j]) = false := decide_eq_false (by omega)
          clear hlt'
          generalize A[j + 1] = y at *
          generalize A[j] = x at *
          have hjw : IntKind.i64.wrap (j : Int) = j := by rw [IntKind.wrap_i64]; omega
          have hd1 : decide ((j : Int) + 1 < (A.length : Int)) = true := decide_eq_true (by omega)
          have hd2 : decide ((j : Int) < (A.length : Int)) = true := decide_eq_true (by omega)
          obtain ⟨wo2, hwo2⟩ : ∃ wo2 : World, wo2 = wr := ⟨_, rfl⟩
          go_wp2_with fail
          go_quiet (fail)
          go_wp2_with fail
          go_roundw
          case rel => exact ⟨j + 1, by omega, by go_num, by have := HXj.out; show Ext _ _; (repeat (first | with_reducible exact Ext.refl _ | with_reducible assumption | with_reducible refine Ext.alloc ?_ _ | with_reducible refine Ext.drew ?_ | with_reducible refine Ext.drewN ?_ _ | (with_reducible refine Ext.setCellP ?_ ?_; focus (first | (simp; done) | (simp; omega) | omega))))⟩
          case measure => simp [intOf]; omega
        · have hd1 : decide ((j : Int) + 1 < (A.length : Int)) = false := decide_eq_false (by omega)
          have hjn : decide (j + 1 < A.length) = false := decide_eq_false hjl
          go_wp2_with fail
          go_ret
          exact ⟨rfl, HXE.out.trans (HX8.out.trans (HX.out.trans HXj.out))⟩
end Go.Proofs.Ythcnihchfkmphaa
