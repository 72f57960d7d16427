/- The law AtomsCuts: each atom begins at a cut, and each other cut has the vector of the one ahead. Conditions: whole numbers are within 64 bits. -/
import Derived.Test.YtamlalablblfeaaAtomsOfG
import Derived.Test.YtamlalablblfeaaCloneI
import Derived.Test.YtamlalablblfeaaShown16
import Derived.Test.YtamlalablblfeaaFew
namespace Go.Proofs.Ytamlalablblfeaa
open Go Go.RowKit Go.Maps Go.Proofs

set_option maxHeartbeats 4000000 in
set_option maxRecDepth 100000 in
theorem atomsCuts_any (lv : Value) (ls : List (List Rul)) (w : World) (hl : TablesAt w lv ls) (hok : TablesOk ls) :
    Calls Try.prog 4 #[.agg #[lv]] w fun e w' => e = .returned (.bool true) ∧ Ext w w' := by
  have HL := Lib.hid hl
  have HOK := Lib.hid hok
  obtain ⟨ad, cap, hlv, a1, a2, a3⟩ := hl.form
  subst hlv
  clear a3 hl hok
  unfold maxLen at a2
  go_enter Try.func4, Try.ntmps4
  go_upto_region 1 with (fail)
  refine hideW (Φ := fun W => Code.wp _ _ _ _ W) (fun W => Ext w W ∧ Blk W w.heap.size [.slice ad ls.length cap] 24)
    ⟨by (repeat (first | with_reducible exact Ext.refl _ | with_reducible assumption | with_reducible refine Ext.alloc ?_ _ | with_reducible refine Ext.drew ?_ | with_reducible refine Ext.drewN ?_ _ | (with_reducible refine Ext.setCellP ?_ ?_; focus (first | (simp; done) | (simp; omega) | omega)))), (Blk.new w [.slice ad ls.length cap] 24)⟩ (fun W1 hW1 => ?_)
  obtain ⟨hx1, hb1⟩ := hW1
  have HX1 := Lib.hid hx1
  have HB1 := Lib.hid hb1
  clear hx1 hb1
  generalize w.heap.size = nb at *
  go_upto_region 2 with (first
    | (go_at_call 21; (with_reducible refine (shown16_any _).mono ?_); rintro e w2 ⟨rfl, hx2⟩; have HX2 := Lib.hid (HX1.out.trans hx2); have HB2 := Lib.hid (HB1.out.later hx2); clear hx2))
  have hbc2 := HB2.out.cells
  have HNM := Lib.hid (fitN_may ls)
  have HNS := Lib.hid (fitN_size ls)
  have HNO := Lib.hid (fitN_ok ls)
  have HN20 := Lib.hid (@fitN_short ls)
  have hN := fitN_bd ls
  go_upto_region 3 with (first
    | (go_at_call 25; (with_reducible refine (r09Fit_any _ ls _ (HL.out.later HX2.out) HOK.out).mono ?_); rintro e w3 ⟨v3, he, hF, hx3⟩; subst he; have HF3 := Lib.hid hF.tables; obtain ⟨va, vcap, hv3, q1, q2, q3⟩ := HF3.out.form; subst hv3; clear q3; have HX3 := Lib.hid (HX2.out.trans hx3); clear hF hx3))
  generalize fitN ls = N at *
  clear hbc2 HB2 HB1
  unfold maxLen at q2
  refine hideW (Φ := fun W => Code.wp _ _ _ _ W) (fun W => Ext w3 W ∧ Blk W w3.heap.size [.slice va N.length vcap] 24)
    ⟨by (repeat (first | with_reducible exact Ext.refl _ | with_reducible assumption | with_reducible refine Ext.alloc ?_ _ | with_reducible refine Ext.drew ?_ | with_reducible refine Ext.drewN ?_ _ | (with_reducible refine Ext.setCellP ?_ ?_; focus (first | (simp; done) | (simp; omega) | omega)))), Blk.new w3 [.slice va N.length vcap] 24⟩ (fun W4 hW4 => ?_)
  obtain ⟨hx4, hb4⟩ := hW4
  have HX4 := Lib.hid (HX3.out.trans hx4)
  have HF4 := Lib.hid (HF3.out.later hx4)
  have HB4 := Lib.hid hb4
  have hbc4 := hb4.cells
  clear hx4 hb4 HF3 HX3 HX1 HX2
  generalize w3.heap.size = fb at *
  go_upto_region 4 with (first
    | (go_at_call 22; (with_reducible refine (atomsOf_good _ N _ HF4.out HNO.out HNM.out).mono ?_); rintro e w5 ⟨fv, hv, vv, l, he, hC, hA, hx5⟩; subst he; have HC := Lib.hid hC; have HIT := Lib.hid (atomsIt hC); have HA5 := Lib.hid hA; have HX5 := Lib.hid (HX4.out.trans hx5); have HF5 := Lib.hid (HF4.out.later hx5); have HB5 := Lib.hid (HB4.out.later hx5); obtain ⟨fa, fc, ha, hc, va, vc, e1, e2, e3⟩ := hA.forms; subst e1 e2 e3; clear hC hA hx5))
  clear hbc4
  have HLL := Lib.hid (show (atomsL (vecV N) l).fr.length ≤ 100000 by
    have h1 := ats_few (vecV N) l
    have h2 := HC.out.len
    rw [sizeN_flat] at h2
    have h3 := HNS.out
    omega)
  generalize hs : atomsL (vecV N) l = s at *
  have HS := Lib.hid hs
  clear hs
  refine hideW (Φ := fun W => Code.wp _ _ _ _ W) (fun W => Ext w5 W ∧ Blk W w5.heap.size [.slice fa s.fr.length fc, .slice ha s.wh.length hc, .slice va s.vs.length vc] 30)
    ⟨by (repeat (first | with_reducible exact Ext.refl _ | with_reducible assumption | with_reducible refine Ext.alloc ?_ _ | with_reducible refine Ext.drew ?_ | with_reducible refine Ext.drewN ?_ _ | (with_reducible refine Ext.setCellP ?_ ?_; focus (first | (simp; done) | (simp; omega) | omega)))), Blk.new w5 [.slice fa s.fr.length fc, .slice ha s.wh.length hc, .slice va s.vs.length vc] 30⟩ (fun W6 hW6 => ?_)
  obtain ⟨hx6, hb6⟩ := hW6
  have HX6 := Lib.hid (HX5.out.trans hx6)
  have HA6 := Lib.hid (HA5.out.later hx6)
  have HF6 := Lib.hid (HF5.out.later hx6)
  have HB6 := Lib.hid (HB5.out.later hx6)
  have HK6 := Lib.hid hb6
  have hbc6 := HB6.out.cells
  have hkc6 := HK6.out.cells
  clear hx6 hb6 HA5 HF5 HB5 HX5 HF4 HB4 HX4
  generalize w5.heap.size = xb at *
  go_upto_region 5 with (first
    | (go_at_call 27; (with_reducible refine (vecNew_good _ N _ HF6.out HNO.out HNM.out (Nat.le_trans HNS.out (by decide))).mono ?_); rintro e w7 ⟨mb, he, hM, hx7⟩; subst he; have HM7 := Lib.hid hM; have HX7 := Lib.hid (HX6.out.trans hx7); have HA7 := Lib.hid (HA6.out.later hx7); have HF7 := Lib.hid (HF6.out.later hx7); have HB7 := Lib.hid (HB6.out.later hx7); have HK7 := Lib.hid (HK6.out.later hx7); clear hM hx7))
  clear hbc6 hkc6 HA6 HF6 HB6 HK6 HX6
  have hbc7 := HB7.out.cells
  have hkc7 := HK7.out.cells
  have hN6 : N.length ≤ 1000000 := by omega
  have HCW := Lib.hid (cut_ways HC.out HS.out)
  have HSZ := Lib.hid (Nat.le_trans HNS.out (by decide : 160 ≤ 10000000))
  go_upto_region 6 with (first
    | (go_at_call 28; (with_reducible refine (cutsOf_any _ N _ HF7.out HNO.out (cap_of HSZ.out)).mono ?_); rintro e w8 ⟨v8, l8, he, hO, hC, hx8⟩; subst he; obtain rfl := Cuts.at HC.out hC; have HU8 := Lib.hid hO.us; have HM8 := Lib.hid (HM7.out.later hx8); have HX8 := Lib.hid (HX7.out.trans hx8); have HA8 := Lib.hid (HA7.out.later hx8); have HK8 := Lib.hid (HK7.out.later hx8); clear hO hC hx8))
  clear hbc7 hkc7 HA7 HF7 HB7 HK7 HM7 HX7 HS HSZ
  have HL0 := Lib.hid HC.out.pos
  have HLL2 := Lib.hid (show l.length ≤ 100000 by
    have h2 := HC.out.len
    rw [sizeN_flat] at h2
    have h3 := HNS.out
    omega)
  obtain ⟨ca, ccap, hcv, c1, c2, c3⟩ := HU8.out.form
  have C3 := Lib.hid c3
  subst hcv
  unfold maxLen at c2
  clear c3
  obtain ⟨xa, xcap, hxv, x1, x2, x3⟩ := HA8.out.fr.form
  have X3 := Lib.hid x3
  simp only [Value.slice.injEq, true_and] at hxv
  obtain ⟨rfl, rfl⟩ := hxv
  unfold maxLen at x2
  clear x3
  obtain ⟨aN, hA0, hA1, hW⟩ := HCW.out
  have HA0 := Lib.hid hA0
  have HA1 := Lib.hid hA1
  have HW := Lib.hid hW
  clear hA0 hA1 hW HCW
  have hl0 : ((l.length : Int) == 0) = false := beq_false_of_ne (by have := HL0.out; omega)
  go_wp2_with fail
  go_loopw [10, 11] (fun at_ i wr => ∃ k : Nat, k ≤ l.length ∧ i = I k ∧ at_ = I (aN k) ∧ Hid (Ext w8 wr)) (fun _ i _ => l.length - (intOf i).toNat)
  case atStart => exact ⟨0, by omega, rfl, by rw [HA0.out]; rfl, Ext.refl _⟩
  case round =>
    obtain ⟨k, hk, rfl, rfl, HX⟩ := hrel
    have HMr := Lib.hid (HM8.out.later HX.out)
    have HKr := Lib.hid (HK8.out.later HX.out)
    by_cases hlt : k < l.length
    · have hkd : decide ((k : Int) < (l.length : Int)) = true := decide_eq_true (by omega)
      obtain ⟨b0, o0, he0, p0⟩ := C3.out k l[k] (List.getElem?_eq_getElem hlt)
      subst he0
      have HP0 := Lib.hid (HX.out.cell p0)
      clear p0
      rcases HW.out k hlt with ⟨h1, h2⟩ | ⟨j, hj, hjk, h1, h2, h3⟩
      · -- an atom begins here
        have hal := (List.getElem?_eq_some_iff.1 h1).1
        have HST := Lib.hid h2
        obtain ⟨b1, o1, he1, p1⟩ := X3.out (aN k) l[k] h1
        subst he1
        have HP1 := Lib.hid (HX.out.cell p1)
        clear p1 h1 h2
        generalize l[k] = x at *
        generalize aN k = an at *
        have had : decide ((an : Int) < (s.fr.length : Int)) = true := decide_eq_true (by omega)
        have hkr := HKr.out.cells
        go_wp2_with fail
        refine wp_region_E 16 rfl (by kernel_rfl) (by kernel_rfl) ?_
        have k1 := Ext.keep HP0.out
        have k2 := Ext.keep HP1.out
        have k3 := HKr.out.keep
        refine WE_q 0 rfl (by decide) (by kernel_rfl) rfl ?_; apply Exists.intro; refine ⟨fun w1 hx1 => ?_, ?_⟩
        · have hq1 := hx1.cells; go_simp; try go_bits
          first | with_reducible rfl
        simp only [Act.put, List.setIfInBounds_toArray, List.set_cons_zero, List.set_cons_succ]
        refine WE_q 1 rfl (by decide) (by kernel_rfl) rfl ?_; apply Exists.intro; refine ⟨fun w1 hx1 => ?_, ?_⟩
        · have hq1 := hx1.cells; go_simp; try go_bits
          first | with_reducible rfl
        simp only [Act.put, List.setIfInBounds_toArray, List.set_cons_zero, List.set_cons_succ]
        refine WE_q 2 rfl (by decide) (by kernel_rfl) rfl ?_; apply Exists.intro; refine ⟨fun w1 hx1 => ?_, ?_⟩
        · have hq1 := hx1.cells; go_simp; try go_bits
          first | with_reducible rfl
        simp only [Act.put, List.setIfInBounds_toArray, List.set_cons_zero, List.set_cons_succ]
        refine WE_q 3 rfl (by decide) (by kernel_rfl) rfl ?_; apply Exists.intro; refine ⟨fun w1 hx1 => ?_, ?_⟩
        · have hq1 := hx1.cells; go_simp; try go_bits
          first | with_reducible rfl
        simp only [Act.put, List.setIfInBounds_toArray, List.set_cons_zero, List.set_cons_succ]
        refine WE_q 4 rfl (by decide) (by kernel_rfl) rfl ?_; apply Exists.intro; refine ⟨fun w1 hx1 => ?_, ?_⟩
        · have hq1 := hx1.cells; go_simp; try go_bits
          first | with_reducible rfl
        simp only [Act.put, List.setIfInBounds_toArray, List.set_cons_zero, List.set_cons_succ]
        refine WE_q 5 rfl (by decide) (by kernel_rfl) rfl ?_; apply Exists.intro; refine ⟨fun w1 hx1 => ?_, ?_⟩
        · have hq1 := hx1.cells; go_simp; try go_bits
          first | with_reducible rfl
        simp only [Act.put, List.setIfInBounds_toArray, List.set_cons_zero, List.set_cons_succ]
        refine WE_q 6 rfl (by decide) (by kernel_rfl) rfl ?_; apply Exists.intro; refine ⟨fun w1 hx1 => ?_, ?_⟩
        · have hq1 := hx1.cells; go_simp; try go_bits
          first | with_reducible rfl
        simp only [Act.put, List.setIfInBounds_toArray, List.set_cons_zero, List.set_cons_succ]
        refine WE_q 7 rfl (by decide) (by kernel_rfl) rfl ?_; apply Exists.intro; refine ⟨fun w1 hx1 => ?_, ?_⟩
        · have hq1 := hx1.cells; go_simp; try go_bits
          first | with_reducible rfl
        simp only [Act.put, List.setIfInBounds_toArray, List.set_cons_zero, List.set_cons_succ]
        refine WE_q 8 rfl (by decide) (by kernel_rfl) rfl ?_; apply Exists.intro; refine ⟨fun w1 hx1 => ?_, ?_⟩
        · have hq1 := hx1.cells; go_simp; try go_bits
          first | with_reducible rfl
        simp only [Act.put, List.setIfInBounds_toArray, List.set_cons_zero, List.set_cons_succ]
        refine WE_q 9 rfl (by decide) (by kernel_rfl) rfl ?_; apply Exists.intro; refine ⟨fun w1 hx1 => ?_, ?_⟩
        · have hq1 := hx1.cells; go_simp; try go_bits
          first | with_reducible rfl
        simp only [Act.put, List.setIfInBounds_toArray, List.set_cons_zero, List.set_cons_succ]
        refine WE_q 10 rfl (by decide) (by kernel_rfl) rfl ?_; apply Exists.intro; refine ⟨fun w1 hx1 => ?_, ?_⟩
        · have hq1 := hx1.cells; go_simp; try go_bits
          first | with_reducible rfl
        simp only [Act.put, List.setIfInBounds_toArray, List.set_cons_zero, List.set_cons_succ]
        refine WE_q 11 rfl (by decide) (by kernel_rfl) rfl ?_; apply Exists.intro; refine ⟨fun w1 hx1 => ?_, ?_⟩
        · have hq1 := hx1.cells; go_simp; try go_bits
          first | with_reducible rfl
        simp only [Act.put, List.setIfInBounds_toArray, List.set_cons_zero, List.set_cons_succ]
        refine WE_q 12 rfl (by decide) (by kernel_rfl) rfl ?_; apply Exists.intro; refine ⟨fun w1 hx1 => ?_, ?_⟩
        · have hq1 := hx1.cells; go_simp; try go_bits
          first | with_reducible rfl
        simp only [Act.put, List.setIfInBounds_toArray, List.set_cons_zero, List.set_cons_succ]
        refine WE_q 13 rfl (by decide) (by kernel_rfl) rfl ?_; apply Exists.intro; refine ⟨fun w1 hx1 => ?_, ?_⟩
        · have hq1 := hx1.cells; go_simp; try go_bits
          first | with_reducible rfl
        simp only [Act.put, List.setIfInBounds_toArray, List.set_cons_zero, List.set_cons_succ]
        refine WE_q 14 rfl (by decide) (by kernel_rfl) rfl ?_; apply Exists.intro; refine ⟨fun w1 hx1 => ?_, ?_⟩
        · have hq1 := hx1.cells; go_simp; try go_bits
          first | with_reducible rfl
        simp only [Act.put, List.setIfInBounds_toArray, List.set_cons_zero, List.set_cons_succ]
        refine WE_q 15 rfl (by decide) (by kernel_rfl) rfl ?_; apply Exists.intro; refine ⟨fun w1 hx1 => ?_, ?_⟩
        · have hq1 := hx1.cells; go_simp; try go_bits
          first | with_reducible rfl
        simp only [Act.put, List.setIfInBounds_toArray, List.set_cons_zero, List.set_cons_succ]
        refine WE_done (by kernel_rfl) (fun w9 hx9 => ?_)
        (try simp only [List.drop_succ_cons, List.drop_zero])
        clear k1 k2 k3
        have HX9 := Lib.hid (HX.out.trans hx9)
        clear hx9
        have hxx : (uv x == uv x) = true := by simp
        go_wp2_with fail
        go_roundw
        case rel => exact ⟨k + 1, by omega, by go_num, by rw [HST.out]; go_num, HX9.out⟩
        case measure => simp [intOf]; omega
      · -- the cut ahead has the same vector
        have HJK := Lib.hid hjk
        have HST := Lib.hid h3
        obtain ⟨b1, o1, he1, p1⟩ := C3.out j l[j] (List.getElem?_eq_getElem hj)
        simp only [Option.some.injEq, Addr.mk.injEq, and_true] at he1
        obtain ⟨rfl, rfl⟩ := he1
        have HP1 := Lib.hid (HX.out.cell p1)
        have HV := Lib.hid h1
        have HNE := Lib.hid h2
        have hk0 : ((k : Int) == 0) = false := beq_false_of_ne (by omega)
        clear p1 h1 h2 h3 hjk
        have HFRX := Lib.hid (show (s.fr.length ≤ aN k) ∨ ∃ (c : BitVec 32), s.fr[aN k]? = some c ∧ (uv c == uv l[k]) = false from by
          rcases Nat.lt_or_ge (aN k) s.fr.length with g | g
          · refine .inr ⟨s.fr[aN k], List.getElem?_eq_getElem g, beq_false_of_ne fun e => HNE.out ?_⟩
            rw [← uv_inj e]
            exact List.getElem?_eq_getElem g
          · exact .inl g)
        have HXK := Lib.hid (show l[k]? = some l[k] from List.getElem?_eq_getElem hlt)
        have HXJ := Lib.hid (show l[j]? = some l[j] from List.getElem?_eq_getElem hj)
        generalize l[k] = x at *
        generalize l[j] = y at *
        generalize hge : aN k = an at *
        clear hge
        have hkr := HKr.out.cells
        go_upto_region 12 with (fail)
        go_cut [68] (fun c wc => c = .bool false ∧ Hid (Ext w8 wc))
        case first =>
          rcases HFRX.out with g | ⟨c, g1, g2⟩
          · have had : decide ((an : Int) < (s.fr.length : Int)) = false := decide_eq_false (by omega)
            have hadn : decide (an < s.fr.length) = false := decide_eq_false (by omega)
            refine wp_region_E 16 rfl (by kernel_rfl) (by kernel_rfl) ?_
            have k3 := HKr.out.keep
            refine WE_q 0 rfl (by decide) (by kernel_rfl) rfl ?_; apply Exists.intro; refine ⟨fun w1 hx1 => ?_, ?_⟩
            · have hq1 := hx1.cells; go_simp; try go_bits
              first | with_reducible rfl
            simp only [Act.put, List.setIfInBounds_toArray, List.set_cons_zero, List.set_cons_succ]
            refine WE_q 1 rfl (by decide) (by kernel_rfl) rfl ?_; apply Exists.intro; refine ⟨fun w1 hx1 => ?_, ?_⟩
            · have hq1 := hx1.cells; go_simp; try go_bits
              first | with_reducible rfl
            simp only [Act.put, List.setIfInBounds_toArray, List.set_cons_zero, List.set_cons_succ]
            refine WE_q 2 rfl (by decide) (by kernel_rfl) rfl ?_; apply Exists.intro; refine ⟨fun w1 hx1 => ?_, ?_⟩
            · have hq1 := hx1.cells; go_simp; try go_bits
              first | with_reducible rfl
            simp only [Act.put, List.setIfInBounds_toArray, List.set_cons_zero, List.set_cons_succ]
            refine WE_q 3 rfl (by decide) (by kernel_rfl) rfl ?_; apply Exists.intro; refine ⟨fun w1 hx1 => ?_, ?_⟩
            · have hq1 := hx1.cells; go_simp; try go_bits
              first | with_reducible rfl
            simp only [Act.put, List.setIfInBounds_toArray, List.set_cons_zero, List.set_cons_succ]
            refine WE_q 4 rfl (by decide) (by kernel_rfl) rfl ?_; apply Exists.intro; refine ⟨fun w1 hx1 => ?_, ?_⟩
            · have hq1 := hx1.cells; go_simp; try go_bits
              first | with_reducible rfl
            simp only [Act.put, List.setIfInBounds_toArray, List.set_cons_zero, List.set_cons_succ]
            refine WE_q 5 rfl (by decide) (by kernel_rfl) rfl ?_; apply Exists.intro; refine ⟨fun w1 hx1 => ?_, ?_⟩
            · have hq1 := hx1.cells; go_simp; try go_bits
              first | with_reducible rfl
            simp only [Act.put, List.setIfInBounds_toArray, List.set_cons_zero, List.set_cons_succ]
            refine WE_s 6 rfl (by decide) (by kernel_rfl) rfl ?_
            simp only [Act.put, List.setIfInBounds_toArray, List.set_cons_zero, List.set_cons_succ]
            refine WE_s 7 rfl (by decide) (by kernel_rfl) rfl ?_
            simp only [Act.put, List.setIfInBounds_toArray, List.set_cons_zero, List.set_cons_succ]
            refine WE_s 8 rfl (by decide) (by kernel_rfl) rfl ?_
            simp only [Act.put, List.setIfInBounds_toArray, List.set_cons_zero, List.set_cons_succ]
            refine WE_s 9 rfl (by decide) (by kernel_rfl) rfl ?_
            simp only [Act.put, List.setIfInBounds_toArray, List.set_cons_zero, List.set_cons_succ]
            refine WE_s 10 rfl (by decide) (by kernel_rfl) rfl ?_
            simp only [Act.put, List.setIfInBounds_toArray, List.set_cons_zero, List.set_cons_succ]
            refine WE_s 11 rfl (by decide) (by kernel_rfl) rfl ?_
            simp only [Act.put, List.setIfInBounds_toArray, List.set_cons_zero, List.set_cons_succ]
            refine WE_s 12 rfl (by decide) (by kernel_rfl) rfl ?_
            simp only [Act.put, List.setIfInBounds_toArray, List.set_cons_zero, List.set_cons_succ]
            refine WE_s 13 rfl (by decide) (by kernel_rfl) rfl ?_
            simp only [Act.put, List.setIfInBounds_toArray, List.set_cons_zero, List.set_cons_succ]
            refine WE_s 14 rfl (by decide) (by kernel_rfl) rfl ?_
            simp only [Act.put, List.setIfInBounds_toArray, List.set_cons_zero, List.set_cons_succ]
            refine WE_s 15 rfl (by decide) (by kernel_rfl) rfl ?_
            simp only [Act.put, List.setIfInBounds_toArray, List.set_cons_zero, List.set_cons_succ]
            refine WE_done (by kernel_rfl) (fun w9 hx9 => ?_)
            (try simp only [List.drop_succ_cons, List.drop_zero])
            clear k3
            have HX9 := Lib.hid (HX.out.trans hx9)
            clear hx9
            go_wp2_with fail
            go_meet
            case rel => exact ⟨rfl, HX9.out⟩
          · have hal := (List.getElem?_eq_some_iff.1 g1).1
            have had : decide ((an : Int) < (s.fr.length : Int)) = true := decide_eq_true (by omega)
            obtain ⟨b2, o2, he2, p2⟩ := X3.out an c g1
            subst he2
            have HP2 := Lib.hid (HX.out.cell p2)
            clear p2 g1
            refine wp_region_E 16 rfl (by kernel_rfl) (by kernel_rfl) ?_
            have k1 := Ext.keep HP0.out
            have k2 := Ext.keep HP2.out
            have k3 := HKr.out.keep
            refine WE_q 0 rfl (by decide) (by kernel_rfl) rfl ?_; apply Exists.intro; refine ⟨fun w1 hx1 => ?_, ?_⟩
            · have hq1 := hx1.cells; go_simp; try go_bits
              first | with_reducible rfl
            simp only [Act.put, List.setIfInBounds_toArray, List.set_cons_zero, List.set_cons_succ]
            refine WE_q 1 rfl (by decide) (by kernel_rfl) rfl ?_; apply Exists.intro; refine ⟨fun w1 hx1 => ?_, ?_⟩
            · have hq1 := hx1.cells; go_simp; try go_bits
              first | with_reducible rfl
            simp only [Act.put, List.setIfInBounds_toArray, List.set_cons_zero, List.set_cons_succ]
            refine WE_q 2 rfl (by decide) (by kernel_rfl) rfl ?_; apply Exists.intro; refine ⟨fun w1 hx1 => ?_, ?_⟩
            · have hq1 := hx1.cells; go_simp; try go_bits
              first | with_reducible rfl
            simp only [Act.put, List.setIfInBounds_toArray, List.set_cons_zero, List.set_cons_succ]
            refine WE_q 3 rfl (by decide) (by kernel_rfl) rfl ?_; apply Exists.intro; refine ⟨fun w1 hx1 => ?_, ?_⟩
            · have hq1 := hx1.cells; go_simp; try go_bits
              first | with_reducible rfl
            simp only [Act.put, List.setIfInBounds_toArray, List.set_cons_zero, List.set_cons_succ]
            refine WE_q 4 rfl (by decide) (by kernel_rfl) rfl ?_; apply Exists.intro; refine ⟨fun w1 hx1 => ?_, ?_⟩
            · have hq1 := hx1.cells; go_simp; try go_bits
              first | with_reducible rfl
            simp only [Act.put, List.setIfInBounds_toArray, List.set_cons_zero, List.set_cons_succ]
            refine WE_q 5 rfl (by decide) (by kernel_rfl) rfl ?_; apply Exists.intro; refine ⟨fun w1 hx1 => ?_, ?_⟩
            · have hq1 := hx1.cells; go_simp; try go_bits
              first | with_reducible rfl
            simp only [Act.put, List.setIfInBounds_toArray, List.set_cons_zero, List.set_cons_succ]
            refine WE_q 6 rfl (by decide) (by kernel_rfl) rfl ?_; apply Exists.intro; refine ⟨fun w1 hx1 => ?_, ?_⟩
            · have hq1 := hx1.cells; go_simp; try go_bits
              first | with_reducible rfl
            simp only [Act.put, List.setIfInBounds_toArray, List.set_cons_zero, List.set_cons_succ]
            refine WE_q 7 rfl (by decide) (by kernel_rfl) rfl ?_; apply Exists.intro; refine ⟨fun w1 hx1 => ?_, ?_⟩
            · have hq1 := hx1.cells; go_simp; try go_bits
              first | with_reducible rfl
            simp only [Act.put, List.setIfInBounds_toArray, List.set_cons_zero, List.set_cons_succ]
            refine WE_q 8 rfl (by decide) (by kernel_rfl) rfl ?_; apply Exists.intro; refine ⟨fun w1 hx1 => ?_, ?_⟩
            · have hq1 := hx1.cells; go_simp; try go_bits
              first | with_reducible rfl
            simp only [Act.put, List.setIfInBounds_toArray, List.set_cons_zero, List.set_cons_succ]
            refine WE_q 9 rfl (by decide) (by kernel_rfl) rfl ?_; apply Exists.intro; refine ⟨fun w1 hx1 => ?_, ?_⟩
            · have hq1 := hx1.cells; go_simp; try go_bits
              first | with_reducible rfl
            simp only [Act.put, List.setIfInBounds_toArray, List.set_cons_zero, List.set_cons_succ]
            refine WE_q 10 rfl (by decide) (by kernel_rfl) rfl ?_; apply Exists.intro; refine ⟨fun w1 hx1 => ?_, ?_⟩
            · have hq1 := hx1.cells; go_simp; try go_bits
              first | with_reducible rfl
            simp only [Act.put, List.setIfInBounds_toArray, List.set_cons_zero, List.set_cons_succ]
            refine WE_q 11 rfl (by decide) (by kernel_rfl) rfl ?_; apply Exists.intro; refine ⟨fun w1 hx1 => ?_, ?_⟩
            · have hq1 := hx1.cells; go_simp; try go_bits
              first | with_reducible rfl
            simp only [Act.put, List.setIfInBounds_toArray, List.set_cons_zero, List.set_cons_succ]
            refine WE_q 12 rfl (by decide) (by kernel_rfl) rfl ?_; apply Exists.intro; refine ⟨fun w1 hx1 => ?_, ?_⟩
            · have hq1 := hx1.cells; go_simp; try go_bits
              first | with_reducible rfl
            simp only [Act.put, List.setIfInBounds_toArray, List.set_cons_zero, List.set_cons_succ]
            refine WE_q 13 rfl (by decide) (by kernel_rfl) rfl ?_; apply Exists.intro; refine ⟨fun w1 hx1 => ?_, ?_⟩
            · have hq1 := hx1.cells; go_simp; try go_bits
              first | with_reducible rfl
            simp only [Act.put, List.setIfInBounds_toArray, List.set_cons_zero, List.set_cons_succ]
            refine WE_q 14 rfl (by decide) (by kernel_rfl) rfl ?_; apply Exists.intro; refine ⟨fun w1 hx1 => ?_, ?_⟩
            · have hq1 := hx1.cells; go_simp; try go_bits
              first | with_reducible rfl
            simp only [Act.put, List.setIfInBounds_toArray, List.set_cons_zero, List.set_cons_succ]
            refine WE_q 15 rfl (by decide) (by kernel_rfl) rfl ?_; apply Exists.intro; refine ⟨fun w1 hx1 => ?_, ?_⟩
            · have hq1 := hx1.cells; go_simp; try go_bits
              first | with_reducible rfl
            simp only [Act.put, List.setIfInBounds_toArray, List.set_cons_zero, List.set_cons_succ]
            refine WE_done (by kernel_rfl) (fun w9 hx9 => ?_)
            (try simp only [List.drop_succ_cons, List.drop_zero])
            clear k1 k2 k3
            have HX9 := Lib.hid (HX.out.trans hx9)
            clear hx9
            go_wp2_with fail
            go_meet
            case rel => exact ⟨rfl, HX9.out⟩
        case rest =>
          obtain ⟨rfl, HXC⟩ := hcut
          have hsub : (k : Int) - 1 = (j : Int) := by have := HJK.out; omega
          have hwj : IntKind.i64.wrap (j : Int) = (j : Int) := by have := HLL2.out; rw [IntKind.wrap_i64]; omega
          have HMC := Lib.hid (HM8.out.later HXC.out)
          obtain ⟨b3, o3, he3, q0⟩ := C3.out k _ HXK.out
          obtain ⟨b4, o4, he4, q1⟩ := C3.out j _ HXJ.out
          simp only [Option.some.injEq, Addr.mk.injEq, and_true] at he3 he4
          obtain ⟨rfl, rfl⟩ := he3
          obtain ⟨rfl, rfl⟩ := he4
          have HC0 := Lib.hid (HXC.out.cell q0)
          have HC1 := Lib.hid (HXC.out.cell q1)
          have HSELF := Lib.hid (cmpL_self (vecV N x))
          clear q0 q1 HP0 HP1 HMr HKr hkr HNE HFRX
          go_upto_region 14 with (fail)
          refine wp_region_R (RB (wc.heap.size)) 18 rfl (by kernel_rfl) (by kernel_rfl) (fun w0 hx0 => ?_)
          have q0 := RB.keep hx0.size (cell_low HC0.out) (hx0.cell HC0.out)
          have q1 := RB.keep hx0.size (cell_low HC1.out) (hx0.cell HC1.out)
          refine WR_q (preRB _) 0 rfl (by decide) (by kernel_rfl) rfl ?_; apply Exists.intro; refine ⟨fun w1 hx1 => ?_, ?_⟩
          · go_simp; try go_bits
            first | with_reducible rfl | rfl
          simp only [Act.put, List.setIfInBounds_toArray, List.set_cons_zero, List.set_cons_succ]
          refine WR_q (preRB _) 1 rfl (by decide) (by kernel_rfl) rfl ?_; apply Exists.intro; refine ⟨fun w1 hx1 => ?_, ?_⟩
          · go_simp; try go_bits
            first | with_reducible rfl | rfl
          simp only [Act.put, List.setIfInBounds_toArray, List.set_cons_zero, List.set_cons_succ]
          refine WR_q (preRB _) 2 rfl (by decide) (by kernel_rfl) rfl ?_; apply Exists.intro; refine ⟨fun w1 hx1 => ?_, ?_⟩
          · go_simp; try go_bits
            first | with_reducible rfl | rfl
          simp only [Act.put, List.setIfInBounds_toArray, List.set_cons_zero, List.set_cons_succ]
          refine WR_q (preRB _) 3 rfl (by decide) (by kernel_rfl) rfl ?_; apply Exists.intro; refine ⟨fun w1 hx1 => ?_, ?_⟩
          · go_simp; try go_bits
            first | with_reducible rfl | rfl
          simp only [Act.put, List.setIfInBounds_toArray, List.set_cons_zero, List.set_cons_succ]
          refine WR_q (preRB _) 4 rfl (by decide) (by kernel_rfl) rfl ?_; apply Exists.intro; refine ⟨fun w1 hx1 => ?_, ?_⟩
          · go_simp; try go_bits
            first | with_reducible rfl | rfl
          simp only [Act.put, List.setIfInBounds_toArray, List.set_cons_zero, List.set_cons_succ]
          refine WR_q (preRB _) 5 rfl (by decide) (by kernel_rfl) rfl ?_; apply Exists.intro; refine ⟨fun w1 hx1 => ?_, ?_⟩
          · go_simp; try go_bits
            first | with_reducible rfl | rfl
          simp only [Act.put, List.setIfInBounds_toArray, List.set_cons_zero, List.set_cons_succ]
          refine WR_q (preRB _) 6 rfl (by decide) (by kernel_rfl) rfl ?_; apply Exists.intro; refine ⟨fun w1 hx1 => ?_, ?_⟩
          · go_simp; try go_bits
            first | with_reducible rfl | rfl
          simp only [Act.put, List.setIfInBounds_toArray, List.set_cons_zero, List.set_cons_succ]
          refine WR_q (preRB _) 7 rfl (by decide) (by kernel_rfl) rfl ?_; apply Exists.intro; refine ⟨fun w1 hx1 => ?_, ?_⟩
          · go_simp; try go_bits
            first | with_reducible rfl | rfl
          simp only [Act.put, List.setIfInBounds_toArray, List.set_cons_zero, List.set_cons_succ]
          refine WR_q (preRB _) 9 rfl (by decide) (by kernel_rfl) rfl ?_; apply Exists.intro; refine ⟨fun w1 hx1 => ?_, ?_⟩
          · go_simp; try go_bits
            first | with_reducible rfl | rfl
          simp only [Act.put, List.setIfInBounds_toArray, List.set_cons_zero, List.set_cons_succ]
          refine WR_q (preRB _) 10 rfl (by decide) (by kernel_rfl) rfl ?_; apply Exists.intro; refine ⟨fun w1 hx1 => ?_, ?_⟩
          · go_simp; try go_bits
            first | with_reducible rfl | rfl
          simp only [Act.put, List.setIfInBounds_toArray, List.set_cons_zero, List.set_cons_succ]
          refine WR_q (preRB _) 11 rfl (by decide) (by kernel_rfl) rfl ?_; apply Exists.intro; refine ⟨fun w1 hx1 => ?_, ?_⟩
          · go_simp; try go_bits
            first | with_reducible rfl | rfl
          simp only [Act.put, List.setIfInBounds_toArray, List.set_cons_zero, List.set_cons_succ]
          refine WR_q (preRB _) 12 rfl (by decide) (by kernel_rfl) rfl ?_; apply Exists.intro; refine ⟨fun w1 hx1 => ?_, ?_⟩
          · go_simp; try go_bits
            first | with_reducible rfl | rfl
          simp only [Act.put, List.setIfInBounds_toArray, List.set_cons_zero, List.set_cons_succ]
          refine WR_q (preRB _) 13 rfl (by decide) (by kernel_rfl) rfl ?_; apply Exists.intro; refine ⟨fun w1 hx1 => ?_, ?_⟩
          · go_simp; try go_bits
            first | with_reducible rfl | rfl
          simp only [Act.put, List.setIfInBounds_toArray, List.set_cons_zero, List.set_cons_succ]
          refine WR_q (preRB _) 14 rfl (by decide) (by kernel_rfl) rfl ?_; apply Exists.intro; refine ⟨fun w1 hx1 => ?_, ?_⟩
          · go_simp; try go_bits
            first | with_reducible rfl | rfl
          simp only [Act.put, List.setIfInBounds_toArray, List.set_cons_zero, List.set_cons_succ]
          clear q0 q1
          refine WR_one 8 rfl (by decide) (by kernel_rfl) rfl (fun K hK => ?_)
          go_simp
          (with_reducible refine (vecOf_any _ mb N x _ (HMC.out.later hx0) (netMay_tab HNM.out) hN6).mono ?_)
          rintro e wA ⟨vA, he, hA, hxA⟩
          subst he
          have HVA := Lib.hid hA.ints
          clear hA
          refine hK _ _ (RB.ext hxA) ?_
          clear hK K
          refine WR_one 15 rfl (by decide) (by kernel_rfl) rfl (fun K hK => ?_)
          go_simp
          (with_reducible refine (vecOf_any _ mb N y _ (HMC.out.later (hx0.trans hxA)) (netMay_tab HNM.out) hN6).mono ?_)
          rintro e wB ⟨vB, he, hB, hxB⟩
          subst he
          rw [← HV.out] at hB
          have HVB := Lib.hid hB.ints
          clear hB
          refine hK _ _ (RB.ext hxB) ?_
          clear hK K
          refine WR_one 16 rfl (by decide) (by kernel_rfl) rfl (fun K hK => ?_)
          go_simp
          (with_reducible refine (vecCompare_any _ _ (vecV N x) (vecV N x) _ (HVA.out.later hxB) HVB.out).mono ?_)
          rintro e wC ⟨he, hxC⟩
          rw [HSELF.out] at he
          subst he
          refine hK _ _ (RB.ext hxC) ?_
          clear hK K
          refine WR_q (preRB _) 17 rfl (by decide) (by kernel_rfl) rfl ?_; apply Exists.intro; refine ⟨fun w1 hx1 => ?_, ?_⟩
          · go_simp; try go_bits
            first | with_reducible rfl | rfl
          simp only [Act.put, List.setIfInBounds_toArray, List.set_cons_zero, List.set_cons_succ]
          refine WR_done (by kernel_rfl) ?_
          (try simp only [List.drop_succ_cons, List.drop_zero])
          go_wp2_with fail
          go_roundw
          case rel => exact ⟨k + 1, by omega, by go_num, by rw [HST.out], HXC.out.trans (hx0.trans (hxA.trans (hxB.trans hxC)))⟩
          case measure => simp [intOf]; omega
    · have hkd : decide ((k : Int) < (l.length : Int)) = false := decide_eq_false (by omega)
      have hkn : decide (k < l.length) = false := decide_eq_false hlt
      have HAE := Lib.hid (show aN k = s.fr.length by rw [← HA1.out]; congr 1; omega)
      have hkr := HKr.out.cells
      have hxx : ((s.fr.length : Int) == (s.fr.length : Int)) = true := by simp
      rw [HAE.out]
      go_wp2_with fail
      go_ret
      exact ⟨rfl, HX8.out.trans HX.out⟩
end Go.Proofs.Ytamlalablblfeaa
