/- The law AnalyzeSmall: how many parts a certificate has, which ranks, how long a trace. Conditions: whole numbers are within 64 bits. -/
import Derived.Test.YtfldjlibnjgdaaaGAna
import Derived.Test.YtfldjlibnjgdaaaGNetP
namespace Go.Proofs.Ytfldjlibnjgdaaa
open Go Go.RowKit Go.Maps Go.Proofs

set_option maxHeartbeats 4000000 in
set_option maxRecDepth 100000 in
theorem analyzeSmall_any (lv : Value) (ls : List (List Rul)) (w : World) (hl : TablesAt w lv ls) (hok : TablesOk ls) :
    Calls Try.prog 3 #[.agg #[lv]] w fun e w' => e = .returned (.bool true) ∧ Ext w w' := by
  have HL := Lib.hid hl
  have HOK := Lib.hid hok
  obtain ⟨ad, cap, hlv, a1, a2, a3⟩ := hl.form
  subst hlv
  clear a3 hl hok
  unfold maxLen at a2
  go_enter Try.func3, Try.ntmps3
  go_upto_region 1 with (fail)
  refine hideW (Φ := fun W => Code.wp _ _ _ _ W) (fun W => Ext w W ∧ Blk W w.heap.size [.slice ad ls.length cap] 24)
    ⟨by (repeat (first | with_reducible exact Ext.refl _ | with_reducible assumption | with_reducible refine Ext.alloc ?_ _ | with_reducible refine Ext.drew ?_ | with_reducible refine Ext.drewN ?_ _ | (with_reducible refine Ext.setCellP ?_ ?_; focus (first | (simp; done) | (simp; omega) | omega)))), (Blk.new w [.slice ad ls.length cap] 24)⟩ (fun W1 hW1 => ?_)
  obtain ⟨hx1, hb1⟩ := hW1
  have HX1 := Lib.hid hx1
  have HB1 := Lib.hid hb1
  clear hx1 hb1
  generalize w.heap.size = nb at *
  go_upto_region 2 with (first
    | (go_at_call 7; (with_reducible refine (shown21_any _).mono ?_); rintro e w2 ⟨rfl, hx2⟩; have HX2 := Lib.hid (HX1.out.trans hx2); have HB2 := Lib.hid (HB1.out.later hx2); clear hx2))
  have hbc2 := HB2.out.cells
  have HNM := Lib.hid (fitN_may ls)
  have HNS := Lib.hid (fitN_size ls)
  have HNO := Lib.hid (fitN_ok ls)
  have HN20 := Lib.hid (@fitN_short ls)
  have hN := fitN_bd ls
  go_upto_region 3 with (first
    | (go_at_call 8; (with_reducible refine (r09Fit_any _ ls _ (HL.out.later HX2.out) HOK.out).mono ?_); rintro e w3 ⟨v3, he, hF, hx3⟩; subst he; have HF3 := Lib.hid hF.tables; obtain ⟨va, vcap, hv3, q1, q2, q3⟩ := HF3.out.form; subst hv3; clear q3; have HX3 := Lib.hid (HX2.out.trans hx3); clear hF hx3))
  generalize fitN ls = N at *
  clear hbc2 HB2 HB1
  unfold maxLen at q2
  refine hideW (Φ := fun W => Code.wp _ _ _ _ W) (fun W => Ext w3 W ∧ Blk W w3.heap.size [.slice va N.length vcap] 24)
    ⟨by (repeat (first | with_reducible exact Ext.refl _ | with_reducible assumption | with_reducible refine Ext.alloc ?_ _ | with_reducible refine Ext.drew ?_ | with_reducible refine Ext.drewN ?_ _ | (with_reducible refine Ext.setCellP ?_ ?_; focus (first | (simp; done) | (simp; omega) | omega)))), Blk.new w3 [.slice va N.length vcap] 24⟩ (fun W4 hW4 => ?_)
  obtain ⟨hx4, hb4⟩ := hW4
  have HX4 := Lib.hid (HX3.out.trans hx4)
  have HF4 := Lib.hid (HF3.out.later hx4)
  have HB4 := Lib.hid hb4
  have hbc4 := hb4.cells
  clear hx4 hb4 HF3 HX3 HX1 HX2
  generalize w3.heap.size = fb at *
  have HNZ0 := Lib.hid (Nat.le_trans HNS.out (by decide : 160 ≤ 100000000))
  go_upto_region 4 with (first
    | (go_at_call 9; (with_reducible refine (aNet_good _ N _ HF4.out HNO.out HNM.out).mono ?_); rintro e w5 ⟨pv, tv, c, he, hc, ha, hx5⟩; subst he; have HC5 := Lib.hid hc; have HA := Lib.hid (ha.facts HNM.out); obtain ⟨pa, pc, hpe, p1, p2, -⟩ := hc.parts.form; subst hpe; obtain ⟨ta, tc, hte, t1, t2, -⟩ := hc.tr.form; subst hte; have HX5 := Lib.hid hx5; clear hx5 hc ha))
  refine hideW (Φ := fun W => Code.wp _ _ _ _ W) (fun W => Ext w5 W ∧ Blk W w5.heap.size [I c.vd, .slice pa c.ps.length pc, U c.dest, .slice ta c.tr.length tc] 31)
    ⟨(Ext.refl _).alloc _, Blk.new w5 [I c.vd, .slice pa c.ps.length pc, U c.dest, .slice ta c.tr.length tc] 31⟩ (fun W6 hW6 => ?_)
  obtain ⟨hx6, hk6⟩ := hW6
  have HC6 := Lib.hid (HC5.out.later hx6)
  have HX6 := Lib.hid (HX5.out.trans hx6)
  have HK6 := Lib.hid hk6
  have HB6 := Lib.hid (HB4.out.later HX6.out)
  clear hx6 hk6 hbc4 HC5 HX5
  generalize w5.heap.size = kb at *
  have HPS := Lib.hid (show ∀ W, TablesAt W (.slice va N.length vcap) N → Calls Try.prog 10 #[.agg #[.slice va N.length vcap]] W fun e w' => e = .returned (I (sizeN N)) ∧ Ext W w' from fun W hW => netSize_any _ N W hW HNZ0.out)
  have hns := HNS.out
  have hgt1 : decide (2 * (sizeN N : Int) + 1 < (c.ps.length : Int)) = false := decide_eq_false (by have := HA.out.few; omega)
  have hgt2 : decide ((N.length : Int) < (c.tr.length : Int)) = false := decide_eq_false (by have := HA.out.tr; omega)
  have hgn2 : decide (N.length < c.tr.length) = false := decide_eq_false (by have := HA.out.tr; omega)
  generalize sizeN N = z at *
  have kC := HK6.out.keep
  have kB := HB6.out.keep
  have HF6 := Lib.hid (HF4.out.later HX6.out)
  refine wp_region_E 24 rfl (by kernel_rfl) (by kernel_rfl) ?_
  refine WEi_at 0 ?_
  iterate 24
    refine WEi_q rfl (by decide) (by kernel_rfl) rfl ?_; apply Exists.intro; refine ⟨fun w1 hx1 => ?_, ?_⟩
    · have hq1 := hx1.cells; go_simp; try go_bits
      first | with_reducible rfl | (refine (HPS.out _ (HF6.out.later hx1)).mono ?_; rintro e w' ⟨rfl, hx⟩; exact ⟨rfl, hx⟩)
    simp only [Act.put, List.setIfInBounds_toArray, List.set_cons_zero, List.set_cons_succ, Nat.reduceAdd]
  refine WEi_out ?_
  refine WE_done (by kernel_rfl) (fun w7 hx7 => ?_)
  (try simp only [List.drop_succ_cons, List.drop_zero])
  clear kC kB hgt1 hgt2 hgn2 hns
  have HX7 := Lib.hid (HX6.out.trans hx7)
  have HK7 := Lib.hid (HK6.out.later hx7)
  have HB7 := Lib.hid (HB6.out.later hx7)
  have HC7 := Lib.hid (HC6.out.later hx7)
  clear hx7 HC6 HK6 HB6 HX6
  have hpsl : c.ps.length ≤ 9223372036854775807 := by unfold maxLen at p2; omega
  go_wp2_with fail
  go_loopw [7] (fun i wr => ∃ k : Nat, k ≤ c.ps.length ∧ i = I k ∧ Hid (Ext w7 wr)) (fun i _ => c.ps.length - (intOf i).toNat)
  case atStart => exact ⟨0, Nat.zero_le _, rfl, Ext.refl _⟩
  case round =>
    obtain ⟨k, hk, rfl, HX⟩ := hrel
    have hkc := (HK7.out.later HX.out).cells
    have hbc := (HB7.out.later HX.out).cells
    by_cases hlt : k < c.ps.length
    · have hkd : decide ((k : Int) < (c.ps.length : Int)) = true := decide_eq_true (by omega)
      have HLT := Lib.hid hlt
      obtain ⟨pa', pc', hpe, -, -, hpf⟩ := (HC7.out.later HX.out).parts.form
      obtain ⟨b0, o0, he0, q0, q1, q2⟩ := hpf k _ (List.getElem?_eq_getElem hlt)
      cases hpe
      subst he0
      have hrl : k < c.rks.length := by rw [HA.out.rln]; exact hlt
      have HRK := Lib.hid ((HC7.out.later HX.out).rk k _ _ (List.getElem?_eq_getElem hlt) (List.getElem?_eq_getElem hrl))
      have HRB := Lib.hid (HA.out.rks _ (List.getElem_mem hrl))
      obtain ⟨ra, rc, hre, r1, r2, hrf⟩ := HRK.out.form
      replace q2 := q2.trans (congrArg some hre)
      have HRF := Lib.hid hrf
      clear hpf q0 q1 hre hrf HRK
      generalize c.rks[k] = r at *
      unfold maxLen at r2
      obtain ⟨wo, rfl⟩ : ∃ wo : World, wo = wr := ⟨_, rfl⟩
      have HQ2 := Lib.hid q2
      go_wp2_with fail
      go_loopw [8] (fun j wq => ∃ m : Nat, m ≤ r.length ∧ j = I m ∧ Hid (Ext wo wq)) (fun j _ => r.length - (intOf j).toNat)
      case atStart => exact ⟨0, Nat.zero_le _, rfl, Ext.refl _⟩
      case round =>
        obtain ⟨m, hm, rfl, HXq⟩ := hrel
        have HKq := Lib.hid (HK7.out.later (HX.out.trans HXq.out))
        have HBq := Lib.hid (HB7.out.later (HX.out.trans HXq.out))
        replace q2 := HXq.out.cell q2
        clear hkc hbc
        have hkc := HKq.out.cells
        have hbc := HBq.out.cells
        by_cases hml : m < r.length
        · have hmd : decide ((m : Int) < (r.length : Int)) = true := decide_eq_true (by omega)
          have HML := Lib.hid hml
          obtain ⟨b1, o1, he1, x0⟩ := HRF.out m _ (List.getElem?_eq_getElem hml)
          subst he1
          replace x0 := HXq.out.cell x0
          have hxb := HRB.out.2 _ (List.getElem_mem hml)
          generalize r[m] = x at *
          have hx1 : decide (x < 0) = false := decide_eq_false (by omega)
          have hx2 : decide ((N.length : Int) ≤ x) = false := decide_eq_false (by omega)
          clear hxb
          go_upto_region 12 with fail
          clear hkc hbc
          have kC := HKq.out.keep
          have kB := HBq.out.keep
          replace q2 := Ext.keep q2
          replace x0 := Ext.keep x0
          refine wp_region_E 24 rfl (by kernel_rfl) (by kernel_rfl) ?_
          refine WEi_at 0 ?_
          iterate 24
            refine WEi_q rfl (by decide) (by kernel_rfl) rfl ?_; apply Exists.intro; refine ⟨fun w1 hx1 => ?_, ?_⟩
            · have hq1 := hx1.cells; go_simp; try go_bits
              first | with_reducible rfl
            simp only [Act.put, List.setIfInBounds_toArray, List.set_cons_zero, List.set_cons_succ, Nat.reduceAdd]
          refine WEi_out ?_
          refine WE_done (by kernel_rfl) (fun w9 hx9 => ?_)
          (try simp only [List.drop_succ_cons, List.drop_zero])
          have HX9 := Lib.hid (HXq.out.trans hx9)
          clear kC kB q2 x0 hx9
          go_wp2_with fail
          go_roundw
          case rel => exact ⟨m + 1, Nat.succ_le_of_lt HML.out, by go_num, HX9.out⟩
          case measure => have := HML.out; simp [intOf]; omega
        · have hmd : decide ((m : Int) < (r.length : Int)) = false := decide_eq_false (by omega)
          go_wp2_with fail
          go_roundw
          case rel => exact ⟨k + 1, Nat.succ_le_of_lt HLT.out, by go_num, HX.out.trans HXq.out⟩
          case measure => have := HLT.out; simp [intOf]; omega
    · have hkd : decide ((k : Int) < (c.ps.length : Int)) = false := decide_eq_false (by omega)
      have h1 : ((c.ps.length : Int) == 0) = (c.vd == 2) := eq_of_beq HA.out.one.1
      have h2 : ((c.tr.length : Int) == 0) = (c.vd == 1) := eq_of_beq HA.out.one.2
      have HXF := Lib.hid (HX4.out.trans (HX7.out.trans HX.out))
      go_wp2_with fail
      go_ret
      exact ⟨rfl, HXF.out⟩
end Go.Proofs.Ytfldjlibnjgdaaa