/- The law CheckAll: what is told of any network and certificate is as the document says. Conditions: whole numbers are within 64 bits. -/
import Derived.Test.YtpfkfboohblgoaaShown20
import Derived.Test.YtpfkfboohblgoaaShort20
import Derived.Test.YtpfkfboohblgoaaFitC
import Derived.Test.YtpfkfboohblgoaaShortL
import Derived.Test.YtpfkfboohblgoaaR20N
import Derived.Test.YtpfkfboohblgoaaFew
namespace Go.Proofs.Ytpfkfboohblgoaa
open Go Go.RowKit Go.Maps Go.Proofs

set_option maxHeartbeats 4000000 in
set_option maxRecDepth 100000 in
theorem checkAll_any (lv pv tv : Value) (ls : List (List Rul)) (c : Crt) (w : World) (hl : TablesAt w lv ls) (hok : TablesOk ls) (hc : CertAt w pv tv c) (htr : ∀ x ∈ c.tr, In64 x) (hrk : ∀ r ∈ c.rks, ∀ x ∈ r, In64 x) :
    Calls Try.prog 6 #[.agg #[lv], .agg #[I c.vd, pv, U c.dest, tv]] w fun e w' => e = .returned (.bool true) ∧ Ext w w' := by
  have HL := Lib.hid hl
  have HOK := Lib.hid hok
  have HC := Lib.hid hc
  have HTR := Lib.hid htr
  have HRK := Lib.hid hrk
  clear hl hok hc htr hrk
  go_enter Try.func6, Try.ntmps6
  go_upto_region 1 with (fail)
  refine hideW (Φ := fun W => Code.wp _ _ _ _ W) (fun W => Ext w W ∧ Blk W w.heap.size [lv] 24 ∧ Blk W (w.heap.size + 1) [I c.vd, pv, U c.dest, tv] 29)
    ⟨by (repeat (first | with_reducible exact Ext.refl _ | with_reducible assumption | with_reducible refine Ext.alloc ?_ _ | with_reducible refine Ext.drew ?_ | with_reducible refine Ext.drewN ?_ _ | (with_reducible refine Ext.setCellP ?_ ?_; focus (first | (simp; done) | (simp; omega) | omega)))), (Blk.new w [lv] 24).old _, Blk.newAt [I c.vd, pv, U c.dest, tv] (by simp)⟩ (fun W1 hW1 => ?_)
  obtain ⟨hx1, hb1, hk1⟩ := hW1
  have HX1 := Lib.hid hx1
  have HB1 := Lib.hid hb1
  have HK1 := Lib.hid hk1
  clear hx1 hb1 hk1
  generalize w.heap.size + 1 = cb at *
  generalize w.heap.size = nb at *
  go_upto_region 2 with (first
    | (go_at_call 15; (with_reducible refine (shown20_any _).mono ?_); rintro e w2 ⟨rfl, hx2⟩; have HX2 := Lib.hid hx2; clear hx2))
  have hbc2 := (HB1.out.later HX2.out).cells
  go_upto_region 3 with (first
    | (go_at_call 22; (with_reducible refine (few20_any _ ls _ (HL.out.later (HX1.out.trans HX2.out))).mono ?_); rintro e w3 ⟨v3, he, hF, hx3⟩; subst he; have HF3 := Lib.hid hF; obtain ⟨va, vcap, hv3, -, -, -⟩ := hF.form; subst hv3; have HX3 := Lib.hid (HX2.out.trans hx3); clear hF hx3))
  clear hbc2
  refine hideW (Φ := fun W => Code.wp _ _ _ _ W) (fun W => Ext w3 W ∧ Blk W w3.heap.size [.slice va (fewN ls).length vcap] 24)
    ⟨by (repeat (first | with_reducible exact Ext.refl _ | with_reducible assumption | with_reducible refine Ext.alloc ?_ _ | with_reducible refine Ext.drew ?_ | with_reducible refine Ext.drewN ?_ _ | (with_reducible refine Ext.setCellP ?_ ?_; focus (first | (simp; done) | (simp; omega) | omega)))), Blk.new w3 [.slice va (fewN ls).length vcap] 24⟩ (fun W4 hW4 => ?_)
  obtain ⟨hx4, hb4⟩ := hW4
  have HX4 := Lib.hid (HX3.out.trans hx4)
  have HF4 := Lib.hid (HF3.out.later hx4)
  have HB4 := Lib.hid hb4
  have HXW := Lib.hid (show W1.heap.size ≤ w3.heap.size from HX3.out.size)
  clear hx4 hb4
  generalize w3.heap.size = xw at *
  have hkc4 := (HK1.out.later HX4.out).cells
  go_upto_region 4 with (first
    | (go_at_call 18; (with_reducible refine (short20_any _ _ c _ (HC.out.later (HX1.out.trans HX4.out))).mono ?_); rintro e w5 ⟨pv5, tv5, c5, he, hC5, hS5, hx5⟩; subst he; obtain ⟨pa, pc, hpv, -, -, -⟩ := hC5.parts.form; obtain ⟨ta, tc, htv, -, -, -⟩ := hC5.tr.form; subst hpv htv; have HC5 := Lib.hid hC5; have HS5 := Lib.hid hS5; have HX5 := Lib.hid (HX4.out.trans hx5); have HB5 := Lib.hid (HB4.out.later hx5); have HF5 := Lib.hid (HF4.out.later hx5); clear hC5 hS5 hx5))
  clear hkc4
  refine hideW (Φ := fun W => Code.wp _ _ _ _ W) (fun W => Ext w5 W ∧ Blk W w5.heap.size [I c5.vd, .slice pa c5.ps.length pc, U c5.dest, .slice ta c5.tr.length tc] 29)
    ⟨by (repeat (first | with_reducible exact Ext.refl _ | with_reducible assumption | with_reducible refine Ext.alloc ?_ _ | with_reducible refine Ext.drew ?_ | with_reducible refine Ext.drewN ?_ _ | (with_reducible refine Ext.setCellP ?_ ?_; focus (first | (simp; done) | (simp; omega) | omega)))), Blk.new w5 [I c5.vd, .slice pa c5.ps.length pc, U c5.dest, .slice ta c5.tr.length tc] 29⟩ (fun W6 hW6 => ?_)
  obtain ⟨hx6, hb6⟩ := hW6
  have HX6 := Lib.hid (HX5.out.trans hx6)
  have HF6 := Lib.hid (HF5.out.later hx6)
  have HB6 := Lib.hid (HB5.out.later hx6)
  have HC6 := Lib.hid (HC5.out.later hx6)
  have HK6 := Lib.hid hb6
  have HXC := Lib.hid (show xw < w5.heap.size from HB5.out.lt)
  clear hx6 hb6
  generalize w5.heap.size = xc at *
  go_wp2_with fail
  go_loopw [8] (fun i wr => ∃ (k : Nat) (N : List (List Rul)) (d : Crt) (va : Option Addr) (vcap : Nat) (pa : Option Addr) (pc : Nat) (ta : Option Addr) (tc : Nat), k ≤ 2 ∧ i = I k ∧ Hid (Blk wr xw [.slice va N.length vcap] 24) ∧ Hid (TablesAt wr (.slice va N.length vcap) N) ∧ Hid (TablesOk N) ∧ Hid (sizeN N ≤ 160) ∧
    Hid (Blk wr xc [I d.vd, .slice pa d.ps.length pc, U d.dest, .slice ta d.tr.length tc] 29) ∧ Hid (CertAt wr (.slice pa d.ps.length pc) (.slice ta d.tr.length tc) d) ∧ Hid (∀ x ∈ d.tr, In64 x) ∧ Hid (Ext W1 wr)) (fun i _ => 2 - (intOf i).toNat)
  case atStart => exact ⟨0, fewN ls, c5, va, vcap, pa, pc, ta, tc, by omega, rfl, HB6, HF6, fewN_ok HOK.out, fewN_size ls, HK6, HC6, (show ∀ x ∈ c5.tr, In64 x from fun x hx => HTR.out x (by rw [HS5.out.tr] at hx; exact List.mem_of_mem_take hx)), HX6⟩
  case round =>
    obtain ⟨k, N, d, ya, ycap, qa, qc, sa, sc, hk, rfl, HBX, HNT, HNO, HNS, HKX, HCX, HTX, HX⟩ := hrel
    obtain ⟨cl, hcl⟩ := cuts_exist N.flatten
    have HCU := Lib.hid hcl
    clear hcl
    have hpl : d.ps.length ≤ 9223372036854775807 := by
      obtain ⟨_, cap, hpe, h1, h2, _⟩ := HCX.out.parts.form
      unfold maxLen at h2
      omega
    by_cases hlt : k < 2
    · have hkd : decide ((k : Int) < 2) = true := decide_eq_true (by omega)
      have HLT := Lib.hid hlt
      obtain ⟨wo, rfl⟩ : ∃ wo : World, wo = wr := ⟨_, rfl⟩
      go_wp2_with fail
      go_loopw [9] (fun i wq => ∃ j : Nat, j ≤ d.ps.length ∧ i = I j ∧ Hid (Ext wo wq)) (fun i _ => d.ps.length - (intOf i).toNat)
      case atStart => exact ⟨0, by omega, rfl, Ext.refl _⟩
      case round =>
        obtain ⟨j, hj, rfl, HXq⟩ := hrel
        have hkc := (HKX.out.later HXq.out).cells
        by_cases hjl : j < d.ps.length
        · have hjd : decide ((j : Int) < (d.ps.length : Int)) = true := decide_eq_true (by omega)
          obtain ⟨_, _, hpe, _, _, P3⟩ := HCX.out.parts.form
          obtain ⟨b0, o0, he0, q0, q1, q2⟩ := P3 j _ (List.getElem?_eq_getElem hjl)
          simp only [Value.slice.injEq, true_and] at hpe
          obtain ⟨rfl, rfl⟩ := hpe
          subst he0
          clear P3
          have HJ := Lib.hid hjl
          have hjr : j < d.rks.length := by rw [HCX.out.len]; exact hjl
          have HRJ := Lib.hid (HCX.out.rk j _ _ (List.getElem?_eq_getElem hjl) (List.getElem?_eq_getElem hjr))
          generalize d.ps[j] = p at *
          generalize d.rks[j] = rk at *
          have kb := (HBX.out.later HXq.out).keep
          have kc := (HKX.out.later HXq.out).keep
          replace q0 := Ext.keep (HXq.out.cell q0)
          replace q1 := Ext.keep (HXq.out.cell q1)
          replace q2 := Ext.keep (HXq.out.cell q2)
          have HP1 := Lib.hid (show ∀ W, Ext wr W → Calls Try.prog 23 #[.agg #[.slice ya N.length ycap], p.val] W fun e w' => e = .returned (I (partV cl N p rk)) ∧ Ext W w' from fun W hW =>
            checkPart_any _ N p rk cl W (HNT.out.later (HXq.out.trans hW)) HNO.out (Nat.le_trans HNS.out (by decide)) HCU.out (HRJ.out.later (HXq.out.trans hW)))
          have HP2 := Lib.hid (show ∀ W, Ext wr W → Calls Try.prog 24 #[.agg #[.slice ya N.length ycap], p.val] W fun e w' => e = .returned (I (partV cl N p rk)) ∧ Ext W w' from fun W hW =>
            r20Part_any _ N p rk cl W (HNT.out.later (HXq.out.trans hW)) HNO.out (Nat.le_trans HNS.out (by decide)) HCU.out (HRJ.out.later (HXq.out.trans hW)))
          generalize partV cl N p rk = z at *
          have hzz : (z != z) = false := by simp
          go_wp2_with fail
          refine wp_region_E 14 rfl (by kernel_rfl) (by kernel_rfl) ?_
          refine WE_q 0 rfl (by decide) (by kernel_rfl) rfl ?_; apply Exists.intro; refine ⟨fun w1 hx1 => ?_, ?_⟩
          · have hq1 := hx1.cells; go_simp; try go_bits
            first | with_reducible rfl | (first | (refine (HP1.out _ hx1).mono ?_; rintro e w' ⟨rfl, hx⟩; exact ⟨rfl, hx⟩) | (refine (HP2.out _ hx1).mono ?_; rintro e w' ⟨rfl, hx⟩; exact ⟨rfl, hx⟩))
          simp only [Act.put, List.setIfInBounds_toArray, List.set_cons_zero, List.set_cons_succ]
          refine WE_q 1 rfl (by decide) (by kernel_rfl) rfl ?_; apply Exists.intro; refine ⟨fun w1 hx1 => ?_, ?_⟩
          · have hq1 := hx1.cells; go_simp; try go_bits
            first | with_reducible rfl | (first | (refine (HP1.out _ hx1).mono ?_; rintro e w' ⟨rfl, hx⟩; exact ⟨rfl, hx⟩) | (refine (HP2.out _ hx1).mono ?_; rintro e w' ⟨rfl, hx⟩; exact ⟨rfl, hx⟩))
          simp only [Act.put, List.setIfInBounds_toArray, List.set_cons_zero, List.set_cons_succ]
          refine WE_q 2 rfl (by decide) (by kernel_rfl) rfl ?_; apply Exists.intro; refine ⟨fun w1 hx1 => ?_, ?_⟩
          · have hq1 := hx1.cells; go_simp; try go_bits
            first | with_reducible rfl | (first | (refine (HP1.out _ hx1).mono ?_; rintro e w' ⟨rfl, hx⟩; exact ⟨rfl, hx⟩) | (refine (HP2.out _ hx1).mono ?_; rintro e w' ⟨rfl, hx⟩; exact ⟨rfl, hx⟩))
          simp only [Act.put, List.setIfInBounds_toArray, List.set_cons_zero, List.set_cons_succ]
          refine WE_q 3 rfl (by decide) (by kernel_rfl) rfl ?_; apply Exists.intro; refine ⟨fun w1 hx1 => ?_, ?_⟩
          · have hq1 := hx1.cells; go_simp; try go_bits
            first | with_reducible rfl | (first | (refine (HP1.out _ hx1).mono ?_; rintro e w' ⟨rfl, hx⟩; exact ⟨rfl, hx⟩) | (refine (HP2.out _ hx1).mono ?_; rintro e w' ⟨rfl, hx⟩; exact ⟨rfl, hx⟩))
          simp only [Act.put, List.setIfInBounds_toArray, List.set_cons_zero, List.set_cons_succ]
          refine WE_q 4 rfl (by decide) (by kernel_rfl) rfl ?_; apply Exists.intro; refine ⟨fun w1 hx1 => ?_, ?_⟩
          · have hq1 := hx1.cells; go_simp; try go_bits
            first | with_reducible rfl | (first | (refine (HP1.out _ hx1).mono ?_; rintro e w' ⟨rfl, hx⟩; exact ⟨rfl, hx⟩) | (refine (HP2.out _ hx1).mono ?_; rintro e w' ⟨rfl, hx⟩; exact ⟨rfl, hx⟩))
          simp only [Act.put, List.setIfInBounds_toArray, List.set_cons_zero, List.set_cons_succ]
          refine WE_q 5 rfl (by decide) (by kernel_rfl) rfl ?_; apply Exists.intro; refine ⟨fun w1 hx1 => ?_, ?_⟩
          · have hq1 := hx1.cells; go_simp; try go_bits
            first | with_reducible rfl | (first | (refine (HP1.out _ hx1).mono ?_; rintro e w' ⟨rfl, hx⟩; exact ⟨rfl, hx⟩) | (refine (HP2.out _ hx1).mono ?_; rintro e w' ⟨rfl, hx⟩; exact ⟨rfl, hx⟩))
          simp only [Act.put, List.setIfInBounds_toArray, List.set_cons_zero, List.set_cons_succ]
          refine WE_q 6 rfl (by decide) (by kernel_rfl) rfl ?_; apply Exists.intro; refine ⟨fun w1 hx1 => ?_, ?_⟩
          · have hq1 := hx1.cells; go_simp; try go_bits
            first | with_reducible rfl | (first | (refine (HP1.out _ hx1).mono ?_; rintro e w' ⟨rfl, hx⟩; exact ⟨rfl, hx⟩) | (refine (HP2.out _ hx1).mono ?_; rintro e w' ⟨rfl, hx⟩; exact ⟨rfl, hx⟩))
          simp only [Act.put, List.setIfInBounds_toArray, List.set_cons_zero, List.set_cons_succ]
          refine WE_q 7 rfl (by decide) (by kernel_rfl) rfl ?_; apply Exists.intro; refine ⟨fun w1 hx1 => ?_, ?_⟩
          · have hq1 := hx1.cells; go_simp; try go_bits
            first | with_reducible rfl | (first | (refine (HP1.out _ hx1).mono ?_; rintro e w' ⟨rfl, hx⟩; exact ⟨rfl, hx⟩) | (refine (HP2.out _ hx1).mono ?_; rintro e w' ⟨rfl, hx⟩; exact ⟨rfl, hx⟩))
          simp only [Act.put, List.setIfInBounds_toArray, List.set_cons_zero, List.set_cons_succ]
          refine WE_q 8 rfl (by decide) (by kernel_rfl) rfl ?_; apply Exists.intro; refine ⟨fun w1 hx1 => ?_, ?_⟩
          · have hq1 := hx1.cells; go_simp; try go_bits
            first | with_reducible rfl | (first | (refine (HP1.out _ hx1).mono ?_; rintro e w' ⟨rfl, hx⟩; exact ⟨rfl, hx⟩) | (refine (HP2.out _ hx1).mono ?_; rintro e w' ⟨rfl, hx⟩; exact ⟨rfl, hx⟩))
          simp only [Act.put, List.setIfInBounds_toArray, List.set_cons_zero, List.set_cons_succ]
          refine WE_q 9 rfl (by decide) (by kernel_rfl) rfl ?_; apply Exists.intro; refine ⟨fun w1 hx1 => ?_, ?_⟩
          · have hq1 := hx1.cells; go_simp; try go_bits
            first | with_reducible rfl | (first | (refine (HP1.out _ hx1).mono ?_; rintro e w' ⟨rfl, hx⟩; exact ⟨rfl, hx⟩) | (refine (HP2.out _ hx1).mono ?_; rintro e w' ⟨rfl, hx⟩; exact ⟨rfl, hx⟩))
          simp only [Act.put, List.setIfInBounds_toArray, List.set_cons_zero, List.set_cons_succ]
          refine WE_q 10 rfl (by decide) (by kernel_rfl) rfl ?_; apply Exists.intro; refine ⟨fun w1 hx1 => ?_, ?_⟩
          · have hq1 := hx1.cells; go_simp; try go_bits
            first | with_reducible rfl | (first | (refine (HP1.out _ hx1).mono ?_; rintro e w' ⟨rfl, hx⟩; exact ⟨rfl, hx⟩) | (refine (HP2.out _ hx1).mono ?_; rintro e w' ⟨rfl, hx⟩; exact ⟨rfl, hx⟩))
          simp only [Act.put, List.setIfInBounds_toArray, List.set_cons_zero, List.set_cons_succ]
          refine WE_q 11 rfl (by decide) (by kernel_rfl) rfl ?_; apply Exists.intro; refine ⟨fun w1 hx1 => ?_, ?_⟩
          · have hq1 := hx1.cells; go_simp; try go_bits
            first | with_reducible rfl | (first | (refine (HP1.out _ hx1).mono ?_; rintro e w' ⟨rfl, hx⟩; exact ⟨rfl, hx⟩) | (refine (HP2.out _ hx1).mono ?_; rintro e w' ⟨rfl, hx⟩; exact ⟨rfl, hx⟩))
          simp only [Act.put, List.setIfInBounds_toArray, List.set_cons_zero, List.set_cons_succ]
          refine WE_q 12 rfl (by decide) (by kernel_rfl) rfl ?_; apply Exists.intro; refine ⟨fun w1 hx1 => ?_, ?_⟩
          · have hq1 := hx1.cells; go_simp; try go_bits
            first | with_reducible rfl | (first | (refine (HP1.out _ hx1).mono ?_; rintro e w' ⟨rfl, hx⟩; exact ⟨rfl, hx⟩) | (refine (HP2.out _ hx1).mono ?_; rintro e w' ⟨rfl, hx⟩; exact ⟨rfl, hx⟩))
          simp only [Act.put, List.setIfInBounds_toArray, List.set_cons_zero, List.set_cons_succ]
          refine WE_q 13 rfl (by decide) (by kernel_rfl) rfl ?_; apply Exists.intro; refine ⟨fun w1 hx1 => ?_, ?_⟩
          · have hq1 := hx1.cells; go_simp; try go_bits
            first | with_reducible rfl | (first | (refine (HP1.out _ hx1).mono ?_; rintro e w' ⟨rfl, hx⟩; exact ⟨rfl, hx⟩) | (refine (HP2.out _ hx1).mono ?_; rintro e w' ⟨rfl, hx⟩; exact ⟨rfl, hx⟩))
          simp only [Act.put, List.setIfInBounds_toArray, List.set_cons_zero, List.set_cons_succ]
          refine WE_done (by kernel_rfl) (fun w8 hx8 => ?_)
          (try simp only [List.drop_succ_cons, List.drop_zero])
          have HX8 := Lib.hid (HXq.out.trans hx8)
          clear kb kc q0 q1 q2 hx8 hkc
          go_wp2_with fail
          go_roundw
          case rel => exact ⟨j + 1, Nat.succ_le_of_lt HJ.out, by go_num, HX8⟩
          case measure => have := HJ.out; simp [intOf]; omega
        · have hjd : decide ((j : Int) < (d.ps.length : Int)) = false := decide_eq_false (by omega)
          have kb := (HBX.out.later HXq.out).keep
          have kc := (HKX.out.later HXq.out).keep
          have HT1 := Lib.hid (show ∀ W, Ext wr W → Calls Try.prog 25 #[.agg #[.slice ya N.length ycap], U d.dest, .slice sa d.tr.length sc] W fun e w' => e = .returned (I (traceV N d.dest d.tr)) ∧ Ext W w' from fun W hW =>
            checkTrace_any _ _ N d.dest d.tr W (HNT.out.later (HXq.out.trans hW)) HNO.out (HCX.out.tr.later (HXq.out.trans hW)))
          have HT2 := Lib.hid (show ∀ W, Ext wr W → Calls Try.prog 26 #[.agg #[.slice ya N.length ycap], U d.dest, .slice sa d.tr.length sc] W fun e w' => e = .returned (I (traceV N d.dest d.tr)) ∧ Ext W w' from fun W hW =>
            r20Trace_any _ _ N d.dest d.tr W (HNT.out.later (HXq.out.trans hW)) HNO.out (HCX.out.tr.later (HXq.out.trans hW)))
          have HN1 := Lib.hid (show ∀ W, Ext wr W → Calls Try.prog 21 #[.agg #[.slice ya N.length ycap], .agg #[I d.vd, .slice qa d.ps.length qc, U d.dest, .slice sa d.tr.length sc]] W fun e w' => e = .returned (.agg #[I (ansV cl N d).1, I (ansV cl N d).2]) ∧ Ext W w' from fun W hW =>
            checkNet_any _ _ _ N d cl W (HNT.out.later (HXq.out.trans hW)) HNO.out (Nat.le_trans HNS.out (by decide)) HCU.out (HCX.out.later (HXq.out.trans hW)) HTX.out)
          have HN2 := Lib.hid (show ∀ W, Ext wr W → Calls Try.prog 27 #[.agg #[.slice ya N.length ycap], .agg #[I d.vd, .slice qa d.ps.length qc, U d.dest, .slice sa d.tr.length sc]] W fun e w' => e = .returned (.agg #[I (ansV cl N d).1, I (ansV cl N d).2]) ∧ Ext W w' from fun W hW =>
            r20Net_any _ _ _ N d cl W (HNT.out.later (HXq.out.trans hW)) HNO.out (Nat.le_trans HNS.out (by decide)) HCU.out (HCX.out.later (HXq.out.trans hW)))
          generalize traceV N d.dest d.tr = z at *
          generalize (ansV cl N d).1 = z1 at *
          generalize (ansV cl N d).2 = z2 at *
          have hzz : (z != z) = false := by simp
          have hz1 : (z1 == z1) = true := by simp
          have hz2 : (z2 == z2) = true := by simp
          go_wp2_with fail
          refine wp_region_E 21 rfl (by kernel_rfl) (by kernel_rfl) ?_
          refine WE_q 0 rfl (by decide) (by kernel_rfl) rfl ?_; apply Exists.intro; refine ⟨fun w1 hx1 => ?_, ?_⟩
          · have hq1 := hx1.cells; go_simp; try go_bits
            first | with_reducible rfl | (first | (refine (HT1.out _ hx1).mono ?_; rintro e w' ⟨rfl, hx⟩; exact ⟨rfl, hx⟩) | (refine (HT2.out _ hx1).mono ?_; rintro e w' ⟨rfl, hx⟩; exact ⟨rfl, hx⟩) | (refine (HN1.out _ hx1).mono ?_; rintro e w' ⟨rfl, hx⟩; exact ⟨rfl, hx⟩) | (refine (HN2.out _ hx1).mono ?_; rintro e w' ⟨rfl, hx⟩; exact ⟨rfl, hx⟩))
          simp only [Act.put, List.setIfInBounds_toArray, List.set_cons_zero, List.set_cons_succ]
          refine WE_q 1 rfl (by decide) (by kernel_rfl) rfl ?_; apply Exists.intro; refine ⟨fun w1 hx1 => ?_, ?_⟩
          · have hq1 := hx1.cells; go_simp; try go_bits
            first | with_reducible rfl | (first | (refine (HT1.out _ hx1).mono ?_; rintro e w' ⟨rfl, hx⟩; exact ⟨rfl, hx⟩) | (refine (HT2.out _ hx1).mono ?_; rintro e w' ⟨rfl, hx⟩; exact ⟨rfl, hx⟩) | (refine (HN1.out _ hx1).mono ?_; rintro e w' ⟨rfl, hx⟩; exact ⟨rfl, hx⟩) | (refine (HN2.out _ hx1).mono ?_; rintro e w' ⟨rfl, hx⟩; exact ⟨rfl, hx⟩))
          simp only [Act.put, List.setIfInBounds_toArray, List.set_cons_zero, List.set_cons_succ]
          refine WE_q 2 rfl (by decide) (by kernel_rfl) rfl ?_; apply Exists.intro; refine ⟨fun w1 hx1 => ?_, ?_⟩
          · have hq1 := hx1.cells; go_simp; try go_bits
            first | with_reducible rfl | (first | (refine (HT1.out _ hx1).mono ?_; rintro e w' ⟨rfl, hx⟩; exact ⟨rfl, hx⟩) | (refine (HT2.out _ hx1).mono ?_; rintro e w' ⟨rfl, hx⟩; exact ⟨rfl, hx⟩) | (refine (HN1.out _ hx1).mono ?_; rintro e w' ⟨rfl, hx⟩; exact ⟨rfl, hx⟩) | (refine (HN2.out _ hx1).mono ?_; rintro e w' ⟨rfl, hx⟩; exact ⟨rfl, hx⟩))
          simp only [Act.put, List.setIfInBounds_toArray, List.set_cons_zero, List.set_cons_succ]
          refine WE_q 3 rfl (by decide) (by kernel_rfl) rfl ?_; apply Exists.intro; refine ⟨fun w1 hx1 => ?_, ?_⟩
          · have hq1 := hx1.cells; go_simp; try go_bits
            first | with_reducible rfl | (first | (refine (HT1.out _ hx1).mono ?_; rintro e w' ⟨rfl, hx⟩; exact ⟨rfl, hx⟩) | (refine (HT2.out _ hx1).mono ?_; rintro e w' ⟨rfl, hx⟩; exact ⟨rfl, hx⟩) | (refine (HN1.out _ hx1).mono ?_; rintro e w' ⟨rfl, hx⟩; exact ⟨rfl, hx⟩) | (refine (HN2.out _ hx1).mono ?_; rintro e w' ⟨rfl, hx⟩; exact ⟨rfl, hx⟩))
          simp only [Act.put, List.setIfInBounds_toArray, List.set_cons_zero, List.set_cons_succ]
          refine WE_q 4 rfl (by decide) (by kernel_rfl) rfl ?_; apply Exists.intro; refine ⟨fun w1 hx1 => ?_, ?_⟩
          · have hq1 := hx1.cells; go_simp; try go_bits
            first | with_reducible rfl | (first | (refine (HT1.out _ hx1).mono ?_; rintro e w' ⟨rfl, hx⟩; exact ⟨rfl, hx⟩) | (refine (HT2.out _ hx1).mono ?_; rintro e w' ⟨rfl, hx⟩; exact ⟨rfl, hx⟩) | (refine (HN1.out _ hx1).mono ?_; rintro e w' ⟨rfl, hx⟩; exact ⟨rfl, hx⟩) | (refine (HN2.out _ hx1).mono ?_; rintro e w' ⟨rfl, hx⟩; exact ⟨rfl, hx⟩))
          simp only [Act.put, List.setIfInBounds_toArray, List.set_cons_zero, List.set_cons_succ]
          refine WE_q 5 rfl (by decide) (by kernel_rfl) rfl ?_; apply Exists.intro; refine ⟨fun w1 hx1 => ?_, ?_⟩
          · have hq1 := hx1.cells; go_simp; try go_bits
            first | with_reducible rfl | (first | (refine (HT1.out _ hx1).mono ?_; rintro e w' ⟨rfl, hx⟩; exact ⟨rfl, hx⟩) | (refine (HT2.out _ hx1).mono ?_; rintro e w' ⟨rfl, hx⟩; exact ⟨rfl, hx⟩) | (refine (HN1.out _ hx1).mono ?_; rintro e w' ⟨rfl, hx⟩; exact ⟨rfl, hx⟩) | (refine (HN2.out _ hx1).mono ?_; rintro e w' ⟨rfl, hx⟩; exact ⟨rfl, hx⟩))
          simp only [Act.put, List.setIfInBounds_toArray, List.set_cons_zero, List.set_cons_succ]
          refine WE_q 6 rfl (by decide) (by kernel_rfl) rfl ?_; apply Exists.intro; refine ⟨fun w1 hx1 => ?_, ?_⟩
          · have hq1 := hx1.cells; go_simp; try go_bits
            first | with_reducible rfl | (first | (refine (HT1.out _ hx1).mono ?_; rintro e w' ⟨rfl, hx⟩; exact ⟨rfl, hx⟩) | (refine (HT2.out _ hx1).mono ?_; rintro e w' ⟨rfl, hx⟩; exact ⟨rfl, hx⟩) | (refine (HN1.out _ hx1).mono ?_; rintro e w' ⟨rfl, hx⟩; exact ⟨rfl, hx⟩) | (refine (HN2.out _ hx1).mono ?_; rintro e w' ⟨rfl, hx⟩; exact ⟨rfl, hx⟩))
          simp only [Act.put, List.setIfInBounds_toArray, List.set_cons_zero, List.set_cons_succ]
          refine WE_q 7 rfl (by decide) (by kernel_rfl) rfl ?_; apply Exists.intro; refine ⟨fun w1 hx1 => ?_, ?_⟩
          · have hq1 := hx1.cells; go_simp; try go_bits
            first | with_reducible rfl | (first | (refine (HT1.out _ hx1).mono ?_; rintro e w' ⟨rfl, hx⟩; exact ⟨rfl, hx⟩) | (refine (HT2.out _ hx1).mono ?_; rintro e w' ⟨rfl, hx⟩; exact ⟨rfl, hx⟩) | (refine (HN1.out _ hx1).mono ?_; rintro e w' ⟨rfl, hx⟩; exact ⟨rfl, hx⟩) | (refine (HN2.out _ hx1).mono ?_; rintro e w' ⟨rfl, hx⟩; exact ⟨rfl, hx⟩))
          simp only [Act.put, List.setIfInBounds_toArray, List.set_cons_zero, List.set_cons_succ]
          refine WE_q 8 rfl (by decide) (by kernel_rfl) rfl ?_; apply Exists.intro; refine ⟨fun w1 hx1 => ?_, ?_⟩
          · have hq1 := hx1.cells; go_simp; try go_bits
            first | with_reducible rfl | (first | (refine (HT1.out _ hx1).mono ?_; rintro e w' ⟨rfl, hx⟩; exact ⟨rfl, hx⟩) | (refine (HT2.out _ hx1).mono ?_; rintro e w' ⟨rfl, hx⟩; exact ⟨rfl, hx⟩) | (refine (HN1.out _ hx1).mono ?_; rintro e w' ⟨rfl, hx⟩; exact ⟨rfl, hx⟩) | (refine (HN2.out _ hx1).mono ?_; rintro e w' ⟨rfl, hx⟩; exact ⟨rfl, hx⟩))
          simp only [Act.put, List.setIfInBounds_toArray, List.set_cons_zero, List.set_cons_succ]
          refine WE_q 9 rfl (by decide) (by kernel_rfl) rfl ?_; apply Exists.intro; refine ⟨fun w1 hx1 => ?_, ?_⟩
          · have hq1 := hx1.cells; go_simp; try go_bits
            first | with_reducible rfl | (first | (refine (HT1.out _ hx1).mono ?_; rintro e w' ⟨rfl, hx⟩; exact ⟨rfl, hx⟩) | (refine (HT2.out _ hx1).mono ?_; rintro e w' ⟨rfl, hx⟩; exact ⟨rfl, hx⟩) | (refine (HN1.out _ hx1).mono ?_; rintro e w' ⟨rfl, hx⟩; exact ⟨rfl, hx⟩) | (refine (HN2.out _ hx1).mono ?_; rintro e w' ⟨rfl, hx⟩; exact ⟨rfl, hx⟩))
          simp only [Act.put, List.setIfInBounds_toArray, List.set_cons_zero, List.set_cons_succ]
          refine WE_q 10 rfl (by decide) (by kernel_rfl) rfl ?_; apply Exists.intro; refine ⟨fun w1 hx1 => ?_, ?_⟩
          · have hq1 := hx1.cells; go_simp; try go_bits
            first | with_reducible rfl | (first | (refine (HT1.out _ hx1).mono ?_; rintro e w' ⟨rfl, hx⟩; exact ⟨rfl, hx⟩) | (refine (HT2.out _ hx1).mono ?_; rintro e w' ⟨rfl, hx⟩; exact ⟨rfl, hx⟩) | (refine (HN1.out _ hx1).mono ?_; rintro e w' ⟨rfl, hx⟩; exact ⟨rfl, hx⟩) | (refine (HN2.out _ hx1).mono ?_; rintro e w' ⟨rfl, hx⟩; exact ⟨rfl, hx⟩))
          simp only [Act.put, List.setIfInBounds_toArray, List.set_cons_zero, List.set_cons_succ]
          refine WE_q 11 rfl (by decide) (by kernel_rfl) rfl ?_; apply Exists.intro; refine ⟨fun w1 hx1 => ?_, ?_⟩
          · have hq1 := hx1.cells; go_simp; try go_bits
            first | with_reducible rfl | (first | (refine (HT1.out _ hx1).mono ?_; rintro e w' ⟨rfl, hx⟩; exact ⟨rfl, hx⟩) | (refine (HT2.out _ hx1).mono ?_; rintro e w' ⟨rfl, hx⟩; exact ⟨rfl, hx⟩) | (refine (HN1.out _ hx1).mono ?_; rintro e w' ⟨rfl, hx⟩; exact ⟨rfl, hx⟩) | (refine (HN2.out _ hx1).mono ?_; rintro e w' ⟨rfl, hx⟩; exact ⟨rfl, hx⟩))
          simp only [Act.put, List.setIfInBounds_toArray, List.set_cons_zero, List.set_cons_succ]
          refine WE_q 12 rfl (by decide) (by kernel_rfl) rfl ?_; apply Exists.intro; refine ⟨fun w1 hx1 => ?_, ?_⟩
          · have hq1 := hx1.cells; go_simp; try go_bits
            first | with_reducible rfl | (first | (refine (HT1.out _ hx1).mono ?_; rintro e w' ⟨rfl, hx⟩; exact ⟨rfl, hx⟩) | (refine (HT2.out _ hx1).mono ?_; rintro e w' ⟨rfl, hx⟩; exact ⟨rfl, hx⟩) | (refine (HN1.out _ hx1).mono ?_; rintro e w' ⟨rfl, hx⟩; exact ⟨rfl, hx⟩) | (refine (HN2.out _ hx1).mono ?_; rintro e w' ⟨rfl, hx⟩; exact ⟨rfl, hx⟩))
          simp only [Act.put, List.setIfInBounds_toArray, List.set_cons_zero, List.set_cons_succ]
          refine WE_q 13 rfl (by decide) (by kernel_rfl) rfl ?_; apply Exists.intro; refine ⟨fun w1 hx1 => ?_, ?_⟩
          · have hq1 := hx1.cells; go_simp; try go_bits
            first | with_reducible rfl | (first | (refine (HT1.out _ hx1).mono ?_; rintro e w' ⟨rfl, hx⟩; exact ⟨rfl, hx⟩) | (refine (HT2.out _ hx1).mono ?_; rintro e w' ⟨rfl, hx⟩; exact ⟨rfl, hx⟩) | (refine (HN1.out _ hx1).mono ?_; rintro e w' ⟨rfl, hx⟩; exact ⟨rfl, hx⟩) | (refine (HN2.out _ hx1).mono ?_; rintro e w' ⟨rfl, hx⟩; exact ⟨rfl, hx⟩))
          simp only [Act.put, List.setIfInBounds_toArray, List.set_cons_zero, List.set_cons_succ]
          refine WE_q 14 rfl (by decide) (by kernel_rfl) rfl ?_; apply Exists.intro; refine ⟨fun w1 hx1 => ?_, ?_⟩
          · have hq1 := hx1.cells; go_simp; try go_bits
            first | with_reducible rfl | (first | (refine (HT1.out _ hx1).mono ?_; rintro e w' ⟨rfl, hx⟩; exact ⟨rfl, hx⟩) | (refine (HT2.out _ hx1).mono ?_; rintro e w' ⟨rfl, hx⟩; exact ⟨rfl, hx⟩) | (refine (HN1.out _ hx1).mono ?_; rintro e w' ⟨rfl, hx⟩; exact ⟨rfl, hx⟩) | (refine (HN2.out _ hx1).mono ?_; rintro e w' ⟨rfl, hx⟩; exact ⟨rfl, hx⟩))
          simp only [Act.put, List.setIfInBounds_toArray, List.set_cons_zero, List.set_cons_succ]
          refine WE_q 15 rfl (by decide) (by kernel_rfl) rfl ?_; apply Exists.intro; refine ⟨fun w1 hx1 => ?_, ?_⟩
          · have hq1 := hx1.cells; go_simp; try go_bits
            first | with_reducible rfl | (first | (refine (HT1.out _ hx1).mono ?_; rintro e w' ⟨rfl, hx⟩; exact ⟨rfl, hx⟩) | (refine (HT2.out _ hx1).mono ?_; rintro e w' ⟨rfl, hx⟩; exact ⟨rfl, hx⟩) | (refine (HN1.out _ hx1).mono ?_; rintro e w' ⟨rfl, hx⟩; exact ⟨rfl, hx⟩) | (refine (HN2.out _ hx1).mono ?_; rintro e w' ⟨rfl, hx⟩; exact ⟨rfl, hx⟩))
          simp only [Act.put, List.setIfInBounds_toArray, List.set_cons_zero, List.set_cons_succ]
          refine WE_q 16 rfl (by decide) (by kernel_rfl) rfl ?_; apply Exists.intro; refine ⟨fun w1 hx1 => ?_, ?_⟩
          · have hq1 := hx1.cells; go_simp; try go_bits
            first | with_reducible rfl | (first | (refine (HT1.out _ hx1).mono ?_; rintro e w' ⟨rfl, hx⟩; exact ⟨rfl, hx⟩) | (refine (HT2.out _ hx1).mono ?_; rintro e w' ⟨rfl, hx⟩; exact ⟨rfl, hx⟩) | (refine (HN1.out _ hx1).mono ?_; rintro e w' ⟨rfl, hx⟩; exact ⟨rfl, hx⟩) | (refine (HN2.out _ hx1).mono ?_; rintro e w' ⟨rfl, hx⟩; exact ⟨rfl, hx⟩))
          simp only [Act.put, List.setIfInBounds_toArray, List.set_cons_zero, List.set_cons_succ]
          refine WE_q 17 rfl (by decide) (by kernel_rfl) rfl ?_; apply Exists.intro; refine ⟨fun w1 hx1 => ?_, ?_⟩
          · have hq1 := hx1.cells; go_simp; try go_bits
            first | with_reducible rfl | (first | (refine (HT1.out _ hx1).mono ?_; rintro e w' ⟨rfl, hx⟩; exact ⟨rfl, hx⟩) | (refine (HT2.out _ hx1).mono ?_; rintro e w' ⟨rfl, hx⟩; exact ⟨rfl, hx⟩) | (refine (HN1.out _ hx1).mono ?_; rintro e w' ⟨rfl, hx⟩; exact ⟨rfl, hx⟩) | (refine (HN2.out _ hx1).mono ?_; rintro e w' ⟨rfl, hx⟩; exact ⟨rfl, hx⟩))
          simp only [Act.put, List.setIfInBounds_toArray, List.set_cons_zero, List.set_cons_succ]
          refine WE_q 18 rfl (by decide) (by kernel_rfl) rfl ?_; apply Exists.intro; refine ⟨fun w1 hx1 => ?_, ?_⟩
          · have hq1 := hx1.cells; go_simp; try go_bits
            first | with_reducible rfl | (first | (refine (HT1.out _ hx1).mono ?_; rintro e w' ⟨rfl, hx⟩; exact ⟨rfl, hx⟩) | (refine (HT2.out _ hx1).mono ?_; rintro e w' ⟨rfl, hx⟩; exact ⟨rfl, hx⟩) | (refine (HN1.out _ hx1).mono ?_; rintro e w' ⟨rfl, hx⟩; exact ⟨rfl, hx⟩) | (refine (HN2.out _ hx1).mono ?_; rintro e w' ⟨rfl, hx⟩; exact ⟨rfl, hx⟩))
          simp only [Act.put, List.setIfInBounds_toArray, List.set_cons_zero, List.set_cons_succ]
          refine WE_q 19 rfl (by decide) (by kernel_rfl) rfl ?_; apply Exists.intro; refine ⟨fun w1 hx1 => ?_, ?_⟩
          · have hq1 := hx1.cells; go_simp; try go_bits
            first | with_reducible rfl | (first | (refine (HT1.out _ hx1).mono ?_; rintro e w' ⟨rfl, hx⟩; exact ⟨rfl, hx⟩) | (refine (HT2.out _ hx1).mono ?_; rintro e w' ⟨rfl, hx⟩; exact ⟨rfl, hx⟩) | (refine (HN1.out _ hx1).mono ?_; rintro e w' ⟨rfl, hx⟩; exact ⟨rfl, hx⟩) | (refine (HN2.out _ hx1).mono ?_; rintro e w' ⟨rfl, hx⟩; exact ⟨rfl, hx⟩))
          simp only [Act.put, List.setIfInBounds_toArray, List.set_cons_zero, List.set_cons_succ]
          refine WE_q 20 rfl (by decide) (by kernel_rfl) rfl ?_; apply Exists.intro; refine ⟨fun w1 hx1 => ?_, ?_⟩
          · have hq1 := hx1.cells; go_simp; try go_bits
            first | with_reducible rfl | (first | (refine (HT1.out _ hx1).mono ?_; rintro e w' ⟨rfl, hx⟩; exact ⟨rfl, hx⟩) | (refine (HT2.out _ hx1).mono ?_; rintro e w' ⟨rfl, hx⟩; exact ⟨rfl, hx⟩) | (refine (HN1.out _ hx1).mono ?_; rintro e w' ⟨rfl, hx⟩; exact ⟨rfl, hx⟩) | (refine (HN2.out _ hx1).mono ?_; rintro e w' ⟨rfl, hx⟩; exact ⟨rfl, hx⟩))
          simp only [Act.put, List.setIfInBounds_toArray, List.set_cons_zero, List.set_cons_succ]
          refine WE_done (by kernel_rfl) (fun w8 hx8 => ?_)
          (try simp only [List.drop_succ_cons, List.drop_zero])
          have HX8 := Lib.hid (HXq.out.trans hx8)
          clear kb kc hx8 hkc
          have HY8 := Lib.hid (HX.out.trans HX8.out)
          have hbc8 := (HB1.out.later HY8.out).cells
          have hxc8 := (HBX.out.later HX8.out).cells
          have hxf8 := (HBX.out.later HX8.out).frozen
          go_upto_region 15 with (first
            | (go_at_call 16; (with_reducible refine (r09Fit_any _ ls _ (HL.out.later (HX1.out.trans HY8.out)) HOK.out).mono ?_); rintro e w9 ⟨v9, he, hF, hx9⟩; subst he; have HF9 := Lib.hid hF; obtain ⟨va9, vcap9, hv9, q1, q2, q3⟩ := hF.tables.form; subst hv9; clear q1 q2 q3; have HX9 := Lib.hid (HY8.out.trans hx9); have HZ9 := Lib.hid (HX8.out.trans hx9); have hxc9 := (HBX.out.later HZ9.out).cells; have hxf9 := (HBX.out.later HZ9.out).frozen; clear hF hx9))
          clear hbc8 hxc8 hxf8 hxc9 hxf9
          refine hideW (Φ := fun W => Code.wp _ _ _ _ W) (fun W => Ext W1 W ∧ Blk W xw [.slice va9 (fitN ls).length vcap9] 24 ∧ FitT W w8.heap.size (.slice va9 (fitN ls).length vcap9) (fitN ls) ∧ Blk W xc [I d.vd, .slice qa d.ps.length qc, U d.dest, .slice sa d.tr.length sc] 29)
            ⟨HX9.out.setCell HXW.out _, (HBX.out.later HZ9.out).set 0 _, HF9.out.setCell (show xw < _ from Nat.lt_of_lt_of_le HBX.out.lt HX8.out.size) _, (HKX.out.later HZ9.out).other (Nat.ne_of_lt HXC.out) _⟩ (fun W10 hW10 => ?_)
          obtain ⟨hxA, hbA, hfA, hkA⟩ := hW10
          have HXA := Lib.hid hxA
          have HBA := Lib.hid hbA
          have HFA := Lib.hid hfA
          have HKA := Lib.hid hkA
          have HCA := Lib.hid (HK1.out.later hxA)
          clear hxA hbA hfA hkA
          refine wp_region_R (RB (W10.heap.size)) 6 rfl (by kernel_rfl) (by kernel_rfl) (fun w0 hx0 => ?_)
          have HX0 := Lib.hid hx0
          have hsz : W10.heap.size ≤ w0.heap.size := hx0.size
          have k0 := RB.keep hsz HCA.out.lt ((HCA.out.later hx0).cells 0)
          have k1 := RB.keep hsz HCA.out.lt ((HCA.out.later hx0).cells 1)
          have k2 := RB.keep hsz HCA.out.lt ((HCA.out.later hx0).cells 2)
          have k3 := RB.keep hsz HCA.out.lt ((HCA.out.later hx0).cells 3)
          have kb := RB.keep hsz HBA.out.lt ((HBA.out.later hx0).cells 0)
          refine WR_q (preRB _) 0 rfl (by decide) (by kernel_rfl) rfl ?_; apply Exists.intro; refine ⟨fun w1 hx1 => ?_, ?_⟩
          · go_simp; try go_bits
            first | with_reducible rfl | rfl
          simp only [Act.put, List.setIfInBounds_toArray, List.set_cons_zero, List.set_cons_succ]
          refine WR_q (preRB _) 2 rfl (by decide) (by kernel_rfl) rfl ?_; apply Exists.intro; refine ⟨fun w1 hx1 => ?_, ?_⟩
          · go_simp; try go_bits
            first | with_reducible rfl | rfl
          simp only [Act.put, List.setIfInBounds_toArray, List.set_cons_zero, List.set_cons_succ]
          refine WR_q (preRB _) 3 rfl (by decide) (by kernel_rfl) rfl ?_; apply Exists.intro; refine ⟨fun w1 hx1 => ?_, ?_⟩
          · go_simp; try go_bits
            first | with_reducible rfl | rfl
          simp only [Act.put, List.setIfInBounds_toArray, List.set_cons_zero, List.set_cons_succ]
          refine WR_q (preRB _) 4 rfl (by decide) (by kernel_rfl) rfl ?_; apply Exists.intro; refine ⟨fun w1 hx1 => ?_, ?_⟩
          · go_simp; try go_bits
            first | with_reducible rfl | rfl
          simp only [Act.put, List.setIfInBounds_toArray, List.set_cons_zero, List.set_cons_succ]
          clear k0 k1 k2 k3 kb
          refine WR_one 1 rfl (by decide) (by kernel_rfl) rfl (fun K hK => ?_)
          go_simp
          (with_reducible refine (short20_any _ _ c _ (HC.out.later (HX1.out.trans (HXA.out.trans HX0.out)))).mono ?_)
          rintro e wA ⟨pvA, tvA, cA, he, hCA, hSA, hxA⟩
          subst he
          have HCS := Lib.hid hCA
          have HSA := Lib.hid hSA
          have HYA := Lib.hid (HX0.out.trans hxA)
          refine hK _ _ (RB.ext hxA) ?_
          clear hK K hCA hSA hxA
          refine WR_one 5 rfl (by decide) (by kernel_rfl) rfl (fun K hK => ?_)
          go_simp
          (with_reducible refine (r17Fit_any _ _ cA (fitN ls).length _ HCS.out (HSA.out.in_tr HTR.out) (HSA.out.in_ranks HRK.out) HSA.out.cap ⟨(fitN_bd ls).1, Nat.le_trans (fitN_bd ls).2 (by decide)⟩).mono ?_)
          rintro e wB ⟨pvB, tvB, cB, he, hO, hm, hI, hv, hxB⟩
          subst he
          refine hK _ _ (RB.ext hxB) ?_
          have HOB := Lib.hid hO
          have HIB := Lib.hid hI
          have HYB := Lib.hid (HYA.out.trans hxB)
          obtain ⟨pb, pbc, hpv, -, -, -⟩ := hO.at.parts.form
          obtain ⟨tb, tbc, htv, -, -, -⟩ := hO.at.tr.form
          subst hpv htv
          clear hK K hO hm hI hv hxB
          have hkc := (HKA.out.later HYB.out).cells
          have hkf := (HKA.out.later HYB.out).frozen
          refine WR_done (by kernel_rfl) ?_
          (try simp only [List.drop_succ_cons, List.drop_zero])
          go_wp2_with fail
          go_roundw
          case rel =>
            have hxc8 : xc < w8.heap.size := Nat.lt_of_lt_of_le HKX.out.lt HX8.out.size
            have hle : W1.heap.size ≤ xc := Nat.le_of_lt (Nat.lt_of_le_of_lt HXW.out HXC.out)
            have hne : xc ≠ xw := Nat.ne_of_gt HXC.out
            have hcb : xc < W10.heap.size := HKA.out.lt
            exact ⟨k + 1, fitN ls, cB, va9, vcap9, pb, pbc, tb, tbc, by have := HLT.out; omega, by go_num,
              ((((HBA.out.later HYB.out).other hne _).other hne _).other hne _).other hne _,
              (((((HFA.out.later HYB.out).setCell hxc8 _).setCell hxc8 _).setCell hxc8 _).setCell hxc8 _).tables, fitN_ok ls, fitN_size ls,
              ((((HKA.out.later HYB.out).set 0 _).set 1 _).set 2 _).set 3 _,
              ((((HOB.out.setCell (Nat.lt_of_lt_of_le hcb HYA.out.size) _).setCell (Nat.lt_of_lt_of_le hcb HYA.out.size) _).setCell (Nat.lt_of_lt_of_le hcb HYA.out.size) _).setCell (Nat.lt_of_lt_of_le hcb HYA.out.size) _).at, HIB.out,
              ((((HXA.out.trans HYB.out).setCell hle _).setCell hle _).setCell hle _).setCell hle _⟩
          case measure => have := HLT.out; simp [intOf]; omega
    · have hkd : decide ((k : Int) < 2) = false := decide_eq_false (by omega)
      go_wp2_with fail
      go_ret
      exact ⟨rfl, HX1.out.trans HX.out⟩
end Go.Proofs.Ytpfkfboohblgoaa
