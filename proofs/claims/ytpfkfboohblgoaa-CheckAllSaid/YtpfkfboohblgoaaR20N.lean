/- theseusref20: Trace, Net. Conditions: whole numbers are within 64 bits. -/
import Derived.Test.YtpfkfboohblgoaaR20
namespace Go.Proofs.Ytpfkfboohblgoaa
open Go.RowKit

set_option maxHeartbeats 4000000 in
set_option maxRecDepth 100000 in
theorem r20Trace_any (lv tv : Value) (ls : List (List Rul)) (dest : BitVec 32) (tr : List Int) (w : World) (hl : TablesAt w lv ls) (hok : TablesOk ls) (ht : IntsAt w tv tr) :
    Calls Try.prog 26 #[.agg #[lv], U dest, tv] w fun e w' => e = .returned (I (traceV ls dest tr)) ∧ Ext w w' := by
  have HL := Lib.hid hl
  have HOK := Lib.hid hok
  obtain ⟨ad, cap, rfl, a1, a2, a3⟩ := hl.form
  obtain ⟨ta, tc, rfl, t1, t2, t3⟩ := ht.form
  have T3 := Lib.hid t3
  clear a3 t3 hl hok ht
  unfold maxLen at a2 t2
  go_enter Try.func26, Try.ntmps26
  go_upto_region 1 with (fail)
  refine hideW (Φ := fun W => Code.wp _ _ _ _ W) (fun W => Ext w W ∧ Blk W w.heap.size [.slice ad ls.length cap] 24)
    ⟨by (repeat (first | with_reducible exact Ext.refl _ | with_reducible assumption | with_reducible refine Ext.alloc ?_ _ | with_reducible refine Ext.drew ?_ | with_reducible refine Ext.drewN ?_ _ | (with_reducible refine Ext.setCellP ?_ ?_; focus (first | (simp; done) | (simp; omega) | omega)))), Blk.new w [.slice ad ls.length cap] 24⟩ (fun W1 hW1 => ?_)
  obtain ⟨hx1, hb1⟩ := hW1
  have HX1 := Lib.hid hx1
  have HB1 := Lib.hid hb1
  clear hx1 hb1
  generalize w.heap.size = nb at *
  go_wp2_with fail
  go_loopw [7] (fun i wr => ∃ k : Nat, k ≤ tr.length ∧ i = I k ∧ Hid (∀ i, i < k → trOkV ls dest tr i = true) ∧ Hid (Ext W1 wr)) (fun i _ => tr.length - (intOf i).toNat)
  case atStart => exact ⟨0, by omega, rfl, fun i h => by omega, Ext.refl _⟩
  case round =>
    obtain ⟨k, hk, rfl, HG, HX⟩ := hrel
    have HBr := Lib.hid (HB1.out.later HX.out)
    by_cases hlt : k < tr.length
    · have hkd : decide ((k : Int) < (tr.length : Int)) = true := decide_eq_true (by omega)
      have HXE := Lib.hid (HX1.out.trans HX.out)
      obtain ⟨b0, o0, he0, q0⟩ := T3.out k _ (List.getElem?_eq_getElem hlt)
      subst he0
      have Q0 := Lib.hid (HXE.out.cell q0)
      have hm : (k + 1) % tr.length < tr.length := Nat.mod_lt _ (by omega)
      obtain ⟨b1, o1, he1, q1⟩ := T3.out ((k + 1) % tr.length) _ (List.getElem?_eq_getElem hm)
      simp only [Option.some.injEq, Addr.mk.injEq, and_true] at he1
      obtain ⟨rfl, rfl⟩ := he1
      have Q1 := Lib.hid (HXE.out.cell q1)
      have HTO := Lib.hid (show trOkV ls dest tr k = decide (stepN ls dest tr[k] = some tr[(k + 1) % tr.length]) by
        unfold trOkV
        rw [List.getD_eq_getElem?_getD, List.getElem?_eq_getElem hlt, List.getD_eq_getElem?_getD, List.getElem?_eq_getElem hm]; rfl)
      have HNO := Lib.hid (fun h => traceV_no (ls := ls) (dest := dest) hlt h)
      have HNX := Lib.hid (show trOkV ls dest tr k = true → ∀ i, i < k + 1 → trOkV ls dest tr i = true from fun h i hi => by
        rcases Nat.lt_or_ge i k with g | g
        · exact HG.out i g
        · rw [show i = k by omega]; exact h)
      have hmod : ((k : Int) + 1) % (tr.length : Int) = (((k + 1) % tr.length : Nat) : Int) := by rw [Int.natCast_emod]; rfl
      have hlz : (tr.length : Int) ≠ 0 := by omega
      clear q0 q1
      generalize tr[k] = v at *
      generalize tr[(k + 1) % tr.length] = y at *
      generalize (k + 1) % tr.length = m at *
      have HLV := Lib.hid (HL.out.later HXE.out)
      go_upto_region 4 with (fail)
      refine wp_region_E 11 rfl (by kernel_rfl) (by kernel_rfl) ?_
      have k1 := HBr.out.keep
      have k2 := Ext.keep Q0.out
      refine WE_q 0 rfl (by decide) (by kernel_rfl) rfl ?_; apply Exists.intro; refine ⟨fun w1 hx1 => ?_, ?_⟩
      · have hq1 := hx1.cells; go_simp; try go_bits
        first | with_reducible rfl | (refine (r09Step_any _ ls dest v _ (HLV.out.later hx1) HOK.out).mono ?_; rintro e w' ⟨rfl, hx⟩; exact ⟨rfl, hx⟩)
      simp only [Act.put, List.setIfInBounds_toArray, List.set_cons_zero, List.set_cons_succ]
      refine WE_q 1 rfl (by decide) (by kernel_rfl) rfl ?_; apply Exists.intro; refine ⟨fun w1 hx1 => ?_, ?_⟩
      · have hq1 := hx1.cells; go_simp; try go_bits
        first | with_reducible rfl | (refine (r09Step_any _ ls dest v _ (HLV.out.later hx1) HOK.out).mono ?_; rintro e w' ⟨rfl, hx⟩; exact ⟨rfl, hx⟩)
      simp only [Act.put, List.setIfInBounds_toArray, List.set_cons_zero, List.set_cons_succ]
      refine WE_q 2 rfl (by decide) (by kernel_rfl) rfl ?_; apply Exists.intro; refine ⟨fun w1 hx1 => ?_, ?_⟩
      · have hq1 := hx1.cells; go_simp; try go_bits
        first | with_reducible rfl | (refine (r09Step_any _ ls dest v _ (HLV.out.later hx1) HOK.out).mono ?_; rintro e w' ⟨rfl, hx⟩; exact ⟨rfl, hx⟩)
      simp only [Act.put, List.setIfInBounds_toArray, List.set_cons_zero, List.set_cons_succ]
      refine WE_q 3 rfl (by decide) (by kernel_rfl) rfl ?_; apply Exists.intro; refine ⟨fun w1 hx1 => ?_, ?_⟩
      · have hq1 := hx1.cells; go_simp; try go_bits
        first | with_reducible rfl | (refine (r09Step_any _ ls dest v _ (HLV.out.later hx1) HOK.out).mono ?_; rintro e w' ⟨rfl, hx⟩; exact ⟨rfl, hx⟩)
      simp only [Act.put, List.setIfInBounds_toArray, List.set_cons_zero, List.set_cons_succ]
      refine WE_q 4 rfl (by decide) (by kernel_rfl) rfl ?_; apply Exists.intro; refine ⟨fun w1 hx1 => ?_, ?_⟩
      · have hq1 := hx1.cells; go_simp; try go_bits
        first | with_reducible rfl | (refine (r09Step_any _ ls dest v _ (HLV.out.later hx1) HOK.out).mono ?_; rintro e w' ⟨rfl, hx⟩; exact ⟨rfl, hx⟩)
      simp only [Act.put, List.setIfInBounds_toArray, List.set_cons_zero, List.set_cons_succ]
      refine WE_q 5 rfl (by decide) (by kernel_rfl) rfl ?_; apply Exists.intro; refine ⟨fun w1 hx1 => ?_, ?_⟩
      · have hq1 := hx1.cells; go_simp; try go_bits
        first | with_reducible rfl | (refine (r09Step_any _ ls dest v _ (HLV.out.later hx1) HOK.out).mono ?_; rintro e w' ⟨rfl, hx⟩; exact ⟨rfl, hx⟩)
      simp only [Act.put, List.setIfInBounds_toArray, List.set_cons_zero, List.set_cons_succ]
      refine WE_q 6 rfl (by decide) (by kernel_rfl) rfl ?_; apply Exists.intro; refine ⟨fun w1 hx1 => ?_, ?_⟩
      · have hq1 := hx1.cells; go_simp; try go_bits
        first | with_reducible rfl | (refine (r09Step_any _ ls dest v _ (HLV.out.later hx1) HOK.out).mono ?_; rintro e w' ⟨rfl, hx⟩; exact ⟨rfl, hx⟩)
      simp only [Act.put, List.setIfInBounds_toArray, List.set_cons_zero, List.set_cons_succ]
      refine WE_q 7 rfl (by decide) (by kernel_rfl) rfl ?_; apply Exists.intro; refine ⟨fun w1 hx1 => ?_, ?_⟩
      · have hq1 := hx1.cells; go_simp; try go_bits
        first | with_reducible rfl | (refine (r09Step_any _ ls dest v _ (HLV.out.later hx1) HOK.out).mono ?_; rintro e w' ⟨rfl, hx⟩; exact ⟨rfl, hx⟩)
      simp only [Act.put, List.setIfInBounds_toArray, List.set_cons_zero, List.set_cons_succ]
      refine WE_q 8 rfl (by decide) (by kernel_rfl) rfl ?_; apply Exists.intro; refine ⟨fun w1 hx1 => ?_, ?_⟩
      · have hq1 := hx1.cells; go_simp; try go_bits
        first | with_reducible rfl | (refine (r09Step_any _ ls dest v _ (HLV.out.later hx1) HOK.out).mono ?_; rintro e w' ⟨rfl, hx⟩; exact ⟨rfl, hx⟩)
      simp only [Act.put, List.setIfInBounds_toArray, List.set_cons_zero, List.set_cons_succ]
      refine WE_q 9 rfl (by decide) (by kernel_rfl) rfl ?_; apply Exists.intro; refine ⟨fun w1 hx1 => ?_, ?_⟩
      · have hq1 := hx1.cells; go_simp; try go_bits
        first | with_reducible rfl | (refine (r09Step_any _ ls dest v _ (HLV.out.later hx1) HOK.out).mono ?_; rintro e w' ⟨rfl, hx⟩; exact ⟨rfl, hx⟩)
      simp only [Act.put, List.setIfInBounds_toArray, List.set_cons_zero, List.set_cons_succ]
      refine WE_q 10 rfl (by decide) (by kernel_rfl) rfl ?_; apply Exists.intro; refine ⟨fun w1 hx1 => ?_, ?_⟩
      · have hq1 := hx1.cells; go_simp; try go_bits
        first | with_reducible rfl | (refine (r09Step_any _ ls dest v _ (HLV.out.later hx1) HOK.out).mono ?_; rintro e w' ⟨rfl, hx⟩; exact ⟨rfl, hx⟩)
      simp only [Act.put, List.setIfInBounds_toArray, List.set_cons_zero, List.set_cons_succ]
      refine WE_done (by kernel_rfl) (fun w5 hx5 => ?_)
      (try simp only [List.drop_succ_cons, List.drop_zero])
      clear k1 k2
      have HX5 := Lib.hid (HX.out.trans hx5)
      have q1 := hx5.cell Q1.out
      clear hx5
      cases hs : stepN ls dest v with
      | none =>
        have HR := Lib.hid (HNO.out (by rw [HTO.out, hs]; rfl))
        clear hs
        go_wp2_with fail
        go_ret
        exact ⟨by rw [HR.out]; rfl, HX1.out.trans HX5.out⟩
      | some x =>
        by_cases hxy : x = y
        · have hxb : (x != y) = false := by simp [hxy]
          have HR := Lib.hid (HNX.out (by rw [HTO.out, hs, hxy]; simp))
          clear hs hxy
          go_wp2_with fail
          go_roundw
          case rel => exact ⟨k + 1, by omega, by go_num, HR.out, HX5.out⟩
          case measure => simp [intOf]; omega
        · have hxb : (x != y) = true := by simp [hxy]
          have HR := Lib.hid (HNO.out (by rw [HTO.out, hs]; exact decide_eq_false (fun e => hxy (Option.some.inj e))))
          clear hs hxy
          go_wp2_with fail
          go_ret
          exact ⟨by rw [HR.out]; rfl, HX1.out.trans HX5.out⟩
    · have hkd : decide ((k : Int) < (tr.length : Int)) = false := decide_eq_false (by omega)
      have hkn : decide (k < tr.length) = false := decide_eq_false hlt
      by_cases h0 : tr.length = 0
      · have hb0 : ((tr.length : Int) == 0) = true := by simp [h0]
        have HV := Lib.hid (show traceV ls dest tr = 17 by unfold traceV; rw [if_pos h0])
        clear h0
        go_wp2_with fail
        go_ret
        exact ⟨by rw [HV.out]; rfl, HX1.out.trans HX.out⟩
      · have hb0 : ((tr.length : Int) == 0) = false := beq_false_of_ne (by omega)
        have HE := Lib.hid (traceV_yes (ls := ls) (dest := dest) (show 0 < tr.length by omega) (fun i hi => HG.out i (by omega)))
        clear h0
        go_wp2_with fail
        go_ret
        exact ⟨by rw [HE.out]; rfl, HX1.out.trans HX.out⟩
theorem certMay_loops {n : Int} {c : Crt} (h : certMayV n c = 0) (h2 : c.vd = 2) : c.ps.length = 0 := by
  unfold certMayV at h
  rw [if_neg (by omega), if_pos h2] at h
  unfold loopsV at h
  split at h
  · cases h
  · omega
set_option maxHeartbeats 4000000 in
set_option maxRecDepth 100000 in
theorem r20Net_any (lv pv tv : Value) (ls : List (List Rul)) (c : Crt) (l : List (BitVec 32)) (w : World) (hl : TablesAt w lv ls) (hok : TablesOk ls) (hs : sizeN ls ≤ 10000000) (hC : Cuts ls.flatten l) (hc : CertAt w pv tv c) :
    Calls Try.prog 27 #[.agg #[lv], .agg #[I c.vd, pv, U c.dest, tv]] w fun e w' => e = .returned (.agg #[I (ansV l ls c).1, I (ansV l ls c).2]) ∧ Ext w w' := by
  have HL := Lib.hid hl
  have HOK := Lib.hid hok
  have HS := Lib.hid hs
  have HC := Lib.hid hC
  have HCT := Lib.hid hc
  obtain ⟨ad, cap, rfl, a1, a2, a3⟩ := hl.form
  obtain ⟨pa, pc, rfl, p1, p2, p3⟩ := hc.parts.form
  obtain ⟨ta, tc, rfl, t1, t2, t3⟩ := hc.tr.form
  have P3 := Lib.hid p3
  clear a3 p3 t3 hl hok hs hC hc
  unfold maxLen at a2 p2 t2
  go_enter Try.func27, Try.ntmps27
  go_upto_region 1 with (fail)
  refine hideW (Φ := fun W => Code.wp _ _ _ _ W) (fun W => Ext w W ∧ Blk W w.heap.size [.slice ad ls.length cap] 24 ∧ Blk W (w.heap.size + 1) [I c.vd, .slice pa c.ps.length pc, U c.dest, .slice ta c.tr.length tc] 29 ∧ Blk W (w.heap.size + 2) [.int .i64 0, .int .i64 0] 40)
    ⟨by (repeat (first | with_reducible exact Ext.refl _ | with_reducible assumption | with_reducible refine Ext.alloc ?_ _ | with_reducible refine Ext.drew ?_ | with_reducible refine Ext.drewN ?_ _ | (with_reducible refine Ext.setCellP ?_ ?_; focus (first | (simp; done) | (simp; omega) | omega)))), ((Blk.new w [.slice ad ls.length cap] 24).old _).old _, (Blk.newAt [I c.vd, .slice pa c.ps.length pc, U c.dest, .slice ta c.tr.length tc] (by simp)).old _, Blk.newAt [.int .i64 0, .int .i64 0] (by simp)⟩ (fun W1 hW1 => ?_)
  obtain ⟨hx1, hb1, hk1, hr1⟩ := hW1
  have HX1 := Lib.hid hx1
  have HB1 := Lib.hid hb1
  have HK1 := Lib.hid hk1
  have HR1 := Lib.hid hr1
  have HSC := Lib.hid (show ∀ (A : World) (o : Nat) (u : Value), Ext w A → Ext w (A.setCell ⟨w.heap.size + 2, o, none⟩ u) from fun A o u h => h.setCell (by show w.heap.size ≤ w.heap.size + 2; omega) u)
  clear hx1 hb1 hk1 hr1
  generalize w.heap.size + 2 = rb at *
  generalize w.heap.size + 1 = cb at *
  generalize w.heap.size = nb at *
  have HEND := Lib.hid (show ∀ (W : World) (x y : Int), Ext W1 W → Ext w ((W.setCell ⟨rb, 0, none⟩ (I x)).setCell ⟨rb, 1, none⟩ (I y)) ∧ Blk ((W.setCell ⟨rb, 0, none⟩ (I x)).setCell ⟨rb, 1, none⟩ (I y)) rb [I x, I y] 40 from fun W x y hx =>
    ⟨HSC.out _ _ _ (HSC.out _ _ _ (HX1.out.trans hx)), ((HR1.out.later hx).set 0 (I x)).set 1 (I y)⟩)
  have hbc := HB1.out.cells
  have HSZ := Lib.hid (Nat.le_trans HS.out (by decide : 10000000 ≤ 100000000))
  go_upto_region 2 with (first
    | (go_at_call 54; (with_reducible refine (r09May_any _ ls _ (HL.out.later HX1.out) HOK.out HSZ.out).mono ?_); rintro e w2 ⟨he, hx2⟩; subst he; have HX2 := Lib.hid hx2; clear hx2))
  clear hbc
  by_cases h1 : netMayV ls = 0
  · have HM := Lib.hid h1
    rw [h1]
    clear h1
    have hbc2 := (HB1.out.later HX2.out).cells
    have hkc2 := (HK1.out.later HX2.out).cells
    have HC2 := Lib.hid (HCT.out.later (HX1.out.trans HX2.out))
    go_upto_region 5 with (first
      | (go_at_call 55; (with_reducible refine (r17May_any _ _ c ls.length _ HC2.out).mono ?_); rintro e w3 ⟨he, hx3⟩; subst he; have HX3 := Lib.hid (HX2.out.trans hx3); clear hx3))
    clear hbc2 hkc2
    by_cases h2 : certMayV ls.length c = 0
    · have HM2 := Lib.hid h2
      have HVC := Lib.hid (certMay_vd h2)
      rw [h2]
      have HAV := Lib.hid (show ansV l ls c = if c.vd = 1 then (if partsZ l ls (c.ps.zip c.rks) ≠ 0 then (0, partsZ l ls (c.ps.zip c.rks)) else (1, 0)) else if traceV ls c.dest c.tr ≠ 0 then (0, 17) else (c.vd, 0) by unfold ansV; rw [if_neg (by rw [HM.out]; simp), if_neg (by rw [h2]; simp)])
      have HPL := Lib.hid (show c.vd = 2 → c.ps.length = 0 from fun h => certMay_loops h2 h)
      clear h2
      go_wp2_with fail
      go_loopw [6] (fun i wr => ∃ k : Nat, k ≤ c.ps.length ∧ i = I k ∧ Hid (partsZ l ls (c.ps.zip c.rks) = partsZ l ls ((c.ps.zip c.rks).drop k)) ∧ Hid (Ext W1 wr)) (fun i _ => c.ps.length - (intOf i).toNat)
      case atStart => exact ⟨0, by omega, rfl, rfl, HX3.out⟩
      case round =>
        obtain ⟨k, hk, rfl, HG, HX⟩ := hrel
        have HKr := Lib.hid (HK1.out.later HX.out)
        have HBr := Lib.hid (HB1.out.later HX.out)
        have HRr := Lib.hid (HR1.out.later HX.out)
        have HCr := Lib.hid (HCT.out.later (HX1.out.trans HX.out))
        have HLr := Lib.hid (HL.out.later (HX1.out.trans HX.out))
        have hkc := HKr.out.cells
        have hrc := HRr.out.cells
        have hrf := HRr.out.frozen
        by_cases hlt : k < c.ps.length
        · have hkd : decide ((k : Int) < (c.ps.length : Int)) = true := decide_eq_true (by omega)
          have hv1 : c.vd = 1 := by
            rcases HVC.out with h | h
            · exact h.1
            · have := HPL.out h; omega
          have HV1 := Lib.hid hv1
          clear hv1
          have hkr : k < c.rks.length := by rw [HCT.out.len]; exact hlt
          obtain ⟨b0, o0, he0, q0, q1, q2⟩ := P3.out k _ (List.getElem?_eq_getElem hlt)
          subst he0
          have Q0 := Lib.hid ((HX1.out.trans HX.out).cell q0)
          have Q1 := Lib.hid ((HX1.out.trans HX.out).cell q1)
          have Q2 := Lib.hid ((HX1.out.trans HX.out).cell q2)
          have HIK := Lib.hid (HCr.out.rk k _ _ (List.getElem?_eq_getElem hlt) (List.getElem?_eq_getElem hkr))
          have HST := Lib.hid (partsZ_step (l := l) (ls := ls) hlt hkr)
          clear q0 q1 q2
          generalize c.ps[k] = p at *
          generalize c.rks[k] = r at *
          go_upto_region 10 with (fail)
          refine wp_region_E 6 rfl (by kernel_rfl) (by kernel_rfl) ?_
          have k1 := HBr.out.keep
          have k2 := HKr.out.keep
          have k3 := Ext.keep Q0.out
          have k4 := Ext.keep Q1.out
          have k5 := Ext.keep Q2.out
          refine WE_q 0 rfl (by decide) (by kernel_rfl) rfl ?_; apply Exists.intro; refine ⟨fun w1 hx1 => ?_, ?_⟩
          · have hq1 := hx1.cells; go_simp; try go_bits
            first | with_reducible rfl
          simp only [Act.put, List.setIfInBounds_toArray, List.set_cons_zero, List.set_cons_succ]
          refine WE_q 1 rfl (by decide) (by kernel_rfl) rfl ?_; apply Exists.intro; refine ⟨fun w1 hx1 => ?_, ?_⟩
          · have hq1 := hx1.cells; go_simp; try go_bits
            first | with_reducible rfl
          simp only [Act.put, List.setIfInBounds_toArray, List.set_cons_zero, List.set_cons_succ]
          refine WE_q 2 rfl (by decide) (by kernel_rfl) rfl ?_; apply Exists.intro; refine ⟨fun w1 hx1 => ?_, ?_⟩
          · have hq1 := hx1.cells; go_simp; try go_bits
            first | with_reducible rfl
          simp only [Act.put, List.setIfInBounds_toArray, List.set_cons_zero, List.set_cons_succ]
          refine WE_q 3 rfl (by decide) (by kernel_rfl) rfl ?_; apply Exists.intro; refine ⟨fun w1 hx1 => ?_, ?_⟩
          · have hq1 := hx1.cells; go_simp; try go_bits
            first | with_reducible rfl
          simp only [Act.put, List.setIfInBounds_toArray, List.set_cons_zero, List.set_cons_succ]
          refine WE_q 4 rfl (by decide) (by kernel_rfl) rfl ?_; apply Exists.intro; refine ⟨fun w1 hx1 => ?_, ?_⟩
          · have hq1 := hx1.cells; go_simp; try go_bits
            first | with_reducible rfl
          simp only [Act.put, List.setIfInBounds_toArray, List.set_cons_zero, List.set_cons_succ]
          refine WE_q 5 rfl (by decide) (by kernel_rfl) rfl ?_; apply Exists.intro; refine ⟨fun w1 hx1 => ?_, ?_⟩
          · have hq1 := hx1.cells; go_simp; try go_bits
            first | with_reducible rfl
          simp only [Act.put, List.setIfInBounds_toArray, List.set_cons_zero, List.set_cons_succ]
          refine WE_done (by kernel_rfl) (fun w5 hx5 => ?_)
          (try simp only [List.drop_succ_cons, List.drop_zero])
          clear k1 k2 k3 k4 k5 hkc hrc hrf
          have HPT := Lib.hid (r20Part_any (.slice ad ls.length cap) ls p r l w5 (HLr.out.later hx5) HOK.out HS.out HC.out (HIK.out.later hx5))
          have HX5 := Lib.hid (HX.out.trans hx5)
          clear hx5
          by_cases hz : partV l ls p r = 0
          · have HZ := Lib.hid hz
            have HR2 := Lib.hid (show partsZ l ls (c.ps.zip c.rks) = partsZ l ls ((c.ps.zip c.rks).drop (k + 1)) by rw [HG.out, HST.out, if_neg (by rw [hz]; simp)])
            clear hz
            go_wp2_with (first
              | (go_at_call 24; (with_reducible refine HPT.out.mono ?_); rintro e w6 ⟨he, hx6⟩; rw [HZ.out] at he; subst he; have HX6 := Lib.hid (HX5.out.trans hx6); clear hx6))
            go_roundw
            case rel => exact ⟨k + 1, by omega, by go_num, HR2.out, HX6.out⟩
            case measure => simp [intOf]; omega
          · have HR2 := Lib.hid (show partsZ l ls (c.ps.zip c.rks) = partV l ls p r by rw [HG.out, HST.out, if_pos hz])
            have HA2 := Lib.hid (show ansV l ls c = (0, partV l ls p r) by rw [HAV.out, if_pos HV1.out, if_pos (by rw [HR2.out]; exact hz), HR2.out])
            have hzb : (partV l ls p r != 0) = true := by simp [hz]
            clear hz
            generalize partV l ls p r = z at *
            go_upto_region 11 with (first
              | (go_at_call 24; (with_reducible refine HPT.out.mono ?_); rintro e w6 ⟨he, hx6⟩; subst he; have HX6 := Lib.hid (HX5.out.trans hx6); clear hx6))
            have hrc6 := (HR1.out.later HX6.out).cells
            have hrf6 := (HR1.out.later HX6.out).frozen
            go_wp2_with fail
            rw [HA2.out]
            refine hideW (Φ := fun W => bodyPost _ _ _ _ _ W) (fun W => Ext w W ∧ Blk W rb [I 0, I z] 40) (HEND.out _ _ _ HX6.out) (fun W9 hW9 => ?_)
            have hc9 := hW9.2.cells
            refine bodyPost_ret (v := .agg #[I 0, I z]) (by rw [results_cell1 rfl]; go_simp) rfl ?_
            exact ⟨rfl, hW9.1⟩
        · have hkd : decide ((k : Int) < (c.ps.length : Int)) = false := decide_eq_false (by omega)
          have hkn : decide (k < c.ps.length) = false := decide_eq_false hlt
          have HPZ := Lib.hid (HG.out.trans (partsZ_end (show c.ps.length ≤ k by omega)))
          rcases HVC.out with ⟨h3, _, _⟩ | h3
          · have h3c : (c.vd == 2) = false := beq_false_of_ne (by omega)
            have HA2 := Lib.hid (show ansV l ls c = (1, 0) by rw [HAV.out, if_pos h3, if_neg (by rw [HPZ.out]; simp)])
            have HVD := Lib.hid h3
            clear h3
            go_wp2_with fail
            rw [HA2.out]
            refine hideW (Φ := fun W => bodyPost _ _ _ _ _ W) (fun W => Ext w W ∧ Blk W rb [I c.vd, I 0] 40) (HEND.out _ _ _ HX.out) (fun W9 hW9 => ?_)
            have hc9 := hW9.2.cells
            refine bodyPost_ret (v := .agg #[I c.vd, I 0]) (by rw [results_cell1 rfl]; go_simp) rfl ?_
            exact ⟨by rw [HVD.out], hW9.1⟩
          · have h3c : (c.vd == 2) = true := by simp [h3]
            have HA1 := Lib.hid (show ansV l ls c = if traceV ls c.dest c.tr ≠ 0 then (0, 17) else (c.vd, 0) by rw [HAV.out, if_neg (by omega)])
            have hbr := HBr.out.cells
            clear h3
            rcases traceV_two ls c.dest c.tr with h6 | h6
            · have HP := Lib.hid h6
              have HA2 := Lib.hid (show ansV l ls c = (c.vd, 0) by rw [HA1.out, if_neg (by rw [h6]; simp)])
              clear h6
              go_upto_if 52 with (first
                | (go_at_call 26; (with_reducible refine (r20Trace_any _ _ ls c.dest c.tr _ HLr.out HOK.out HCr.out.tr).mono ?_); rintro e w4 ⟨he, hx4⟩; rw [HP.out] at he; subst he; have HX4 := Lib.hid (HX.out.trans hx4); clear hx4))
              clear hbr hkc hrc hrf
              have hkc4 := (HK1.out.later HX4.out).cells
              have hrc4 := (HR1.out.later HX4.out).cells
              have hrf4 := (HR1.out.later HX4.out).frozen
              go_wp2_with fail
              rw [HA2.out]
              refine hideW (Φ := fun W => bodyPost _ _ _ _ _ W) (fun W => Ext w W ∧ Blk W rb [I c.vd, I 0] 40) (HEND.out _ _ _ HX4.out) (fun W9 hW9 => ?_)
              have hc9 := hW9.2.cells
              refine bodyPost_ret (v := .agg #[I c.vd, I 0]) (by rw [results_cell1 rfl]; go_simp) rfl ?_
              exact ⟨rfl, hW9.1⟩
            · have HP := Lib.hid h6
              have HA2 := Lib.hid (show ansV l ls c = (0, 17) by rw [HA1.out, if_pos (by rw [h6]; simp)])
              clear h6
              go_upto_if 52 with (first
                | (go_at_call 26; (with_reducible refine (r20Trace_any _ _ ls c.dest c.tr _ HLr.out HOK.out HCr.out.tr).mono ?_); rintro e w4 ⟨he, hx4⟩; rw [HP.out] at he; subst he; have HX4 := Lib.hid (HX.out.trans hx4); clear hx4))
              clear hbr hkc hrc hrf
              have hrc4 := (HR1.out.later HX4.out).cells
              have hrf4 := (HR1.out.later HX4.out).frozen
              go_wp2_with fail
              rw [HA2.out]
              refine hideW (Φ := fun W => bodyPost _ _ _ _ _ W) (fun W => Ext w W ∧ Blk W rb [I 0, I 17] 40) (HEND.out _ _ _ HX4.out) (fun W9 hW9 => ?_)
              have hc9 := hW9.2.cells
              refine bodyPost_ret (v := .agg #[I 0, I 17]) (by rw [results_cell1 rfl]; go_simp) rfl ?_
              exact ⟨rfl, hW9.1⟩
    · have HAV := Lib.hid (show ansV l ls c = (0, certMayV ls.length c) by unfold ansV; rw [if_neg (by rw [HM.out]; simp), if_pos h2])
      have h6c : (certMayV ls.length c != 0) = true := by simp [h2]
      have hrc3 := (HR1.out.later HX3.out).cells
      have hrf3 := (HR1.out.later HX3.out).frozen
      clear h2
      generalize certMayV ls.length c = z at *
      go_wp2_with fail
      rw [HAV.out]
      refine hideW (Φ := fun W => bodyPost _ _ _ _ _ W) (fun W => Ext w W ∧ Blk W rb [I 0, I z] 40) (HEND.out _ _ _ HX3.out) (fun W9 hW9 => ?_)
      have hc9 := hW9.2.cells
      refine bodyPost_ret (v := .agg #[I 0, I z]) (by rw [results_cell1 rfl]; go_simp) rfl ?_
      exact ⟨rfl, hW9.1⟩
  · have HAV := Lib.hid (show ansV l ls c = (0, netMayV ls) by unfold ansV; rw [if_pos h1])
    have h6c : (netMayV ls != 0) = true := by simp [h1]
    have hrc2 := (HR1.out.later HX2.out).cells
    have hrf2 := (HR1.out.later HX2.out).frozen
    clear h1
    generalize netMayV ls = z at *
    go_wp2_with fail
    rw [HAV.out]
    refine hideW (Φ := fun W => bodyPost _ _ _ _ _ W) (fun W => Ext w W ∧ Blk W rb [I 0, I z] 40) (HEND.out _ _ _ HX2.out) (fun W9 hW9 => ?_)
    have hc9 := hW9.2.cells
    refine bodyPost_ret (v := .agg #[I 0, I z]) (by rw [results_cell1 rfl]; go_simp) rfl ?_
    exact ⟨rfl, hW9.1⟩
end Go.Proofs.Ytpfkfboohblgoaa
