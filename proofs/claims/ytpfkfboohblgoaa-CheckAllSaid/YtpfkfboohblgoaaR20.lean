/- theseusref20: Part, Trace, Net. Conditions: whole numbers are within 64 bits. -/
import Derived.Test.YtpfkfboohblgoaaCheckN
import Derived.Test.YtpfkfboohblgoaaR17May
namespace Go.Proofs.Ytpfkfboohblgoaa
open Go.RowKit

set_option maxHeartbeats 4000000 in
set_option maxRecDepth 100000 in
theorem r20Part_any (lv : Value) (ls : List (List Rul)) (p : Prt) (rk : List Int) (l : List (BitVec 32)) (w : World) (hl : TablesAt w lv ls) (hok : TablesOk ls) (hs : sizeN ls ≤ 10000000) (hC : Cuts ls.flatten l) (hr : IntsAt w p.rk rk) :
    Calls Try.prog 24 #[.agg #[lv], p.val] w fun e w' => e = .returned (I (partV l ls p rk)) ∧ Ext w w' := by
  have HL := Lib.hid hl
  have HOK := Lib.hid hok
  have HS := Lib.hid hs
  have HR := Lib.hid hr
  have HC := Lib.hid hC
  obtain ⟨ad, cap, rfl, a1, a2, a3⟩ := hl.form
  obtain ⟨ra, rc, hre, r1, r2, r3⟩ := hr.form
  have R3 := Lib.hid r3
  have HPTS := Lib.hid (show ∀ W, TablesAt W (.slice ad ls.length cap) ls → Calls Try.prog 52 #[.agg #[.slice ad ls.length cap], .agg #[U p.fr, U p.up, .slice ra rk.length rc]] W fun e w' => ∃ v l, e = .returned v ∧ Cuts ls.flatten l ∧ OwnU w' W.heap.size v (insideV l p.fr p.up) ∧ Ext W w' from fun W h => by
    rw [← hre]; exact r19Points_any _ p ls W h hok hs)
  show Calls Try.prog 24 #[.agg #[.slice ad ls.length cap], .agg #[U p.fr, U p.up, p.rk]] w _
  rw [hre]
  clear a3 r3 hre hl hok hs hr hC
  unfold maxLen at a2 r2
  go_enter Try.func24, Try.ntmps24
  go_upto_region 1 with (fail)
  refine hideW (Φ := fun W => Code.wp _ _ _ _ W) (fun W => Ext w W ∧ Blk W w.heap.size [.slice ad ls.length cap] 24 ∧ Blk W (w.heap.size + 1) [U p.fr, U p.up, .slice ra rk.length rc] 35)
    ⟨by (repeat (first | with_reducible exact Ext.refl _ | with_reducible assumption | with_reducible refine Ext.alloc ?_ _ | with_reducible refine Ext.drew ?_ | with_reducible refine Ext.drewN ?_ _ | (with_reducible refine Ext.setCellP ?_ ?_; focus (first | (simp; done) | (simp; omega) | omega)))), (Blk.new w [.slice ad ls.length cap] 24).old _, Blk.newAt [U p.fr, U p.up, .slice ra rk.length rc] (by simp)⟩ (fun W1 hW1 => ?_)
  obtain ⟨hx1, hb1, hk1⟩ := hW1
  have HX1 := Lib.hid hx1
  have HB1 := Lib.hid hb1
  have HK1 := Lib.hid hk1
  clear hx1 hb1 hk1
  generalize w.heap.size + 1 = pb at *
  generalize w.heap.size = nb at *
  have hbc := HB1.out.cells
  have hkc := HK1.out.cells
  by_cases hn : rk.length = ls.length
  · have hnb : ((rk.length : Int) != (ls.length : Int)) = false := by simp [hn]
    have HV := Lib.hid (show partV l ls p rk = fallV ls (insideV l p.fr p.up) rk by unfold partV; rw [if_neg (by simp [hn])])
    have HRL := Lib.hid hn
    clear hn
    go_upto_region 4 with (first
      | (go_at_call 52; (with_reducible refine (HPTS.out _ (HL.out.later HX1.out)).mono ?_); rintro e w2 ⟨v2, l2, he, hC2, hO, hx2⟩; subst he; obtain rfl := Cuts.at HC.out hC2; have HU2 := Lib.hid hO.us; have HX2 := Lib.hid (HX1.out.trans hx2); have HB2 := Lib.hid (HB1.out.later hx2); have HK2 := Lib.hid (HK1.out.later hx2); clear hC2 hO hx2))
    clear hbc hkc
    have HPT := Lib.hid (show ∃ pts, insideV l p.fr p.up = pts from ⟨_, rfl⟩)
    obtain ⟨pts, hpts⟩ := HPT.out
    rw [hpts] at HU2 HV
    clear HPT hpts
    obtain ⟨pa, pc, rfl, p1, p2, p3⟩ := HU2.out.form
    have P3 := Lib.hid p3
    unfold maxLen at p2
    clear p3
    go_wp2_with fail
    go_loopw [6] (fun i wr => ∃ k : Nat, k ≤ pts.length ∧ i = I k ∧ Hid (∀ a ∈ pts.take k, ∀ v, v < ls.length → badS ls rk a v = false) ∧ Hid (Ext w2 wr)) (fun i _ => pts.length - (intOf i).toNat)
    case atStart => exact ⟨0, by omega, rfl, fun a h => by simp at h, Ext.refl _⟩
    case round =>
      obtain ⟨k, hk, rfl, HG, HX⟩ := hrel
      by_cases hlt : k < pts.length
      · have hkd : decide ((k : Int) < (pts.length : Int)) = true := decide_eq_true (by omega)
        obtain ⟨b0, o0, he0, q0⟩ := P3.out k _ (List.getElem?_eq_getElem hlt)
        subst he0
        have HQ0 := Lib.hid q0
        clear q0
        have HNX := Lib.hid (pts_next hlt HG.out)
        have HBD := Lib.hid (fun v hv h => fallV_bad (ls := ls) (rk := rk) (v := v) hlt hv h)
        generalize pts[k] = a at *
        go_wp2_with fail
        go_loopw [7] (fun i wr => ∃ v : Nat, v ≤ ls.length ∧ i = I v ∧ Hid (∀ u, u < v → badS ls rk a u = false) ∧ Hid (Ext w2 wr)) (fun i _ => ls.length - (intOf i).toNat)
        case atStart => exact ⟨0, by omega, rfl, fun u h => by omega, HX.out⟩
        case round =>
          obtain ⟨v, hv, rfl, HV2, HXV⟩ := hrel
          have HBv := Lib.hid (HB2.out.later HXV.out)
          have HKv := Lib.hid (HK2.out.later HXV.out)
          have hbv := HBv.out.cells
          by_cases hvl : v < ls.length
          · have hvd : decide ((v : Int) < (ls.length : Int)) = true := decide_eq_true (by omega)
            have HXW := Lib.hid (HX2.out.trans HXV.out)
            have HLV := Lib.hid (HL.out.later HXW.out)
            have hvr : v < rk.length := by rw [HRL.out]; exact hvl
            obtain ⟨b1, o1, he1, q1⟩ := R3.out v _ (List.getElem?_eq_getElem hvr)
            subst he1
            have HGV := Lib.hid (show rk.getD v 0 = rk[v] by rw [List.getD_eq_getElem?_getD, List.getElem?_eq_getElem hvr]; rfl)
            have Q1 := Lib.hid (HXW.out.cell q1)
            have HBS := Lib.hid (show badS ls rk a v = match stepN ls a v with | none => false | some x => badX ls.length rk v x from rfl)
            have Q0 := Lib.hid (HXV.out.cell HQ0.out)
            clear q1
            generalize rk[v] = rv at *
            go_upto_region 10 with (fail)
            refine wp_region_E 11 rfl (by kernel_rfl) (by kernel_rfl) ?_
            have k1 := HBv.out.keep
            have k2 := Ext.keep Q0.out
            refine WE_q 0 rfl (by decide) (by kernel_rfl) rfl ?_; apply Exists.intro; refine ⟨fun w1 hx1 => ?_, ?_⟩
            · have hq1 := hx1.cells; go_simp; try go_bits
              first | with_reducible rfl | (refine (r09Step_any _ ls a v _ (HLV.out.later hx1) HOK.out).mono ?_; rintro e w' ⟨rfl, hx⟩; exact ⟨rfl, hx⟩)
            simp only [Act.put, List.setIfInBounds_toArray, List.set_cons_zero, List.set_cons_succ]
            refine WE_q 1 rfl (by decide) (by kernel_rfl) rfl ?_; apply Exists.intro; refine ⟨fun w1 hx1 => ?_, ?_⟩
            · have hq1 := hx1.cells; go_simp; try go_bits
              first | with_reducible rfl | (refine (r09Step_any _ ls a v _ (HLV.out.later hx1) HOK.out).mono ?_; rintro e w' ⟨rfl, hx⟩; exact ⟨rfl, hx⟩)
            simp only [Act.put, List.setIfInBounds_toArray, List.set_cons_zero, List.set_cons_succ]
            refine WE_q 2 rfl (by decide) (by kernel_rfl) rfl ?_; apply Exists.intro; refine ⟨fun w1 hx1 => ?_, ?_⟩
            · have hq1 := hx1.cells; go_simp; try go_bits
              first | with_reducible rfl | (refine (r09Step_any _ ls a v _ (HLV.out.later hx1) HOK.out).mono ?_; rintro e w' ⟨rfl, hx⟩; exact ⟨rfl, hx⟩)
            simp only [Act.put, List.setIfInBounds_toArray, List.set_cons_zero, List.set_cons_succ]
            refine WE_q 3 rfl (by decide) (by kernel_rfl) rfl ?_; apply Exists.intro; refine ⟨fun w1 hx1 => ?_, ?_⟩
            · have hq1 := hx1.cells; go_simp; try go_bits
              first | with_reducible rfl | (refine (r09Step_any _ ls a v _ (HLV.out.later hx1) HOK.out).mono ?_; rintro e w' ⟨rfl, hx⟩; exact ⟨rfl, hx⟩)
            simp only [Act.put, List.setIfInBounds_toArray, List.set_cons_zero, List.set_cons_succ]
            refine WE_q 4 rfl (by decide) (by kernel_rfl) rfl ?_; apply Exists.intro; refine ⟨fun w1 hx1 => ?_, ?_⟩
            · have hq1 := hx1.cells; go_simp; try go_bits
              first | with_reducible rfl | (refine (r09Step_any _ ls a v _ (HLV.out.later hx1) HOK.out).mono ?_; rintro e w' ⟨rfl, hx⟩; exact ⟨rfl, hx⟩)
            simp only [Act.put, List.setIfInBounds_toArray, List.set_cons_zero, List.set_cons_succ]
            refine WE_q 5 rfl (by decide) (by kernel_rfl) rfl ?_; apply Exists.intro; refine ⟨fun w1 hx1 => ?_, ?_⟩
            · have hq1 := hx1.cells; go_simp; try go_bits
              first | with_reducible rfl | (refine (r09Step_any _ ls a v _ (HLV.out.later hx1) HOK.out).mono ?_; rintro e w' ⟨rfl, hx⟩; exact ⟨rfl, hx⟩)
            simp only [Act.put, List.setIfInBounds_toArray, List.set_cons_zero, List.set_cons_succ]
            refine WE_q 6 rfl (by decide) (by kernel_rfl) rfl ?_; apply Exists.intro; refine ⟨fun w1 hx1 => ?_, ?_⟩
            · have hq1 := hx1.cells; go_simp; try go_bits
              first | with_reducible rfl | (refine (r09Step_any _ ls a v _ (HLV.out.later hx1) HOK.out).mono ?_; rintro e w' ⟨rfl, hx⟩; exact ⟨rfl, hx⟩)
            simp only [Act.put, List.setIfInBounds_toArray, List.set_cons_zero, List.set_cons_succ]
            refine WE_q 7 rfl (by decide) (by kernel_rfl) rfl ?_; apply Exists.intro; refine ⟨fun w1 hx1 => ?_, ?_⟩
            · have hq1 := hx1.cells; go_simp; try go_bits
              first | with_reducible rfl | (refine (r09Step_any _ ls a v _ (HLV.out.later hx1) HOK.out).mono ?_; rintro e w' ⟨rfl, hx⟩; exact ⟨rfl, hx⟩)
            simp only [Act.put, List.setIfInBounds_toArray, List.set_cons_zero, List.set_cons_succ]
            refine WE_q 8 rfl (by decide) (by kernel_rfl) rfl ?_; apply Exists.intro; refine ⟨fun w1 hx1 => ?_, ?_⟩
            · have hq1 := hx1.cells; go_simp; try go_bits
              first | with_reducible rfl | (refine (r09Step_any _ ls a v _ (HLV.out.later hx1) HOK.out).mono ?_; rintro e w' ⟨rfl, hx⟩; exact ⟨rfl, hx⟩)
            simp only [Act.put, List.setIfInBounds_toArray, List.set_cons_zero, List.set_cons_succ]
            refine WE_q 9 rfl (by decide) (by kernel_rfl) rfl ?_; apply Exists.intro; refine ⟨fun w1 hx1 => ?_, ?_⟩
            · have hq1 := hx1.cells; go_simp; try go_bits
              first | with_reducible rfl | (refine (r09Step_any _ ls a v _ (HLV.out.later hx1) HOK.out).mono ?_; rintro e w' ⟨rfl, hx⟩; exact ⟨rfl, hx⟩)
            simp only [Act.put, List.setIfInBounds_toArray, List.set_cons_zero, List.set_cons_succ]
            refine WE_q 10 rfl (by decide) (by kernel_rfl) rfl ?_; apply Exists.intro; refine ⟨fun w1 hx1 => ?_, ?_⟩
            · have hq1 := hx1.cells; go_simp; try go_bits
              first | with_reducible rfl | (refine (r09Step_any _ ls a v _ (HLV.out.later hx1) HOK.out).mono ?_; rintro e w' ⟨rfl, hx⟩; exact ⟨rfl, hx⟩)
            simp only [Act.put, List.setIfInBounds_toArray, List.set_cons_zero, List.set_cons_succ]
            refine WE_done (by kernel_rfl) (fun w5 hx5 => ?_)
            (try simp only [List.drop_succ_cons, List.drop_zero])
            clear k1 k2 hbv
            have HX5 := Lib.hid (HXV.out.trans hx5)
            have HY5 := Lib.hid hx5
            clear hx5
            have HB5 := Lib.hid (HB2.out.later HX5.out)
            have HK5 := Lib.hid (HK2.out.later HX5.out)
            cases hs : stepN ls a v with
            | none =>
              have HOKV := Lib.hid (show badS ls rk a v = false by rw [HBS.out, hs])
              clear hs
              go_upto_region 11 with (fail)
              refine wp_region_E 24 rfl (by kernel_rfl) (by kernel_rfl) ?_
              refine WE_q 0 rfl (by decide) (by kernel_rfl) rfl ?_; apply Exists.intro; refine ⟨fun w1 hx1 => ?_, ?_⟩
              · have hq1 := hx1.cells; go_simp; try go_bits
                first | with_reducible rfl
              simp only [Act.put, List.setIfInBounds_toArray, List.set_cons_zero, List.set_cons_succ]
              refine WE_q 1 rfl (by decide) (by kernel_rfl) rfl ?_; apply Exists.intro; refine ⟨fun w1 hx1 => ?_, ?_⟩
              · have hq1 := hx1.cells; go_simp; try go_bits
                first | with_reducible rfl
              simp only [Act.put, List.setIfInBounds_toArray, List.set_cons_zero, List.set_cons_succ]
              refine WE_s 2 rfl (by decide) (by kernel_rfl) rfl ?_
              simp only [Act.put, List.setIfInBounds_toArray, List.set_cons_zero, List.set_cons_succ]
              refine WE_s 3 rfl (by decide) (by kernel_rfl) rfl ?_
              simp only [Act.put, List.setIfInBounds_toArray, List.set_cons_zero, List.set_cons_succ]
              refine WE_s 4 rfl (by decide) (by kernel_rfl) rfl ?_
              simp only [Act.put, List.setIfInBounds_toArray, List.set_cons_zero, List.set_cons_succ]
              refine WE_s 5 rfl (by decide) (by kernel_rfl) rfl ?_
              simp only [Act.put, List.setIfInBounds_toArray, List.set_cons_zero, List.set_cons_succ]
              refine WE_s 6 rfl (by decide) (by kernel_rfl) rfl ?_
              simp only [Act.put, List.setIfInBounds_toArray, List.set_cons_zero, List.set_cons_succ]
              refine WE_s 7 rfl (by decide) (by kernel_rfl) rfl ?_
              simp only [Act.put, List.setIfInBounds_toArray, List.set_cons_zero, List.set_cons_succ]
              refine WE_s 8 rfl (by decide) (by kernel_rfl) rfl ?_
              simp only [Act.put, List.setIfInBounds_toArray, List.set_cons_zero, List.set_cons_succ]
              refine WE_s 9 rfl (by decide) (by kernel_rfl) rfl ?_
              simp only [Act.put, List.setIfInBounds_toArray, List.set_cons_zero, List.set_cons_succ]
              refine WE_s 10 rfl (by decide) (by kernel_rfl) rfl ?_
              simp only [Act.put, List.setIfInBounds_toArray, List.set_cons_zero, List.set_cons_succ]
              refine WE_s 11 rfl (by decide) (by kernel_rfl) rfl ?_
              simp only [Act.put, List.setIfInBounds_toArray, List.set_cons_zero, List.set_cons_succ]
              refine WE_s 12 rfl (by decide) (by kernel_rfl) rfl ?_
              simp only [Act.put, List.setIfInBounds_toArray, List.set_cons_zero, List.set_cons_succ]
              refine WE_s 13 rfl (by decide) (by kernel_rfl) rfl ?_
              simp only [Act.put, List.setIfInBounds_toArray, List.set_cons_zero, List.set_cons_succ]
              refine WE_s 14 rfl (by decide) (by kernel_rfl) rfl ?_
              simp only [Act.put, List.setIfInBounds_toArray, List.set_cons_zero, List.set_cons_succ]
              refine WE_s 15 rfl (by decide) (by kernel_rfl) rfl ?_
              simp only [Act.put, List.setIfInBounds_toArray, List.set_cons_zero, List.set_cons_succ]
              refine WE_s 16 rfl (by decide) (by kernel_rfl) rfl ?_
              simp only [Act.put, List.setIfInBounds_toArray, List.set_cons_zero, List.set_cons_succ]
              refine WE_s 17 rfl (by decide) (by kernel_rfl) rfl ?_
              simp only [Act.put, List.setIfInBounds_toArray, List.set_cons_zero, List.set_cons_succ]
              refine WE_s 18 rfl (by decide) (by kernel_rfl) rfl ?_
              simp only [Act.put, List.setIfInBounds_toArray, List.set_cons_zero, List.set_cons_succ]
              refine WE_s 19 rfl (by decide) (by kernel_rfl) rfl ?_
              simp only [Act.put, List.setIfInBounds_toArray, List.set_cons_zero, List.set_cons_succ]
              refine WE_s 20 rfl (by decide) (by kernel_rfl) rfl ?_
              simp only [Act.put, List.setIfInBounds_toArray, List.set_cons_zero, List.set_cons_succ]
              refine WE_s 21 rfl (by decide) (by kernel_rfl) rfl ?_
              simp only [Act.put, List.setIfInBounds_toArray, List.set_cons_zero, List.set_cons_succ]
              refine WE_s 22 rfl (by decide) (by kernel_rfl) rfl ?_
              simp only [Act.put, List.setIfInBounds_toArray, List.set_cons_zero, List.set_cons_succ]
              refine WE_s 23 rfl (by decide) (by kernel_rfl) rfl ?_
              simp only [Act.put, List.setIfInBounds_toArray, List.set_cons_zero, List.set_cons_succ]
              refine WE_done (by kernel_rfl) (fun w9 hx9 => ?_)
              (try simp only [List.drop_succ_cons, List.drop_zero])
              go_wp2_with fail
              go_roundw
              case rel =>
                refine ⟨v + 1, by omega, by go_num, ?_, HX5.out.trans hx9⟩
                intro u hu
                rcases Nat.lt_or_ge u v with g | g
                · exact HV2.out u g
                · rw [show u = v by omega]; exact HOKV.out
              case measure => simp [intOf]; omega
            | some x =>
              have HBX := Lib.hid (show badS ls rk a v = badX ls.length rk v x by rw [HBS.out, hs])
              clear hs
              go_upto_region 11 with (fail)
              go_cut [67] (fun c wc => c = .bool (badX ls.length rk v x) ∧ Hid (Ext w5 wc))
              case first =>
                by_cases h1 : x < 0
                · have d1 : decide (x < 0) = true := decide_eq_true h1
                  have HR2 := Lib.hid (show badX ls.length rk v x = true by unfold badX; rw [d1]; rfl)
                  clear h1
                  refine wp_region_E 24 rfl (by kernel_rfl) (by kernel_rfl) ?_
                  refine WE_q 0 rfl (by decide) (by kernel_rfl) rfl ?_; apply Exists.intro; refine ⟨fun w1 hx1 => ?_, ?_⟩
                  · have hq1 := hx1.cells; go_simp; try go_bits
                    first | with_reducible rfl
                  simp only [Act.put, List.setIfInBounds_toArray, List.set_cons_zero, List.set_cons_succ]
                  refine WE_q 1 rfl (by decide) (by kernel_rfl) rfl ?_; apply Exists.intro; refine ⟨fun w1 hx1 => ?_, ?_⟩
                  · have hq1 := hx1.cells; go_simp; try go_bits
                    first | with_reducible rfl
                  simp only [Act.put, List.setIfInBounds_toArray, List.set_cons_zero, List.set_cons_succ]
                  refine WE_q 2 rfl (by decide) (by kernel_rfl) rfl ?_; apply Exists.intro; refine ⟨fun w1 hx1 => ?_, ?_⟩
                  · have hq1 := hx1.cells; go_simp; try go_bits
                    first | with_reducible rfl
                  simp only [Act.put, List.setIfInBounds_toArray, List.set_cons_zero, List.set_cons_succ]
                  refine WE_q 3 rfl (by decide) (by kernel_rfl) rfl ?_; apply Exists.intro; refine ⟨fun w1 hx1 => ?_, ?_⟩
                  · have hq1 := hx1.cells; go_simp; try go_bits
                    first | with_reducible rfl
                  simp only [Act.put, List.setIfInBounds_toArray, List.set_cons_zero, List.set_cons_succ]
                  refine WE_q 4 rfl (by decide) (by kernel_rfl) rfl ?_; apply Exists.intro; refine ⟨fun w1 hx1 => ?_, ?_⟩
                  · have hq1 := hx1.cells; go_simp; try go_bits
                    first | with_reducible rfl
                  simp only [Act.put, List.setIfInBounds_toArray, List.set_cons_zero, List.set_cons_succ]
                  refine WE_s 5 rfl (by decide) (by kernel_rfl) rfl ?_
                  simp only [Act.put, List.setIfInBounds_toArray, List.set_cons_zero, List.set_cons_succ]
                  refine WE_s 6 rfl (by decide) (by kernel_rfl) rfl ?_
                  simp only [Act.put, List.setIfInBounds_toArray, List.set_cons_zero, List.set_cons_succ]
                  refine WE_s 7 rfl (by decide) (by kernel_rfl) rfl ?_
                  simp only [Act.put, List.setIfInBounds_toArray, List.set_cons_zero, List.set_cons_succ]
                  refine WE_s 8 rfl (by decide) (by kernel_rfl) rfl ?_
                  simp only [Act.put, List.setIfInBounds_toArray, List.set_cons_zero, List.set_cons_succ]
                  refine WE_s 9 rfl (by decide) (by kernel_rfl) rfl ?_
                  simp only [Act.put, List.setIfInBounds_toArray, List.set_cons_zero, List.set_cons_succ]
                  refine WE_q 10 rfl (by decide) (by kernel_rfl) rfl ?_; apply Exists.intro; refine ⟨fun w1 hx1 => ?_, ?_⟩
                  · have hq1 := hx1.cells; go_simp; try go_bits
                    first | with_reducible rfl
                  simp only [Act.put, List.setIfInBounds_toArray, List.set_cons_zero, List.set_cons_succ]
                  refine WE_q 11 rfl (by decide) (by kernel_rfl) rfl ?_; apply Exists.intro; refine ⟨fun w1 hx1 => ?_, ?_⟩
                  · have hq1 := hx1.cells; go_simp; try go_bits
                    first | with_reducible rfl
                  simp only [Act.put, List.setIfInBounds_toArray, List.set_cons_zero, List.set_cons_succ]
                  refine WE_s 12 rfl (by decide) (by kernel_rfl) rfl ?_
                  simp only [Act.put, List.setIfInBounds_toArray, List.set_cons_zero, List.set_cons_succ]
                  refine WE_s 13 rfl (by decide) (by kernel_rfl) rfl ?_
                  simp only [Act.put, List.setIfInBounds_toArray, List.set_cons_zero, List.set_cons_succ]
                  refine WE_s 14 rfl (by decide) (by kernel_rfl) rfl ?_
                  simp only [Act.put, List.setIfInBounds_toArray, List.set_cons_zero, List.set_cons_succ]
                  refine WE_s 15 rfl (by decide) (by kernel_rfl) rfl ?_
                  simp only [Act.put, List.setIfInBounds_toArray, List.set_cons_zero, List.set_cons_succ]
                  refine WE_s 16 rfl (by decide) (by kernel_rfl) rfl ?_
                  simp only [Act.put, List.setIfInBounds_toArray, List.set_cons_zero, List.set_cons_succ]
                  refine WE_s 17 rfl (by decide) (by kernel_rfl) rfl ?_
                  simp only [Act.put, List.setIfInBounds_toArray, List.set_cons_zero, List.set_cons_succ]
                  refine WE_s 18 rfl (by decide) (by kernel_rfl) rfl ?_
                  simp only [Act.put, List.setIfInBounds_toArray, List.set_cons_zero, List.set_cons_succ]
                  refine WE_s 19 rfl (by decide) (by kernel_rfl) rfl ?_
                  simp only [Act.put, List.setIfInBounds_toArray, List.set_cons_zero, List.set_cons_succ]
                  refine WE_s 20 rfl (by decide) (by kernel_rfl) rfl ?_
                  simp only [Act.put, List.setIfInBounds_toArray, List.set_cons_zero, List.set_cons_succ]
                  refine WE_s 21 rfl (by decide) (by kernel_rfl) rfl ?_
                  simp only [Act.put, List.setIfInBounds_toArray, List.set_cons_zero, List.set_cons_succ]
                  refine WE_s 22 rfl (by decide) (by kernel_rfl) rfl ?_
                  simp only [Act.put, List.setIfInBounds_toArray, List.set_cons_zero, List.set_cons_succ]
                  refine WE_q 23 rfl (by decide) (by kernel_rfl) rfl ?_; apply Exists.intro; refine ⟨fun w1 hx1 => ?_, ?_⟩
                  · have hq1 := hx1.cells; go_simp; try go_bits
                    first | with_reducible rfl
                  simp only [Act.put, List.setIfInBounds_toArray, List.set_cons_zero, List.set_cons_succ]
                  refine WE_done (by kernel_rfl) (fun w9 hx9 => ?_)
                  (try simp only [List.drop_succ_cons, List.drop_zero])
                  go_wp2_with fail
                  go_meet
                  case rel => exact ⟨by rw [HR2.out], hx9⟩
                · have d1 : decide (x < 0) = false := decide_eq_false h1
                  by_cases h2 : (ls.length : Int) ≤ x
                  · have d2 : decide ((ls.length : Int) ≤ x) = true := decide_eq_true h2
                    have HR2 := Lib.hid (show badX ls.length rk v x = true by unfold badX; rw [d1, d2]; rfl)
                    clear h1 h2
                    refine wp_region_E 24 rfl (by kernel_rfl) (by kernel_rfl) ?_
                    have k1 := HB5.out.keep
                    refine WE_q 0 rfl (by decide) (by kernel_rfl) rfl ?_; apply Exists.intro; refine ⟨fun w1 hx1 => ?_, ?_⟩
                    · have hq1 := hx1.cells; go_simp; try go_bits
                      first | with_reducible rfl
                    simp only [Act.put, List.setIfInBounds_toArray, List.set_cons_zero, List.set_cons_succ]
                    refine WE_q 1 rfl (by decide) (by kernel_rfl) rfl ?_; apply Exists.intro; refine ⟨fun w1 hx1 => ?_, ?_⟩
                    · have hq1 := hx1.cells; go_simp; try go_bits
                      first | with_reducible rfl
                    simp only [Act.put, List.setIfInBounds_toArray, List.set_cons_zero, List.set_cons_succ]
                    refine WE_q 2 rfl (by decide) (by kernel_rfl) rfl ?_; apply Exists.intro; refine ⟨fun w1 hx1 => ?_, ?_⟩
                    · have hq1 := hx1.cells; go_simp; try go_bits
                      first | with_reducible rfl
                    simp only [Act.put, List.setIfInBounds_toArray, List.set_cons_zero, List.set_cons_succ]
                    refine WE_q 3 rfl (by decide) (by kernel_rfl) rfl ?_; apply Exists.intro; refine ⟨fun w1 hx1 => ?_, ?_⟩
                    · have hq1 := hx1.cells; go_simp; try go_bits
                      first | with_reducible rfl
                    simp only [Act.put, List.setIfInBounds_toArray, List.set_cons_zero, List.set_cons_succ]
                    refine WE_q 4 rfl (by decide) (by kernel_rfl) rfl ?_; apply Exists.intro; refine ⟨fun w1 hx1 => ?_, ?_⟩
                    · have hq1 := hx1.cells; go_simp; try go_bits
                      first | with_reducible rfl
                    simp only [Act.put, List.setIfInBounds_toArray, List.set_cons_zero, List.set_cons_succ]
                    refine WE_q 5 rfl (by decide) (by kernel_rfl) rfl ?_; apply Exists.intro; refine ⟨fun w1 hx1 => ?_, ?_⟩
                    · have hq1 := hx1.cells; go_simp; try go_bits
                      first | with_reducible rfl
                    simp only [Act.put, List.setIfInBounds_toArray, List.set_cons_zero, List.set_cons_succ]
                    refine WE_q 6 rfl (by decide) (by kernel_rfl) rfl ?_; apply Exists.intro; refine ⟨fun w1 hx1 => ?_, ?_⟩
                    · have hq1 := hx1.cells; go_simp; try go_bits
                      first | with_reducible rfl
                    simp only [Act.put, List.setIfInBounds_toArray, List.set_cons_zero, List.set_cons_succ]
                    refine WE_q 7 rfl (by decide) (by kernel_rfl) rfl ?_; apply Exists.intro; refine ⟨fun w1 hx1 => ?_, ?_⟩
                    · have hq1 := hx1.cells; go_simp; try go_bits
                      first | with_reducible rfl
                    simp only [Act.put, List.setIfInBounds_toArray, List.set_cons_zero, List.set_cons_succ]
                    refine WE_q 8 rfl (by decide) (by kernel_rfl) rfl ?_; apply Exists.intro; refine ⟨fun w1 hx1 => ?_, ?_⟩
                    · have hq1 := hx1.cells; go_simp; try go_bits
                      first | with_reducible rfl
                    simp only [Act.put, List.setIfInBounds_toArray, List.set_cons_zero, List.set_cons_succ]
                    refine WE_q 9 rfl (by decide) (by kernel_rfl) rfl ?_; apply Exists.intro; refine ⟨fun w1 hx1 => ?_, ?_⟩
                    · have hq1 := hx1.cells; go_simp; try go_bits
                      first | with_reducible rfl
                    simp only [Act.put, List.setIfInBounds_toArray, List.set_cons_zero, List.set_cons_succ]
                    refine WE_q 10 rfl (by decide) (by kernel_rfl) rfl ?_; apply Exists.intro; refine ⟨fun w1 hx1 => ?_, ?_⟩
                    · have hq1 := hx1.cells; go_simp; try go_bits
                      first | with_reducible rfl
                    simp only [Act.put, List.setIfInBounds_toArray, List.set_cons_zero, List.set_cons_succ]
                    refine WE_q 11 rfl (by decide) (by kernel_rfl) rfl ?_; apply Exists.intro; refine ⟨fun w1 hx1 => ?_, ?_⟩
                    · have hq1 := hx1.cells; go_simp; try go_bits
                      first | with_reducible rfl
                    simp only [Act.put, List.setIfInBounds_toArray, List.set_cons_zero, List.set_cons_succ]
                    refine WE_s 12 rfl (by decide) (by kernel_rfl) rfl ?_
                    simp only [Act.put, List.setIfInBounds_toArray, List.set_cons_zero, List.set_cons_succ]
                    refine WE_s 13 rfl (by decide) (by kernel_rfl) rfl ?_
                    simp only [Act.put, List.setIfInBounds_toArray, List.set_cons_zero, List.set_cons_succ]
                    refine WE_s 14 rfl (by decide) (by kernel_rfl) rfl ?_
                    simp only [Act.put, List.setIfInBounds_toArray, List.set_cons_zero, List.set_cons_succ]
                    refine WE_s 15 rfl (by decide) (by kernel_rfl) rfl ?_
                    simp only [Act.put, List.setIfInBounds_toArray, List.set_cons_zero, List.set_cons_succ]
                    refine WE_s 16 rfl (by decide) (by kernel_rfl) rfl ?_
                    simp only [Act.put, List.setIfInBounds_toArray, List.set_cons_zero, List.set_cons_succ]
                    refine WE_s 17 rfl (by decide) (by kernel_rfl) rfl ?_
                    simp only [Act.put, List.setIfInBounds_toArray, List.set_cons_zero, List.set_cons_succ]
                    refine WE_s 18 rfl (by decide) (by kernel_rfl) rfl ?_
                    simp only [Act.put, List.setIfInBounds_toArray, List.set_cons_zero, List.set_cons_succ]
                    refine WE_s 19 rfl (by decide) (by kernel_rfl) rfl ?_
                    simp only [Act.put, List.setIfInBounds_toArray, List.set_cons_zero, List.set_cons_succ]
                    refine WE_s 20 rfl (by decide) (by kernel_rfl) rfl ?_
                    simp only [Act.put, List.setIfInBounds_toArray, List.set_cons_zero, List.set_cons_succ]
                    refine WE_s 21 rfl (by decide) (by kernel_rfl) rfl ?_
                    simp only [Act.put, List.setIfInBounds_toArray, List.set_cons_zero, List.set_cons_succ]
                    refine WE_s 22 rfl (by decide) (by kernel_rfl) rfl ?_
                    simp only [Act.put, List.setIfInBounds_toArray, List.set_cons_zero, List.set_cons_succ]
                    refine WE_q 23 rfl (by decide) (by kernel_rfl) rfl ?_; apply Exists.intro; refine ⟨fun w1 hx1 => ?_, ?_⟩
                    · have hq1 := hx1.cells; go_simp; try go_bits
                      first | with_reducible rfl
                    simp only [Act.put, List.setIfInBounds_toArray, List.set_cons_zero, List.set_cons_succ]
                    refine WE_done (by kernel_rfl) (fun w9 hx9 => ?_)
                    (try simp only [List.drop_succ_cons, List.drop_zero])
                    clear k1
                    go_wp2_with fail
                    go_meet
                    case rel => exact ⟨by rw [HR2.out], hx9⟩
                  · have d2 : decide ((ls.length : Int) ≤ x) = false := decide_eq_false h2
                    obtain ⟨xn, rfl⟩ : ∃ xn : Nat, x = xn := ⟨x.toNat, by omega⟩
                    have hxn : xn < ls.length := by omega
                    have d2n : decide (ls.length ≤ xn) = false := decide_eq_false (by omega)
                    have hxr : xn < rk.length := by rw [HRL.out]; exact hxn
                    obtain ⟨b2, o2, he2, q2⟩ := R3.out xn _ (List.getElem?_eq_getElem hxr)
                    simp only [Option.some.injEq, Addr.mk.injEq, and_true] at he2
                    obtain ⟨rfl, rfl⟩ := he2
                    have Q2 := Lib.hid (HX5.out.cell (HX2.out.cell q2))
                    have HGX := Lib.hid (show rk.getD xn 0 = rk[xn] by rw [List.getD_eq_getElem?_getD, List.getElem?_eq_getElem hxr]; rfl)
                    have HR2 := Lib.hid (show badX ls.length rk v xn = decide (rv ≤ rk[xn]) by unfold badX; rw [d1, d2, HGV.out, Int.toNat_natCast, HGX.out]; rfl)
                    clear h1 h2 q2
                    generalize rk[xn] = rx at *
                    refine wp_region_E 24 rfl (by kernel_rfl) (by kernel_rfl) ?_
                    have k1 := HB5.out.keep
                    have k2 := HK5.out.keep
                    have k3 := Ext.keep Q2.out
                    have k4 := Ext.keep (HY5.out.cell Q1.out)
                    refine WE_q 0 rfl (by decide) (by kernel_rfl) rfl ?_; apply Exists.intro; refine ⟨fun w1 hx1 => ?_, ?_⟩
                    · have hq1 := hx1.cells; go_simp; try go_bits
                      first | with_reducible rfl
                    simp only [Act.put, List.setIfInBounds_toArray, List.set_cons_zero, List.set_cons_succ]
                    refine WE_q 1 rfl (by decide) (by kernel_rfl) rfl ?_; apply Exists.intro; refine ⟨fun w1 hx1 => ?_, ?_⟩
                    · have hq1 := hx1.cells; go_simp; try go_bits
                      first | with_reducible rfl
                    simp only [Act.put, List.setIfInBounds_toArray, List.set_cons_zero, List.set_cons_succ]
                    refine WE_q 2 rfl (by decide) (by kernel_rfl) rfl ?_; apply Exists.intro; refine ⟨fun w1 hx1 => ?_, ?_⟩
                    · have hq1 := hx1.cells; go_simp; try go_bits
                      first | with_reducible rfl
                    simp only [Act.put, List.setIfInBounds_toArray, List.set_cons_zero, List.set_cons_succ]
                    refine WE_q 3 rfl (by decide) (by kernel_rfl) rfl ?_; apply Exists.intro; refine ⟨fun w1 hx1 => ?_, ?_⟩
                    · have hq1 := hx1.cells; go_simp; try go_bits
                      first | with_reducible rfl
                    simp only [Act.put, List.setIfInBounds_toArray, List.set_cons_zero, List.set_cons_succ]
                    refine WE_q 4 rfl (by decide) (by kernel_rfl) rfl ?_; apply Exists.intro; refine ⟨fun w1 hx1 => ?_, ?_⟩
                    · have hq1 := hx1.cells; go_simp; try go_bits
                      first | with_reducible rfl
                    simp only [Act.put, List.setIfInBounds_toArray, List.set_cons_zero, List.set_cons_succ]
                    refine WE_q 5 rfl (by decide) (by kernel_rfl) rfl ?_; apply Exists.intro; refine ⟨fun w1 hx1 => ?_, ?_⟩
                    · have hq1 := hx1.cells; go_simp; try go_bits
                      first | with_reducible rfl
                    simp only [Act.put, List.setIfInBounds_toArray, List.set_cons_zero, List.set_cons_succ]
                    refine WE_q 6 rfl (by decide) (by kernel_rfl) rfl ?_; apply Exists.intro; refine ⟨fun w1 hx1 => ?_, ?_⟩
                    · have hq1 := hx1.cells; go_simp; try go_bits
                      first | with_reducible rfl
                    simp only [Act.put, List.setIfInBounds_toArray, List.set_cons_zero, List.set_cons_succ]
                    refine WE_q 7 rfl (by decide) (by kernel_rfl) rfl ?_; apply Exists.intro; refine ⟨fun w1 hx1 => ?_, ?_⟩
                    · have hq1 := hx1.cells; go_simp; try go_bits
                      first | with_reducible rfl
                    simp only [Act.put, List.setIfInBounds_toArray, List.set_cons_zero, List.set_cons_succ]
                    refine WE_q 8 rfl (by decide) (by kernel_rfl) rfl ?_; apply Exists.intro; refine ⟨fun w1 hx1 => ?_, ?_⟩
                    · have hq1 := hx1.cells; go_simp; try go_bits
                      first | with_reducible rfl
                    simp only [Act.put, List.setIfInBounds_toArray, List.set_cons_zero, List.set_cons_succ]
                    refine WE_q 9 rfl (by decide) (by kernel_rfl) rfl ?_; apply Exists.intro; refine ⟨fun w1 hx1 => ?_, ?_⟩
                    · have hq1 := hx1.cells; go_simp; try go_bits
                      first | with_reducible rfl
                    simp only [Act.put, List.setIfInBounds_toArray, List.set_cons_zero, List.set_cons_succ]
                    refine WE_q 10 rfl (by decide) (by kernel_rfl) rfl ?_; apply Exists.intro; refine ⟨fun w1 hx1 => ?_, ?_⟩
                    · have hq1 := hx1.cells; go_simp; try go_bits
                      first | with_reducible rfl
                    simp only [Act.put, List.setIfInBounds_toArray, List.set_cons_zero, List.set_cons_succ]
                    refine WE_q 11 rfl (by decide) (by kernel_rfl) rfl ?_; apply Exists.intro; refine ⟨fun w1 hx1 => ?_, ?_⟩
                    · have hq1 := hx1.cells; go_simp; try go_bits
                      first | with_reducible rfl
                    simp only [Act.put, List.setIfInBounds_toArray, List.set_cons_zero, List.set_cons_succ]
                    refine WE_q 12 rfl (by decide) (by kernel_rfl) rfl ?_; apply Exists.intro; refine ⟨fun w1 hx1 => ?_, ?_⟩
                    · have hq1 := hx1.cells; go_simp; try go_bits
                      first | with_reducible rfl
                    simp only [Act.put, List.setIfInBounds_toArray, List.set_cons_zero, List.set_cons_succ]
                    refine WE_q 13 rfl (by decide) (by kernel_rfl) rfl ?_; apply Exists.intro; refine ⟨fun w1 hx1 => ?_, ?_⟩
                    · have hq1 := hx1.cells; go_simp; try go_bits
                      first | with_reducible rfl
                    simp only [Act.put, List.setIfInBounds_toArray, List.set_cons_zero, List.set_cons_succ]
                    refine WE_q 14 rfl (by decide) (by kernel_rfl) rfl ?_; apply Exists.intro; refine ⟨fun w1 hx1 => ?_, ?_⟩
                    · have hq1 := hx1.cells; go_simp; try go_bits
                      first | with_reducible rfl
                    simp only [Act.put, List.setIfInBounds_toArray, List.set_cons_zero, List.set_cons_succ]
                    refine WE_q 15 rfl (by decide) (by kernel_rfl) rfl ?_; apply Exists.intro; refine ⟨fun w1 hx1 => ?_, ?_⟩
                    · have hq1 := hx1.cells; go_simp; try go_bits
                      first | with_reducible rfl
                    simp only [Act.put, List.setIfInBounds_toArray, List.set_cons_zero, List.set_cons_succ]
                    refine WE_q 16 rfl (by decide) (by kernel_rfl) rfl ?_; apply Exists.intro; refine ⟨fun w1 hx1 => ?_, ?_⟩
                    · have hq1 := hx1.cells; go_simp; try go_bits
                      first | with_reducible rfl
                    simp only [Act.put, List.setIfInBounds_toArray, List.set_cons_zero, List.set_cons_succ]
                    refine WE_q 17 rfl (by decide) (by kernel_rfl) rfl ?_; apply Exists.intro; refine ⟨fun w1 hx1 => ?_, ?_⟩
                    · have hq1 := hx1.cells; go_simp; try go_bits
                      first | with_reducible rfl
                    simp only [Act.put, List.setIfInBounds_toArray, List.set_cons_zero, List.set_cons_succ]
                    refine WE_q 18 rfl (by decide) (by kernel_rfl) rfl ?_; apply Exists.intro; refine ⟨fun w1 hx1 => ?_, ?_⟩
                    · have hq1 := hx1.cells; go_simp; try go_bits
                      first | with_reducible rfl
                    simp only [Act.put, List.setIfInBounds_toArray, List.set_cons_zero, List.set_cons_succ]
                    refine WE_q 19 rfl (by decide) (by kernel_rfl) rfl ?_; apply Exists.intro; refine ⟨fun w1 hx1 => ?_, ?_⟩
                    · have hq1 := hx1.cells; go_simp; try go_bits
                      first | with_reducible rfl
                    simp only [Act.put, List.setIfInBounds_toArray, List.set_cons_zero, List.set_cons_succ]
                    refine WE_q 20 rfl (by decide) (by kernel_rfl) rfl ?_; apply Exists.intro; refine ⟨fun w1 hx1 => ?_, ?_⟩
                    · have hq1 := hx1.cells; go_simp; try go_bits
                      first | with_reducible rfl
                    simp only [Act.put, List.setIfInBounds_toArray, List.set_cons_zero, List.set_cons_succ]
                    refine WE_q 21 rfl (by decide) (by kernel_rfl) rfl ?_; apply Exists.intro; refine ⟨fun w1 hx1 => ?_, ?_⟩
                    · have hq1 := hx1.cells; go_simp; try go_bits
                      first | with_reducible rfl
                    simp only [Act.put, List.setIfInBounds_toArray, List.set_cons_zero, List.set_cons_succ]
                    refine WE_q 22 rfl (by decide) (by kernel_rfl) rfl ?_; apply Exists.intro; refine ⟨fun w1 hx1 => ?_, ?_⟩
                    · have hq1 := hx1.cells; go_simp; try go_bits
                      first | with_reducible rfl
                    simp only [Act.put, List.setIfInBounds_toArray, List.set_cons_zero, List.set_cons_succ]
                    refine WE_q 23 rfl (by decide) (by kernel_rfl) rfl ?_; apply Exists.intro; refine ⟨fun w1 hx1 => ?_, ?_⟩
                    · have hq1 := hx1.cells; go_simp; try go_bits
                      first | with_reducible rfl
                    simp only [Act.put, List.setIfInBounds_toArray, List.set_cons_zero, List.set_cons_succ]
                    refine WE_done (by kernel_rfl) (fun w9 hx9 => ?_)
                    (try simp only [List.drop_succ_cons, List.drop_zero])
                    clear k1 k2 k3 k4
                    go_wp2_with fail
                    go_meet
                    case rel => exact ⟨by rw [HR2.out], hx9⟩
              case rest =>
                obtain ⟨rfl, HXC⟩ := hcut
                cases hbx : badX ls.length rk v x with
                | true =>
                  have HR2 := Lib.hid (HBD.out v hvl (HBX.out.trans hbx))
                  clear hbx
                  go_wp2_with fail
                  go_ret
                  exact ⟨by rw [HV.out, HR2.out]; rfl, HX2.out.trans (HX5.out.trans HXC.out)⟩
                | false =>
                  have HOKV := Lib.hid (HBX.out.trans hbx)
                  clear hbx
                  go_wp2_with fail
                  go_roundw
                  case rel =>
                    refine ⟨v + 1, by omega, by go_num, ?_, HX5.out.trans HXC.out⟩
                    intro u hu
                    rcases Nat.lt_or_ge u v with g | g
                    · exact HV2.out u g
                    · rw [show u = v by omega]; exact HOKV.out
                  case measure => simp [intOf]; omega
          · have hvd : decide ((v : Int) < (ls.length : Int)) = false := decide_eq_false (by omega)
            have hvn : decide (v < ls.length) = false := decide_eq_false hvl
            have HND := Lib.hid (HNX.out (fun u hu => HV2.out u (by omega)))
            go_wp2_with fail
            go_roundw
            case rel => exact ⟨k + 1, by omega, by go_num, HND.out, HXV.out⟩
            case measure => simp [intOf]; omega
      · have hkd : decide ((k : Int) < (pts.length : Int)) = false := decide_eq_false (by omega)
        have hkn : decide (k < pts.length) = false := decide_eq_false hlt
        have HE := Lib.hid (fallV_ok HG.out (show pts.length ≤ k by omega))
        go_wp2_with fail
        go_ret
        exact ⟨by rw [HV.out, HE.out]; rfl, HX2.out.trans HX.out⟩
  · have hnb : ((rk.length : Int) != (ls.length : Int)) = true := by simp; omega
    have HV := Lib.hid (show partV l ls p rk = 1 by unfold partV; rw [if_pos hn])
    clear hn
    go_wp2_with fail
    go_ret
    exact ⟨by rw [HV.out]; rfl, HX1.out⟩
end Go.Proofs.Ytpfkfboohblgoaa
