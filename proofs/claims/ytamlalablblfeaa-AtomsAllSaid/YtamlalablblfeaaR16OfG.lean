/- theseusref16.Of of a network that may be. Conditions: whole numbers are within 64 bits. -/
import Derived.Test.YtamlalablblfeaaR16Of
namespace Go.Proofs.Ytamlalablblfeaa
open Go Go.RowKit Go.Maps Go.Proofs

theorem was_wh {w w' : World} {B : Nat} {wv hv v' : Value} {was : List Int} (hw : OwnI w B wv was) (hfar : ∀ g, hv.ownBlock = some g → wv.ownBlock ≠ some g) (hg : w.grownBy w' hv.ownBlock)
    (hloc : v'.ownBlock = hv.ownBlock ∨ v'.ownBlock = some w.heap.size) : OwnI w' B wv was ∧ ∀ g, v'.ownBlock = some g → wv.ownBlock ≠ some g := by
  refine ⟨own_keep hw fun g hx => hg.block g (own_cells hw hx).2.1 fun e => hfar g e.symm hx, fun g hg' hx => ?_⟩
  have hlt := (own_cells hw hx).2.1
  rcases hloc with e | e
  · exact hfar g (by rw [← e]; exact hg') hx
  · rw [e] at hg'; simp at hg'; omega
set_option maxHeartbeats 4000000 in
set_option maxRecDepth 100000 in
theorem r16Of_good (lv : Value) (ls : List (List Rul)) (w : World) (hl : TablesAt w lv ls) (hok : TablesOk ls) (hm : netMayV ls = 0) :
    Calls Try.prog 24 #[.agg #[lv]] w fun e w' => ∃ fv hv vv l, e = .returned (.tuple #[.agg #[fv, hv, vv], I 0]) ∧ Cuts ls.flatten l ∧ AtomsAt w' fv hv vv (atomsL (vecV ls) l) ∧ Ext w w' := by
  have HL := Lib.hid hl
  have HOK := Lib.hid hok
  have HM := Lib.hid hm
  have HSZ := Lib.hid (netMay_tabs hm).2.1
  have HNL := Lib.hid (netMay_tabs hm).1
  obtain ⟨ad, cap, rfl, a1, a2, a3⟩ := hl.form
  clear a3 hl hm hok
  unfold maxLen at a2
  go_enter Try.func24, Try.ntmps24
  go_upto_region 1 with (fail)
  refine hideW (Φ := fun W => Code.wp _ _ _ _ W) (fun W => Ext w W ∧ Blk W w.heap.size [.slice ad ls.length cap] 24 ∧ Blk W (w.heap.size + 1) [sNil, sNil, sNil] 35)
    ⟨by (repeat (first | with_reducible exact Ext.refl _ | with_reducible assumption | with_reducible refine Ext.alloc ?_ _ | with_reducible refine Ext.drew ?_ | with_reducible refine Ext.drewN ?_ _ | (with_reducible refine Ext.setCellP ?_ ?_; focus (first | (simp; done) | (simp; omega) | omega)))), (Blk.new w [.slice ad ls.length cap] 24).old _, Blk.newAt [sNil, sNil, sNil] (by simp)⟩ (fun W1 hW1 => ?_)
  obtain ⟨hx1, hb1, hr1⟩ := hW1
  have HX1 := Lib.hid hx1
  have hbc1 := hb1.cells
  have HB1 := Lib.hid hb1
  have HR1 := Lib.hid hr1
  clear hr1 hx1 hb1
  have HSC := Lib.hid (show ∀ (A : World) (o : Nat) (u : Value), Ext w A → Ext w (A.setCell ⟨w.heap.size + 1, o, none⟩ u) from fun A o u h => h.setCell (by show w.heap.size ≤ w.heap.size + 1; omega) u)
  generalize w.heap.size + 1 = rb at *
  generalize w.heap.size = nb at *
  go_upto_region 4 with (first
    | (go_at_call 61; (with_reducible refine (r09May_any _ ls _ (HL.out.later HX1.out) HOK.out (by have := HSZ.out; omega)).mono ?_); rintro e w2 ⟨he, hx2⟩; rw [HM.out] at he; subst he; have HX2 := Lib.hid (HX1.out.trans hx2); have HR2 := Lib.hid (HR1.out.later hx2); have HB2 := Lib.hid (HB1.out.later hx2); clear hx2))
  clear hbc1
  go_upto_region 5 with (fail)
  refine hideW (Φ := fun W => Code.wp _ _ _ _ W) (fun W => Ext w2 W ∧ Blk W w2.heap.size [sNil, sNil, sNil] 35)
    ⟨by (repeat (first | with_reducible exact Ext.refl _ | with_reducible assumption | with_reducible refine Ext.alloc ?_ _ | with_reducible refine Ext.drew ?_ | with_reducible refine Ext.drewN ?_ _ | (with_reducible refine Ext.setCellP ?_ ?_; focus (first | (simp; done) | (simp; omega) | omega)))), Blk.new w2 [sNil, sNil, sNil] 35⟩ (fun W3 hW3 => ?_)
  obtain ⟨hx3, hb3⟩ := hW3
  have HX3 := Lib.hid hx3
  have HX3' := Lib.hid (HX2.out.trans hx3)
  have HBN3 := Lib.hid (HB2.out.later hx3)
  have hbc3 := HBN3.out.cells
  have HBX3 := Lib.hid hb3
  have HRL := Lib.hid HR2.out.lt
  clear hx3 hb3
  generalize hxb : w2.heap.size = xb at *
  have HXBE := Lib.hid hxb
  clear hxb
  go_upto_region 6 with (first
    | (go_at_call 62; (with_reducible refine (r12Of_any _ ls _ (HL.out.later HX3'.out) HOK.out (by have := HSZ.out; omega)).mono ?_); rintro e w4 ⟨v4, l, he, hU, hC, hx4⟩; subst he; have HC := Lib.hid hC; have HU4 := Lib.hid hU; have HX4 := Lib.hid hx4; obtain ⟨ca, ccap, hcv, c1, c2, -⟩ := hU.form; subst hcv; clear hC hU hx4))
  clear hbc3
  unfold maxLen at c2
  have HBX4 := Lib.hid (HBX3.out.later HX4.out)
  have HBN4 := Lib.hid (HBN3.out.later HX4.out)
  have HSZX := Lib.hid HX4.out.size
  go_upto_region 7 with (fail)
  refine hideW (Φ := fun W => Code.wp _ _ _ _ W) (fun W => Ext w4 W) (by (repeat (first | with_reducible exact Ext.refl _ | with_reducible assumption | with_reducible refine Ext.alloc ?_ _ | with_reducible refine Ext.drew ?_ | with_reducible refine Ext.drewN ?_ _ | (with_reducible refine Ext.setCellP ?_ ?_; focus (first | (simp; done) | (simp; omega) | omega))))) (fun W5 hx5 => ?_)
  have HX5 := Lib.hid hx5
  have HR5 := Lib.hid (show RnR w2 W5 xb W5.heap.size Ats.nil sNil sNil sNil W5 from
    ⟨AtS.nil _ _, HBX4.out.later hx5, by have := HBX4.out.lt; have := hx5.size; omega, Nat.le_of_eq HXBE.out, HX3.out.trans (HX4.out.trans hx5), Nat.le_refl _, fun _ _ _ => rfl⟩)
  have HU5 := Lib.hid (HU4.out.later hx5)
  clear hx5
  go_wp2_with fail
  go_loopw [7, 8] (fun wv i wr => ∃ (k : Nat) (fv hv vv : Value) (was : List Int), k ≤ l.length ∧ i = I k ∧
    Hid (0 < k → OwnI wr W5.heap.size wv was ∧ (∀ g, hv.ownBlock = some g → wv.ownBlock ≠ some g) ∧ WasOk (atomsL (vecV ls) (l.take k)) was) ∧
    Hid (RnR w2 W5 xb W5.heap.size (atomsL (vecV ls) (l.take k)) fv hv vv wr)) (fun _ i _ => l.length - (intOf i).toNat)
  case atStart => exact ⟨0, sNil, sNil, sNil, [], by omega, rfl, Lib.hid (fun h => by omega), HR5.out⟩
  case round =>
    obtain ⟨k, fv, hv, vv, was, hk, rfl, HWAS, HR⟩ := hrel
    have HBN := Lib.hid (HB2.out.later HR.out.ext)
    by_cases hlt : k < l.length
    · have HST := Lib.hid (atomsL_step (vec := vecV ls) hlt)
      have HSOK := Lib.hid (atsOk_all (vecV ls) (l.take k))
      obtain ⟨_, _, hce, _, _, c3⟩ := HU5.out.form
      obtain ⟨b0, o0, he0, p0⟩ := c3 k l[k] (List.getElem?_eq_getElem hlt)
      simp only [Value.slice.injEq, true_and] at hce
      obtain ⟨rfl, rfl⟩ := hce
      subst he0
      clear c3
      have HP0 := Lib.hid (show b0 < W5.heap.size ∧ b0 ≠ xb ∧ W5.cell? ⟨b0, o0 + k, none⟩ = some (U l[k]) from ⟨cell_low p0, box_apart HR5.out.box ⟨_, _, _, rfl⟩ ⟨_, _, _, rfl⟩ ⟨_, _, _, rfl⟩ p0, p0⟩)
      replace p0 := HR.out.cell (cell_low p0) (box_apart HR5.out.box ⟨_, _, _, rfl⟩ ⟨_, _, _, rfl⟩ ⟨_, _, _, rfl⟩ p0) p0
      go_wp2_with fail
      refine wp_region_E 5 rfl (by kernel_rfl) (by kernel_rfl) ?_
      have kb := HBN.out.keep
      have k0 := Ext.keep p0
      refine WE_q 0 rfl (by decide) (by kernel_rfl) rfl ?_; apply Exists.intro; refine ⟨fun w1 hx1 => ?_, ?_⟩
      · have hq1 := hx1.cells; go_simp; try go_bits
        first | with_reducible rfl
      simp only [Act.put, List.setIfInBounds_toArray, List.set_cons_zero, List.set_cons_succ]
      refine WE_q 1 rfl (by decide) (by kernel_rfl) rfl ?_; apply Exists.intro; refine ⟨fun w1 hx1 => ?_, ?_⟩
      · have hq1 := hx1.cells; go_simp; try go_bits
        first | with_reducible rfl
      simp only [Act.put, List.setIfInBounds_toArray, List.set_cons_zero, List.set_cons_succ]
      refine WE_q 2 rfl (by decide) (by kernel_rfl) rfl ?_; apply Exists.intro; refine ⟨fun w1 hx1 => ?_, ?_⟩
      · have hq1 := hx1.cells; go_simp; try go_bits
        first | with_reducible rfl
      simp only [Act.put, List.setIfInBounds_toArray, List.set_cons_zero, List.set_cons_succ]
      refine WE_q 3 rfl (by decide) (by kernel_rfl) rfl ?_; apply Exists.intro; refine ⟨fun w1 hx1 => ?_, ?_⟩
      · have hq1 := hx1.cells; go_simp; try go_bits
        first | with_reducible rfl
      simp only [Act.put, List.setIfInBounds_toArray, List.set_cons_zero, List.set_cons_succ]
      refine WE_q 4 rfl (by decide) (by kernel_rfl) rfl ?_; apply Exists.intro; refine ⟨fun w1 hx1 => ?_, ?_⟩
      · have hq1 := hx1.cells; go_simp; try go_bits
        first | with_reducible rfl
      simp only [Act.put, List.setIfInBounds_toArray, List.set_cons_zero, List.set_cons_succ]
      refine WE_done (by kernel_rfl) (fun w6 hx6 => ?_)
      (try simp only [List.drop_succ_cons, List.drop_zero])
      clear kb k0
      have HR6 := Lib.hid (HR.out.later hx6)
      have HX6 := Lib.hid hx6
      have HIT := Lib.hid hx6
      clear hx6
      have HK0 := Lib.hid (show k = 0 → (atomsL (vecV ls) (l.take k)).last = -1 from fun h => by subst h; rfl)
      have HFEW := Lib.hid (show (atomsL (vecV ls) (l.take k)).fr.length ≤ k by have := ats_few (vecV ls) (l.take k); rw [List.length_take] at this; omega)
      generalize atomsL (vecV ls) (l.take k) = s at *
      generalize l[k] = a at *
      obtain ⟨u, hu⟩ : ∃ u, vecV ls a = u := ⟨_, rfl⟩
      have HU := Lib.hid hu
      clear hu
      go_upto_region 11 with (first
        | (go_at_call 63; (with_reducible refine (r13Of_any _ ls a _ (HL.out.later (HX2.out.trans HR6.out.ext)) HOK.out (by have := HNL.out; omega)).mono ?_); rintro e w7 ⟨v7, he, hV, hx7⟩; subst he; rw [HU.out] at hV; have HV7 := Lib.hid (show OwnI w7 W5.heap.size v7 u from own_low hV HR6.out.sz); have HV7H := Lib.hid (show ∀ g, v7.ownBlock = some g → w6.heap.size ≤ g from own_ge hV); have HX7 := Lib.hid (HX6.out.trans hx7); have HR7 := Lib.hid (HR6.out.later hx7); clear hV hx7))
      have HFAR7 := Lib.hid (show ∀ g, hv.ownBlock = some g → v7.ownBlock ≠ some g from fun g e e' => by
        have h1 := (own_cells HR6.out.ats.wh e).2.1
        have h2 := HV7H.out g e'
        omega)
      go_cut [39] (fun c wc => c = .bool (decide (s.last = (idxV s.vs u : Int))) ∧ Hid (Ext w7 wc))
      case first =>
        by_cases hk0 : 0 < k
        · obtain ⟨ho, -, hwo⟩ := HWAS.out hk0
          have HWO := Lib.hid ho
          have HIFF := Lib.hid (show decide (u = was) = decide (s.last = (idxV s.vs u : Int)) from decide_eq_decide.2 (was_iff HSOK.out hwo u))
          clear ho hwo
          have hkd : decide ((0 : Int) < (k : Int)) = true := decide_eq_true (by omega)
          go_wp2_with (first
            | (go_at_call 36; (with_reducible refine (r09Row_any _ _ u was _ HV7.out.ints ((HWO.out.later HX7.out).ints)).mono ?_); rintro e w8 ⟨he, hx8⟩; rw [HIFF.out] at he; subst he; have HX8 := Lib.hid hx8; clear hx8))
          go_meet
          case rel => exact ⟨rfl, HX8.out⟩
        · have hkd : decide ((0 : Int) < (k : Int)) = false := decide_eq_false (by omega)
          have HIFF := Lib.hid (show decide (s.last = (idxV s.vs u : Int)) = false from decide_eq_false (by have := HK0.out (by omega); omega))
          go_wp2_with fail
          go_meet
          case rel => exact ⟨by rw [HIFF.out], Ext.refl _⟩
      case rest =>
        obtain ⟨rfl, HXC⟩ := hcut
        have HR8 := Lib.hid (HR7.out.later HXC.out)
        have HV8 := Lib.hid (HV7.out.later HXC.out)
        by_cases hsame : s.last = (idxV s.vs u : Int)
        · rw [decide_eq_true hsame]
          have HSTP := Lib.hid (show atStep (vecV ls) s a = s by unfold atStep; rw [HU.out, if_pos hsame])
          have hk0 : 0 < k := by
            rcases Nat.eq_zero_or_pos k with h | h
            · exfalso; have := HK0.out h; omega
            · exact h
          have HWW := Lib.hid (HWAS.out hk0)
          clear hsame
          go_wp2_with fail
          go_roundw
          case rel =>
            refine ⟨k + 1, fv, hv, vv, was, by omega, by go_num, ?_, by show RnR _ _ _ _ _ _ _ _ _; rw [HST.out, HSTP.out]; exact HR8.out⟩
            show 0 < k + 1 → _
            intro _
            rw [HST.out, HSTP.out]
            exact ⟨HWW.out.1.later (HX7.out.trans HXC.out), HWW.out.2.1, HWW.out.2.2⟩
          case measure => simp [intOf]; omega
        · rw [decide_eq_false hsame]
          have HSTP := Lib.hid (show atStep (vecV ls) s a = ⟨s.fr ++ [a], s.wh ++ [(idxV s.vs u : Int)], if u ∈ s.vs then s.vs else s.vs ++ [u]⟩ by unfold atStep; rw [HU.out, if_neg hsame])
          have HWN := Lib.hid (show WasOk (atStep (vecV ls) s a) u by have := was_step (vec := vecV ls) (s := s) (a := a) (by rw [HU.out]; exact hsame); rw [HU.out] at this; exact this)
          clear hsame
          have HIX := Lib.hid (idxV_le s.vs u)
          go_upto_block 2 with fail
          go_cut [10] (fun i wd => i = I (idxV s.vs u) ∧ Hid (Ext wc wd))
          case first =>
            go_wp2_with fail
            go_loopw [10] (fun i wr => ∃ j : Nat, j ≤ s.vs.length ∧ j ≤ idxV s.vs u ∧ i = I j ∧ Hid (Ext wc wr)) (fun i _ => s.vs.length - (intOf i).toNat)
            case atStart => exact ⟨0, by omega, by omega, rfl, Ext.refl _⟩
            case round =>
              obtain ⟨j, hj, hji, rfl, HXJ⟩ := hrel
              have HRJ := Lib.hid (HR8.out.later HXJ.out)
              have hcj := HRJ.out.box.cells
              obtain ⟨xa, xc, hvv, x1, x2, x3⟩ := HRJ.out.ats.at.vs.form
              by_cases hjl : j < s.vs.length
              · obtain ⟨b1, o1, u1, he1, c1, hu1⟩ := x3 j s.vs[j] (List.getElem?_eq_getElem hjl)
                have HU1 := Lib.hid hu1
                clear hu1 x3
                subst hvv he1
                unfold maxLen at x2
                obtain ⟨ya, yc, hyv, -⟩ := HU1.out.form
                subst hyv
                have hjd : decide ((j : Int) < (s.vs.length : Int)) = true := decide_eq_true (by omega)
                by_cases hq : s.vs[j] = u
                · have HQ := Lib.hid hq
                  have HSTOP := Lib.hid (idxV_stop HSOK.out.nodup hjl hq)
                  clear hq
                  generalize s.vs[j] = Z at *
                  go_wp2_with (first
                    | (go_at_call 36; (with_reducible refine (r09Row_any _ _ Z u _ HU1.out (HV8.out.later HXJ.out).ints).mono ?_); rintro e w9 ⟨he, hx9⟩; replace he := he.trans (congrArg (fun b => Ending.returned (.bool b)) (decide_eq_true HQ.out)); subst he; have HX9 := Lib.hid (HXJ.out.trans hx9); clear hx9))
                  go_meet
                  case rel => exact ⟨by rw [HSTOP.out], HX9.out⟩
                · have HQ := Lib.hid hq
                  have HNX := Lib.hid (idxV_next hji hjl hq)
                  clear hq
                  generalize s.vs[j] = Z at *
                  go_wp2_with (first
                    | (go_at_call 36; (with_reducible refine (r09Row_any _ _ Z u _ HU1.out (HV8.out.later HXJ.out).ints).mono ?_); rintro e w9 ⟨he, hx9⟩; replace he := he.trans (congrArg (fun b => Ending.returned (.bool b)) (decide_eq_false HQ.out)); subst he; have HX9 := Lib.hid (HXJ.out.trans hx9); clear hx9))
                  go_roundw
                  case rel => exact ⟨j + 1, by omega, HNX.out, by go_num, HX9.out⟩
                  case measure => simp [intOf]; omega
              · have hjd : decide ((j : Int) < (s.vs.length : Int)) = false := decide_eq_false (by omega)
                have HJE := Lib.hid (show idxV s.vs u = j by have := HIX.out; omega)
                clear x3
                subst hvv
                go_wp2_with fail
                go_meet
                case rel => exact ⟨by rw [HJE.out], HXJ.out⟩
          case rest =>
            obtain ⟨rfl, HXD⟩ := hcut
            have HR9 := Lib.hid (HR8.out.later HXD.out)
            have HV9 := Lib.hid (HV8.out.later HXD.out)
            have hc9 := HR9.out.box.cells
            have HFW := Lib.hid (show s.wh.length ≤ k ∧ s.vs.length ≤ k by have := HFEW.out; have := HSOK.out.len; have := HSOK.out.short; omega)
            have HLN := Lib.hid (show l.length ≤ 8193 by have h1 := HC.out.len; have h2 := HSZ.out; rw [sizeN_flat] at h1; omega)
            obtain ⟨xa, xc, hvv, -, x2, -⟩ := HR9.out.ats.at.vs.form
            subst hvv
            obtain ⟨ya, yc, hyv⟩ := own_form HV9.out
            subst hyv
            go_upto_if 62 with fail
            go_cut [] (fun we => ∃ vv2, Hid (RnR w2 W5 xb W5.heap.size ⟨s.fr, s.wh, if u ∈ s.vs then s.vs else s.vs ++ [u]⟩ fv hv vv2 we) ∧ Hid (OwnI we W5.heap.size (.slice ya u.length yc) u))
            case first =>
              by_cases hin : u ∈ s.vs
              · have hlt := idxV_in.1 hin
                have hbe : ((idxV s.vs u : Int) == (s.vs.length : Int)) = false := beq_false_of_ne (by omega)
                have HIN := Lib.hid hin
                clear hin
                go_wp2_with fail
                go_meet
                case rel => exact ⟨_, by show RnR _ _ _ _ _ _ _ _ _; rw [if_pos HIN.out]; exact HR9.out, HV9.out⟩
              · have hbe : ((idxV s.vs u : Int) == (s.vs.length : Int)) = true := by rw [idxV_out hin]; simp
                have HIN := Lib.hid hin
                clear hin
                have HSV := Lib.hid (HR9.out.later ((Ext.refl wc).alloc (.cells #[.slice ya u.length yc] 27)))
                obtain ⟨vals, hv1, hv2⟩ := HSV.out.ats.rows
                have HFV := Lib.hid (show (wc.alloc (.cells #[.slice ya u.length yc] 27)).ownsRow W5.heap.size 27 1 (.slice xa s.vs.length xc) (s.vs).length (vals) from hv1)
                have HCV := Lib.hid (show (wc.alloc (.cells #[.slice ya u.length yc] 27)).cell? ⟨wc.heap.size, 0, none⟩ = some (.slice ya u.length yc) from (Blk.new wc [.slice ya u.length yc] 27).cells 0)
                have HLBV := Lib.hid (show ((s.vs).length + 1) * 24 ≤ 140737488355328 by have := HFW.out; have := HLN.out; omega)
                go_wp2_with (first
                  | (at_builtin; refine wpList_app1 rfl (.tmp 64) (.tmp 66) 28 rfl W5.heap.size 27 _ 24 Try.underlying28 infoInts rfl (by decide) (.slice xa s.vs.length xc) (s.vs).length (vals) rfl HFV.out wc.heap.size rfl (.slice ya u.length yc) HCV.out rfl HLBV.out HSV.out.sz ?_; intro v8 w8 ho8 hg8 hl8
                     have hb8 := blk_grown HSV.out.box (fun g e => by have := own_ge HFV.out g e; have := HSV.out.low; omega) hg8
                     have hc8 := hb8.cells
                     have hf8 := hb8.frozen
                     obtain ⟨faV, fcV, hfv⟩ := own_form ho8
                     subst hfv
                     have HRV := Lib.hid (HSV.out.addVs (own_later HV9.out ((Ext.refl wc).alloc _)) HFAR7.out hv1 hv2 ho8 hg8)
                     have HVV := Lib.hid (show OwnI (w8.setCell ⟨xb, 2, none⟩ (.slice faV (s.vs.length + 1) fcV)) W5.heap.size (.slice ya u.length yc) u from own_set (own_apart (own_later HV9.out ((Ext.refl wc).alloc _)) hv1 (by decide) hg8) HSV.out.low _)
                     clear ho8 hg8 hl8 hb8))
                go_meet
                case rel => exact ⟨_, by show RnR _ _ _ _ _ _ _ _ _; rw [if_neg HIN.out]; exact HRV.out, HVV.out⟩
            case rest =>
              obtain ⟨vv2, HRE, HVE⟩ := hcut
              have HFR := Lib.hid HRE.out.ats.fr
              go_upto_region 18 with (fail)
              refine wp_region_R (RB (W5.heap.size)) 9 rfl (by kernel_rfl) (by kernel_rfl) (fun w0 hx0 => ?_)
              have hbk := RB.keep (HRE.out.later hx0).sz HRE.out.low ((HRE.out.later hx0).box.cells 0)
              have hck := RB.keep (HRE.out.later hx0).sz HP0.out.1 (hx0.cell (HRE.out.cell HP0.out.1 HP0.out.2.1 HP0.out.2.2))
              have HS0 := Lib.hid (HRE.out.later hx0)
              have HX0 := Lib.hid hx0
              clear hx0
              refine WR_q (preRB _) 0 rfl (by decide) (by kernel_rfl) rfl ?_; apply Exists.intro; refine ⟨fun w1 hx1 => ?_, ?_⟩
              · go_simp; try go_bits
                first | with_reducible rfl | rfl
              simp only [Act.put, List.setIfInBounds_toArray, List.set_cons_zero, List.set_cons_succ]
              refine WR_q (preRB _) 1 rfl (by decide) (by kernel_rfl) rfl ?_; apply Exists.intro; refine ⟨fun w1 hx1 => ?_, ?_⟩
              · go_simp; try go_bits
                first | with_reducible rfl | rfl
              simp only [Act.put, List.setIfInBounds_toArray, List.set_cons_zero, List.set_cons_succ]
              refine WR_q (preRB _) 2 rfl (by decide) (by kernel_rfl) rfl ?_; apply Exists.intro; refine ⟨fun w1 hx1 => ?_, ?_⟩
              · go_simp; try go_bits
                first | with_reducible rfl | rfl
              simp only [Act.put, List.setIfInBounds_toArray, List.set_cons_zero, List.set_cons_succ]
              refine WR_q (preRB _) 3 rfl (by decide) (by kernel_rfl) rfl ?_; apply Exists.intro; refine ⟨fun w1 hx1 => ?_, ?_⟩
              · go_simp; try go_bits
                first | with_reducible rfl | rfl
              simp only [Act.put, List.setIfInBounds_toArray, List.set_cons_zero, List.set_cons_succ]
              refine WR_q (preRB _) 4 rfl (by decide) (by kernel_rfl) rfl ?_; apply Exists.intro; refine ⟨fun w1 hx1 => ?_, ?_⟩
              · go_simp; try go_bits
                first | with_reducible rfl | rfl
              simp only [Act.put, List.setIfInBounds_toArray, List.set_cons_zero, List.set_cons_succ]
              refine WR_q (preRB _) 5 rfl (by decide) (by kernel_rfl) rfl ?_; apply Exists.intro; refine ⟨fun w1 hx1 => ?_, ?_⟩
              · go_simp; try go_bits
                first | with_reducible rfl | rfl
              simp only [Act.put, List.setIfInBounds_toArray, List.set_cons_zero, List.set_cons_succ]
              clear hbk hck
              refine WR_one 6 rfl (by decide) (by kernel_rfl) rfl (fun K hK => ?_)
              go_simp
              refine hK _ _ (RB.ext ((Ext.refl _).alloc _)) ?_
              clear hK K
              have HSA := Lib.hid (HS0.out.later ((Ext.refl w0).alloc (.cells #[U a] 44)))
              have HFA := Lib.hid (show (w0.alloc (.cells #[U a] 44)).ownsRow W5.heap.size 44 1 fv (s.fr).length (ucells s.fr) from HSA.out.ats.fr)
              have HCA := Lib.hid (show (w0.alloc (.cells #[U a] 44)).cell? ⟨w0.heap.size, 0, none⟩ = some (U a) from (Blk.new w0 [U a] 44).cells 0)
              have HLBA := Lib.hid (show ((s.fr).length + 1) * 4 ≤ 140737488355328 by have := HFEW.out; have := HLN.out; omega)
              refine WR_one 7 rfl (by decide) (by kernel_rfl) rfl (fun K hK => ?_)
              refine wp_of_list (ops := #[]) rfl ?_
              refine wpList_app1 rfl (.tmp 70) (.tmp 75) 26 rfl W5.heap.size 44 _ 4 Try.underlying26 infoU32 rfl (by decide) fv (s.fr).length (ucells s.fr) rfl HFA.out w0.heap.size rfl (U a) HCA.out rfl HLBA.out HSA.out.sz ?_
              intro v8 w8 ho8 hg8 hl8
              refine ⟨rfl, hK _ _ (RB.below HSA.out.sz (Below.grown (Below.refl _ _) hg8 HSA.out.sz fun q hq => (HFA.out.lt q hq).1)) ?_⟩
              clear hK K
              have hb8 := blk_grown HSA.out.box (fun g e => by have := own_ge HFA.out g e; have := HSA.out.low; omega) hg8
              have hc8 := hb8.cells
              have hf8 := hb8.frozen
              obtain ⟨faA, fcA, hfv⟩ := own_form ho8
              subst hfv
              have HRA := Lib.hid (HSA.out.addFr ho8 hg8)
              have HVA := Lib.hid (show OwnI (w8.setCell ⟨xb, 0, none⟩ (.slice faA (s.fr.length + 1) fcA)) W5.heap.size (.slice ya u.length yc) u from own_set (own_apart (own_later HVE.out (HX0.out.trans ((Ext.refl w0).alloc _))) HFA.out (by decide) hg8) HSA.out.low _)
              clear ho8 hg8 hl8 hb8
              refine WR_q (preRB _) 8 rfl (by decide) (by kernel_rfl) rfl ?_; apply Exists.intro; refine ⟨fun w1 hx1 => ?_, ?_⟩
              · go_simp; try go_bits
                first | with_reducible rfl | rfl
              simp only [Act.put, List.setIfInBounds_toArray, List.set_cons_zero, List.set_cons_succ]
              refine WR_done (by kernel_rfl) ?_
              (try simp only [List.drop_succ_cons, List.drop_zero])
              go_upto_region 19 with (fail)
              refine hideW (Φ := fun W => Code.wp _ _ _ _ W) (fun W => RnR _ _ _ _ _ _ _ _ W ∧ OwnI W _ _ _) ⟨HRA.out, HVA.out⟩ (fun WA hR => ?_)
              have HTA := Lib.hid hR.1
              have HVB := Lib.hid hR.2
              clear hR hc8 hf8
              have hcB := HTA.out.box.cells
              have HSB := Lib.hid (HTA.out.later ((Ext.refl WA).alloc (.cells #[I (idxV s.vs u : Int)] 3)))
              have HFB := Lib.hid (show (WA.alloc (.cells #[I (idxV s.vs u : Int)] 3)).ownsRow W5.heap.size 3 1 hv (s.wh).length (icells s.wh) from HSB.out.ats.wh)
              have HCB := Lib.hid (show (WA.alloc (.cells #[I (idxV s.vs u : Int)] 3)).cell? ⟨WA.heap.size, 0, none⟩ = some (I (idxV s.vs u : Int)) from (Blk.new WA [I (idxV s.vs u : Int)] 3).cells 0)
              have HLBB := Lib.hid (show ((s.wh).length + 1) * 8 ≤ 140737488355328 by have := HFW.out; have := HLN.out; omega)
              generalize (idxV s.vs u : Int) = pl at *
              go_wp2_with (first
                | (at_builtin; refine wpList_app1 rfl (.tmp 79) (.tmp 81) 27 rfl W5.heap.size 3 _ 8 Try.underlying27 infoInt rfl (by decide) hv (s.wh).length (icells s.wh) rfl HFB.out WA.heap.size rfl (I pl) HCB.out rfl HLBB.out HSB.out.sz ?_; intro v9 w9 ho8 hg8 hl8
                   have hb8 := blk_grown HSB.out.box (fun g e => by have := own_ge HFB.out g e; have := HSB.out.low; omega) hg8
                   have hc8 := hb8.cells
                   have hf8 := hb8.frozen
                   have HWH := Lib.hid (was_wh (own_later HVB.out ((Ext.refl WA).alloc _)) HFAR7.out hg8 hl8)
                   obtain ⟨faB, fcB, hfv⟩ := own_form ho8
                   subst hfv
                   have HRB := Lib.hid (HSB.out.addWh ho8 hg8 hl8)
                   have HVC := Lib.hid (show OwnI (w9.setCell ⟨xb, 1, none⟩ (.slice faB (s.wh.length + 1) fcB)) W5.heap.size (.slice ya u.length yc) u from own_set HWH.out.1 HSB.out.low _)
                   clear ho8 hg8 hl8 hb8))
              go_roundw
              case rel =>
                refine ⟨k + 1, _, _, vv2, u, by omega, by go_num, ?_, by show RnR _ _ _ _ _ _ _ _ _; rw [HST.out, HSTP.out]; exact HRB.out⟩
                show 0 < k + 1 → _
                intro _
                rw [HST.out]
                exact ⟨HVC.out, HWH.out.2, HWN.out⟩
              case measure => simp [intOf]; omega
    · have hkd : decide ((k : Int) < (l.length : Int)) = false := decide_eq_false (by omega)
      have hdone : decide (k < l.length) = false := decide_eq_false hlt
      have HALL := Lib.hid (show l.take k = l from List.take_of_length_le (by omega))
      rw [HALL.out] at HR
      clear HWAS
      have hc6 := HR.out.box.cells
      obtain ⟨fa, fc, hfv⟩ := own_form HR.out.ats.fr
      obtain ⟨ha, hcp, hhv⟩ := own_form HR.out.ats.wh
      obtain ⟨_, hvw, _⟩ := HR.out.ats.rows
      obtain ⟨vva, vvc, hvv⟩ := own_form hvw
      subst hfv hhv hvv
      clear hvw
      have HRR := Lib.hid (HR2.out.later HR.out.ext)
      have hrc := HRR.out.cells
      have hrf := HRR.out.frozen
      have HRB := Lib.hid (show rb < W5.heap.size from Nat.lt_trans HRL.out HR5.out.low)
      go_wp2_with fail
      refine hideW (Φ := fun W => bodyPost _ _ _ _ _ W) (fun W => Ext w W ∧ AtomsAt W (.slice fa (atomsL (vecV ls) l).fr.length fc) (.slice ha (atomsL (vecV ls) l).wh.length hcp) (.slice vva (atomsL (vecV ls) l).vs.length vvc) (atomsL (vecV ls) l) ∧
          Blk W rb [.slice fa (atomsL (vecV ls) l).fr.length fc, .slice ha (atomsL (vecV ls) l).wh.length hcp, .slice vva (atomsL (vecV ls) l).vs.length vvc] 35)
        ⟨HSC.out _ _ _ (HSC.out _ _ _ (HSC.out _ _ _ (HX2.out.trans HR.out.ext))), (((HR.out.ats.setCell HRB.out _).setCell HRB.out _).setCell HRB.out _).at, ((HRR.out.set 0 _).set 1 _).set 2 _⟩ (fun W9 hW9 => ?_)
      obtain ⟨hx9, ha9, hb9⟩ := hW9
      have hc9 := hb9.cells
      refine bodyPost_ret (v := .tuple #[.agg #[.slice fa (atomsL (vecV ls) l).fr.length fc, .slice ha (atomsL (vecV ls) l).wh.length hcp, .slice vva (atomsL (vecV ls) l).vs.length vvc], I 0]) (by rw [results_cell_tmp rfl]; go_simp) rfl ?_
      exact ⟨_, _, _, l, rfl, HC.out, ha9, hx9⟩
end Go.Proofs.Ytamlalablblfeaa
