/- The law ToolWhole, by the program. Conditions: the library's table of powers of ten, and the table of words, read as they are laid. -/
import Derived.Test.YtdpmnldmbnpfpaaGreatDoorGSnd
import Derived.Test.YtdpmnldmbnpfpaaGreatDoorGAnaH
namespace Go.Proofs.YtdpmnldmbnpfpaaGreatDoor
open Go Go.RowKit Go.Maps Go.Proofs

/-- What the round over the cuts keeps. -/
def LoInv (ls : List (List Rul)) (l : List (BitVec 32)) (k : Nat) (lo : Bool) : Prop :=
 ((∀ a x, ¬ OnL (vecV ls a) x) -> lo = false) /\ ∀ j (h : j < l.length) x, OnL (vecV ls l[j]) x -> j < k -> lo = true
theorem LoInv.start (ls : List (List Rul)) (l : List (BitVec 32)) : LoInv ls l 0 false := ⟨fun _ => rfl, fun j h x hx hj => by omega⟩
theorem LoInv.step {ls : List (List Rul)} {l : List (BitVec 32)} {k : Nat} {lo b : Bool} (h : LoInv ls l k lo) (hk : k < l.length) {lp : List Int} (hl : LoopIs (vecV ls l[k]) lp) (hb : b = true ↔ lp ≠ []) : LoInv ls l (k + 1) (lo || b) := by
 refine ⟨fun hf => ?_, fun j hj x hx hjk => ?_⟩
 · have e : lp = [] := LoopIs.one hl (LoopIs.nil.2 (hf _))
   have : b = false := by
    cases b with
    | true => exact absurd e (hb.1 rfl)
    | false => rfl
   rw [h.1 hf, this]; rfl
 · by_cases e : j = k
   · subst e
     have hne : lp ≠ [] := fun e => by rw [e] at hl; exact LoopIs.nil.1 hl _ hx
     rw [hb.2 hne]; simp
   · rw [h.2 j hj x hx (by omega)]; rfl
/-- What follows of a network's own certificate. -/
theorem whole_is {ls : List (List Rul)} {c : Crt} (h : AnaIs ls c) {l : List (BitVec 32)} (hC : Cuts ls.flatten l) :
 (c.vd = 1 /\ ∀ a x, ¬ OnL (vecV ls a) x) \/ (c.vd = 2 /\ ∃ j, ∃ h : j < l.length, ∃ x, OnL (vecV ls l[j]) x) := by
 rcases h.at hC with ⟨i, h⟩ | h
 · exact .inr ⟨h.vd, ana_some hC h⟩
 · exact .inl ⟨h.vd, ana_none hC h⟩
set_option maxHeartbeats 8000000 in
set_option maxRecDepth 100000 in
theorem toolWhole_any (v u : Value) (f c : List Byt) (a : BitVec 32) (w : World) (h : BsAt w v f) (k : BsAt w u c) (ht : Tab10 w) (hw : Words w) :
 Calls Tryz.prog 6 #[v, u, U a] w fun e w' => e = .returned (.bool true) /\ Ext w w' := by
 have HH := Lib.hid h
 have HK := Lib.hid k
 have HSH := Lib.hid (shownTool_any w ht hw)
 obtain ⟨va, vc, rfl, -⟩ := h.form
 obtain ⟨ua, uc, rfl, -⟩ := k.form
 clear h k ht hw
 have HF1 := Lib.hid (fun W (x : Ext w W) => l22Few_any va vc f W (HH.out.later x))
 have HF2 := Lib.hid (fun W (x : Ext w W) => l22Few_any ua uc c W (HK.out.later x))
 have HL1 := Lib.hid (fewY_len f)
 have HL2 := Lib.hid (fewY_len c)
 generalize fewY f = F at *
 generalize fewY c = C at *
 have HP1 := Lib.hid (fun V W (h : BsAt W V F) => show Calls Tryz.prog 12 #[.int .u32 1179206193, V] W fun e w' => ∃ u, e = .returned u /\ OwnY w' W.heap.size u (fput magN F) /\ Ext W w' from framePut_any magN V F W h (by have := HL1.out; omega))
 have HP2 := Lib.hid (fun V W (h : BsAt W V C) => show Calls Tryz.prog 12 #[.int .u32 1129468977, V] W fun e w' => ∃ u, e = .returned u /\ OwnY w' W.heap.size u (fput magC C) /\ Ext W w' from framePut_any magC V C W h (by have := HL2.out; omega))
 have HM1 := Lib.hid (show (fput magN F).length <= 1000000000 by rw [fput_len]; have := HL1.out; omega)
 have HM2 := Lib.hid (show (fput magC C).length <= 1000000000 by rw [fput_len]; have := HL2.out; omega)
 generalize fput magN F = FN at *
 generalize fput magC C = FC at *
 go_enter Tryz.func6, Tryz.ntmps6
 go_upto_region 2 with (first
  | (go_at_call 9; (with_reducible refine HSH.out.mono ?_); rintro e w1 ⟨he, hx⟩; subst he; have HX1 := Lib.hid hx; clear hx; have K1 := Lib.hid (HF1.out _ HX1.out)))
 go_upto_region 3 with (first
  | (go_at_call 11; (with_reducible refine K1.out.mono ?_); rintro e w2 ⟨⟨he, hb⟩, hx⟩; subst he; have HX2 := Lib.hid (HX1.out.trans hx); have K2 := Lib.hid (HP1.out _ _ hb); clear hx hb K1)
  | (go_at_call 12; (with_reducible refine K2.out.mono ?_); rintro e w3 ⟨u3, he, ho, hx⟩; obtain ⟨fa, fc, hue⟩ := ho.form; subst hue; subst he; have HX3 := Lib.hid (HX2.out.trans hx); have HB3 := Lib.hid ho.bs; clear ho hx K2))
 have HAN := Lib.hid (toolAnalyze_any _ FN w3 HB3.out HM1.out)
 have HTK := Lib.hid (fun W (y : Ext w3 W) => netfileTake_any _ FN W (HB3.out.later y) HM1.out)
 cases hnt : netTake FN with
 | error z =>
   have HT := Lib.hid hnt
   have HZ := Lib.hid (netTake_nz FN z hnt)
   have HCK := Lib.hid (fun V L W (y : Ext w3 W) (hV : BsAt W V L) (hL : L.length <= 1000000000) => show Calls Tryz.prog 17 #[.slice fa FN.length fc, V] W fun e w' => e = .returned (.agg #[I 0, I z]) /\ Ext W w' from by
    have := toolCheck_any _ V FN L W (HB3.out.later y) HM1.out hV hL
    rw [chk_bad HT.out] at this
    exact this)
   clear hnt
   go_upto_region 4 with (first
    | (go_at_call 13; (with_reducible refine HAN.out.mono ?_); rintro e w4 ⟨h1, hx⟩; rw [HT.out] at h1; obtain ⟨-, he⟩ := h1; subst he; have HX4 := Lib.hid hx; clear hx))
   go_upto_region 5 with (first
    | (go_at_call 21; (with_reducible refine (HTK.out _ HX4.out).mono ?_); rintro e w5 ⟨h1, hx⟩; rw [HT.out] at h1; obtain ⟨-, he⟩ := h1; subst he; have HX5 := Lib.hid (HX4.out.trans hx); clear hx))
   refine hideW (Φ := fun W => Code.wp _ _ _ _ W) (fun W => Ext w5 W) (by (repeat with_reducible first | exact Ext.refl _ | assumption | refine Ext.alloc ?_ _ | refine Ext.drew ?_ | refine Ext.drewN ?_ _ | (refine Ext.setCellP ?_ ?_; focus (first | (simp; done) | (simp; omega) | omega)))) (fun W6 hW6 => ?_)
   have HX6 := Lib.hid (HX5.out.trans hW6)
   have hzb : (z != 0) = true := by simp [HZ.out]
   clear hW6
   generalize w5.heap.size = nb at *
   have K6 := Lib.hid (HF2.out _ (HX3.out.trans HX6.out))
   go_upto_region 7 with (first
    | (go_at_call 11; (with_reducible refine K6.out.mono ?_); rintro e w7 ⟨⟨he, hb⟩, hx⟩; subst he; have HX7 := Lib.hid (HX6.out.trans hx); have K7 := Lib.hid (HCK.out _ _ _ HX7.out hb (by have := HL2.out; omega)); clear hx hb K6)
    | (go_at_call 17; (with_reducible refine K7.out.mono ?_); rintro e w8 ⟨he, hx⟩; subst he; have HX8 := Lib.hid (HX7.out.trans hx); clear hx K7))
   refine hideW (Φ := fun W => Code.wp _ _ _ _ W) (fun W => Ext w8 W /\ Blk W w8.heap.size [I 0, I z] 35) ⟨by (repeat with_reducible first | exact Ext.refl _ | assumption | refine Ext.alloc ?_ _ | refine Ext.drew ?_ | refine Ext.drewN ?_ _ | (refine Ext.setCellP ?_ ?_; focus (first | (simp; done) | (simp; omega) | omega))), Blk.new w8 [I 0, I z] 35⟩ (fun W9 hW9 => ?_)
   obtain ⟨hx9, hb9⟩ := hW9
   have HX9 := Lib.hid (HX8.out.trans hx9)
   have HA9 := Lib.hid hb9
   clear hx9 hb9
   generalize w8.heap.size = ab at *
   have K9 := Lib.hid (HF2.out _ (HX3.out.trans HX9.out))
   go_upto_region 8 with (first
    | (go_at_call 11; (with_reducible refine K9.out.mono ?_); rintro e wa ⟨⟨he, hb⟩, hx⟩; subst he; have HXA := Lib.hid (HX9.out.trans hx); have HAA := Lib.hid (HA9.out.later hx); have KA := Lib.hid (HP2.out _ _ hb); clear hx hb K9)
    | (go_at_call 12; (with_reducible refine KA.out.mono ?_); rintro e wb ⟨ub, he, ho, hx⟩; obtain ⟨ga, gc, hue⟩ := ho.form; subst hue; subst he; have HXB := Lib.hid (HXA.out.trans hx); have HAB := Lib.hid (HAA.out.later hx); have KB := Lib.hid (HCK.out _ _ _ HXB.out ho.bs HM2.out); clear ho hx KA)
    | (go_at_call 17; (with_reducible refine KB.out.mono ?_); rintro e wc ⟨he, hx⟩; subst he; have HXC := Lib.hid (HXB.out.trans hx); have HAC := Lib.hid (HAB.out.later hx); clear hx KB))
   refine hideW (Φ := fun W => Code.wp _ _ _ _ W) (fun W => Ext wc W /\ Blk W wc.heap.size [I 0, I z] 35) ⟨by (repeat with_reducible first | exact Ext.refl _ | assumption | refine Ext.alloc ?_ _ | refine Ext.drew ?_ | refine Ext.drewN ?_ _ | (refine Ext.setCellP ?_ ?_; focus (first | (simp; done) | (simp; omega) | omega))), Blk.new wc [I 0, I z] 35⟩ (fun WD hWD => ?_)
   obtain ⟨hxd, hbd⟩ := hWD
   have HXD := Lib.hid (HXC.out.trans hxd)
   have hac := (HAC.out.later hxd).cells
   have hbc := hbd.cells
   clear hxd hbd
   generalize wc.heap.size = bb at *
   go_wp2_with fail
   go_ret
   exact ⟨rfl, HX3.out.trans HXD.out⟩
 | ok ls =>
   have HT := Lib.hid hnt
   have HM := Lib.hid (netTake_may hnt)
   clear hnt
   go_upto_region 4 with (first
    | (go_at_call 13; (with_reducible refine HAN.out.mono ?_); rintro e w4 ⟨h1, hx⟩; rw [HT.out] at h1; obtain ⟨c0, u4, ha, hlen, hcm, he, ho⟩ := h1; obtain ⟨pa, pc, hue⟩ := ho.form; subst hue; subst he; have HX4 := Lib.hid hx; have HP4 := Lib.hid ho.bs; have HA := Lib.hid ha; have HLE := Lib.hid hlen; have HCM := Lib.hid hcm; clear hx ho ha hlen hcm))
   have hnl := (netMay_tabs HM.out).1
   have HLC := Lib.hid (certP_len hnl HLE.out HCM.out)
   obtain ⟨d, hct, hcq⟩ := certTake_put hnl HLE.out HCM.out
   have HCV := Lib.hid (show chkV FN (certPut c0 ls.length) = (c0.vd, 0) by rw [chk_good HT.out hct rfl, ansV_congr hcq]; exact (ana_holds HM.out (cutL_is ls) HA.out).2)
   clear hct hcq
   generalize certPut c0 ls.length = CP at *
   have HCK := Lib.hid (fun W (y : Ext w3 W) (hV : BsAt W (.slice pa CP.length pc) CP) => show Calls Tryz.prog 17 #[.slice fa FN.length fc, .slice pa CP.length pc] W fun e w' => e = .returned (.agg #[I c0.vd, I 0]) /\ Ext W w' from by
    have := toolCheck_any _ (.slice pa CP.length pc) FN CP W (HB3.out.later y) HM1.out hV (by have := HLC.out; omega)
    rw [HCV.out] at this
    exact this)
   go_upto_region 5 with (first
    | (go_at_call 21; (with_reducible refine (HTK.out _ HX4.out).mono ?_); rintro e w5 ⟨h1, hx⟩; rw [HT.out] at h1; obtain ⟨u5, he, ho⟩ := h1; obtain ⟨na, nc, hue, -⟩ := ho.read.form; subst hue; subst he; have HX5 := Lib.hid (HX4.out.trans hx); have HP5 := Lib.hid (HP4.out.later hx); have HR5 := Lib.hid ho.read; clear hx ho))
   refine hideW (Φ := fun W => Code.wp _ _ _ _ W) (fun W => Ext w5 W /\ Blk W w5.heap.size [.slice na ls.length nc] 39) ⟨by (repeat with_reducible first | exact Ext.refl _ | assumption | refine Ext.alloc ?_ _ | refine Ext.drew ?_ | refine Ext.drewN ?_ _ | (refine Ext.setCellP ?_ ?_; focus (first | (simp; done) | (simp; omega) | omega))), Blk.new w5 [.slice na ls.length nc] 39⟩ (fun W6 hW6 => ?_)
   obtain ⟨hx6, hb6⟩ := hW6
   have HX6 := Lib.hid (HX5.out.trans hx6)
   have HP6 := Lib.hid (HP5.out.later hx6)
   have HR6 := Lib.hid (HR5.out.later hx6)
   have HN6 := Lib.hid hb6
   clear hx6 hb6
   generalize w5.heap.size = nb at *
   have K6 := Lib.hid (HCK.out _ HX6.out HP6.out)
   go_upto_region 10 with (first
    | (go_at_call 17; (with_reducible refine K6.out.mono ?_); rintro e w7 ⟨he, hx⟩; subst he; have HX7 := Lib.hid (HX6.out.trans hx); have HR7 := Lib.hid (HR6.out.later hx); have HN7 := Lib.hid (HN6.out.later hx); clear hx K6))
   refine hideW (Φ := fun W => Code.wp _ _ _ _ W) (fun W => Ext w7 W /\ Blk W w7.heap.size [I c0.vd, I 0] 35) ⟨by (repeat with_reducible first | exact Ext.refl _ | assumption | refine Ext.alloc ?_ _ | refine Ext.drew ?_ | refine Ext.drewN ?_ _ | (refine Ext.setCellP ?_ ?_; focus (first | (simp; done) | (simp; omega) | omega))), Blk.new w7 [I c0.vd, I 0] 35⟩ (fun W8 hW8 => ?_)
   obtain ⟨hx8, hb8⟩ := hW8
   have HX8 := Lib.hid (HX7.out.trans hx8)
   have HR8 := Lib.hid (HR7.out.later hx8)
   have HN8 := Lib.hid (HN7.out.later hx8)
   have HA8 := Lib.hid hb8
   have hnc := HN8.out.cells
   clear hx8 hb8
   generalize w7.heap.size = ab at *
   go_upto_region 11 with (first
    | (go_at_call 22; (with_reducible refine (netLoop_any _ ls a _ HR8.out (may_ok HM.out) HM.out).mono ?_); rintro e w9 ⟨ul, ll, is, he, hLI, hbl, hO, hx⟩; obtain ⟨la, lc, hue, -⟩ := hO.ints.form; subst hue; subst he; have HLI := Lib.hid hLI; have HBL := Lib.hid hbl; have HX9 := Lib.hid hx; clear hx hLI hbl hO hnc))
   have hnc := (HN8.out.later HX9.out).cells
   have HR9 := Lib.hid (HR8.out.later HX9.out)
   go_upto_region 13 with (first
    | (go_at_call 23; (with_reducible refine (r12OfO_any _ ls _ HR9.out (may_ok HM.out) (by have := (netMay_tabs HM.out).2.1; omega)).mono ?_); rintro e wc ⟨v9, L, he, hO, hC9, hx⟩; subst he; have HXC := Lib.hid (HX9.out.trans hx); have HO := Lib.hid hO; have HC := Lib.hid hC9; clear hO hC9 hx hnc))
   have HLB := Lib.hid (show L.length <= 20000001 by have h1 := HC.out.len; have h2 := (netMay_tabs HM.out).2.1; rw [sizeN_flat] at h1; omega)
   obtain ⟨xa, xc, hxv, x1, x2, x3⟩ := HO.out.us.form
   subst hxv
   unfold maxLen at x2
   have X3 := Lib.hid x3
   have hlb := HLB.out
   clear x3
   go_wp2_with fail
   go_loopw [18, 20] (fun lv i wr => ∃ (k : Nat) (lo : Bool), k <= L.length /\ i = I k /\ lv = .bool lo /\ Hid (LoInv ls L k lo) /\ Hid (Ext wc wr)) (fun _ i _ => L.length - (intOf i).toNat)
   case atStart => exact ⟨0, false, Nat.zero_le _, rfl, rfl, LoInv.start _ _, Ext.refl _⟩
   case round =>
    obtain ⟨k, lo, hk, rfl, rfl, HI, HX⟩ := hrel
    have HXR := Lib.hid (HXC.out.trans HX.out)
    by_cases hlt : k < L.length
    · have hkd : decide ((k : Int) < (L.length : Int)) = true := decide_eq_true (by omega)
      have HLT := Lib.hid hlt
      obtain ⟨b1, o1, he1, hc1⟩ := X3.out k L[k] (List.getElem?_eq_getElem hlt)
      subst he1
      have HC1 := Lib.hid hc1
      have HST := Lib.hid (fun b lp (h1 : LoopIs (vecV ls L[k]) lp) (h2 : b = true ↔ lp ≠ []) => LoInv.step HI.out hlt h1 h2)
      generalize L[k] = y at *
      clear hc1
      go_upto_region 16 with fail
      refine wp_region_R (RB (wr.heap.size)) 10 rfl (by kernel_rfl) (by kernel_rfl) (fun wz hxz => ?_)
      have hsz : wr.heap.size <= wz.heap.size := hxz.size
      have HZ := Lib.hid hxz
      have g0 := RB.keep hsz (HN8.out.later HXR.out).lt (((HN8.out.later HXR.out).later hxz).cells 0)
      have g1 := RB.keep hsz (cell_ltT (HX.out.cell HC1.out)) (hxz.cell (HX.out.cell HC1.out))
      clear hxz
      refine WRi_at 0 ?_
      iterate 5
       refine WRi_q (preRB _) rfl (by decide) (by kernel_rfl) rfl ?_; apply Exists.intro; refine ⟨fun w1 hx1 => ?_, ?_⟩
       · go_simp; try go_bits
         first | with_reducible rfl | rfl
       simp only [Act.put, List.setIfInBounds_toArray, List.set_cons_zero, List.set_cons_succ, Nat.reduceAdd]
      refine WRi_out ?_
      clear g0 g1
      refine WR_one 5 rfl (by decide) (by kernel_rfl) rfl (fun K hK => ?_)
      go_simp
      (with_reducible refine (netLoop_any _ ls y _ (HR8.out.later (HXR.out.trans HZ.out)) (may_ok HM.out) HM.out).mono ?_)
      rintro e w11 ⟨u, l2, b, he, hLI, hbl, hO, hx11⟩
      subst he
      have HS := Lib.hid (HST.out b l2 hLI hbl)
      refine hK _ _ (RB.ext hx11) ?_
      have HX11 := Lib.hid (HX.out.trans (HZ.out.trans hx11))
      clear hK K hLI hbl hO hx11 HST
      refine WRi_at 6 ?_
      iterate 4
       refine WRi_q (preRB _) rfl (by decide) (by kernel_rfl) rfl ?_; apply Exists.intro; refine ⟨fun w1 hx1 => ?_, ?_⟩
       · go_simp; try go_bits
         first | with_reducible rfl | rfl
       simp only [Act.put, List.setIfInBounds_toArray, List.set_cons_zero, List.set_cons_succ, Nat.reduceAdd]
      refine WRi_out ?_
      refine WR_done (by kernel_rfl) ?_
      (try simp only [List.drop_succ_cons, List.drop_zero])
      cases lo <;> cases b
      all_goals
       go_wp2_with fail
       go_roundw
       case rel => exact ⟨k + 1, _, Nat.succ_le_of_lt HLT.out, by go_num, rfl, HS, HX11⟩
       case measure => have := HLT.out; simp [intOf]; omega
    · obtain rfl : k = L.length := by omega
      have hbc := (HA8.out.later HXR.out).cells
      rcases whole_is HA.out HC.out with ⟨hvd, hno⟩ | ⟨hvd, j, hj, x, hx⟩
      · have e1 := HI.out.1 hno
        have e2 : is = false := by
         cases is with
         | true => exact absurd (LoopIs.one HLI.out (LoopIs.nil.2 (hno a))) (HBL.out.1 rfl)
         | false => rfl
        subst e1 e2
        rw [hvd] at hbc
        clear hno
        go_wp2_with fail
        go_ret
        exact ⟨rfl, HX3.out.trans (HX8.out.trans HXR.out)⟩
      · have e1 := HI.out.2 j hj x hx hj
        subst e1
        rw [hvd] at hbc
        clear hx hj
        go_wp2_with fail
        go_ret
        exact ⟨rfl, HX3.out.trans (HX8.out.trans HXR.out)⟩
end Go.Proofs.YtdpmnldmbnpfpaaGreatDoor
