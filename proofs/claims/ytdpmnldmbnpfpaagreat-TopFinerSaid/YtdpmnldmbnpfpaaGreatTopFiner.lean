/- The law TopFiner: parts may be cut finer: a certificate of no loop whose parts are cut at any addresses is accepted still. Conditions: whole numbers are within 64 bits. -/
import Derived.Test.YtdpmnldmbnpfpaaGreatGTop
import Derived.Test.YtdpmnldmbnpfpaaGreatCSameW
import Derived.Test.YtdpmnldmbnpfpaaGreatSortW
import Derived.Test.YtdpmnldmbnpfpaaGreatFinerL
import Derived.Test.YtdpmnldmbnpfpaaGreatGNetP
import Derived.Test.YtdpmnldmbnpfpaaGreatGFit17
namespace Go.Proofs.YtdpmnldmbnpfpaaGreat
open Go Go.RowKit Go.Maps Go.Proofs

theorem min30 (n : Nat) : min (n : Int) 30 = ((min n 30 : Nat) : Int) := by omega
theorem fr_take {ps : List Prt} {k : Nat} (h : k < ps.length) : (ps.take (k + 1)).map Prt.fr = (ps.take k).map Prt.fr ++ [ps[k].fr] := by
 rw [List.take_succ_eq_append_getElem h, List.map_append]; rfl
/-- The finer parts so far. -/
def finP (F : List (BitVec 32)) (rks : List (List Int)) (A : List (BitVec 32)) : List PrtV := (List.range A.length).map fun i => ⟨A.getD i 0#32, endV A i, rks.getD (ivN F (A.getD i 0#32)) []⟩
theorem finP_len (F : List (BitVec 32)) (rks : List (List Int)) (A : List (BitVec 32)) : (finP F rks A).length = A.length := by unfold finP; simp
theorem finP_step {F : List (BitVec 32)} {rks : List (List Int)} {A : List (BitVec 32)} {i : Nat} (h : i < A.length) {k : Nat} (hk : ivN F A[i] = k) {r : List Int} (hr : rks[k]? = some r) : (finP F rks A).take (i + 1) = (finP F rks A).take i ++ [⟨A[i], endV A i, r⟩] := by
 rw [List.take_succ_eq_append_getElem (by rw [finP_len]; exact h)]
 congr 2
 unfold finP
 simp [List.getD_eq_getElem?_getD, h, hk, hr]
theorem finP_finer {F : List (BitVec 32)} {rks : List (List Int)} {A : List (BitVec 32)} {w : World} {B : Nat} {v : Value} (h : OwnPR w B v (finP F rks A)) (hk : ∀ (i : Nat) (a : BitVec 32), A[i]? = some a → ivN F a < rks.length) :
 ∃ ps, CertAt w v (.slice none 0 0) ⟨1, ps, (finP F rks A).map PrtV.rk, 0#32, []⟩ ∧ Finer F rks A ⟨1, ps, (finP F rks A).map PrtV.rk, 0#32, []⟩ := by
 obtain ⟨ps, h1, h2, h3, h4⟩ := h.parts
 have hl : ps.length = A.length := by rw [h2, finP_len]
 refine ⟨ps, ⟨h1.parts, by show ((finP F rks A).map PrtV.rk).length = ps.length; rw [List.length_map, h2], fun i p r k1 k2 => ?_, Reads.nil w 1⟩, ⟨rfl, rfl, rfl, hl, by show ((finP F rks A).map PrtV.rk).length = A.length; rw [List.length_map, finP_len], fun i a ha => ?_⟩⟩
 · simp only [List.getElem?_map, Option.map_eq_some_iff] at k2
   obtain ⟨q, q1, rfl⟩ := k2
   obtain ⟨p', g1, g2⟩ := h4 i q q1
   rw [k1] at g1
   cases g1
   exact Reads.of_own g2
 · obtain ⟨hi, hae⟩ := List.getElem?_eq_some_iff.1 ha
   have hq : (finP F rks A)[i]? = some ⟨a, endV A i, rks.getD (ivN F a) []⟩ := by
    unfold finP
    rw [List.getElem?_map, List.getElem?_range hi]
    simp [List.getD_eq_getElem?_getD, ha]
   have hpi : i < ps.length := by rw [hl]; exact hi
   have e3 := congrArg (fun l => l[i]?) h3
   simp only [List.getElem?_map, hq, List.getElem?_eq_getElem hpi, Option.map_some, Option.some.injEq, Prod.mk.injEq] at e3
   refine ⟨ps[i], rks.getD (ivN F a) [], List.getElem?_eq_getElem hpi, ?_, e3.1, e3.2, ?_⟩
   · show ((finP F rks A).map PrtV.rk)[i]? = _
     rw [List.getElem?_map, hq]; rfl
   · have := hk i a ha
     rw [List.getD_eq_getElem?_getD, List.getElem?_eq_getElem this]; rfl
theorem iv_stop {F : List (BitVec 32)} (hF : Rising F) {k : Nat} (hk : k < F.length) {a : BitVec 32} (h1 : uv F[k] ≤ uv a) (h2 : ∀ h : k + 1 < F.length, uv a < uv F[k + 1]) : ivN F a = k := by
 unfold ivN; rw [atN_eq hF hk h1 h2]; rfl
set_option maxHeartbeats 8000000 in
set_option maxRecDepth 100000 in
theorem topFiner_any (lv v1 : Value) (ls : List (List Rul)) (l1 : List (BitVec 32)) (w : World) (hl : TablesAt w lv ls) (hok : TablesOk ls) (hR1 : UsAt w v1 l1) :
 Calls Tryz.prog 5 #[.agg #[lv], v1] w fun e w' => e = .returned (.bool true) ∧ Ext w w' := by
 have HR1 := Lib.hid hR1
 obtain ⟨ga, gc, rfl, g1, g2, -⟩ := hR1.form
 clear hR1
 unfold maxLen at g2
 have HL := Lib.hid hl
 have HOK := Lib.hid hok
 obtain ⟨ad, cap, hlv, a1, a2, a3⟩ := hl.form
 subst hlv
 clear a3 hl hok
 unfold maxLen at a2
 go_enter Tryz.func5, Tryz.ntmps5
 go_upto_region 1 with (fail)
 refine hideW (Φ := fun W => Code.wp _ _ _ _ W) (fun W => Ext w W ∧ Blk W w.heap.size [.slice ad ls.length cap] 24)
  ⟨by (repeat (first | with_reducible exact Ext.refl _ | with_reducible assumption | with_reducible refine Ext.alloc ?_ _ | with_reducible refine Ext.drew ?_ | with_reducible refine Ext.drewN ?_ _ | (with_reducible refine Ext.setCellP ?_ ?_; focus (first | (simp; done) | (simp; omega) | omega)))), (Blk.new w [.slice ad ls.length cap] 24)⟩ (fun W1 hW1 => ?_)
 obtain ⟨hx1, hb1⟩ := hW1
 have HX1 := Lib.hid hx1
 have HB1 := Lib.hid hb1
 clear hx1 hb1
 generalize w.heap.size = nb at *
 go_upto_region 2 with (first
  | (go_at_call 6; (with_reducible refine (shownTop_any _).mono ?_); rintro e w2 ⟨rfl, hx2⟩; have HX2 := Lib.hid (HX1.out.trans hx2); have HB2 := Lib.hid (HB1.out.later hx2); clear hx2))
 have hbc2 := HB2.out.cells
 have HNM := Lib.hid (fitN_may ls)
 have HNS := Lib.hid (fitN_size ls)
 have HNO := Lib.hid (fitN_ok ls)
 have HN20 := Lib.hid (@fitN_short ls)
 have hN := fitN_bd ls
 go_upto_region 3 with (first
  | (go_at_call 7; (with_reducible refine (r09Fit_any _ ls _ (HL.out.later HX2.out) HOK.out).mono ?_); rintro e w3 ⟨v3, he, hF, hx3⟩; subst he; have HF3 := Lib.hid hF.tables; obtain ⟨va, vcap, hv3, q1, q2, q3⟩ := HF3.out.form; subst hv3; clear q3; have HX3 := Lib.hid (HX2.out.trans hx3); clear hF hx3))
 generalize fitN ls = N at *
 clear hbc2 HB2 HB1
 unfold maxLen at q2
 refine hideW (Φ := fun W => Code.wp _ _ _ _ W) (fun W => Ext w3 W ∧ Blk W w3.heap.size [.slice va N.length vcap] 24)
  ⟨by (repeat (first | with_reducible exact Ext.refl _ | with_reducible assumption | with_reducible refine Ext.alloc ?_ _ | with_reducible refine Ext.drew ?_ | with_reducible refine Ext.drewN ?_ _ | (with_reducible refine Ext.setCellP ?_ ?_; focus (first | (simp; done) | (simp; omega) | omega)))), Blk.new w3 [.slice va N.length vcap] 24⟩ (fun W4 hW4 => ?_)
 obtain ⟨hx4, hb4⟩ := hW4
 have HX4 := Lib.hid (HX3.out.trans hx4)
 have HF4 := Lib.hid (HF3.out.later hx4)
 have HB4 := Lib.hid hb4
 have hbc4 := hb4.cells
 clear hx4 hb4 HF3 HX3 HX1 HX2
 generalize w3.heap.size = fb at *
 have HNZ0 := Lib.hid (Nat.le_trans HNS.out (by decide : 160 ≤ 10000000))
 have HNL := Lib.hid (netMay_tabs HNM.out).1
 go_upto_region 4 with (first
  | (go_at_call 10; (with_reducible refine (aNet_good _ N _ HF4.out HNO.out HNM.out).mono ?_); rintro e w5 ⟨pv, tv, c, he, hc, ha, hx5⟩; subst he; have HC5 := Lib.hid hc; have HAI := Lib.hid ha; obtain ⟨pa, pc, hpe, p1, p2, -⟩ := hc.parts.form; subst hpe; obtain ⟨ta, tc, hte, t1, t2, -⟩ := hc.tr.form; subst hte; have HX5 := Lib.hid hx5; clear hx5 hc ha))
 refine hideW (Φ := fun W => Code.wp _ _ _ _ W) (fun W => Ext w5 W ∧ Blk W w5.heap.size [I c.vd, .slice pa c.ps.length pc, U c.dest, .slice ta c.tr.length tc] 37)
  ⟨(Ext.refl _).alloc _, Blk.new w5 [I c.vd, .slice pa c.ps.length pc, U c.dest, .slice ta c.tr.length tc] 37⟩ (fun W6 hW6 => ?_)
 obtain ⟨hx6, hk6⟩ := hW6
 have HC6 := Lib.hid (HC5.out.later hx6)
 have HX6 := Lib.hid (HX5.out.trans hx6)
 have HK6 := Lib.hid hk6
 have HB6 := Lib.hid (HB4.out.later HX6.out)
 have HF6 := Lib.hid (HF4.out.later HX6.out)
 have hkc := hk6.cells
 clear hx6 hk6 hbc4 HC5 HX5
 have hbc := HB6.out.cells
 generalize w5.heap.size = kb at *
 obtain ⟨hcm, hans⟩ := ana_holds HNM.out (cutL_is N) HAI.out
 have HIN := Lib.hid (may_in64 hcm HNL.out)
 have HNET := Lib.hid (checkNet_any _ _ _ N c (cutL N) W6 HF6.out HNO.out HNZ0.out (cutL_is N) HC6.out HIN.out)
 rw [hans] at HNET
 rcases HAI.out.at (cutL_is N) with ⟨i, hL⟩ | hF
 · have hvd := hL.vd
   have hvb : (c.vd == 2) = true := by rw [hvd]; rfl
   have HV2 := Lib.hid hvd
   clear hL hvd hcm hans
   go_wp2_with (first
    | (go_at_call 14; (with_reducible refine HNET.out.mono ?_); rintro e w7 ⟨he, hx7⟩; rw [HV2.out] at he; subst he; have HX7 := Lib.hid hx7; clear hx7))
   go_ret
   exact ⟨rfl, HX4.out.trans (HX6.out.trans HX7.out)⟩
 have hvb : (c.vd == 2) = false := by rw [hF.vd]; rfl
 have HF1 := Lib.hid hF
 clear hF hcm hans
 have HI := Lib.hid (atomsIt (cutL_is N))
 have HFL := Lib.hid (show (atomsL (vecV N) (cutL N)).fr.length ≤ 321 from by
  have h1 := fr_few (cutL_is N)
  have h2 := HNS.out
  omega)
 have HFN := Lib.hid (fun (A : List (BitVec 32)) (d : Crt) => finer_ok (A := A) (d := d) HNM.out (cutL_is N) HF1.out)
 have HFS := Lib.hid (fun (A : List (BitVec 32)) (d : Crt) => finer_same (A := A) (d := d) (cutL_is N) HF1.out)
 have HRS := Lib.hid HI.out.rise
 have HZR := Lib.hid HI.out.zero
 have HPR := Lib.hid HF1.out.parts
 have HPL := Lib.hid HF1.out.len
 have HRL := Lib.hid HF1.out.rln
 clear HI
 have hpl : c.ps.length ≤ 321 := by have h1 := HPL.out; have h2 := HFL.out; omega
 have HMP := Lib.hid (show c.ps.map Prt.fr = (atomsL (vecV N) (cutL N)).fr from by
  refine List.ext_getElem? fun i => ?_
  rw [List.getElem?_map]
  by_cases hi : i < (atomsL (vecV N) (cutL N)).fr.length
  · obtain ⟨p, r, k1, _, k3, _⟩ := HPR.out i _ (List.getElem?_eq_getElem hi)
    rw [k1, List.getElem?_eq_getElem hi, Option.map_some, k3]
  · rw [List.getElem?_eq_none (by rw [HPL.out]; omega), List.getElem?_eq_none (by omega)]; rfl)
 generalize (atomsL (vecV N) (cutL N)).fr = F at *
 have HL1 := Lib.hid (HR1.out.later (HX4.out.trans HX6.out))
 have HO0 := Lib.hid (own_made W6 1 25 0 [] rfl (by unfold maxLen; omega))
 have hmc : min l1.length 30 ≤ gc := by omega
 have HSL := Lib.hid (show UsAt (W6.alloc (.cells #[] 25)) (slv 1 (.slice ga l1.length gc) 0 (min l1.length 30)) (l1.take (min l1.length 30)) from (HL1.out.piece (Nat.zero_le _) (Nat.min_le_left _ _)).later ((Ext.refl _).alloc _))
 have HTL := Lib.hid (show (l1.take (min l1.length 30)).length ≤ 30 by rw [List.length_take]; omega)
 have hmn := min30 l1.length
 go_upto_region 9 with (first
  | (refine wpList_of_run rfl (run_slice_to (o := ⟨some 45, _, _, _, _, _⟩) rfl Tryz.underlying47 sizeU32 rfl rfl hmc) ?_)
  | (at_builtin; refine wpList_app rfl (.tmp 40) (.tmp 45) 47 rfl W6.heap.size 25 _ 1 4 Tryz.underlying47 infoU32 rfl (by decide) (by decide) _ _ _ rfl HO0.out _ _ _ rfl HSL.out (ucells_one _) (by have := HTL.out; omega) ((Ext.refl W6).alloc _).size ?_; intro v7 w7 ho7 hg7
     have HX7 := Lib.hid (show Ext W6 w7 from Ext.grown ((Ext.refl W6).alloc _) hg7 HO0.out (Nat.le_refl _))
     have HO7 := Lib.hid (show OwnU w7 W6.heap.size v7 (l1.take (min l1.length 30)) from by
      unfold OwnU
      simpa using ho7)
     clear ho7 hg7))
 obtain ⟨pa', pc', hpe, -, -, p3⟩ := HC6.out.parts.form
 cases hpe
 have P3 := Lib.hid p3
 clear p3 hbc hkc hmc hmn HSL HO0
 generalize l1.take (min l1.length 30) = L0 at *
 go_wp2_with fail
 go_loopw [9, 10] (fun v i wr => ∃ k : Nat, k ≤ c.ps.length ∧ i = I k ∧ Hid (OwnU wr W6.heap.size v (L0 ++ (c.ps.take k).map Prt.fr)) ∧ Hid (Ext W6 wr)) (fun _ i _ => c.ps.length - (intOf i).toNat)
 case atStart => exact ⟨0, Nat.zero_le _, rfl, Lib.hid (by simpa using HO7.out), HX7⟩
 case round =>
  obtain ⟨k, hk, rfl, HO, HX⟩ := hrel
  have HKW := Lib.hid (HK6.out.later HX.out)
  have hkc := HKW.out.cells
  have HLU := Lib.hid (show (L0 ++ (c.ps.take k).map Prt.fr).length ≤ 30 + k by rw [List.length_append, List.length_map, List.length_take]; have := HTL.out; omega)
  by_cases hlt : k < c.ps.length
  · obtain ⟨b0, o0, rfl, q0, -, -⟩ := P3.out k _ (List.getElem?_eq_getElem hlt)
    replace q0 := HX.out.cell q0
    have HLT := Lib.hid hlt
    have HST := Lib.hid (show L0 ++ (c.ps.take (k + 1)).map Prt.fr = (L0 ++ (c.ps.take k).map Prt.fr) ++ [c.ps[k].fr] by rw [fr_take hlt]; exact (List.append_assoc _ _ _).symm)
    generalize c.ps[k] = p at *
    generalize L0 ++ (c.ps.take k).map Prt.fr = L at *
    have HA := Lib.hid ((Ext.refl wr).alloc (.cells #[U p.fr] 25))
    have HOA := Lib.hid (show OwnU (wr.alloc (.cells #[U p.fr] 25)) W6.heap.size _ L from HO.out.later HA.out)
    have HSR := Lib.hid (Reads.made wr 1 25 1 [U p.fr] rfl (by unfold maxLen; omega))
    have HXA := Lib.hid (HX.out.trans HA.out)
    obtain ⟨oa, oc, hof, -⟩ := HO.out.us.form
    subst hof
    go_wp2_with (first
     | (at_builtin; refine wpList_app rfl (.tmp 54) (.tmp 61) 47 rfl W6.heap.size 25 _ 1 4 Tryz.underlying47 infoU32 rfl (by decide) (by decide) _ _ _ rfl HOA.out _ _ _ rfl HSR.out (ucells_one [p.fr]) (by have := HLU.out; omega) HXA.out.size ?_; intro v8 w8 ho8 hg8
        have HX8 := Lib.hid (Ext.grown HXA.out hg8 HOA.out (Nat.le_refl _))
        have HO8 := Lib.hid (show OwnU w8 W6.heap.size v8 (L0 ++ (c.ps.take (k + 1)).map Prt.fr) from by
         unfold OwnU
         rw [HST.out, ucells_app, List.length_append]
         exact ho8)
        clear ho8 hg8))
    go_roundw
    case rel => exact ⟨k + 1, Nat.succ_le_of_lt HLT.out, by go_num, HO8, HX8⟩
    case measure => have := HLT.out; simp [intOf]; omega
  · obtain rfl : k = c.ps.length := by omega
    have HTK := Lib.hid (show (c.ps.take c.ps.length).map Prt.fr = F by rw [List.take_length, HMP.out])
    rw [HTK.out] at HO HLU
    have HSO := Lib.hid (fun V W (h : UsAt W V (L0 ++ F)) => topSorted_any V (L0 ++ F) W h (by have := HLU.out; omega))
    go_upto_region 14 with (first
     | (go_at_call 23; (with_reducible refine (HSO.out _ _ HO.out.us).mono ?_); rintro e w9 ⟨u9, A, he, hO, hS, hx⟩; subst he; have HX9 := Lib.hid (HX.out.trans hx); have HU9 := Lib.hid hO.us; have HSA := Lib.hid hS; clear hO hS hx hkc))
    have HAL := Lib.hid (show A.length ≤ 382 by have h1 := HSA.out.few; have h2 := HLU.out; omega)
    have HSB := Lib.hid (show ∀ x ∈ F, x ∈ A from fun x hx => (HSA.out.mem x).2 (.inr (List.mem_append.2 (.inr hx))))
    have HAR := Lib.hid HSA.out.rise
    have HAZ := Lib.hid HSA.out.zero
    have HA0 := Lib.hid (show 0 < A.length from (List.getElem?_eq_some_iff.1 HSA.out.zero).1)
    clear HSA HSO HLU
    obtain ⟨ua, uc, huf, u1, u2, -⟩ := HU9.out.form
    subst huf
    unfold maxLen at u2
    go_upto_region 15 with fail
    refine hideW (Φ := fun W => Code.wp _ _ _ _ W) (fun W => Ext w9 W ∧ Blk W w9.heap.size [I 1, .slice none 0 0, U 0#32, .slice none 0 0] 37) ⟨by (repeat (first | with_reducible exact Ext.refl _ | with_reducible assumption | with_reducible refine Ext.alloc ?_ _ | with_reducible refine Ext.drew ?_ | with_reducible refine Ext.drewN ?_ _ | (with_reducible refine Ext.setCellP ?_ ?_; focus (first | (simp; done) | (simp; omega) | omega)))), Blk.new w9 [I 1, .slice none 0 0, U 0#32, .slice none 0 0] 37⟩ (fun WA hWA => ?_)
    obtain ⟨hxa, hoa⟩ := hWA
    have HXA := Lib.hid hxa
    have HOA := Lib.hid hoa
    have hal := HAL.out
    clear hxa hoa
    generalize hob : w9.heap.size = ob at *
    have HOB := Lib.hid hob
    clear hob
    have HKO := Lib.hid (show kb < ob by rw [← HOB.out]; exact (HK6.out.later HX9.out).lt)
    have HFK := Lib.hid (show ∀ (j : Nat) (h : j < c.ps.length) (h' : j < F.length), F[j] = c.ps[j].fr from fun j h h' => by
     have e := congrArg (fun l => l[j]?) HMP.out
     simp only [List.getElem?_map, List.getElem?_eq_getElem h, List.getElem?_eq_getElem h', Option.map_some, Option.some.injEq] at e
     exact e.symm)
    have HF0 := Lib.hid (show 0 < c.ps.length by rw [HPL.out]; exact (List.getElem?_eq_some_iff.1 HZR.out).1)
    have HST0 := Lib.hid (show 0 < c.ps.length ∧ ∀ (h : 0 < A.length) (h2 : 0 < F.length), uv F[0] ≤ uv A[0] from ⟨HF0.out, fun h h2 => by
     rw [(List.getElem?_eq_some_iff.1 HZR.out).2]
     have := (uv_bd A[0]).1
     have h0 : uv (0#32) = 0 := rfl
     omega⟩)
    obtain ⟨wo, rfl⟩ : ∃ wo : World, wo = wr := ⟨_, rfl⟩
    go_wp2_with fail
    go_loopw [13, 14] (fun x i wr => ∃ (q : Nat) (v : Value) (kk : Nat), q ≤ A.length ∧ i = I q ∧ x = I kk ∧ Hid (kk < c.ps.length ∧ ∀ (h : q < A.length) (h2 : kk < F.length), uv F[kk] ≤ uv A[q]) ∧ Hid (Blk wr ob [I 1, v, U 0#32, .slice none 0 0] 37) ∧ Hid (OwnPR wr (ob + 1) v ((finP F c.rks A).take q)) ∧ Hid (Ext w9 wr)) (fun _ i _ => A.length - (intOf i).toNat)
    case atStart => exact ⟨0, .slice none 0 0, 0, Nat.zero_le _, rfl, rfl, HST0, HOA, Lib.hid (OwnPR.nil _ _), HXA⟩
    case round =>
     obtain ⟨q, v, kk, hq, rfl, rfl, HI, HOC, HOP, HXR⟩ := hrel
     have HQL := Lib.hid (show ((finP F c.rks A).take q).length = q by rw [List.length_take, finP_len]; omega)
     by_cases hqt : q < A.length
     · have HQT := Lib.hid hqt
       have HEN := Lib.hid (fun W (h : UsAt W _ A) => r12EndsS_any (.slice ua A.length uc) A q W h hqt)
       have HIL := Lib.hid (fun (h2 : kk < F.length) => HI.out.2 hqt h2)
       have HAN := Lib.hid (show ∀ h : q + 1 < A.length, uv A[q] < uv A[q + 1] from fun h => HAR.out.lt (Nat.lt_succ_self q) h)
       have hkk := HI.out.1
       have HFP := Lib.hid (fun (k : Nat) (hk : ivN F A[q] = k) (r : List Int) (hr : c.rks[k]? = some r) => finP_step (F := F) (rks := c.rks) hqt hk hr)
       have HPO := Lib.hid HOP.out
       clear HI
       generalize A[q] = lo at *
       generalize endV A q = hi at *
       go_upto_block 4 with (first
        | (go_at_call 24; (with_reducible refine (HEN.out _ (HU9.out.later HXR.out)).mono ?_); rintro e w5 ⟨he, hx5⟩; subst he; have HX5 := Lib.hid (HXR.out.trans hx5); have HOC5 := Lib.hid (HOC.out.later hx5); have HOP5 := Lib.hid (HOP.out.later hx5); clear hx5))
       go_cut [13] (fun s wc => (∃ kq : Nat, s = I kq ∧ Hid (kq < c.ps.length ∧ ivN F lo = kq ∧ ∀ h : kq < F.length, uv F[kq] ≤ uv lo)) ∧ Hid (Ext w5 wc))
       case first =>
        go_wp2_with fail
        go_loopw [13] (fun x wq => ∃ kk : Nat, kk < c.ps.length ∧ x = I kk ∧ Hid (∀ (h2 : kk < F.length), uv F[kk] ≤ uv lo) ∧ Hid (Ext w5 wq)) (fun x _ => c.ps.length - (intOf x).toNat)
        case atStart => exact ⟨kk, hkk, rfl, HIL, Lib.hid (Ext.refl _)⟩
        case round =>
         obtain ⟨k2, hk2, rfl, HI2, HY⟩ := hrel
         have HXW := Lib.hid (HX9.out.trans (HX5.out.trans HY.out))
         have hkc := (HK6.out.later HXW.out).cells
         by_cases h3 : k2 + 1 < c.ps.length
         · obtain ⟨b0, o0, rfl, q0, -, -⟩ := P3.out (k2 + 1) _ (List.getElem?_eq_getElem h3)
           replace q0 := HXW.out.cell q0
           have HN2 := Lib.hid (show ∀ h' : k2 + 1 < F.length, F[k2 + 1] = c.ps[k2 + 1].fr from fun h' => HFK.out (k2 + 1) h3 h')
           generalize c.ps[k2 + 1] = p at *
           by_cases h4 : uv p.fr ≤ uv lo
           · have hd4 : decide (uv p.fr ≤ uv lo) = true := decide_eq_true h4
             have H4 := Lib.hid h4
             have H3 := Lib.hid h3
             clear h4
             go_wp2_with fail
             go_roundw
             case rel => exact ⟨k2 + 1, H3.out, by go_num, Lib.hid (fun h2 => by rw [HN2.out h2]; exact H4.out), HY⟩
             case measure => have := H3.out; simp [intOf]; omega
           · have hd4 : decide (uv p.fr ≤ uv lo) = false := decide_eq_false h4
             have H4 := Lib.hid h4
             have HIV := Lib.hid (show ivN F lo = k2 from iv_stop HRS.out (by rw [← HPL.out]; exact hk2) (HI2.out (by rw [← HPL.out]; exact hk2)) (fun h => by rw [HN2.out h]; have := H4.out; omega))
             clear h4
             go_wp2_with fail
             go_meet
             case rel => exact ⟨⟨k2, rfl, Lib.hid ⟨hk2, HIV.out, HI2.out⟩⟩, HY⟩
         · have HIV := Lib.hid (show ivN F lo = k2 from iv_stop HRS.out (by rw [← HPL.out]; exact hk2) (HI2.out (by rw [← HPL.out]; exact hk2)) (fun h => by have := HPL.out; omega))
           go_wp2_with fail
           go_meet
           case rel => exact ⟨⟨k2, rfl, Lib.hid ⟨hk2, HIV.out, HI2.out⟩⟩, HY⟩
       case rest =>
        obtain ⟨⟨kq, rfl, HKQ⟩, HYC⟩ := hcut
        clear HIL hkk HEN
        have HXC := Lib.hid (HX5.out.trans HYC.out)
        have HXW := Lib.hid (HX9.out.trans HXC.out)
        have HOCC := Lib.hid (HOC5.out.later HYC.out)
        have HOPC := Lib.hid (HOP5.out.later HYC.out)
        have HKC := Lib.hid (HK6.out.later HXW.out)
        clear HOC5 HOP5 HOC HOP HPO
        have hkr : kq < c.rks.length := by rw [HRL.out, ← HPL.out]; exact HKQ.out.1
        obtain ⟨b0, o0, hb0, -, -, q2⟩ := P3.out kq _ (List.getElem?_eq_getElem HKQ.out.1)
        subst hb0
        have HQ2 := Lib.hid q2
        have HIR := Lib.hid ((HC6.out.rk kq _ _ (List.getElem?_eq_getElem HKQ.out.1) (List.getElem?_eq_getElem hkr)).later HXW.out)
        have HFQ := Lib.hid (HFP.out kq HKQ.out.2.1 c.rks[kq] (List.getElem?_eq_getElem hkr))
        have HRLN := Lib.hid (show c.rks[kq].length ≤ 256 by have h1 := ((HAI.out.facts HNM.out).rks _ (List.getElem_mem hkr)).1; have h2 := HNL.out; omega)
        have hkq := HKQ.out.1
        clear HFP q2
        generalize c.rks[kq] = r at *
        generalize hpq : c.ps[kq] = p at *
        clear hpq hkr
        obtain ⟨qp, hown, hql, hqs⟩ := HOPC.out
        obtain ⟨-, va, vcap, hva, -⟩ := Reads.of_own hown
        rw [HQL.out] at hva
        subst hva
        have HOWN := Lib.hid hown
        have HQPL := Lib.hid hql
        have HQS := Lib.hid hqs
        clear hown hql hqs HOPC
        go_upto_region 22 with fail
        refine wp_region_R (RB (ob + 1)) 16 rfl (by kernel_rfl) (by kernel_rfl) (fun wz hxz => ?_)
        have HZ := Lib.hid hxz
        have hsz : ob + 1 ≤ wz.heap.size := (HOCC.out.later hxz).lt
        have HSZ := Lib.hid hsz
        have g0 := RB.keep (p := ⟨ob, 1, none⟩) hsz (Nat.lt_succ_self ob) ((HOCC.out.later hxz).cells 1)
        have g1 := RB.keep (p := ⟨kb, 1, none⟩) hsz (Nat.lt_succ_of_lt HKO.out) ((HKC.out.later hxz).cells 1)
        have g2 := RB.keep hsz (Nat.lt_succ_of_lt (Nat.lt_of_lt_of_le (cell_ltB HQ2.out) (by rw [← HOB.out]; exact HX9.out.size))) (hxz.cell (HXW.out.cell HQ2.out))
        clear hxz hsz
        refine WRi_at 0 ?_
        iterate 4
         refine WRi_q (preRB _) rfl (by decide) (by kernel_rfl) rfl ?_; apply Exists.intro; refine ⟨fun w1 hx1 => ?_, ?_⟩
         · go_simp; try go_bits
           first | with_reducible rfl | rfl
         simp only [Act.put, List.setIfInBounds_toArray, List.set_cons_zero, List.set_cons_succ, Nat.reduceAdd]
        refine WRi_out ?_
        refine WRi_at 5 ?_
        iterate 6
         refine WRi_q (preRB _) rfl (by decide) (by kernel_rfl) rfl ?_; apply Exists.intro; refine ⟨fun w1 hx1 => ?_, ?_⟩
         · go_simp; try go_bits
           first | with_reducible rfl | rfl
         simp only [Act.put, List.setIfInBounds_toArray, List.set_cons_zero, List.set_cons_succ, Nat.reduceAdd]
        refine WRi_out ?_
        clear g0 g1 g2
        refine WR_one 4 rfl (by decide) (by kernel_rfl) rfl (fun K hK => ?_)
        go_simp
        refine hK _ _ (RB.ext ((Ext.refl _).alloc _)) ?_
        have HA1 := Lib.hid (show Ext wc (wz.alloc (.cells #[] 3)) from HZ.out.alloc _)
        have HO1 := Lib.hid (show OwnI (wz.alloc (.cells #[] 3)) wz.heap.size (.slice (some ⟨wz.heap.size, 0, none⟩) 0 0) [] from own_made wz 1 3 0 [] rfl (by unfold maxLen; omega))
        have HR1' := Lib.hid (HIR.out.later HA1.out)
        have HSZ1 := Lib.hid ((Ext.refl wz).alloc (.cells #[] 3)).size
        clear hK K
        refine WR_one 11 rfl (by decide) (by kernel_rfl) rfl (fun K hK => ?_)
        refine wp_of_list (ops := #[]) rfl ?_
        refine wpList_app rfl (.tmp 102) (.tmp 108) 35 rfl wz.heap.size 3 _ 1 8 Tryz.underlying35 infoInt rfl (by decide) (by decide) _ _ _ rfl HO1.out _ _ _ rfl HR1'.out (icells_one _) (by have := HRLN.out; simp; omega) HSZ1.out ?_
        intro v6 w6 ho6 hg6
        refine ⟨rfl, hK _ _ (RB.below (Nat.le_trans HSZ.out HSZ1.out) (Below.grown (Below.refl _ _) hg6 (Nat.le_trans HSZ.out HSZ1.out) fun q hq => Nat.le_trans HSZ.out (HO1.out.lt q hq).1)) ?_⟩
        have HXZ6 := Lib.hid (show Ext wz w6 from Ext.grown ((Ext.refl wz).alloc _) hg6 HO1.out (Nat.le_refl _))
        have HX6' := Lib.hid (HZ.out.trans HXZ6.out)
        have HO6 := Lib.hid (show OwnI w6 (ob + 1) v6 r from own_low (by have h : w6.ownsRow wz.heap.size 3 1 v6 (0 + r.length) (icells r) := ho6; rwa [Nat.zero_add] at h) HSZ.out)
        obtain ⟨ia, ic, hif, -⟩ := HO6.out.ints.form
        subst hif
        clear hK K ho6 hg6 HO1 HR1'
        simp only [Act.put, List.setIfInBounds_toArray, List.set_cons_zero, List.set_cons_succ]
        refine WR_q (preRB _) 12 rfl (by decide) (by kernel_rfl) rfl ?_; apply Exists.intro; refine ⟨fun w1 hx1 => ?_, ?_⟩
        · go_simp; try go_bits
          first | with_reducible rfl | rfl
        simp only [Act.put, List.setIfInBounds_toArray, List.set_cons_zero, List.set_cons_succ]
        refine WR_one 13 rfl (by decide) (by kernel_rfl) rfl (fun K hK => ?_)
        go_simp
        refine hK _ _ (RB.ext ((Ext.refl _).alloc _)) ?_
        have HA7 := Lib.hid (show Ext wc (w6.alloc (.cells #[U lo, U hi, .slice ia r.length ic] 61)) from HX6'.out.alloc _)
        have HPS := Lib.hid (Reads.made w6 3 61 1 (Prt.cells ⟨lo, hi, ia, r.length, ic⟩) rfl (by unfold maxLen; omega))
        have HOW7 := Lib.hid (own_later HOWN.out HA7.out)
        rw [HQL.out] at HOW7
        have HQS7 := Lib.hid (fun i q h => let ⟨p, g1, g2, g3, g4⟩ := HQS.out i q h; (⟨p, g1, g2, g3, g4.later HA7.out⟩ : ∃ p, qp[i]? = some p ∧ p.fr = q.fr ∧ p.up = q.up ∧ OwnI (w6.alloc (.cells #[U lo, U hi, .slice ia r.length ic] 61)) (ob + 1) p.rk q.rk))
        have HOI7 := Lib.hid (show OwnI (w6.alloc (.cells #[U lo, U hi, .slice ia r.length ic] 61)) (ob + 1) (.slice ia r.length ic) r from HO6.out.later ((Ext.refl w6).alloc _))
        have HOC7 := Lib.hid (HOCC.out.later HA7.out)
        have HSZ7 := Lib.hid (show ob + 1 ≤ (w6.alloc (.cells #[U lo, U hi, .slice ia r.length ic] 61)).heap.size from HOC7.out.lt)
        have HX97 := Lib.hid (HXC.out.trans HA7.out)
        clear hK K HOWN HQS HO6
        refine WR_one 14 rfl (by decide) (by kernel_rfl) rfl (fun K hK => ?_)
        refine wp_of_list (ops := #[]) rfl ?_
        refine wpList_app rfl (.tmp 99) (.tmp 111) 34 rfl (ob + 1) 61 _ 3 32 Tryz.underlying34 infoPart rfl (by decide) (by decide) _ _ _ rfl HOW7.out _ _ _ rfl HPS.out (fun q hq => pcells_one [⟨lo, hi, ia, r.length, ic⟩] q (by simpa [pcells] using hq)) (by omega) HSZ7.out ?_
        intro v9 w9' ho9 hg9
        refine ⟨rfl, hK _ _ (RB.below HSZ7.out (Below.grown (Below.refl _ _) hg9 HSZ7.out fun q hq => (HOW7.out.lt q hq).1)) ?_⟩
        have HP9 := Lib.hid (show OwnPR w9' (ob + 1) v9 ((finP F c.rks A).take (q + 1)) from by
         rw [HFQ.out]
         exact OwnPR.app (p := ⟨lo, hi, ia, r.length, ic⟩) (by rw [HQL.out]; exact HOW7.out) HQPL.out HQS7.out (by rw [HQL.out]; exact ho9) hg9 ⟨rfl, rfl, HOI7.out⟩)
        have HC9 := Lib.hid (blk_grownT HOC7.out HOW7.out (by decide) hg9)
        have HX9' := Lib.hid (Ext.grown HX97.out hg9 HOW7.out (by rw [HOB.out]; exact Nat.le_succ _))
        obtain ⟨xp, hx1, -, -⟩ := HP9.out
        obtain ⟨-, xa, xcap, hxv, -⟩ := Reads.of_own hx1
        rw [show ((finP F c.rks A).take (q + 1)).length = q + 1 by rw [List.length_take, finP_len]; have := HQT.out; omega] at hxv
        subst hxv
        clear hK K ho9 hg9 hx1 HOW7 HQS7
        simp only [Act.put, List.setIfInBounds_toArray, List.set_cons_zero, List.set_cons_succ]
        refine WR_q (preRB _) 15 rfl (by decide) (by kernel_rfl) rfl ?_; apply Exists.intro; refine ⟨fun w1 hx1 => ?_, ?_⟩
        · go_simp; try go_bits
          first | with_reducible rfl | rfl
        simp only [Act.put, List.setIfInBounds_toArray, List.set_cons_zero, List.set_cons_succ]
        have hpc := HC9.out.cells
        have hpf := HC9.out.frozen
        refine WR_done (by kernel_rfl) ?_
        (try simp only [List.drop_succ_cons, List.drop_zero])
        go_wp2_with fail
        go_roundw
        case rel =>
         refine ⟨q + 1, _, kq, Nat.succ_le_of_lt HQT.out, by go_num, rfl, Lib.hid ⟨hkq, fun h h2 => ?_⟩, Lib.hid (HC9.out.set 1 _), Lib.hid (HP9.out.setCell (Nat.lt_succ_self ob) _), Lib.hid (HX9'.out.setCell (Nat.le_of_eq HOB.out) _)⟩
         have h3 := HKQ.out.2.2 h2
         have h4 := HAN.out h
         omega
        case measure => have := HQT.out; simp [intOf]; omega
     · have HQE := Lib.hid (show q = A.length by omega)
       have hop := HOP.out
       rw [show (finP F c.rks A).take q = finP F c.rks A from List.take_of_length_le (by rw [finP_len]; omega)] at hop
       obtain ⟨ps, hcd, hfd⟩ := finP_finer hop (fun i a ha => by
        rw [HRL.out]
        exact (iv_is HRS.out HZR.out a).1)
       have HCD := Lib.hid hcd
       have hdl : ps.length = A.length := hfd.len
       have HDL := Lib.hid hdl
       obtain ⟨pv, pvc, hpv, -⟩ := hcd.parts.form
       have hpv' : v = .slice pv ps.length pvc := hpv
       rw [hdl] at hpv'
       subst hpv'
       obtain ⟨hmay, hans⟩ := HFN.out A _ HAR.out HAZ.out HSB.out (by have := HAL.out; omega) hfd
       have hsame := HFS.out A _ HAR.out HSB.out hfd
       clear hop hcd hfd hpv hdl
       have HXW := Lib.hid (HX9.out.trans HXR.out)
       have HBW := Lib.hid (HB6.out.later HXW.out)
       have HKW := Lib.hid (HK6.out.later HXW.out)
       have HCW := Lib.hid (HC6.out.later HXW.out)
       have HFW := Lib.hid (HF6.out.later HXW.out)
       obtain ⟨be, hbe⟩ : ∃ be, ((A.length : Int) == (c.ps.length : Int)) = be := ⟨_, rfl⟩
       have hbn : (A.length == c.ps.length) = be := by
        rw [← hbe, Bool.eq_iff_iff]
        simp only [beq_iff_eq]
        omega
       have HSM := Lib.hid (show ∀ b : Bool, (b = true ↔ CrtEq c ⟨1, ps, (finP F c.rks A).map PrtV.rk, 0#32, []⟩) → b = be from fun b hb => by
        rw [← hbn, Bool.eq_iff_iff, hb, ← hsame, beq_iff_eq]
        show ps.length = c.ps.length ↔ _
        rw [show ps.length = A.length from HDL.out])
       have HAN1 := Lib.hid hans
       clear hmay hans hsame
       have HSAME := Lib.hid (fun W (h : Ext wr W) => (certSame_any (.slice pa c.ps.length pc) (.slice ta c.tr.length tc) (.slice pv A.length pvc) (.slice none 0 0) c ⟨1, ps, (finP F c.rks A).map PrtV.rk, 0#32, []⟩ W (HCW.out.later h) (HCD.out.later h)).mono (R' := fun e w' => e = .returned (.bool be) ∧ Ext W w') (by
        rintro e w' ⟨⟨b, he, hb⟩, hx⟩
        rw [HSM.out b hb] at he
        exact ⟨he, hx⟩))
       have HND := Lib.hid (fun W (h : Ext wr W) => (checkNet_any (.slice va N.length vcap) (.slice pv A.length pvc) (.slice none 0 0) N ⟨1, ps, (finP F c.rks A).map PrtV.rk, 0#32, []⟩ (cutL N) W (HFW.out.later h) HNO.out HNZ0.out (cutL_is N) (HCD.out.later h) (fun x hx => by cases hx)).mono (R' := fun e w' => e = .returned (.agg #[I 1, I 0]) ∧ Ext W w') (by
        rintro e w' ⟨he, hx⟩
        rw [HAN1.out] at he
        exact ⟨he, hx⟩))
       have hbk := HBW.out.keep
       have hck := HKW.out.keep
       have hok := HOC.out.keep
       have hgt : decide ((0 : Int) < (c.ps.length : Int)) = true := decide_eq_true (by have := HF0.out; omega)
       have hgn : decide (0 < c.ps.length) = true := decide_eq_true HF0.out
       have hqx : ¬ q < A.length := hqt
       go_upto_region 23 with fail
       refine wp_region_E 24 rfl (by kernel_rfl) (by kernel_rfl) ?_
       refine WEi_at 0 ?_
       iterate 7
        refine WEi_q rfl (by decide) (by kernel_rfl) rfl ?_; apply Exists.intro; refine ⟨fun w1 hx1 => ?_, ?_⟩
        · have hq1 := hx1.cells; go_simp; try go_bits
          first | with_reducible rfl
        simp only [Act.put, List.setIfInBounds_toArray, List.set_cons_zero, List.set_cons_succ, Nat.reduceAdd]
       refine WEi_out ?_
       refine WE_q 7 rfl (by decide) (by kernel_rfl) rfl ?_; apply Exists.intro; refine ⟨fun w1 hx1 => ?_, ?_⟩
       · have hq1 := hx1.cells; go_simp; try go_bits
         first | with_reducible rfl | ((refine (HND.out _ hx1).mono ?_; rintro e w' ⟨rfl, hx⟩; exact ⟨rfl, hx⟩))
       simp only [Act.put, List.setIfInBounds_toArray, List.set_cons_zero, List.set_cons_succ]
       refine WEi_at 8 ?_
       iterate 13
        refine WEi_q rfl (by decide) (by kernel_rfl) rfl ?_; apply Exists.intro; refine ⟨fun w1 hx1 => ?_, ?_⟩
        · have hq1 := hx1.cells; go_simp; try go_bits
          first | with_reducible rfl
        simp only [Act.put, List.setIfInBounds_toArray, List.set_cons_zero, List.set_cons_succ, Nat.reduceAdd]
       refine WEi_out ?_
       refine WE_q 21 rfl (by decide) (by kernel_rfl) rfl ?_; apply Exists.intro; refine ⟨fun w1 hx1 => ?_, ?_⟩
       · have hq1 := hx1.cells; go_simp; try go_bits
         first | with_reducible rfl | ((refine (HSAME.out _ hx1).mono ?_; rintro e w' ⟨rfl, hx⟩; exact ⟨rfl, hx⟩))
       simp only [Act.put, List.setIfInBounds_toArray, List.set_cons_zero, List.set_cons_succ]
       refine WEi_at 22 ?_
       iterate 2
        refine WEi_q rfl (by decide) (by kernel_rfl) rfl ?_; apply Exists.intro; refine ⟨fun w1 hx1 => ?_, ?_⟩
        · have hq1 := hx1.cells; go_simp; try go_bits
          first | with_reducible rfl
        simp only [Act.put, List.setIfInBounds_toArray, List.set_cons_zero, List.set_cons_succ, Nat.reduceAdd]
       refine WEi_out ?_
       refine WE_done (by kernel_rfl) (fun wf hxf => ?_)
       (try simp only [List.drop_succ_cons, List.drop_zero])
       have HXX := Lib.hid (HX4.out.trans (HX6.out.trans (HXW.out.trans hxf)))
       clear hbk hck hok hxf
       go_wp2_with fail
       go_ret
       exact ⟨rfl, HXX.out⟩
end Go.Proofs.YtdpmnldmbnpfpaaGreat
