/- theseusref21.Net of any network. Conditions: whole numbers are within 64 bits. -/
import Derived.Test.YtfldjlibnjgdaaaGreatGAna
import Derived.Test.YtfldjlibnjgdaaaGreatR15L
import Derived.Test.YtfldjlibnjgdaaaGreatGFit17
namespace Go.Proofs.YtfldjlibnjgdaaaGreat
open Go Go.RowKit Go.Maps Go.Proofs

set_option maxHeartbeats 4000000 in
set_option maxRecDepth 100000 in
theorem r21Net_bad (lv : Value) (ls : List (List Rul)) (w : World) (hl : TablesAt w lv ls) (hok : TablesOk ls) (hs : sizeN ls ≤ 100000000) (hm : netMayV ls ≠ 0) :
    Calls Tryz.prog 8 #[.agg #[lv]] w fun e w' => e = .returned (.tuple #[.agg #[I 0, sNil, U 0#32, sNil], I (netMayV ls)]) ∧ Ext w w' := by
  have HL := Lib.hid hl
  have HOK := Lib.hid hok
  have HS := Lib.hid hs
  have HM := Lib.hid hm
  obtain ⟨ad, cap, rfl, a1, a2, a3⟩ := hl.form
  have hmd : (netMayV ls != 0) = true := by simpa using hm
  clear a3 hl hm hok hs
  unfold maxLen at a2
  go_enter Tryz.func8, Tryz.ntmps8
  go_upto_region 1 with (fail)
  refine hideW (Φ := fun W => Code.wp _ _ _ _ W) (fun W => Ext w W ∧ Blk W w.heap.size [.slice ad ls.length cap] 24 ∧ Blk W (w.heap.size + 1) [I 0, sNil, U 0#32, sNil] 30)
    ⟨by (repeat (first | with_reducible exact Ext.refl _ | with_reducible assumption | with_reducible refine Ext.alloc ?_ _ | with_reducible refine Ext.drew ?_ | with_reducible refine Ext.drewN ?_ _ | (with_reducible refine Ext.setCellP ?_ ?_; focus (first | (simp; done) | (simp; omega) | omega)))), (Blk.new w [.slice ad ls.length cap] 24).old _, Blk.newAt [I 0, sNil, U 0#32, sNil] (by simp)⟩ (fun W1 hW1 => ?_)
  obtain ⟨hx1, hb1, hr1⟩ := hW1
  have HX1 := Lib.hid hx1
  have hbc1 := hb1.cells
  have HR1 := Lib.hid hr1
  clear hr1 hx1 hb1
  have HRB := Lib.hid (show w.heap.size ≤ w.heap.size + 1 from Nat.le_succ _)
  generalize w.heap.size + 1 = rb at *
  go_upto_region 2 with (first
    | (go_at_call 22; (with_reducible refine (r16Of_bad _ ls _ (HL.out.later HX1.out) HOK.out HS.out HM.out).mono ?_); rintro e w2 ⟨he, hx2⟩; subst he; have HX2 := Lib.hid (HX1.out.trans hx2); have HR2 := Lib.hid (HR1.out.later hx2); clear hx2))
  clear hbc1
  refine hideW (Φ := fun W => Code.wp _ _ _ _ W) (fun W => Ext w W ∧ Blk W rb [I 0, sNil, U 0#32, sNil] 30)
    ⟨HX2.out.alloc _, HR2.out.old _⟩ (fun W3 hW3 => ?_)
  obtain ⟨hx3, hr3⟩ := hW3
  have HX3 := Lib.hid hx3
  have HR3 := Lib.hid hr3
  have hrc := hr3.cells
  have hrf := hr3.frozen
  clear hx3 hr3
  generalize hmv : netMayV ls = mv at *
  have HMV := Lib.hid hmv
  clear hmv
  go_wp2_with fail
  refine hideW (Φ := fun W => bodyPost _ _ _ _ _ W) (fun W => Ext w W ∧ Blk W rb [I 0, sNil, U 0#32, sNil] 30)
    ⟨?_, ?_⟩ (fun W4 hW4 => ?_)
  · refine Ext.setCell (Ext.setCell (Ext.setCell (Ext.setCell HX3.out ?_ _) ?_ _) ?_ _) ?_ _ <;> exact HRB.out
  · exact (((HR3.out.set 0 (I 0)).set 1 sNil).set 2 (U 0#32)).set 3 sNil
  obtain ⟨hx4, hr4⟩ := hW4
  have hc4 := hr4.cells
  refine bodyPost_ret (v := .tuple #[.agg #[I 0, sNil, U 0#32, sNil], I mv]) (by rw [results_cell_tmp rfl]; go_simp) rfl ?_
  exact ⟨by rw [HMV.out], hx4⟩

set_option maxHeartbeats 4000000 in
set_option maxRecDepth 100000 in
theorem r21Net_good (lv : Value) (ls : List (List Rul)) (w : World) (hl : TablesAt w lv ls) (hok : TablesOk ls) (hm : netMayV ls = 0) :
    Calls Tryz.prog 8 #[.agg #[lv]] w (ANetOut ls w) := by
  have HL := Lib.hid hl
  have HOK := Lib.hid hok
  have HM := Lib.hid hm
  have HNB := Lib.hid (netMay_tabs hm)
  obtain ⟨ad, cap, rfl, a1, a2, a3⟩ := hl.form
  clear a3 hl hm hok
  unfold maxLen at a2
  go_enter Tryz.func8, Tryz.ntmps8
  go_upto_region 1 with (fail)
  refine hideW (Φ := fun W => Code.wp _ _ _ _ W) (fun W => Ext w W ∧ Blk W w.heap.size [.slice ad ls.length cap] 24 ∧ Blk W (w.heap.size + 1) [I 0, sNil, U 0#32, sNil] 30)
    ⟨by (repeat (first | with_reducible exact Ext.refl _ | with_reducible assumption | with_reducible refine Ext.alloc ?_ _ | with_reducible refine Ext.drew ?_ | with_reducible refine Ext.drewN ?_ _ | (with_reducible refine Ext.setCellP ?_ ?_; focus (first | (simp; done) | (simp; omega) | omega)))), (Blk.new w [.slice ad ls.length cap] 24).old _, Blk.newAt [I 0, sNil, U 0#32, sNil] (by simp)⟩ (fun W1 hW1 => ?_)
  obtain ⟨hx1, hb1, hr1⟩ := hW1
  have HX1 := Lib.hid hx1
  have hbc1 := hb1.cells
  have HR1 := Lib.hid hr1
  clear hr1 hx1 hb1
  have HRB := Lib.hid (show w.heap.size ≤ w.heap.size + 1 from Nat.le_succ _)
  generalize w.heap.size + 1 = rb at *
  go_upto_region 2 with (first
    | (go_at_call 22; (with_reducible refine (r16Of_good _ ls _ (HL.out.later HX1.out) HOK.out HM.out).mono ?_); rintro e w2 ⟨fv, hv, vv, l, he, hC, hA, hx2⟩; subst he; have HC := Lib.hid hC; have HA2 := Lib.hid hA; obtain ⟨fa, fc, ha, hc, va, vc, hf1, hf2, hf3⟩ := hA.forms; subst hf1; subst hf2; subst hf3; have HX2 := Lib.hid (HX1.out.trans hx2); have HR2 := Lib.hid (HR1.out.later hx2); clear hx2 hC hA))
  clear hbc1
  have HIT := Lib.hid (atomsIt HC.out)
  have HFEW := Lib.hid (show (atomsL (vecV ls) l).fr.length ≤ 8193 from by
    have h1 := ats_few (vecV ls) l
    have h2 := HC.out.len
    rw [sizeN_flat] at h2
    have := HNB.out.2.1
    omega)
  generalize hse : atomsL (vecV ls) l = s at *
  have HSE := Lib.hid hse
  clear hse
  refine hideW (Φ := fun W => Code.wp _ _ _ _ W) (fun W => Ext w W ∧ Blk W rb [I 0, sNil, U 0#32, sNil] 30 ∧ Blk W w2.heap.size [.slice fa s.fr.length fc, .slice ha s.wh.length hc, .slice va s.vs.length vc] 65 ∧ AtomsAt W (.slice fa s.fr.length fc) (.slice ha s.wh.length hc) (.slice va s.vs.length vc) s)
    ⟨HX2.out.alloc _, HR2.out.old _, Blk.new w2 _ 65, HA2.out.later ((Ext.refl _).alloc _)⟩ (fun W3 hW3 => ?_)
  obtain ⟨hx3, hr3, hb3, ha3⟩ := hW3
  have HX3 := Lib.hid hx3
  have HR3 := Lib.hid hr3
  have HB3 := Lib.hid hb3
  have HA3 := Lib.hid ha3
  have hbc3 := hb3.cells
  clear hx3 hr3 hb3 ha3 HA2 HX2 HR2
  generalize w2.heap.size = xb at *
  have hwl8 : s.fr.length ≤ 8193 := HFEW.out
  have HRX := Lib.hid (show rb < W3.heap.size from HR3.out.lt)
  go_upto_region 5 with fail
  refine hideW (Φ := fun W => Code.wp _ _ _ _ W) (fun W => Ext W3 W ∧ Blk W W3.heap.size [I 1, sNil, U 0#32, sNil] 30)
    ⟨(Ext.refl _).alloc _, Blk.new W3 [I 1, sNil, U 0#32, sNil] 30⟩ (fun W6 hW6 => ?_)
  obtain ⟨hx6, hk6⟩ := hW6
  have HT6 := Lib.hid (show NtS W3 W6 W3.heap.size sNil [] [] from ⟨hx6, hk6, ⟨rfl, .inl ⟨rfl, rfl⟩⟩, rfl, fun i p r h1 h2 => by cases h1⟩)
  clear hx6 hk6 hbc3
  generalize hkb : W3.heap.size = kb at HT6 ⊢
  have HKE := Lib.hid hkb
  clear hkb
  go_wp2_with fail
  go_loopw [7] (fun i wr => ∃ (k : Nat) (pa : Option Addr) (pc : Nat) (ps : List Prt) (rs : List (List Int)), k ≤ s.fr.length ∧ i = I k ∧ ps.length = k ∧ Hid (NtS W3 wr kb (.slice pa k pc) ps rs) ∧
    Hid (∀ (j : Nat) (a : BitVec 32), j < k → s.fr[j]? = some a → (∀ x, ¬ OnL (vecV ls a) x) ∧ ∃ p r, ps[j]? = some p ∧ rs[j]? = some r ∧ p.fr = a ∧ p.up = endV s.fr j ∧ RanksIs (vecV ls a) r)) (fun i _ => s.fr.length - (intOf i).toNat)
  case atStart => exact ⟨0, none, 0, [], [], Nat.zero_le _, rfl, rfl, HT6.out, fun j a h => absurd h (Nat.not_lt_zero j)⟩
  case round =>
    obtain ⟨k, pa, pc, ps, rs, hk, rfl, hpl, HT, HPR⟩ := hrel
    have HPL := Lib.hid hpl
    clear hpl
    have HXT := Lib.hid HT.out.ext
    have hbc := (HB3.out.later HXT.out).cells
    by_cases hlt : k < s.fr.length
    · have hkd : decide ((k : Int) < (s.fr.length : Int)) = true := decide_eq_true (by omega)
      have HLT := Lib.hid hlt
      obtain ⟨q, hq1, hq2⟩ := HIT.out.inv.place k _ (List.getElem?_eq_getElem hlt)
      have hql := (List.getElem?_eq_some_iff.1 hq2).1
      have hwl : k < s.wh.length := (List.getElem?_eq_some_iff.1 hq1).1
      obtain ⟨ha', hc', hhe, -, -, hhf⟩ := HA3.out.wh.form
      obtain ⟨b1, o1, he1, hc1⟩ := hhf k _ hq1
      cases hhe
      subst he1
      obtain ⟨va', vc', hve, -, -, hvf⟩ := HA3.out.vs.form
      obtain ⟨b2, o2, x2, he2, hc2, hi2⟩ := hvf q _ hq2
      cases hve
      subst he2
      obtain ⟨ya, yc, rfl, -⟩ := hi2.form
      obtain ⟨fa', fc', hfe, -, -, hff⟩ := HA3.out.fr.form
      obtain ⟨b0, o0, he0, hc0⟩ := hff k _ (List.getElem?_eq_getElem hlt)
      cases hfe
      subst he0
      have HC0 := Lib.hid (HXT.out.cell hc0)
      have HI2 := Lib.hid (hi2.later HXT.out)
      have HSF := Lib.hid (List.getElem?_eq_getElem hlt)
      have HVO := Lib.hid (show VOk (vecV ls s.fr[k]) ∧ (vecV ls s.fr[k]).length ≤ 256 from ⟨vec_ok HM.out _, by rw [vecV_len]; exact HNB.out.1⟩)
      have HEN := Lib.hid (fun W hW => r12Ends_any (.slice (some ⟨b0, o0, none⟩) s.fr.length fc) s.fr k W hW hlt)
      replace hc1 := HXT.out.cell hc1
      replace hc2 := HXT.out.cell hc2
      clear hhf hvf hff hi2 hc0 hq1 hq2
      generalize hvv : vecV ls s.fr[k] = v at *
      have HVV := Lib.hid hvv
      clear hvv
      generalize s.fr[k] = a at *
      generalize hee : endV s.fr k = ee at *
      have HEE := Lib.hid hee
      clear hee
      have hqb : q < s.vs.length := hql
      go_upto_region 8 with fail
      clear hbc
      have kB := (HB3.out.later HXT.out).keep
      have k1 := Ext.keep hc1
      have k2 := Ext.keep hc2
      refine wp_region_E 9 rfl (by kernel_rfl) (by kernel_rfl) ?_
      refine WEi_at 0 ?_
      iterate 9
        refine WEi_q rfl (by decide) (by kernel_rfl) rfl ?_; apply Exists.intro; refine ⟨fun w1 hx1 => ?_, ?_⟩
        · have hq1 := hx1.cells; go_simp; try go_bits
          first | with_reducible rfl
        simp only [Act.put, List.setIfInBounds_toArray, List.set_cons_zero, List.set_cons_succ, Nat.reduceAdd]
      refine WEi_out ?_
      refine WE_done (by kernel_rfl) (fun w7 hx7 => ?_)
      (try simp only [List.drop_succ_cons, List.drop_zero])
      clear kB k1 k2 hc1 hc2
      have HT7 := Lib.hid (HT.out.later hx7)
      have HI7 := Lib.hid (HI2.out.later hx7)
      have HC7 := Lib.hid (hx7.cell HC0.out)
      clear hx7 HT HI2 HC0
      go_upto_region 10 with (first
        | (go_at_call 23; (with_reducible refine (r15Loop_any _ v _ HI7.out HVO.out.1 HVO.out.2).mono ?_); rintro e w8 ⟨u5, tr, he, hl5, ho5, hx5⟩; subst he; have HLI := Lib.hid hl5; have HO5 := Lib.hid ho5; obtain ⟨ta, tc, hte, -⟩ := ho5.ints.form; subst hte; have HT8 := Lib.hid (HT7.out.later hx5); have HC8 := Lib.hid (hx5.cell HC7.out); have HI8 := Lib.hid (HI7.out.later hx5); have HW78 := Lib.hid hx5; clear hl5 ho5 hx5))
      by_cases htr : tr = []
      · subst htr
        have HNO := Lib.hid (LoopIs.nil.1 HLI.out)
        clear HLI
        have hbc := (HB3.out.later HT8.out.ext).cells
        have HR15 := Lib.hid (show ∀ W, Ext w8 W → Calls Tryz.prog 25 #[.slice ya v.length yc] W fun e w' => ∃ (ra : Option Addr) (rc : Nat) (r : List Int), e = .returned (.tuple #[.slice ra r.length rc, I 0]) ∧ RanksIs v r ∧ OwnI w' W.heap.size (.slice ra r.length rc) r ∧ Ext W w' from fun W hW => by
          refine (r15Ranks_any _ v W (HI8.out.later hW) HVO.out.1 HVO.out.2).mono ?_
          rintro e w' (⟨u, r, he, h2, h3, h4⟩ | ⟨_, ⟨x, hx⟩, _⟩)
          · obtain ⟨ra, rc, rfl, -⟩ := h3.ints.form
            exact ⟨ra, rc, r, he, h2, h3, h4⟩
          · exact absurd hx (HNO.out x))
        go_upto_region 14 with (first
          | (go_at_call 24; refine (HEN.out _ (HA3.out.fr.later HT8.out.ext)).mono ?_; rintro e w9 ⟨he, hx9⟩; subst he; have HX9 := Lib.hid hx9; have HT9 := Lib.hid (HT8.out.later hx9); clear hx9)
          | (go_at_call 25; refine (HR15.out _ HX9.out).mono ?_; rintro e wA ⟨ra, rc, r, he, hrr, hoA, hxA⟩; subst he; have HRI := Lib.hid hrr; have HOA := Lib.hid hoA; have HTA := Lib.hid (HT9.out.later hxA); clear hrr hoA hxA))
        clear hbc
        have hkc := HTA.out.box.cells
        have HRN := Lib.hid (show r.length ≤ 1000000 by rw [HRI.out.1]; exact Nat.le_trans HVO.out.2 (by decide))
        have HXB := Lib.hid ((Ext.refl wA).alloc (.cells #[U a, U ee, .slice ra r.length rc] 64))
        have HTB := Lib.hid (HTA.out.later HXB.out)
        have HOB := Lib.hid (own_later (own_low HOA.out (show kb + 1 ≤ w9.heap.size from HT9.out.box.lt)) HXB.out)
        have HSB := Lib.hid (show Reads (wA.alloc (.cells #[U a, U ee, .slice ra r.length rc] 64)) 3 (.slice (some ⟨wA.heap.size, 0, none⟩) 1 1) 1 (Prt.cells ⟨a, ee, ra, r.length, rc⟩) from Reads.made wA 3 64 1 (Prt.cells ⟨a, ee, ra, r.length, rc⟩) rfl (by unfold maxLen; omega))
        have HPO := Lib.hid (show (wA.alloc (.cells #[U a, U ee, .slice ra r.length rc] 64)).ownsRow (kb + 1) 64 3 (.slice pa k pc) k (pcells ps) from by have h := HTB.out.own; unfold OwnP at h; rw [HPL.out] at h; exact h)
        have HSZ := Lib.hid (show kb + 1 ≤ (wA.alloc (.cells #[U a, U ee, .slice ra r.length rc] 64)).heap.size from HTB.out.box.lt)
        go_wp2_with (first
          | (at_builtin
             go_loud (
               refine wpList_app rfl (.tmp 71) (.tmp 76) 26 rfl (kb + 1) 64 _ 3 32 Tryz.underlying26 infoPart rfl (by decide) (by decide) _ _ _ rfl HPO.out _ _ _ rfl HSB.out (fun q hq => pcells_one [⟨a, ee, ra, r.length, rc⟩] q (by simpa [pcells] using hq)) (by omega) HSZ.out ?_
               intro vC wC hoC hgC
               obtain ⟨za, zc, hvC⟩ := own_form hoC
               subst hvC
               have HTC := Lib.hid (HTB.out.add (p := ⟨a, ee, ra, r.length, rc⟩) (Nat.le_of_eq HKE.out) HOB.out (by rw [HPL.out]; exact hoC) hgC)
               have hbC := blk_grown HTB.out.box (fun g e => by have := own_ge HPO.out g e; omega) hgC
               have hkc9 := hbC.cells
               have hkf9 := hbC.frozen
               clear hoC hgC hbC)))
        go_roundw
        case rel =>
          refine ⟨k + 1, za, zc, ps ++ [(⟨a, ee, ra, r.length, rc⟩ : Prt)], rs ++ [r], Nat.succ_le_of_lt HLT.out, by go_num, by rw [List.length_append, HPL.out]; rfl, HTC.out, fun j b hj hb => ?_⟩
          have hrsl : rs.length = k := by rw [HTA.out.len, HPL.out]
          have hpsl := HPL.out
          rcases Nat.lt_or_ge j k with g | g
          · obtain ⟨h0, p, t, h1, h2, h3, h4, h5⟩ := HPR.out j b g hb
            exact ⟨h0, p, t, by rw [List.getElem?_append_left (by omega)]; exact h1, by rw [List.getElem?_append_left (by omega)]; exact h2, h3, h4, h5⟩
          · obtain rfl : j = k := by omega
            rw [HSF.out] at hb
            cases hb
            refine ⟨by rw [HVV.out]; exact HNO.out, (⟨a, ee, ra, r.length, rc⟩ : Prt), r, ?_, ?_, rfl, HEE.out.symm, by rw [HVV.out]; exact HRI.out⟩
            · rw [List.getElem?_append_right (by omega), hpsl, Nat.sub_self]; rfl
            · rw [List.getElem?_append_right (by omega), hrsl, Nat.sub_self]; rfl
        case measure => have := HLT.out; simp [intOf]; omega
      · have htl : 0 < tr.length := List.length_pos_iff.2 htr
        have htd : decide ((0 : Int) < (tr.length : Int)) = true := decide_eq_true (by omega)
        have HTR := Lib.hid htr
        clear htr
        have HAL := Lib.hid (show AnaLoop ls s.fr k ⟨2, [], [], a, tr⟩ from ⟨HSF.out, fun j b hj hb => (HPR.out j b hj hb).1, by rw [show (Crt.mk 2 [] [] a tr).dest = a from rfl, HVV.out]; exact HLI.out, HTR.out, rfl, rfl, rfl⟩)
        have HRW := Lib.hid (HR3.out.later HT8.out.ext)
        have hrc := HRW.out.cells
        have hrf := HRW.out.frozen
        have hc8 := HC8.out
        have hbc := (HB3.out.later HT8.out.ext).cells
        have HRK7 := Lib.hid (show rb < w7.heap.size from Nat.lt_of_lt_of_le HRX.out HT7.out.ext.size)
        go_wp2_with fail
        refine hideW (Φ := fun W => bodyPost Tryz.prog Tryz.f8 (ANetOut ls w) _ _ W) (fun W => Ext w W ∧ Blk W rb [I 2, sNil, U a, .slice ta tr.length tc] 30 ∧ IntsAt W (.slice ta tr.length tc) tr)
          ⟨?_, ?_, ?_⟩ (fun W6 hW6 => ?_)
        · refine Ext.setCell (Ext.setCell (Ext.setCell (Ext.setCell (HX3.out.trans HT8.out.ext) ?_ _) ?_ _) ?_ _) ?_ _ <;> exact HRB.out
        · exact (((HRW.out.set 0 (I 2)).set 1 sNil).set 2 (U a)).set 3 (.slice ta tr.length tc)
        · have h0 := HRK7.out
          exact OwnI.ints (own_set (own_set (own_set (own_set HO5.out (p := ⟨rb, 0, none⟩) h0 _) (p := ⟨rb, 1, none⟩) h0 _) (p := ⟨rb, 2, none⟩) h0 _) (p := ⟨rb, 3, none⟩) h0 _)
        obtain ⟨hx6, hr6, ht6⟩ := hW6
        have hc6 := hr6.cells
        refine bodyPost_ret (v := .tuple #[.agg #[I 2, sNil, U a, .slice ta tr.length tc], I 0]) (by rw [results_cell_tmp rfl]; go_simp) rfl ?_
        refine ⟨sNil, .slice ta tr.length tc, ⟨2, [], [], a, tr⟩, rfl, ⟨parts_nil W6, rfl, fun i p r h1 h2 => (by cases h1), ht6⟩, ⟨l, HC.out, .inl ⟨k, ?_⟩⟩, hx6⟩
        rw [HSE.out]; exact HAL.out
    · have hkd : decide ((k : Int) < (s.fr.length : Int)) = false := decide_eq_false (by omega)
      have HKL := Lib.hid (show k = s.fr.length by omega)
      have HRW := Lib.hid ((HR3.out.later HXT.out))
      have hrc := HRW.out.cells
      have hrf := HRW.out.frozen
      have hkc := HT.out.box.cells
      have HRK2 := Lib.hid (show rb < kb from by rw [← HKE.out]; exact HRX.out)
      go_wp2_with fail

      refine hideW (Φ := fun W => bodyPost Tryz.prog Tryz.f8 (ANetOut ls w) _ _ W) (fun W => Ext w W ∧ Blk W rb [I 1, .slice pa k pc, U 0#32, sNil] 30 ∧ CertAt W (.slice pa k pc) sNil ⟨1, ps, rs, 0#32, []⟩)
        ⟨?_, ?_, ?_⟩ (fun W6 hW6 => ?_)
      · refine Ext.setCell (Ext.setCell (Ext.setCell (Ext.setCell (HX3.out.trans HXT.out) ?_ _) ?_ _) ?_ _) ?_ _ <;> exact HRB.out
      · exact (((HRW.out.set 0 (I 1)).set 1 (.slice pa k pc)).set 2 (U 0#32)).set 3 sNil
      · have h0 : rb < kb + 1 := Nat.lt_succ_of_lt HRK2.out
        have st : ∀ (W : World) (o : Nat) (x : Value), OwnP W (kb + 1) (.slice pa k pc) ps ∧ (∀ (i : Nat) (p : Prt) (r : List Int), ps[i]? = some p → rs[i]? = some r → OwnI W (kb + 1) p.rk r) →
            OwnP (W.setCell ⟨rb, o, none⟩ x) (kb + 1) (.slice pa k pc) ps ∧ (∀ (i : Nat) (p : Prt) (r : List Int), ps[i]? = some p → rs[i]? = some r → OwnI (W.setCell ⟨rb, o, none⟩ x) (kb + 1) p.rk r) :=
          fun W o x h => ⟨own_set h.1 h0 x, fun i p r h1 h2 => own_set (h.2 i p r h1 h2) h0 x⟩
        obtain ⟨g1, g2⟩ := st _ 3 sNil (st _ 2 (U 0#32) (st _ 1 (.slice pa k pc) (st _ 0 (I 1) ⟨HT.out.own, HT.out.rk⟩)))
        exact ⟨g1.parts, HT.out.len, fun i p r h1 h2 => (g2 i p r h1 h2).ints, Reads.nil _ 1⟩
      obtain ⟨hx6, hr6, ht6⟩ := hW6
      have hc6 := hr6.cells
      refine bodyPost_ret (v := .tuple #[.agg #[I 1, .slice pa k pc, U 0#32, sNil], I 0]) (by rw [results_cell_tmp rfl]; go_simp) rfl ?_
      refine ⟨.slice pa k pc, sNil, ⟨1, ps, rs, 0#32, []⟩, rfl, ht6, ⟨l, HC.out, .inr ?_⟩, hx6⟩
      rw [HSE.out]
      refine ⟨fun a ha x hx => ?_, rfl, rfl, rfl, by rw [← HKL.out]; exact HPL.out, by rw [← HKL.out]; exact HT.out.len.trans HPL.out, fun i a ha => (HPR.out i a (by rw [HKL.out]; exact (List.getElem?_eq_some_iff.1 ha).1) ha).2⟩
      obtain ⟨i, hi⟩ := List.getElem?_of_mem ha
      exact (HPR.out i a (by rw [HKL.out]; exact (List.getElem?_eq_some_iff.1 hi).1) hi).1 x hx
theorem r21Net_any (lv : Value) (ls : List (List Rul)) (w : World) (hl : TablesAt w lv ls) (hok : TablesOk ls) (hs : sizeN ls ≤ 100000000) :
    Calls Tryz.prog 8 #[.agg #[lv]] w fun e w' => ∃ pv tv c, e = .returned (.tuple #[.agg #[I c.vd, pv, U c.dest, tv], I (netMayV ls)]) ∧ CertAt w' pv tv c ∧ (netMayV ls = 0 ∧ AnaIs ls c ∨ netMayV ls ≠ 0 ∧ c = crt0) ∧ Ext w w' := by
  by_cases hm : netMayV ls = 0
  · refine (r21Net_good lv ls w hl hok hm).mono ?_
    rintro e w' ⟨pv, tv, c, he, hc, ha, hx⟩
    exact ⟨pv, tv, c, by rw [he, hm], hc, .inl ⟨hm, ha⟩, hx⟩
  · refine (r21Net_bad lv ls w hl hok hs hm).mono ?_
    rintro e w' ⟨he, hx⟩
    exact ⟨_, _, crt0, he, crt0_at _, .inr ⟨hm, rfl⟩, hx⟩
end Go.Proofs.YtfldjlibnjgdaaaGreat