/- The law ToolExplains, by the program. Conditions: the library's table of powers of ten, and the table of words, read as they are laid. -/
import Derived.Test.YtdpmnldmbnpfpaaDoorHasW
import Derived.Test.YtdpmnldmbnpfpaaDoorGSnd
import Derived.Test.YtdpmnldmbnpfpaaDoorGNetP
namespace Go.Proofs.YtdpmnldmbnpfpaaDoor
open Go Go.RowKit Go.Maps Go.Proofs

/-- A row of texts that is not empty: where it lies. -/
theorem OwnS.place {w : World} {B : Nat} {v : Value} {L : List (List UInt8)} (h : OwnS w B v L) (hn : 0 < L.length) : ∃ g c, v = .slice (some ⟨g, 0, none⟩) L.length c ∧ ∀ k T, L[k]? = some T → w.cell? ⟨g, k, none⟩ = some (S T) := by
  obtain ⟨h0, h1⟩ := h
  rcases h1 with ⟨-, h1⟩ | ⟨g, cap, cur, h1, h2, h3, h4, h5, h6, h7⟩
  · omega
  · subst h1
    refine ⟨g, cap, rfl, fun k T hk => ?_⟩
    have hkl := (List.getElem?_eq_some_iff.1 hk).1
    have hj : (L.map S)[k]? = some (S T) := by rw [List.getElem?_map, hk]; rfl
    rw [← h7, List.getElem?_take_of_lt (by omega)] at hj
    simpa [World.cell?, h3] using hj
/-- What the texts of two addresses at a node tell. -/
structure SayIs (l : List Rul) (a b : BitVec 32) (bq br oa ob go dn dl : Bool) : Prop where
  eq : bq = (br && (oa == ob))
  rl : decide (resR (findL l a) = resR (findL l b)) = br
  ia : (findL l a).isSome = oa
  ib : (findL l b).isSome = ob
  tx : bq = true ↔ explT l a = explT l b
  da : (!oa) = true ↔ explT l a = [45]
  st : (stepO l a).isSome = go
  nx : go = true ↔ nextT <:+: explT l a
  dr : dn = true ↔ dropT <:+: explT l a
  de : dl = true ↔ delivT <:+: explT l a
  ac : oa = true → ((resR (findL l a)).act == 3) = dn ∧ ((resR (findL l a)).act == 2) = dl
theorem resR_inj {l : List Rul} {a b : BitVec 32} : findL l a = findL l b ↔ resR (findL l a) = resR (findL l b) ∧ (findL l a).isSome = (findL l b).isSome := by
  constructor
  · intro h; rw [h]; exact ⟨rfl, rfl⟩
  · rintro ⟨h1, h2⟩
    cases h3 : findL l a with
    | none =>
      rw [h3] at h2
      cases h4 : findL l b with
      | none => rfl
      | some s => rw [h4] at h2; cases h2
    | some r =>
      rw [h3] at h2 h1
      cases h4 : findL l b with
      | none => rw [h4] at h2; cases h2
      | some s => rw [h4] at h1; exact congrArg some h1
theorem say_is {l : List Rul} (a b : BitVec 32) {n : Int} (hm : ∀ r ∈ l, ruleMayV r n = 0) : ∃ bq br oa ob go dn dl, SayIs l a b bq br oa ob go dn dl := by
  refine ⟨decide (resR (findL l a) = resR (findL l b)) && ((findL l a).isSome == (findL l b).isSome), _, _, _, _, decide (∃ r, findL l a = some r ∧ r.act = 3), decide (∃ r, findL l a = some r ∧ r.act = 2), rfl, rfl, rfl, rfl, ?_, ?_, rfl, ?_, ?_, ?_, ?_⟩
  · rw [explT_eq hm, resR_inj]; simp
  · rw [explT_dash]; simp
  · rw [explT_next hm]
    unfold stepO
    cases findL l a with
    | none => simp
    | some r => by_cases g : r.act = 1 <;> simp [g]
  · rw [explT_drop hm]; simp
  · rw [explT_deliv hm]; simp
  · intro h
    cases hf : findL l a with
    | none => rw [hf] at h; cases h
    | some r =>
      refine ⟨?_, ?_⟩
      · by_cases g : r.act = 3 <;> simp [resR, g]
      · by_cases g : r.act = 2 <;> simp [resR, g]
theorem explT_len {l : List Rul} {a : BitVec 32} {n : Nat} (hn : n ≤ 256) (hm : ∀ r ∈ l, ruleMayV r n = 0) : (explT l a).length ≤ 1000 := by
  unfold explT
  cases h : findL l a with
  | none => simp
  | some r =>
    have hr := rul_act (hm r (findL_mem h))
    have h1 := prefL_len r.pa.toNat hr.2.1
    show (saidL r).length ≤ 1000
    unfold saidL
    rw [List.length_append, List.length_append, List.length_append]
    rcases hr.1 with ha | ha | ha
    · have hx := hr.2.2 ha
      have h2 := Lib.itoa_length_le r.nx (by omega) (by omega)
      rw [ha, if_pos rfl]
      have e : (wordL.getD (1 : Int).toNat []).length = 4 := rfl
      rw [e, List.length_cons]
      simp
      omega
    · rw [ha, if_neg (by decide)]
      have e : (wordL.getD (2 : Int).toNat []).length = 7 := rfl
      rw [e]; simp; omega
    · rw [ha, if_neg (by decide)]
      have e : (wordL.getD (3 : Int).toNat []).length = 4 := rfl
      rw [e]; simp; omega
set_option maxHeartbeats 8000000 in
set_option maxRecDepth 100000 in
theorem toolExplains_any (lv : Value) (ls : List (List Rul)) (a b : BitVec 32) (w : World) (hl : TablesAt w lv ls) (hok : TablesOk ls) (ht : Tab10 w) (hw : Words w) :
    Calls Tryd.prog 3 #[.agg #[lv], U a, U b] w fun e w' => e = .returned (.bool true) ∧ Ext w w' := by
  have HTT := Lib.hid ht
  have HWW := Lib.hid hw
  have HL := Lib.hid hl
  have HOK := Lib.hid hok
  obtain ⟨ad, cap, hlv, a1, a2, a3⟩ := hl.form
  subst hlv
  clear a3 hl hok ht hw
  unfold maxLen at a2
  go_enter Tryd.func3, Tryd.ntmps3
  go_upto_region 1 with (fail)
  refine hideW (Φ := fun W => Code.wp _ _ _ _ W) (fun W => Ext w W ∧ Blk W w.heap.size [.slice ad ls.length cap] 24)
    ⟨by (repeat with_reducible first | exact Ext.refl _ | assumption | refine Ext.alloc ?_ _ | refine Ext.drew ?_ | refine Ext.drewN ?_ _ | (refine Ext.setCellP ?_ ?_; focus (first | (simp; done) | (simp; omega) | omega))), (Blk.new w [.slice ad ls.length cap] 24)⟩ (fun W1 hW1 => ?_)
  obtain ⟨hx1, hb1⟩ := hW1
  have HX1 := Lib.hid hx1
  have HB1 := Lib.hid hb1
  clear hx1 hb1
  generalize w.heap.size = nb at *
  have HSH := Lib.hid (shownTool_any W1 (HTT.out.later HX1.out) (HWW.out.later HX1.out))
  go_upto_region 2 with (first
    | (go_at_call 4; (with_reducible refine HSH.out.mono ?_); rintro e w2 ⟨rfl, hx2⟩; have HX2 := Lib.hid (HX1.out.trans hx2); have HB2 := Lib.hid (HB1.out.later hx2); clear hx2))
  have hbc2 := HB2.out.cells
  have HNM := Lib.hid (fitN_may ls)
  have HNO := Lib.hid (fitN_ok ls)
  have hN := fitN_bd ls
  go_upto_region 3 with (first
    | (go_at_call 5; (with_reducible refine (r09Fit_any _ ls _ (HL.out.later HX2.out) HOK.out).mono ?_); rintro e w3 ⟨v3, he, hF, hx3⟩; subst he; have HF3 := Lib.hid hF.tables; obtain ⟨va, vcap, hv3, q1, q2, q3⟩ := HF3.out.form; subst hv3; clear q3; have HX3 := Lib.hid (HX2.out.trans hx3); clear hF hx3))
  generalize fitN ls = N at *
  clear hbc2 HB2 HB1
  unfold maxLen at q2
  refine hideW (Φ := fun W => Code.wp _ _ _ _ W) (fun W => Ext w3 W ∧ Blk W w3.heap.size [.slice va N.length vcap] 24)
    ⟨by (repeat with_reducible first | exact Ext.refl _ | assumption | refine Ext.alloc ?_ _ | refine Ext.drew ?_ | refine Ext.drewN ?_ _ | (refine Ext.setCellP ?_ ?_; focus (first | (simp; done) | (simp; omega) | omega))), Blk.new w3 [.slice va N.length vcap] 24⟩ (fun W4 hW4 => ?_)
  obtain ⟨hx4, hb4⟩ := hW4
  have HX4 := Lib.hid (HX3.out.trans hx4)
  have HF4 := Lib.hid (HF3.out.later hx4)
  have HB4 := Lib.hid hb4
  have hbc4 := hb4.cells
  clear hx4 hb4 HF3 HX3 HX1 HX2 HSH
  generalize w3.heap.size = fb at *
  have HTN := Lib.hid (netTake_put HNM.out)
  have HLN := Lib.hid (netB_len HNM.out)
  have HNL := Lib.hid (netMay_tabs HNM.out).1
  have HRU := Lib.hid (net_rules HNM.out)
  have HPN := Lib.hid (netfilePut_any _ N W4 HF4.out HNO.out HNM.out)
  generalize netPut N = FN at *
  go_upto_region 4 with (first
    | (go_at_call 6; (with_reducible refine HPN.out.mono ?_); rintro e w5 ⟨u5, he, ho, hx⟩; obtain ⟨ua, uc, hue⟩ := ho.form; subst hue; subst he; have HX5 := Lib.hid hx; have HP5 := Lib.hid ho.bs; clear hx ho hbc4))
  have HE1 := Lib.hid (fun W (h : Ext w5 W) => toolExplain_any _ FN a W (HP5.out.later h) HLN.out (HTT.out.later (HX4.out.trans (HX5.out.trans h))) (HWW.out.later (HX4.out.trans (HX5.out.trans h))))
  have HE2 := Lib.hid (fun W (h : Ext w5 W) => toolExplain_any _ FN b W (HP5.out.later h) HLN.out (HTT.out.later (HX4.out.trans (HX5.out.trans h))) (HWW.out.later (HX4.out.trans (HX5.out.trans h))))
  have HM1 := Lib.hid (show (N.map fun t => explT t a).length = N.length from List.length_map _)
  have HM2 := Lib.hid (show (N.map fun t => explT t b).length = N.length from List.length_map _)
  have HG1 := Lib.hid (show ∀ k (h : k < N.length), (N.map fun t => explT t a)[k]? = some (explT N[k] a) from fun k h => by rw [List.getElem?_map, List.getElem?_eq_getElem h]; rfl)
  have HG2 := Lib.hid (show ∀ k (h : k < N.length), (N.map fun t => explT t b)[k]? = some (explT N[k] b) from fun k h => by rw [List.getElem?_map, List.getElem?_eq_getElem h]; rfl)
  go_upto_region 5 with (first
    | (go_at_call 7; (with_reducible refine (HE1.out _ (Ext.refl _)).mono ?_); rintro e w6 ⟨h1, hx⟩; rw [HTN.out] at h1; obtain ⟨u6, he, ho⟩ := h1; obtain ⟨g1, gc1, hue, hcl⟩ := ho.place (by rw [HM1.out]; omega); rw [HM1.out] at hue; subst hue; subst he; have HX6 := Lib.hid hx; have HC6 := Lib.hid hcl; clear hx ho hcl))
  go_upto_region 6 with (first
    | (go_at_call 7; (with_reducible refine (HE2.out _ HX6.out).mono ?_); rintro e w7 ⟨h1, hx⟩; rw [HTN.out] at h1; obtain ⟨u7, he, ho⟩ := h1; obtain ⟨g2, gc2, hue, hcl⟩ := ho.place (by rw [HM2.out]; omega); rw [HM2.out] at hue; subst hue; subst he; have HX7 := Lib.hid (HX5.out.trans (HX6.out.trans hx)); have HC7 := Lib.hid hcl; have HD7 := Lib.hid (fun k T h => hx.cell (HC6.out k T h)); clear hx ho hcl))
  have hbc := (HB4.out.later HX7.out).cells
  go_upto_region 8 with fail
  clear hbc
  have HF7 := Lib.hid (HF4.out.later HX7.out)
  have HB7 := Lib.hid (HB4.out.later HX7.out)
  obtain ⟨va', vc', hve, -, -, hvf⟩ := HF7.out.form
  cases hve
  have HVF := Lib.hid hvf
  clear hvf
  go_wp2_with fail
  go_loopw [15] (fun i wr => ∃ (k : Nat), k ≤ N.length ∧ i = I k ∧ Hid (Ext w7 wr)) (fun i _ => N.length - (intOf i).toNat)
  case atStart => exact ⟨0, Nat.zero_le _, rfl, Lib.hid (Ext.refl _)⟩
  case round =>
    obtain ⟨k, hk, rfl, HX⟩ := hrel
    by_cases hlt : k < N.length
    · have HLT := Lib.hid hlt
      have HKR := Lib.hid (HRU.out N[k] (List.getElem_mem hlt))
      have HC1 := Lib.hid (show ∀ W, Ext w7 W → W.cell? ⟨g1, k, none⟩ = some (S (explT N[k] a)) from fun W h => h.cell (HD7.out k _ (HG1.out k hlt)))
      have HC2 := Lib.hid (show ∀ W, Ext w7 W → W.cell? ⟨g2, k, none⟩ = some (S (explT N[k] b)) from fun W h => h.cell (HC7.out k _ (HG2.out k hlt)))
      obtain ⟨tb, tof, tx, hva, htc, htr⟩ := HVF.out k _ (List.getElem?_eq_getElem hlt)
      subst hva
      have HTR := Lib.hid htr
      have HTC := Lib.hid (show ∀ W, Ext w7 W → W.cell? ⟨tb, tof + k, none⟩ = some tx from fun W h => h.cell htc)
      obtain ⟨xa, xc, htx, -⟩ := htr.form
      subst htx
      have HKO := Lib.hid (HNO.out.at hlt)
      have HFI := Lib.hid (fun c W (h : Ext w7 W) => tableFind_any _ N[k] c W (HTR.out.later h) HKO.out)
      have HNX := Lib.hid (fun W (h : Ext w7 W) => tableNext_any _ N[k] a W (HTR.out.later h) HKO.out)
      obtain ⟨bq, br, oa, ob, go, dn, dl, hsay⟩ := say_is a b HKR.out
      have HSAY := Lib.hid hsay
      have HT1 := Lib.hid (explT_len (a := a) HNL.out HKR.out)
      have HT2 := Lib.hid (explT_len (a := b) HNL.out HKR.out)
      clear htc htr hsay HG1 HG2
      generalize N[k] = t at *
      have hbq : (explT t a == explT t b) = bq := l_beq HSAY.out.tx
      have hbd : (explT t a == [45]) = !oa := l_beq HSAY.out.da
      have hbr := HSAY.out.rl
      have hia := HSAY.out.ia
      have hib := HSAY.out.ib
      have HHN := Lib.hid (show ∀ W, Calls Tryd.prog 10 #[S (explT t a), S nextT] W fun e w' => e = .returned (.bool go) ∧ W = w' from fun W => (has_any _ nextT W HT1.out (by decide)).mono fun e w' ⟨⟨c, he, hc⟩, hw⟩ => ⟨by rw [he, Bool.eq_iff_iff.2 (hc.trans HSAY.out.nx.symm)], hw⟩)
      have HHD := Lib.hid (show ∀ W, Calls Tryd.prog 10 #[S (explT t a), S dropT] W fun e w' => e = .returned (.bool dn) ∧ W = w' from fun W => (has_any _ dropT W HT1.out (by decide)).mono fun e w' ⟨⟨c, he, hc⟩, hw⟩ => ⟨by rw [he, Bool.eq_iff_iff.2 (hc.trans HSAY.out.dr.symm)], hw⟩)
      have HHL := Lib.hid (show ∀ W, Calls Tryd.prog 10 #[S (explT t a), S delivT] W fun e w' => e = .returned (.bool dl) ∧ W = w' from fun W => (has_any _ delivT W HT1.out (by decide)).mono fun e w' ⟨⟨c, he, hc⟩, hw⟩ => ⟨by rw [he, Bool.eq_iff_iff.2 (hc.trans HSAY.out.de.symm)], hw⟩)
      have hac := HSAY.out.ac
      have hst := HSAY.out.st
      have hxs : (stepV (stepO t a)) = .tuple #[I ((stepO t a).getD 0), .bool go] := by rw [← hst]
      rw [HSAY.out.eq] at hbq
      have HF1 := Lib.hid (show foundV (findL t a) = .tuple #[(resR (findL t a)).val, .bool oa] by rw [← hia])
      have HF2 := Lib.hid (show foundV (findL t b) = .tuple #[(resR (findL t b)).val, .bool ob] by rw [← hib])
      have HXS := Lib.hid hxs
      clear hia hib hst hxs HSAY HT1 HT2
      generalize explT t a = T1 at *
      generalize explT t b = T2 at *
      generalize resR (findL t a) = r1 at *
      generalize resR (findL t b) = r2 at *
      generalize (stepO t a).getD 0 = sx at *
      have hbw := (HB7.out.later HX.out).cells
      have htc := HTC.out _ HX.out
      go_upto_region 12 with (first
        | (go_at_call 8; (with_reducible refine (HFI.out a _ HX.out).mono ?_); rintro e w8 ⟨he, hx⟩; rw [HF1.out] at he; subst he; have HX8 := Lib.hid (HX.out.trans hx); clear hx hbw htc))
      refine hideW (Φ := fun W => Code.wp _ _ _ _ W) (fun W => Ext w8 W ∧ Blk W w8.heap.size [U r1.pa, I r1.pl, I r1.act, I r1.nx] 36) ⟨by (repeat with_reducible first | exact Ext.refl _ | assumption | refine Ext.alloc ?_ _ | refine Ext.drew ?_ | refine Ext.drewN ?_ _ | (refine Ext.setCellP ?_ ?_; focus (first | (simp; done) | (simp; omega) | omega))), Blk.new w8 [U r1.pa, I r1.pl, I r1.act, I r1.nx] 36⟩ (fun W9 hW9 => ?_)
      obtain ⟨hx9, hb9⟩ := hW9
      have HX9 := Lib.hid (HX8.out.trans hx9)
      have HR9 := Lib.hid hb9
      clear hx9 hb9
      generalize w8.heap.size = rb at *
      have hbw := (HB7.out.later HX9.out).cells
      have htc := HTC.out _ HX9.out
      go_upto_region 13 with (first
        | (go_at_call 8; (with_reducible refine (HFI.out b _ HX9.out).mono ?_); rintro e wa ⟨he, hx⟩; rw [HF2.out] at he; subst he; have HXA := Lib.hid (HX9.out.trans hx); have HRA := Lib.hid (HR9.out.later hx); clear hx hbw htc))
      refine hideW (Φ := fun W => Code.wp _ _ _ _ W) (fun W => Ext wa W ∧ Blk W wa.heap.size [U r2.pa, I r2.pl, I r2.act, I r2.nx] 36) ⟨by (repeat with_reducible first | exact Ext.refl _ | assumption | refine Ext.alloc ?_ _ | refine Ext.drew ?_ | refine Ext.drewN ?_ _ | (refine Ext.setCellP ?_ ?_; focus (first | (simp; done) | (simp; omega) | omega))), Blk.new wa [U r2.pa, I r2.pl, I r2.act, I r2.nx] 36⟩ (fun WB hWB => ?_)
      obtain ⟨hxb, hbb⟩ := hWB
      have HXB := Lib.hid (HXA.out.trans hxb)
      have HRB := Lib.hid (HRA.out.later hxb)
      have HSB := Lib.hid hbb
      clear hxb hbb HRA HR9
      generalize wa.heap.size = sb at *
      have hk1 := fun W (h : Ext WB W) => HC1.out W (HXB.out.trans h)
      have hk2 := fun W (h : Ext WB W) => HC2.out W (HXB.out.trans h)
      have hr1 := HRB.out.keep
      have hr2 := HSB.out.keep
      have hlt' : k < N.length := HLT.out
      rcases br with _ | _
      focus
        rw [Bool.false_and] at hbq
        refine wp_region_E 27 rfl (by kernel_rfl) (by kernel_rfl) ?_
        refine WEi_at 0 ?_
        iterate 13
          refine WEi_q rfl (by decide) (by kernel_rfl) rfl ?_; apply Exists.intro; refine ⟨fun w1 hx1 => ?_, ?_⟩
          · have hq1 := hx1.cells; go_simp; try go_bits
            first | with_reducible rfl
          simp only [Act.put, List.setIfInBounds_toArray, List.set_cons_zero, List.set_cons_succ, Nat.reduceAdd]
        refine WEi_out ?_
        refine WEi_at 13 ?_
        iterate 3
          refine WEi_s rfl (by decide) (by kernel_rfl) rfl ?_
          simp only [Act.put, List.setIfInBounds_toArray, List.set_cons_zero, List.set_cons_succ, Nat.reduceAdd]
        refine WEi_out ?_
        refine WEi_at 16 ?_
        iterate 11
          refine WEi_q rfl (by decide) (by kernel_rfl) rfl ?_; apply Exists.intro; refine ⟨fun w1 hx1 => ?_, ?_⟩
          · have hq1 := hx1.cells; go_simp; try go_bits
            first | with_reducible rfl
          simp only [Act.put, List.setIfInBounds_toArray, List.set_cons_zero, List.set_cons_succ, Nat.reduceAdd]
        refine WEi_out ?_
        refine WE_done (by kernel_rfl) (fun wc hxc => ?_)
        (try simp only [List.drop_succ_cons, List.drop_zero])
        clear hk1 hk2 hr1 hr2 hbq hbd hbr
        go_upto_region 15 with fail
        refine hideW (Φ := fun W => Code.wp _ _ _ _ W) (fun W => Ext WB W) hxc (fun WC hWC => ?_)
        clear hxc
      rotate_left
      focus
        rw [Bool.true_and] at hbq
        refine wp_region_E 27 rfl (by kernel_rfl) (by kernel_rfl) ?_
        refine WEi_at 0 ?_
        iterate 27
          refine WEi_q rfl (by decide) (by kernel_rfl) rfl ?_; apply Exists.intro; refine ⟨fun w1 hx1 => ?_, ?_⟩
          · have hq1 := hx1.cells; go_simp; try go_bits
            first | with_reducible rfl
          simp only [Act.put, List.setIfInBounds_toArray, List.set_cons_zero, List.set_cons_succ, Nat.reduceAdd]
        refine WEi_out ?_
        refine WE_done (by kernel_rfl) (fun wc hxc => ?_)
        (try simp only [List.drop_succ_cons, List.drop_zero])
        clear hk1 hk2 hr1 hr2 hbq hbd hbr
        go_upto_region 15 with fail
        refine hideW (Φ := fun W => Code.wp _ _ _ _ W) (fun W => Ext WB W) hxc (fun WC hWC => ?_)
        clear hxc
      all_goals
        have HXC := Lib.hid (HXB.out.trans hWC)
        have HRC := Lib.hid (HRB.out.later hWC)
        clear hWC
        have hbw := (HB7.out.later HXC.out).cells
        have htc := HTC.out _ HXC.out
        go_upto_region 16 with (first
          | (go_at_call 9; (with_reducible refine (HNX.out _ HXC.out).mono ?_); rintro e wd ⟨he, hx⟩; rw [HXS.out] at he; subst he; have HXD := Lib.hid (HXC.out.trans hx); have HRD := Lib.hid (HRC.out.later hx); clear hx hbw htc))
        have hk1 := fun W (h : Ext wd W) => HC1.out W (HXD.out.trans h)
        have hr1 := HRD.out.keep
        rcases oa with _ | _
        focus
          refine wp_region_E 34 rfl (by kernel_rfl) (by kernel_rfl) ?_
          refine WEi_at 0 ?_
          iterate 5
            refine WEi_q rfl (by decide) (by kernel_rfl) rfl ?_; apply Exists.intro; refine ⟨fun w1 hx1 => ?_, ?_⟩
            · have hq1 := hx1.cells; go_simp; try go_bits
              first | with_reducible rfl
            simp only [Act.put, List.setIfInBounds_toArray, List.set_cons_zero, List.set_cons_succ, Nat.reduceAdd]
          refine WEi_out ?_
          refine WE_q 5 rfl (by decide) (by kernel_rfl) rfl ?_; apply Exists.intro; refine ⟨fun w1 hx1 => ?_, ?_⟩
          · have hq1 := hx1.cells; go_simp; try go_bits
            first | with_reducible rfl | ((refine (HHN.out _).mono ?_; rintro e w' ⟨rfl, rfl⟩; exact ⟨rfl, Ext.refl _⟩))
          simp only [Act.put, List.setIfInBounds_toArray, List.set_cons_zero, List.set_cons_succ]
          refine WEi_at 6 ?_
          iterate 4
            refine WEi_q rfl (by decide) (by kernel_rfl) rfl ?_; apply Exists.intro; refine ⟨fun w1 hx1 => ?_, ?_⟩
            · have hq1 := hx1.cells; go_simp; try go_bits
              first | with_reducible rfl
            simp only [Act.put, List.setIfInBounds_toArray, List.set_cons_zero, List.set_cons_succ, Nat.reduceAdd]
          refine WEi_out ?_
          refine WEi_at 10 ?_
          iterate 9
            refine WEi_s rfl (by decide) (by kernel_rfl) rfl ?_
            simp only [Act.put, List.setIfInBounds_toArray, List.set_cons_zero, List.set_cons_succ, Nat.reduceAdd]
          refine WEi_out ?_
          refine WEi_at 19 ?_
          iterate 5
            refine WEi_q rfl (by decide) (by kernel_rfl) rfl ?_; apply Exists.intro; refine ⟨fun w1 hx1 => ?_, ?_⟩
            · have hq1 := hx1.cells; go_simp; try go_bits
              first | with_reducible rfl
            simp only [Act.put, List.setIfInBounds_toArray, List.set_cons_zero, List.set_cons_succ, Nat.reduceAdd]
          refine WEi_out ?_
          refine WEi_at 24 ?_
          iterate 9
            refine WEi_s rfl (by decide) (by kernel_rfl) rfl ?_
            simp only [Act.put, List.setIfInBounds_toArray, List.set_cons_zero, List.set_cons_succ, Nat.reduceAdd]
          refine WEi_out ?_
          refine WE_q 33 rfl (by decide) (by kernel_rfl) rfl ?_; apply Exists.intro; refine ⟨fun w1 hx1 => ?_, ?_⟩
          · have hq1 := hx1.cells; go_simp; try go_bits
            first | with_reducible rfl
          simp only [Act.put, List.setIfInBounds_toArray, List.set_cons_zero, List.set_cons_succ]
          refine WE_done (by kernel_rfl) (fun we hxe => ?_)
          (try simp only [List.drop_succ_cons, List.drop_zero])
          clear hk1 hr1
          go_wp2_with fail
          go_roundw
          case rel => exact ⟨k + 1, HLT.out, by go_num, Lib.hid (HXD.out.trans hxe)⟩
          case measure => have := HLT.out; simp [intOf]; omega
        rotate_left
        focus
          obtain ⟨hac1, hac2⟩ := hac rfl
          refine wp_region_E 34 rfl (by kernel_rfl) (by kernel_rfl) ?_
          refine WEi_at 0 ?_
          iterate 5
            refine WEi_q rfl (by decide) (by kernel_rfl) rfl ?_; apply Exists.intro; refine ⟨fun w1 hx1 => ?_, ?_⟩
            · have hq1 := hx1.cells; go_simp; try go_bits
              first | with_reducible rfl
            simp only [Act.put, List.setIfInBounds_toArray, List.set_cons_zero, List.set_cons_succ, Nat.reduceAdd]
          refine WEi_out ?_
          refine WE_q 5 rfl (by decide) (by kernel_rfl) rfl ?_; apply Exists.intro; refine ⟨fun w1 hx1 => ?_, ?_⟩
          · have hq1 := hx1.cells; go_simp; try go_bits
            first | with_reducible rfl | ((refine (HHN.out _).mono ?_; rintro e w' ⟨rfl, rfl⟩; exact ⟨rfl, Ext.refl _⟩))
          simp only [Act.put, List.setIfInBounds_toArray, List.set_cons_zero, List.set_cons_succ]
          refine WEi_at 6 ?_
          iterate 11
            refine WEi_q rfl (by decide) (by kernel_rfl) rfl ?_; apply Exists.intro; refine ⟨fun w1 hx1 => ?_, ?_⟩
            · have hq1 := hx1.cells; go_simp; try go_bits
              first | with_reducible rfl
            simp only [Act.put, List.setIfInBounds_toArray, List.set_cons_zero, List.set_cons_succ, Nat.reduceAdd]
          refine WEi_out ?_
          refine WE_q 17 rfl (by decide) (by kernel_rfl) rfl ?_; apply Exists.intro; refine ⟨fun w1 hx1 => ?_, ?_⟩
          · have hq1 := hx1.cells; go_simp; try go_bits
            first | with_reducible rfl | ((refine (HHD.out _).mono ?_; rintro e w' ⟨rfl, rfl⟩; exact ⟨rfl, Ext.refl _⟩))
          simp only [Act.put, List.setIfInBounds_toArray, List.set_cons_zero, List.set_cons_succ]
          refine WEi_at 18 ?_
          iterate 13
            refine WEi_q rfl (by decide) (by kernel_rfl) rfl ?_; apply Exists.intro; refine ⟨fun w1 hx1 => ?_, ?_⟩
            · have hq1 := hx1.cells; go_simp; try go_bits
              first | with_reducible rfl
            simp only [Act.put, List.setIfInBounds_toArray, List.set_cons_zero, List.set_cons_succ, Nat.reduceAdd]
          refine WEi_out ?_
          refine WE_q 31 rfl (by decide) (by kernel_rfl) rfl ?_; apply Exists.intro; refine ⟨fun w1 hx1 => ?_, ?_⟩
          · have hq1 := hx1.cells; go_simp; try go_bits
            first | with_reducible rfl | ((refine (HHL.out _).mono ?_; rintro e w' ⟨rfl, rfl⟩; exact ⟨rfl, Ext.refl _⟩))
          simp only [Act.put, List.setIfInBounds_toArray, List.set_cons_zero, List.set_cons_succ]
          refine WEi_at 32 ?_
          iterate 2
            refine WEi_q rfl (by decide) (by kernel_rfl) rfl ?_; apply Exists.intro; refine ⟨fun w1 hx1 => ?_, ?_⟩
            · have hq1 := hx1.cells; go_simp; try go_bits
              first | with_reducible rfl
            simp only [Act.put, List.setIfInBounds_toArray, List.set_cons_zero, List.set_cons_succ, Nat.reduceAdd]
          refine WEi_out ?_
          refine WE_done (by kernel_rfl) (fun we hxe => ?_)
          (try simp only [List.drop_succ_cons, List.drop_zero])
          clear hk1 hr1 hac1 hac2
          go_wp2_with fail
          go_roundw
          case rel => exact ⟨k + 1, HLT.out, by go_num, Lib.hid (HXD.out.trans hxe)⟩
          case measure => have := HLT.out; simp [intOf]; omega
    · obtain rfl : k = N.length := by omega
      go_wp2_with fail
      go_ret
      exact ⟨rfl, HX4.out.trans (HX7.out.trans HX.out)⟩
end Go.Proofs.YtdpmnldmbnpfpaaDoor
