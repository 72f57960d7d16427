/- The law AnalyzeHolds: the certificate of a network that may be is accepted; LoopFree just if no address goes round. Conditions: whole numbers are within 64 bits. -/
import Derived.Test.YtfldjlibnjgdaaaGreatGAna
import Derived.Test.YtfldjlibnjgdaaaGreatAnaH
import Derived.Test.YtfldjlibnjgdaaaGreatGNetP
import Derived.Test.YtfldjlibnjgdaaaGreatGIns
import Derived.Test.YtfldjlibnjgdaaaGreatGCert
namespace Go.Proofs.YtfldjlibnjgdaaaGreat
open Go Go.RowKit Go.Maps Go.Proofs

/-- The first cut so far at which an address goes round. -/
def FirstR (ls : List (List Rul)) (l : List (BitVec 32)) (k : Nat) (f : Int) : Prop :=
  (f = -1 ∧ ∀ j (h : j < l.length), j < k → ∀ x, ¬ OnL (vecV ls l[j]) x) ∨ ∃ m : Nat, f = m ∧ m < k ∧ ∃ hm : m < l.length, (∃ x, OnL (vecV ls l[m]) x) ∧ ∀ j (h : j < l.length), j < m → ∀ x, ¬ OnL (vecV ls l[j]) x
theorem FirstR.no {ls : List (List Rul)} {l : List (BitVec 32)} {k : Nat} {f : Int} (h : FirstR ls l k f) (hk : k < l.length) (hn : ∀ x, ¬ OnL (vecV ls l[k]) x) : FirstR ls l (k + 1) f := by
  rcases h with ⟨h1, h2⟩ | ⟨m, h1, h2, h3⟩
  · refine .inl ⟨h1, fun j hj hjk => ?_⟩
    rcases Nat.lt_or_ge j k with g | g
    · exact h2 j hj g
    · obtain rfl : j = k := by omega
      exact hn
  · exact .inr ⟨m, h1, by omega, h3⟩
theorem FirstR.yes {ls : List (List Rul)} {l : List (BitVec 32)} {k : Nat} {f : Int} (h : FirstR ls l k f) (hk : k < l.length) (hn : ∃ x, OnL (vecV ls l[k]) x) (hf : f < 0) : FirstR ls l (k + 1) k := by
  rcases h with ⟨h1, h2⟩ | ⟨m, h1, h2, h3⟩
  · exact .inr ⟨k, rfl, by omega, hk, hn, h2⟩
  · omega
theorem FirstR.keep {ls : List (List Rul)} {l : List (BitVec 32)} {k : Nat} {f : Int} (h : FirstR ls l k f) (hf : 0 ≤ f) : FirstR ls l (k + 1) f := by
  rcases h with ⟨h1, h2⟩ | ⟨m, h1, h2, h3⟩
  · omega
  · exact .inr ⟨m, h1, by omega, h3⟩
set_option maxHeartbeats 4000000 in
set_option maxRecDepth 100000 in
theorem analyzeHolds_any (lv : Value) (ls : List (List Rul)) (a : BitVec 32) (w : World) (hl : TablesAt w lv ls) (hok : TablesOk ls) :
    Calls Tryz.prog 4 #[.agg #[lv], U a] w fun e w' => e = .returned (.bool true) ∧ Ext w w' := by
  have HL := Lib.hid hl
  have HOK := Lib.hid hok
  obtain ⟨ad, cap, hlv, a1, a2, a3⟩ := hl.form
  subst hlv
  clear a3 hl hok
  unfold maxLen at a2
  go_enter Tryz.func4, Tryz.ntmps4
  go_upto_region 1 with (fail)
  refine hideW (Φ := fun W => Code.wp _ _ _ _ W) (fun W => Ext w W ∧ Blk W w.heap.size [.slice ad ls.length cap] 24)
    ⟨by (repeat (first | with_reducible exact Ext.refl _ | with_reducible assumption | with_reducible refine Ext.alloc ?_ _ | with_reducible refine Ext.drew ?_ | with_reducible refine Ext.drewN ?_ _ | (with_reducible refine Ext.setCellP ?_ ?_; focus (first | (simp; done) | (simp; omega) | omega)))), (Blk.new w [.slice ad ls.length cap] 24)⟩ (fun W1 hW1 => ?_)
  obtain ⟨hx1, hb1⟩ := hW1
  have HX1 := Lib.hid hx1
  have HB1 := Lib.hid hb1
  clear hx1 hb1
  generalize w.heap.size = nb at *
  go_upto_region 2 with (first
    | (go_at_call 5; (with_reducible refine (shown21_any _).mono ?_); rintro e w2 ⟨rfl, hx2⟩; have HX2 := Lib.hid (HX1.out.trans hx2); have HB2 := Lib.hid (HB1.out.later hx2); clear hx2))
  have hbc2 := HB2.out.cells
  have HNM := Lib.hid (fitN_may ls)
  have HNS := Lib.hid (fitN_size ls)
  have HNO := Lib.hid (fitN_ok ls)
  have HN20 := Lib.hid (@fitN_short ls)
  have hN := fitN_bd ls
  go_upto_region 3 with (first
    | (go_at_call 9; (with_reducible refine (r09Fit_any _ ls _ (HL.out.later HX2.out) HOK.out).mono ?_); rintro e w3 ⟨v3, he, hF, hx3⟩; subst he; have HF3 := Lib.hid hF.tables; obtain ⟨va, vcap, hv3, q1, q2, q3⟩ := HF3.out.form; subst hv3; clear q3; have HX3 := Lib.hid (HX2.out.trans hx3); clear hF hx3))
  generalize fitN ls = N at *
  clear hbc2 HB2 HB1
  unfold maxLen at q2
  refine hideW (Φ := fun W => Code.wp _ _ _ _ W) (fun W => Ext w3 W ∧ Blk W w3.heap.size [.slice va N.length vcap] 24)
    ⟨by (repeat (first | with_reducible exact Ext.refl _ | with_reducible assumption | with_reducible refine Ext.alloc ?_ _ | with_reducible refine Ext.drew ?_ | with_reducible refine Ext.drewN ?_ _ | (with_reducible refine Ext.setCellP ?_ ?_; focus (first | (simp; done) | (simp; omega) | omega)))), Blk.new w3 [.slice va N.length vcap] 24⟩ (fun W4 hW4 => ?_)
  obtain ⟨hx4, hb4⟩ := hW4
  have HX4 := Lib.hid (HX3.out.trans hx4)
  have HF4 := Lib.hid (HF3.out.later hx4)
  have HB4 := Lib.hid hb4
  have hbc4 := hb4.cells
  clear hx4 hb4 HF3 HX3 HX1 HX2
  generalize w3.heap.size = fb at *
  have HNZ0 := Lib.hid (Nat.le_trans HNS.out (by decide : 160 ≤ 10000000))
  have HNL := Lib.hid (netMay_tabs HNM.out).1
  go_upto_region 4 with (first
    | (go_at_call 6; (with_reducible refine (aNet_good _ N _ HF4.out HNO.out HNM.out).mono ?_); rintro e w5 ⟨pv, tv, c, he, hc, ha, hx5⟩; subst he; have HC5 := Lib.hid hc; have HAI := Lib.hid ha; obtain ⟨pa, pc, hpe, p1, p2, -⟩ := hc.parts.form; subst hpe; obtain ⟨ta, tc, hte, t1, t2, -⟩ := hc.tr.form; subst hte; have HX5 := Lib.hid hx5; clear hx5 hc ha))
  have HA := Lib.hid (HAI.out.facts HNM.out)
  refine hideW (Φ := fun W => Code.wp _ _ _ _ W) (fun W => Ext w5 W ∧ Blk W w5.heap.size [I c.vd, .slice pa c.ps.length pc, U c.dest, .slice ta c.tr.length tc] 30)
    ⟨(Ext.refl _).alloc _, Blk.new w5 [I c.vd, .slice pa c.ps.length pc, U c.dest, .slice ta c.tr.length tc] 30⟩ (fun W6 hW6 => ?_)
  obtain ⟨hx6, hk6⟩ := hW6
  have HC6 := Lib.hid (HC5.out.later hx6)
  have HX6 := Lib.hid (HX5.out.trans hx6)
  have HK6 := Lib.hid hk6
  have HB6 := Lib.hid (HB4.out.later HX6.out)
  have HF6 := Lib.hid (HF4.out.later HX6.out)
  have hkc := hk6.cells
  clear hx6 hk6 hbc4 HC5 HX5
  have hbc := HB6.out.cells
  generalize w5.heap.size = kb at *
  have HIN := Lib.hid (show ∀ x ∈ c.tr, In64 x from fun x hx => by have := HA.out.trb x hx; have := HNL.out; unfold In64; omega)
  obtain ⟨lc, hlc⟩ := cuts_exist N.flatten
  obtain ⟨hcm, hans⟩ := ana_holds HNM.out hlc HAI.out
  have HNET := Lib.hid ((checkNet_any _ _ _ N c lc W6 HF6.out HNO.out HNZ0.out hlc HC6.out HIN.out).mono (R' := fun e w' => e = .returned (.agg #[I c.vd, I 0]) ∧ Ext W6 w') (by
    rintro e w' ⟨he, hx⟩
    rw [hans] at he
    exact ⟨he, hx⟩))
  have HCM := Lib.hid hcm
  clear hcm hans hlc
  clear lc
  go_upto_region 5 with (first
    | (go_at_call 11; (with_reducible refine HNET.out.mono ?_); rintro e w7 ⟨he, hx7⟩; subst he; have HX7 := Lib.hid hx7; clear hx7))
  refine hideW (Φ := fun W => Code.wp _ _ _ _ W) (fun W => Ext w7 W ∧ Blk W w7.heap.size [I c.vd, I 0] 38)
    ⟨(Ext.refl _).alloc _, Blk.new w7 [I c.vd, I 0] 38⟩ (fun W8 hW8 => ?_)
  obtain ⟨hx8, ha8⟩ := hW8
  have HX8 := Lib.hid (HX7.out.trans hx8)
  have HA8 := Lib.hid ha8
  clear hx8 ha8 hbc hkc HX7
  generalize w7.heap.size = ab at *
  have hbc := (HB6.out.later HX8.out).cells
  have hkc := (HK6.out.later HX8.out).cells
  have hac := HA8.out.cells
  have hvv : (c.vd != c.vd) = false := bne_self_eq_false' _
  go_upto_region 7 with (first
    | (go_at_call 12; (with_reducible refine (certMay_any _ _ c _ _ (HC6.out.later HX8.out) HIN.out).mono ?_); rintro e w9 ⟨he, hx9⟩; rw [HCM.out] at he; subst he; have HX9 := Lib.hid (HX8.out.trans hx9); have HA9 := Lib.hid (HA8.out.later hx9); clear hx9))
  clear hbc hkc hac hvv
  have hbc := (HB6.out.later HX9.out).cells
  go_upto_region 8 with (first
    | (go_at_call 13; (with_reducible refine (r12Of_any _ N _ (HF6.out.later HX9.out) HNO.out HNZ0.out).mono ?_); rintro e w10 ⟨uv0, l, he, hU, hC, hx10⟩; subst he; have HC := Lib.hid hC; have HU := Lib.hid hU; obtain ⟨ua, uc, hue, u1, u2, -⟩ := hU.form; subst hue; have HX10 := Lib.hid (HX9.out.trans hx10); have HA10 := Lib.hid (HA9.out.later hx10); clear hU hC hx10))
  clear hbc HA9 HX9 HA8 HX8
  have HK10 := Lib.hid (HK6.out.later HX10.out)
  have HB10 := Lib.hid (HB6.out.later HX10.out)
  have HF10 := Lib.hid (HF6.out.later HX10.out)
  have hll : l.length ≤ 321 := by have h1 := HC.out.len; have h2 := HNS.out; rw [sizeN_flat] at h1; omega
  have HAF := Lib.hid (HAI.out.at HC.out)
  go_upto_block 0 with fail
  go_cut [11, 12] (fun f _ wc => ∃ fi : Int, f = I fi ∧ Hid (FirstR N l l.length fi) ∧ Hid (Ext w10 wc))
  case first =>
    go_wp2_with fail
    go_loopw [11, 12] (fun f i wr => ∃ (k : Nat) (fi : Int), k ≤ l.length ∧ i = I k ∧ f = I fi ∧ Hid (FirstR N l k fi) ∧ Hid (Ext w10 wr)) (fun _ i _ => l.length - (intOf i).toNat)
    case atStart => exact ⟨0, -1, Nat.zero_le _, rfl, rfl, .inl ⟨rfl, fun j h hj => absurd hj (Nat.not_lt_zero j)⟩, Ext.refl _⟩
    case round =>
      obtain ⟨k, fi, hk, rfl, rfl, HFR, HX⟩ := hrel
      by_cases hlt : k < l.length
      · have hkd : decide ((k : Int) < (l.length : Int)) = true := decide_eq_true (by omega)
        have HLT := Lib.hid hlt
        obtain ⟨ua', uc', hue, -, -, huf⟩ := HU.out.form
        obtain ⟨b1, o1, he1, hc1⟩ := huf k _ (List.getElem?_eq_getElem hlt)
        cases hue
        subst he1
        replace hc1 := HX.out.cell hc1
        have HYN := Lib.hid (fun h : ∀ x, ¬ OnL (vecV N l[k]) x => HFR.out.no hlt h)
        have HYY := Lib.hid (fun (h : ∃ x, OnL (vecV N l[k]) x) (hf : fi < 0) => HFR.out.yes hlt h hf)
        have HYK := Lib.hid (fun (hf : 0 ≤ fi) => HFR.out.keep hf)
        clear huf
        generalize l[k] = y at *
        go_upto_region 12 with fail
        refine wp_region_R (RB (wr.heap.size)) 10 rfl (by kernel_rfl) (by kernel_rfl) (fun wz hxz => ?_)
        have hsz : wr.heap.size ≤ wz.heap.size := hxz.size
        have HZ := Lib.hid hxz
        have g0 := RB.keep hsz (HB10.out.later HX.out).lt (((HB10.out.later HX.out).later hxz).cells 0)
        have g1 := RB.keep hsz (cell_ltH hc1) (hxz.cell hc1)
        clear hxz hsz
        refine WRi_at 0 ?_
        iterate 5
          refine WRi_q (preRB _) rfl (by decide) (by kernel_rfl) rfl ?_; apply Exists.intro; refine ⟨fun w1 hx1 => ?_, ?_⟩
          · go_simp; try go_bits
            first | with_reducible rfl | rfl
          simp only [Act.put, List.setIfInBounds_toArray, List.set_cons_zero, List.set_cons_succ, Nat.reduceAdd]
        refine WRi_out ?_
        clear g0 g1 hc1
        refine WR_one 5 rfl (by decide) (by kernel_rfl) rfl (fun K hK => ?_)
        go_simp
        (with_reducible refine (netLoop_any _ N y _ (HF10.out.later (HX.out.trans HZ.out)) HNO.out HNM.out).mono ?_)
        rintro e w11 ⟨u, l2, b, he, hLI, hbl, hO, hx11⟩
        subst he
        obtain ⟨xa, xc, hue, -⟩ := hO.ints.form
        subst hue
        refine hK _ _ (RB.ext hx11) ?_
        have HX11 := Lib.hid (HX.out.trans (HZ.out.trans hx11))
        have HLI := Lib.hid hLI
        have HBL := Lib.hid hbl
        clear hK K hLI hbl hO hx11
        refine WRi_at 6 ?_
        iterate 4
          refine WRi_q (preRB _) rfl (by decide) (by kernel_rfl) rfl ?_; apply Exists.intro; refine ⟨fun w1 hx1 => ?_, ?_⟩
          · go_simp; try go_bits
            first | with_reducible rfl | rfl
          simp only [Act.put, List.setIfInBounds_toArray, List.set_cons_zero, List.set_cons_succ, Nat.reduceAdd]
        refine WRi_out ?_
        refine WR_done (by kernel_rfl) ?_
        (try simp only [List.drop_succ_cons, List.drop_zero])
        cases b with
        | false =>
          have HN := Lib.hid (HYN.out (LoopIs.nil.1 (by
            have h : l2 = [] := Classical.byContradiction fun h => by have := HBL.out.2 h; cases this
            have h2 := HLI.out
            rw [h] at h2
            exact h2)))
          go_wp2_with fail
          go_roundw
          case rel => exact ⟨k + 1, fi, Nat.succ_le_of_lt HLT.out, by go_num, rfl, HN.out, HX11.out⟩
          case measure => have := HLT.out; simp [intOf]; omega
        | true =>
          by_cases hf : fi < 0
          · have hfd : decide (fi < 0) = true := decide_eq_true hf
            have HN := Lib.hid (HYY.out (HLI.out.on (HBL.out.1 rfl)) hf)
            go_wp2_with fail
            go_roundw
            case rel => exact ⟨k + 1, k, Nat.succ_le_of_lt HLT.out, by go_num, rfl, HN.out, HX11.out⟩
            case measure => have := HLT.out; simp [intOf]; omega
          · have hfd : decide (fi < 0) = false := decide_eq_false hf
            have HN := Lib.hid (HYK.out (by omega))
            go_wp2_with fail
            go_roundw
            case rel => exact ⟨k + 1, fi, Nat.succ_le_of_lt HLT.out, by go_num, rfl, HN.out, HX11.out⟩
            case measure => have := HLT.out; simp [intOf]; omega
      · have hkd : decide ((k : Int) < (l.length : Int)) = false := decide_eq_false (by omega)
        have HKE := Lib.hid (show k = l.length by omega)
        go_wp2_with fail
        go_meet
        case rel => exact ⟨fi, rfl, by rw [← HKE.out]; exact HFR.out, HX.out⟩
  case rest =>
    obtain ⟨fi, rfl, HFR, HX⟩ := hcut
    have hbc := (HB10.out.later HX.out).cells
    have hac := (HA10.out.later HX.out).cells
    rcases HAF.out with ⟨i, hL⟩ | hF
    · obtain ⟨m, hfm, hml, hon, hno⟩ : ∃ m : Nat, fi = m ∧ ∃ hm : m < l.length, (∃ x, OnL (vecV N l[m]) x) ∧ ∀ j (h : j < l.length), j < m → ∀ x, ¬ OnL (vecV N l[j]) x := by
        rcases HFR.out with ⟨_, h2⟩ | ⟨m, h1, _, h2⟩
        · obtain ⟨k, hk, x, hx⟩ := ana_some HC.out hL
          exact absurd hx (h2 k hk hk x)
        · exact ⟨m, h1, h2⟩
      subst hfm
      have HDE := Lib.hid (ana_first HC.out hL hml hon hno)
      have HLI0 := Lib.hid hL.loop
      have hvd := hL.vd
      have hmd : decide ((m : Int) < 0) = false := decide_eq_false (by omega)
      have HML := Lib.hid hml
      clear hon hno hL
      have HAW := Lib.hid (HA10.out.later HX.out)
      have HKW := Lib.hid (HK10.out.later HX.out)
      rw [hvd] at HAW HKW
      clear hvd hac
      obtain ⟨ua', uc', hue, -, -, huf⟩ := HU.out.form
      obtain ⟨b1, o1, he1, hc1⟩ := huf m _ (List.getElem?_eq_getElem hml)
      cases hue
      subst he1
      rw [HDE.out] at hc1
      replace hc1 := HX.out.cell hc1
      go_upto_region 18 with (first
        | (go_at_call 14; (with_reducible refine (netLoop_any _ N a _ (HF10.out.later HX.out) HNO.out HNM.out).mono ?_); rintro e w11 ⟨u, l2, b, he, -, -, hO, hx11⟩; subst he; obtain ⟨xa, xc, hxe, -⟩ := hO.ints.form; subst hxe; have HX11 := Lib.hid (HX.out.trans hx11); have HXR := Lib.hid hx11; clear hO hx11))
      clear hbc
      replace hc1 := HXR.out.cell hc1
      refine wp_region_R (RB (w11.heap.size)) 10 rfl (by kernel_rfl) (by kernel_rfl) (fun wz hxz => ?_)
      have hsz : w11.heap.size ≤ wz.heap.size := hxz.size
      have HZ := Lib.hid hxz
      have g0 := RB.keep hsz (HB10.out.later HX11.out).lt (((HB10.out.later HX11.out).later hxz).cells 0)
      have g1 := RB.keep hsz (cell_ltH hc1) (hxz.cell hc1)
      clear hxz hsz
      refine WRi_at 0 ?_
      iterate 5
        refine WRi_q (preRB _) rfl (by decide) (by kernel_rfl) rfl ?_; apply Exists.intro; refine ⟨fun w1 hx1 => ?_, ?_⟩
        · go_simp; try go_bits
          first | with_reducible rfl | rfl
        simp only [Act.put, List.setIfInBounds_toArray, List.set_cons_zero, List.set_cons_succ, Nat.reduceAdd]
      refine WRi_out ?_
      clear g0 g1
      refine WR_one 5 rfl (by decide) (by kernel_rfl) rfl (fun K hK => ?_)
      go_simp
      (with_reducible refine (netLoop_any _ N c.dest _ (HF10.out.later (HX11.out.trans HZ.out)) HNO.out HNM.out).mono ?_)
      rintro e w12 ⟨u, l3, b3, he, hLI, -, hO, hx12⟩
      subst he
      obtain rfl := hLI.one HLI0.out
      obtain ⟨sa, sc, hse, -⟩ := hO.ints.form
      subst hse
      refine hK _ _ (RB.ext hx12) ?_
      have HXS := Lib.hid (HXR.out.trans (HZ.out.trans hx12))
      have HX12 := Lib.hid (HX.out.trans HXS.out)
      have HI12 := Lib.hid hO.ints
      have HC12 := Lib.hid ((HZ.out.trans hx12).cell hc1)
      clear hK K hLI hO hx12 hc1
      refine WRi_at 6 ?_
      iterate 4
        refine WRi_q (preRB _) rfl (by decide) (by kernel_rfl) rfl ?_; apply Exists.intro; refine ⟨fun w1 hx1 => ?_, ?_⟩
        · go_simp; try go_bits
          first | with_reducible rfl | rfl
        simp only [Act.put, List.setIfInBounds_toArray, List.set_cons_zero, List.set_cons_succ, Nat.reduceAdd]
      refine WRi_out ?_
      refine WR_done (by kernel_rfl) ?_
      (try simp only [List.drop_succ_cons, List.drop_zero])
      go_upto_region 19 with fail
      have kA := (HAW.out.later HXS.out).keep
      have kK := (HKW.out.later HXS.out).keep
      have k1 := Ext.keep HC12.out
      have HRW := Lib.hid (show ∀ W, Ext w12 W → Calls Tryz.prog 15 #[.slice ta c.tr.length tc, .slice sa c.tr.length sc] W fun e w' => e = .returned (.bool true) ∧ Ext W w' from fun W hW =>
        (r09Row_any _ _ c.tr c.tr W (HC6.out.tr.later (HX10.out.trans (HX12.out.trans hW))) (HI12.out.later hW)).mono fun e w' ⟨he, hx⟩ => ⟨he.trans (congrArg (fun b => Ending.returned (.bool b)) (decide_eq_true rfl)), hx⟩)
      refine wp_region_E 18 rfl (by kernel_rfl) (by kernel_rfl) ?_
      refine WEi_at 0 ?_
      iterate 18
        refine WEi_q rfl (by decide) (by kernel_rfl) rfl ?_; apply Exists.intro; refine ⟨fun w1 hx1 => ?_, ?_⟩
        · have hq1 := hx1.cells; go_simp; try go_bits
          first | with_reducible rfl | ((with_reducible refine (HRW.out _ hx1).mono ?_); rintro e w' ⟨rfl, hx⟩; exact ⟨rfl, hx⟩)
        simp only [Act.put, List.setIfInBounds_toArray, List.set_cons_zero, List.set_cons_succ, Nat.reduceAdd]
      refine WEi_out ?_
      refine WE_done (by kernel_rfl) (fun wF hxF => ?_)
      (try simp only [List.drop_succ_cons, List.drop_zero])
      go_wp2_with fail
      go_ret
      exact ⟨rfl, HX4.out.trans (HX6.out.trans (HX10.out.trans (HX12.out.trans hxF)))⟩
    · have HNA := Lib.hid (ana_none HC.out hF a)
      have hvd := hF.vd
      obtain rfl : fi = -1 := by
        rcases HFR.out with ⟨h1, _⟩ | ⟨m, h1, _, h2, ⟨x, hx⟩, _⟩
        · exact h1
        · exact absurd hx (ana_none HC.out hF _ x)
      clear hac hF
      have HAW := Lib.hid (HA10.out.later HX.out)
      rw [hvd] at HAW
      clear hvd
      go_upto_region 16 with (first
        | (go_at_call 14; (with_reducible refine (netLoop_any _ N a _ (HF10.out.later HX.out) HNO.out HNM.out).mono ?_); rintro e w11 ⟨u, l2, b, he, hLI, hbl, hO, hx11⟩; subst he; obtain ⟨xa, xc, hxe, -⟩ := hO.ints.form; subst hxe; have HX11 := Lib.hid (HX.out.trans hx11); have HAX := Lib.hid (HAW.out.later hx11); have hl2 := LoopIs.one hLI (LoopIs.nil.2 HNA.out); have HBL := Lib.hid hbl; have HL2 := Lib.hid hl2; clear hO hx11 hLI hbl hl2))
      cases b with
      | true => exact absurd HL2.out (HBL.out.1 rfl)
      | false =>
        clear hbc
        have hac := HAX.out.cells
        go_wp2_with fail
        go_ret
        exact ⟨rfl, HX4.out.trans (HX6.out.trans (HX10.out.trans HX11.out))⟩
end Go.Proofs.YtfldjlibnjgdaaaGreat