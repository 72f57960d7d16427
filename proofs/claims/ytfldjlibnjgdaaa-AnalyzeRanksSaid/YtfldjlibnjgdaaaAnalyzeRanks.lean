/- The law AnalyzeRanks: ranks of all vectors, and each part's. Conditions: whole numbers are within 64 bits. -/
import Derived.Test.YtfldjlibnjgdaaaGAna
import Derived.Test.YtfldjlibnjgdaaaGNetP
namespace Go.Proofs.Ytfldjlibnjgdaaa
open Go Go.RowKit Go.Maps Go.Proofs

theorem AnaFr.loops {ls : List (List Rul)} {l : List (BitVec 32)} {s : Ats} {c : Crt} (hI : AtomsIt ls l s) (h : AnaFr ls s.fr c) (hv : ∃ v ∈ s.vs, ∃ x, OnL v x) : ∃ i, AnaLoop ls s.fr i c := by
  rcases h with h | h
  · exact h
  · obtain ⟨v, hv, x, hx⟩ := hv
    obtain ⟨a, ha, rfl⟩ := hI.inv.vec hv
    exact absurd hx (h.all a ha x)
theorem AnaFr.free {ls : List (List Rul)} {l : List (BitVec 32)} {s : Ats} {c : Crt} (hm : netMayV ls = 0) (hI : AtomsIt ls l s) (h : AnaFr ls s.fr c) {rs : List (List Int)} (hr : RksAre s.vs rs) : AnaFree ls s.fr c := by
  rcases h with ⟨i, h⟩ | h
  · obtain ⟨x, hx⟩ := h.loop.on h.ne
    obtain ⟨q, h1, h2⟩ := hI.inv.place i _ h.dest
    have hql := (List.getElem?_eq_some_iff.1 h2).1
    have h3 := hr.2 q _ _ h2 (List.getElem?_eq_getElem (by rw [hr.1]; exact hql))
    exact absurd hx (h3.no (vec_ok hm _) x)
  · exact h
set_option maxHeartbeats 4000000 in
set_option maxRecDepth 100000 in
theorem analyzeRanks_any (lv : Value) (ls : List (List Rul)) (w : World) (hl : TablesAt w lv ls) (hok : TablesOk ls) :
    Calls Try.prog 5 #[.agg #[lv]] w fun e w' => e = .returned (.bool true) ∧ Ext w w' := by
  have HL := Lib.hid hl
  have HOK := Lib.hid hok
  obtain ⟨ad, cap, hlv, a1, a2, a3⟩ := hl.form
  subst hlv
  clear a3 hl hok
  unfold maxLen at a2
  go_enter Try.func5, Try.ntmps5
  go_upto_region 1 with (fail)
  refine hideW (Φ := fun W => Code.wp _ _ _ _ W) (fun W => Ext w W ∧ Blk W w.heap.size [.slice ad ls.length cap] 24)
    ⟨by (repeat (first | with_reducible exact Ext.refl _ | with_reducible assumption | with_reducible refine Ext.alloc ?_ _ | with_reducible refine Ext.drew ?_ | with_reducible refine Ext.drewN ?_ _ | (with_reducible refine Ext.setCellP ?_ ?_; focus (first | (simp; done) | (simp; omega) | omega)))), (Blk.new w [.slice ad ls.length cap] 24)⟩ (fun W1 hW1 => ?_)
  obtain ⟨hx1, hb1⟩ := hW1
  have HX1 := Lib.hid hx1
  have HB1 := Lib.hid hb1
  clear hx1 hb1
  generalize w.heap.size = nb at *
  go_upto_region 2 with (first
    | (go_at_call 7; (with_reducible refine (shown21_any _).mono ?_); rintro e w2 ⟨rfl, hx2⟩; have HX2 := Lib.hid (HX1.out.trans hx2); have HB2 := Lib.hid (HB1.out.later hx2); clear hx2))
  have hbc2 := HB2.out.cells
  have HNM := Lib.hid (fitN_may ls)
  have HNS := Lib.hid (fitN_size ls)
  have HNO := Lib.hid (fitN_ok ls)
  have HN20 := Lib.hid (@fitN_short ls)
  have hN := fitN_bd ls
  go_upto_region 3 with (first
    | (go_at_call 8; (with_reducible refine (r09Fit_any _ ls _ (HL.out.later HX2.out) HOK.out).mono ?_); rintro e w3 ⟨v3, he, hF, hx3⟩; subst he; have HF3 := Lib.hid hF.tables; obtain ⟨va, vcap, hv3, q1, q2, q3⟩ := HF3.out.form; subst hv3; clear q3; have HX3 := Lib.hid (HX2.out.trans hx3); clear hF hx3))
  generalize fitN ls = N at *
  clear hbc2 HB2 HB1
  unfold maxLen at q2
  refine hideW (Φ := fun W => Code.wp _ _ _ _ W) (fun W => Ext w3 W ∧ Blk W w3.heap.size [.slice va N.length vcap] 24)
    ⟨by (repeat (first | with_reducible exact Ext.refl _ | with_reducible assumption | with_reducible refine Ext.alloc ?_ _ | with_reducible refine Ext.drew ?_ | with_reducible refine Ext.drewN ?_ _ | (with_reducible refine Ext.setCellP ?_ ?_; focus (first | (simp; done) | (simp; omega) | omega)))), Blk.new w3 [.slice va N.length vcap] 24⟩ (fun W4 hW4 => ?_)
  obtain ⟨hx4, hb4⟩ := hW4
  have HX4 := Lib.hid (HX3.out.trans hx4)
  have HF4 := Lib.hid (HF3.out.later hx4)
  have HB4 := Lib.hid hb4
  have hbc4 := hb4.cells
  clear hx4 hb4 HF3 HX3 HX1 HX2
  generalize w3.heap.size = fb at *
  have HNL := Lib.hid (netMay_tabs HNM.out).1
  go_upto_region 4 with (first
    | (go_at_call 12; (with_reducible refine (atomsOf_good _ N _ HF4.out HNO.out HNM.out).mono ?_); rintro e w5 ⟨fv, hv, vv, l, he, hC, hA, hx5⟩; subst he; have HC := Lib.hid hC; have HA5 := Lib.hid hA; obtain ⟨fa, fc, ha, hc, vva, vc, hf1, hf2, hf3⟩ := hA.forms; subst hf1; subst hf2; subst hf3; have HX5 := Lib.hid hx5; clear hx5 hC hA))
  have HIT := Lib.hid (atomsIt HC.out)
  have HFEW := Lib.hid (show (atomsL (vecV N) l).fr.length ≤ 321 from Nat.le_trans (fr_few HC.out) (by have := HNS.out; omega))
  generalize hse : atomsL (vecV N) l = s at *
  have HSE := Lib.hid hse
  clear hse
  refine hideW (Φ := fun W => Code.wp _ _ _ _ W) (fun W => Ext w5 W ∧ Blk W w5.heap.size [.slice fa s.fr.length fc, .slice ha s.wh.length hc, .slice vva s.vs.length vc] 43)
    ⟨(Ext.refl _).alloc _, Blk.new w5 [.slice fa s.fr.length fc, .slice ha s.wh.length hc, .slice vva s.vs.length vc] 43⟩ (fun W6 hW6 => ?_)
  obtain ⟨hx6, hb6⟩ := hW6
  have HX6 := Lib.hid (HX5.out.trans hx6)
  have HA6 := Lib.hid (HA5.out.later hx6)
  have HXB6 := Lib.hid hb6
  clear hbc4 hx6 hb6 HA5 HX5
  generalize w5.heap.size = xb at *
  have hbc4 := (HB4.out.later HX6.out).cells
  go_upto_region 5 with (first
    | (go_at_call 9; (with_reducible refine (aNet_good _ N _ (HF4.out.later HX6.out) HNO.out HNM.out).mono ?_); rintro e w7 ⟨pv, tv, c, he, hcc, ha7, hx7⟩; subst he; have HC7 := Lib.hid hcc; have HAI := Lib.hid ha7; obtain ⟨pa, pc, hpe, p1, p2, -⟩ := hcc.parts.form; subst hpe; obtain ⟨ta, tc, hte, t1, t2, -⟩ := hcc.tr.form; subst hte; have HX7 := Lib.hid (HX6.out.trans hx7); have HXR7 := Lib.hid hx7; clear hx7 hcc ha7))
  refine hideW (Φ := fun W => Code.wp _ _ _ _ W) (fun W => Ext w7 W ∧ Blk W w7.heap.size [I c.vd, .slice pa c.ps.length pc, U c.dest, .slice ta c.tr.length tc] 31)
    ⟨(Ext.refl _).alloc _, Blk.new w7 [I c.vd, .slice pa c.ps.length pc, U c.dest, .slice ta c.tr.length tc] 31⟩ (fun W8 hW8 => ?_)
  obtain ⟨hx8, hk8⟩ := hW8
  have HX8 := Lib.hid (HX7.out.trans hx8)
  have HXR8 := Lib.hid (HXR7.out.trans hx8)
  have HC8 := Lib.hid (HC7.out.later hx8)
  have HK8 := Lib.hid hk8
  have HA8 := Lib.hid (HA6.out.later HXR8.out)
  have HXB8 := Lib.hid (HXB6.out.later HXR8.out)
  clear hbc4 hx8 hk8 HA6 HC7 HX7 HXR7 HXR8 HXB6
  generalize w7.heap.size = kb at *
  have hxc := HXB8.out.cells
  have HVK := Lib.hid (show ∀ v ∈ s.vs, VOk v ∧ v.length ≤ 256 from fun v hv => by
    obtain ⟨a, _, rfl⟩ := HIT.out.inv.vec hv
    exact ⟨vec_ok HNM.out a, by rw [vecV_len]; exact HNL.out⟩)
  have hvl : s.vs.length ≤ 321 := by have h1 := HIT.out.inv.ok.short; have h2 := HIT.out.inv.ok.len; have h3 := HFEW.out; omega
  have HAF := Lib.hid (show AnaFr N s.fr c by have h := HAI.out.at HC.out; rw [HSE.out] at h; exact h)
  have HRO := Lib.hid (aRanks_any _ _ _ s _ HA8.out HVK.out (Nat.le_trans hvl (by decide)))
  by_cases hon : ∃ v ∈ s.vs, ∃ x, OnL v x
  · obtain ⟨i, hAL⟩ := HAF.out.loops HIT.out hon
    have hvd := hAL.vd
    rw [hvd] at HK8
    have HR2 := Lib.hid (HRO.out.mono (R' := fun e w' => e = .returned (.tuple #[.slice none 0 0, I 17]) ∧ Ext W8 w') (by
      rintro e w' (⟨u, rs, _, h2, _, _⟩ | ⟨he, _, hx⟩)
      · have h3 := (HAF.out.free HNM.out HIT.out h2).vd
        rw [hvd] at h3; cases h3
      · exact ⟨he, hx⟩))
    clear hvd hon hAL
    go_upto_region 6 with (first
      | (go_at_call 13; (with_reducible refine HR2.out.mono ?_); rintro e w9 ⟨he, hx9⟩; subst he; have HX9 := Lib.hid (HX8.out.trans hx9); have HK9 := Lib.hid (HK8.out.later hx9); clear hx9))
    clear hxc
    have hkc := HK9.out.cells
    go_wp2_with fail
    go_ret
    exact ⟨rfl, HX4.out.trans HX9.out⟩
  · have HNO2 := Lib.hid (show ∀ v ∈ s.vs, ∀ x, ¬ OnL v x from fun v hv x hx => hon ⟨v, hv, x, hx⟩)
    have HR2 := Lib.hid (HRO.out.mono (R' := fun e w' => ∃ (ua : Option Addr) (uc : Nat) (rs : List (List Int)), e = .returned (.tuple #[.slice ua s.vs.length uc, I 0]) ∧ RksAre s.vs rs ∧ IssAt w' (.slice ua s.vs.length uc) rs ∧ Ext W8 w') (by
      intro e w' h
      obtain ⟨ua, uc, rs, he, hk, ho, hx⟩ := ranks_ok h HNO2.out
      rw [hk.1] at he ho
      exact ⟨ua, uc, rs, he, hk, ho.read, hx⟩))
    clear hon
    go_upto_region 6 with (first
      | (go_at_call 13; (with_reducible refine HR2.out.mono ?_); rintro e w9 ⟨ua, uc, rs, he, hk9, ho9, hx9⟩; subst he; have HRK := Lib.hid hk9; have HO9 := Lib.hid ho9; have HX9 := Lib.hid (HX8.out.trans hx9); have HA9 := Lib.hid (HA8.out.later hx9); have HC9 := Lib.hid (HC8.out.later hx9); have HK9 := Lib.hid (HK8.out.later hx9); have HXB9 := Lib.hid (HXB8.out.later hx9); clear hk9 ho9 hx9))
    clear hxc
    have HFR := Lib.hid (HAF.out.free HNM.out HIT.out HRK.out)
    rw [HFR.out.vd, HFR.out.len] at HK9
    rw [HFR.out.len] at HC9
    have HWL := Lib.hid HIT.out.inv.ok.len.symm
    rw [HWL.out] at HXB9 HA9
    clear HA8 HC8 HK8 HXB8 HRO HR2 HAF
    have hfl : s.fr.length ≤ 321 := HFEW.out
    have HLN := Lib.hid (show ∀ W, Ext w9 W → Calls Try.prog 14 #[.agg #[.slice fa s.fr.length fc, .slice ha s.fr.length hc, .slice vva s.vs.length vc]] W fun e w' => e = .returned (I s.fr.length) ∧ Ext W w' from fun W hW => atomsLen_any _ _ _ s W (HA9.out.later hW))
    have hkc := HK9.out.cells
    have hxc := HXB9.out.cells
    go_upto_region 10 with fail
    clear hkc hxc
    have kK := HK9.out.keep
    have kX := HXB9.out.keep
    refine wp_region_E 21 rfl (by kernel_rfl) (by kernel_rfl) ?_
    refine WEi_at 0 ?_
    iterate 21
      refine WEi_q rfl (by decide) (by kernel_rfl) rfl ?_; apply Exists.intro; refine ⟨fun w1 hx1 => ?_, ?_⟩
      · have hq1 := hx1.cells; go_simp; try go_bits
        first | with_reducible rfl | (refine (HLN.out _ hx1).mono ?_; rintro e w' ⟨rfl, hx⟩; exact ⟨rfl, hx⟩)
      simp only [Act.put, List.setIfInBounds_toArray, List.set_cons_zero, List.set_cons_succ, Nat.reduceAdd]
    refine WEi_out ?_
    refine WE_done (by kernel_rfl) (fun wa hxa => ?_)
    (try simp only [List.drop_succ_cons, List.drop_zero])
    clear kK kX
    have HXA := Lib.hid hxa
    clear hxa
    go_upto_block 0 with fail
    go_cut [11] (fun _ wc => Hid (Ext w9 wc))
    case first =>
      go_wp2_with fail
      go_loopw [11] (fun i wr => ∃ k : Nat, k ≤ s.vs.length ∧ i = I k ∧ Hid (Ext w9 wr)) (fun i _ => s.vs.length - (intOf i).toNat)
      case atStart => exact ⟨0, Nat.zero_le _, rfl, HXA.out⟩
      case round =>
        obtain ⟨k, hk, rfl, HX⟩ := hrel
        by_cases hlt : k < s.vs.length
        · have hkd : decide ((k : Int) < (s.vs.length : Int)) = true := decide_eq_true (by omega)
          have HLT := Lib.hid hlt
          have hxc := (HXB9.out.later HX.out).cells
          obtain ⟨va', vc', hve, -, -, hvf⟩ := HA9.out.vs.form
          obtain ⟨b1, o1, x1, he1, hc1, hi1⟩ := hvf k _ (List.getElem?_eq_getElem hlt)
          cases hve
          subst he1
          replace hc1 := HX.out.cell hc1
          obtain ⟨ya, yc, rfl, -⟩ := hi1.form
          have hrl : k < rs.length := by rw [HRK.out.1]; exact hlt
          obtain ⟨ua', uc', hue, -, -, huf⟩ := HO9.out.form
          obtain ⟨b2, o2, x2, he2, hc2, hi2⟩ := huf k _ (List.getElem?_eq_getElem hrl)
          rw [HRK.out.1] at hue
          cases hue
          subst he2
          replace hc2 := HX.out.cell hc2
          obtain ⟨za, zc, rfl, -⟩ := hi2.form
          have HI1 := Lib.hid (hi1.later HX.out)
          have HI2 := Lib.hid (hi2.later HX.out)
          have HV := Lib.hid (HVK.out _ (List.getElem_mem hlt))
          have HNV := Lib.hid (HNO2.out _ (List.getElem_mem hlt))
          have HRV := Lib.hid (HRK.out.2 k _ _ (List.getElem?_eq_getElem hlt) (List.getElem?_eq_getElem hrl))
          clear hi1 hi2 hvf huf
          generalize s.vs[k] = v at *
          generalize rs[k] = r at *
          clear hrl
          have HGR := Lib.hid ((gRanks_any _ v _ HI1.out HV.out.1 HV.out.2).mono (R' := fun e w' => ∃ (sa : Option Addr) (sc : Nat), e = .returned (.tuple #[.slice sa r.length sc, I 0]) ∧ IntsAt w' (.slice sa r.length sc) r ∧ Ext wr w') (by
            rintro e w' (⟨u, r', he, h2, h3, h4⟩ | ⟨_, ⟨x, hx⟩, _⟩)
            · obtain rfl := h2.one HRV.out
              obtain ⟨sa, sc, rfl, -⟩ := h3.ints.form
              exact ⟨sa, sc, he, h3.ints, h4⟩
            · exact absurd hx (HNV.out x)))
          go_upto_region 16 with (first
            | (go_at_call 15; (with_reducible refine HGR.out.mono ?_); rintro e w10 ⟨sa, sc, he, hi10, hx10⟩; subst he; have HI10 := Lib.hid hi10; have HXR := Lib.hid hx10; have HX10 := Lib.hid (HX.out.trans hx10); clear hi10 hx10))
          replace hc2 := HXR.out.cell hc2
          clear hxc hc1
          go_wp2_with (first
            | (go_at_call 11; (with_reducible refine (r09Row_any _ _ r r _ (HI2.out.later HXR.out) HI10.out).mono ?_); rintro e w11 ⟨he, hx11⟩; replace he := he.trans (congrArg (fun b => Ending.returned (.bool b)) (decide_eq_true rfl)); subst he; have HX11 := Lib.hid (HX10.out.trans hx11); clear hx11))
          go_roundw
          case rel => exact ⟨k + 1, Nat.succ_le_of_lt HLT.out, by go_num, HX11.out⟩
          case measure => have := HLT.out; simp [intOf]; omega
        · have hkd : decide ((k : Int) < (s.vs.length : Int)) = false := decide_eq_false (by omega)
          go_wp2_with fail
          go_meet
          case rel => exact HX.out
    case rest =>
      have HXC := Lib.hid hcut.out
      clear hcut HXA
      go_wp2_with fail
      go_loopw [14] (fun i wr => ∃ k : Nat, k ≤ s.fr.length ∧ i = I k ∧ Hid (Ext w9 wr)) (fun i _ => s.fr.length - (intOf i).toNat)
      case atStart => exact ⟨0, Nat.zero_le _, rfl, HXC.out⟩
      case round =>
        obtain ⟨k, hk, rfl, HX⟩ := hrel
        have hkc := (HK9.out.later HX.out).cells
        have hxc := (HXB9.out.later HX.out).cells
        by_cases hlt : k < s.fr.length
        · have hkd : decide ((k : Int) < (s.fr.length : Int)) = true := decide_eq_true (by omega)
          have HLT := Lib.hid hlt
          obtain ⟨q, hq1, hq2⟩ := HIT.out.inv.place k _ (List.getElem?_eq_getElem hlt)
          obtain ⟨ha', hc', hhe, -, -, hhf⟩ := HA9.out.wh.form
          obtain ⟨b1, o1, he1, hc1⟩ := hhf k _ hq1
          rw [HWL.out] at hhe
          cases hhe
          subst he1
          replace hc1 := HX.out.cell hc1
          have hql := (List.getElem?_eq_some_iff.1 hq2).1
          have hrl : q < rs.length := by rw [HRK.out.1]; exact hql
          obtain ⟨ua', uc', hue, -, -, huf⟩ := HO9.out.form
          obtain ⟨b2, o2, x2, he2, hc2, hi2⟩ := huf q _ (List.getElem?_eq_getElem hrl)
          rw [HRK.out.1] at hue
          cases hue
          subst he2
          replace hc2 := HX.out.cell hc2
          obtain ⟨za, zc, rfl, -⟩ := hi2.form
          have HI2 := Lib.hid (hi2.later HX.out)
          obtain ⟨pp, r, h1, h2, h3, h4, h5⟩ := HFR.out.parts k _ (List.getElem?_eq_getElem hlt)
          have hrr := h5.one (HRK.out.2 q _ _ hq2 (List.getElem?_eq_getElem hrl))
          have hpr := HC9.out.rk k pp r h1 h2
          obtain ⟨ra, rc, hre, -⟩ := hpr.form
          rw [← hrr] at HI2 hc2
          obtain ⟨pa', pc', hpe, -, -, hpf⟩ := HC9.out.parts.form
          obtain ⟨b3, o3, he3, q0, q1, q2⟩ := hpf k _ h1
          rw [HFR.out.len] at hpe
          cases hpe
          subst he3
          rw [h3] at q0
          rw [h4] at q1
          replace q2 := q2.trans (congrArg some hre)
          replace q0 := HX.out.cell q0
          replace q1 := HX.out.cell q1
          replace q2 := HX.out.cell q2
          have HPR := Lib.hid (show IntsAt wr (.slice ra r.length rc) r from by have h := hpr.later HX.out; rw [show pp.rk = .slice ra r.length rc from hre] at h; exact h)
          have HEN := Lib.hid (atomsEnds_any _ _ _ s k _ (HA9.out.later HX.out) (.tuple #[U s.fr[k], U (endV s.fr k), .bool true]) (fun W hW => (cutsEnds_any _ s.fr k W hW hlt).mono fun e w' ⟨g1, g2⟩ => ⟨g1, g2 ▸ Ext.refl W⟩) ⟨_, _, _, rfl⟩)
          clear hhf hq1 hq2 huf hi2 hpf h1 h2 h3 h4 h5 hrr hpr hre hrl
          generalize s.fr[k] = lo at *
          generalize endV s.fr k = hi at *
          go_upto_region 23 with (first
            | (go_at_call 16; refine HEN.out.mono ?_; rintro e w10 ⟨he, hx10⟩; subst he; have HXR := Lib.hid hx10; have HX10 := Lib.hid (HX.out.trans hx10); clear hx10))
          clear hkc hxc hc1
          have kK := (HK9.out.later HX10.out).keep
          replace q0 := Ext.keep (HXR.out.cell q0)
          replace q1 := Ext.keep (HXR.out.cell q1)
          replace q2 := Ext.keep (HXR.out.cell q2)
          replace hc2 := Ext.keep (HXR.out.cell hc2)
          have HRW := Lib.hid (show ∀ W, Ext w10 W → Calls Try.prog 11 #[.slice ra r.length rc, .slice za r.length zc] W fun e w' => e = .returned (.bool true) ∧ Ext W w' from fun W hW =>
            (r09Row_any _ _ r r W (HPR.out.later (HXR.out.trans hW)) (HI2.out.later (HXR.out.trans hW))).mono fun e w' ⟨he, hx⟩ => ⟨he.trans (congrArg (fun b => Ending.returned (.bool b)) (decide_eq_true rfl)), hx⟩)
          have hq0 : decide ((q : Int) < 0) = false := decide_eq_false (by omega)
          have hqv : decide ((s.vs.length : Int) ≤ (q : Int)) = false := decide_eq_false (by omega)
          have hqn : decide (s.vs.length ≤ q) = false := decide_eq_false (by omega)
          refine wp_region_E 45 rfl (by kernel_rfl) (by kernel_rfl) ?_
          refine WEi_at 0 ?_
          iterate 45
            refine WEi_q rfl (by decide) (by kernel_rfl) rfl ?_; apply Exists.intro; refine ⟨fun w1 hx1 => ?_, ?_⟩
            · have hq1 := hx1.cells; go_simp; try go_bits
              first | with_reducible rfl | (refine (HRW.out _ hx1).mono ?_; rintro e w' ⟨rfl, hx⟩; exact ⟨rfl, hx⟩)
            simp only [Act.put, List.setIfInBounds_toArray, List.set_cons_zero, List.set_cons_succ, Nat.reduceAdd]
          refine WEi_out ?_
          refine WE_done (by kernel_rfl) (fun w12 hx12 => ?_)
          (try simp only [List.drop_succ_cons, List.drop_zero])
          clear kK q0 q1 q2 hc2 hq0 hqv hqn
          have HX12 := Lib.hid (HX10.out.trans hx12)
          clear hx12
          go_wp2_with fail
          go_roundw
          case rel => exact ⟨k + 1, Nat.succ_le_of_lt HLT.out, by go_num, HX12.out⟩
          case measure => have := HLT.out; simp [intOf]; omega
        · have hkd : decide ((k : Int) < (s.fr.length : Int)) = false := decide_eq_false (by omega)
          go_wp2_with fail
          go_ret
          exact ⟨rfl, HX4.out.trans (HX9.out.trans HX.out)⟩
end Go.Proofs.Ytfldjlibnjgdaaa