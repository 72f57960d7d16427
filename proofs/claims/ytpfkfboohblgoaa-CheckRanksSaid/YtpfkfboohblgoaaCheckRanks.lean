/- The law CheckRanks: ranks may have gaps, as long as they fall. Conditions: whole numbers are within 64 bits. -/
import Derived.Test.YtpfkfboohblgoaaGShort
import Derived.Test.YtpfkfboohblgoaaGFitC
import Derived.Test.YtpfkfboohblgoaaRanksL
import Derived.Test.YtpfkfboohblgoaaAppMk
import Derived.Test.YtpfkfboohblgoaaGAtB
namespace Go.Proofs.Ytpfkfboohblgoaa
open Go Go.RowKit Go.Maps Go.Proofs

theorem one_rows {vs : List Value} {w : World} {ls : List (List Rul)} (hl : vs.length = ls.length) (h : ∀ (i : Nat) (l : List Rul), ls[i]? = some l → ∃ u, vs[i]? = some u ∧ RulesAt w u l) : ∀ u ∈ vs, u.oneCell' = true := fun u hu => by
  obtain ⟨i, hi, rfl⟩ := List.getElem_of_mem hu
  obtain ⟨x, g1, g2⟩ := h i _ (List.getElem?_eq_getElem (by omega : i < ls.length))
  rw [List.getElem?_eq_getElem hi] at g1
  cases g1
  obtain ⟨_, _, e, _⟩ := g2.form
  rw [e]; rfl
theorem wide_tables {w : World} {B : Nat} {v : Value} {ls : List (List Rul)} {vs : List Value} (hl : vs.length = ls.length) (h : ∀ (i : Nat) (l : List Rul), ls[i]? = some l → ∃ u, vs[i]? = some u ∧ RulesAt w u l)
    (ho : w.ownsRow B 45 1 v (ls.length + ls.length) (vs ++ List.replicate ls.length (.slice none 0 0))) : TablesAt w v (wideN ls) := by
  refine ⟨_, by rw [wideN_len, show 2 * ls.length = ls.length + ls.length by omega]; exact Reads.of_own ho, fun i l hi => ?_⟩
  unfold wideN at hi
  rcases Nat.lt_or_ge i ls.length with g | g
  · rw [List.getElem?_append_left g] at hi
    obtain ⟨u, g1, g2⟩ := h i l hi
    exact ⟨u, by rw [List.getElem?_append_left (by omega)]; exact g1, g2⟩
  · rw [List.getElem?_append_right g, List.getElem?_replicate] at hi
    split at hi
    · cases hi
      exact ⟨.slice none 0 0, by rw [List.getElem?_append_right (by omega), List.getElem?_replicate, if_pos (by omega)], Reads.nil _ 4⟩
    · cases hi
theorem cell_ltR {w : World} {p : Addr} {v : Value} (h : w.cell? p = some v) : p.block < w.heap.size := by
  rcases Nat.lt_or_ge p.block w.heap.size with g | g
  · exact g
  · simp [World.cell?, Array.getElem?_eq_none g] at h
/-- The parts that are made: as those of the certificate, with ranks twice as much. -/
def dblP (ps : List Prt) (rks : List (List Int)) : List PrtV := (ps.zip rks).map fun q => ⟨q.1.fr, q.1.up, dblR q.2⟩
theorem dblP_len {ps : List Prt} {rks : List (List Int)} (h : rks.length = ps.length) : (dblP ps rks).length = ps.length := by unfold dblP; rw [List.length_map, List.length_zip, h, Nat.min_self]
theorem dblP_step {ps : List Prt} {rks : List (List Int)} {k : Nat} (h1 : k < ps.length) (h2 : k < rks.length) : (dblP ps rks).take (k + 1) = (dblP ps rks).take k ++ [⟨ps[k].fr, ps[k].up, dblR rks[k]⟩] := by
  rw [List.take_succ_eq_append_getElem (by unfold dblP; rw [List.length_map, List.length_zip]; omega)]
  congr 2
  unfold dblP
  simp
theorem dblP_ends {ps : List Prt} {rks : List (List Int)} (h : rks.length = ps.length) : (dblP ps rks).map (fun q => (q.fr, q.up)) = ps.map (fun p => (p.fr, p.up)) := by
  unfold dblP
  rw [List.map_map]
  refine List.ext_getElem (by simp [h]) fun i h1 h2 => by simp
theorem dblP_rks {ps : List Prt} {rks : List (List Int)} (h : rks.length = ps.length) : (dblP ps rks).map PrtV.rk = rks.map dblR := by
  unfold dblP
  rw [List.map_map]
  refine List.ext_getElem (by simp [h]) fun i h1 h2 => by simp
/-- The certificate that is made, in memory. -/
theorem dbl_at {w : World} {B : Nat} {v tv : Value} {c : Crt} (hlen : c.rks.length = c.ps.length) (h : OwnPR w B v (dblP c.ps c.rks)) (ht : IntsAt w tv c.tr) :
    ∃ qs : List Prt, qs.map (fun q => (q.fr, q.up)) = c.ps.map (fun p => (p.fr, p.up)) ∧ CertAt w v tv ⟨c.vd, qs, c.rks.map dblR, c.dest, c.tr⟩ := by
  obtain ⟨qs, h1, h2, h3, h4⟩ := h.parts
  refine ⟨qs, h3.trans (dblP_ends hlen), h1.parts, by rw [List.length_map, h2, dblP_len hlen, hlen], fun i p r hi hr => ?_, ht⟩
  have hr' : ((dblP c.ps c.rks).map PrtV.rk)[i]? = some r := by rw [dblP_rks hlen]; exact hr
  rw [List.getElem?_map, Option.map_eq_some_iff] at hr'
  obtain ⟨q, hq, rfl⟩ := hr'
  obtain ⟨p', e1, e2⟩ := h4 i q hq
  rw [hi] at e1
  cases e1
  exact Reads.of_own e2
set_option maxHeartbeats 4000000 in
set_option maxRecDepth 100000 in
theorem checkRanks_any (lv pv tv : Value) (ls : List (List Rul)) (c : Crt) (w : World) (hl : TablesAt w lv ls) (hok : TablesOk ls) (hc : CertAt w pv tv c) (htr : ∀ x ∈ c.tr, In64 x) (hrk : ∀ r ∈ c.rks, ∀ x ∈ r, In64 x) :
    Calls Try.prog 3 #[.agg #[lv], .agg #[I c.vd, pv, U c.dest, tv]] w fun e w' => e = .returned (.bool true) ∧ Ext w w' := by
  have HC := Lib.hid hc
  have HTR := Lib.hid htr
  have HRK := Lib.hid hrk
  clear hc htr hrk
  have HL := Lib.hid hl
  have HOK := Lib.hid hok
  obtain ⟨ad, cap, hlv, a1, a2, a3⟩ := hl.form
  subst hlv
  clear a3 hl hok
  unfold maxLen at a2
  go_enter Try.func3, Try.ntmps3
  go_upto_region 1 with (fail)
  refine hideW (Φ := fun W => Code.wp _ _ _ _ W) (fun W => Ext w W ∧ Blk W w.heap.size [.slice ad ls.length cap] 24 ∧ Blk W (w.heap.size + 1) [I c.vd, pv, U c.dest, tv] 29)
    ⟨by (repeat (first | with_reducible exact Ext.refl _ | with_reducible assumption | with_reducible refine Ext.alloc ?_ _ | with_reducible refine Ext.drew ?_ | with_reducible refine Ext.drewN ?_ _ | (with_reducible refine Ext.setCellP ?_ ?_; focus (first | (simp; done) | (simp; omega) | omega)))), ((Blk.new w [.slice ad ls.length cap] 24).old _), (Blk.newAt [I c.vd, pv, U c.dest, tv] (by simp))⟩ (fun W1 hW1 => ?_)
  obtain ⟨hx1, hb1, hk0⟩ := hW1
  have HX1 := Lib.hid hx1
  have HB1 := Lib.hid hb1
  have HK1_0 := Lib.hid hk0
  clear hx1 hb1 hk0
  generalize w.heap.size + 1 = kb0 at *
  generalize w.heap.size = nb at *
  go_upto_region 2 with (first
    | (go_at_call 15; (with_reducible refine (shown20_any _).mono ?_); rintro e w2 ⟨rfl, hx2⟩; have HX2 := Lib.hid (HX1.out.trans hx2); have HB2 := Lib.hid (HB1.out.later hx2); have HK2_0 := Lib.hid (HK1_0.out.later hx2); clear hx2))
  have hbc2 := HB2.out.cells
  have HNM := Lib.hid (fitN_may ls)
  have HNS := Lib.hid (fitN_size ls)
  have HNO := Lib.hid (fitN_ok ls)
  have HN20 := Lib.hid (@fitN_short ls)
  have hN := fitN_bd ls
  go_upto_region 3 with (first
    | (go_at_call 16; (with_reducible refine (r09Fit_any _ ls _ (HL.out.later HX2.out) HOK.out).mono ?_); rintro e w3 ⟨v3, he, hF, hx3⟩; subst he; have HF3 := Lib.hid hF.tables; obtain ⟨va, vcap, hv3, q1, q2, q3⟩ := HF3.out.form; subst hv3; clear q3; have HX3 := Lib.hid (HX2.out.trans hx3); have HK3_0 := Lib.hid (HK2_0.out.later hx3); clear hF hx3))
  generalize fitN ls = N at *
  clear hbc2 HB2 HB1 HK1_0 HK2_0
  unfold maxLen at q2
  refine hideW (Φ := fun W => Code.wp _ _ _ _ W) (fun W => Ext w3 W ∧ Blk W w3.heap.size [.slice va N.length vcap] 24)
    ⟨by (repeat (first | with_reducible exact Ext.refl _ | with_reducible assumption | with_reducible refine Ext.alloc ?_ _ | with_reducible refine Ext.drew ?_ | with_reducible refine Ext.drewN ?_ _ | (with_reducible refine Ext.setCellP ?_ ?_; focus (first | (simp; done) | (simp; omega) | omega)))), Blk.new w3 [.slice va N.length vcap] 24⟩ (fun W4 hW4 => ?_)
  obtain ⟨hx4, hb4⟩ := hW4
  have HX4 := Lib.hid (HX3.out.trans hx4)
  have HF4 := Lib.hid (HF3.out.later hx4)
  have HB4 := Lib.hid hb4
  have HK4_0 := Lib.hid (HK3_0.out.later hx4)
  have hbc4 := hb4.cells
  clear hx4 hb4 HF3 HX3 HX1 HX2 HK3_0
  generalize w3.heap.size = fb at *
  have hkc4 := HK4_0.out.cells
  go_upto_region 5 with (first
    | (go_at_call 18; (with_reducible refine (short20_any _ _ c _ (HC.out.later HX4.out)).mono ?_); rintro e w5 ⟨pv5, tv5, c5, he, hC5, hS5, hx5⟩; subst he; have HC5 := Lib.hid hC5; have HS5 := Lib.hid hS5; have HX5 := Lib.hid (HX4.out.trans hx5); have HB5 := Lib.hid (HB4.out.later hx5); have HF5 := Lib.hid (HF4.out.later hx5); clear hC5 hS5 hx5)
    | (go_at_call 17; (with_reducible refine (r17Fit_any _ _ c5 N.length _ HC5.out (HS5.out.in_tr HTR.out) (HS5.out.in_ranks HRK.out) HS5.out.cap ⟨hN.1, Nat.le_trans hN.2 (by decide)⟩).mono ?_); rintro e w8 ⟨pv8, tv8, c8, he, hO, hm, hI, hv, hx8⟩; subst he; have HC8 := Lib.hid hO.at; have HM8 := Lib.hid hm; have HI8 := Lib.hid hI; have HX8 := Lib.hid (HX5.out.trans hx8); have HF8 := Lib.hid (HF5.out.later hx8); have HB8 := Lib.hid (HB5.out.later hx8); obtain ⟨pb, pbc, hpv, -, -, -⟩ := hO.at.parts.form; obtain ⟨tb, tbc, htv, -, -, -⟩ := hO.at.tr.form; subst hpv htv; clear hO hm hI hv hx8))
  clear hkc4 hbc4
  refine hideW (Φ := fun W => Code.wp _ _ _ _ W) (fun W => Ext w8 W ∧ Blk W w8.heap.size [I c8.vd, .slice pb c8.ps.length pbc, U c8.dest, .slice tb c8.tr.length tbc] 29)
    ⟨by (repeat (first | with_reducible exact Ext.refl _ | with_reducible assumption | with_reducible refine Ext.alloc ?_ _ | with_reducible refine Ext.drew ?_ | with_reducible refine Ext.drewN ?_ _ | (with_reducible refine Ext.setCellP ?_ ?_; focus (first | (simp; done) | (simp; omega) | omega)))), Blk.new w8 [I c8.vd, .slice pb c8.ps.length pbc, U c8.dest, .slice tb c8.tr.length tbc] 29⟩ (fun W9 hW9 => ?_)
  obtain ⟨hx9, hb9⟩ := hW9
  have HX9 := Lib.hid (HX8.out.trans hx9)
  have HC9 := Lib.hid (HC8.out.later hx9)
  have HF9 := Lib.hid (HF8.out.later hx9)
  have HB9 := Lib.hid (HB8.out.later hx9)
  have HQ9 := Lib.hid hb9
  clear hx9 hb9 HX8 HC8 HX5 HC5 HS5 HF5 HF8 HB5 HB8 HX4 HF4 HB4 HK4_0
  generalize w8.heap.size = xc at *
  obtain ⟨vs, hrd, hvs⟩ := HF9.out
  have HVL := Lib.hid (show vs.length = N.length by have := hrd.1; omega)
  have HO1 := Lib.hid (one_rows HVL.out hvs)
  have HRD := Lib.hid hrd
  have HVS := Lib.hid hvs
  clear hrd hvs
  have hbc9 := HB9.out.keep
  have hxr := Ext.refl W9
  have hn64 : N.length ≤ 9223372036854775807 := by omega
  have HS0 := Lib.hid (show (W9.alloc (.cells #[] 45)).ownsRow W9.heap.size 45 1 (.slice (some ⟨W9.heap.size, 0, none⟩) 0 0) 0 [] from own_made W9 1 45 0 [] rfl (by unfold maxLen; omega))
  have HXA := Lib.hid ((Ext.refl W9).alloc (.cells #[] 45))
  have HZA := Lib.hid (show W9.heap.size ≤ (W9.alloc (.cells #[] 45)).heap.size by simp)
  go_upto_region 6 with (first
    | (at_builtin; refine wpList_app_at rfl (.tmp 24) (.tmp 26) 22 rfl W9.heap.size 45 _ 1 24 Try.underlying22 infoRules rfl (by decide) (by decide) _ _ _ rfl HS0.out _ _ _ rfl (HRD.out.later HXA.out) HO1.out (by omega) HZA.out ?_; intro v7 w7 ho7 hg7 hl7; have ho7' : w7.ownsRow W9.heap.size 45 1 v7 N.length vs := (by simpa using ho7); have HO7 := Lib.hid ho7'; have HX7 := Lib.hid (Ext.grown HXA.out hg7 HS0.out (Nat.le_refl _)); obtain ⟨va7, vc7, hv7⟩ := own_form ho7'; subst hv7; clear ho7 ho7' hg7 hl7)
    | (at_builtin; refine wpList_app_mk _ rfl (.tmp 27) (.tmp 28) 22 3 rfl W9.heap.size 45 (.slice none 0 0) 24 .i64 .i64 Try.underlying22 Try.underlying3 infoRules rfl rfl _ _ _ _ rfl HO7.out rfl (by omega) (by omega) (by unfold maxLen; omega) (by omega) HX7.out.size ?_; intro v8 w9 ho8 hg8 hl8; have HO8 := Lib.hid ho8; have HX8 := Lib.hid (Ext.grown HX7.out hg8 HO7.out (Nat.le_refl _)); obtain ⟨va8, vc8, hv8⟩ := own_form ho8; subst hv8; clear ho8 hg8 hl8))
  refine hideW (Φ := fun W => Code.wp _ _ _ _ W) (fun W => Ext w9 W ∧ Blk W w9.heap.size [.slice va8 (N.length + N.length) vc8] 24)
    ⟨by (repeat (first | with_reducible exact Ext.refl _ | with_reducible assumption | with_reducible refine Ext.alloc ?_ _ | with_reducible refine Ext.drew ?_ | with_reducible refine Ext.drewN ?_ _ | (with_reducible refine Ext.setCellP ?_ ?_; focus (first | (simp; done) | (simp; omega) | omega)))), Blk.new w9 [.slice va8 (N.length + N.length) vc8] 24⟩ (fun W10 hW10 => ?_)
  obtain ⟨hx10, hb10⟩ := hW10
  have HX10 := Lib.hid (HX8.out.trans hx10)
  have HW10 := Lib.hid hb10
  have HT10 := Lib.hid (show TablesAt W10 (.slice va8 (N.length + N.length) vc8) (wideN N) from (wide_tables HVL.out (fun i l h => let ⟨u, g1, g2⟩ := HVS.out i l h; ⟨u, g1, g2.later HX8.out⟩) HO8.out).later hx10)
  clear hx10 hb10 HO8 HX8 HO7 HX7 HS0 HXA HZA HRD HVS HO1 HVL hbc9 hxr
  generalize w9.heap.size = wb at *
  have hqc := (HQ9.out.later HX10.out).cells
  go_upto_region 7 with (fail)
  clear hqc
  refine hideW (Φ := fun W => Code.wp _ _ _ _ W) (fun W => Ext W10 W ∧ Blk W W10.heap.size [I c8.vd, .slice none 0 0, U c8.dest, .slice tb c8.tr.length tbc] 29)
    ⟨by (repeat (first | with_reducible exact Ext.refl _ | with_reducible assumption | with_reducible refine Ext.alloc ?_ _ | with_reducible refine Ext.drew ?_ | with_reducible refine Ext.drewN ?_ _ | (with_reducible refine Ext.setCellP ?_ ?_; focus (first | (simp; done) | (simp; omega) | omega)))), Blk.new W10 [I c8.vd, .slice none 0 0, U c8.dest, .slice tb c8.tr.length tbc] 29⟩ (fun W11 hW11 => ?_)
  obtain ⟨hx11, hb11⟩ := hW11
  have HX11 := Lib.hid hx11
  have HY11 := Lib.hid hb11
  clear hx11 hb11
  generalize hyb : W10.heap.size = yb at *
  have HYB := Lib.hid hyb
  clear hyb
  have HQ10 := Lib.hid (HQ9.out.later HX10.out)
  have HC10 := Lib.hid (HC9.out.later HX10.out)
  have HLEN := Lib.hid HC10.out.len
  have HRL := Lib.hid (show c8.vd = 1 → ∀ r ∈ c8.rks, r.length = N.length ∧ ∀ x ∈ r, 0 ≤ x ∧ x < N.length from fun hv r hr => by have := rksV_all (free_ok HM8.out hv).rks r hr; exact ⟨by omega, this.2⟩)
  have HPS := Lib.hid (show c8.vd ≠ 1 → c8.ps = [] from fun hv => (loop_ok HM8.out hv).ps)
  have hpl : c8.ps.length ≤ 8193 := by
    by_cases hv : c8.vd = 1
    · exact (free_ok HM8.out hv).few
    · rw [HPS.out hv]; simp
  go_wp2_with fail
  go_loopw [11] (fun i wr => ∃ (k : Nat) (v : Value), k ≤ c8.ps.length ∧ i = I k ∧ Hid (Blk wr yb [I c8.vd, v, U c8.dest, .slice tb c8.tr.length tbc] 29) ∧ Hid (OwnPR wr (yb + 1) v ((dblP c8.ps c8.rks).take k)) ∧ Hid (Ext W10 wr)) (fun i _ => c8.ps.length - (intOf i).toNat)
  case atStart => exact ⟨0, .slice none 0 0, by omega, rfl, HY11.out, OwnPR.nil _ _, HX11.out⟩
  case round =>
    obtain ⟨k, v, hk, rfl, HOC, HOP, HX⟩ := hrel
    have HPL := Lib.hid (show ((dblP c8.ps c8.rks).take k).length = k by rw [List.length_take, dblP_len HLEN.out]; omega)
    have hqk := (HQ10.out.later HX.out).keep
    have hqc := (HQ10.out.later HX.out).cells
    by_cases hlt : k < c8.ps.length
    · have hv1 : c8.vd = 1 := Classical.byContradiction fun e => by rw [HPS.out e] at hlt; simp at hlt
      have hkr : k < c8.rks.length := by rw [HLEN.out]; exact hlt
      have HST := Lib.hid (dblP_step hlt hkr)
      have hrM := HRL.out hv1 _ (List.getElem_mem hkr)
      obtain ⟨_, _, hpe, _, _, P3⟩ := HC10.out.parts.form
      obtain ⟨b0, o0, he0, q0, q1, q2⟩ := P3 k _ (List.getElem?_eq_getElem hlt)
      simp only [Value.slice.injEq, true_and] at hpe
      obtain ⟨rfl, rfl⟩ := hpe
      subst he0
      clear P3
      have hrk := HC10.out.rk k _ _ (List.getElem?_eq_getElem hlt) (List.getElem?_eq_getElem hkr)
      have HLT := Lib.hid hlt
      have hkd : decide ((k : Int) < (c8.ps.length : Int)) = true := decide_eq_true (by omega)
      generalize c8.ps[k] = p at *
      generalize c8.rks[k] = r at *
      obtain ⟨pf, pu, pra, prn, prc⟩ := p
      have HIR := Lib.hid hrk
      obtain ⟨_, _, hre, _, hrm, R3⟩ := hrk.form
      simp only [Value.slice.injEq] at hre
      obtain ⟨rfl, rfl, rfl⟩ := hre
      simp only [Prt.rk] at q0 q1 q2 HIR
      have HQ2 := Lib.hid (HX.out.cell q2)
      have HRM := Lib.hid hrM
      replace q0 := HX.out.cell q0
      replace q1 := HX.out.cell q1
      clear q2 R3 hrm hrk hrM hv1
      have HQr := Lib.hid (HQ10.out.later HX.out)
      go_upto_region 10 with fail
      refine wp_region_R (RB (wr.heap.size)) 14 rfl (by kernel_rfl) (by kernel_rfl) (fun w0 hx0 => ?_)
      have hsz : wr.heap.size ≤ w0.heap.size := hx0.size
      have g0 := RB.keep hsz HQr.out.lt ((HQr.out.later hx0).cells 1)
      have g1 := RB.keep hsz (cell_ltR q0) (hx0.cell q0)
      have g2 := RB.keep hsz (cell_ltR q1) (hx0.cell q1)
      refine WRi_at 0 ?_
      iterate 13
        refine WRi_q (preRB _) rfl (by decide) (by kernel_rfl) rfl ?_; apply Exists.intro; refine ⟨fun w1 hx1 => ?_, ?_⟩
        · go_simp; try go_bits
          first | with_reducible rfl | rfl
        simp only [Act.put, List.setIfInBounds_toArray, List.set_cons_zero, List.set_cons_succ, Nat.reduceAdd]
      refine WRi_out ?_
      clear g0 g1 g2 hsz
      refine WR_one 13 rfl (by decide) (by kernel_rfl) rfl (fun K hK => ?_)
      go_simp
      refine hK _ _ (RB.ext ((Ext.refl _).alloc _)) ?_
      clear hK K hqk hqc q0 q1
      refine WR_done (by kernel_rfl) ?_
      (try simp only [List.drop_succ_cons, List.drop_zero])
      go_upto_region 11 with fail
      refine hideW (Φ := fun W => Code.wp _ _ _ _ W) (fun W => Ext w0 W ∧ Blk W w0.heap.size [U pf, U pu, .slice none 0 0] 35)
        ⟨by (repeat (first | with_reducible exact Ext.refl _ | with_reducible assumption | with_reducible refine Ext.alloc ?_ _ | with_reducible refine Ext.drew ?_ | with_reducible refine Ext.drewN ?_ _ | (with_reducible refine Ext.setCellP ?_ ?_; focus (first | (simp; done) | (simp; omega) | omega)))), by first | (exact Blk.new w0 [U pf, U pu, .slice none 0 0] 35) | exact ((((Blk.new w0 [.int .u32 0, .int .u32 0, .slice none 0 0] 35).set 0 (U pf)).set 1 (U pu)).set 2 (.slice none 0 0))⟩ (fun W6 hW6 => ?_)
      obtain ⟨hx6, hp6⟩ := hW6
      have HX6 := Lib.hid hx6
      have HP6 := Lib.hid hp6
      have HX0 := Lib.hid hx0
      have HKB := Lib.hid (show yb + 1 ≤ w0.heap.size from Nat.lt_of_lt_of_le HOC.out.lt hx0.size)
      clear hx6 hp6 hx0
      generalize hkb : w0.heap.size = kb at *
      have HKE := Lib.hid hkb
      clear hkb
      obtain ⟨wx, rfl⟩ : ∃ wx : World, wx = wr := ⟨_, rfl⟩
      go_wp2_with fail
      go_loopw [13] (fun i wq => ∃ (j : Nat) (u : Value), j ≤ 2 * N.length ∧ i = I j ∧ Hid (Blk wq kb [U pf, U pu, u] 35) ∧ Hid (OwnI wq (kb + 1) u ((dblR r).take j)) ∧ Hid (Ext w0 wq)) (fun i _ => 2 * N.length - (intOf i).toNat)
      case atStart => exact ⟨0, .slice none 0 0, by omega, rfl, HP6.out, ⟨by simp [icells], .inl ⟨rfl, rfl⟩⟩, HX6.out⟩
      case round =>
        obtain ⟨j, u, hj, rfl, HPB, HOI2, HXq⟩ := hrel
        have HDL := Lib.hid (show (dblR r).length = 2 * N.length by rw [dblR_len, HRM.out.1])
        have HLU := Lib.hid (show ((dblR r).take j).length = j by rw [List.length_take, HDL.out]; omega)
        obtain ⟨ua, ucap, hu, ub1, ub2, -⟩ := HOI2.out.ints.form
        rw [HLU.out] at hu ub1
        subst hu
        unfold maxLen at ub2
        have hpc := HPB.out.cells
        have hpf := HPB.out.frozen
        by_cases hjl : j < 2 * N.length
        · have hjd : decide ((j : Int) < 2 * (N.length : Int)) = true := decide_eq_true (by omega)
          have HXT := Lib.hid (HX.out.trans (HX0.out.trans HXq.out))
          have HJL := Lib.hid hjl
          clear hjd
          by_cases hjn : j < N.length
          case' pos =>
            have hjr : j < r.length := by rw [HRM.out.1]; exact hjn
            have hjr' : (j : Int) < (r.length : Int) := by omega
            have hjd : decide ((j : Int) < (N.length : Int)) = true := decide_eq_true (by omega)
            have HRS := Lib.hid (show (dblR r).take (j + 1) = (dblR r).take j ++ [2 * r[j]] by
              rw [List.take_succ_eq_append_getElem (by rw [HDL.out]; omega)]
              congr 2
              exact Option.some.inj ((List.getElem?_eq_getElem _).symm.trans (dblR_at hjr)))
            obtain ⟨_, _, hre, _, hrm, R3⟩ := HIR.out.form
            simp only [Value.slice.injEq, true_and] at hre
            obtain ⟨rfl, rfl⟩ := hre
            obtain ⟨b1, o1, he1, rj⟩ := R3 j _ (List.getElem?_eq_getElem hjr)
            subst he1
            have hyb := HRM.out.2 _ (List.getElem_mem hjr)
            generalize r[j] = y at *
            have hzv : IntKind.i64.wrap (2 * y) = 2 * y := by rw [IntKind.wrap_i64]; omega
            clear R3 hrm
            go_upto_region 15 with fail
            refine wp_region_R (RB (kb + 1)) 14 rfl (by kernel_rfl) (by kernel_rfl) (fun wz hxz => ?_)
            have hszk : kb + 1 ≤ wz.heap.size := (HPB.out.later hxz).lt
            have HW0 := Lib.hid (HX.out.trans HX0.out)
            have g0 := RB.keep (p := ⟨kb, 2, none⟩) hszk (by simp) ((HPB.out.later hxz).cells 2)
            have g1 := RB.keep (p := ⟨xc, 1, none⟩) hszk (by have h1 := HQr.out.lt; have h2 := HX0.out.size; rw [HKE.out] at h2; show xc < kb + 1; omega) (((HQ10.out.later HXT.out).later hxz).cells 1)
            have g2 := RB.keep hszk (Nat.lt_succ_of_lt (HKE.out ▸ cell_ltR (HX0.out.cell HQ2.out))) ((HXq.out.trans hxz).cell (HX0.out.cell HQ2.out))
            have g3 := RB.keep hszk (Nat.lt_succ_of_lt (HKE.out ▸ cell_ltR (HW0.out.cell rj))) ((HXT.out.trans hxz).cell rj)
            clear rj
            refine WRi_at 0 ?_
            iterate 12
              refine WRi_q (preRB _) rfl (by decide) (by kernel_rfl) rfl ?_; apply Exists.intro; refine ⟨fun w1 hx1 => ?_, ?_⟩
              · go_simp; try go_bits
                first | with_reducible rfl | rfl
              simp only [Act.put, List.setIfInBounds_toArray, List.set_cons_zero, List.set_cons_succ, Nat.reduceAdd]
            refine WRi_out ?_
            refine WR_one 12 rfl (by decide) (by kernel_rfl) rfl (fun K hK => ?_)
            go_simp
            refine hK _ _ (RB.ext ((Ext.refl _).alloc _)) ?_
            clear hK K g0 g1 g2 g3 hpc hpf
            have HXA := Lib.hid (show Ext wr (wz.alloc (.cells #[I (2 * y)] 3)) from hxz.alloc _)
            have HOA := Lib.hid (show (wz.alloc (.cells #[I (2 * y)] 3)).ownsRow (kb + 1) 3 1 (.slice ua j ucap) j (icells ((dblR r).take j)) from by have h := HOI2.out.later HXA.out; unfold OwnI at h; rw [HLU.out] at h; exact h)
            have HPA := Lib.hid (HPB.out.later HXA.out)
            have HSRC := Lib.hid (Reads.made wz 1 3 1 [I (2 * y)] rfl (by unfold maxLen; omega))
            have HSZ := Lib.hid (show kb + 1 ≤ (wz.alloc (.cells #[I (2 * y)] 3)).heap.size from HPA.out.lt)
            clear hxz hszk
            refine WR_one 13 rfl (by decide) (by kernel_rfl) rfl (fun K hK => ?_)
            refine wp_of_list (ops := #[]) rfl ?_
            refine wpList_app rfl (.tmp 68) (.tmp 79) 27 rfl (kb + 1) 3 _ 1 8 Try.underlying27 infoInt rfl (by decide) (by decide) _ _ _ rfl HOA.out _ _ _ rfl HSRC.out (by intro q hq; simp at hq; subst hq; rfl) (by omega) HSZ.out ?_
            intro v7 w7 ho7 hg7
            have HPG := Lib.hid (blk_grownT HPA.out HOA.out (by decide) hg7)
            have HXG := Lib.hid (Ext.grown (HXq.out.trans HXA.out) hg7 HOA.out (by rw [HKE.out]; omega))
            have HO7 := Lib.hid (show OwnI w7 (kb + 1) v7 ((dblR r).take (j + 1)) from by
              unfold OwnI
              rw [HRS.out, List.length_append, HLU.out, icells_app]
              exact ho7)
            refine ⟨rfl, hK _ _ (RB.below HSZ.out (Below.grown (Below.refl _ _) hg7 HSZ.out fun q hq => (HOA.out.lt q hq).1)) ?_⟩
            clear hK K ho7 hg7
            simp only [Act.put, List.setIfInBounds_toArray, List.set_cons_zero, List.set_cons_succ]
            obtain ⟨xa, xcap, hxv, -⟩ := HO7.out.ints.form
            rw [show ((dblR r).take (j + 1)).length = j + 1 by rw [List.length_take, HDL.out]; have := HJL.out; omega] at hxv
            subst hxv
            have hpc := HPG.out.cells
            have hpf := HPG.out.frozen
            refine WR_done (by kernel_rfl) ?_
            (try simp only [List.drop_succ_cons, List.drop_zero])
            go_wp2_with fail
            go_roundw
            case rel => exact ⟨j + 1, _, Nat.succ_le_of_lt HJL.out, by go_num, HPG.out.set 2 _, own_set HO7.out (by simp) _, HXG.out.setCell (Nat.le_of_eq HKE.out) _⟩
            case measure => have := HJL.out; simp [intOf]; omega
          case' neg =>
            have hjd : decide ((j : Int) < (N.length : Int)) = false := decide_eq_false (by omega)
            have HRS := Lib.hid (show (dblR r).take (j + 1) = (dblR r).take j ++ [0] by
              rw [List.take_succ_eq_append_getElem (by rw [HDL.out]; exact hjl)]
              congr 2
              exact Option.some.inj ((List.getElem?_eq_getElem _).symm.trans (dblR_zero (by rw [HRM.out.1]; omega) (by rw [HRM.out.1]; omega))))
            have HXA := Lib.hid ((Ext.refl wr).alloc (.cells #[I 0] 3))
            have HOA := Lib.hid (show (wr.alloc (.cells #[I 0] 3)).ownsRow (kb + 1) 3 1 (.slice ua j ucap) j (icells ((dblR r).take j)) from by have h := HOI2.out.later HXA.out; unfold OwnI at h; rw [HLU.out] at h; exact h)
            have HPA := Lib.hid (HPB.out.later HXA.out)
            have HSRC := Lib.hid (Reads.made wr 1 3 1 [I 0] rfl (by unfold maxLen; omega))
            have HSZ := Lib.hid (show kb + 1 ≤ (wr.alloc (.cells #[I 0] 3)).heap.size from HPA.out.lt)
            go_wp2_with (first
              | (at_builtin
                 go_loud (
                   refine wpList_app rfl (.tmp 83) (.tmp 84) 27 rfl (kb + 1) 3 _ 1 8 Try.underlying27 infoInt rfl (by decide) (by decide) _ _ _ rfl HOA.out _ _ _ rfl HSRC.out (by intro q hq; simp at hq; subst hq; rfl) (by omega) HSZ.out ?_
                   intro v7 w7 ho7 hg7
                   have HPG := Lib.hid (blk_grownT HPA.out HOA.out (by decide) hg7)
                   have HXG := Lib.hid (Ext.grown (HXq.out.trans HXA.out) hg7 HOA.out (by rw [HKE.out]; omega))
                   have HO7 := Lib.hid (show OwnI w7 (kb + 1) v7 ((dblR r).take (j + 1)) from by
                     unfold OwnI
                     rw [HRS.out, List.length_append, HLU.out, icells_app]
                     exact ho7)
                   clear ho7 hg7 hpc hpf
                   obtain ⟨xa, xcap, hxv, -⟩ := HO7.out.ints.form
                   rw [show ((dblR r).take (j + 1)).length = j + 1 by rw [List.length_take, HDL.out]; have := HJL.out; omega] at hxv
                   subst hxv
                   have hpc := HPG.out.cells
                   have hpf := HPG.out.frozen)))
            go_roundw
            case rel => exact ⟨j + 1, _, Nat.succ_le_of_lt HJL.out, by go_num, HPG.out.set 2 _, own_set HO7.out (by simp) _, HXG.out.setCell (Nat.le_of_eq HKE.out) _⟩
            case measure => have := HJL.out; simp [intOf]; omega
        · obtain rfl : j = 2 * N.length := by omega
          have hjd : decide ((2 * (N.length : Int)) < 2 * (N.length : Int)) = false := decide_eq_false (by omega)
          have HRE := Lib.hid (show (dblR r).take (2 * N.length) = dblR r by rw [List.take_of_length_le (by rw [HDL.out]; exact Nat.le_refl _)])
          have hoi := HOI2.out
          rw [HRE.out] at hoi
          have HOIE := Lib.hid (own_low hoi (show yb + 1 ≤ kb + 1 by have := HKB.out; omega))
          clear hoi HOI2
          have HOPq := HOP.out.later (HX0.out.trans HXq.out)
          have HOCq := Lib.hid (HOC.out.later (HX0.out.trans HXq.out))
          obtain ⟨qp, hown, hql, hqs⟩ := HOPq
          obtain ⟨-, xa, xcap, hva, -⟩ := Reads.of_own hown
          rw [HPL.out] at hva
          subst hva
          have hoc := HOCq.out.cells
          have HA := Lib.hid ((Ext.refl wr).alloc (.cells #[U pf, U pu, .slice ua (2 * N.length) ucap] 35))
          have HOWN := Lib.hid (own_later hown HA.out)
          rw [HPL.out] at HOWN
          have HQS := Lib.hid (fun i q h => let ⟨p, g1, g2, g3, g4⟩ := hqs i q h; (⟨p, g1, g2, g3, g4.later HA.out⟩ : ∃ p, qp[i]? = some p ∧ p.fr = q.fr ∧ p.up = q.up ∧ OwnI _ _ p.rk q.rk))
          have HQL := Lib.hid hql
          have HOIA := Lib.hid (own_later HOIE.out HA.out)
          have HOCA := Lib.hid (HOCq.out.later HA.out)
          have HSRC := Lib.hid (Reads.made wr 3 35 1 (Prt.cells ⟨pf, pu, ua, 2 * N.length, ucap⟩) rfl (by unfold maxLen; omega))
          have HSZ := Lib.hid (show yb + 1 ≤ (wr.alloc (.cells #[U pf, U pu, .slice ua (2 * N.length) ucap] 35)).heap.size from HOCA.out.lt)
          have HXF := Lib.hid (HX.out.trans (HX0.out.trans (HXq.out.trans HA.out)))
          clear hown hql hqs HOCq
          have hc2 : (((2 * N.length : Nat) : Int)) = 2 * (N.length : Int) := by omega
          go_wp2_with (first
            | (at_builtin
               go_loud (
                 refine wpList_app rfl (.tmp 88) (.tmp 90) 25 rfl (yb + 1) 35 _ 3 32 Try.underlying25 infoPart rfl (by decide) (by decide) _ _ _ rfl HOWN.out _ _ _ rfl HSRC.out (fun q hq => pcells_one [⟨pf, pu, ua, 2 * N.length, ucap⟩] q (by simpa [pcells] using hq)) (by omega) HSZ.out ?_
                 intro v9 w9 ho9 hg9
                 have HP9 := Lib.hid (show OwnPR w9 (yb + 1) v9 ((dblP c8.ps c8.rks).take (k + 1)) from by
                   rw [HST.out]
                   exact OwnPR.app (p := ⟨pf, pu, ua, 2 * N.length, ucap⟩) (by rw [HPL.out]; exact HOWN.out) HQL.out HQS.out (by rw [HPL.out]; exact ho9) hg9 ⟨rfl, rfl, HOIA.out⟩)
                 have HC9' := Lib.hid (blk_grownT HOCA.out HOWN.out (by decide) hg9)
                 have HX9' := Lib.hid (Ext.grown HXF.out hg9 HOWN.out (by rw [HYB.out]; omega))
                 obtain ⟨xp, hx1, -, -⟩ := HP9.out
                 obtain ⟨-, ya, ycap, hxv, -⟩ := Reads.of_own hx1
                 rw [show ((dblP c8.ps c8.rks).take (k + 1)).length = k + 1 by rw [List.length_take, dblP_len HLEN.out]; have := HLT.out; omega] at hxv
                 subst hxv
                 have hc9 := HC9'.out.cells
                 have hf9 := HC9'.out.frozen
                 clear ho9 hg9 hx1)))
          go_roundw
          case rel => exact ⟨k + 1, _, Nat.succ_le_of_lt HLT.out, by go_num, HC9'.out.set 1 _, HP9.out.setCell (by simp) _, HX9'.out.setCell (Nat.le_of_eq HYB.out) _⟩
          case measure => have := HLT.out; simp [intOf]; omega
    · obtain rfl : k = c8.ps.length := by omega
      have hkd : decide ((c8.ps.length : Int) < (c8.ps.length : Int)) = false := decide_eq_false (by omega)
      have HRE := Lib.hid (show (dblP c8.ps c8.rks).take c8.ps.length = dblP c8.ps c8.rks from List.take_of_length_le (by rw [dblP_len HLEN.out]; exact Nat.le_refl _))
      have hop := HOP.out
      rw [HRE.out] at hop
      obtain ⟨qs, hq1, hq2⟩ := dbl_at HLEN.out hop (HC10.out.later HX.out).tr
      obtain ⟨l, hcl⟩ := cuts_exist N.flatten
      have hcw : Cuts (wideN N).flatten l := by rw [wideN_flat]; exact hcl
      have hlaw := dbl_law (l := l) HNM.out (by omega) HM8.out hq1
      rw [wideN_len, show ((2 * N.length : Nat) : Int) = 2 * (N.length : Int) by omega] at hlaw
      have HLAW := Lib.hid hlaw
      have HTW := Lib.hid (HT10.out.later HX.out)
      have HQW := Lib.hid hq2
      have HOKW := Lib.hid (wideN_ok HNO.out)
      have HN1 := Lib.hid (show ∀ W, Ext wr W → Calls Try.prog 19 #[.agg #[.slice va8 (N.length + N.length) vc8]] W fun e w' => e = .returned (I 0) ∧ Ext W w' from fun W hW => by
        have h1 := netMay_any _ (wideN N) W (HTW.out.later hW) HOKW.out (by rw [wideN_size]; exact Nat.le_trans HNS.out (by decide))
        rw [wideN_may HNM.out (by omega)] at h1
        exact h1)
      have HN2 := Lib.hid (show ∀ W, Ext wr W → Calls Try.prog 20 #[.agg #[I c8.vd, v, U c8.dest, .slice tb c8.tr.length tbc], I (2 * (N.length : Int))] W fun e w' => e = .returned (I 0) ∧ Ext W w' from fun W hW => by
        have h1 := certMay_any _ _ ⟨c8.vd, qs, c8.rks.map dblR, c8.dest, c8.tr⟩ (2 * (N.length : Int)) W (HQW.out.later hW) HI8.out
        rw [HLAW.out.1] at h1
        exact h1)
      have HN3 := Lib.hid (show ∀ W, Ext wr W → Calls Try.prog 21 #[.agg #[.slice va8 (N.length + N.length) vc8], .agg #[I c8.vd, v, U c8.dest, .slice tb c8.tr.length tbc]] W fun e w' => e = .returned (.agg #[I (ansV l N c8).1, I (ansV l N c8).2]) ∧ Ext W w' from fun W hW => by
        have h1 := checkNet_any _ _ _ (wideN N) ⟨c8.vd, qs, c8.rks.map dblR, c8.dest, c8.tr⟩ l W (HTW.out.later hW) HOKW.out (by rw [wideN_size]; exact Nat.le_trans HNS.out (by decide)) hcw (HQW.out.later hW) HI8.out
        rw [HLAW.out.2] at h1
        exact h1)
      have HN4 := Lib.hid (show ∀ W, Ext wr W → Calls Try.prog 21 #[.agg #[.slice va N.length vcap], .agg #[I c8.vd, .slice pb c8.ps.length pbc, U c8.dest, .slice tb c8.tr.length tbc]] W fun e w' => e = .returned (.agg #[I (ansV l N c8).1, I (ansV l N c8).2]) ∧ Ext W w' from fun W hW =>
        checkNet_any _ _ _ N c8 l W (HF9.out.later (HX10.out.trans (HX.out.trans hW))) HNO.out (Nat.le_trans HNS.out (by decide)) hcl (HC10.out.later (HX.out.trans hW)) HI8.out)
      have hwb := (HW10.out.later HX.out).keep
      have hyb := HOC.out.keep
      have hfb := (HB9.out.later (HX10.out.trans HX.out)).keep
      generalize (ansV l N c8).1 = z1 at *
      generalize (ansV l N c8).2 = z2 at *
      have hz1 : (z1 == z1) = true := by simp
      have hz2 : (z2 == z2) = true := by simp
      clear hlaw HLAW hcl hcw hop hq1 hq2
      go_upto_region 18 with fail
      refine wp_region_E 22 rfl (by kernel_rfl) (by kernel_rfl) ?_
      refine WEi_at 0 ?_
      iterate 3
        refine WEi_q rfl (by decide) (by kernel_rfl) rfl ?_; apply Exists.intro; refine ⟨fun w1 hx1 => ?_, ?_⟩
        · have hq1 := hx1.cells; go_simp; try go_bits
          first | with_reducible rfl
        simp only [Act.put, List.setIfInBounds_toArray, List.set_cons_zero, List.set_cons_succ, Nat.reduceAdd]
      refine WEi_out ?_
      refine WE_q 3 rfl (by decide) (by kernel_rfl) rfl ?_; apply Exists.intro; refine ⟨fun w1 hx1 => ?_, ?_⟩
      · have hq1 := hx1.cells; go_simp; try go_bits
        first | with_reducible rfl | ((refine (HN1.out _ hx1).mono ?_; rintro e w' ⟨rfl, hx⟩; exact ⟨rfl, hx⟩))
      simp only [Act.put, List.setIfInBounds_toArray, List.set_cons_zero, List.set_cons_succ]
      refine WEi_at 4 ?_
      iterate 6
        refine WEi_q rfl (by decide) (by kernel_rfl) rfl ?_; apply Exists.intro; refine ⟨fun w1 hx1 => ?_, ?_⟩
        · have hq1 := hx1.cells; go_simp; try go_bits
          first | with_reducible rfl
        simp only [Act.put, List.setIfInBounds_toArray, List.set_cons_zero, List.set_cons_succ, Nat.reduceAdd]
      refine WEi_out ?_
      refine WE_q 10 rfl (by decide) (by kernel_rfl) rfl ?_; apply Exists.intro; refine ⟨fun w1 hx1 => ?_, ?_⟩
      · have hq1 := hx1.cells; go_simp; try go_bits
        first | with_reducible rfl | ((refine (HN2.out _ hx1).mono ?_; rintro e w' ⟨rfl, hx⟩; exact ⟨rfl, hx⟩))
      simp only [Act.put, List.setIfInBounds_toArray, List.set_cons_zero, List.set_cons_succ]
      refine WEi_at 11 ?_
      iterate 5
        refine WEi_q rfl (by decide) (by kernel_rfl) rfl ?_; apply Exists.intro; refine ⟨fun w1 hx1 => ?_, ?_⟩
        · have hq1 := hx1.cells; go_simp; try go_bits
          first | with_reducible rfl
        simp only [Act.put, List.setIfInBounds_toArray, List.set_cons_zero, List.set_cons_succ, Nat.reduceAdd]
      refine WEi_out ?_
      refine WE_q 16 rfl (by decide) (by kernel_rfl) rfl ?_; apply Exists.intro; refine ⟨fun w1 hx1 => ?_, ?_⟩
      · have hq1 := hx1.cells; go_simp; try go_bits
        first | with_reducible rfl | ((refine (HN3.out _ hx1).mono ?_; rintro e w' ⟨rfl, hx⟩; exact ⟨rfl, hx⟩))
      simp only [Act.put, List.setIfInBounds_toArray, List.set_cons_zero, List.set_cons_succ]
      refine WEi_at 17 ?_
      iterate 2
        refine WEi_q rfl (by decide) (by kernel_rfl) rfl ?_; apply Exists.intro; refine ⟨fun w1 hx1 => ?_, ?_⟩
        · have hq1 := hx1.cells; go_simp; try go_bits
          first | with_reducible rfl
        simp only [Act.put, List.setIfInBounds_toArray, List.set_cons_zero, List.set_cons_succ, Nat.reduceAdd]
      refine WEi_out ?_
      refine WE_q 19 rfl (by decide) (by kernel_rfl) rfl ?_; apply Exists.intro; refine ⟨fun w1 hx1 => ?_, ?_⟩
      · have hq1 := hx1.cells; go_simp; try go_bits
        first | with_reducible rfl | ((refine (HN4.out _ hx1).mono ?_; rintro e w' ⟨rfl, hx⟩; exact ⟨rfl, hx⟩))
      simp only [Act.put, List.setIfInBounds_toArray, List.set_cons_zero, List.set_cons_succ]
      refine WEi_at 20 ?_
      iterate 2
        refine WEi_q rfl (by decide) (by kernel_rfl) rfl ?_; apply Exists.intro; refine ⟨fun w1 hx1 => ?_, ?_⟩
        · have hq1 := hx1.cells; go_simp; try go_bits
          first | with_reducible rfl
        simp only [Act.put, List.setIfInBounds_toArray, List.set_cons_zero, List.set_cons_succ, Nat.reduceAdd]
      refine WEi_out ?_
      refine WE_done (by kernel_rfl) (fun w8 hx8 => ?_)
      (try simp only [List.drop_succ_cons, List.drop_zero])
      have HX8 := Lib.hid (HX.out.trans hx8)
      go_wp2_with fail
      go_ret
      exact ⟨rfl, HX9.out.trans (HX10.out.trans HX8.out)⟩
end Go.Proofs.Ytpfkfboohblgoaa
