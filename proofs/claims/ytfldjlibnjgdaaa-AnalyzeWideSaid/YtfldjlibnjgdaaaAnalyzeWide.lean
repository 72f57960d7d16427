/- The law AnalyzeWide: with a node more that does nothing the certificate is the same, with one rank of 0 more. Conditions: whole numbers are within 64 bits. -/
import Derived.Test.YtfldjlibnjgdaaaGAna
import Derived.Test.YtfldjlibnjgdaaaAnaW
import Derived.Test.YtfldjlibnjgdaaaGNetP
namespace Go.Proofs.Ytfldjlibnjgdaaa
open Go Go.RowKit Go.Maps Go.Proofs

theorem len_one (r : List Int) : (r ++ [0]).length = r.length + 1 := by rw [List.length_append]; rfl
theorem tabs_one {w : World} {v : Value} {ls : List (List Rul)} (h : TablesAt w v ls) : ∃ vs : List Value, Reads w 1 v ls.length vs ∧ (∀ u ∈ vs, u.oneCell' = true) ∧ vs.length = ls.length ∧ ∀ (i : Nat) (l : List Rul), ls[i]? = some l → ∃ u, vs[i]? = some u ∧ RulesAt w u l := by
  obtain ⟨vs, h1, h2⟩ := h
  have hl : vs.length = ls.length := by have := h1.1; simpa using this
  refine ⟨vs, h1, fun u hu => ?_, hl, h2⟩
  obtain ⟨i, hi⟩ := List.getElem?_of_mem hu
  have hil := (List.getElem?_eq_some_iff.1 hi).1
  obtain ⟨u', g1, g2⟩ := h2 i _ (List.getElem?_eq_getElem (by omega))
  rw [hi] at g1
  cases g1
  obtain ⟨a, c, rfl, -⟩ := g2.form
  rfl
set_option maxHeartbeats 4000000 in
set_option maxRecDepth 100000 in
theorem analyzeWide_any (lv : Value) (ls : List (List Rul)) (w : World) (hl : TablesAt w lv ls) (hok : TablesOk ls) :
    Calls Try.prog 4 #[.agg #[lv]] w fun e w' => e = .returned (.bool true) ∧ Ext w w' := by
  have HL := Lib.hid hl
  have HOK := Lib.hid hok
  obtain ⟨ad, cap, hlv, a1, a2, a3⟩ := hl.form
  subst hlv
  clear a3 hl hok
  unfold maxLen at a2
  go_enter Try.func4, Try.ntmps4
  go_upto_region 1 with (fail)
  refine hideW (Φ := fun W => Code.wp _ _ _ _ W) (fun W => Ext w W ∧ Blk W w.heap.size [.slice ad ls.length cap] 24)
    ⟨by (repeat (first | with_reducible exact Ext.refl _ | with_reducible assumption | with_reducible refine Ext.alloc ?_ _ | with_reducible refine Ext.drew ?_ | with_reducible refine Ext.drewN ?_ _ | (with_reducible refine Ext.setCellP ?_ ?_; focus (first | (simp; done) | (simp; omega) | omega)))), (Blk.new w [.slice ad ls.length cap] 24)⟩ (fun W1 hW1 => ?_)
  obtain ⟨hx1, hb1⟩ := hW1
  have HX1 := Lib.hid hx1
  have HB1 := Lib.hid hb1
  clear hx1 hb1
  generalize w.heap.size = nb at *
  go_upto_region 2 with (first
    | (go_at_call 7; (with_reducible refine (shown21_any _).mono ?_); rintro e w2 ⟨rfl, hx2⟩; have HX2 := Lib.hid (HX1.out.trans hx2); have HB2 := Lib.hid (HB1.out.later hx2); clear hx2))
  have hbc2 := HB2.out.cells
  have HNM := Lib.hid (fitN_may ls)
  have HNS := Lib.hid (fitN_size ls)
  have HNO := Lib.hid (fitN_ok ls)
  have HN20 := Lib.hid (@fitN_short ls)
  have hN := fitN_bd ls
  go_upto_region 3 with (first
    | (go_at_call 8; (with_reducible refine (r09Fit_any _ ls _ (HL.out.later HX2.out) HOK.out).mono ?_); rintro e w3 ⟨v3, he, hF, hx3⟩; subst he; have HF3 := Lib.hid hF.tables; obtain ⟨va, vcap, hv3, q1, q2, q3⟩ := HF3.out.form; subst hv3; clear q3; have HX3 := Lib.hid (HX2.out.trans hx3); clear hF hx3))
  generalize fitN ls = N at *
  clear hbc2 HB2 HB1
  unfold maxLen at q2
  refine hideW (Φ := fun W => Code.wp _ _ _ _ W) (fun W => Ext w3 W ∧ Blk W w3.heap.size [.slice va N.length vcap] 24)
    ⟨by (repeat (first | with_reducible exact Ext.refl _ | with_reducible assumption | with_reducible refine Ext.alloc ?_ _ | with_reducible refine Ext.drew ?_ | with_reducible refine Ext.drewN ?_ _ | (with_reducible refine Ext.setCellP ?_ ?_; focus (first | (simp; done) | (simp; omega) | omega)))), Blk.new w3 [.slice va N.length vcap] 24⟩ (fun W4 hW4 => ?_)
  obtain ⟨hx4, hb4⟩ := hW4
  have HX4 := Lib.hid (HX3.out.trans hx4)
  have HF4 := Lib.hid (HF3.out.later hx4)
  have HB4 := Lib.hid hb4
  have hbc4 := hb4.cells
  clear hx4 hb4 HF3 HX3 HX1 HX2
  generalize w3.heap.size = fb at *
  go_upto_region 4 with (first
    | (go_at_call 9; (with_reducible refine (aNet_good _ N _ HF4.out HNO.out HNM.out).mono ?_); rintro e w5 ⟨pv, tv, c, he, hc, ha, hx5⟩; subst he; have HC5 := Lib.hid hc; have HAI := Lib.hid ha; obtain ⟨pa, pc, hpe, p1, p2, -⟩ := hc.parts.form; subst hpe; obtain ⟨ta, tc, hte, t1, t2, -⟩ := hc.tr.form; subst hte; have HX5 := Lib.hid hx5; clear hx5 hc ha))
  have HA := Lib.hid (HAI.out.facts HNM.out)
  refine hideW (Φ := fun W => Code.wp _ _ _ _ W) (fun W => Ext w5 W ∧ Blk W w5.heap.size [I c.vd, .slice pa c.ps.length pc, U c.dest, .slice ta c.tr.length tc] 31)
    ⟨(Ext.refl _).alloc _, Blk.new w5 [I c.vd, .slice pa c.ps.length pc, U c.dest, .slice ta c.tr.length tc] 31⟩ (fun W6 hW6 => ?_)
  obtain ⟨hx6, hk6⟩ := hW6
  have HC6 := Lib.hid (HC5.out.later hx6)
  have HX6 := Lib.hid (HX5.out.trans hx6)
  have HK6 := Lib.hid hk6
  have HF6 := Lib.hid (HF4.out.later HX6.out)
  clear hx6 hk6 hbc4 HC5 HX5
  generalize w5.heap.size = kb at *
  obtain ⟨vs, hrd, hon, hvl, hvs⟩ := tabs_one HF6.out
  have HON := Lib.hid hon
  have HVL := Lib.hid hvl
  have HVS := Lib.hid hvs
  have HXA := Lib.hid ((Ext.refl W6).alloc (.cells #[] 53))
  have HOA := Lib.hid (show (W6.alloc (.cells #[] 53)).ownsRow W6.heap.size 53 1 (.slice (some ⟨W6.heap.size, 0, none⟩) 0 0) 0 [] from own_made W6 1 53 0 [] rfl (by unfold maxLen; omega))
  have HRD := Lib.hid (show Reads (W6.alloc (.cells #[] 53)) 1 (.slice va N.length vcap) N.length vs from Reads.later hrd HXA.out)
  clear hrd hon hvl hvs
  have hbc := (HB4.out.later (HX6.out.trans HXA.out)).cells
  have HWM := Lib.hid (wide_may HNM.out (by omega))
  have HWO := Lib.hid (wide_ok HNO.out)
  go_upto_region 5 with (first
    | (at_builtin
       refine wpList_app rfl (.tmp 20) (.tmp 22) 22 rfl W6.heap.size 53 _ 1 24 Try.underlying22 infoRules rfl (by decide) (by decide) _ _ _ rfl HOA.out _ _ _ rfl HRD.out HON.out (by omega) HXA.out.size ?_
       intro v7 w7 ho7 hg7
       have HX7 := Lib.hid (Ext.grown HXA.out hg7 HOA.out (Nat.le_refl _))
       have HO7 := Lib.hid (show w7.ownsRow W6.heap.size 53 1 v7 N.length vs from by rw [Nat.zero_add, List.nil_append] at ho7; exact ho7)
       have HX7B := Lib.hid (HX7.out.alloc (.cells #[.slice none 0 0] 53))
       have HO7B := Lib.hid (own_later HO7.out ((Ext.refl w7).alloc (.cells #[.slice none 0 0] 53)))
       have HS7 := Lib.hid (show Reads (w7.alloc (.cells #[.slice none 0 0] 53)) 1 (.slice (some ⟨w7.heap.size, 0, none⟩) 1 1) 1 [.slice none 0 0] from Reads.made w7 1 53 1 [.slice none 0 0] rfl (by unfold maxLen; omega))
       clear ho7 hg7)
    | (at_builtin
       refine wpList_app rfl (.tmp 23) (.tmp 24) 22 rfl W6.heap.size 53 _ 1 24 Try.underlying22 infoRules rfl (by decide) (by decide) _ _ _ rfl HO7B.out _ _ _ rfl HS7.out (by intro q hq; simp at hq; subst hq; rfl) (by omega) HX7B.out.size ?_
       intro v8 w8 ho8 hg8
       obtain ⟨za, zc, hv8⟩ := own_form ho8
       subst hv8
       have HX8 := Lib.hid (Ext.grown HX7B.out hg8 HO7B.out (Nat.le_refl _))
       have HT8 := Lib.hid (show TablesAt w8 (.slice za (N.length + 1) zc) (N ++ [[]]) from ⟨vs ++ [.slice none 0 0], by rw [List.length_append]; exact Reads.of_own ho8, fun i l hi => by
         rcases snoc_get hi with hi | ⟨rfl, rfl⟩
         · obtain ⟨u, g1, g2⟩ := HVS.out i l hi
           exact ⟨u, by rw [List.getElem?_append_left (List.getElem?_eq_some_iff.1 g1).1]; exact g1, g2.later HX8.out⟩
         · exact ⟨.slice none 0 0, by rw [List.getElem?_append_right (by rw [HVL.out]; exact Nat.le_refl _), HVL.out, Nat.sub_self]; rfl, Reads.nil w8 4⟩⟩)
       clear ho8 hg8)
    | (go_at_call 9; (with_reducible refine (aNet_good _ (N ++ [[]]) _ HT8.out HWO.out HWM.out).mono ?_); rintro e w9 ⟨qv, sv, d, he, hd, ha, hx9⟩; subst he; have HD9 := Lib.hid hd; have HEQ := Lib.hid (ana_wide_eq HAI.out ha); obtain ⟨qa, qc, hqe, q3, q4, -⟩ := hd.parts.form; subst hqe; obtain ⟨sa, sc, hse, s1, s2, -⟩ := hd.tr.form; subst hse; have HX9 := Lib.hid (HX8.out.trans hx9); clear hx9 hd ha))
  clear hbc
  obtain ⟨vd', qs, rks', de', tr'⟩ := d
  obtain ⟨e1, e2, e3, e4, e5⟩ := HEQ.out
  simp only [wideC] at e1 e2 e3 e4 e5
  subst e1; subst e2; subst e3; subst e4
  have HQL := Lib.hid (show qs.length = c.ps.length by have := congrArg List.length e5; simpa using this)
  have HE := Lib.hid (show ∀ (i : Nat) (p q : Prt), c.ps[i]? = some p → qs[i]? = some q → q.fr = p.fr ∧ q.up = p.up from fun i p q hp hq => by
    have h6 := congrArg (fun l => l[i]?) e5
    simp only [List.getElem?_map, hp, hq, Option.map_some, Option.some.injEq, Prod.mk.injEq] at h6
    exact h6)
  clear e5 HEQ
  refine hideW (Φ := fun W => Code.wp _ _ _ _ W) (fun W => Ext w9 W ∧ Blk W w9.heap.size [I c.vd, .slice qa qs.length qc, U c.dest, .slice sa c.tr.length sc] 31)
    ⟨(Ext.refl _).alloc _, Blk.new w9 [I c.vd, .slice qa qs.length qc, U c.dest, .slice sa c.tr.length sc] 31⟩ (fun WA hWA => ?_)
  obtain ⟨hxA, hkA⟩ := hWA
  have HXA2 := Lib.hid (HX9.out.trans hxA)
  have HDA := Lib.hid (HD9.out.later hxA)
  have HCA := Lib.hid (HC6.out.later HXA2.out)
  have HKA := Lib.hid (HK6.out.later HXA2.out)
  have HJA := Lib.hid hkA
  clear hxA hkA HD9 HC6 HK6
  rw [HQL.out] at HJA
  generalize w9.heap.size = jb at *
  have hkc := HKA.out.cells
  have hjc := HJA.out.cells
  go_upto_region 7 with (first
    | (go_at_call 11; (with_reducible refine (r09Row_any _ _ c.tr c.tr _ HCA.out.tr HDA.out.tr).mono ?_); rintro e wB ⟨he, hxB⟩; replace he := he.trans (congrArg (fun b => Ending.returned (.bool b)) (decide_eq_true rfl)); subst he; have HXB := Lib.hid hxB; have hkc2 := (HKA.out.later hxB).cells; have hjc2 := (HJA.out.later hxB).cells; clear hxB))
  clear hkc hjc hkc2 hjc2
  go_wp2_with fail
  go_loopw [9] (fun i wr => ∃ k : Nat, k ≤ c.ps.length ∧ i = I k ∧ Hid (Ext WA wr)) (fun i _ => c.ps.length - (intOf i).toNat)
  case atStart => exact ⟨0, Nat.zero_le _, rfl, HXB.out⟩
  case round =>
    obtain ⟨k, hk, rfl, HX⟩ := hrel
    have hkc := (HKA.out.later HX.out).cells
    have hpsl : c.ps.length ≤ 9223372036854775807 := by unfold maxLen at p2; omega
    by_cases hlt : k < c.ps.length
    · have hkd : decide ((k : Int) < (c.ps.length : Int)) = true := decide_eq_true (by omega)
      have HLT := Lib.hid hlt
      have hlq : k < qs.length := by rw [HQL.out]; exact hlt
      have hlr : k < c.rks.length := by rw [HA.out.rln]; exact hlt
      have hlr2 : k < (c.rks.map (· ++ [0])).length := by rw [List.length_map]; exact hlr
      obtain ⟨pa', pc', hpe, -, -, hpf⟩ := HCA.out.parts.form
      obtain ⟨b0, o0, he0, x0, x1, x2⟩ := hpf k _ (List.getElem?_eq_getElem hlt)
      cases hpe
      subst he0
      obtain ⟨qa', qc', hqe, -, -, hqf⟩ := HDA.out.parts.form
      obtain ⟨b1, o1, he1, y0, y1, y2⟩ := hqf k _ (List.getElem?_eq_getElem hlq)
      cases hqe
      subst he1
      obtain ⟨g1, g2⟩ := HE.out k _ _ (List.getElem?_eq_getElem hlt) (List.getElem?_eq_getElem hlq)
      have hr1 : IntsAt WA c.ps[k].rk c.rks[k] := HCA.out.rk k _ _ (List.getElem?_eq_getElem hlt) (List.getElem?_eq_getElem hlr)
      have hr2 : IntsAt WA qs[k].rk (c.rks[k] ++ [0]) := by
        have h := HDA.out.rk k _ _ (List.getElem?_eq_getElem hlq) (List.getElem?_eq_getElem hlr2)
        simpa using h
      rw [g1] at y0
      rw [g2] at y1
      obtain ⟨ra, rc, hre, rb1, rb2, -⟩ := hr1.form
      obtain ⟨ua, uc, hue, -⟩ := hr2.form
      replace x2 := x2.trans (congrArg some hre)
      rw [len_one] at hue
      replace y2 := y2.trans (congrArg some hue)
      have HRB := Lib.hid (HA.out.rks _ (List.getElem_mem hlr)).1
      have HR1 := Lib.hid (show IntsAt WA (.slice ra c.rks[k].length rc) c.rks[k] from hre ▸ hr1)
      have HR2 := Lib.hid (show IntsAt WA (.slice ua (c.rks[k].length + 1) uc) (c.rks[k] ++ [0]) from hue ▸ hr2)
      clear g1 g2 hr1 hr2 hre hue hpf hqf hlr2
      generalize c.rks[k] = r at *
      generalize c.ps[k].fr = lo at *
      generalize c.ps[k].up = hi at *
      clear hlr hlq
      have HX0 := Lib.hid x0
      have HX1' := Lib.hid x1
      have HX2' := Lib.hid x2
      have HY0 := Lib.hid y0
      have HY1 := Lib.hid y1
      have HY2 := Lib.hid y2
      clear x0 x1 y0 y1 y2
      go_upto_region 10 with fail
      have HXP := Lib.hid ((Ext.refl wr).alloc (.cells #[] 3))
      replace x2 := HXP.out.cell (HX.out.cell x2)
      have HOP := Lib.hid (show (wr.alloc (.cells #[] 3)).ownsRow wr.heap.size 3 1 (.slice (some ⟨wr.heap.size, 0, none⟩) 0 0) 0 [] from own_made wr 1 3 0 [] rfl (by unfold maxLen; omega))
      have HRP := Lib.hid ((HR1.out.later HX.out).later HXP.out)
      have hkc3 := ((HKA.out.later HX.out).later HXP.out).cells
      have hrn : r.length ≤ 256 := by have := HRB.out; omega
      clear hkc
      go_upto_region 11 with (first
        | (at_builtin
           refine wpList_app rfl (.tmp 78) (.tmp 84) 29 rfl wr.heap.size 3 _ 1 8 Try.underlying29 infoInt rfl (by decide) (by decide) _ _ _ rfl HOP.out _ _ _ rfl HRP.out (icells_one _) (by omega) HXP.out.size ?_
           intro v7 w7 ho7 hg7
           have HXQ := Lib.hid (Ext.grown HXP.out hg7 HOP.out (Nat.le_refl _))
           have HOQ := Lib.hid (show w7.ownsRow wr.heap.size 3 1 v7 r.length (icells r) from by rw [Nat.zero_add, List.nil_append] at ho7; exact ho7)
           have HXQB := Lib.hid (HXQ.out.alloc (.cells #[I 0] 3))
           have HOQB := Lib.hid (own_later HOQ.out ((Ext.refl w7).alloc (.cells #[I 0] 3)))
           have HSQ := Lib.hid (show Reads (w7.alloc (.cells #[I 0] 3)) 1 (.slice (some ⟨w7.heap.size, 0, none⟩) 1 1) 1 (icells [0]) from Reads.made w7 1 3 1 [I 0] rfl (by unfold maxLen; omega))
           clear ho7 hg7)
        | (at_builtin
           refine wpList_app rfl (.tmp 85) (.tmp 86) 29 rfl wr.heap.size 3 _ 1 8 Try.underlying29 infoInt rfl (by decide) (by decide) _ _ _ rfl HOQB.out _ _ _ rfl HSQ.out (icells_one _) (by omega) HXQB.out.size ?_
           intro vQ wQ hoQ hgQ
           have HXQ8 := Lib.hid (Ext.grown HXQB.out hgQ HOQB.out (Nat.le_refl _))
           have HOQ8 := Lib.hid (show IntsAt wQ vQ (r ++ [0]) from by
             have h := Reads.of_own hoQ
             unfold IntsAt
             rw [icells_app, List.length_append]
             exact h)
           obtain ⟨xa, xc, hxv, -⟩ := HOQ8.out.form
           rw [len_one] at hxv
           subst hxv
           clear hoQ hgQ))
      clear hkc3 x2
      have HXW := Lib.hid (HX.out.trans HXQ8.out)
      have kK := (HKA.out.later HXW.out).keep
      have kJ := (HJA.out.later HXW.out).keep
      have x0 := Ext.keep (HXW.out.cell HX0.out)
      have x1 := Ext.keep (HXW.out.cell HX1'.out)
      have y0 := Ext.keep (HXW.out.cell HY0.out)
      have y1 := Ext.keep (HXW.out.cell HY1.out)
      have y2 := Ext.keep (HXW.out.cell HY2.out)
      have HRW := Lib.hid (show ∀ W, Ext wQ W → Calls Try.prog 11 #[.slice ua (r.length + 1) uc, .slice xa (r.length + 1) xc] W fun e w' => e = .returned (.bool true) ∧ Ext W w' from fun W hW =>
        (r09Row_any _ _ (r ++ [0]) (r ++ [0]) W (HR2.out.later (HXW.out.trans hW)) (HOQ8.out.later hW)).mono fun e w' ⟨he, hx⟩ => ⟨he.trans (congrArg (fun b => Ending.returned (.bool b)) (decide_eq_true rfl)), hx⟩)
      refine wp_region_E 38 rfl (by kernel_rfl) (by kernel_rfl) ?_
      refine WEi_at 0 ?_
      iterate 38
        refine WEi_q rfl (by decide) (by kernel_rfl) rfl ?_; apply Exists.intro; refine ⟨fun w1 hx1 => ?_, ?_⟩
        · have hq1 := hx1.cells; go_simp; try go_bits
          first | with_reducible rfl | ((with_reducible refine (HRW.out _ hx1).mono ?_); rintro e w' ⟨rfl, hx⟩; exact ⟨rfl, hx⟩)
        simp only [Act.put, List.setIfInBounds_toArray, List.set_cons_zero, List.set_cons_succ, Nat.reduceAdd]
      refine WEi_out ?_
      refine WE_done (by kernel_rfl) (fun wC hxC => ?_)
      (try simp only [List.drop_succ_cons, List.drop_zero])
      clear kK kJ x0 x1 y0 y1 y2
      have HXC := Lib.hid (HXW.out.trans hxC)
      clear hxC
      go_wp2_with fail
      go_roundw
      case rel => exact ⟨k + 1, Nat.succ_le_of_lt HLT.out, by go_num, HXC.out⟩
      case measure => have := HLT.out; simp [intOf]; omega
    · have hkd : decide ((k : Int) < (c.ps.length : Int)) = false := decide_eq_false (by omega)
      go_wp2_with fail
      go_ret
      exact ⟨rfl, HX4.out.trans (HX6.out.trans (HXA2.out.trans HX.out))⟩
end Go.Proofs.Ytfldjlibnjgdaaa