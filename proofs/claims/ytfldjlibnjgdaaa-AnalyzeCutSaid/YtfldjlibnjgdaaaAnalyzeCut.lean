/- The law AnalyzeCut: without rules that send no network has a loop; without a loop's first node's rules its address does not go round there. Conditions: whole numbers are within 64 bits. -/
import Derived.Test.YtfldjlibnjgdaaaGAna
import Derived.Test.YtfldjlibnjgdaaaAnaC
import Derived.Test.YtfldjlibnjgdaaaGNetP
namespace Go.Proofs.Ytfldjlibnjgdaaa
open Go Go.RowKit Go.Maps Go.Proofs

theorem tabs_oneC {w : World} {v : Value} {ls : List (List Rul)} (h : TablesAt w v ls) : ∃ vs : List Value, Reads w 1 v ls.length vs ∧ (∀ u ∈ vs, u.oneCell' = true) ∧ vs.length = ls.length ∧ ∀ (i : Nat) (l : List Rul), ls[i]? = some l → ∃ u, vs[i]? = some u ∧ RulesAt w u l := by
  obtain ⟨vs, h1, h2⟩ := h
  have hl : vs.length = ls.length := by have := h1.1; simpa using this
  refine ⟨vs, h1, fun u hu => ?_, hl, h2⟩
  obtain ⟨i, hi⟩ := List.getElem?_of_mem hu
  have hil := (List.getElem?_eq_some_iff.1 hi).1
  obtain ⟨u', g1, g2⟩ := h2 i _ (List.getElem?_eq_getElem (by omega))
  rw [hi] at g1
  cases g1
  obtain ⟨a, c, rfl, -⟩ := g2.form
  rfl
theorem endT_step {t : List Rul} {j : Nat} (h : j < t.length) : endT (t.take (j + 1)) = endT (t.take j) ++ [endR t[j]] := by
  unfold endT
  rw [List.take_succ_eq_append_getElem h, List.map_append]; rfl
theorem endsN_step {ls : List (List Rul)} {k : Nat} (h : k < ls.length) : (endsN ls).take (k + 1) = (endsN ls).take k ++ [endT ls[k]] := by
  unfold endsN
  rw [List.take_succ_eq_append_getElem (by simpa using h)]
  simp
theorem cell_ltC {w : World} {p : Addr} {v : Value} (h : w.cell? p = some v) : p.block < w.heap.size := by
  rcases Nat.lt_or_ge p.block w.heap.size with g | g
  · exact g
  · simp [World.cell?, Array.getElem?_eq_none g] at h
set_option maxHeartbeats 8000000 in
set_option maxRecDepth 100000 in
theorem analyzeCut_any (lv : Value) (ls : List (List Rul)) (w : World) (hl : TablesAt w lv ls) (hok : TablesOk ls) :
    Calls Try.prog 6 #[.agg #[lv]] w fun e w' => e = .returned (.bool true) ∧ Ext w w' := by
  have HL := Lib.hid hl
  have HOK := Lib.hid hok
  obtain ⟨ad, cap, hlv, a1, a2, a3⟩ := hl.form
  subst hlv
  clear a3 hl hok
  unfold maxLen at a2
  go_enter Try.func6, Try.ntmps6
  go_upto_region 1 with (fail)
  refine hideW (Φ := fun W => Code.wp _ _ _ _ W) (fun W => Ext w W ∧ Blk W w.heap.size [.slice ad ls.length cap] 24)
    ⟨by (repeat (first | with_reducible exact Ext.refl _ | with_reducible assumption | with_reducible refine Ext.alloc ?_ _ | with_reducible refine Ext.drew ?_ | with_reducible refine Ext.drewN ?_ _ | (with_reducible refine Ext.setCellP ?_ ?_; focus (first | (simp; done) | (simp; omega) | omega)))), (Blk.new w [.slice ad ls.length cap] 24)⟩ (fun W1 hW1 => ?_)
  obtain ⟨hx1, hb1⟩ := hW1
  have HX1 := Lib.hid hx1
  have HB1 := Lib.hid hb1
  clear hx1 hb1
  generalize w.heap.size = nb at *
  go_upto_region 2 with (first
    | (go_at_call 7; (with_reducible refine (shown21_any _).mono ?_); rintro e w2 ⟨rfl, hx2⟩; have HX2 := Lib.hid (HX1.out.trans hx2); have HB2 := Lib.hid (HB1.out.later hx2); clear hx2))
  have hbc2 := HB2.out.cells
  have HNM := Lib.hid (fitN_may ls)
  have HNS := Lib.hid (fitN_size ls)
  have HNO := Lib.hid (fitN_ok ls)
  have HN20 := Lib.hid (@fitN_short ls)
  have hN := fitN_bd ls
  go_upto_region 3 with (first
    | (go_at_call 8; (with_reducible refine (r09Fit_any _ ls _ (HL.out.later HX2.out) HOK.out).mono ?_); rintro e w3 ⟨v3, he, hF, hx3⟩; subst he; have HF3 := Lib.hid hF.tables; obtain ⟨va, vcap, hv3, q1, q2, q3⟩ := HF3.out.form; subst hv3; clear q3; have HX3 := Lib.hid (HX2.out.trans hx3); clear hF hx3))
  generalize fitN ls = N at *
  clear hbc2 HB2 HB1
  unfold maxLen at q2
  refine hideW (Φ := fun W => Code.wp _ _ _ _ W) (fun W => Ext w3 W ∧ Blk W w3.heap.size [.slice va N.length vcap] 24)
    ⟨by (repeat (first | with_reducible exact Ext.refl _ | with_reducible assumption | with_reducible refine Ext.alloc ?_ _ | with_reducible refine Ext.drew ?_ | with_reducible refine Ext.drewN ?_ _ | (with_reducible refine Ext.setCellP ?_ ?_; focus (first | (simp; done) | (simp; omega) | omega)))), Blk.new w3 [.slice va N.length vcap] 24⟩ (fun W4 hW4 => ?_)
  obtain ⟨hx4, hb4⟩ := hW4
  have HX4 := Lib.hid (HX3.out.trans hx4)
  have HF4 := Lib.hid (HF3.out.later hx4)
  have HB4 := Lib.hid hb4
  have hbc4 := hb4.cells
  clear hx4 hb4 HF3 HX3 HX1 HX2
  generalize w3.heap.size = fb at *
  have HNL := Lib.hid (netMay_tabs HNM.out).1
  go_upto_region 4 with (first
    | (go_at_call 9; (with_reducible refine (aNet_good _ N _ HF4.out HNO.out HNM.out).mono ?_); rintro e w5 ⟨pv, tv, c, he, hc, ha, hx5⟩; subst he; have HC5 := Lib.hid hc; have HAI := Lib.hid ha; obtain ⟨pa, pc, hpe, p1, p2, -⟩ := hc.parts.form; subst hpe; obtain ⟨ta, tc, hte, t1, t2, -⟩ := hc.tr.form; subst hte; have HX5 := Lib.hid hx5; clear hx5 hc ha))
  have HA := Lib.hid (HAI.out.facts HNM.out)
  refine hideW (Φ := fun W => Code.wp _ _ _ _ W) (fun W => Ext w5 W ∧ Blk W w5.heap.size [I c.vd, .slice pa c.ps.length pc, U c.dest, .slice ta c.tr.length tc] 31)
    ⟨(Ext.refl _).alloc _, Blk.new w5 [I c.vd, .slice pa c.ps.length pc, U c.dest, .slice ta c.tr.length tc] 31⟩ (fun W6 hW6 => ?_)
  obtain ⟨hx6, hk6⟩ := hW6
  have HC6 := Lib.hid (HC5.out.later hx6)
  have HX6 := Lib.hid (HX5.out.trans hx6)
  have HK6 := Lib.hid hk6
  have HF6 := Lib.hid (HF4.out.later HX6.out)
  have HB6 := Lib.hid (HB4.out.later HX6.out)
  clear hx6 hk6 hbc4 HC5 HX5
  generalize w5.heap.size = kb at *
  go_upto_region 5 with fail
  refine hideW (Φ := fun W => Code.wp _ _ _ _ W) (fun W => Ext W6 W ∧ Blk W W6.heap.size [.slice none 0 0] 24)
    ⟨by (repeat (first | with_reducible exact Ext.refl _ | with_reducible assumption | with_reducible refine Ext.alloc ?_ _ | with_reducible refine Ext.drew ?_ | with_reducible refine Ext.drewN ?_ _ | (with_reducible refine Ext.setCellP ?_ ?_; focus (first | (simp; done) | (simp; omega) | omega)))), Blk.new W6 [.slice none 0 0] 24⟩ (fun W7 hW7 => ?_)
  obtain ⟨hx7, he7⟩ := hW7
  have HX7 := Lib.hid hx7
  have HE7 := Lib.hid he7
  clear hx7 he7
  generalize heb : W6.heap.size = eb at HE7 ⊢
  have HEB := Lib.hid (show W6.heap.size ≤ eb from Nat.le_of_eq heb)
  clear heb
  have HEL := Lib.hid (endsN_len N)
  go_upto_block 0 with fail
  go_cut [8] (fun _ wc => ∃ (va2 : Option Addr) (vc2 : Nat), Hid (Blk wc eb [.slice va2 N.length vc2] 24) ∧ Hid (FitT wc (eb + 1) (.slice va2 N.length vc2) (endsN N)) ∧ Hid (Ext W6 wc))
  case first =>
    go_wp2_with fail
    go_loopw [8] (fun i wr => ∃ (k : Nat) (va2 : Option Addr) (vc2 : Nat), k ≤ N.length ∧ i = I k ∧ Hid (Blk wr eb [.slice va2 k vc2] 24) ∧ Hid (FitT wr (eb + 1) (.slice va2 k vc2) ((endsN N).take k)) ∧ Hid (Ext W6 wr)) (fun i _ => N.length - (intOf i).toNat)
    case atStart => exact ⟨0, none, 0, Nat.zero_le _, rfl, HE7.out, FitT.nil _ _, HX7.out⟩
    case round =>
      obtain ⟨k, va2, vc2, hk, rfl, HE, HT, HX⟩ := hrel
      have hbc := (HB6.out.later HX.out).cells
      by_cases hlt : k < N.length
      · have hkd : decide ((k : Int) < (N.length : Int)) = true := decide_eq_true (by omega)
        have HLT := Lib.hid hlt
        obtain ⟨va', vc', hve, -, -, hvf⟩ := (HF6.out.later HX.out).form
        obtain ⟨b0, o0, x0, he0, hc0, hr0⟩ := hvf k _ (List.getElem?_eq_getElem hlt)
        cases hve
        subst he0
        obtain ⟨ra, rc, hre, r1, r2, hrf⟩ := hr0.form
        subst hre
        have HRF := Lib.hid hrf
        have HST := Lib.hid (endsN_step hlt)
        have HT20 := Lib.hid (HN20.out _ (List.getElem_mem hlt))
        have HLK := Lib.hid (show ((endsN N).take k).length = k by rw [List.length_take, HEL.out]; omega)
        have ht20 := HT20.out
        clear hvf hr0 hrf
        generalize N[k] = t at *
        unfold maxLen at r2
        have HC0 := Lib.hid hc0
        go_upto_region 9 with fail
        refine hideW (Φ := fun W => Code.wp _ _ _ _ W) (fun W => Ext wr W ∧ W.ownsRow wr.heap.size 55 4 (.slice (some ⟨wr.heap.size, 0, none⟩) 0 0) 0 [])
          ⟨by (repeat (first | with_reducible exact Ext.refl _ | with_reducible assumption | with_reducible refine Ext.alloc ?_ _ | with_reducible refine Ext.drew ?_ | with_reducible refine Ext.drewN ?_ _ | (with_reducible refine Ext.setCellP ?_ ?_; focus (first | (simp; done) | (simp; omega) | omega)))), own_made wr 4 55 0 [] rfl (by unfold maxLen; omega)⟩ (fun W8 hW8 => ?_)
        obtain ⟨hx8, ho8⟩ := hW8
        have HX8 := Lib.hid hx8
        have HO8 := Lib.hid ho8
        clear hx8 ho8 hbc hc0
        generalize hlb : wr.heap.size = lb at *
        have HLB := Lib.hid hlb
        clear hlb
        obtain ⟨wo, rfl⟩ : ∃ wo : World, wo = wr := ⟨_, rfl⟩
        go_wp2_with fail
        go_loopw [9, 10] (fun o i wq => ∃ (j : Nat) (ua : Option Addr) (uc : Nat), j ≤ t.length ∧ i = I j ∧ o = .slice ua j uc ∧ Hid (wq.ownsRow lb 55 4 (.slice ua j uc) j (rcells (endT (t.take j)))) ∧ Hid (Ext wo wq)) (fun _ i _ => t.length - (intOf i).toNat)
        case atStart => exact ⟨0, _, _, Nat.zero_le _, rfl, rfl, HO8.out, HX8.out⟩
        case round =>
          obtain ⟨j, ua, uc, hj, rfl, rfl, HO, HXq⟩ := hrel
          have HXX := Lib.hid (HX.out.trans HXq.out)
          have hbc := (HB6.out.later HXX.out).cells
          have hc0 := HXq.out.cell HC0.out
          by_cases hjl : j < t.length
          · have hjd : decide ((j : Int) < (t.length : Int)) = true := decide_eq_true (by omega)
            have HJL := Lib.hid hjl
            obtain ⟨b1, o1, he1, c0, c1, c2, c3⟩ := HRF.out j _ (List.getElem?_eq_getElem hjl)
            subst he1
            replace c0 := HXq.out.cell c0
            replace c1 := HXq.out.cell c1
            replace c2 := HXq.out.cell c2
            replace c3 := HXq.out.cell c3
            have HTK := Lib.hid (endT_step hjl)
            have HTL := Lib.hid (show (endT (t.take j)).length = j by unfold endT; rw [List.length_map, List.length_take]; omega)
            generalize t[j] = q at *
            go_upto_region 13 with fail
            refine hideW (Φ := fun W => Code.wp _ _ _ _ W) (fun W => Ext wr W ∧ Blk W wr.heap.size [U q.pa, I q.pl, I q.act, I q.nx] 55)
              ⟨by (repeat (first | with_reducible exact Ext.refl _ | with_reducible assumption | with_reducible refine Ext.alloc ?_ _ | with_reducible refine Ext.drew ?_ | with_reducible refine Ext.drewN ?_ _ | (with_reducible refine Ext.setCellP ?_ ?_; focus (first | (simp; done) | (simp; omega) | omega)))), Blk.new wr [U q.pa, I q.pl, I q.act, I q.nx] 55⟩ (fun W9 hW9 => ?_)
            obtain ⟨hx9, hb9⟩ := hW9
            have HX9 := Lib.hid hx9
            have HQ9 := Lib.hid hb9
            clear hx9 hb9 hbc hc0 c0 c1 c2 c3
            generalize hrb : wr.heap.size = rb at *
            have HRB := Lib.hid hrb
            clear hrb
            have hqc := HQ9.out.cells
            have hqf := HQ9.out.frozen
            go_upto_if 57 with fail
            go_cut [] (fun wc => Hid (Ext wr wc) ∧ Hid (Blk wc rb [U (endR q).pa, I (endR q).pl, I (endR q).act, I (endR q).nx] 55))
            case first =>
              by_cases ha : q.act = 1
              · have HQE := Lib.hid (endR_yes ha)
                have hab : (q.act == 1) = true := by simp [ha]
                have HX10 := Lib.hid (show Ext wr (W9.setCell ⟨rb, 2, none⟩ (I 3)) from HX9.out.setCell (by show wr.heap.size ≤ rb; rw [HRB.out]; exact Nat.le_refl _) _)
                have HQ10 := Lib.hid (HQ9.out.set 2 (I 3))
                have hqc2 := HQ10.out.cells
                have hqf2 := HQ10.out.frozen
                clear ha
                go_wp2_with fail
                go_meet
                case rel =>
                  refine ⟨HX10.out.setCell (by show wr.heap.size ≤ rb; rw [HRB.out]; exact Nat.le_refl _) _, ?_⟩
                  show Blk _ _ _ _
                  rw [HQE.out]
                  exact HQ10.out.set 3 (I 0)
              · have HQE := Lib.hid (endR_no ha)
                have hab : (q.act == 1) = false := beq_false_of_ne ha
                clear ha
                go_wp2_with fail
                go_meet
                case rel =>
                  refine ⟨HX9.out, ?_⟩
                  show Blk _ _ _ _
                  rw [HQE.out]
                  exact HQ9.out
            case rest =>
              obtain ⟨HXC, HQC⟩ := hcut
              clear hqc hqf HQ9 HX9
              have hqc := HQC.out.cells
              generalize endR q = q' at *
              have HXA := Lib.hid (HXC.out.alloc (.cells #[U q'.pa, I q'.pl, I q'.act, I q'.nx] 55))
              have HOA := Lib.hid (own_later HO.out HXA.out)
              have HSA := Lib.hid (show Reads (wc.alloc (.cells #[U q'.pa, I q'.pl, I q'.act, I q'.nx] 55)) 4 (.slice (some ⟨wc.heap.size, 0, none⟩) 1 1) 1 q'.cells from Reads.made wc 4 55 1 q'.cells rfl (by unfold maxLen; omega))
              have HSZ := Lib.hid (show lb ≤ (wc.alloc (.cells #[U q'.pa, I q'.pl, I q'.act, I q'.nx] 55)).heap.size from by rw [← HLB.out]; exact (HXq.out.trans HXA.out).size)
              go_wp2_with (first
                | (at_builtin
                   refine wpList_app rfl (.tmp 60) (.tmp 62) 53 rfl lb 55 _ 4 32 Try.underlying53 infoRule rfl (by decide) (by decide) _ _ _ rfl HOA.out _ _ _ rfl HSA.out (by intro u hu; exact rcells_one [q'] u (by simpa [rcells] using hu)) (by omega) HSZ.out ?_
                   intro v7 w7 ho7 hg7
                   obtain ⟨ya, yc, hv7⟩ := own_form ho7
                   subst hv7
                   have HX7q := Lib.hid (show Ext wo w7 from Below.grown (HXq.out.trans HXA.out) hg7 (HXq.out.trans HXA.out).size (fun g e => by have h1 := own_ge HOA.out g e; have h3 := HLB.out; omega))
                   have HO7 := Lib.hid (show w7.ownsRow lb 55 4 (.slice ya (j + 1) yc) (j + 1) (rcells (endT (t.take (j + 1)))) from by
                     rw [HTK.out, rcells_app]
                     have e : rcells [q'] = q'.cells := by unfold rcells; simp
                     rw [e]; exact ho7)
                   clear ho7 hg7))
              go_roundw
              case rel => exact ⟨j + 1, ya, yc, Nat.succ_le_of_lt HJL.out, by go_num, rfl, HO7.out, HX7q.out⟩
              case measure => have := HJL.out; simp [intOf]; omega
          · have hjd : decide ((j : Int) < (t.length : Int)) = false := decide_eq_false (by omega)
            have HJE := Lib.hid (show j = t.length by omega)
            have HOJ := Lib.hid (show wr.ownsRow (eb + 1) 55 4 (.slice ua j uc) (endT t).length (rcells (endT t)) from by
              have h := HO.out
              rw [HJE.out, List.take_length] at h
              have e : (endT t).length = t.length := by unfold endT; simp
              rw [e, HJE.out]
              exact own_low h (by rw [← HLB.out]; exact HE.out.lt))
            have HXS := Lib.hid ((Ext.refl wr).alloc (.cells #[.slice ua j uc] 53))
            have HXT := Lib.hid (HXq.out.trans HXS.out)
            have HOS := Lib.hid (own_later HOJ.out HXS.out)
            have HES := Lib.hid (HE.out.later HXT.out)
            have hot := HT.out.later HXT.out
            unfold FitT at hot
            rw [HLK.out] at hot
            obtain ⟨vs, hown, hvs⟩ := hot
            have HOWN := Lib.hid hown
            have HVS := Lib.hid hvs
            have HSC := Lib.hid (show (wr.alloc (.cells #[.slice ua j uc] 53)).cell? ⟨wr.heap.size, 0, none⟩ = some (.slice ua j uc) from (Blk.new wr [.slice ua j uc] 53).cells 0)
            have HSZ := Lib.hid (show eb + 1 ≤ (wr.alloc (.cells #[.slice ua j uc] 53)).heap.size from HES.out.lt)
            have hec := (HE.out.later HXq.out).cells
            clear hown hvs
            go_wp2_with (first
              | (at_builtin
                 refine wpList_app1 rfl (.tmp 65) (.tmp 67) 22 rfl (eb + 1) 53 _ 24 Try.underlying22 infoRules rfl (by decide) _ _ _ rfl HOWN.out _ rfl _ HSC.out rfl (by omega) HSZ.out ?_
                 intro v7 w7 ho7 hg7 hloc7
                 obtain ⟨ya, yc, hv7⟩ := own_form ho7
                 subst hv7
                 have HT7 := Lib.hid (show FitT w7 (eb + 1) (.slice ya (k + 1) yc) ((endsN N).take (k + 1)) from by
                   rw [HST.out]
                   exact FitT.app (by rw [HLK.out]; exact HOWN.out) HVS.out (by rw [HLK.out]; exact ho7) hg7 HOS.out)
                 have HE7B := Lib.hid (blk_grown HES.out (fun g e => by have := own_ge HOWN.out g e; omega) hg7)
                 have HX7B := Lib.hid (show Ext W6 w7 from Ext.grown (HX.out.trans HXT.out) hg7 HOWN.out (Nat.le_succ_of_le HEB.out))
                 have hec7 := HE7B.out.cells
                 have hef7 := HE7B.out.frozen
                 clear ho7 hg7 hloc7))
            go_roundw
            case rel => exact ⟨k + 1, ya, yc, Nat.succ_le_of_lt HLT.out, by go_num, HE7B.out.set 0 _, HT7.out.setCell (Nat.lt_succ_self _) _, HX7B.out.setCell HEB.out _⟩
            case measure => have := HLT.out; simp [intOf]; omega
      · have hkd : decide ((k : Int) < (N.length : Int)) = false := decide_eq_false (by omega)
        have HKE := Lib.hid (show k = N.length by omega)
        go_wp2_with fail
        go_meet
        case rel =>
          refine ⟨va2, vc2, by rw [← HKE.out]; exact HE.out, ?_, HX.out⟩
          have h := HT.out
          rw [HKE.out] at h
          rw [List.take_of_length_le (by rw [HEL.out]; exact Nat.le_refl _)] at h
          exact h
  case rest =>
    obtain ⟨va2, vc2, HE, HT, HX⟩ := hcut
    have hec := HE.out.cells
    have HEM := Lib.hid (endsN_may HNM.out)
    have HEO := Lib.hid (endsN_ok HNO.out)
    go_upto_region 19 with (first
      | (go_at_call 9; (with_reducible refine (aNet_good _ (endsN N) _ HT.out.tables HEO.out HEM.out).mono ?_); rintro e w8 ⟨qv, sv, d, he, hd, ha, hx8⟩; obtain ⟨g1, g2, g3⟩ := ana_ends ha; rw [g1] at he; subst he; have HD8 := Lib.hid hd; have HG2 := Lib.hid g2; have HG3 := Lib.hid g3; obtain ⟨qa, qc, hqe, q3, q4, -⟩ := hd.parts.form; subst hqe; obtain ⟨sa, sc, hse, s1, s2, -⟩ := hd.tr.form; subst hse; have HX8 := Lib.hid (HX.out.trans hx8); clear hx8 hd ha g1 g2 g3))
    clear hec
    refine hideW (Φ := fun W => Code.wp _ _ _ _ W) (fun W => Ext w8 W ∧ Blk W w8.heap.size [I 1, .slice qa 1 qc, U d.dest, .slice sa d.tr.length sc] 31)
      ⟨(Ext.refl _).alloc _, by rw [← HG2.out]; exact Blk.new w8 [I 1, .slice qa d.ps.length qc, U d.dest, .slice sa d.tr.length sc] 31⟩ (fun W9 hW9 => ?_)
    obtain ⟨hx9, hj9⟩ := hW9
    have HX9 := Lib.hid (HX8.out.trans hx9)
    have HJ9 := Lib.hid hj9
    have HD9 := Lib.hid (HD8.out.later hx9)
    clear hx9 hj9 HD8 HX8
    generalize w8.heap.size = jb at *
    have hjc := HJ9.out.cells
    obtain ⟨pp, hpp⟩ : ∃ pp, d.ps[0]? = some pp := ⟨_, List.getElem?_eq_getElem (by rw [HG2.out]; exact Nat.one_pos)⟩
    have hrr : d.rks[0]? = some (List.replicate N.length 0) := by rw [HG3.out]; rfl
    obtain ⟨qa', qc', hqe, -, -, hqf⟩ := HD9.out.parts.form
    obtain ⟨b1, o1, he1, -, -, y2⟩ := hqf 0 _ hpp
    cases hqe
    subst he1
    have hr2 : IntsAt W9 pp.rk (List.replicate N.length 0) := HD9.out.rk 0 _ _ hpp hrr
    obtain ⟨ra, rc, hre, r1, r2, hrf⟩ := hr2.form
    replace y2 := y2.trans (congrArg some hre)
    rw [List.length_replicate] at y2
    rw [Nat.zero_mul, Nat.add_zero] at y2
    have HY2 := Lib.hid y2
    have HRF := Lib.hid hrf
    clear hpp hrr hqf hr2 hre hrf
    go_upto_region 21 with fail
    clear hjc y2
    go_upto_block 4 with fail
    go_cut [14] (fun _ wc => Hid (Ext W9 wc))
    case first =>
      go_wp2_with fail
      go_loopw [14] (fun i wr => ∃ k : Nat, k ≤ N.length ∧ i = I k ∧ Hid (Ext W9 wr)) (fun i _ => N.length - (intOf i).toNat)
      case atStart => exact ⟨0, Nat.zero_le _, rfl, Ext.refl _⟩
      case round =>
        obtain ⟨k, hk, rfl, HXr⟩ := hrel
        have hjc := (HJ9.out.later HXr.out).cells
        have y2 := HXr.out.cell HY2.out
        by_cases hlt : k < N.length
        · have hkd : decide ((k : Int) < (N.length : Int)) = true := decide_eq_true (by omega)
          have HLT := Lib.hid hlt
          obtain ⟨b2, o2, he2, z0⟩ := HRF.out k 0 (by rw [List.getElem?_replicate, if_pos hlt])
          subst he2
          replace z0 := HXr.out.cell z0
          go_wp2_with fail
          go_roundw
          case rel => exact ⟨k + 1, Nat.succ_le_of_lt HLT.out, by go_num, HXr.out⟩
          case measure => have := HLT.out; simp [intOf]; omega
        · have hkd : decide ((k : Int) < (N.length : Int)) = false := decide_eq_false (by omega)
          go_wp2_with fail
          go_meet
          case rel => exact HXr.out
    case rest =>
      have HXD := Lib.hid (HX9.out.trans hcut.out)
      clear hcut HD9 HJ9 HY2 HRF
      have HKD := Lib.hid (HK6.out.later HXD.out)
      rcases HA.out.which with ⟨hvd, hps, htr⟩ | ⟨hvd, _, _, _⟩
      · rw [hvd] at HKD
        obtain ⟨b, hb0, hbl, hlaw⟩ := less_law HNM.out HAI.out hvd
        have HLAW := Lib.hid hlaw
        have HBL := Lib.hid hbl
        have HTR := Lib.hid htr
        obtain ⟨ta', tc', hte, -, -, htf⟩ := HC6.out.tr.form
        obtain ⟨b2, o2, he2, z0⟩ := htf 0 _ hb0
        cases hte
        subst he2
        rw [Nat.add_zero] at z0
        have HZ0 := Lib.hid (HXD.out.cell z0)
        have HTF := Lib.hid htf
        have hkc := HKD.out.cells
        clear hlaw hps hb0 htf z0 hvd
        go_upto_region 28 with fail
        clear hkc
        have kK := HKD.out.keep
        have kB := (HB6.out.later HXD.out).keep
        have kz := Ext.keep HZ0.out
        have ht0 : ((c.tr.length : Int) == 0) = false := beq_false_of_ne (by omega)
        have hb1 : decide ((b : Int) < 0) = false := decide_eq_false (by omega)
        have hb2 : decide ((N.length : Int) ≤ (b : Int)) = false := decide_eq_false (by omega)
        have hb3 : decide (N.length ≤ b) = false := decide_eq_false (by omega)
        refine wp_region_E 20 rfl (by kernel_rfl) (by kernel_rfl) ?_
        refine WEi_at 0 ?_
        iterate 20
          refine WEi_q rfl (by decide) (by kernel_rfl) rfl ?_; apply Exists.intro; refine ⟨fun w1 hx1 => ?_, ?_⟩
          · have hq1 := hx1.cells; go_simp; try go_bits
            first | with_reducible rfl
          simp only [Act.put, List.setIfInBounds_toArray, List.set_cons_zero, List.set_cons_succ, Nat.reduceAdd]
        refine WEi_out ?_
        refine WE_done (by kernel_rfl) (fun wE hxE => ?_)
        (try simp only [List.drop_succ_cons, List.drop_zero])
        clear kK kB kz ht0 hb1 hb2 hb3
        have HXE := Lib.hid (HXD.out.trans hxE)
        have HKE := Lib.hid (HKD.out.later hxE)
        have HZE := Lib.hid (hxE.cell HZ0.out)
        have HFE := Lib.hid (HF6.out.later HXE.out)
        clear hxE HKD HZ0
        go_upto_region 30 with fail
        obtain ⟨vs, hrd, hon, hvl, hvs⟩ := tabs_oneC HFE.out
        have HON := Lib.hid hon
        have HVL := Lib.hid hvl
        have HVS := Lib.hid hvs
        have HXA := Lib.hid ((Ext.refl wE).alloc (.cells #[] 53))
        have HOA := Lib.hid (show (wE.alloc (.cells #[] 53)).ownsRow wE.heap.size 53 1 (.slice (some ⟨wE.heap.size, 0, none⟩) 0 0) 0 [] from own_made wE 1 53 0 [] rfl (by unfold maxLen; omega))
        have HRD := Lib.hid (show Reads (wE.alloc (.cells #[] 53)) 1 (.slice va N.length vcap) N.length vs from Reads.later hrd HXA.out)
        have hbc := (HB6.out.later (HXE.out.trans HXA.out)).cells
        clear hrd hon hvl hvs
        go_upto_region 31 with (first
          | (at_builtin
             refine wpList_app rfl (.tmp 139) (.tmp 141) 22 rfl wE.heap.size 53 _ 1 24 Try.underlying22 infoRules rfl (by decide) (by decide) _ _ _ rfl HOA.out _ _ _ rfl HRD.out HON.out (by omega) HXA.out.size ?_
             intro v7 w7 ho7 hg7
             have HX7E := Lib.hid (Ext.grown HXA.out hg7 HOA.out (Nat.le_refl _))
             have HO7E := Lib.hid (show w7.ownsRow wE.heap.size 53 1 v7 N.length vs from by rw [Nat.zero_add, List.nil_append] at ho7; exact ho7)
             obtain ⟨g, gc, hv7, -⟩ := own_put HO7E.out HBL.out
             subst hv7
             clear ho7 hg7))
        clear hbc
        refine hideW (Φ := fun W => Code.wp _ _ _ _ W) (fun W => Ext w7 W ∧ Blk W w7.heap.size [.slice (some ⟨g, 0, none⟩) N.length gc] 24)
          ⟨by (repeat (first | with_reducible exact Ext.refl _ | with_reducible assumption | with_reducible refine Ext.alloc ?_ _ | with_reducible refine Ext.drew ?_ | with_reducible refine Ext.drewN ?_ _ | (with_reducible refine Ext.setCellP ?_ ?_; focus (first | (simp; done) | (simp; omega) | omega)))), Blk.new w7 [.slice (some ⟨g, 0, none⟩) N.length gc] 24⟩ (fun WF hWF => ?_)
        obtain ⟨hxF, hnF⟩ := hWF
        have HXF := Lib.hid (HX7E.out.trans hxF)
        have HNF := Lib.hid hnF
        have HOF := Lib.hid (own_later HO7E.out hxF)
        have HNG := Lib.hid (show g < w7.heap.size from by
          obtain ⟨g', gc', hv, h2, h3, -⟩ := own_put HO7E.out HBL.out
          cases hv; exact h3)
        clear hxF hnF
        generalize w7.heap.size = sb at *
        have HKF := Lib.hid (HKE.out.later HXF.out)
        have HZF := Lib.hid (HXF.out.cell HZE.out)
        have kN := HNF.out.keep
        have kK := HKF.out.keep
        have kz := Ext.keep HZF.out
        refine wp_region_E 7 rfl (by kernel_rfl) (by kernel_rfl) ?_
        refine WEi_at 0 ?_
        iterate 7
          refine WEi_q rfl (by decide) (by kernel_rfl) rfl ?_; apply Exists.intro; refine ⟨fun w1 hx1 => ?_, ?_⟩
          · have hq1 := hx1.cells; go_simp; try go_bits
            first | with_reducible rfl
          simp only [Act.put, List.setIfInBounds_toArray, List.set_cons_zero, List.set_cons_succ, Nat.reduceAdd]
        refine WEi_out ?_
        refine WE_done (by kernel_rfl) (fun wG hxG => ?_)
        (try simp only [List.drop_succ_cons, List.drop_zero])
        clear kN kK kz
        have HXG := Lib.hid (HXF.out.trans hxG)
        obtain ⟨g', gc', hv, hg1, hg2, -, -, hcl, hfz, hput⟩ := own_put (own_later HOF.out hxG) HBL.out
        cases hv
        have hcb := hcl b _ (List.getElem?_eq_getElem (by rw [HVL.out]; exact HBL.out))
        have HNG2 := Lib.hid (HNF.out.later hxG)
        have HPUT := Lib.hid hput
        have HG1 := Lib.hid hg1
        clear hcl hput hxG hg1 hg2
        go_upto_region 32 with fail
        refine hideW (Φ := fun W => Code.wp _ _ _ _ W) (fun W => Ext wE W ∧ TablesAt W (.slice (some ⟨g, 0, none⟩) N.length gc) (N.set b []) ∧ Blk W sb [.slice (some ⟨g, 0, none⟩) N.length gc] 24)
          ⟨HXG.out.setCell HG1.out _, ?_, HNG2.out.other (by show g ≠ sb; have := HNG.out; omega) _⟩ (fun WH hWH => ?_)
        · refine ⟨vs.set b (.slice none 0 0), by rw [List.length_set]; exact Reads.of_own (HPUT.out _), fun i l hi => ?_⟩
          rw [List.getElem?_set] at hi
          rw [List.getElem?_set]
          by_cases e : b = i
          · rw [if_pos e, if_pos HBL.out] at hi
            rw [if_pos e, if_pos (by rw [HVL.out]; exact HBL.out)]
            cases hi
            exact ⟨_, rfl, Reads.nil _ 4⟩
          · rw [if_neg e] at hi
            rw [if_neg e]
            obtain ⟨u, h1, h2⟩ := HVS.out i l hi
            exact ⟨u, h1, h2.later (HXG.out.setCell HG1.out _)⟩
        obtain ⟨hxH, htH, hnH⟩ := hWH
        have HXH := Lib.hid hxH
        have HTH := Lib.hid htH
        have hnc := hnH.cells
        have HKH := Lib.hid (HKE.out.later hxH)
        have hkc := HKH.out.cells
        clear hxH htH hnH hcb hfz
        go_upto_region 33 with (first
          | (go_at_call 17; (with_reducible refine (netLoop_any _ (N.set b []) c.dest _ HTH.out (less_ok HNO.out b) (less_may HNM.out b)).mono ?_); rintro e w9 ⟨u, l2, bb, he, hLI, -, hO, hx9⟩; subst he; have HLA := Lib.hid (HLAW.out l2 hLI); obtain ⟨xa, xc, hxe, x1, x2, xf⟩ := hO.ints.form; subst hxe; have HXL := Lib.hid xf; have HXJ := Lib.hid (HXH.out.trans hx9); have HKJ := Lib.hid (HKH.out.later hx9); clear hO hx9 xf))
        clear hnc hkc
        have HX6J := Lib.hid (HXE.out.trans HXJ.out)
        have hl2b : l2.length ≤ 9223372036854775807 := by unfold maxLen at x2; omega
        have htrb : c.tr.length ≤ 9223372036854775807 := by unfold maxLen at t2; omega
        go_wp2_with fail
        go_loopw [18] (fun i wr => ∃ k : Nat, k ≤ l2.length ∧ i = I k ∧ Hid (Ext w9 wr)) (fun i _ => l2.length - (intOf i).toNat)
        case atStart => exact ⟨0, Nat.zero_le _, rfl, Ext.refl _⟩
        case round =>
          obtain ⟨k, hk, rfl, HXk⟩ := hrel
          by_cases hlt : k < l2.length
          · have hkd : decide ((k : Int) < (l2.length : Int)) = true := decide_eq_true (by omega)
            have HLT := Lib.hid hlt
            obtain ⟨b3, o3, he3, u0⟩ := HXL.out k _ (List.getElem?_eq_getElem hlt)
            subst he3
            have HU0 := Lib.hid (HXk.out.cell u0)
            have HLK := Lib.hid (HLA.out _ (List.getElem_mem hlt))
            clear u0
            generalize l2[k] = yk at *
            obtain ⟨wo, rfl⟩ : ∃ wo : World, wo = wr := ⟨_, rfl⟩
            go_wp2_with fail
            go_loopw [19] (fun i wq => ∃ m : Nat, m ≤ c.tr.length ∧ i = I m ∧ Hid (Ext wo wq)) (fun i _ => c.tr.length - (intOf i).toNat)
            case atStart => exact ⟨0, Nat.zero_le _, rfl, Ext.refl _⟩
            case round =>
              obtain ⟨m, hm, rfl, HXm⟩ := hrel
              have HKM := Lib.hid (HKJ.out.later (HXk.out.trans HXm.out))
              have hkc := HKM.out.cells
              by_cases hml : m < c.tr.length
              · have hmd : decide ((m : Int) < (c.tr.length : Int)) = true := decide_eq_true (by omega)
                have HML := Lib.hid hml
                obtain ⟨b4, o4, he4, t0⟩ := HTF.out m _ (List.getElem?_eq_getElem hml)
                cases he4
                replace t0 := (HX6J.out.trans (HXk.out.trans HXm.out)).cell t0
                have HNE := Lib.hid (show (yk == c.tr[m]) = false from beq_false_of_ne fun e => HLK.out (by rw [e]; exact List.getElem_mem hml))
                generalize c.tr[m] = tm at *
                have hne := HNE.out
                go_upto_region 39 with fail
                clear hkc
                have kK := HKM.out.keep
                have k0 := Ext.keep (HXm.out.cell HU0.out)
                have k1 := Ext.keep t0
                refine wp_region_E 9 rfl (by kernel_rfl) (by kernel_rfl) ?_
                refine WEi_at 0 ?_
                iterate 9
                  refine WEi_q rfl (by decide) (by kernel_rfl) rfl ?_; apply Exists.intro; refine ⟨fun w1 hx1 => ?_, ?_⟩
                  · have hq1 := hx1.cells; go_simp; try go_bits
                    first | with_reducible rfl
                  simp only [Act.put, List.setIfInBounds_toArray, List.set_cons_zero, List.set_cons_succ, Nat.reduceAdd]
                refine WEi_out ?_
                refine WE_done (by kernel_rfl) (fun wF2 hxF2 => ?_)
                (try simp only [List.drop_succ_cons, List.drop_zero])
                clear kK k0 k1 t0
                have HXn := Lib.hid (HXm.out.trans hxF2)
                clear hxF2
                go_wp2_with fail
                go_roundw
                case rel => exact ⟨m + 1, Nat.succ_le_of_lt HML.out, by go_num, HXn.out⟩
                case measure => have := HML.out; simp [intOf]; omega
              · have hmd : decide ((m : Int) < (c.tr.length : Int)) = false := decide_eq_false (by omega)
                go_wp2_with fail
                go_roundw
                case rel => exact ⟨k + 1, Nat.succ_le_of_lt HLT.out, by go_num, HXk.out.trans HXm.out⟩
                case measure => have := HLT.out; simp [intOf]; omega
          · have hkd : decide ((k : Int) < (l2.length : Int)) = false := decide_eq_false (by omega)
            go_wp2_with fail
            go_ret
            exact ⟨rfl, HX4.out.trans (HX6.out.trans (HX6J.out.trans HXk.out))⟩
      · rw [hvd] at HKD
        have hkc := HKD.out.cells
        go_wp2_with fail
        go_ret
        exact ⟨rfl, HX4.out.trans (HX6.out.trans HXD.out)⟩
end Go.Proofs.Ytfldjlibnjgdaaa