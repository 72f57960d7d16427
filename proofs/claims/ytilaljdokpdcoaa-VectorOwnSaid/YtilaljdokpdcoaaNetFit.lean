/- Networks that are made such as may be. Conditions: whole numbers are within 64 bits. -/
import Derived.Test.YtilaljdokpdcoaaNetP
import Derived.Test.YtilaljdokpdcoaaRegion3
namespace Go.Proofs.Ytilaljdokpdcoaa
open Go.RowKit

theorem fitN_step (ls : List (List Rul)) {k : Nat} (h : k < manyN ls) : (fitN ls).take (k + 1) = (fitN ls).take k ++ [fitL (ls.getD k []) (manyN ls)] := by
  have hl : k < (fitN ls).length := by rw [fitN_len]; exact h
  rw [List.take_succ_eq_append_getElem hl]
  congr 2
  unfold fitN
  simp
theorem many_eq (n : Nat) : max 1 (min (n : Int) 8) = ((max 1 (min n 8) : Nat) : Int) := by omega
theorem own_apart {w w' : World} {B B' : Nat} {e e' : TypeId} {s s' : Nat} {u v : Value} {n m : Nat} {xs ys : List Value} (h : w.ownsRow B e s u n xs) (hv : w.ownsRow B' e' s' v m ys) (hne : e ≠ e') (hg : w.grownBy w' v.ownBlock) : w'.ownsRow B e s u n xs := by
  obtain ⟨h0, h1⟩ := h
  refine ⟨h0, ?_⟩
  rcases h1 with h1 | ⟨g, cap, cur, h1, h2, h3, h4⟩
  · exact .inl h1
  · refine .inr ⟨g, cap, cur, h1, h2, ?_, h4⟩
    rw [hg.block g (by
      rcases Nat.lt_or_ge g w.heap.size with h' | h'
      · exact h'
      · simp [Array.getElem?_eq_none h'] at h3) (fun hb => ?_), h3]
    obtain ⟨_, hv⟩ := hv
    rcases hv with ⟨rfl, _⟩ | ⟨g', cap', cur', rfl, _, h5, _⟩
    · cases hb
    · simp [Value.ownBlock] at hb
      subst hb
      rw [h3] at h5
      cases h5
      exact hne rfl
/-- A row of tables, all of the call's own. -/
def FitT (w : World) (B : Nat) (v : Value) (ls : List (List Rul)) : Prop :=
  ∃ vs : List Value, w.ownsRow B 39 1 v ls.length vs ∧ ∀ (i : Nat) (l : List Rul), ls[i]? = some l → ∃ u, vs[i]? = some u ∧ w.ownsRow B 42 4 u l.length (rcells l)
theorem FitT.nil (w : World) (B : Nat) : FitT w B (.slice none 0 0) [] := ⟨[], ⟨by simp, .inl ⟨rfl, rfl⟩⟩, fun i l h => by cases h⟩
theorem FitT.later {w w' : World} {B : Nat} {v : Value} {ls : List (List Rul)} (h : FitT w B v ls) (hx : Ext w w') : FitT w' B v ls :=
  let ⟨vs, h1, h2⟩ := h
  ⟨vs, own_later h1 hx, fun i l hi => let ⟨u, g1, g2⟩ := h2 i l hi; ⟨u, g1, own_later g2 hx⟩⟩
theorem FitT.tables {w : World} {B : Nat} {v : Value} {ls : List (List Rul)} (h : FitT w B v ls) : TablesAt w v ls :=
  let ⟨vs, h1, h2⟩ := h
  ⟨vs, Reads.of_own h1, fun i l hi => let ⟨u, g1, g2⟩ := h2 i l hi; ⟨u, g1, Reads.of_own g2⟩⟩
theorem FitT.low {w : World} {B B' : Nat} {v : Value} {ls : List (List Rul)} (h : FitT w B v ls) (hB : B' ≤ B) : FitT w B' v ls :=
  let ⟨vs, h1, h2⟩ := h
  ⟨vs, own_low h1 hB, fun i l hi => let ⟨u, g1, g2⟩ := h2 i l hi; ⟨u, g1, own_low g2 hB⟩⟩
theorem FitT.setCell {w : World} {B : Nat} {v : Value} {ls : List (List Rul)} (h : FitT w B v ls) {p : Addr} (hp : p.block < B) (x : Value) : FitT (w.setCell p x) B v ls :=
  let ⟨vs, h1, h2⟩ := h
  ⟨vs, own_set h1 hp x, fun i l hi => let ⟨u, g1, g2⟩ := h2 i l hi; ⟨u, g1, own_set g2 hp x⟩⟩
theorem FitT.app {w w' : World} {B : Nat} {v v' u : Value} {ls : List (List Rul)} {l : List Rul} {vs : List Value} (hown : w.ownsRow B 39 1 v ls.length vs)
    (hvs : ∀ (i : Nat) (l : List Rul), ls[i]? = some l → ∃ u, vs[i]? = some u ∧ w.ownsRow B 42 4 u l.length (rcells l))
    (ho : w'.ownsRow B 39 1 v' (ls.length + 1) (vs ++ [u])) (hg : w.grownBy w' v.ownBlock) (hu : w.ownsRow B 42 4 u l.length (rcells l)) : FitT w' B v' (ls ++ [l]) := by
  have hlen : vs.length = ls.length := by have := hown.1; simpa using this
  refine ⟨vs ++ [u], by rw [List.length_append]; exact ho, fun i m hi => ?_⟩
  rcases snoc_get hi with hi | ⟨rfl, rfl⟩
  · obtain ⟨q, q1, q2⟩ := hvs i m hi
    have hil := (List.getElem?_eq_some_iff.1 hi).1
    exact ⟨q, by rw [List.getElem?_append_left (by omega)]; exact q1, own_apart q2 hown (by decide) hg⟩
  · exact ⟨u, by rw [List.getElem?_append_right (by omega), hlen]; simp, own_apart hu hown (by decide) hg⟩
set_option maxHeartbeats 2000000 in
set_option maxRecDepth 100000 in
theorem r09Fit_any (lv : Value) (ls : List (List Rul)) (w : World) (hl : TablesAt w lv ls) (hok : TablesOk ls) :
    Calls Try.prog 22 #[.agg #[lv]] w fun e w' => ∃ v, e = .returned (.agg #[v]) ∧ FitT w' w.heap.size v (fitN ls) ∧ Ext w w' := by
  have HL := Lib.hid hl
  obtain ⟨ad, cap, rfl, a1, a2, a3⟩ := hl.form
  have A3 := Lib.hid a3
  have HOK := Lib.hid hok
  have hmb := manyN_bd ls
  clear a3 hl hok
  unfold maxLen at a2
  go_enter Try.func22, Try.ntmps22
  go_upto_region 1 with (fail)
  refine hideW (Φ := fun W => Code.wp _ _ _ _ W) (fun W => Ext w W ∧ Blk W w.heap.size [.slice ad ls.length cap] 24 ∧ Blk W (w.heap.size + 1) [.slice none 0 0] 24)
    ⟨by (repeat (first | with_reducible exact Ext.refl _ | with_reducible assumption | with_reducible refine Ext.alloc ?_ _ | with_reducible refine Ext.drew ?_ | with_reducible refine Ext.drewN ?_ _ | (with_reducible refine Ext.setCellP ?_ ?_; focus (first | (simp; done) | (simp; omega) | omega)))), (Blk.new w [.slice ad ls.length cap] 24).old _, Blk.newAt [.slice none 0 0] (by simp)⟩ (fun W1 hW1 => ?_)
  obtain ⟨hx1, hb1, hr1⟩ := hW1
  have HB := Lib.hid hb1
  have HR := Lib.hid hr1
  have HX1 := Lib.hid hx1
  have HL1 := Lib.hid (HL.out.later hx1)
  generalize hnb : w.heap.size = nb at *
  have HNB := Lib.hid (show w.heap.size ≤ nb from Nat.le_of_eq hnb)
  clear hnb
  clear hb1 hr1
  go_upto_region 2 with (fail)
  refine hideW (Φ := fun W => Code.wp _ _ _ _ W) (fun W => Ext W1 W ∧ Blk W W1.heap.size [.slice none 0 0] 24)
    ⟨by (repeat (first | with_reducible exact Ext.refl _ | with_reducible assumption | with_reducible refine Ext.alloc ?_ _ | with_reducible refine Ext.drew ?_ | with_reducible refine Ext.drewN ?_ _ | (with_reducible refine Ext.setCellP ?_ ?_; focus (first | (simp; done) | (simp; omega) | omega)))), Blk.new W1 [.slice none 0 0] 24⟩ (fun W2 hW2 => ?_)
  obtain ⟨hx2, ho2⟩ := hW2
  have hbc := (HB.out.later hx2).cells
  have HX2 := Lib.hid hx2
  have HO2 := Lib.hid ho2
  clear hx2 ho2
  go_upto_region 3 with (fail)
  have em : max 1 (min (ls.length : Int) 8) = (manyN ls : Int) := many_eq ls.length
  rw [em]
  clear em hbc
  have HM := Lib.hid (fitN_len ls)
  have hob : nb + 1 < W1.heap.size := HR.out.lt
  go_wp2_with fail
  go_loopw [5, 6] (fun i _ wr => ∃ (k : Nat) (v : Value), k ≤ manyN ls ∧ i = I k ∧ Hid (Blk wr W1.heap.size [v] 24) ∧ Hid (FitT wr (W1.heap.size + 1) v ((fitN ls).take k)) ∧ Hid (Ext W1 wr)) (fun i _ _ => manyN ls - (intOf i).toNat)
  case atStart => exact ⟨0, .slice none 0 0, by omega, rfl, HO2.out, FitT.nil _ _, HX2.out⟩
  case round =>
    obtain ⟨k, v, hk, rfl, HOB, HOT, HX⟩ := hrel
    by_cases hlt : k < manyN ls
    · have hst := fitN_step ls hlt
      have HST := Lib.hid hst
      clear hst
      have hbc := (HB.out.later HX.out).cells
      have HA := Lib.hid ((Ext.refl wr).alloc (.cells #[] 42))
      have hbc2 := (HB.out.later (HX.out.trans HA.out)).cells
      have HLEN := Lib.hid (show ((fitN ls).take k).length = k by rw [List.length_take, HM.out]; omega)
      obtain ⟨va, vcap, hv, v1, v2, v3⟩ := HOT.out.tables.form
      rw [HLEN.out] at hv v1
      subst hv
      clear v3
      by_cases hin : k < ls.length
      case' pos =>
        have hind : decide (k < ls.length) = true := decide_eq_true hin
        obtain ⟨b0, o0, u, rfl, p0, hru⟩ := A3.out k ls[k] (List.getElem?_eq_getElem hin)
        have p1 := ((HX1.out.trans HX.out).trans HA.out).cell p0
        have HRX := Lib.hid (show RulesAt (wr.alloc (.cells #[] 42)) u (ls.getD k []) by
          rw [List.getD_eq_getElem?_getD, List.getElem?_eq_getElem hin]; exact hru.later ((HX1.out.trans HX.out).trans HA.out))
        have HOX := Lib.hid (show RulesOk (ls.getD k []) by rw [List.getD_eq_getElem?_getD, List.getElem?_eq_getElem hin]; exact HOK.out.at hin)
        clear p0 hru
        go_upto_region 9 with (fail)
        clear p1
      case' neg =>
        have hind : decide (k < ls.length) = false := decide_eq_false hin
        have HRX := Lib.hid (show RulesAt (wr.alloc (.cells #[] 42)) (.slice (some ⟨wr.heap.size, 0, none⟩) 0 0) (ls.getD k []) by
          rw [List.getD_eq_getElem?_getD, List.getElem?_eq_none (by omega)]; exact Reads.made wr 4 42 0 [] rfl (by unfold maxLen; omega))
        have HOX := Lib.hid (show RulesOk (ls.getD k []) by rw [List.getD_eq_getElem?_getD, List.getElem?_eq_none (by omega)]; exact fun r hr => (by cases hr))
        go_upto_region 9 with (fail)
      all_goals
        clear hbc hbc2 hin hind
        have HXa := Lib.hid (HX.out.trans HA.out)
        have HOBa := Lib.hid (HOB.out.later HA.out)
        have HOTa := Lib.hid (HOT.out.later HA.out)
        clear HOB HOT HX HA
        generalize ls.getD k [] = xl at *
        generalize (wr.alloc (Obj.cells #[] 42)) = w3 at *
        refine wp_region_R (RB (W1.heap.size + 1)) 6 rfl (by kernel_rfl) (by kernel_rfl) (fun w0 hx0 => ?_)
        have hwb : W1.heap.size + 1 ≤ w0.heap.size := ((HOBa.out.later hx0).lt)
        have hbk := RB.keep hwb (Nat.lt_succ_self _) ((HOBa.out.later hx0).cells 0)
        have HWB := Lib.hid hwb
        clear hwb
        refine WR_q (preRB _) 0 rfl (by decide) (by kernel_rfl) rfl ?_; apply Exists.intro; refine ⟨fun w1 hx1 => ?_, ?_⟩
        · go_simp; try go_bits
          first | with_reducible rfl | rfl
        simp only [Act.put, List.setIfInBounds_toArray, List.set_cons_zero, List.set_cons_succ]
        refine WR_q (preRB _) 1 rfl (by decide) (by kernel_rfl) rfl ?_; apply Exists.intro; refine ⟨fun w1 hx1 => ?_, ?_⟩
        · go_simp; try go_bits
          first | with_reducible rfl | rfl
        simp only [Act.put, List.setIfInBounds_toArray, List.set_cons_zero, List.set_cons_succ]
        refine WR_q (preRB _) 2 rfl (by decide) (by kernel_rfl) rfl ?_; apply Exists.intro; refine ⟨fun w1 hx1 => ?_, ?_⟩
        · go_simp; try go_bits
          first | with_reducible rfl | rfl
        simp only [Act.put, List.setIfInBounds_toArray, List.set_cons_zero, List.set_cons_succ]
        refine WR_q (preRB _) 3 rfl (by decide) (by kernel_rfl) rfl ?_; apply Exists.intro; refine ⟨fun w1 hx1 => ?_, ?_⟩
        · go_simp; try go_bits
          first | with_reducible rfl | rfl
        simp only [Act.put, List.setIfInBounds_toArray, List.set_cons_zero, List.set_cons_succ]
        refine WR_one 4 rfl (by decide) (by kernel_rfl) rfl (fun K hK => ?_)
        go_simp
        refine (r08FitF_any _ xl _ _ (HRX.out.later hx0) HOX.out (by omega) (by omega)).mono ?_
        rintro e w5 ⟨fv, he, hfr, hx5⟩
        have hF : RulesAt w5 fv (fitL xl (manyN ls)) := Reads.of_own hfr
        subst he
        refine hK _ _ (RB.ext hx5) ?_
        clear hK K hbk
        obtain ⟨fa, fcap, rfl, f1, f2, f3⟩ := hF.form
        clear f3
        have HF := Lib.hid hF
        have HFR := Lib.hid hfr
        clear hF hfr
        generalize fitL xl (manyN ls) = fl at *
        refine WR_one 5 rfl (by decide) (by kernel_rfl) rfl (fun K hK => ?_)
        go_simp
        refine hK _ _ (RB.ext ((Ext.refl _).alloc _)) ?_
        clear hK K
        have HX6 := Lib.hid (show Ext w3 (w5.alloc (.cells #[.slice fa fl.length fcap] 39)) from (hx0.trans hx5).alloc _)
        have HF6 := Lib.hid (own_later (own_low HFR.out HWB.out) ((Ext.refl w5).alloc (.cells #[.slice fa fl.length fcap] 39)))
        have HS := Lib.hid (show (w5.alloc (.cells #[.slice fa fl.length fcap] 39)).cell? ⟨w5.heap.size, 0, none⟩ = some (.slice fa fl.length fcap) from (Blk.new w5 [.slice fa fl.length fcap] 39).cells 0)
        have HOT6 := HOTa.out.later HX6.out
        have HOB6 := Lib.hid (HOBa.out.later HX6.out)
        unfold FitT at HOT6
        rw [HLEN.out] at HOT6
        obtain ⟨vs, hown, hvs⟩ := HOT6
        have HOWN := Lib.hid hown
        have HVS := Lib.hid hvs
        have HZ := Lib.hid (show W1.heap.size + 1 ≤ (w5.alloc (.cells #[.slice fa fl.length fcap] 39)).heap.size from HOB6.out.lt)
        clear hown hvs
        refine WR_done (by kernel_rfl) ?_
        (try simp only [List.drop_succ_cons, List.drop_zero])
        have hc5 := HOB6.out.cells
        have hf5 := HOB6.out.frozen
        go_wp2_with (first
          | (at_builtin; refine wpList_app1 rfl (.tmp 30) (.tmp 34) 22 rfl (W1.heap.size + 1) 39 _ 24 Try.underlying22 infoRules rfl (by decide) _ _ _ rfl HOWN.out _ rfl _ HS.out rfl (by omega) HZ.out ?_; intro v7 w7 ho7 hg7 hloc7
             have HB7 := Lib.hid (show Below (W1.heap.size + 1) (w5.alloc (.cells #[.slice fa fl.length fcap] 39)) w7 from Below.grown (Below.refl _ _) hg7 HZ.out fun q hq => (HOWN.out.lt q hq).1)
             have HOT7 := Lib.hid (show FitT w7 (W1.heap.size + 1) v7 ((fitN ls).take (k + 1)) by
               have e := HLEN.out
               rw [HST.out]
               exact FitT.app (by rw [e]; exact HOWN.out) HVS.out (by rw [e]; exact ho7) hg7 HF6.out)
             have HOB7 := Lib.hid (show Blk w7 W1.heap.size [.slice va k vcap] 24 from blk_below HOB6.out (Nat.lt_succ_self _) HB7.out)
             have HX7 := Lib.hid (show Ext W1 w7 from Ext.grown (HXa.out.trans HX6.out) hg7 HOWN.out (Nat.le_succ _))
             have HLEN7 := Lib.hid (show ((fitN ls).take (k + 1)).length = k + 1 by rw [List.length_take, HM.out]; omega)
             obtain ⟨va7, vcap7, hv7, q1, q2, q3⟩ := HOT7.out.tables.form
             rw [HLEN7.out] at hv7 q1
             subst hv7
             clear q3 ho7 hg7 hloc7
             have hc7 := HOB7.out.cells
             have hf7 := HOB7.out.frozen))
        go_roundw
        case rel =>
          exact ⟨k + 1, _, by omega, by go_num, HOB7.out.set 0 _, HOT7.out.setCell (Nat.lt_succ_self _) _, HX7.out.setCell (Nat.le_refl _) _⟩
        case measure => simp [intOf]; omega
    · have HE := Lib.hid (show (fitN ls).take k = fitN ls by rw [List.take_of_length_le (by rw [HM.out]; omega)])
      have HLEN := Lib.hid (show ((fitN ls).take k).length = k by rw [List.length_take, HM.out]; omega)
      obtain ⟨va, vcap, hv, v1, v2, v3⟩ := HOT.out.tables.form
      rw [HLEN.out] at hv v1
      subst hv
      clear v3
      have hbc := HOB.out.cells
      have hrc := (HR.out.later HX.out).cells
      have hrf := (HR.out.later HX.out).frozen
      have hrb := ((HR.out.later HX.out).set 0 (.slice va k vcap)).cells
      go_wp2_with fail
      refine bodyPost_ret (v := .agg #[.slice va k vcap]) ?_ rfl ⟨_, rfl, ?_, ?_⟩
      · simp [results, Try.results22, go_sem, hrb]
      · have hot := HOT.out
        rw [HE.out] at hot
        have h1 := HNB.out
        exact (hot.setCell (p := ⟨nb + 1, 0, none⟩) (by simp; omega) _).low (by have := HX1.out.size; omega)
      · exact Ext.setCell (HX1.out.trans HX.out) (by have := HNB.out; simp; omega) _
end Go.Proofs.Ytilaljdokpdcoaa
