/- A network of 8 nodes at most, of 20 rules at most each. Conditions: none. -/
import Derived.Test.YtfldjlibnjgdaaaGreatGNetP
namespace Go.Proofs.YtfldjlibnjgdaaaGreat
open Go.RowKit

theorem fewN_step {ls : List (List Rul)} {k : Nat} (h : k < ls.length) (h8 : k < 8) : (fewN ls).take (k + 1) = (fewN ls).take k ++ [ls[k].take 20] := by
  have hl : k < (fewN ls).length := by unfold fewN; rw [List.length_map, List.length_take]; omega
  rw [List.take_succ_eq_append_getElem hl]
  congr 2
  unfold fewN
  simp
theorem min20 (n : Nat) : min (n : Int) 20 = ((min n 20 : Nat) : Int) := by omega
theorem slv_own (s : Nat) (a : Option Addr) (n cap l h : Nat) : (slv s (.slice a n cap) l h).ownBlock = (Value.slice a n cap).ownBlock := by
  unfold slv sliced
  cases a with
  | none => simp [Value.ownBlock]
  | some a =>
    by_cases e : cap = l <;> simp [e, Value.ownBlock, Addr.add] <;> split <;> rfl
set_option maxHeartbeats 2000000 in
set_option maxRecDepth 100000 in
theorem few21_any (lv : Value) (ls : List (List Rul)) (w : World) (hl : TablesAt w lv ls) :
    Calls Tryz.prog 7 #[.agg #[lv]] w fun e w' => ∃ v, e = .returned (.agg #[v]) ∧ TablesAt w' v (fewN ls) ∧ Ext w w' := by
  have HL := Lib.hid hl
  obtain ⟨ad, cap, rfl, a1, a2, a3⟩ := hl.form
  have A3 := Lib.hid a3
  clear a3 hl
  unfold maxLen at a2
  go_enter Tryz.func7, Tryz.ntmps7
  go_upto_region 1 with (fail)
  refine hideW (Φ := fun W => Code.wp _ _ _ _ W) (fun W => Ext w W ∧ Blk W w.heap.size [.slice ad ls.length cap] 24 ∧ Blk W (w.heap.size + 1) [.slice none 0 0] 24)
    ⟨by (repeat (first | with_reducible exact Ext.refl _ | with_reducible assumption | with_reducible refine Ext.alloc ?_ _ | with_reducible refine Ext.drew ?_ | with_reducible refine Ext.drewN ?_ _ | (with_reducible refine Ext.setCellP ?_ ?_; focus (first | (simp; done) | (simp; omega) | omega)))), (Blk.new w [.slice ad ls.length cap] 24).old _, Blk.newAt [.slice none 0 0] (by simp)⟩ (fun W1 hW1 => ?_)
  obtain ⟨hx1, hb1, hr1⟩ := hW1
  have HB := Lib.hid hb1
  have HR := Lib.hid hr1
  have HX1 := Lib.hid hx1
  clear hb1 hr1
  generalize hnb : w.heap.size = nb at *
  have HNB := Lib.hid (show w.heap.size ≤ nb from Nat.le_of_eq hnb)
  clear hnb
  go_upto_region 2 with (fail)
  refine hideW (Φ := fun W => Code.wp _ _ _ _ W) (fun W => Ext W1 W ∧ Blk W W1.heap.size [.slice none 0 0] 24)
    ⟨by (repeat (first | with_reducible exact Ext.refl _ | with_reducible assumption | with_reducible refine Ext.alloc ?_ _ | with_reducible refine Ext.drew ?_ | with_reducible refine Ext.drewN ?_ _ | (with_reducible refine Ext.setCellP ?_ ?_; focus (first | (simp; done) | (simp; omega) | omega)))), Blk.new W1 [.slice none 0 0] 24⟩ (fun W2 hW2 => ?_)
  obtain ⟨hx2, ho2⟩ := hW2
  have HX2 := Lib.hid hx2
  have HO2 := Lib.hid ho2
  clear hx2 ho2
  have hob : nb + 1 < W1.heap.size := HR.out.lt
  go_wp2_with fail
  go_loopw [4] (fun i wr => ∃ (k : Nat) (v : Value), k ≤ ls.length ∧ k ≤ 8 ∧ i = I k ∧ Hid (Blk wr W1.heap.size [v] 24) ∧ Hid (OwnT wr (W1.heap.size + 1) (· < nb) v ((fewN ls).take k)) ∧ Hid (Ext W1 wr)) (fun i _ => 8 - (intOf i).toNat)
  case atStart => exact ⟨0, .slice none 0 0, by omega, by omega, rfl, HO2.out, OwnT.nil _ _ _, HX2.out⟩
  case round =>
    obtain ⟨k, v, hk, hk8, rfl, HOB, HOT, HX⟩ := hrel
    have HLEN := Lib.hid (show ((fewN ls).take k).length = k by unfold fewN; rw [List.length_take, List.length_map, List.length_take]; omega)
    obtain ⟨va, vcap, hv, v1, v2, v3⟩ := HOT.out.tables.form
    rw [HLEN.out] at hv v1
    subst hv
    clear v3
    have hbc := (HB.out.later HX.out).cells
    by_cases hlt : k < ls.length
    · by_cases hlt8 : k < 8
      · have HST := Lib.hid (fewN_step hlt hlt8)
        obtain ⟨b0, o0, u, rfl, p0, hru⟩ := A3.out k ls[k] (List.getElem?_eq_getElem hlt)
        have HBL := Lib.hid (show ls[k] = [] ∨ ∀ b, u.ownBlock = some b → b < w.heap.size by
          by_cases e : ls[k] = []
          · exact .inl e
          · exact .inr (hru.blt e))
        obtain ⟨ua, ucap, rfl, u1, u2, u3⟩ := hru.form
        clear u3
        unfold maxLen at u2
        go_wp2_with fail
        refine wp_region_R (RB (W1.heap.size + 1)) 16 rfl (by kernel_rfl) (by kernel_rfl) (fun w0 hx0 => ?_)
        have hwb : W1.heap.size + 1 ≤ w0.heap.size := ((HOB.out.later hx0).lt)
        have HX0 := Lib.hid (HX.out.trans hx0)
        have hbk := RB.keep hwb (Nat.lt_succ_self _) ((HOB.out.later hx0).cells 0)
        have hnk := RB.keep (p := ⟨nb, 0, none⟩) hwb (by simp; omega) ((HB.out.later HX0.out).cells 0)
        have hwl : b0 < nb + 1 ∨ True := .inr trivial
        have HP0 := Lib.hid (HX1.out.trans HX0.out)
        have hck := RB.keep (p := ⟨b0, o0 + k, none⟩) hwb (by
          have h1 : b0 < w.heap.size := by
            rcases Nat.lt_or_ge b0 w.heap.size with h' | h'
            · exact h'
            · simp [World.cell?, Array.getElem?_eq_none h'] at p0
          have h2 := HX1.out.size
          simp; omega) (HP0.out.cell p0)
        have HWB := Lib.hid hwb
        have HRU := Lib.hid (hru.later HP0.out)
        have hmn : min ls[k].length 20 ≤ ucap := by omega
        clear hwb p0 hru hwl
        refine WRi_at 0 ?_
        iterate 13
          refine WRi_q (preRB _) rfl (by decide) (by kernel_rfl) rfl ?_; apply Exists.intro; refine ⟨fun w1 hx1 => ?_, ?_⟩
          · go_simp; try go_bits
            first | with_reducible rfl | rfl
          simp only [Act.put, List.setIfInBounds_toArray, List.set_cons_zero, List.set_cons_succ, Nat.reduceAdd]
        refine WRi_out ?_
        refine WR_q (preRB _) 13 rfl (by decide) (by kernel_rfl) rfl ⟨I (min ls[k].length 20 : Nat), fun w1 hx1 => ?_, ?_⟩
        · go_simp; rw [← min20]
        simp only [Act.put, List.setIfInBounds_toArray, List.set_cons_zero, List.set_cons_succ]
        refine WR_q (preRB _) 14 rfl (by decide) (by kernel_rfl) rfl ⟨_, fun w1 hx1 => run_slice_to rfl Tryz.underlying49 sizeRule rfl rfl hmn, ?_⟩
        simp only [Act.put, List.setIfInBounds_toArray, List.set_cons_zero, List.set_cons_succ]
        have HFAR := Lib.hid (show Far (· < nb) (.slice va k vcap) (slv 4 (.slice ua ls[k].length ucap) 0 (min ls[k].length 20)) (ls[k].take 20) by
          rcases HBL.out with e | e
          · exact .inl (by rw [e]; rfl)
          · refine .inr fun b hb => ?_
            rw [slv_own] at hb
            have h1 := e b hb
            have h2 := HNB.out
            refine ⟨by omega, fun hg => ?_⟩
            obtain ⟨us, hu, _⟩ := HOT.out
            have h3 := (hu.lt b hg).1
            omega)
        have HRP := Lib.hid (show RulesAt w0 (slv 4 (.slice ua ls[k].length ucap) 0 (min ls[k].length 20)) (ls[k].take 20) by
          have := HRU.out.piece (j := 0) (k := min ls[k].length 20) (Nat.zero_le _) (Nat.min_le_left _ _)
          rw [List.drop_zero] at this
          rwa [show ls[k].take (min ls[k].length 20) = ls[k].take 20 by rw [List.take_eq_take_min (i := 20), Nat.min_comm]] at this)
        obtain ⟨sa, scap, hsv, s1, s2, s3⟩ := HRP.out.form
        rw [hsv] at HFAR HRP ⊢
        clear hsv s3 hbk hnk hck HRU hmn HBL u1 u2
        generalize ls[k].take 20 = fl at *
        refine WR_one 15 rfl (by decide) (by kernel_rfl) rfl (fun K hK => ?_)
        go_simp
        refine hK _ _ (RB.ext ((Ext.refl _).alloc _)) ?_
        clear hK K
        have HX6 := Lib.hid (show Ext w0 (w0.alloc (.cells #[.slice sa fl.length scap] 49)) from (Ext.refl _).alloc _)
        have HF6 := Lib.hid (HRP.out.later HX6.out)
        have HS := Lib.hid (show (w0.alloc (.cells #[.slice sa fl.length scap] 49)).cell? ⟨w0.heap.size, 0, none⟩ = some (.slice sa fl.length scap) from (Blk.new w0 [.slice sa fl.length scap] 49).cells 0)
        have HOT6 := HOT.out.later (hx0.trans HX6.out)
        have HOB6 := Lib.hid (HOB.out.later (hx0.trans HX6.out))
        unfold OwnT at HOT6
        rw [HLEN.out] at HOT6
        obtain ⟨vs, hown, hvs⟩ := HOT6
        have HOWN := Lib.hid hown
        have HVS := Lib.hid hvs
        have HZ := Lib.hid (show W1.heap.size + 1 ≤ (w0.alloc (.cells #[.slice sa fl.length scap] 49)).heap.size from HOB6.out.lt)
        clear hown hvs
        refine WR_done (by kernel_rfl) ?_
        (try simp only [List.drop_succ_cons, List.drop_zero])
        have hc5 := HOB6.out.cells
        have hf5 := HOB6.out.frozen
        go_wp2_with (first
          | (at_builtin; refine wpList_app1 rfl (.tmp 18) (.tmp 32) 22 rfl (W1.heap.size + 1) 49 _ 24 Tryz.underlying22 infoRules rfl (by decide) _ _ _ rfl HOWN.out _ rfl _ HS.out rfl (by omega) HZ.out ?_; intro v7 w7 ho7 hg7 hloc7
             have HB7 := Lib.hid (show Below (W1.heap.size + 1) (w0.alloc (.cells #[.slice sa fl.length scap] 49)) w7 from Below.grown (Below.refl _ _) hg7 HZ.out fun q hq => (HOWN.out.lt q hq).1)
             have HOT7 := Lib.hid (show OwnT w7 (W1.heap.size + 1) (· < nb) v7 ((fewN ls).take (k + 1)) by
               have e := HLEN.out
               rw [HST.out]
               exact OwnT.app (by rw [e]; exact HOWN.out) HVS.out (by rw [e]; exact ho7) hg7 hloc7 HF6.out HFAR.out)
             have HOB7 := Lib.hid (show Blk w7 W1.heap.size [.slice va k vcap] 24 from blk_below HOB6.out (Nat.lt_succ_self _) HB7.out)
             have HX7 := Lib.hid (show Ext W1 w7 from Ext.grown (HX0.out.trans HX6.out) hg7 HOWN.out (Nat.le_succ _))
             have HLEN7 := Lib.hid (show ((fewN ls).take (k + 1)).length = k + 1 by unfold fewN; rw [List.length_take, List.length_map, List.length_take]; omega)
             obtain ⟨va7, vcap7, hv7, q1, q2, q3⟩ := HOT7.out.tables.form
             rw [HLEN7.out] at hv7 q1
             subst hv7
             clear q3 ho7 hg7 hloc7
             have hc7 := HOB7.out.cells
             have hf7 := HOB7.out.frozen))
        go_roundw
        case rel =>
          exact ⟨k + 1, _, by omega, by omega, by go_num, HOB7.out.set 0 _, HOT7.out.setCell (Nat.lt_succ_self _) (by simp; omega) _, HX7.out.setCell (Nat.le_refl _) _⟩
        case measure => simp [intOf]; omega
      · have HE := Lib.hid (show (fewN ls).take k = fewN ls by rw [List.take_of_length_le (by have := fewN_len ls; omega)])
        have hk8d : decide ((k : Int) < 8) = false := decide_eq_false (by omega)
        have hoc := HOB.out.cells
        have hrc := (HR.out.later HX.out).cells
        have hrf := (HR.out.later HX.out).frozen
        have hrb := ((HR.out.later HX.out).set 0 (.slice va k vcap)).cells
        go_wp2_with fail
        refine bodyPost_ret (v := .agg #[.slice va k vcap]) ?_ rfl ⟨_, rfl, ?_, ?_⟩
        · simp [results, Tryz.results7, go_sem, hrb]
        · have hot := HOT.out
          rw [HE.out] at hot
          exact (hot.setCell (p := ⟨nb + 1, 0, none⟩) (by simp; omega) (by simp) _).tables
        · exact Ext.setCell (HX1.out.trans HX.out) (by have := HNB.out; simp; omega) _
    · have HE := Lib.hid (show (fewN ls).take k = fewN ls by rw [List.take_of_length_le (by unfold fewN; rw [List.length_map, List.length_take]; omega)])
      have hoc := HOB.out.cells
      have hrc := (HR.out.later HX.out).cells
      have hrf := (HR.out.later HX.out).frozen
      have hrb := ((HR.out.later HX.out).set 0 (.slice va k vcap)).cells
      go_wp2_with fail
      refine bodyPost_ret (v := .agg #[.slice va k vcap]) ?_ rfl ⟨_, rfl, ?_, ?_⟩
      · simp [results, Tryz.results7, go_sem, hrb]
      · have hot := HOT.out
        rw [HE.out] at hot
        exact (hot.setCell (p := ⟨nb + 1, 0, none⟩) (by simp; omega) (by simp) _).tables
      · exact Ext.setCell (HX1.out.trans HX.out) (by have := HNB.out; simp; omega) _
end Go.Proofs.YtfldjlibnjgdaaaGreat
