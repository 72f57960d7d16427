/- The law CutsJoin: the cuts of a network of the nodes of two are those of both. Conditions: whole numbers are within 64 bits. -/
import Derived.Test.YthcnihchfkmphaaGCuts
import Derived.Test.YthcnihchfkmphaaGNetP
import Derived.Test.YthcnihchfkmphaaRegion5
import Derived.Test.YthcnihchfkmphaaGVec
namespace Go.Proofs.Ythcnihchfkmphaa
open Go.RowKit

theorem tab_app {w : World} {vs us : List Value} {ls ms : List (List Rul)} (h1 : vs.length = ls.length) (h2 : ∀ (i : Nat) (l : List Rul), ls[i]? = some l → ∃ u, vs[i]? = some u ∧ RulesAt w u l)
    (k2 : ∀ (i : Nat) (l : List Rul), ms[i]? = some l → ∃ u, us[i]? = some u ∧ RulesAt w u l) : ∀ (i : Nat) (l : List Rul), (ls ++ ms)[i]? = some l → ∃ u, (vs ++ us)[i]? = some u ∧ RulesAt w u l := by
  intro i l h
  rcases Nat.lt_or_ge i ls.length with g | g
  · rw [List.getElem?_append_left g] at h
    rw [List.getElem?_append_left (by omega)]
    exact h2 i l h
  · rw [List.getElem?_append_right g] at h
    rw [List.getElem?_append_right (by omega), h1]
    exact k2 _ l h
def rowOf (n : Nat) (xs : List Value) (m : Nat) (ys : List Value) (z : Value) (x0 x1 x2 x4 : Value) : Nat → Option (Value × Nat × List Value)
  | 0 => none
  | 1 => some (x0, 0, [])
  | 2 => some (x1, n, xs)
  | 3 => some (x2, n + m, xs ++ ys)
  | _ => some (x4, n + m + 1, xs ++ ys ++ [z])
theorem blk_grown {w w' : World} {b : Nat} {cs : List Value} {T e : TypeId} {B s n : Nat} {v : Value} {xs : List Value} (hb : Blk w b cs T) (ho : w.ownsRow B e s v n xs) (hT : T ≠ e) (hg : w.grownBy w' v.ownBlock) : Blk w' b cs T := by
  have h1 := hg.block b hb.lt (blk_row hb ho hT)
  unfold Blk at *
  rw [h1]; exact hb
theorem own_keep {w : World} {B : Nat} {e : TypeId} {s n : Nat} {v : Value} {xs : List Value} (h : w.ownsRow B e s v n xs) {g : Nat} {cs : List Value} {T : TypeId} (hb : Blk w g cs T) (hT : T ≠ e) (o : Nat) (u : Value) : (w.setCell ⟨g, o, none⟩ u).ownsRow B e s v n xs := by
  obtain ⟨h0, h1⟩ := h
  refine ⟨h0, h1.imp id fun ⟨q, cap, cur, e1, e2, e3, e4⟩ => ⟨q, cap, cur, e1, e2, ?_, e4⟩⟩
  have hne : g ≠ q := by
    rintro rfl
    unfold Blk at hb
    rw [hb] at e3
    cases e3
    exact hT rfl
  simp [World.setCell, Array.getElem?_modify, hne, e3]
/-- The state of the statement that joins the nodes of two networks, whatever of it was carried out. -/
structure JoinSt (B : Nat) (W : World) (a0 : Act) (n : Nat) (xs : List Value) (m : Nat) (ys : List Value) (b : Nat → Bool) (a' : Act) (w' : World) (p : Nat) (x0 x1 x2 x3 x4 x5 x6 : Value) : Prop where
  act : a' = ((((((a0.put (some 33) x0).put (some 36) x1).put (some 39) x2).put (some 40) x3).put (some 41) x4).put (some 42) x5).put (some 10) x6
  b0 : b 0 = decide (1 ≤ p)
  b3 : b 3 = decide (2 ≤ p)
  b6 : b 6 = decide (3 ≤ p)
  b8 : b 8 = decide (4 ≤ p)
  b9 : b 9 = decide (5 ≤ p)
  u0 : p < 1 → x0 = undef
  u1 : p < 2 → x1 = undef
  u2 : p < 3 → x2 = undef
  u3 : b 7 = false → x3 = undef
  u4 : p < 4 → x4 = undef
  u5 : p < 5 → x5 = undef
  u6 : b 10 = false → x6 = undef
  done : 5 ≤ p → x5 = .agg #[x4]
  row : ForkRow B 31 W (rowOf n xs m ys (.slice none 0 0) x0 x1 x2 x4 p) (b 7) x3 (.slice none 0 0) w'
  box : b 10 = true → ∃ g, x6 = .pointer (some ⟨g, 0, none⟩) ∧ B ≤ g ∧ Blk w' g [.slice none 0 0] 24
theorem sizeN_app (a b : List (List Rul)) : sizeN (a ++ b) = sizeN a + sizeN b := by unfold sizeN; rw [List.map_append, List.sum_append]
theorem one_tables {w : World} {vs : List Value} {N : List (List Rul)} (h0 : vs.length = N.length) (h : ∀ (i : Nat) (l : List Rul), N[i]? = some l → ∃ u, vs[i]? = some u ∧ RulesAt w u l) : ∀ u ∈ vs, u.oneCell' = true := by
  intro u hu
  obtain ⟨k, hk, hku⟩ := List.mem_iff_getElem.1 hu
  obtain ⟨q, q1, q2⟩ := h k _ (List.getElem?_eq_getElem (by omega))
  rw [List.getElem?_eq_getElem hk] at q1
  cases q1
  obtain ⟨_, _, e, _⟩ := q2.form
  rw [← hku, e]; rfl
set_option maxHeartbeats 4000000 in
set_option maxRecDepth 100000 in
theorem cutsJoin_any (lv mv : Value) (ls ms : List (List Rul)) (a : BitVec 32) (w : World) (hl : TablesAt w lv ls) (hok : TablesOk ls) (hm : TablesAt w mv ms) (hmk : TablesOk ms) :
    Calls Try.prog 5 #[.agg #[lv], .agg #[mv], U a] w fun e w' => e = .returned (.bool true) ∧ Ext w w' := by
  have HL := Lib.hid hl
  have HOK := Lib.hid hok
  have HM := Lib.hid hm
  have HMK := Lib.hid hmk
  obtain ⟨ad, cap, hlv, a1, a2, a3⟩ := hl.form
  obtain ⟨md, mcap, hmv, m1, m2, m3⟩ := hm.form
  subst hlv hmv
  clear a3 hl hok m3 hm hmk
  unfold maxLen at a2 m2
  go_enter Try.func5, Try.ntmps5
  go_upto_region 1 with (fail)
  refine hideW (Φ := fun W => Code.wp _ _ _ _ W) (fun W => Ext w W ∧ Blk W w.heap.size [.slice ad ls.length cap] 24 ∧ Blk W (w.heap.size + 1) [.slice md ms.length mcap] 24)
    ⟨by (repeat (first | with_reducible exact Ext.refl _ | with_reducible assumption | with_reducible refine Ext.alloc ?_ _ | with_reducible refine Ext.drew ?_ | with_reducible refine Ext.drewN ?_ _ | (with_reducible refine Ext.setCellP ?_ ?_; focus (first | (simp; done) | (simp; omega) | omega)))), (Blk.new w [.slice ad ls.length cap] 24).old _, Blk.newAt [.slice md ms.length mcap] (by simp)⟩ (fun W1 hW1 => ?_)
  obtain ⟨hx1, hb1, hc1⟩ := hW1
  have HX1 := Lib.hid hx1
  have HB1 := Lib.hid hb1
  have HC1 := Lib.hid hc1
  clear hx1 hb1 hc1
  generalize w.heap.size = nb at *
  go_upto_region 2 with (first
    | (go_at_call 19; (with_reducible refine (shown12_any _).mono ?_); rintro e w2 ⟨rfl, hx2⟩; have HX2 := Lib.hid (HX1.out.trans hx2); have HB2 := Lib.hid (HB1.out.later hx2); have HC2 := Lib.hid (HC1.out.later hx2); clear hx2))
  have hbc2 := HB2.out.cells
  have HNS := Lib.hid (fitN_size ls)
  have HNO := Lib.hid (fitN_ok ls)
  have HUS := Lib.hid (fitN_size ms)
  have HUO := Lib.hid (fitN_ok ms)
  have hN := fitN_bd ls
  have hU := fitN_bd ms
  go_upto_region 3 with (first
    | (go_at_call 20; (with_reducible refine (r09Fit_any _ ls _ (HL.out.later HX2.out) HOK.out).mono ?_); rintro e w3 ⟨v3, he, hF, hx3⟩; subst he; have HF3 := Lib.hid hF.tables; obtain ⟨va, vcap, hv3, q1, q2, q3⟩ := HF3.out.form; subst hv3; clear q3; have HX3 := Lib.hid (HX2.out.trans hx3); have HC3 := Lib.hid (HC2.out.later hx3); clear hF hx3))
  generalize fitN ls = N at *
  clear hbc2 HB2 HB1 HC1 HC2
  unfold maxLen at q2
  refine hideW (Φ := fun W => Code.wp _ _ _ _ W) (fun W => Ext w3 W ∧ Blk W w3.heap.size [.slice va N.length vcap] 24)
    ⟨by (repeat (first | with_reducible exact Ext.refl _ | with_reducible assumption | with_reducible refine Ext.alloc ?_ _ | with_reducible refine Ext.drew ?_ | with_reducible refine Ext.drewN ?_ _ | (with_reducible refine Ext.setCellP ?_ ?_; focus (first | (simp; done) | (simp; omega) | omega)))), Blk.new w3 [.slice va N.length vcap] 24⟩ (fun W4 hW4 => ?_)
  obtain ⟨hx4, hb4⟩ := hW4
  have HX4 := Lib.hid (HX3.out.trans hx4)
  have HF4 := Lib.hid (HF3.out.later hx4)
  have HB4 := Lib.hid hb4
  have hcc4 := (HC3.out.later hx4).cells
  clear hx4 hb4 HF3 HX3 HX1 HX2 HC3
  generalize w3.heap.size = fb at *
  go_upto_region 4 with (first
    | (go_at_call 20; (with_reducible refine (r09Fit_any _ ms _ (HM.out.later HX4.out) HMK.out).mono ?_); rintro e w5 ⟨v5, he, hF, hx5⟩; subst he; have HG5 := Lib.hid hF.tables; obtain ⟨ua, ucap, hv5, t1, t2, t3⟩ := HG5.out.form; subst hv5; clear t3; have HX5 := Lib.hid (HX4.out.trans hx5); have HF5 := Lib.hid (HF4.out.later hx5); have HB5 := Lib.hid (HB4.out.later hx5); clear hF hx5))
  generalize fitN ms = V at *
  clear hcc4
  unfold maxLen at t2
  refine hideW (Φ := fun W => Code.wp _ _ _ _ W) (fun W => Ext w5 W ∧ Blk W w5.heap.size [.slice ua V.length ucap] 24)
    ⟨by (repeat (first | with_reducible exact Ext.refl _ | with_reducible assumption | with_reducible refine Ext.alloc ?_ _ | with_reducible refine Ext.drew ?_ | with_reducible refine Ext.drewN ?_ _ | (with_reducible refine Ext.setCellP ?_ ?_; focus (first | (simp; done) | (simp; omega) | omega)))), Blk.new w5 [.slice ua V.length ucap] 24⟩ (fun W6 hW6 => ?_)
  obtain ⟨hx6, hg6⟩ := hW6
  have HX6 := Lib.hid (HX5.out.trans hx6)
  have HF6 := Lib.hid (HF5.out.later hx6)
  have HB6 := Lib.hid (HB5.out.later hx6)
  have HG6 := Lib.hid (HG5.out.later hx6)
  have HD6 := Lib.hid hg6
  clear hx6 hg6 HF4 HF5 HB4 HB5 HG5 HX4 HX5
  generalize w5.heap.size = gb at *
  obtain ⟨vs, hrd, hvs⟩ := HF6.out
  obtain ⟨us, hrd2, hus⟩ := HG6.out
  have HRD := Lib.hid hrd
  have HVS := Lib.hid hvs
  have HRD2 := Lib.hid hrd2
  have HUV := Lib.hid hus
  have HL1 := Lib.hid (show vs.length = N.length by have := hrd.1; omega)
  have HL2 := Lib.hid (show us.length = V.length by have := hrd2.1; omega)
  have HO1 := Lib.hid (one_tables HL1.out hvs)
  have HO2 := Lib.hid (one_tables HL2.out hus)
  clear hrd hvs hrd2 hus
  go_wp2_with fail
  refine wp_region_R (RB (W6.heap.size)) 11 rfl (by kernel_rfl) (by kernel_rfl) (fun w0 hx0 => ?_)
  have HX0 := Lib.hid hx0
  have hsz : W6.heap.size ≤ w0.heap.size := hx0.size
  have hk1 := RB.keep (p := ⟨fb, 0, none⟩) hsz HB6.out.lt ((HB6.out.later hx0).cells 0)
  have hk2 := RB.keep (p := ⟨gb, 0, none⟩) hsz HD6.out.lt ((HD6.out.later hx0).cells 0)
  refine WR_q (preRB _) 1 rfl (by decide) (by kernel_rfl) rfl ?_; apply Exists.intro; refine ⟨fun w1 hx1 => ?_, ?_⟩
  · go_simp; try go_bits
    first | with_reducible rfl | rfl
  simp only [Act.put, List.setIfInBounds_toArray, List.set_cons_zero, List.set_cons_succ]
  refine WR_q (preRB _) 2 rfl (by decide) (by kernel_rfl) rfl ?_; apply Exists.intro; refine ⟨fun w1 hx1 => ?_, ?_⟩
  · go_simp; try go_bits
    first | with_reducible rfl | rfl
  simp only [Act.put, List.setIfInBounds_toArray, List.set_cons_zero, List.set_cons_succ]
  refine WR_q (preRB _) 4 rfl (by decide) (by kernel_rfl) rfl ?_; apply Exists.intro; refine ⟨fun w1 hx1 => ?_, ?_⟩
  · go_simp; try go_bits
    first | with_reducible rfl | rfl
  simp only [Act.put, List.setIfInBounds_toArray, List.set_cons_zero, List.set_cons_succ]
  refine WR_q (preRB _) 5 rfl (by decide) (by kernel_rfl) rfl ?_; apply Exists.intro; refine ⟨fun w1 hx1 => ?_, ?_⟩
  · go_simp; try go_bits
    first | with_reducible rfl | rfl
  simp only [Act.put, List.setIfInBounds_toArray, List.set_cons_zero, List.set_cons_succ]
  clear hk1 hk2 hx0
  have HSZ := Lib.hid hsz
  clear hsz
  generalize hA : Act.mk _ _ = a0
  have HA := Lib.hid hA
  clear hA
  refine WR_steps (S := fun b a' w' => b 1 = true ∧ b 2 = true ∧ b 4 = true ∧ b 5 = true ∧ ∃ (p : Nat) (x0 x1 x2 x3 x4 x5 x6 : Value), JoinSt W6.heap.size W6 a0 N.length vs V.length us b a' w' p x0 x1 x2 x3 x4 x5 x6)
    (by kernel_rfl) (by kernel_rfl) ?_ ?_ 7 _ _ _ (by kernel_rfl) ?_
  · rintro i oi b a' w' hoi hin hb hdep ⟨c1, c2, c4, c5, p, x0, x1, x2, x3, x4, x5, x6, hs⟩
    have hi : i = 0 ∨ i = 3 ∨ i = 6 ∨ i = 7 ∨ i = 8 ∨ i = 9 ∨ i = 10 := by
      rcases (show i = 0 ∨ i = 1 ∨ i = 2 ∨ i = 3 ∨ i = 4 ∨ i = 5 ∨ i = 6 ∨ i = 7 ∨ i = 8 ∨ i = 9 ∨ i = 10 by omega) with rfl | rfl | rfl | rfl | rfl | rfl | rfl | rfl | rfl | rfl | rfl <;>
        first | (rw [c1] at hb; cases hb; done) | (rw [c2] at hb; cases hb; done) | (rw [c4] at hb; cases hb; done) | (rw [c5] at hb; cases hb; done) | simp
    have e := HA.out
    have hrow := hs.row
    rcases hi with rfl | rfl | rfl | rfl | rfl | rfl | rfl
    · -- the empty row
      cases hoi
      have hp : p = 0 := by have := hs.b0; rw [hb] at this; simpa using this.symm
      subst hp
      refine ⟨rfl, fun K hK => ?_⟩
      obtain rfl := hs.u0 (by omega)
      have ha := hs.act
      subst e ha
      clear HA
      simp only [Act.put, List.setIfInBounds_toArray, List.set_cons_zero, List.set_cons_succ]
      go_simp
      refine hK _ _ (RB.ext ((Ext.refl _).alloc _)) ⟨by rw [upd_other (by omega)]; exact c1, by rw [upd_other (by omega)]; exact c2, by rw [upd_other (by omega)]; exact c4, by rw [upd_other (by omega)]; exact c5, 1, .slice (some ⟨w'.heap.size, 0, none⟩) 0 0, x1, x2, x3, x4, x5, x6, ?_⟩
      exact ⟨by simp only [Act.put, List.setIfInBounds_toArray, List.set_cons_zero, List.set_cons_succ], by rw [upd_self]; rfl, by rw [upd_other (by omega), hs.b3]; rfl, by rw [upd_other (by omega), hs.b6]; rfl, by rw [upd_other (by omega), hs.b8]; rfl, by rw [upd_other (by omega), hs.b9]; rfl,
        fun h => absurd h (by omega), fun _ => hs.u1 (by omega), fun _ => hs.u2 (by omega), fun h => hs.u3 (by rw [← h, upd_other (by omega)]), fun _ => hs.u4 (by omega), fun _ => hs.u5 (by omega), fun h => hs.u6 (by rw [← h, upd_other (by omega)]), fun h => absurd h (by omega),
        by rw [upd_other (by omega)]; exact hrow.made hrow.2.1, fun h => let ⟨g, g1, g2, g3⟩ := hs.box (by rw [← h, upd_other (by omega)]); ⟨g, g1, g2, g3.old _⟩⟩
    · -- the first network's nodes
      cases hoi
      have h0 : b 0 = true := hdep ⟨0, .data⟩ (by simp) rfl
      have hp : p = 1 := by have h1 := hs.b0; have h2 := hs.b3; rw [h0] at h1; rw [hb] at h2; have h3 := of_decide_eq_true h1.symm; have h4 := of_decide_eq_false h2.symm; omega
      subst hp
      refine ⟨rfl, fun K hK => ?_⟩
      obtain rfl := hs.u1 (by omega)
      have ha := hs.act
      subst e ha
      clear HA
      have hown := hrow.2.2.1 _ _ _ rfl
      simp only [Act.put, List.setIfInBounds_toArray, List.set_cons_zero, List.set_cons_succ]
      refine wp_of_list (ops := #[]) rfl ?_
      refine wpList_app_at rfl (.tmp 33) (.tmp 35) 22 rfl W6.heap.size 31 _ 1 24 Try.underlying22 infoRules rfl (by decide) (by decide) _ _ _ rfl hown _ _ _ rfl (HRD.out.later hrow.1) HO1.out (by omega) hrow.2.1 ?_
      intro v7 w7 ho7 hg7 hl7
      refine ⟨rfl, hK _ _ (RB.below hrow.2.1 (Below.grown (Below.refl _ _) hg7 hrow.2.1 fun q hq => (hown.lt q hq).1)) ⟨by rw [upd_other (by omega)]; exact c1, by rw [upd_other (by omega)]; exact c2, by rw [upd_other (by omega)]; exact c4, by rw [upd_other (by omega)]; exact c5, 2, x0, v7, x2, x3, x4, x5, x6, ?_⟩⟩
      exact ⟨by simp only [Act.put, List.setIfInBounds_toArray, List.set_cons_zero, List.set_cons_succ], by rw [upd_other (by omega), hs.b0]; rfl, by rw [upd_self]; rfl, by rw [upd_other (by omega), hs.b6]; rfl, by rw [upd_other (by omega), hs.b8]; rfl, by rw [upd_other (by omega), hs.b9]; rfl,
        fun h => absurd h (by omega), fun h => absurd h (by omega), fun _ => hs.u2 (by omega), fun h => hs.u3 (by rw [← h, upd_other (by omega)]), fun _ => hs.u4 (by omega), fun _ => hs.u5 (by omega), fun h => hs.u6 (by rw [← h, upd_other (by omega)]), fun h => absurd h (by omega),
        by rw [upd_other (by omega)]; exact hrow.grown (Nat.le_refl _) (by simpa using ho7) hg7 hl7, fun h => let ⟨g, g1, g2, g3⟩ := hs.box (by rw [← h, upd_other (by omega)]); ⟨g, g1, g2, blk_grown g3 hown (by decide) hg7⟩⟩
    · -- the second one's
      cases hoi
      have h0 : b 3 = true := hdep ⟨3, .data⟩ (by simp) rfl
      have hp : p = 2 := by have h1 := hs.b3; have h2 := hs.b6; rw [h0] at h1; rw [hb] at h2; have h3 := of_decide_eq_true h1.symm; have h4 := of_decide_eq_false h2.symm; omega
      subst hp
      refine ⟨rfl, fun K hK => ?_⟩
      obtain rfl := hs.u2 (by omega)
      have ha := hs.act
      subst e ha
      clear HA
      have hown := hrow.2.2.1 _ _ _ rfl
      simp only [Act.put, List.setIfInBounds_toArray, List.set_cons_zero, List.set_cons_succ]
      refine wp_of_list (ops := #[]) rfl ?_
      refine wpList_app_at rfl (.tmp 36) (.tmp 38) 22 rfl W6.heap.size 31 _ 1 24 Try.underlying22 infoRules rfl (by decide) (by decide) _ _ _ rfl hown _ _ _ rfl (HRD2.out.later hrow.1) HO2.out (by omega) hrow.2.1 ?_
      intro v7 w7 ho7 hg7 hl7
      refine ⟨rfl, hK _ _ (RB.below hrow.2.1 (Below.grown (Below.refl _ _) hg7 hrow.2.1 fun q hq => (hown.lt q hq).1)) ⟨by rw [upd_other (by omega)]; exact c1, by rw [upd_other (by omega)]; exact c2, by rw [upd_other (by omega)]; exact c4, by rw [upd_other (by omega)]; exact c5, 3, x0, x1, v7, x3, x4, x5, x6, ?_⟩⟩
      exact ⟨by simp only [Act.put, List.setIfInBounds_toArray, List.set_cons_zero, List.set_cons_succ], by rw [upd_other (by omega), hs.b0]; rfl, by rw [upd_other (by omega), hs.b3]; rfl, by rw [upd_self]; rfl, by rw [upd_other (by omega), hs.b8]; rfl, by rw [upd_other (by omega), hs.b9]; rfl,
        fun h => absurd h (by omega), fun h => absurd h (by omega), fun h => absurd h (by omega), fun h => hs.u3 (by rw [← h, upd_other (by omega)]), fun _ => hs.u4 (by omega), fun _ => hs.u5 (by omega), fun h => hs.u6 (by rw [← h, upd_other (by omega)]), fun h => absurd h (by omega),
        by rw [upd_other (by omega)]; exact hrow.grown (Nat.le_refl _) ho7 hg7 hl7, fun h => let ⟨g, g1, g2, g3⟩ := hs.box (by rw [← h, upd_other (by omega)]); ⟨g, g1, g2, blk_grown g3 hown (by decide) hg7⟩⟩
    · -- the cell of the node without rules
      cases hoi
      refine ⟨rfl, fun K hK => ?_⟩
      obtain rfl := hs.u3 hb
      have ha := hs.act
      subst e ha
      clear HA
      rw [hb] at hrow
      simp only [Act.put, List.setIfInBounds_toArray, List.set_cons_zero, List.set_cons_succ]
      go_simp
      refine hK _ _ (RB.ext ((Ext.refl _).alloc _)) ⟨by rw [upd_other (by omega)]; exact c1, by rw [upd_other (by omega)]; exact c2, by rw [upd_other (by omega)]; exact c4, by rw [upd_other (by omega)]; exact c5, p, x0, x1, x2, .slice (some ⟨w'.heap.size, 0, none⟩) 1 1, x4, x5, x6, ?_⟩
      exact ⟨by simp only [Act.put, List.setIfInBounds_toArray, List.set_cons_zero, List.set_cons_succ], by rw [upd_other (by omega), hs.b0], by rw [upd_other (by omega), hs.b3], by rw [upd_other (by omega), hs.b6], by rw [upd_other (by omega), hs.b8], by rw [upd_other (by omega), hs.b9],
        hs.u0, hs.u1, hs.u2, fun h => (by rw [upd_self] at h; cases h), hs.u4, hs.u5, fun h => hs.u6 (by rw [← h, upd_other (by omega)]), hs.done,
        by rw [upd_self]; exact hrow.cell, fun h => let ⟨g, g1, g2, g3⟩ := hs.box (by rw [← h, upd_other (by omega)]); ⟨g, g1, g2, g3.old _⟩⟩
    · -- that node
      cases hoi
      have h0 : b 6 = true := hdep ⟨6, .data⟩ (by simp) rfl
      have h7 : b 7 = true := hdep ⟨7, .data⟩ (by simp) rfl
      have hp : p = 3 := by have h1 := hs.b6; have h2 := hs.b8; rw [h0] at h1; rw [hb] at h2; have h3 := of_decide_eq_true h1.symm; have h4 := of_decide_eq_false h2.symm; omega
      subst hp
      refine ⟨rfl, fun K hK => ?_⟩
      obtain rfl := hs.u4 (by omega)
      have ha := hs.act
      have hown := hrow.2.2.1 _ _ _ rfl
      obtain ⟨g, hg1, hg2, hg3, hg4⟩ := hrow.2.2.2 h7
      subst e ha hg1
      clear HA
      have hsrc : Reads w' 1 (.slice (some ⟨g, 0, none⟩) 1 1) 1 [.slice none 0 0] := ⟨rfl, _, 1, rfl, Nat.le_refl _, by unfold maxLen; omega, fun h => (by cases h), fun b hb => (by
        cases hb
        refine ⟨.inl rfl, fun j u hj => ?_⟩
        match j, hj with
        | 0, hj => simp at hj; subst hj; exact hg2)⟩
      simp only [Act.put, List.setIfInBounds_toArray, List.set_cons_zero, List.set_cons_succ]
      refine wp_of_list (ops := #[]) rfl ?_
      refine wpList_app_at rfl (.tmp 39) (.tmp 40) 22 rfl W6.heap.size 31 _ 1 24 Try.underlying22 infoRules rfl (by decide) (by decide) _ _ _ rfl hown _ _ _ rfl hsrc (by intro u hu; simp at hu; subst hu; rfl) (by omega) hrow.2.1 ?_
      intro v7 w7 ho7 hg7 hl7
      refine ⟨rfl, hK _ _ (RB.below hrow.2.1 (Below.grown (Below.refl _ _) hg7 hrow.2.1 fun q hq => (hown.lt q hq).1)) ⟨by rw [upd_other (by omega)]; exact c1, by rw [upd_other (by omega)]; exact c2, by rw [upd_other (by omega)]; exact c4, by rw [upd_other (by omega)]; exact c5, 4, x0, x1, x2, .slice (some ⟨g, 0, none⟩) 1 1, v7, x5, x6, ?_⟩⟩
      exact ⟨by simp only [Act.put, List.setIfInBounds_toArray, List.set_cons_zero, List.set_cons_succ], by rw [upd_other (by omega), hs.b0]; rfl, by rw [upd_other (by omega), hs.b3]; rfl, by rw [upd_other (by omega), hs.b6]; rfl, by rw [upd_self]; rfl, by rw [upd_other (by omega), hs.b9]; rfl,
        fun h => absurd h (by omega), fun h => absurd h (by omega), fun h => absurd h (by omega), fun h => (by rw [upd_other (by omega), h7] at h; cases h), fun h => absurd h (by omega), fun _ => hs.u5 (by omega), fun h => hs.u6 (by rw [← h, upd_other (by omega)]), fun h => absurd h (by omega),
        by rw [upd_other (by omega)]; exact hrow.grown (Nat.le_refl _) ho7 hg7 hl7, fun h => let ⟨g, g1, g2, g3⟩ := hs.box (by rw [← h, upd_other (by omega)]); ⟨g, g1, g2, blk_grown g3 hown (by decide) hg7⟩⟩
    · -- the network
      cases hoi
      have h0 : b 8 = true := hdep ⟨8, .data⟩ (by simp) rfl
      have hp : p = 4 := by have h1 := hs.b8; have h2 := hs.b9; rw [h0] at h1; rw [hb] at h2; have h3 := of_decide_eq_true h1.symm; have h4 := of_decide_eq_false h2.symm; omega
      subst hp
      refine ⟨rfl, fun K hK => ?_⟩
      obtain rfl := hs.u5 (by omega)
      have ha := hs.act
      have hown := hrow.2.2.1 _ _ _ rfl
      obtain ⟨-, ra, rcap, hra, -⟩ := Reads.of_own hown
      have hra' : x4 = .slice ra (N.length + V.length + 1) rcap := hra
      subst hra'
      subst e ha
      clear HA
      simp only [Act.put, List.setIfInBounds_toArray, List.set_cons_zero, List.set_cons_succ]
      go_simp
      refine hK _ _ (RB.ext (Ext.refl _)) ⟨by rw [upd_other (by omega)]; exact c1, by rw [upd_other (by omega)]; exact c2, by rw [upd_other (by omega)]; exact c4, by rw [upd_other (by omega)]; exact c5, 5, x0, x1, x2, x3, .slice ra (N.length + V.length + 1) rcap, .agg #[.slice ra (N.length + V.length + 1) rcap], x6, ?_⟩
      exact ⟨by simp only [Act.put, List.setIfInBounds_toArray, List.set_cons_zero, List.set_cons_succ], by rw [upd_other (by omega), hs.b0]; rfl, by rw [upd_other (by omega), hs.b3]; rfl, by rw [upd_other (by omega), hs.b6]; rfl, by rw [upd_other (by omega), hs.b8]; rfl, by rw [upd_self]; rfl,
        fun h => absurd h (by omega), fun h => absurd h (by omega), fun h => absurd h (by omega), fun h => hs.u3 (by rw [← h, upd_other (by omega)]), fun h => absurd h (by omega), fun h => absurd h (by omega), fun h => hs.u6 (by rw [← h, upd_other (by omega)]), fun _ => rfl,
        by rw [upd_other (by omega)]; exact hrow, fun h => hs.box (by rw [← h, upd_other (by omega)])⟩
    · -- its place
      cases hoi
      refine ⟨rfl, fun K hK => ?_⟩
      obtain rfl := hs.u6 hb
      have ha := hs.act
      subst e ha
      clear HA
      simp only [Act.put, List.setIfInBounds_toArray, List.set_cons_zero, List.set_cons_succ]
      go_simp
      refine hK _ _ (RB.ext ((Ext.refl _).alloc _)) ⟨by rw [upd_other (by omega)]; exact c1, by rw [upd_other (by omega)]; exact c2, by rw [upd_other (by omega)]; exact c4, by rw [upd_other (by omega)]; exact c5, p, x0, x1, x2, x3, x4, x5, .pointer (some ⟨w'.heap.size, 0, none⟩), ?_⟩
      exact ⟨by simp only [Act.put, List.setIfInBounds_toArray, List.set_cons_zero, List.set_cons_succ], by rw [upd_other (by omega), hs.b0], by rw [upd_other (by omega), hs.b3], by rw [upd_other (by omega), hs.b6], by rw [upd_other (by omega), hs.b8], by rw [upd_other (by omega), hs.b9],
        hs.u0, hs.u1, hs.u2, fun h => hs.u3 (by rw [← h, upd_other (by omega)]), hs.u4, hs.u5, fun h => (by rw [upd_self] at h; cases h), hs.done,
        by rw [upd_other (by omega)]; exact hrow.alloc _, fun _ => ⟨_, rfl, hrow.2.1, Blk.new w' [.slice none 0 0] 24⟩⟩
  rotate_left
  · have e := HA.out
    subst e
    refine ⟨rfl, rfl, rfl, rfl, 0, undef, undef, undef, undef, undef, undef, undef, ?_⟩
    exact ⟨by simp only [Act.put, List.setIfInBounds_toArray, List.set_cons_zero, List.set_cons_succ], rfl, rfl, rfl, rfl, rfl, fun _ => rfl, fun _ => rfl, fun _ => rfl, fun _ => rfl, fun _ => rfl, fun _ => rfl, fun _ => rfl, fun h => absurd h (by omega),
      ⟨HX0.out, HSZ.out, fun v n xs h => (by cases h), fun h => absurd (show false = true from h) Bool.false_ne_true⟩, fun h => absurd (show false = true from h) Bool.false_ne_true⟩
  · rintro b a' w8 hall ⟨-, -, -, -, p, x0, x1, x2, x3, x4, x5, x6, hs⟩
    have e := HA.out
    have hp : 5 ≤ p := by have h1 := hs.b9; rw [hall 9 (by omega)] at h1; exact of_decide_eq_true h1.symm
    obtain ⟨gg, rfl, hgb, hbk⟩ := hs.box (hall 10 (by omega))
    obtain rfl := hs.done hp
    have ha := hs.act
    have hrow := hs.row
    have hrw : rowOf N.length vs V.length us (.slice none 0 0) x0 x1 x2 x4 p = some (x4, N.length + V.length + 1, vs ++ us ++ [.slice none 0 0]) := by
      obtain ⟨q, rfl⟩ : ∃ q, p = q + 4 := ⟨p - 4, by omega⟩
      rfl
    rw [hrw] at hrow
    have hown := hrow.2.2.1 _ _ _ rfl
    obtain ⟨AL, hAL⟩ : ∃ AL, N ++ V ++ [[]] = AL := ⟨_, rfl⟩
    have HALE := Lib.hid hAL
    clear hAL
    have HX8 := Lib.hid hrow.1
    have HTF := Lib.hid (show ∀ W, Ext W6 W → W.ownsRow W6.heap.size 31 1 x4 (N.length + V.length + 1) (vs ++ us ++ [.slice none 0 0]) → TablesAt W x4 AL from fun W hx ho => by
      rw [← HALE.out]
      exact ⟨_, by
        have := Reads.of_own ho
        rw [List.length_append, List.length_append]
        exact this, tab_app (by rw [List.length_append, List.length_append, HL1.out, HL2.out])
        (tab_app HL1.out (fun i l h => let ⟨u, g1, g2⟩ := HVS.out i l h; ⟨u, g1, g2.later hx⟩) (fun i l h => let ⟨u, g1, g2⟩ := HUV.out i l h; ⟨u, g1, g2.later hx⟩))
        (fun i l h => by
          match i, h with
          | 0, h => simp at h; subst h; exact ⟨_, rfl, Reads.nil W 4⟩)⟩)
    have HT8 := Lib.hid (HTF.out w8 HX8.out hown)
    have HOWN := Lib.hid hown
    obtain ⟨wa, wcap, hv8, z1, z2, -⟩ := HT8.out.form
    subst e ha hv8
    have HGB := Lib.hid hgb
    have HBK := Lib.hid hbk
    have hkc := hbk.cells
    have hkf := hbk.frozen
    clear HA hs hrow hrw hown hall hbk hgb
    simp only [Act.put, List.setIfInBounds_toArray, List.set_cons_zero, List.set_cons_succ]
    (try simp only [List.drop_succ_cons, List.drop_zero])
    go_upto_region 5 with (fail)
    have HALN := Lib.hid (show AL.flatten = N.flatten ++ V.flatten by rw [← HALE.out]; simp)
    have HALS := Lib.hid (show sizeN AL ≤ 320 by rw [← HALE.out, sizeN_app, sizeN_app]; have h1 := HNS.out; have h2 := HUS.out; have h3 : sizeN [[]] = 0 := rfl; omega)
    have HALO := Lib.hid (show TablesOk AL by
      rw [← HALE.out]
      intro l hl
      rcases List.mem_append.1 hl with h | h
      · rcases List.mem_append.1 h with h | h
        · exact HNO.out l h
        · exact HUO.out l h
      · rw [List.mem_singleton.1 h]; exact fun r hr => by cases hr)
    unfold maxLen at z2
    refine hideW (Φ := fun W => Code.wp _ _ _ _ W) (fun W => Ext W6 W ∧ TablesAt W (.slice wa AL.length wcap) AL ∧ Blk W gg [.slice wa AL.length wcap] 24)
      ⟨Ext.setCell HX8.out HGB.out _, ?_, HBK.out.set 0 _⟩ (fun W9 hW9 => ?_)
    · exact HTF.out _ (Ext.setCell HX8.out HGB.out _) (own_keep HOWN.out HBK.out (by decide) 0 _)
    obtain ⟨hx9, ht9, hk9⟩ := hW9
    have HX9 := Lib.hid hx9
    have HXW := Lib.hid (HX6.out.trans hx9)
    have HT9 := Lib.hid ht9
    have HK9 := Lib.hid hk9
    have HF9 := Lib.hid (HF6.out.later HX9.out)
    have HB9 := Lib.hid (HB6.out.later HX9.out)
    have HG9 := Lib.hid (HG6.out.later HX9.out)
    have HD9 := Lib.hid (HD6.out.later HX9.out)
    have hbc9 := HB9.out.cells
    clear hx9 ht9 hk9 HT8 HTF HOWN HX8 HBK HGB hkc hkf HX0 HSZ HRD HRD2 HVS HUV HL1 HL2 HO1 HO2 HF6 HG6 HB6 HD6 HX6 HX9
    generalize gg = kb at *
    go_upto_region 6 with (first
      | (go_at_call 21; (with_reducible refine (cutsOf_any _ N _ HF9.out HNO.out (cap_of (Nat.le_trans HNS.out (by decide)))).mono ?_); rintro e w10 ⟨v10, x, he, hO, hC, hx10⟩; subst he; have HUX := Lib.hid hO.us; have HCX := Lib.hid hC; have HX10 := Lib.hid hx10; clear hO hC hx10))
    have hdc10 := (HD9.out.later HX10.out).cells
    clear hbc9
    go_upto_region 7 with (first
      | (go_at_call 21; (with_reducible refine (cutsOf_any _ V _ (HG9.out.later HX10.out) HUO.out (cap_of (Nat.le_trans HUS.out (by decide)))).mono ?_); rintro e w11 ⟨v11, y, he, hO, hC, hx11⟩; subst he; have HUY := Lib.hid hO.us; have HCY := Lib.hid hC; have HX11 := Lib.hid (HX10.out.trans hx11); have HUX1 := Lib.hid (HUX.out.later hx11); clear hO hC hx11))
    have hkc11 := (HK9.out.later HX11.out).cells
    clear hdc10
    go_upto_region 8 with (first
      | (go_at_call 21; (with_reducible refine (cutsOf_any _ AL _ (HT9.out.later HX11.out) HALO.out (cap_of (Nat.le_trans HALS.out (by decide)))).mono ?_); rintro e w12 ⟨v12, z, he, hO, hC, hx12⟩; subst he; have HUZ := Lib.hid hO.us; have HCZ := Lib.hid (show Cuts (N.flatten ++ V.flatten) z by rw [← HALN.out]; exact hC); have HLZ := Lib.hid hC.len; have HX12 := Lib.hid (HX11.out.trans hx12); have HUX2 := Lib.hid (HUX1.out.later hx12); have HUY2 := Lib.hid (HUY.out.later hx12); clear hO hC hx12))
    have HT12 := Lib.hid (HT9.out.later HX12.out)
    have HK12 := Lib.hid (HK9.out.later HX12.out)
    have HXE := Lib.hid (HXW.out.trans HX12.out)
    have HXZ := Lib.hid HCX.out.zero
    have HYZ := Lib.hid HCY.out.zero
    have HZZ := Lib.hid HCZ.out.zero
    have HJ := Lib.hid (join_facts HCX.out HCY.out HCZ.out a)
    clear hkc11 HUX HUX1 HUY HX10 HX11 HX12 HT9 HK9 HF9 HB9 HG9 HD9 HXW
    obtain ⟨xa, xcap, hxv, x4, x5, x6⟩ := HUX2.out.form
    have hxv' : v10 = .slice xa x.length xcap := hxv
    subst hxv'
    obtain ⟨ya, ycap, hyv, y4, y5, y6⟩ := HUY2.out.form
    have hyv' : v11 = .slice ya y.length ycap := hyv
    subst hyv'
    obtain ⟨za, zcap, hzv, z4, z5, z6⟩ := HUZ.out.form
    have hzv' : v12 = .slice za z.length zcap := hzv
    subst hzv'
    have X6 := Lib.hid x6
    have Y6 := Lib.hid y6
    have Z6 := Lib.hid z6
    clear x6 y6 z6 hxv hyv hzv
    unfold maxLen at x5 y5 z5
    go_wp2_with fail
    go_loopw [14] (fun i wr => ∃ k : Nat, k ≤ z.length ∧ i = I k ∧ Hid (Ext w12 wr)) (fun i _ => z.length - (intOf i).toNat)
    case atStart => exact ⟨0, by omega, rfl, Ext.refl _⟩
    case round =>
      obtain ⟨k, hk, rfl, HX⟩ := hrel
      by_cases hlt : k < z.length
      · obtain ⟨bz, oz, rfl, cz⟩ := Z6.out k z[k] (List.getElem?_eq_getElem hlt)
        replace cz := HX.out.cell cz
        have hmem := (HJ.out.mem z[k]).1 (List.getElem_mem hlt)
        generalize z[k] = c at *
        have L1 := Lib.hid (ivN_lt HXZ.out c)
        have L2 := Lib.hid (ivN_lt HYZ.out c)
        obtain ⟨bx, ox, rfl, cx⟩ := X6.out (ivN x c) _ (List.getElem?_eq_getElem (ivN_lt HXZ.out c))
        obtain ⟨by1, oy, rfl, cy⟩ := Y6.out (ivN y c) _ (List.getElem?_eq_getElem (ivN_lt HYZ.out c))
        replace cx := HX.out.cell cx
        replace cy := HX.out.cell cy
        have HOR := Lib.hid (show (x[ivN x c]'(ivN_lt HXZ.out c) == c) = true ∨ (x[ivN x c]'(ivN_lt HXZ.out c) == c) = false ∧ (y[ivN y c]'(ivN_lt HYZ.out c) == c) = true by
          cases hb : (x[ivN x c]'(ivN_lt HXZ.out c) == c)
          · refine .inr ⟨rfl, ?_⟩
            rcases hmem with h | h
            · have h2 := iv_mem HCX.out.rise HXZ.out h
              rw [beq_eq_false_iff_ne] at hb
              exact absurd h2 hb
            · have h2 := iv_mem HCY.out.rise HYZ.out h
              exact beq_iff_eq.2 h2
          · exact .inl rfl)
        have A1 := Lib.hid (show ∀ W, UsAt W (.slice (some ⟨bx, ox, none⟩) x.length xcap) x → Calls Try.prog 23 #[.slice (some ⟨bx, ox, none⟩) x.length xcap, U c] W fun e w' => e = .returned (I (ivN x c : Nat)) ∧ w' = W from fun W hW =>
          (cutsAt_any _ x _ W hW).mono fun e w' ⟨h1, h2⟩ => ⟨by rw [h1, ivN_int HXZ.out c], h2⟩)
        have A2 := Lib.hid (show ∀ W, UsAt W (.slice (some ⟨by1, oy, none⟩) y.length ycap) y → Calls Try.prog 23 #[.slice (some ⟨by1, oy, none⟩) y.length ycap, U c] W fun e w' => e = .returned (I (ivN y c : Nat)) ∧ w' = W from fun W hW =>
          (cutsAt_any _ y _ W hW).mono fun e w' ⟨h1, h2⟩ => ⟨by rw [h1, ivN_int HYZ.out c], h2⟩)
        generalize x[ivN x c]'(ivN_lt HXZ.out c) = fx at *
        generalize y[ivN y c]'(ivN_lt HYZ.out c) = fy at *
        have l1 := L1.out
        have l2 := L2.out
        clear hmem
        generalize ivN x c = kx at *
        generalize ivN y c = ky at *
        rcases HOR.out with hf | ⟨hf, hg⟩
        case' inl => cases hg : (fy == c)
        all_goals
          go_wp2_with (first
            | (go_at_call 23; (with_reducible refine (A1.out _ (HUX2.out.later HX.out)).mono ?_); rintro e w' ⟨rfl, hw⟩; obtain rfl := hw.symm)
            | (go_at_call 23; (with_reducible refine (A2.out _ (HUY2.out.later HX.out)).mono ?_); rintro e w' ⟨rfl, hw⟩; obtain rfl := hw.symm))
          go_quiet (fail)
          go_wp2_with fail
          go_quiet (fail)
          go_wp2_with fail
          go_roundw
          case rel => exact ⟨k + 1, by omega, by go_num, HX.out.drewN _⟩
          case measure => simp [intOf]; omega
      · have hkd : decide ((k : Int) < (z.length : Int)) = false := decide_eq_false (by omega)
        have hkn : decide (k < z.length) = false := decide_eq_false hlt
        have HJL := Lib.hid (join_low HCX.out.rise HCY.out.rise HCZ.out.rise HXZ.out HYZ.out HZZ.out HJ.out.mem a)
        have hj1 : decide ((z.length : Int) ≤ (x.length : Int) + (y.length : Int) - 1) = true := decide_eq_true (by have := HJ.out.upto; omega)
        have hj2 : decide (max (x.length : Int) (y.length : Int) ≤ (z.length : Int)) = true := decide_eq_true (by have h1 := HJ.out.left; have h2 := HJ.out.right; omega)
        have hj3 : decide ((z.length : Int) ≤ 2 * (sizeN AL : Int) + 1) = true := decide_eq_true (by have := HLZ.out; rw [sizeN_flat] at this; omega)
        have hls := HALS.out
        have hlx : x.length ≤ 1000 := by have h1 := HCX.out.len; have h2 := HNS.out; rw [sizeN_flat] at h1; omega
        have hly : y.length ≤ 1000 := by have h1 := HCY.out.len; have h2 := HUS.out; rw [sizeN_flat] at h1; omega
        have L1 := Lib.hid (ivN_lt HXZ.out a)
        have L2 := Lib.hid (ivN_lt HYZ.out a)
        have L3 := Lib.hid (ivN_lt HZZ.out a)
        have B1 := Lib.hid (show ∀ W, UsAt W (.slice xa x.length xcap) x → Calls Try.prog 27 #[.slice xa x.length xcap, I (ivN x a : Nat)] W fun e w' => e = .returned (.tuple #[U (x[ivN x a]'(ivN_lt HXZ.out a)), U (endV x (ivN x a)), .bool true]) ∧ w' = W from fun W hW => cutsEnds_any _ x _ W hW L1.out)
        have B2 := Lib.hid (show ∀ W, UsAt W (.slice ya y.length ycap) y → Calls Try.prog 27 #[.slice ya y.length ycap, I (ivN y a : Nat)] W fun e w' => e = .returned (.tuple #[U (y[ivN y a]'(ivN_lt HYZ.out a)), U (endV y (ivN y a)), .bool true]) ∧ w' = W from fun W hW => cutsEnds_any _ y _ W hW L2.out)
        have B3 := Lib.hid (show ∀ W, UsAt W (.slice za z.length zcap) z → Calls Try.prog 27 #[.slice za z.length zcap, I (ivN z a : Nat)] W fun e w' => e = .returned (.tuple #[U (z[ivN z a]'(ivN_lt HZZ.out a)), U (endV z (ivN z a)), .bool true]) ∧ w' = W from fun W hW => cutsEnds_any _ z _ W hW L3.out)
        have A1 := Lib.hid (show ∀ W, UsAt W (.slice xa x.length xcap) x → Calls Try.prog 23 #[.slice xa x.length xcap, U a] W fun e w' => e = .returned (I (ivN x a : Nat)) ∧ w' = W from fun W hW =>
          (cutsAt_any _ x _ W hW).mono fun e w' ⟨h1, h2⟩ => ⟨by rw [h1, ivN_int HXZ.out a], h2⟩)
        have A2 := Lib.hid (show ∀ W, UsAt W (.slice ya y.length ycap) y → Calls Try.prog 23 #[.slice ya y.length ycap, U a] W fun e w' => e = .returned (I (ivN y a : Nat)) ∧ w' = W from fun W hW =>
          (cutsAt_any _ y _ W hW).mono fun e w' ⟨h1, h2⟩ => ⟨by rw [h1, ivN_int HYZ.out a], h2⟩)
        have A3 := Lib.hid (show ∀ W, UsAt W (.slice za z.length zcap) z → Calls Try.prog 23 #[.slice za z.length zcap, U a] W fun e w' => e = .returned (I (ivN z a : Nat)) ∧ w' = W from fun W hW =>
          (cutsAt_any _ z _ W hW).mono fun e w' ⟨h1, h2⟩ => ⟨by rw [h1, ivN_int HZZ.out a], h2⟩)
        generalize x[ivN x a]'(ivN_lt HXZ.out a) = fx at *
        generalize y[ivN y a]'(ivN_lt HYZ.out a) = fy at *
        generalize z[ivN z a]'(ivN_lt HZZ.out a) = fz at *
        generalize endV x (ivN x a) = tx at *
        generalize endV y (ivN y a) = ty at *
        generalize endV z (ivN z a) = tz at *
        generalize ivN x a = kx at *
        generalize ivN y a = ky at *
        generalize ivN z a = kz at *
        have hjl : (uv fz == max (uv fx) (uv fy)) = true := beq_iff_eq.2 HJL.out
        have HUXr := Lib.hid (HUX2.out.later HX.out)
        have HUYr := Lib.hid (HUY2.out.later HX.out)
        have HUZr := Lib.hid (HUZ.out.later HX.out)
        have HTr := Lib.hid (HT12.out.later HX.out)
        have hkcr := (HK12.out.later HX.out).cells
        go_wp2_with (first
          | (go_at_call 23; (with_reducible refine (A3.out _ HUZr.out).mono ?_); rintro e w' ⟨rfl, hw⟩; obtain rfl := hw.symm)
          | (go_at_call 23; (with_reducible refine (A1.out _ HUXr.out).mono ?_); rintro e w' ⟨rfl, hw⟩; obtain rfl := hw.symm)
          | (go_at_call 23; (with_reducible refine (A2.out _ HUYr.out).mono ?_); rintro e w' ⟨rfl, hw⟩; obtain rfl := hw.symm)
          | (go_at_call 27; (with_reducible refine (B3.out _ HUZr.out).mono ?_); rintro e w' ⟨rfl, hw⟩; obtain rfl := hw.symm)
          | (go_at_call 27; (with_reducible refine (B1.out _ HUXr.out).mono ?_); rintro e w' ⟨rfl, hw⟩; obtain rfl := hw.symm)
          | (go_at_call 27; (with_reducible refine (B2.out _ HUYr.out).mono ?_); rintro e w' ⟨rfl, hw⟩; obtain rfl := hw.symm)
          | (go_at_call 28; (with_reducible refine (netSize_any _ AL _ HTr.out (Nat.le_trans hls (by decide))).mono ?_); rintro e w13 ⟨rfl, hx13⟩; have HX13 := Lib.hid hx13; clear hx13))
        go_ret
        exact ⟨rfl, HXE.out.trans (HX.out.trans HX13.out)⟩
end Go.Proofs.Ythcnihchfkmphaa
