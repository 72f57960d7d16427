/- The law PrefixNest: the walk. Conditions: the library's table of powers of ten reads as it is laid. -/
import Derived.Test.YtfafoiglllfpgaaDoorPrefLaw
namespace Go.Proofs.YtfafoiglllfpgaaDoor
open Go.RowKit

set_option maxRecDepth 100000 in
set_option maxHeartbeats 4000000 in
theorem prefixNest_any (x0 x1 : BitVec 32) (n0 n1 : Nat) (a : BitVec 32) (w : World) (h0 : n0 < 256) (h1 : n1 < 256) (ht : Tab10 w) :
    Calls Tryd.prog 3 #[.agg #[U x0, U x1], .agg #[.int .u8 n0, .int .u8 n1], U a] w fun e w' => e = .returned (.bool true) ∧ Ext w w' := by
  have HT := Lib.hid ht
  clear ht
  go_enter Tryd.func3, Tryd.ntmps3
  go_upto_region 4 with (first
    | (go_at_call 16; with_reducible refine (shown06_any _ (HT.out.later (((Ext.refl _).alloc _).alloc _))).mono ?_; rintro e w1 ⟨rfl, hx1⟩; have kA := pair_kept hx1; have kB := pair_kept2 hx1))
  refine wp_region_E 5 rfl (by kernel_rfl) (by kernel_rfl) ?_
  refine WE_q 0 rfl (by decide) (by kernel_rfl) rfl ?_; apply Exists.intro; refine ⟨fun w1 hx1 => ?_, ?_⟩
  · have hq1 := hx1.cells; go_simp; try go_bits
    first | with_reducible rfl | (refine (mask_any _ _ (in64_33 n0)).mono ?_; rintro e w' ⟨rfl, rfl⟩; exact ⟨rfl, Ext.refl _⟩)
  simp only [Act.put, List.setIfInBounds_toArray, List.set_cons_zero, List.set_cons_succ]
  refine WE_q 1 rfl (by decide) (by kernel_rfl) rfl ?_; apply Exists.intro; refine ⟨fun w1 hx1 => ?_, ?_⟩
  · have hq1 := hx1.cells; go_simp; try go_bits
    first | with_reducible rfl | (refine (mask_any _ _ (in64_33 n0)).mono ?_; rintro e w' ⟨rfl, rfl⟩; exact ⟨rfl, Ext.refl _⟩)
  simp only [Act.put, List.setIfInBounds_toArray, List.set_cons_zero, List.set_cons_succ]
  refine WE_q 2 rfl (by decide) (by kernel_rfl) rfl ?_; apply Exists.intro; refine ⟨fun w1 hx1 => ?_, ?_⟩
  · have hq1 := hx1.cells; go_simp; try go_bits
    first | with_reducible rfl | (refine (mask_any _ _ (in64_33 n0)).mono ?_; rintro e w' ⟨rfl, rfl⟩; exact ⟨rfl, Ext.refl _⟩)
  simp only [Act.put, List.setIfInBounds_toArray, List.set_cons_zero, List.set_cons_succ]
  refine WE_q 3 rfl (by decide) (by kernel_rfl) rfl ?_; apply Exists.intro; refine ⟨fun w1 hx1 => ?_, ?_⟩
  · have hq1 := hx1.cells; go_simp; try go_bits
    first | with_reducible rfl | (refine (mask_any _ _ (in64_33 n0)).mono ?_; rintro e w' ⟨rfl, rfl⟩; exact ⟨rfl, Ext.refl _⟩)
  simp only [Act.put, List.setIfInBounds_toArray, List.set_cons_zero, List.set_cons_succ]
  refine WE_q 4 rfl (by decide) (by kernel_rfl) rfl ?_; apply Exists.intro; refine ⟨fun w1 hx1 => ?_, ?_⟩
  · have hq1 := hx1.cells; go_simp; try go_bits
    first | with_reducible rfl | (refine (mask_any _ _ (in64_33 n0)).mono ?_; rintro e w' ⟨rfl, rfl⟩; exact ⟨rfl, Ext.refl _⟩)
  simp only [Act.put, List.setIfInBounds_toArray, List.set_cons_zero, List.set_cons_succ]
  refine WE_done (by kernel_rfl) (fun w2 hx2 => ?_)
  simp only [List.drop_succ_cons, List.drop_zero]
  have kA2 := keep_up kA hx2
  clear kA
  go_upto_region 5 with (fail)
  refine wp_region_E 5 rfl (by kernel_rfl) (by kernel_rfl) ?_
  refine WE_q 0 rfl (by decide) (by kernel_rfl) rfl ?_; apply Exists.intro; refine ⟨fun w1 hx1 => ?_, ?_⟩
  · have hq1 := hx1.cells; go_simp; try go_bits
    first | with_reducible rfl | (refine (mask_any _ _ (in64_33 n1)).mono ?_; rintro e w' ⟨rfl, rfl⟩; exact ⟨rfl, Ext.refl _⟩)
  simp only [Act.put, List.setIfInBounds_toArray, List.set_cons_zero, List.set_cons_succ]
  refine WE_q 1 rfl (by decide) (by kernel_rfl) rfl ?_; apply Exists.intro; refine ⟨fun w1 hx1 => ?_, ?_⟩
  · have hq1 := hx1.cells; go_simp; try go_bits
    first | with_reducible rfl | (refine (mask_any _ _ (in64_33 n1)).mono ?_; rintro e w' ⟨rfl, rfl⟩; exact ⟨rfl, Ext.refl _⟩)
  simp only [Act.put, List.setIfInBounds_toArray, List.set_cons_zero, List.set_cons_succ]
  refine WE_q 2 rfl (by decide) (by kernel_rfl) rfl ?_; apply Exists.intro; refine ⟨fun w1 hx1 => ?_, ?_⟩
  · have hq1 := hx1.cells; go_simp; try go_bits
    first | with_reducible rfl | (refine (mask_any _ _ (in64_33 n1)).mono ?_; rintro e w' ⟨rfl, rfl⟩; exact ⟨rfl, Ext.refl _⟩)
  simp only [Act.put, List.setIfInBounds_toArray, List.set_cons_zero, List.set_cons_succ]
  refine WE_q 3 rfl (by decide) (by kernel_rfl) rfl ?_; apply Exists.intro; refine ⟨fun w1 hx1 => ?_, ?_⟩
  · have hq1 := hx1.cells; go_simp; try go_bits
    first | with_reducible rfl | (refine (mask_any _ _ (in64_33 n1)).mono ?_; rintro e w' ⟨rfl, rfl⟩; exact ⟨rfl, Ext.refl _⟩)
  simp only [Act.put, List.setIfInBounds_toArray, List.set_cons_zero, List.set_cons_succ]
  refine WE_q 4 rfl (by decide) (by kernel_rfl) rfl ?_; apply Exists.intro; refine ⟨fun w1 hx1 => ?_, ?_⟩
  · have hq1 := hx1.cells; go_simp; try go_bits
    first | with_reducible rfl | (refine (mask_any _ _ (in64_33 n1)).mono ?_; rintro e w' ⟨rfl, rfl⟩; exact ⟨rfl, Ext.refl _⟩)
  simp only [Act.put, List.setIfInBounds_toArray, List.set_cons_zero, List.set_cons_succ]
  refine WE_done (by kernel_rfl) (fun w3 hx3 => ?_)
  simp only [List.drop_succ_cons, List.drop_zero]
  have hm := in64_33 n0
  have hk := in64_33 n1
  have bm : 0 ≤ (n0 : Int) % 33 ∧ (n0 : Int) % 33 ≤ 32 := by omega
  have bk : 0 ≤ (n1 : Int) % 33 ∧ (n1 : Int) % 33 ≤ 32 := by omega
  generalize (n0 : Int) % 33 = m at *
  generalize (n1 : Int) % 33 = k at *
  generalize hp : x0 &&& maskV m = p at *
  generalize hq : x1 &&& maskV k = q at *
  have HX := Lib.hid (Ext.trans (((Ext.refl w).alloc _).alloc _) (hx1.trans (hx2.trans hx3)))
  clear kA2 kB hx1 hx2 hx3
  have HP := Lib.hid hp
  have HQ := Lib.hid hq
  clear hp hq
  have ep := ends_int p m
  have eq := ends_int q k
  have key : (uv (highV p m) < uv (lowV q k) ∨ uv (highV q k) < uv (lowV p m) ∨ (m ≤ k ∧ uv (lowV p m) ≤ uv (lowV q k) ∧ uv (highV q k) ≤ uv (highV p m) ∧ ((m < k) ∨ (uv (lowV q k) ≤ uv (lowV p m) ∧ uv (highV p m) ≤ uv (highV q k)))) ∨
      (k < m ∧ uv (lowV q k) ≤ uv (lowV p m) ∧ uv (highV p m) ≤ uv (highV q k))) := by
    rcases Int.lt_trichotomy m k with g | g | g
    · have := nest_int p q bm bk (by omega); omega
    · have h1 := nest_int p q bm bk (by omega)
      have h2 := nest_int q p bk bm (by omega)
      omega
    · have := nest_int q p bk bm (by omega); omega
  have both : holdsV p m a = true → holdsV q k a = true → ¬ (uv (highV p m) < uv (lowV q k) ∨ uv (highV q k) < uv (lowV p m)) := fun h1 h2 => by
    have := holds_int h1
    have := holds_int h2
    omega
  have HB := Lib.hid both
  clear both bm bk
  have fin : ∀ w', Ext w w' → ((fun e w' => e = Ending.returned (Value.bool true) ∧ Ext w w') (Ending.returned (Value.bool true)) w') := fun w' h => ⟨rfl, h⟩
  clear fin
  go_upto_region 8 with (first
    | (go_at_call 18; with_reducible refine (ends_any _ _ _ hm).mono ?_; rintro e w' ⟨rfl, rfl⟩)
    | (go_at_call 18; with_reducible refine (ends_any _ _ _ hk).mono ?_; rintro e w' ⟨rfl, rfl⟩))
  have hh : holdsV p m a = false ∨ (holdsV p m a = true ∧ holdsV q k a = false) ∨ (holdsV p m a = true ∧ holdsV q k a = true ∧ ¬ (uv (highV p m) < uv (lowV q k) ∨ uv (highV q k) < uv (lowV p m))) := by
    cases h1 : holdsV p m a
    · exact .inl rfl
    · cases h2 : holdsV q k a
      · exact .inr (.inl ⟨rfl, rfl⟩)
      · exact .inr (.inr ⟨rfl, rfl, HB.out h1 h2⟩)
  have Hm := Lib.hid hm
  have Hk := Lib.hid hk
  clear HB HT HP HQ h0 h1 hm hk
  have cases' : (uv (highV p m) < uv (lowV q k) ∧ uv (lowV p m) < uv (lowV q k) ∧ uv (lowV p m) ≤ uv (lowV q k) ∧ uv (highV p m) < uv (highV q k)) ∨
      (uv (lowV q k) ≤ uv (highV p m) ∧ uv (highV q k) < uv (lowV p m) ∧ uv (lowV q k) ≤ uv (lowV p m) ∧ uv (highV q k) < uv (highV p m) ∧ uv (lowV q k) < uv (lowV p m)) ∨
      (uv (lowV q k) ≤ uv (highV p m) ∧ uv (lowV p m) ≤ uv (highV q k) ∧ uv (lowV p m) ≤ uv (lowV q k) ∧ uv (highV q k) ≤ uv (highV p m) ∧ m ≤ k ∧ (m < k ∨ (m = k ∧ uv (lowV q k) ≤ uv (lowV p m) ∧ uv (highV p m) ≤ uv (highV q k)))) ∨
      (uv (lowV q k) ≤ uv (highV p m) ∧ uv (lowV p m) ≤ uv (highV q k) ∧ uv (lowV q k) ≤ uv (lowV p m) ∧ uv (highV p m) ≤ uv (highV q k) ∧ k < m) := by omega
  clear key ep eq
  have hh2 : holdsV p m a = false ∨ (holdsV p m a = true ∧ holdsV q k a = false) ∨ (holdsV p m a = true ∧ holdsV q k a = true ∧ uv (lowV q k) ≤ uv (highV p m) ∧ uv (lowV p m) ≤ uv (highV q k)) := by
    rcases hh with g | g | ⟨g1, g2, g3⟩
    · exact .inl g
    · exact .inr (.inl g)
    · exact .inr (.inr ⟨g1, g2, by omega, by omega⟩)
  clear hh
  have hmk : (m < k ∧ ¬ k < m) ∨ (¬ m < k ∧ ¬ k < m) ∨ (¬ m < k ∧ k < m) := by omega
  rcases cases' with ⟨a1, a2, a3, a4⟩ | ⟨a1, a2, a3, a4, a5⟩ | ⟨a1, a2, a3, a4, a5, a6⟩ | ⟨a1, a2, a3, a4, a5⟩
  · rcases hh2 with g1 | ⟨g1, g2⟩ | ⟨g1, g2, g3, g4⟩
    · rcases hmk with ⟨c1, c2⟩ | ⟨c1, c2⟩ | ⟨c1, c2⟩
      all_goals (go_wp2_with (first | (go_at_call 19; with_reducible refine (holds_any _ _ _ _ Hm.out).mono ?_; rintro e w' ⟨rfl, rfl⟩) | (go_at_call 19; with_reducible refine (holds_any _ _ _ _ Hk.out).mono ?_; rintro e w' ⟨rfl, rfl⟩)); all_goals (go_ret; first | exact ⟨rfl, HX.out⟩ | exact ⟨ret_bool (by simp; omega), HX.out⟩))
    · rcases hmk with ⟨c1, c2⟩ | ⟨c1, c2⟩ | ⟨c1, c2⟩
      all_goals (go_wp2_with (first | (go_at_call 19; with_reducible refine (holds_any _ _ _ _ Hm.out).mono ?_; rintro e w' ⟨rfl, rfl⟩) | (go_at_call 19; with_reducible refine (holds_any _ _ _ _ Hk.out).mono ?_; rintro e w' ⟨rfl, rfl⟩)); all_goals (go_ret; first | exact ⟨rfl, HX.out⟩ | exact ⟨ret_bool (by simp; omega), HX.out⟩))
    · omega
  · rcases hh2 with g1 | ⟨g1, g2⟩ | ⟨g1, g2, g3, g4⟩
    · rcases hmk with ⟨c1, c2⟩ | ⟨c1, c2⟩ | ⟨c1, c2⟩
      all_goals (go_wp2_with (first | (go_at_call 19; with_reducible refine (holds_any _ _ _ _ Hm.out).mono ?_; rintro e w' ⟨rfl, rfl⟩) | (go_at_call 19; with_reducible refine (holds_any _ _ _ _ Hk.out).mono ?_; rintro e w' ⟨rfl, rfl⟩)); all_goals (go_ret; first | exact ⟨rfl, HX.out⟩ | exact ⟨ret_bool (by simp; omega), HX.out⟩))
    · rcases hmk with ⟨c1, c2⟩ | ⟨c1, c2⟩ | ⟨c1, c2⟩
      all_goals (go_wp2_with (first | (go_at_call 19; with_reducible refine (holds_any _ _ _ _ Hm.out).mono ?_; rintro e w' ⟨rfl, rfl⟩) | (go_at_call 19; with_reducible refine (holds_any _ _ _ _ Hk.out).mono ?_; rintro e w' ⟨rfl, rfl⟩)); all_goals (go_ret; first | exact ⟨rfl, HX.out⟩ | exact ⟨ret_bool (by simp; omega), HX.out⟩))
    · omega
  · rcases a6 with c | ⟨rfl, a7, a8⟩
    · have c2 : ¬ k < m := by omega
      rcases hh2 with g1 | ⟨g1, g2⟩ | ⟨g1, g2, g3, g4⟩
      all_goals
        rcases Int.lt_or_le (uv (lowV p m)) (uv (lowV q k)) with b1 | b1
        · (go_wp2_with (first | (go_at_call 19; with_reducible refine (holds_any _ _ _ _ Hm.out).mono ?_; rintro e w' ⟨rfl, rfl⟩) | (go_at_call 19; with_reducible refine (holds_any _ _ _ _ Hk.out).mono ?_; rintro e w' ⟨rfl, rfl⟩)); all_goals (go_ret; first | exact ⟨rfl, HX.out⟩ | exact ⟨ret_bool (by simp; omega), HX.out⟩))
        · rcases Int.lt_or_le (uv (highV q k)) (uv (highV p m)) with b2 | b2
          all_goals (go_wp2_with (first | (go_at_call 19; with_reducible refine (holds_any _ _ _ _ Hm.out).mono ?_; rintro e w' ⟨rfl, rfl⟩) | (go_at_call 19; with_reducible refine (holds_any _ _ _ _ Hk.out).mono ?_; rintro e w' ⟨rfl, rfl⟩)); all_goals (go_ret; first | exact ⟨rfl, HX.out⟩ | exact ⟨ret_bool (by simp; omega), HX.out⟩))
    · have c1 : ¬ m < m := by omega
      rcases hh2 with g1 | ⟨g1, g2⟩ | ⟨g1, g2, g3, g4⟩
      all_goals (go_wp2_with (first | (go_at_call 19; with_reducible refine (holds_any _ _ _ _ Hm.out).mono ?_; rintro e w' ⟨rfl, rfl⟩) | (go_at_call 19; with_reducible refine (holds_any _ _ _ _ Hk.out).mono ?_; rintro e w' ⟨rfl, rfl⟩)); all_goals (go_ret; first | exact ⟨rfl, HX.out⟩ | exact ⟨ret_bool (by simp; omega), HX.out⟩))
  · have c2 : ¬ m < k := by omega
    rcases hh2 with g1 | ⟨g1, g2⟩ | ⟨g1, g2, g3, g4⟩
    all_goals
      rcases Int.lt_or_le (uv (lowV q k)) (uv (lowV p m)) with b1 | b1
      · (go_wp2_with (first | (go_at_call 19; with_reducible refine (holds_any _ _ _ _ Hm.out).mono ?_; rintro e w' ⟨rfl, rfl⟩) | (go_at_call 19; with_reducible refine (holds_any _ _ _ _ Hk.out).mono ?_; rintro e w' ⟨rfl, rfl⟩)); all_goals (go_ret; first | exact ⟨rfl, HX.out⟩ | exact ⟨ret_bool (by simp; omega), HX.out⟩))
      · rcases Int.lt_or_le (uv (highV p m)) (uv (highV q k)) with b2 | b2
        all_goals (go_wp2_with (first | (go_at_call 19; with_reducible refine (holds_any _ _ _ _ Hm.out).mono ?_; rintro e w' ⟨rfl, rfl⟩) | (go_at_call 19; with_reducible refine (holds_any _ _ _ _ Hk.out).mono ?_; rintro e w' ⟨rfl, rfl⟩)); all_goals (go_ret; first | exact ⟨rfl, HX.out⟩ | exact ⟨ret_bool (by simp; omega), HX.out⟩))
end Go.Proofs.YtfafoiglllfpgaaDoor
