/- The law PrefixOrder: the walk. Conditions: the library's table of powers of ten reads as it is laid. -/
import Derived.Test.YtfafoiglllfpgaaDoorPrefLaw
namespace Go.Proofs.YtfafoiglllfpgaaDoor
open Go.RowKit

theorem cmp_lt {p q : BitVec 32} {m k : Int} (h : uv p < uv q) : cmpV p m q k = -1 := by rw [cmpV_eq, if_pos (.inl h)]
theorem cmp_gt {p q : BitVec 32} {m k : Int} (h : uv q < uv p) : cmpV p m q k = 1 := by
  rw [cmpV_eq, if_neg, if_neg]
  · rintro ⟨rfl, _⟩; omega
  · rintro (g | ⟨rfl, _⟩) <;> omega
theorem cmp_ml {p : BitVec 32} {m k : Int} (h : m < k) : cmpV p m p k = -1 := by rw [cmpV_eq, if_pos (.inr ⟨rfl, h⟩)]
theorem cmp_me {p : BitVec 32} {m : Int} : cmpV p m p m = 0 := by rw [cmpV_eq, if_neg (by omega), if_pos ⟨rfl, rfl⟩]
theorem cmp_mg {p : BitVec 32} {m k : Int} (h : k < m) : cmpV p m p k = 1 := by rw [cmpV_eq, if_neg (by omega), if_neg (by omega)]
theorem holds_ge {p q : BitVec 32} {m : Int} (hp : p &&& maskV m = p) (h : uv q < uv p) : holdsV p m q = false := by
  cases e : holdsV p m q with
  | false => rfl
  | true =>
    have := (holds_int e).1
    have h2 : lowV p m = p := hp
    rw [h2] at this; omega
set_option maxRecDepth 100000 in
set_option maxHeartbeats 2000000 in
theorem prefixOrder_any (x0 x1 : BitVec 32) (n0 n1 : Nat) (w : World) (h0 : n0 < 256) (h1 : n1 < 256) (ht : Tab10 w) :
    Calls Tryd.prog 9 #[.agg #[U x0, U x1], .agg #[.int .u8 n0, .int .u8 n1]] w fun e w' => e = .returned (.bool true) ∧ Ext w w' := by
  have HT := Lib.hid ht
  clear ht
  go_enter Tryd.func9, Tryd.ntmps9
  go_upto_region 4 with (first
    | (go_at_call 16; with_reducible refine (shown06_any _ (HT.out.later (((Ext.refl _).alloc _).alloc _))).mono ?_; rintro e w1 ⟨rfl, hx1⟩; have kA := pair_kept hx1; have kB := pair_kept2 hx1))
  refine wp_region_E 5 rfl (by kernel_rfl) (by kernel_rfl) ?_
  refine WE_q 0 rfl (by decide) (by kernel_rfl) rfl ?_; apply Exists.intro; refine ⟨fun w1 hx1 => ?_, ?_⟩
  · have hq1 := hx1.cells; go_simp; try go_bits
    first | with_reducible rfl | (refine (mask_any _ _ (in64_33 n0)).mono ?_; rintro e w' ⟨rfl, rfl⟩; exact ⟨rfl, Ext.refl _⟩)
  simp only [Act.put, List.setIfInBounds_toArray, List.set_cons_zero, List.set_cons_succ]
  refine WE_q 1 rfl (by decide) (by kernel_rfl) rfl ?_; apply Exists.intro; refine ⟨fun w1 hx1 => ?_, ?_⟩
  · have hq1 := hx1.cells; go_simp; try go_bits
    first | with_reducible rfl | (refine (mask_any _ _ (in64_33 n0)).mono ?_; rintro e w' ⟨rfl, rfl⟩; exact ⟨rfl, Ext.refl _⟩)
  simp only [Act.put, List.setIfInBounds_toArray, List.set_cons_zero, List.set_cons_succ]
  refine WE_q 2 rfl (by decide) (by kernel_rfl) rfl ?_; apply Exists.intro; refine ⟨fun w1 hx1 => ?_, ?_⟩
  · have hq1 := hx1.cells; go_simp; try go_bits
    first | with_reducible rfl | (refine (mask_any _ _ (in64_33 n0)).mono ?_; rintro e w' ⟨rfl, rfl⟩; exact ⟨rfl, Ext.refl _⟩)
  simp only [Act.put, List.setIfInBounds_toArray, List.set_cons_zero, List.set_cons_succ]
  refine WE_q 3 rfl (by decide) (by kernel_rfl) rfl ?_; apply Exists.intro; refine ⟨fun w1 hx1 => ?_, ?_⟩
  · have hq1 := hx1.cells; go_simp; try go_bits
    first | with_reducible rfl | (refine (mask_any _ _ (in64_33 n0)).mono ?_; rintro e w' ⟨rfl, rfl⟩; exact ⟨rfl, Ext.refl _⟩)
  simp only [Act.put, List.setIfInBounds_toArray, List.set_cons_zero, List.set_cons_succ]
  refine WE_q 4 rfl (by decide) (by kernel_rfl) rfl ?_; apply Exists.intro; refine ⟨fun w1 hx1 => ?_, ?_⟩
  · have hq1 := hx1.cells; go_simp; try go_bits
    first | with_reducible rfl | (refine (mask_any _ _ (in64_33 n0)).mono ?_; rintro e w' ⟨rfl, rfl⟩; exact ⟨rfl, Ext.refl _⟩)
  simp only [Act.put, List.setIfInBounds_toArray, List.set_cons_zero, List.set_cons_succ]
  refine WE_done (by kernel_rfl) (fun w2 hx2 => ?_)
  simp only [List.drop_succ_cons, List.drop_zero]
  have kA2 := keep_up kA hx2
  clear kA
  go_upto_region 5 with (fail)
  refine wp_region_E 5 rfl (by kernel_rfl) (by kernel_rfl) ?_
  refine WE_q 0 rfl (by decide) (by kernel_rfl) rfl ?_; apply Exists.intro; refine ⟨fun w1 hx1 => ?_, ?_⟩
  · have hq1 := hx1.cells; go_simp; try go_bits
    first | with_reducible rfl | (refine (mask_any _ _ (in64_33 n1)).mono ?_; rintro e w' ⟨rfl, rfl⟩; exact ⟨rfl, Ext.refl _⟩)
  simp only [Act.put, List.setIfInBounds_toArray, List.set_cons_zero, List.set_cons_succ]
  refine WE_q 1 rfl (by decide) (by kernel_rfl) rfl ?_; apply Exists.intro; refine ⟨fun w1 hx1 => ?_, ?_⟩
  · have hq1 := hx1.cells; go_simp; try go_bits
    first | with_reducible rfl | (refine (mask_any _ _ (in64_33 n1)).mono ?_; rintro e w' ⟨rfl, rfl⟩; exact ⟨rfl, Ext.refl _⟩)
  simp only [Act.put, List.setIfInBounds_toArray, List.set_cons_zero, List.set_cons_succ]
  refine WE_q 2 rfl (by decide) (by kernel_rfl) rfl ?_; apply Exists.intro; refine ⟨fun w1 hx1 => ?_, ?_⟩
  · have hq1 := hx1.cells; go_simp; try go_bits
    first | with_reducible rfl | (refine (mask_any _ _ (in64_33 n1)).mono ?_; rintro e w' ⟨rfl, rfl⟩; exact ⟨rfl, Ext.refl _⟩)
  simp only [Act.put, List.setIfInBounds_toArray, List.set_cons_zero, List.set_cons_succ]
  refine WE_q 3 rfl (by decide) (by kernel_rfl) rfl ?_; apply Exists.intro; refine ⟨fun w1 hx1 => ?_, ?_⟩
  · have hq1 := hx1.cells; go_simp; try go_bits
    first | with_reducible rfl | (refine (mask_any _ _ (in64_33 n1)).mono ?_; rintro e w' ⟨rfl, rfl⟩; exact ⟨rfl, Ext.refl _⟩)
  simp only [Act.put, List.setIfInBounds_toArray, List.set_cons_zero, List.set_cons_succ]
  refine WE_q 4 rfl (by decide) (by kernel_rfl) rfl ?_; apply Exists.intro; refine ⟨fun w1 hx1 => ?_, ?_⟩
  · have hq1 := hx1.cells; go_simp; try go_bits
    first | with_reducible rfl | (refine (mask_any _ _ (in64_33 n1)).mono ?_; rintro e w' ⟨rfl, rfl⟩; exact ⟨rfl, Ext.refl _⟩)
  simp only [Act.put, List.setIfInBounds_toArray, List.set_cons_zero, List.set_cons_succ]
  refine WE_done (by kernel_rfl) (fun w3 hx3 => ?_)
  simp only [List.drop_succ_cons, List.drop_zero]
  have hm := in64_33 n0
  have hk := in64_33 n1
  have hp2 := cut_valid x0 ((n0 : Int) % 33)
  unfold cutV at hp2
  generalize (n0 : Int) % 33 = m at *
  generalize (n1 : Int) % 33 = k at *
  generalize x0 &&& maskV m = p at *
  generalize x1 &&& maskV k = q at *
  have HX := Lib.hid (Ext.trans (((Ext.refl w).alloc _).alloc _) (hx1.trans (hx2.trans hx3)))
  have HV := Lib.hid hp2
  have HM := Lib.hid hm
  have HK := Lib.hid hk
  clear kA2 kB hx1 hx2 hx3 hp2 hm hk
  rcases Int.lt_trichotomy (uv p) (uv q) with g | g | g
  · have c1 := cmp_lt (m := m) (k := k) g
    have c2 := cmp_gt (m := k) (k := m) g
    have c3 : (p == q) = false := by rw [beq_eq_false_iff_ne]; rintro rfl; omega
    by_cases hmk : m < k
    all_goals
      go_wp2_with (first
        | (go_at_call 28; with_reducible refine (prefCompare_any p q m k _).mono ?_; rintro e w' ⟨rfl, rfl⟩)
        | (go_at_call 28; with_reducible refine (prefCompare_any q p k m _).mono ?_; rintro e w' ⟨rfl, rfl⟩)
        | (go_at_call 19; with_reducible refine (holds_any _ _ _ _ HM.out).mono ?_; rintro e w' ⟨rfl, rfl⟩))
      all_goals
        go_ret
        first | exact ⟨rfl, HX.out⟩ | exact ⟨ret_bool (by simp; done), HX.out⟩
  · have := uv_inj g
    subst this
    clear g
    rcases Int.lt_trichotomy m k with g | g | g
    · have c1 := cmp_ml (p := p) g
      have c2 := cmp_mg (p := p) g
      have c3 : (m == k) = false := by rw [beq_eq_false_iff_ne]; omega
      go_wp2_with (first
        | (go_at_call 28; with_reducible refine (prefCompare_any _ _ _ _ _).mono ?_; rintro e w' ⟨rfl, rfl⟩)
        | (go_at_call 19; with_reducible refine (holds_any _ _ _ _ HM.out).mono ?_; rintro e w' ⟨rfl, rfl⟩))
      all_goals
        go_ret
        first | exact ⟨rfl, HX.out⟩ | exact ⟨ret_bool (by simp; done), HX.out⟩
    · subst g
      have c1 := @cmp_me p m
      go_wp2_with (first
        | (go_at_call 28; with_reducible refine (prefCompare_any _ _ _ _ _).mono ?_; rintro e w' ⟨rfl, rfl⟩)
        | (go_at_call 19; with_reducible refine (holds_any _ _ _ _ HM.out).mono ?_; rintro e w' ⟨rfl, rfl⟩))
      all_goals
        go_ret
        first | exact ⟨rfl, HX.out⟩ | exact ⟨ret_bool (by simp; done), HX.out⟩
    · have c1 := cmp_ml (p := p) g
      have c2 := cmp_mg (p := p) g
      have c3 : (m == k) = false := by rw [beq_eq_false_iff_ne]; omega
      have c4 : ¬ m < k := by omega
      go_wp2_with (first
        | (go_at_call 28; with_reducible refine (prefCompare_any _ _ _ _ _).mono ?_; rintro e w' ⟨rfl, rfl⟩)
        | (go_at_call 19; with_reducible refine (holds_any _ _ _ _ HM.out).mono ?_; rintro e w' ⟨rfl, rfl⟩))
      all_goals
        go_ret
        first | exact ⟨rfl, HX.out⟩ | exact ⟨ret_bool (by simp; done), HX.out⟩
  · have c1 := cmp_gt (m := m) (k := k) g
    have c2 := cmp_lt (m := k) (k := m) g
    have c3 : (p == q) = false := by rw [beq_eq_false_iff_ne]; rintro rfl; omega
    have c5 := holds_ge HV.out g
    by_cases hmk : m < k
    all_goals
      go_wp2_with (first
        | (go_at_call 28; with_reducible refine (prefCompare_any p q m k _).mono ?_; rintro e w' ⟨rfl, rfl⟩)
        | (go_at_call 28; with_reducible refine (prefCompare_any q p k m _).mono ?_; rintro e w' ⟨rfl, rfl⟩)
        | (go_at_call 19; with_reducible refine (holds_any _ _ _ _ HM.out).mono ?_; rintro e w' ⟨rfl, rfl⟩))
      all_goals
        go_ret
        first | exact ⟨rfl, HX.out⟩ | exact ⟨ret_bool (by simp; done), HX.out⟩
end Go.Proofs.YtfafoiglllfpgaaDoor
