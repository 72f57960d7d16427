/- The law AddrAll: the walk. Conditions: the library's table of powers of ten reads as it is laid. -/
import Derived.Test.YtfafoiglllfpgaaDoorBack
import Derived.Test.YtfafoiglllfpgaaDoorPrefLaw
namespace Go.Proofs.YtfafoiglllfpgaaDoor
open Go.RowKit

theorem one_kept {w w1 : World} {cs : List Value} {T : TypeId} (hx : Ext (w.alloc (.cells cs.toArray T)) w1) : ∀ w', Ext w1 w' → ∀ k, w'.cell? ⟨w.heap.size, k, none⟩ = cs[k]? :=
  ((Blk.new w cs T).later hx).keep
theorem parse_both (l : List UInt8) (hl : l.length ≤ 1000) : ∃ (a : BitVec 32) (e0 : Int), (∀ w, Tab10 w → Calls Tryd.prog 23 #[S l] w fun e w' => e = .returned (.tuple #[U a, I e0]) ∧ Ext w w') ∧
    (∀ w, Tab10 w → Calls Tryd.prog 29 #[S l] w fun e w' => e = .returned (.tuple #[U a, I e0]) ∧ Ext w w') := by
  by_cases h : ∃ a : BitVec 32, Says l a.toNat
  · obtain ⟨a, ha⟩ := h
    have key : ∀ {w e w'}, ParsePost l w e w' → e = .returned (.tuple #[U a, I 0]) ∧ Ext w w' := fun {w e w'} ⟨h, hx⟩ => ⟨by
      rcases h with ⟨b, h1, h2⟩ | ⟨h1, _⟩
      · rw [h2, says_bv h1 ha]
      · exact absurd ha (h1 _), hx⟩
    exact ⟨a, 0, fun w ht => (parse_any l w ht hl).mono fun _ _ hp => key hp, fun w ht => (r05Parse_any l w ht hl).mono fun _ _ hp => key hp⟩
  · have key : ∀ {w e w'}, ParsePost l w e w' → e = .returned (.tuple #[U 0#32, I 7]) ∧ Ext w w' := fun {w e w'} ⟨h2, hx⟩ => ⟨by
      rcases h2 with ⟨b, h1, _⟩ | ⟨_, h1⟩
      · exact absurd ⟨b, h1⟩ h
      · exact h1, hx⟩
    exact ⟨0#32, 7, fun w ht => (parse_any l w ht hl).mono fun _ _ hp => key hp, fun w ht => (r05Parse_any l w ht hl).mono fun _ _ hp => key hp⟩
set_option maxRecDepth 100000 in
set_option maxHeartbeats 4000000 in
theorem addrAll_any (x0 x1 : BitVec 32) (l : List UInt8) (i : Int) (w : World) (hl : l.length ≤ 9223372036854775807) (hi : In64 i) (ht : Tab10 w) :
    Calls Tryd.prog 10 #[.agg #[U x0, U x1], S l, I i] w fun e w' => e = .returned (.bool true) ∧ Ext w w' := by
  have HT := Lib.hid ht
  have HLL := Lib.hid hl
  have HI := Lib.hid hi
  clear ht hi hl
  have h30 : (l.take 30).length ≤ 30 := by rw [List.length_take]; omega
  obtain ⟨pa, pe, hp1, hp2⟩ := parse_both (l.take 30) (by omega)
  have HP1 := Lib.hid hp1
  have HP2 := Lib.hid hp2
  clear hp1 hp2 h30
  go_enter Tryd.func10, Tryd.ntmps10
  go_upto_region 4 with (first
    | (go_at_call 21; with_reducible refine (shown05_any _ (HT.out.later ((Ext.refl _).alloc _))).mono ?_; rintro e w1 ⟨rfl, hx1⟩)
    | (go_at_call 24; with_reducible refine (few05_any l _ HLL.out).mono ?_; rintro e w' ⟨rfl, rfl⟩)
    | (go_at_call 23; with_reducible refine (HP1.out _ (HT.out.later (((Ext.refl _).alloc _).trans hx1))).mono ?_; rintro e w2 ⟨rfl, hx2⟩)
    | (go_at_call 29; with_reducible refine (HP2.out _ (HT.out.later (((Ext.refl _).alloc _).trans (hx1.trans hx2)))).mono ?_; rintro e w3 ⟨rfl, hx3⟩))
  have kA := one_kept (cs := [U x0, U x1]) (hx1.trans (hx2.trans hx3))
  have HX3 := Lib.hid (Ext.trans ((Ext.refl w).alloc _) (hx1.trans (hx2.trans hx3)))
  have HT3 := Lib.hid (HT.out.later HX3.out)
  clear hx1 hx2 hx3 HT HP1 HP2
  go_wp2_with fail
  go_loopw [12] (fun i wr => ∃ k : Nat, k ≤ 34 ∧ i = I ((k : Int) - 1) ∧ Ext w3 wr) (fun i _ => 34 - (intOf i + 1).toNat)
  case atStart => exact ⟨0, by omega, rfl, Ext.refl _⟩
  case round =>
    obtain ⟨k, hk, rfl, hx⟩ := hrel
    have kB := keep_up kA hx
    by_cases hlt : k < 34
    · have hin : In64 ((k : Int) - 1) := by unfold In64; omega
      go_wp2_with fail
      refine wp_region_E 8 rfl (by kernel_rfl) (by kernel_rfl) ?_
      refine WE_q 0 rfl (by decide) (by kernel_rfl) rfl ?_; apply Exists.intro; refine ⟨fun w1 hx1 => ?_, ?_⟩
      · have hq1 := hx1.cells; go_simp; try go_bits
        first | with_reducible rfl | (first | (refine (bit_any _ _ _ hin).mono ?_; rintro e w' ⟨rfl, rfl⟩; exact ⟨rfl, Ext.refl _⟩) | (refine (r05Bit_any _ _ _ hin).mono ?_; rintro e w' ⟨rfl, rfl⟩; exact ⟨rfl, Ext.refl _⟩))
      simp only [Act.put, List.setIfInBounds_toArray, List.set_cons_zero, List.set_cons_succ]
      refine WE_q 1 rfl (by decide) (by kernel_rfl) rfl ?_; apply Exists.intro; refine ⟨fun w1 hx1 => ?_, ?_⟩
      · have hq1 := hx1.cells; go_simp; try go_bits
        first | with_reducible rfl | (first | (refine (bit_any _ _ _ hin).mono ?_; rintro e w' ⟨rfl, rfl⟩; exact ⟨rfl, Ext.refl _⟩) | (refine (r05Bit_any _ _ _ hin).mono ?_; rintro e w' ⟨rfl, rfl⟩; exact ⟨rfl, Ext.refl _⟩))
      simp only [Act.put, List.setIfInBounds_toArray, List.set_cons_zero, List.set_cons_succ]
      refine WE_q 2 rfl (by decide) (by kernel_rfl) rfl ?_; apply Exists.intro; refine ⟨fun w1 hx1 => ?_, ?_⟩
      · have hq1 := hx1.cells; go_simp; try go_bits
        first | with_reducible rfl | (first | (refine (bit_any _ _ _ hin).mono ?_; rintro e w' ⟨rfl, rfl⟩; exact ⟨rfl, Ext.refl _⟩) | (refine (r05Bit_any _ _ _ hin).mono ?_; rintro e w' ⟨rfl, rfl⟩; exact ⟨rfl, Ext.refl _⟩))
      simp only [Act.put, List.setIfInBounds_toArray, List.set_cons_zero, List.set_cons_succ]
      refine WE_q 3 rfl (by decide) (by kernel_rfl) rfl ?_; apply Exists.intro; refine ⟨fun w1 hx1 => ?_, ?_⟩
      · have hq1 := hx1.cells; go_simp; try go_bits
        first | with_reducible rfl | (first | (refine (bit_any _ _ _ hin).mono ?_; rintro e w' ⟨rfl, rfl⟩; exact ⟨rfl, Ext.refl _⟩) | (refine (r05Bit_any _ _ _ hin).mono ?_; rintro e w' ⟨rfl, rfl⟩; exact ⟨rfl, Ext.refl _⟩))
      simp only [Act.put, List.setIfInBounds_toArray, List.set_cons_zero, List.set_cons_succ]
      refine WE_q 4 rfl (by decide) (by kernel_rfl) rfl ?_; apply Exists.intro; refine ⟨fun w1 hx1 => ?_, ?_⟩
      · have hq1 := hx1.cells; go_simp; try go_bits
        first | with_reducible rfl | (first | (refine (bit_any _ _ _ hin).mono ?_; rintro e w' ⟨rfl, rfl⟩; exact ⟨rfl, Ext.refl _⟩) | (refine (r05Bit_any _ _ _ hin).mono ?_; rintro e w' ⟨rfl, rfl⟩; exact ⟨rfl, Ext.refl _⟩))
      simp only [Act.put, List.setIfInBounds_toArray, List.set_cons_zero, List.set_cons_succ]
      refine WE_q 5 rfl (by decide) (by kernel_rfl) rfl ?_; apply Exists.intro; refine ⟨fun w1 hx1 => ?_, ?_⟩
      · have hq1 := hx1.cells; go_simp; try go_bits
        first | with_reducible rfl | (first | (refine (bit_any _ _ _ hin).mono ?_; rintro e w' ⟨rfl, rfl⟩; exact ⟨rfl, Ext.refl _⟩) | (refine (r05Bit_any _ _ _ hin).mono ?_; rintro e w' ⟨rfl, rfl⟩; exact ⟨rfl, Ext.refl _⟩))
      simp only [Act.put, List.setIfInBounds_toArray, List.set_cons_zero, List.set_cons_succ]
      refine WE_q 6 rfl (by decide) (by kernel_rfl) rfl ?_; apply Exists.intro; refine ⟨fun w1 hx1 => ?_, ?_⟩
      · have hq1 := hx1.cells; go_simp; try go_bits
        first | with_reducible rfl | (first | (refine (bit_any _ _ _ hin).mono ?_; rintro e w' ⟨rfl, rfl⟩; exact ⟨rfl, Ext.refl _⟩) | (refine (r05Bit_any _ _ _ hin).mono ?_; rintro e w' ⟨rfl, rfl⟩; exact ⟨rfl, Ext.refl _⟩))
      simp only [Act.put, List.setIfInBounds_toArray, List.set_cons_zero, List.set_cons_succ]
      refine WE_q 7 rfl (by decide) (by kernel_rfl) rfl ?_; apply Exists.intro; refine ⟨fun w1 hx1 => ?_, ?_⟩
      · have hq1 := hx1.cells; go_simp; try go_bits
        first | with_reducible rfl | (first | (refine (bit_any _ _ _ hin).mono ?_; rintro e w' ⟨rfl, rfl⟩; exact ⟨rfl, Ext.refl _⟩) | (refine (r05Bit_any _ _ _ hin).mono ?_; rintro e w' ⟨rfl, rfl⟩; exact ⟨rfl, Ext.refl _⟩))
      simp only [Act.put, List.setIfInBounds_toArray, List.set_cons_zero, List.set_cons_succ]
      refine WE_done (by kernel_rfl) (fun w4 hx4 => ?_)
      (try simp only [List.drop_succ_cons, List.drop_zero])
      go_wp2
      go_roundw
      case rel => exact ⟨k + 1, by omega, by go_num, hx.trans hx4⟩
      case measure => simp [intOf]; omega
    · go_wp2_with fail
      have HT4 := Lib.hid (HT3.out.later hx)
      have HI4 := HI.out
      refine wp_region_E 44 rfl (by kernel_rfl) (by kernel_rfl) ?_
      refine WE_q 0 rfl (by decide) (by kernel_rfl) rfl ?_; apply Exists.intro; refine ⟨fun w1 hx1 => ?_, ?_⟩
      · have hq1 := hx1.cells; go_simp; try go_bits
        first | with_reducible rfl | (first | (refine (print_any x0 _ (HT4.out.later (by assumption))).mono ?_; rintro e w' ⟨rfl, hy⟩; exact ⟨rfl, hy⟩) | (refine (r05PrintU x0 _ (HT4.out.later (by assumption))).mono ?_; rintro e w' ⟨rfl, hy⟩; exact ⟨rfl, hy⟩) | (refine (bit_any _ _ _ HI4).mono ?_; rintro e w' ⟨rfl, rfl⟩; exact ⟨rfl, Ext.refl _⟩) | (refine (r05Bit_any _ _ _ HI4).mono ?_; rintro e w' ⟨rfl, rfl⟩; exact ⟨rfl, Ext.refl _⟩) | (refine (common_any _ _ _).mono ?_; rintro e w' ⟨rfl, rfl⟩; exact ⟨rfl, Ext.refl _⟩) | (refine (r05Common_any _ _ _).mono ?_; rintro e w' ⟨rfl, rfl⟩; exact ⟨rfl, Ext.refl _⟩))
      simp only [Act.put, List.setIfInBounds_toArray, List.set_cons_zero, List.set_cons_succ]
      refine WE_q 1 rfl (by decide) (by kernel_rfl) rfl ?_; apply Exists.intro; refine ⟨fun w1 hx1 => ?_, ?_⟩
      · have hq1 := hx1.cells; go_simp; try go_bits
        first | with_reducible rfl | (first | (refine (print_any x0 _ (HT4.out.later (by assumption))).mono ?_; rintro e w' ⟨rfl, hy⟩; exact ⟨rfl, hy⟩) | (refine (r05PrintU x0 _ (HT4.out.later (by assumption))).mono ?_; rintro e w' ⟨rfl, hy⟩; exact ⟨rfl, hy⟩) | (refine (bit_any _ _ _ HI4).mono ?_; rintro e w' ⟨rfl, rfl⟩; exact ⟨rfl, Ext.refl _⟩) | (refine (r05Bit_any _ _ _ HI4).mono ?_; rintro e w' ⟨rfl, rfl⟩; exact ⟨rfl, Ext.refl _⟩) | (refine (common_any _ _ _).mono ?_; rintro e w' ⟨rfl, rfl⟩; exact ⟨rfl, Ext.refl _⟩) | (refine (r05Common_any _ _ _).mono ?_; rintro e w' ⟨rfl, rfl⟩; exact ⟨rfl, Ext.refl _⟩))
      simp only [Act.put, List.setIfInBounds_toArray, List.set_cons_zero, List.set_cons_succ]
      refine WE_q 2 rfl (by decide) (by kernel_rfl) rfl ?_; apply Exists.intro; refine ⟨fun w1 hx1 => ?_, ?_⟩
      · have hq1 := hx1.cells; go_simp; try go_bits
        first | with_reducible rfl | (first | (refine (print_any x0 _ (HT4.out.later (by assumption))).mono ?_; rintro e w' ⟨rfl, hy⟩; exact ⟨rfl, hy⟩) | (refine (r05PrintU x0 _ (HT4.out.later (by assumption))).mono ?_; rintro e w' ⟨rfl, hy⟩; exact ⟨rfl, hy⟩) | (refine (bit_any _ _ _ HI4).mono ?_; rintro e w' ⟨rfl, rfl⟩; exact ⟨rfl, Ext.refl _⟩) | (refine (r05Bit_any _ _ _ HI4).mono ?_; rintro e w' ⟨rfl, rfl⟩; exact ⟨rfl, Ext.refl _⟩) | (refine (common_any _ _ _).mono ?_; rintro e w' ⟨rfl, rfl⟩; exact ⟨rfl, Ext.refl _⟩) | (refine (r05Common_any _ _ _).mono ?_; rintro e w' ⟨rfl, rfl⟩; exact ⟨rfl, Ext.refl _⟩))
      simp only [Act.put, List.setIfInBounds_toArray, List.set_cons_zero, List.set_cons_succ]
      refine WE_q 3 rfl (by decide) (by kernel_rfl) rfl ?_; apply Exists.intro; refine ⟨fun w1 hx1 => ?_, ?_⟩
      · have hq1 := hx1.cells; go_simp; try go_bits
        first | with_reducible rfl | (first | (refine (print_any x0 _ (HT4.out.later (by assumption))).mono ?_; rintro e w' ⟨rfl, hy⟩; exact ⟨rfl, hy⟩) | (refine (r05PrintU x0 _ (HT4.out.later (by assumption))).mono ?_; rintro e w' ⟨rfl, hy⟩; exact ⟨rfl, hy⟩) | (refine (bit_any _ _ _ HI4).mono ?_; rintro e w' ⟨rfl, rfl⟩; exact ⟨rfl, Ext.refl _⟩) | (refine (r05Bit_any _ _ _ HI4).mono ?_; rintro e w' ⟨rfl, rfl⟩; exact ⟨rfl, Ext.refl _⟩) | (refine (common_any _ _ _).mono ?_; rintro e w' ⟨rfl, rfl⟩; exact ⟨rfl, Ext.refl _⟩) | (refine (r05Common_any _ _ _).mono ?_; rintro e w' ⟨rfl, rfl⟩; exact ⟨rfl, Ext.refl _⟩))
      simp only [Act.put, List.setIfInBounds_toArray, List.set_cons_zero, List.set_cons_succ]
      refine WE_q 4 rfl (by decide) (by kernel_rfl) rfl ?_; apply Exists.intro; refine ⟨fun w1 hx1 => ?_, ?_⟩
      · have hq1 := hx1.cells; go_simp; try go_bits
        first | with_reducible rfl | (first | (refine (print_any x0 _ (HT4.out.later (by assumption))).mono ?_; rintro e w' ⟨rfl, hy⟩; exact ⟨rfl, hy⟩) | (refine (r05PrintU x0 _ (HT4.out.later (by assumption))).mono ?_; rintro e w' ⟨rfl, hy⟩; exact ⟨rfl, hy⟩) | (refine (bit_any _ _ _ HI4).mono ?_; rintro e w' ⟨rfl, rfl⟩; exact ⟨rfl, Ext.refl _⟩) | (refine (r05Bit_any _ _ _ HI4).mono ?_; rintro e w' ⟨rfl, rfl⟩; exact ⟨rfl, Ext.refl _⟩) | (refine (common_any _ _ _).mono ?_; rintro e w' ⟨rfl, rfl⟩; exact ⟨rfl, Ext.refl _⟩) | (refine (r05Common_any _ _ _).mono ?_; rintro e w' ⟨rfl, rfl⟩; exact ⟨rfl, Ext.refl _⟩))
      simp only [Act.put, List.setIfInBounds_toArray, List.set_cons_zero, List.set_cons_succ]
      refine WE_q 5 rfl (by decide) (by kernel_rfl) rfl ?_; apply Exists.intro; refine ⟨fun w1 hx1 => ?_, ?_⟩
      · have hq1 := hx1.cells; go_simp; try go_bits
        first | with_reducible rfl | (first | (refine (print_any x0 _ (HT4.out.later (by assumption))).mono ?_; rintro e w' ⟨rfl, hy⟩; exact ⟨rfl, hy⟩) | (refine (r05PrintU x0 _ (HT4.out.later (by assumption))).mono ?_; rintro e w' ⟨rfl, hy⟩; exact ⟨rfl, hy⟩) | (refine (bit_any _ _ _ HI4).mono ?_; rintro e w' ⟨rfl, rfl⟩; exact ⟨rfl, Ext.refl _⟩) | (refine (r05Bit_any _ _ _ HI4).mono ?_; rintro e w' ⟨rfl, rfl⟩; exact ⟨rfl, Ext.refl _⟩) | (refine (common_any _ _ _).mono ?_; rintro e w' ⟨rfl, rfl⟩; exact ⟨rfl, Ext.refl _⟩) | (refine (r05Common_any _ _ _).mono ?_; rintro e w' ⟨rfl, rfl⟩; exact ⟨rfl, Ext.refl _⟩))
      simp only [Act.put, List.setIfInBounds_toArray, List.set_cons_zero, List.set_cons_succ]
      refine WE_q 6 rfl (by decide) (by kernel_rfl) rfl ?_; apply Exists.intro; refine ⟨fun w1 hx1 => ?_, ?_⟩
      · have hq1 := hx1.cells; go_simp; try go_bits
        first | with_reducible rfl | (first | (refine (print_any x0 _ (HT4.out.later (by assumption))).mono ?_; rintro e w' ⟨rfl, hy⟩; exact ⟨rfl, hy⟩) | (refine (r05PrintU x0 _ (HT4.out.later (by assumption))).mono ?_; rintro e w' ⟨rfl, hy⟩; exact ⟨rfl, hy⟩) | (refine (bit_any _ _ _ HI4).mono ?_; rintro e w' ⟨rfl, rfl⟩; exact ⟨rfl, Ext.refl _⟩) | (refine (r05Bit_any _ _ _ HI4).mono ?_; rintro e w' ⟨rfl, rfl⟩; exact ⟨rfl, Ext.refl _⟩) | (refine (common_any _ _ _).mono ?_; rintro e w' ⟨rfl, rfl⟩; exact ⟨rfl, Ext.refl _⟩) | (refine (r05Common_any _ _ _).mono ?_; rintro e w' ⟨rfl, rfl⟩; exact ⟨rfl, Ext.refl _⟩))
      simp only [Act.put, List.setIfInBounds_toArray, List.set_cons_zero, List.set_cons_succ]
      refine WE_q 7 rfl (by decide) (by kernel_rfl) rfl ?_; apply Exists.intro; refine ⟨fun w1 hx1 => ?_, ?_⟩
      · have hq1 := hx1.cells; go_simp; try go_bits
        first | with_reducible rfl | (first | (refine (print_any x0 _ (HT4.out.later (by assumption))).mono ?_; rintro e w' ⟨rfl, hy⟩; exact ⟨rfl, hy⟩) | (refine (r05PrintU x0 _ (HT4.out.later (by assumption))).mono ?_; rintro e w' ⟨rfl, hy⟩; exact ⟨rfl, hy⟩) | (refine (bit_any _ _ _ HI4).mono ?_; rintro e w' ⟨rfl, rfl⟩; exact ⟨rfl, Ext.refl _⟩) | (refine (r05Bit_any _ _ _ HI4).mono ?_; rintro e w' ⟨rfl, rfl⟩; exact ⟨rfl, Ext.refl _⟩) | (refine (common_any _ _ _).mono ?_; rintro e w' ⟨rfl, rfl⟩; exact ⟨rfl, Ext.refl _⟩) | (refine (r05Common_any _ _ _).mono ?_; rintro e w' ⟨rfl, rfl⟩; exact ⟨rfl, Ext.refl _⟩))
      simp only [Act.put, List.setIfInBounds_toArray, List.set_cons_zero, List.set_cons_succ]
      refine WE_q 8 rfl (by decide) (by kernel_rfl) rfl ?_; apply Exists.intro; refine ⟨fun w1 hx1 => ?_, ?_⟩
      · have hq1 := hx1.cells; go_simp; try go_bits
        first | with_reducible rfl | (first | (refine (print_any x0 _ (HT4.out.later (by assumption))).mono ?_; rintro e w' ⟨rfl, hy⟩; exact ⟨rfl, hy⟩) | (refine (r05PrintU x0 _ (HT4.out.later (by assumption))).mono ?_; rintro e w' ⟨rfl, hy⟩; exact ⟨rfl, hy⟩) | (refine (bit_any _ _ _ HI4).mono ?_; rintro e w' ⟨rfl, rfl⟩; exact ⟨rfl, Ext.refl _⟩) | (refine (r05Bit_any _ _ _ HI4).mono ?_; rintro e w' ⟨rfl, rfl⟩; exact ⟨rfl, Ext.refl _⟩) | (refine (common_any _ _ _).mono ?_; rintro e w' ⟨rfl, rfl⟩; exact ⟨rfl, Ext.refl _⟩) | (refine (r05Common_any _ _ _).mono ?_; rintro e w' ⟨rfl, rfl⟩; exact ⟨rfl, Ext.refl _⟩))
      simp only [Act.put, List.setIfInBounds_toArray, List.set_cons_zero, List.set_cons_succ]
      refine WE_q 9 rfl (by decide) (by kernel_rfl) rfl ?_; apply Exists.intro; refine ⟨fun w1 hx1 => ?_, ?_⟩
      · have hq1 := hx1.cells; go_simp; try go_bits
        first | with_reducible rfl | (first | (refine (print_any x0 _ (HT4.out.later (by assumption))).mono ?_; rintro e w' ⟨rfl, hy⟩; exact ⟨rfl, hy⟩) | (refine (r05PrintU x0 _ (HT4.out.later (by assumption))).mono ?_; rintro e w' ⟨rfl, hy⟩; exact ⟨rfl, hy⟩) | (refine (bit_any _ _ _ HI4).mono ?_; rintro e w' ⟨rfl, rfl⟩; exact ⟨rfl, Ext.refl _⟩) | (refine (r05Bit_any _ _ _ HI4).mono ?_; rintro e w' ⟨rfl, rfl⟩; exact ⟨rfl, Ext.refl _⟩) | (refine (common_any _ _ _).mono ?_; rintro e w' ⟨rfl, rfl⟩; exact ⟨rfl, Ext.refl _⟩) | (refine (r05Common_any _ _ _).mono ?_; rintro e w' ⟨rfl, rfl⟩; exact ⟨rfl, Ext.refl _⟩))
      simp only [Act.put, List.setIfInBounds_toArray, List.set_cons_zero, List.set_cons_succ]
      refine WE_q 10 rfl (by decide) (by kernel_rfl) rfl ?_; apply Exists.intro; refine ⟨fun w1 hx1 => ?_, ?_⟩
      · have hq1 := hx1.cells; go_simp; try go_bits
        first | with_reducible rfl | (first | (refine (print_any x0 _ (HT4.out.later (by assumption))).mono ?_; rintro e w' ⟨rfl, hy⟩; exact ⟨rfl, hy⟩) | (refine (r05PrintU x0 _ (HT4.out.later (by assumption))).mono ?_; rintro e w' ⟨rfl, hy⟩; exact ⟨rfl, hy⟩) | (refine (bit_any _ _ _ HI4).mono ?_; rintro e w' ⟨rfl, rfl⟩; exact ⟨rfl, Ext.refl _⟩) | (refine (r05Bit_any _ _ _ HI4).mono ?_; rintro e w' ⟨rfl, rfl⟩; exact ⟨rfl, Ext.refl _⟩) | (refine (common_any _ _ _).mono ?_; rintro e w' ⟨rfl, rfl⟩; exact ⟨rfl, Ext.refl _⟩) | (refine (r05Common_any _ _ _).mono ?_; rintro e w' ⟨rfl, rfl⟩; exact ⟨rfl, Ext.refl _⟩))
      simp only [Act.put, List.setIfInBounds_toArray, List.set_cons_zero, List.set_cons_succ]
      refine WE_q 11 rfl (by decide) (by kernel_rfl) rfl ?_; apply Exists.intro; refine ⟨fun w1 hx1 => ?_, ?_⟩
      · have hq1 := hx1.cells; go_simp; try go_bits
        first | with_reducible rfl | (first | (refine (print_any x0 _ (HT4.out.later (by assumption))).mono ?_; rintro e w' ⟨rfl, hy⟩; exact ⟨rfl, hy⟩) | (refine (r05PrintU x0 _ (HT4.out.later (by assumption))).mono ?_; rintro e w' ⟨rfl, hy⟩; exact ⟨rfl, hy⟩) | (refine (bit_any _ _ _ HI4).mono ?_; rintro e w' ⟨rfl, rfl⟩; exact ⟨rfl, Ext.refl _⟩) | (refine (r05Bit_any _ _ _ HI4).mono ?_; rintro e w' ⟨rfl, rfl⟩; exact ⟨rfl, Ext.refl _⟩) | (refine (common_any _ _ _).mono ?_; rintro e w' ⟨rfl, rfl⟩; exact ⟨rfl, Ext.refl _⟩) | (refine (r05Common_any _ _ _).mono ?_; rintro e w' ⟨rfl, rfl⟩; exact ⟨rfl, Ext.refl _⟩))
      simp only [Act.put, List.setIfInBounds_toArray, List.set_cons_zero, List.set_cons_succ]
      refine WE_q 12 rfl (by decide) (by kernel_rfl) rfl ?_; apply Exists.intro; refine ⟨fun w1 hx1 => ?_, ?_⟩
      · have hq1 := hx1.cells; go_simp; try go_bits
        first | with_reducible rfl | (first | (refine (print_any x0 _ (HT4.out.later (by assumption))).mono ?_; rintro e w' ⟨rfl, hy⟩; exact ⟨rfl, hy⟩) | (refine (r05PrintU x0 _ (HT4.out.later (by assumption))).mono ?_; rintro e w' ⟨rfl, hy⟩; exact ⟨rfl, hy⟩) | (refine (bit_any _ _ _ HI4).mono ?_; rintro e w' ⟨rfl, rfl⟩; exact ⟨rfl, Ext.refl _⟩) | (refine (r05Bit_any _ _ _ HI4).mono ?_; rintro e w' ⟨rfl, rfl⟩; exact ⟨rfl, Ext.refl _⟩) | (refine (common_any _ _ _).mono ?_; rintro e w' ⟨rfl, rfl⟩; exact ⟨rfl, Ext.refl _⟩) | (refine (r05Common_any _ _ _).mono ?_; rintro e w' ⟨rfl, rfl⟩; exact ⟨rfl, Ext.refl _⟩))
      simp only [Act.put, List.setIfInBounds_toArray, List.set_cons_zero, List.set_cons_succ]
      refine WE_q 13 rfl (by decide) (by kernel_rfl) rfl ?_; apply Exists.intro; refine ⟨fun w1 hx1 => ?_, ?_⟩
      · have hq1 := hx1.cells; go_simp; try go_bits
        first | with_reducible rfl | (first | (refine (print_any x0 _ (HT4.out.later (by assumption))).mono ?_; rintro e w' ⟨rfl, hy⟩; exact ⟨rfl, hy⟩) | (refine (r05PrintU x0 _ (HT4.out.later (by assumption))).mono ?_; rintro e w' ⟨rfl, hy⟩; exact ⟨rfl, hy⟩) | (refine (bit_any _ _ _ HI4).mono ?_; rintro e w' ⟨rfl, rfl⟩; exact ⟨rfl, Ext.refl _⟩) | (refine (r05Bit_any _ _ _ HI4).mono ?_; rintro e w' ⟨rfl, rfl⟩; exact ⟨rfl, Ext.refl _⟩) | (refine (common_any _ _ _).mono ?_; rintro e w' ⟨rfl, rfl⟩; exact ⟨rfl, Ext.refl _⟩) | (refine (r05Common_any _ _ _).mono ?_; rintro e w' ⟨rfl, rfl⟩; exact ⟨rfl, Ext.refl _⟩))
      simp only [Act.put, List.setIfInBounds_toArray, List.set_cons_zero, List.set_cons_succ]
      refine WE_q 14 rfl (by decide) (by kernel_rfl) rfl ?_; apply Exists.intro; refine ⟨fun w1 hx1 => ?_, ?_⟩
      · have hq1 := hx1.cells; go_simp; try go_bits
        first | with_reducible rfl | (first | (refine (print_any x0 _ (HT4.out.later (by assumption))).mono ?_; rintro e w' ⟨rfl, hy⟩; exact ⟨rfl, hy⟩) | (refine (r05PrintU x0 _ (HT4.out.later (by assumption))).mono ?_; rintro e w' ⟨rfl, hy⟩; exact ⟨rfl, hy⟩) | (refine (bit_any _ _ _ HI4).mono ?_; rintro e w' ⟨rfl, rfl⟩; exact ⟨rfl, Ext.refl _⟩) | (refine (r05Bit_any _ _ _ HI4).mono ?_; rintro e w' ⟨rfl, rfl⟩; exact ⟨rfl, Ext.refl _⟩) | (refine (common_any _ _ _).mono ?_; rintro e w' ⟨rfl, rfl⟩; exact ⟨rfl, Ext.refl _⟩) | (refine (r05Common_any _ _ _).mono ?_; rintro e w' ⟨rfl, rfl⟩; exact ⟨rfl, Ext.refl _⟩))
      simp only [Act.put, List.setIfInBounds_toArray, List.set_cons_zero, List.set_cons_succ]
      refine WE_q 15 rfl (by decide) (by kernel_rfl) rfl ?_; apply Exists.intro; refine ⟨fun w1 hx1 => ?_, ?_⟩
      · have hq1 := hx1.cells; go_simp; try go_bits
        first | with_reducible rfl | (first | (refine (print_any x0 _ (HT4.out.later (by assumption))).mono ?_; rintro e w' ⟨rfl, hy⟩; exact ⟨rfl, hy⟩) | (refine (r05PrintU x0 _ (HT4.out.later (by assumption))).mono ?_; rintro e w' ⟨rfl, hy⟩; exact ⟨rfl, hy⟩) | (refine (bit_any _ _ _ HI4).mono ?_; rintro e w' ⟨rfl, rfl⟩; exact ⟨rfl, Ext.refl _⟩) | (refine (r05Bit_any _ _ _ HI4).mono ?_; rintro e w' ⟨rfl, rfl⟩; exact ⟨rfl, Ext.refl _⟩) | (refine (common_any _ _ _).mono ?_; rintro e w' ⟨rfl, rfl⟩; exact ⟨rfl, Ext.refl _⟩) | (refine (r05Common_any _ _ _).mono ?_; rintro e w' ⟨rfl, rfl⟩; exact ⟨rfl, Ext.refl _⟩))
      simp only [Act.put, List.setIfInBounds_toArray, List.set_cons_zero, List.set_cons_succ]
      refine WE_q 16 rfl (by decide) (by kernel_rfl) rfl ?_; apply Exists.intro; refine ⟨fun w1 hx1 => ?_, ?_⟩
      · have hq1 := hx1.cells; go_simp; try go_bits
        first | with_reducible rfl | (first | (refine (print_any x0 _ (HT4.out.later (by assumption))).mono ?_; rintro e w' ⟨rfl, hy⟩; exact ⟨rfl, hy⟩) | (refine (r05PrintU x0 _ (HT4.out.later (by assumption))).mono ?_; rintro e w' ⟨rfl, hy⟩; exact ⟨rfl, hy⟩) | (refine (bit_any _ _ _ HI4).mono ?_; rintro e w' ⟨rfl, rfl⟩; exact ⟨rfl, Ext.refl _⟩) | (refine (r05Bit_any _ _ _ HI4).mono ?_; rintro e w' ⟨rfl, rfl⟩; exact ⟨rfl, Ext.refl _⟩) | (refine (common_any _ _ _).mono ?_; rintro e w' ⟨rfl, rfl⟩; exact ⟨rfl, Ext.refl _⟩) | (refine (r05Common_any _ _ _).mono ?_; rintro e w' ⟨rfl, rfl⟩; exact ⟨rfl, Ext.refl _⟩))
      simp only [Act.put, List.setIfInBounds_toArray, List.set_cons_zero, List.set_cons_succ]
      refine WE_q 17 rfl (by decide) (by kernel_rfl) rfl ?_; apply Exists.intro; refine ⟨fun w1 hx1 => ?_, ?_⟩
      · have hq1 := hx1.cells; go_simp; try go_bits
        first | with_reducible rfl | (first | (refine (print_any x0 _ (HT4.out.later (by assumption))).mono ?_; rintro e w' ⟨rfl, hy⟩; exact ⟨rfl, hy⟩) | (refine (r05PrintU x0 _ (HT4.out.later (by assumption))).mono ?_; rintro e w' ⟨rfl, hy⟩; exact ⟨rfl, hy⟩) | (refine (bit_any _ _ _ HI4).mono ?_; rintro e w' ⟨rfl, rfl⟩; exact ⟨rfl, Ext.refl _⟩) | (refine (r05Bit_any _ _ _ HI4).mono ?_; rintro e w' ⟨rfl, rfl⟩; exact ⟨rfl, Ext.refl _⟩) | (refine (common_any _ _ _).mono ?_; rintro e w' ⟨rfl, rfl⟩; exact ⟨rfl, Ext.refl _⟩) | (refine (r05Common_any _ _ _).mono ?_; rintro e w' ⟨rfl, rfl⟩; exact ⟨rfl, Ext.refl _⟩))
      simp only [Act.put, List.setIfInBounds_toArray, List.set_cons_zero, List.set_cons_succ]
      refine WE_q 18 rfl (by decide) (by kernel_rfl) rfl ?_; apply Exists.intro; refine ⟨fun w1 hx1 => ?_, ?_⟩
      · have hq1 := hx1.cells; go_simp; try go_bits
        first | with_reducible rfl | (first | (refine (print_any x0 _ (HT4.out.later (by assumption))).mono ?_; rintro e w' ⟨rfl, hy⟩; exact ⟨rfl, hy⟩) | (refine (r05PrintU x0 _ (HT4.out.later (by assumption))).mono ?_; rintro e w' ⟨rfl, hy⟩; exact ⟨rfl, hy⟩) | (refine (bit_any _ _ _ HI4).mono ?_; rintro e w' ⟨rfl, rfl⟩; exact ⟨rfl, Ext.refl _⟩) | (refine (r05Bit_any _ _ _ HI4).mono ?_; rintro e w' ⟨rfl, rfl⟩; exact ⟨rfl, Ext.refl _⟩) | (refine (common_any _ _ _).mono ?_; rintro e w' ⟨rfl, rfl⟩; exact ⟨rfl, Ext.refl _⟩) | (refine (r05Common_any _ _ _).mono ?_; rintro e w' ⟨rfl, rfl⟩; exact ⟨rfl, Ext.refl _⟩))
      simp only [Act.put, List.setIfInBounds_toArray, List.set_cons_zero, List.set_cons_succ]
      refine WE_q 19 rfl (by decide) (by kernel_rfl) rfl ?_; apply Exists.intro; refine ⟨fun w1 hx1 => ?_, ?_⟩
      · have hq1 := hx1.cells; go_simp; try go_bits
        first | with_reducible rfl | (first | (refine (print_any x0 _ (HT4.out.later (by assumption))).mono ?_; rintro e w' ⟨rfl, hy⟩; exact ⟨rfl, hy⟩) | (refine (r05PrintU x0 _ (HT4.out.later (by assumption))).mono ?_; rintro e w' ⟨rfl, hy⟩; exact ⟨rfl, hy⟩) | (refine (bit_any _ _ _ HI4).mono ?_; rintro e w' ⟨rfl, rfl⟩; exact ⟨rfl, Ext.refl _⟩) | (refine (r05Bit_any _ _ _ HI4).mono ?_; rintro e w' ⟨rfl, rfl⟩; exact ⟨rfl, Ext.refl _⟩) | (refine (common_any _ _ _).mono ?_; rintro e w' ⟨rfl, rfl⟩; exact ⟨rfl, Ext.refl _⟩) | (refine (r05Common_any _ _ _).mono ?_; rintro e w' ⟨rfl, rfl⟩; exact ⟨rfl, Ext.refl _⟩))
      simp only [Act.put, List.setIfInBounds_toArray, List.set_cons_zero, List.set_cons_succ]
      refine WE_q 20 rfl (by decide) (by kernel_rfl) rfl ?_; apply Exists.intro; refine ⟨fun w1 hx1 => ?_, ?_⟩
      · have hq1 := hx1.cells; go_simp; try go_bits
        first | with_reducible rfl | (first | (refine (print_any x0 _ (HT4.out.later (by assumption))).mono ?_; rintro e w' ⟨rfl, hy⟩; exact ⟨rfl, hy⟩) | (refine (r05PrintU x0 _ (HT4.out.later (by assumption))).mono ?_; rintro e w' ⟨rfl, hy⟩; exact ⟨rfl, hy⟩) | (refine (bit_any _ _ _ HI4).mono ?_; rintro e w' ⟨rfl, rfl⟩; exact ⟨rfl, Ext.refl _⟩) | (refine (r05Bit_any _ _ _ HI4).mono ?_; rintro e w' ⟨rfl, rfl⟩; exact ⟨rfl, Ext.refl _⟩) | (refine (common_any _ _ _).mono ?_; rintro e w' ⟨rfl, rfl⟩; exact ⟨rfl, Ext.refl _⟩) | (refine (r05Common_any _ _ _).mono ?_; rintro e w' ⟨rfl, rfl⟩; exact ⟨rfl, Ext.refl _⟩))
      simp only [Act.put, List.setIfInBounds_toArray, List.set_cons_zero, List.set_cons_succ]
      refine WE_q 21 rfl (by decide) (by kernel_rfl) rfl ?_; apply Exists.intro; refine ⟨fun w1 hx1 => ?_, ?_⟩
      · have hq1 := hx1.cells; go_simp; try go_bits
        first | with_reducible rfl | (first | (refine (print_any x0 _ (HT4.out.later (by assumption))).mono ?_; rintro e w' ⟨rfl, hy⟩; exact ⟨rfl, hy⟩) | (refine (r05PrintU x0 _ (HT4.out.later (by assumption))).mono ?_; rintro e w' ⟨rfl, hy⟩; exact ⟨rfl, hy⟩) | (refine (bit_any _ _ _ HI4).mono ?_; rintro e w' ⟨rfl, rfl⟩; exact ⟨rfl, Ext.refl _⟩) | (refine (r05Bit_any _ _ _ HI4).mono ?_; rintro e w' ⟨rfl, rfl⟩; exact ⟨rfl, Ext.refl _⟩) | (refine (common_any _ _ _).mono ?_; rintro e w' ⟨rfl, rfl⟩; exact ⟨rfl, Ext.refl _⟩) | (refine (r05Common_any _ _ _).mono ?_; rintro e w' ⟨rfl, rfl⟩; exact ⟨rfl, Ext.refl _⟩))
      simp only [Act.put, List.setIfInBounds_toArray, List.set_cons_zero, List.set_cons_succ]
      refine WE_q 22 rfl (by decide) (by kernel_rfl) rfl ?_; apply Exists.intro; refine ⟨fun w1 hx1 => ?_, ?_⟩
      · have hq1 := hx1.cells; go_simp; try go_bits
        first | with_reducible rfl | (first | (refine (print_any x0 _ (HT4.out.later (by assumption))).mono ?_; rintro e w' ⟨rfl, hy⟩; exact ⟨rfl, hy⟩) | (refine (r05PrintU x0 _ (HT4.out.later (by assumption))).mono ?_; rintro e w' ⟨rfl, hy⟩; exact ⟨rfl, hy⟩) | (refine (bit_any _ _ _ HI4).mono ?_; rintro e w' ⟨rfl, rfl⟩; exact ⟨rfl, Ext.refl _⟩) | (refine (r05Bit_any _ _ _ HI4).mono ?_; rintro e w' ⟨rfl, rfl⟩; exact ⟨rfl, Ext.refl _⟩) | (refine (common_any _ _ _).mono ?_; rintro e w' ⟨rfl, rfl⟩; exact ⟨rfl, Ext.refl _⟩) | (refine (r05Common_any _ _ _).mono ?_; rintro e w' ⟨rfl, rfl⟩; exact ⟨rfl, Ext.refl _⟩))
      simp only [Act.put, List.setIfInBounds_toArray, List.set_cons_zero, List.set_cons_succ]
      refine WE_q 23 rfl (by decide) (by kernel_rfl) rfl ?_; apply Exists.intro; refine ⟨fun w1 hx1 => ?_, ?_⟩
      · have hq1 := hx1.cells; go_simp; try go_bits
        first | with_reducible rfl | (first | (refine (print_any x0 _ (HT4.out.later (by assumption))).mono ?_; rintro e w' ⟨rfl, hy⟩; exact ⟨rfl, hy⟩) | (refine (r05PrintU x0 _ (HT4.out.later (by assumption))).mono ?_; rintro e w' ⟨rfl, hy⟩; exact ⟨rfl, hy⟩) | (refine (bit_any _ _ _ HI4).mono ?_; rintro e w' ⟨rfl, rfl⟩; exact ⟨rfl, Ext.refl _⟩) | (refine (r05Bit_any _ _ _ HI4).mono ?_; rintro e w' ⟨rfl, rfl⟩; exact ⟨rfl, Ext.refl _⟩) | (refine (common_any _ _ _).mono ?_; rintro e w' ⟨rfl, rfl⟩; exact ⟨rfl, Ext.refl _⟩) | (refine (r05Common_any _ _ _).mono ?_; rintro e w' ⟨rfl, rfl⟩; exact ⟨rfl, Ext.refl _⟩))
      simp only [Act.put, List.setIfInBounds_toArray, List.set_cons_zero, List.set_cons_succ]
      refine WE_q 24 rfl (by decide) (by kernel_rfl) rfl ?_; apply Exists.intro; refine ⟨fun w1 hx1 => ?_, ?_⟩
      · have hq1 := hx1.cells; go_simp; try go_bits
        first | with_reducible rfl | (first | (refine (print_any x0 _ (HT4.out.later (by assumption))).mono ?_; rintro e w' ⟨rfl, hy⟩; exact ⟨rfl, hy⟩) | (refine (r05PrintU x0 _ (HT4.out.later (by assumption))).mono ?_; rintro e w' ⟨rfl, hy⟩; exact ⟨rfl, hy⟩) | (refine (bit_any _ _ _ HI4).mono ?_; rintro e w' ⟨rfl, rfl⟩; exact ⟨rfl, Ext.refl _⟩) | (refine (r05Bit_any _ _ _ HI4).mono ?_; rintro e w' ⟨rfl, rfl⟩; exact ⟨rfl, Ext.refl _⟩) | (refine (common_any _ _ _).mono ?_; rintro e w' ⟨rfl, rfl⟩; exact ⟨rfl, Ext.refl _⟩) | (refine (r05Common_any _ _ _).mono ?_; rintro e w' ⟨rfl, rfl⟩; exact ⟨rfl, Ext.refl _⟩))
      simp only [Act.put, List.setIfInBounds_toArray, List.set_cons_zero, List.set_cons_succ]
      refine WE_q 25 rfl (by decide) (by kernel_rfl) rfl ?_; apply Exists.intro; refine ⟨fun w1 hx1 => ?_, ?_⟩
      · have hq1 := hx1.cells; go_simp; try go_bits
        first | with_reducible rfl | (first | (refine (print_any x0 _ (HT4.out.later (by assumption))).mono ?_; rintro e w' ⟨rfl, hy⟩; exact ⟨rfl, hy⟩) | (refine (r05PrintU x0 _ (HT4.out.later (by assumption))).mono ?_; rintro e w' ⟨rfl, hy⟩; exact ⟨rfl, hy⟩) | (refine (bit_any _ _ _ HI4).mono ?_; rintro e w' ⟨rfl, rfl⟩; exact ⟨rfl, Ext.refl _⟩) | (refine (r05Bit_any _ _ _ HI4).mono ?_; rintro e w' ⟨rfl, rfl⟩; exact ⟨rfl, Ext.refl _⟩) | (refine (common_any _ _ _).mono ?_; rintro e w' ⟨rfl, rfl⟩; exact ⟨rfl, Ext.refl _⟩) | (refine (r05Common_any _ _ _).mono ?_; rintro e w' ⟨rfl, rfl⟩; exact ⟨rfl, Ext.refl _⟩))
      simp only [Act.put, List.setIfInBounds_toArray, List.set_cons_zero, List.set_cons_succ]
      refine WE_q 26 rfl (by decide) (by kernel_rfl) rfl ?_; apply Exists.intro; refine ⟨fun w1 hx1 => ?_, ?_⟩
      · have hq1 := hx1.cells; go_simp; try go_bits
        first | with_reducible rfl | (first | (refine (print_any x0 _ (HT4.out.later (by assumption))).mono ?_; rintro e w' ⟨rfl, hy⟩; exact ⟨rfl, hy⟩) | (refine (r05PrintU x0 _ (HT4.out.later (by assumption))).mono ?_; rintro e w' ⟨rfl, hy⟩; exact ⟨rfl, hy⟩) | (refine (bit_any _ _ _ HI4).mono ?_; rintro e w' ⟨rfl, rfl⟩; exact ⟨rfl, Ext.refl _⟩) | (refine (r05Bit_any _ _ _ HI4).mono ?_; rintro e w' ⟨rfl, rfl⟩; exact ⟨rfl, Ext.refl _⟩) | (refine (common_any _ _ _).mono ?_; rintro e w' ⟨rfl, rfl⟩; exact ⟨rfl, Ext.refl _⟩) | (refine (r05Common_any _ _ _).mono ?_; rintro e w' ⟨rfl, rfl⟩; exact ⟨rfl, Ext.refl _⟩))
      simp only [Act.put, List.setIfInBounds_toArray, List.set_cons_zero, List.set_cons_succ]
      refine WE_q 27 rfl (by decide) (by kernel_rfl) rfl ?_; apply Exists.intro; refine ⟨fun w1 hx1 => ?_, ?_⟩
      · have hq1 := hx1.cells; go_simp; try go_bits
        first | with_reducible rfl | (first | (refine (print_any x0 _ (HT4.out.later (by assumption))).mono ?_; rintro e w' ⟨rfl, hy⟩; exact ⟨rfl, hy⟩) | (refine (r05PrintU x0 _ (HT4.out.later (by assumption))).mono ?_; rintro e w' ⟨rfl, hy⟩; exact ⟨rfl, hy⟩) | (refine (bit_any _ _ _ HI4).mono ?_; rintro e w' ⟨rfl, rfl⟩; exact ⟨rfl, Ext.refl _⟩) | (refine (r05Bit_any _ _ _ HI4).mono ?_; rintro e w' ⟨rfl, rfl⟩; exact ⟨rfl, Ext.refl _⟩) | (refine (common_any _ _ _).mono ?_; rintro e w' ⟨rfl, rfl⟩; exact ⟨rfl, Ext.refl _⟩) | (refine (r05Common_any _ _ _).mono ?_; rintro e w' ⟨rfl, rfl⟩; exact ⟨rfl, Ext.refl _⟩))
      simp only [Act.put, List.setIfInBounds_toArray, List.set_cons_zero, List.set_cons_succ]
      refine WE_q 28 rfl (by decide) (by kernel_rfl) rfl ?_; apply Exists.intro; refine ⟨fun w1 hx1 => ?_, ?_⟩
      · have hq1 := hx1.cells; go_simp; try go_bits
        first | with_reducible rfl | (first | (refine (print_any x0 _ (HT4.out.later (by assumption))).mono ?_; rintro e w' ⟨rfl, hy⟩; exact ⟨rfl, hy⟩) | (refine (r05PrintU x0 _ (HT4.out.later (by assumption))).mono ?_; rintro e w' ⟨rfl, hy⟩; exact ⟨rfl, hy⟩) | (refine (bit_any _ _ _ HI4).mono ?_; rintro e w' ⟨rfl, rfl⟩; exact ⟨rfl, Ext.refl _⟩) | (refine (r05Bit_any _ _ _ HI4).mono ?_; rintro e w' ⟨rfl, rfl⟩; exact ⟨rfl, Ext.refl _⟩) | (refine (common_any _ _ _).mono ?_; rintro e w' ⟨rfl, rfl⟩; exact ⟨rfl, Ext.refl _⟩) | (refine (r05Common_any _ _ _).mono ?_; rintro e w' ⟨rfl, rfl⟩; exact ⟨rfl, Ext.refl _⟩))
      simp only [Act.put, List.setIfInBounds_toArray, List.set_cons_zero, List.set_cons_succ]
      refine WE_q 29 rfl (by decide) (by kernel_rfl) rfl ?_; apply Exists.intro; refine ⟨fun w1 hx1 => ?_, ?_⟩
      · have hq1 := hx1.cells; go_simp; try go_bits
        first | with_reducible rfl | (first | (refine (print_any x0 _ (HT4.out.later (by assumption))).mono ?_; rintro e w' ⟨rfl, hy⟩; exact ⟨rfl, hy⟩) | (refine (r05PrintU x0 _ (HT4.out.later (by assumption))).mono ?_; rintro e w' ⟨rfl, hy⟩; exact ⟨rfl, hy⟩) | (refine (bit_any _ _ _ HI4).mono ?_; rintro e w' ⟨rfl, rfl⟩; exact ⟨rfl, Ext.refl _⟩) | (refine (r05Bit_any _ _ _ HI4).mono ?_; rintro e w' ⟨rfl, rfl⟩; exact ⟨rfl, Ext.refl _⟩) | (refine (common_any _ _ _).mono ?_; rintro e w' ⟨rfl, rfl⟩; exact ⟨rfl, Ext.refl _⟩) | (refine (r05Common_any _ _ _).mono ?_; rintro e w' ⟨rfl, rfl⟩; exact ⟨rfl, Ext.refl _⟩))
      simp only [Act.put, List.setIfInBounds_toArray, List.set_cons_zero, List.set_cons_succ]
      refine WE_q 30 rfl (by decide) (by kernel_rfl) rfl ?_; apply Exists.intro; refine ⟨fun w1 hx1 => ?_, ?_⟩
      · have hq1 := hx1.cells; go_simp; try go_bits
        first | with_reducible rfl | (first | (refine (print_any x0 _ (HT4.out.later (by assumption))).mono ?_; rintro e w' ⟨rfl, hy⟩; exact ⟨rfl, hy⟩) | (refine (r05PrintU x0 _ (HT4.out.later (by assumption))).mono ?_; rintro e w' ⟨rfl, hy⟩; exact ⟨rfl, hy⟩) | (refine (bit_any _ _ _ HI4).mono ?_; rintro e w' ⟨rfl, rfl⟩; exact ⟨rfl, Ext.refl _⟩) | (refine (r05Bit_any _ _ _ HI4).mono ?_; rintro e w' ⟨rfl, rfl⟩; exact ⟨rfl, Ext.refl _⟩) | (refine (common_any _ _ _).mono ?_; rintro e w' ⟨rfl, rfl⟩; exact ⟨rfl, Ext.refl _⟩) | (refine (r05Common_any _ _ _).mono ?_; rintro e w' ⟨rfl, rfl⟩; exact ⟨rfl, Ext.refl _⟩))
      simp only [Act.put, List.setIfInBounds_toArray, List.set_cons_zero, List.set_cons_succ]
      refine WE_q 31 rfl (by decide) (by kernel_rfl) rfl ?_; apply Exists.intro; refine ⟨fun w1 hx1 => ?_, ?_⟩
      · have hq1 := hx1.cells; go_simp; try go_bits
        first | with_reducible rfl | (first | (refine (print_any x0 _ (HT4.out.later (by assumption))).mono ?_; rintro e w' ⟨rfl, hy⟩; exact ⟨rfl, hy⟩) | (refine (r05PrintU x0 _ (HT4.out.later (by assumption))).mono ?_; rintro e w' ⟨rfl, hy⟩; exact ⟨rfl, hy⟩) | (refine (bit_any _ _ _ HI4).mono ?_; rintro e w' ⟨rfl, rfl⟩; exact ⟨rfl, Ext.refl _⟩) | (refine (r05Bit_any _ _ _ HI4).mono ?_; rintro e w' ⟨rfl, rfl⟩; exact ⟨rfl, Ext.refl _⟩) | (refine (common_any _ _ _).mono ?_; rintro e w' ⟨rfl, rfl⟩; exact ⟨rfl, Ext.refl _⟩) | (refine (r05Common_any _ _ _).mono ?_; rintro e w' ⟨rfl, rfl⟩; exact ⟨rfl, Ext.refl _⟩))
      simp only [Act.put, List.setIfInBounds_toArray, List.set_cons_zero, List.set_cons_succ]
      refine WE_q 32 rfl (by decide) (by kernel_rfl) rfl ?_; apply Exists.intro; refine ⟨fun w1 hx1 => ?_, ?_⟩
      · have hq1 := hx1.cells; go_simp; try go_bits
        first | with_reducible rfl | (first | (refine (print_any x0 _ (HT4.out.later (by assumption))).mono ?_; rintro e w' ⟨rfl, hy⟩; exact ⟨rfl, hy⟩) | (refine (r05PrintU x0 _ (HT4.out.later (by assumption))).mono ?_; rintro e w' ⟨rfl, hy⟩; exact ⟨rfl, hy⟩) | (refine (bit_any _ _ _ HI4).mono ?_; rintro e w' ⟨rfl, rfl⟩; exact ⟨rfl, Ext.refl _⟩) | (refine (r05Bit_any _ _ _ HI4).mono ?_; rintro e w' ⟨rfl, rfl⟩; exact ⟨rfl, Ext.refl _⟩) | (refine (common_any _ _ _).mono ?_; rintro e w' ⟨rfl, rfl⟩; exact ⟨rfl, Ext.refl _⟩) | (refine (r05Common_any _ _ _).mono ?_; rintro e w' ⟨rfl, rfl⟩; exact ⟨rfl, Ext.refl _⟩))
      simp only [Act.put, List.setIfInBounds_toArray, List.set_cons_zero, List.set_cons_succ]
      refine WE_q 33 rfl (by decide) (by kernel_rfl) rfl ?_; apply Exists.intro; refine ⟨fun w1 hx1 => ?_, ?_⟩
      · have hq1 := hx1.cells; go_simp; try go_bits
        first | with_reducible rfl | (first | (refine (print_any x0 _ (HT4.out.later (by assumption))).mono ?_; rintro e w' ⟨rfl, hy⟩; exact ⟨rfl, hy⟩) | (refine (r05PrintU x0 _ (HT4.out.later (by assumption))).mono ?_; rintro e w' ⟨rfl, hy⟩; exact ⟨rfl, hy⟩) | (refine (bit_any _ _ _ HI4).mono ?_; rintro e w' ⟨rfl, rfl⟩; exact ⟨rfl, Ext.refl _⟩) | (refine (r05Bit_any _ _ _ HI4).mono ?_; rintro e w' ⟨rfl, rfl⟩; exact ⟨rfl, Ext.refl _⟩) | (refine (common_any _ _ _).mono ?_; rintro e w' ⟨rfl, rfl⟩; exact ⟨rfl, Ext.refl _⟩) | (refine (r05Common_any _ _ _).mono ?_; rintro e w' ⟨rfl, rfl⟩; exact ⟨rfl, Ext.refl _⟩))
      simp only [Act.put, List.setIfInBounds_toArray, List.set_cons_zero, List.set_cons_succ]
      refine WE_q 34 rfl (by decide) (by kernel_rfl) rfl ?_; apply Exists.intro; refine ⟨fun w1 hx1 => ?_, ?_⟩
      · have hq1 := hx1.cells; go_simp; try go_bits
        first | with_reducible rfl | (first | (refine (print_any x0 _ (HT4.out.later (by assumption))).mono ?_; rintro e w' ⟨rfl, hy⟩; exact ⟨rfl, hy⟩) | (refine (r05PrintU x0 _ (HT4.out.later (by assumption))).mono ?_; rintro e w' ⟨rfl, hy⟩; exact ⟨rfl, hy⟩) | (refine (bit_any _ _ _ HI4).mono ?_; rintro e w' ⟨rfl, rfl⟩; exact ⟨rfl, Ext.refl _⟩) | (refine (r05Bit_any _ _ _ HI4).mono ?_; rintro e w' ⟨rfl, rfl⟩; exact ⟨rfl, Ext.refl _⟩) | (refine (common_any _ _ _).mono ?_; rintro e w' ⟨rfl, rfl⟩; exact ⟨rfl, Ext.refl _⟩) | (refine (r05Common_any _ _ _).mono ?_; rintro e w' ⟨rfl, rfl⟩; exact ⟨rfl, Ext.refl _⟩))
      simp only [Act.put, List.setIfInBounds_toArray, List.set_cons_zero, List.set_cons_succ]
      refine WE_q 35 rfl (by decide) (by kernel_rfl) rfl ?_; apply Exists.intro; refine ⟨fun w1 hx1 => ?_, ?_⟩
      · have hq1 := hx1.cells; go_simp; try go_bits
        first | with_reducible rfl | (first | (refine (print_any x0 _ (HT4.out.later (by assumption))).mono ?_; rintro e w' ⟨rfl, hy⟩; exact ⟨rfl, hy⟩) | (refine (r05PrintU x0 _ (HT4.out.later (by assumption))).mono ?_; rintro e w' ⟨rfl, hy⟩; exact ⟨rfl, hy⟩) | (refine (bit_any _ _ _ HI4).mono ?_; rintro e w' ⟨rfl, rfl⟩; exact ⟨rfl, Ext.refl _⟩) | (refine (r05Bit_any _ _ _ HI4).mono ?_; rintro e w' ⟨rfl, rfl⟩; exact ⟨rfl, Ext.refl _⟩) | (refine (common_any _ _ _).mono ?_; rintro e w' ⟨rfl, rfl⟩; exact ⟨rfl, Ext.refl _⟩) | (refine (r05Common_any _ _ _).mono ?_; rintro e w' ⟨rfl, rfl⟩; exact ⟨rfl, Ext.refl _⟩))
      simp only [Act.put, List.setIfInBounds_toArray, List.set_cons_zero, List.set_cons_succ]
      refine WE_q 36 rfl (by decide) (by kernel_rfl) rfl ?_; apply Exists.intro; refine ⟨fun w1 hx1 => ?_, ?_⟩
      · have hq1 := hx1.cells; go_simp; try go_bits
        first | with_reducible rfl | (first | (refine (print_any x0 _ (HT4.out.later (by assumption))).mono ?_; rintro e w' ⟨rfl, hy⟩; exact ⟨rfl, hy⟩) | (refine (r05PrintU x0 _ (HT4.out.later (by assumption))).mono ?_; rintro e w' ⟨rfl, hy⟩; exact ⟨rfl, hy⟩) | (refine (bit_any _ _ _ HI4).mono ?_; rintro e w' ⟨rfl, rfl⟩; exact ⟨rfl, Ext.refl _⟩) | (refine (r05Bit_any _ _ _ HI4).mono ?_; rintro e w' ⟨rfl, rfl⟩; exact ⟨rfl, Ext.refl _⟩) | (refine (common_any _ _ _).mono ?_; rintro e w' ⟨rfl, rfl⟩; exact ⟨rfl, Ext.refl _⟩) | (refine (r05Common_any _ _ _).mono ?_; rintro e w' ⟨rfl, rfl⟩; exact ⟨rfl, Ext.refl _⟩))
      simp only [Act.put, List.setIfInBounds_toArray, List.set_cons_zero, List.set_cons_succ]
      refine WE_q 37 rfl (by decide) (by kernel_rfl) rfl ?_; apply Exists.intro; refine ⟨fun w1 hx1 => ?_, ?_⟩
      · have hq1 := hx1.cells; go_simp; try go_bits
        first | with_reducible rfl | (first | (refine (print_any x0 _ (HT4.out.later (by assumption))).mono ?_; rintro e w' ⟨rfl, hy⟩; exact ⟨rfl, hy⟩) | (refine (r05PrintU x0 _ (HT4.out.later (by assumption))).mono ?_; rintro e w' ⟨rfl, hy⟩; exact ⟨rfl, hy⟩) | (refine (bit_any _ _ _ HI4).mono ?_; rintro e w' ⟨rfl, rfl⟩; exact ⟨rfl, Ext.refl _⟩) | (refine (r05Bit_any _ _ _ HI4).mono ?_; rintro e w' ⟨rfl, rfl⟩; exact ⟨rfl, Ext.refl _⟩) | (refine (common_any _ _ _).mono ?_; rintro e w' ⟨rfl, rfl⟩; exact ⟨rfl, Ext.refl _⟩) | (refine (r05Common_any _ _ _).mono ?_; rintro e w' ⟨rfl, rfl⟩; exact ⟨rfl, Ext.refl _⟩))
      simp only [Act.put, List.setIfInBounds_toArray, List.set_cons_zero, List.set_cons_succ]
      refine WE_q 38 rfl (by decide) (by kernel_rfl) rfl ?_; apply Exists.intro; refine ⟨fun w1 hx1 => ?_, ?_⟩
      · have hq1 := hx1.cells; go_simp; try go_bits
        first | with_reducible rfl | (first | (refine (print_any x0 _ (HT4.out.later (by assumption))).mono ?_; rintro e w' ⟨rfl, hy⟩; exact ⟨rfl, hy⟩) | (refine (r05PrintU x0 _ (HT4.out.later (by assumption))).mono ?_; rintro e w' ⟨rfl, hy⟩; exact ⟨rfl, hy⟩) | (refine (bit_any _ _ _ HI4).mono ?_; rintro e w' ⟨rfl, rfl⟩; exact ⟨rfl, Ext.refl _⟩) | (refine (r05Bit_any _ _ _ HI4).mono ?_; rintro e w' ⟨rfl, rfl⟩; exact ⟨rfl, Ext.refl _⟩) | (refine (common_any _ _ _).mono ?_; rintro e w' ⟨rfl, rfl⟩; exact ⟨rfl, Ext.refl _⟩) | (refine (r05Common_any _ _ _).mono ?_; rintro e w' ⟨rfl, rfl⟩; exact ⟨rfl, Ext.refl _⟩))
      simp only [Act.put, List.setIfInBounds_toArray, List.set_cons_zero, List.set_cons_succ]
      refine WE_q 39 rfl (by decide) (by kernel_rfl) rfl ?_; apply Exists.intro; refine ⟨fun w1 hx1 => ?_, ?_⟩
      · have hq1 := hx1.cells; go_simp; try go_bits
        first | with_reducible rfl | (first | (refine (print_any x0 _ (HT4.out.later (by assumption))).mono ?_; rintro e w' ⟨rfl, hy⟩; exact ⟨rfl, hy⟩) | (refine (r05PrintU x0 _ (HT4.out.later (by assumption))).mono ?_; rintro e w' ⟨rfl, hy⟩; exact ⟨rfl, hy⟩) | (refine (bit_any _ _ _ HI4).mono ?_; rintro e w' ⟨rfl, rfl⟩; exact ⟨rfl, Ext.refl _⟩) | (refine (r05Bit_any _ _ _ HI4).mono ?_; rintro e w' ⟨rfl, rfl⟩; exact ⟨rfl, Ext.refl _⟩) | (refine (common_any _ _ _).mono ?_; rintro e w' ⟨rfl, rfl⟩; exact ⟨rfl, Ext.refl _⟩) | (refine (r05Common_any _ _ _).mono ?_; rintro e w' ⟨rfl, rfl⟩; exact ⟨rfl, Ext.refl _⟩))
      simp only [Act.put, List.setIfInBounds_toArray, List.set_cons_zero, List.set_cons_succ]
      refine WE_q 40 rfl (by decide) (by kernel_rfl) rfl ?_; apply Exists.intro; refine ⟨fun w1 hx1 => ?_, ?_⟩
      · have hq1 := hx1.cells; go_simp; try go_bits
        first | with_reducible rfl | (first | (refine (print_any x0 _ (HT4.out.later (by assumption))).mono ?_; rintro e w' ⟨rfl, hy⟩; exact ⟨rfl, hy⟩) | (refine (r05PrintU x0 _ (HT4.out.later (by assumption))).mono ?_; rintro e w' ⟨rfl, hy⟩; exact ⟨rfl, hy⟩) | (refine (bit_any _ _ _ HI4).mono ?_; rintro e w' ⟨rfl, rfl⟩; exact ⟨rfl, Ext.refl _⟩) | (refine (r05Bit_any _ _ _ HI4).mono ?_; rintro e w' ⟨rfl, rfl⟩; exact ⟨rfl, Ext.refl _⟩) | (refine (common_any _ _ _).mono ?_; rintro e w' ⟨rfl, rfl⟩; exact ⟨rfl, Ext.refl _⟩) | (refine (r05Common_any _ _ _).mono ?_; rintro e w' ⟨rfl, rfl⟩; exact ⟨rfl, Ext.refl _⟩))
      simp only [Act.put, List.setIfInBounds_toArray, List.set_cons_zero, List.set_cons_succ]
      refine WE_q 41 rfl (by decide) (by kernel_rfl) rfl ?_; apply Exists.intro; refine ⟨fun w1 hx1 => ?_, ?_⟩
      · have hq1 := hx1.cells; go_simp; try go_bits
        first | with_reducible rfl | (first | (refine (print_any x0 _ (HT4.out.later (by assumption))).mono ?_; rintro e w' ⟨rfl, hy⟩; exact ⟨rfl, hy⟩) | (refine (r05PrintU x0 _ (HT4.out.later (by assumption))).mono ?_; rintro e w' ⟨rfl, hy⟩; exact ⟨rfl, hy⟩) | (refine (bit_any _ _ _ HI4).mono ?_; rintro e w' ⟨rfl, rfl⟩; exact ⟨rfl, Ext.refl _⟩) | (refine (r05Bit_any _ _ _ HI4).mono ?_; rintro e w' ⟨rfl, rfl⟩; exact ⟨rfl, Ext.refl _⟩) | (refine (common_any _ _ _).mono ?_; rintro e w' ⟨rfl, rfl⟩; exact ⟨rfl, Ext.refl _⟩) | (refine (r05Common_any _ _ _).mono ?_; rintro e w' ⟨rfl, rfl⟩; exact ⟨rfl, Ext.refl _⟩))
      simp only [Act.put, List.setIfInBounds_toArray, List.set_cons_zero, List.set_cons_succ]
      refine WE_q 42 rfl (by decide) (by kernel_rfl) rfl ?_; apply Exists.intro; refine ⟨fun w1 hx1 => ?_, ?_⟩
      · have hq1 := hx1.cells; go_simp; try go_bits
        first | with_reducible rfl | (first | (refine (print_any x0 _ (HT4.out.later (by assumption))).mono ?_; rintro e w' ⟨rfl, hy⟩; exact ⟨rfl, hy⟩) | (refine (r05PrintU x0 _ (HT4.out.later (by assumption))).mono ?_; rintro e w' ⟨rfl, hy⟩; exact ⟨rfl, hy⟩) | (refine (bit_any _ _ _ HI4).mono ?_; rintro e w' ⟨rfl, rfl⟩; exact ⟨rfl, Ext.refl _⟩) | (refine (r05Bit_any _ _ _ HI4).mono ?_; rintro e w' ⟨rfl, rfl⟩; exact ⟨rfl, Ext.refl _⟩) | (refine (common_any _ _ _).mono ?_; rintro e w' ⟨rfl, rfl⟩; exact ⟨rfl, Ext.refl _⟩) | (refine (r05Common_any _ _ _).mono ?_; rintro e w' ⟨rfl, rfl⟩; exact ⟨rfl, Ext.refl _⟩))
      simp only [Act.put, List.setIfInBounds_toArray, List.set_cons_zero, List.set_cons_succ]
      refine WE_q 43 rfl (by decide) (by kernel_rfl) rfl ?_; apply Exists.intro; refine ⟨fun w1 hx1 => ?_, ?_⟩
      · have hq1 := hx1.cells; go_simp; try go_bits
        first | with_reducible rfl | (first | (refine (print_any x0 _ (HT4.out.later (by assumption))).mono ?_; rintro e w' ⟨rfl, hy⟩; exact ⟨rfl, hy⟩) | (refine (r05PrintU x0 _ (HT4.out.later (by assumption))).mono ?_; rintro e w' ⟨rfl, hy⟩; exact ⟨rfl, hy⟩) | (refine (bit_any _ _ _ HI4).mono ?_; rintro e w' ⟨rfl, rfl⟩; exact ⟨rfl, Ext.refl _⟩) | (refine (r05Bit_any _ _ _ HI4).mono ?_; rintro e w' ⟨rfl, rfl⟩; exact ⟨rfl, Ext.refl _⟩) | (refine (common_any _ _ _).mono ?_; rintro e w' ⟨rfl, rfl⟩; exact ⟨rfl, Ext.refl _⟩) | (refine (r05Common_any _ _ _).mono ?_; rintro e w' ⟨rfl, rfl⟩; exact ⟨rfl, Ext.refl _⟩))
      simp only [Act.put, List.setIfInBounds_toArray, List.set_cons_zero, List.set_cons_succ]
      refine WE_done (by kernel_rfl) (fun w5 hx5 => ?_)
      (try simp only [List.drop_succ_cons, List.drop_zero])
      go_wp2
      go_ret
      exact ⟨rfl, HX3.out.trans (hx.trans hx5)⟩
end Go.Proofs.YtfafoiglllfpgaaDoor
