/- The law PrefixMasks: the walk. Conditions: the library's table of powers of ten reads as it is laid. -/
import Derived.Test.YtfafoiglllfpgaaDoorPrefLaw
namespace Go.Proofs.YtfafoiglllfpgaaDoor
open Go.RowKit

theorem holds_same_mask (a b : BitVec 32) (n : Int) : holdsV a n b = (a &&& maskV n == b &&& maskV n) := by
  rw [Bool.eq_iff_iff, holds_iff, beq_iff_eq, and_mask_eq]
theorem mask_0 : maskV 0 = 0#32 := rfl
theorem mask_32 : maskV 32 = BitVec.allOnes 32 := rfl
theorem mask_m1 : maskV (-1) = 0#32 := rfl
theorem mask_33 : maskV 33 = BitVec.allOnes 32 := rfl
theorem holds0_any (a b : BitVec 32) (w : World) : Calls Tryd.prog 19 #[U a, I 0, U b] w fun e w' => e = .returned (.bool true) ∧ w = w' :=
  (holds_any a b 0 w (by unfold In64; omega)).mono fun _ _ ⟨he, hw⟩ => ⟨by rw [he, holds_same_mask, mask_0]; simp, hw⟩
theorem holdsM1_any (a b : BitVec 32) (w : World) : Calls Tryd.prog 19 #[U a, I (-1), U b] w fun e w' => e = .returned (.bool true) ∧ w = w' :=
  (holds_any a b (-1) w (by unfold In64; omega)).mono fun _ _ ⟨he, hw⟩ => ⟨by rw [he, holds_same_mask, mask_m1]; simp, hw⟩
theorem holds32_any (a b : BitVec 32) (w : World) : Calls Tryd.prog 19 #[U a, I 32, U b] w fun e w' => e = .returned (.bool (a == b)) ∧ w = w' :=
  (holds_any a b 32 w (by unfold In64; omega)).mono fun _ _ ⟨he, hw⟩ => ⟨by rw [he, holds_same_mask, mask_32, BitVec.and_allOnes, BitVec.and_allOnes], hw⟩
theorem holds33_any (a b : BitVec 32) (w : World) : Calls Tryd.prog 19 #[U a, I 33, U b] w fun e w' => e = .returned (.bool (a == b)) ∧ w = w' :=
  (holds_any a b 33 w (by unfold In64; omega)).mono fun _ _ ⟨he, hw⟩ => ⟨by rw [he, holds_same_mask, mask_33, BitVec.and_allOnes, BitVec.and_allOnes], hw⟩
theorem holdsN_any (a b : BitVec 32) (n : Int) (w : World) (h : In64 n) : Calls Tryd.prog 19 #[U a, I n, U b] w fun e w' => e = .returned (.bool (a &&& maskV n == b &&& maskV n)) ∧ w = w' :=
  (holds_any a b n w h).mono fun _ _ ⟨he, hw⟩ => ⟨by rw [he, holds_same_mask], hw⟩
theorem high_0 (a : BitVec 32) : highV a 0 = BitVec.allOnes 32 := by
  refine msb_ext fun i hi => ?_
  rw [high_msb a 0 hi, BitVec.getMsbD_allOnes, show clamp 0 = 0 from rfl]
  simp [hi]
theorem low_0 (a : BitVec 32) : lowV a 0 = 0#32 := by unfold lowV; rw [mask_0]; simp
theorem ends0_any (a : BitVec 32) (w : World) : Calls Tryd.prog 18 #[U a, I 0] w fun e w' => e = .returned (.tuple #[.int .u32 0, .int .u32 4294967295]) ∧ w = w' :=
  (ends_any a 0 w (by unfold In64; omega)).mono fun _ _ ⟨he, hw⟩ => ⟨by rw [he, low_0, high_0]; rfl, hw⟩
theorem ends32_any (a : BitVec 32) (w : World) : Calls Tryd.prog 18 #[U a, I 32] w fun e w' => e = .returned (.tuple #[U a, U a]) ∧ w = w' :=
  (ends_any a 32 w (by unfold In64; omega)).mono fun _ _ ⟨he, hw⟩ => ⟨by rw [he]; unfold lowV highV; rw [mask_32, BitVec.and_allOnes, BitVec.not_allOnes, BitVec.or_zero], hw⟩
theorem mask_bit (n : Int) {k : Nat} (hk : k < 32) : bitV (maskV n) k = if (k : Int) < n then 1 else 0 := by
  rw [bit_nat _ hk, mask_msb]
  by_cases h : (k : Int) < n
  · rw [if_pos h, decide_eq_true ((clamp_lt hk).2 h)]; rfl
  · rw [if_neg h, decide_eq_false (fun g => h ((clamp_lt hk).1 g))]; rfl
set_option maxRecDepth 100000 in
set_option maxHeartbeats 2000000 in
theorem prefixMasks_any (n : Int) (a b : BitVec 32) (w : World) (hn : In64 n) (ht : Tab10 w) :
    Calls Tryd.prog 4 #[I n, U a, U b] w fun e w' => e = .returned (.bool true) ∧ Ext w w' := by
  have HN := Lib.hid hn
  have hnn := hn
  obtain ⟨n0, n1⟩ := hnn
  go_enter Tryd.func4, Tryd.ntmps4
  go_wp2_with (first
    | (go_at_call 16; with_reducible refine (shown06_any _ ht).mono ?_; rintro e w1 ⟨rfl, hx1⟩)
    | (go_at_call 17; with_reducible refine (mask_any _ _ hn).mono ?_; rintro e w' ⟨rfl, rfl⟩))
  clear hn
  go_loop [9] (fun i => ∃ k : Nat, k ≤ 32 ∧ i = I k) (fun i => 32 - (intOf i).toNat)
  case atStart => exact ⟨0, by omega, rfl⟩
  case round =>
    obtain ⟨k, hk, rfl⟩ := hrel
    by_cases hlt : k < 32
    · have hin : In64 k := by unfold In64; omega
      have hb := mask_bit n hlt
      by_cases hkn : (k : Int) < n
      · rw [if_pos hkn] at hb
        go_wp2_with (first | (go_at_call 20; with_reducible refine (bit_any _ _ _ hin).mono ?_; rintro e w' ⟨rfl, rfl⟩))
        go_round
        case rel => exact ⟨k + 1, by omega, by go_num⟩
        case measure => simp [intOf]; omega
      · rw [if_neg hkn] at hb
        go_wp2_with (first | (go_at_call 20; with_reducible refine (bit_any _ _ _ hin).mono ?_; rintro e w' ⟨rfl, rfl⟩))
        go_round
        case rel => exact ⟨k + 1, by omega, by go_num⟩
        case measure => simp [intOf]; omega
    · go_wp2_with (first
        | (go_at_call 18; with_reducible refine (ends0_any _ _).mono ?_; rintro e w' ⟨rfl, rfl⟩)
        | (go_at_call 18; with_reducible refine (ends32_any _ _).mono ?_; rintro e w' ⟨rfl, rfl⟩)
        | (go_at_call 19; with_reducible refine (holds0_any _ _ _).mono ?_; rintro e w' ⟨rfl, rfl⟩)
        | (go_at_call 19; with_reducible refine (holdsM1_any _ _ _).mono ?_; rintro e w' ⟨rfl, rfl⟩)
        | (go_at_call 19; with_reducible refine (holds32_any _ _ _).mono ?_; rintro e w' ⟨rfl, rfl⟩)
        | (go_at_call 19; with_reducible refine (holds33_any _ _ _).mono ?_; rintro e w' ⟨rfl, rfl⟩)
        | (go_at_call 19; with_reducible refine (holdsN_any _ _ _ _ HN.out).mono ?_; rintro e w' ⟨rfl, rfl⟩))
      go_ways
      go_ret
      exact ⟨rfl, hx1⟩
end Go.Proofs.YtfafoiglllfpgaaDoor
