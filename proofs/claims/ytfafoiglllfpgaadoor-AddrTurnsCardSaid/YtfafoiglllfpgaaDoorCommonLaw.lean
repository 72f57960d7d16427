/- The law PrefixCommon: the walk. Conditions: the library's table of powers of ten reads as it is laid. -/
import Derived.Test.YtfafoiglllfpgaaDoorMasks
namespace Go.Proofs.YtfafoiglllfpgaaDoor
open Go.RowKit

theorem holds_common (a b : BitVec 32) {k : Int} (h0 : 0 ≤ k) (h1 : k ≤ 32) : holdsV a k b = decide (k ≤ commonV a b) := by
  have hc := common_bd a b
  have hm := common_msb a b
  rw [Bool.eq_iff_iff, holds_iff, decide_eq_true_iff, clamp_of h0 h1]
  constructor
  · intro h
    rcases Int.lt_or_le (commonV a b) k with g | g
    · exact absurd (h (commonV a b).toNat (by omega)) (hm.2 (by omega))
    · exact g
  · intro h i hi
    exact hm.1 i (by omega)
theorem holdsC_any (a b : BitVec 32) (k : Int) (w : World) (h0 : 0 ≤ k) (h1 : k ≤ 32) : Calls Tryd.prog 19 #[U a, I k, U b] w fun e w' => e = .returned (.bool (decide (k ≤ commonV a b))) ∧ w = w' :=
  (holds_any a b k w (by unfold In64; omega)).mono fun _ _ ⟨he, hw⟩ => ⟨by rw [he, holds_common a b h0 h1], hw⟩
theorem holdsC'_any (a b : BitVec 32) (k : Int) (w : World) (h0 : 0 ≤ k) (h1 : k ≤ 32) : Calls Tryd.prog 19 #[U b, I k, U a] w fun e w' => e = .returned (.bool (decide (k ≤ commonV a b))) ∧ w = w' :=
  (holdsC_any b a k w h0 h1).mono fun _ _ ⟨he, hw⟩ => ⟨by rw [he, common_comm], hw⟩
theorem same_cut {a b : BitVec 32} {k : Int} (h0 : 0 ≤ k) (h1 : k ≤ 32) (h : k ≤ commonV a b) : (a &&& maskV k == b &&& maskV k) = true := by
  rw [← holds_same_mask, holds_common a b h0 h1, decide_eq_true h]
set_option maxRecDepth 100000 in
set_option maxHeartbeats 2000000 in
theorem prefixCommon_any (a b : BitVec 32) (n : Nat) (w : World) (hn : n < 256) (ht : Tab10 w) :
    Calls Tryd.prog 7 #[U a, U b, .int .u8 n] w fun e w' => e = .returned (.bool true) ∧ Ext w w' := by
  go_enter Tryd.func7, Tryd.ntmps7
  go_wp2_with (first
    | (go_at_call 16; with_reducible refine (shown06_any _ ht).mono ?_; rintro e w1 ⟨rfl, hx1⟩)
    | (go_at_call 26; with_reducible refine (common_any _ _ _).mono ?_; rintro e w' ⟨rfl, rfl⟩)
    | (go_at_call 19; with_reducible refine (holdsC_any a b _ _ (by omega) (by omega)).mono ?_; rintro e w' ⟨rfl, rfl⟩)
    | (go_at_call 19; with_reducible refine (holdsC'_any a b _ _ (by omega) (by omega)).mono ?_; rintro e w' ⟨rfl, rfl⟩)
    | (go_at_call 17; with_reducible refine (mask_any _ _ (in64_33 n)).mono ?_; rintro e w' ⟨rfl, rfl⟩))
  · have hle : (n : Int) % 33 ≤ commonV a b := by assumption
    go_ret
    refine ⟨ret_bool ?_, hx1⟩
    rw [same_cut (by omega) (by omega) hle, Bool.or_true]
  · go_ret
    exact ⟨rfl, hx1⟩
end Go.Proofs.YtfafoiglllfpgaaDoor
