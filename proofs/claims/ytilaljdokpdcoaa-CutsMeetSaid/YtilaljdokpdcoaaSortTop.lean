/- slices.Sort of numbers of 32 bits, at most twelve. Conditions: none. -/
import Derived.Test.YtilaljdokpdcoaaSortU
namespace Go.Proofs.Ytilaljdokpdcoaa
open Go Go.RowKit Go.Sort Go.Proofs

/-- How many numbers the proved part of the sort takes. -/
def SortCap (n : Nat) : Prop := n ≤ 12
theorem SortCap.lt {n : Nat} (h : SortCap n) : n < 4611686018427387904 := Nat.lt_of_le_of_lt h (by decide)
theorem pdq_small (d : Array Int) (a b limit : Nat) (wb wp : Bool) (h : b - a ≤ 12) : pdq ltInt d a b limit wb wp = insertionSort ltInt d a b := by rw [pdq, if_pos h]

set_option maxRecDepth 100000 in
set_option maxHeartbeats 1000000 in
theorem pdqTop_any (blk off cap N : Nat) (limit : Int) (d : Array Int) (w : World) (hS : Srt w blk off N d w) (hc : d.size ≤ 12) :
    Calls Try.prog 85 #[.slice (some ⟨blk, off, none⟩) d.size cap, .int .i64 0, .int .i64 d.size, .int .i64 limit] w fun e w' =>
      e = .returned (.tuple #[]) ∧ Srt w blk off N (insertionSort ltInt d 0 d.size) w' := by
  go_enter Try.func85, Try.ntmps85
  go_wp2
  refine wp_loop_once ?_
  go_wp2_with (go_at_call 90; refine (insSort_any blk off cap N 0 d.size d _ hS (Nat.zero_le _) (Nat.le_refl _) (by omega)).mono ?_; rintro e w' ⟨rfl, hS'⟩)
  refine bodyPost_ret (results_none rfl _ _ _) rfl ?_
  exact ⟨rfl, hS'⟩
theorem sortU_any (blk off cap N : Nat) (d : Array Int) (w : World) (hS : Srt w blk off N d w) (hc : SortCap d.size) :
    Calls Try.prog 72 #[.slice (some ⟨blk, off, none⟩) d.size cap] w fun e w' =>
      e = .returned (.tuple #[]) ∧ Srt w blk off N (sort ltInt d) w' := by
  have hc' : d.size ≤ 12 := hc
  have hs : sort ltInt d = insertionSort ltInt d 0 d.size := pdq_small _ _ _ _ _ _ (by omega)
  rw [hs]
  go_enter Try.func72, Try.ntmps72
  go_wp2_with (first
    | (go_at_call 86; refine (Try.bits_Len _ _ (by omega) (by omega)).mono ?_; rintro e w' ⟨rfl, rfl⟩)
    | (go_at_call 85; refine (pdqTop_any blk off cap N _ d _ hS hc').mono ?_; rintro e w' ⟨rfl, hS'⟩))
  go_end0
  exact ⟨rfl, hS'⟩
set_option maxRecDepth 100000 in
set_option maxHeartbeats 1000000 in
theorem insNil_any (p : Option Addr) (cap : Nat) (w : World) :
    Calls Try.prog 90 #[.slice p 0 cap, .int .i64 0, .int .i64 0] w fun e w' => e = .returned (.tuple #[]) ∧ w' = w := by
  go_enter Try.func90, Try.ntmps90
  go_wp2
  refine wp_loop_once ?_
  go_wp2
  go_end0
  exact ⟨rfl, rfl⟩
set_option maxRecDepth 100000 in
set_option maxHeartbeats 1000000 in
theorem pdqNil_any (p : Option Addr) (cap : Nat) (limit : Int) (w : World) :
    Calls Try.prog 85 #[.slice p 0 cap, .int .i64 0, .int .i64 0, .int .i64 limit] w fun e w' => e = .returned (.tuple #[]) ∧ w' = w := by
  go_enter Try.func85, Try.ntmps85
  go_wp2
  refine wp_loop_once ?_
  go_wp2_with (go_at_call 90; refine (insNil_any p cap _).mono ?_; rintro e w' ⟨rfl, rfl⟩)
  refine bodyPost_ret (results_none rfl _ _ _) rfl ?_
  exact ⟨rfl, rfl⟩
theorem sortU_nil (p : Option Addr) (cap : Nat) (w : World) :
    Calls Try.prog 72 #[.slice p 0 cap] w fun e w' => e = .returned (.tuple #[]) ∧ w' = w := by
  have hb : Lib.bitLen 0 = 0 := by decide
  go_enter Try.func72, Try.ntmps72
  go_wp2_with (first
    | (go_at_call 86; refine (Try.bits_Len 0 _ (by omega) (by omega)).mono ?_; rintro e w' ⟨rfl, rfl⟩)
    | (go_at_call 85; refine (pdqNil_any p cap _ _).mono ?_; rintro e w' ⟨rfl, rfl⟩))
  go_end0
  exact ⟨rfl, rfl⟩
end Go.Proofs.Ytilaljdokpdcoaa
