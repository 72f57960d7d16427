/- What the functions on addresses and prefixes compute: each call's answer as a plain function, the world as it was. Conditions: whole numbers are within 64 bits. -/
import Derived.Test.YtilaljdokpdcoaaBase
namespace Go.Proofs.Ytilaljdokpdcoaa
open Go.RowKit

/-- A whole number of 64 bits. -/
def In64 (n : Int) : Prop := -9223372036854775808 ≤ n ∧ n ≤ 9223372036854775807

def clamp (n : Int) : Nat := if n < 0 then 0 else if 32 < n then 32 else n.toNat
def maskV (n : Int) : BitVec 32 := BitVec.allOnes 32 <<< (32 - clamp n)
theorem clamp_neg {n : Int} (h : n < 0) : clamp n = 0 := by simp [clamp, h]
theorem clamp_big {n : Int} (h : 32 < n) : clamp n = 32 := by unfold clamp; rw [if_neg (by omega), if_pos h]
theorem clamp_mid {n : Int} (h0 : 0 ≤ n) (h : n ≤ 32) : clamp n = n.toNat := by unfold clamp; rw [if_neg (by omega), if_neg (by omega)]
theorem clamp_le (n : Int) : clamp n ≤ 32 := by unfold clamp; split <;> (try split) <;> omega
theorem mask_val (k : Nat) : IntKind.u32.wrap (4294967295 * 2 ^ k) = uv (BitVec.allOnes 32 <<< k) := by
  rw [IntKind.wrap_u32']; unfold uv
  rw [BitVec.toNat_shiftLeft, Nat.shiftLeft_eq]; simp
theorem mask_val' (k : Nat) : (4294967295 : Int) * 2 ^ k % 4294967296 = uv (BitVec.allOnes 32 <<< k) := by
  rw [← mask_val, IntKind.wrap_u32']
theorem uv_0 : uv 0#32 = 0 := rfl
theorem uv_ones : uv (BitVec.allOnes 32) = 4294967295 := rfl
theorem maskV_zero : uv (maskV 0) = 0 := rfl
theorem maskV_full : uv (maskV 32) = 4294967295 := rfl
theorem maskV_neg {n : Int} (h : n < 0) : uv (maskV n) = 0 := by unfold maskV; rw [clamp_neg h]; rfl
theorem maskV_big {n : Int} (h : 32 < n) : uv (maskV n) = 4294967295 := by unfold maskV; rw [clamp_big h]; rfl

set_option maxHeartbeats 400000 in
theorem mask_any (n : Int) (w : World) (h : In64 n) :
    Calls Try.prog 35 #[I n] w fun e w' => e = .returned (U (maskV n)) ∧ w = w' := by
  obtain ⟨h0, h1⟩ := h
  by_cases hn : n < 0
  · have H := Lib.hid (maskV_neg hn)
    go_enter Try.func35, Try.ntmps35
    go_wp2
    go_ret
    exact ⟨ret_int H.out.symm, rfl⟩
  · by_cases hm : 32 < n
    · have H := Lib.hid (maskV_big hm)
      go_enter Try.func35, Try.ntmps35
      go_wp2
      go_ret
      exact ⟨ret_int H.out.symm, rfl⟩
    · have H := Lib.hid (show maskV n = BitVec.allOnes 32 <<< (32 - n).toNat by
        unfold maskV; rw [clamp_mid (by omega) (by omega), show 32 - n.toNat = (32 - n).toNat by omega])
      go_enter Try.func35, Try.ntmps35
      go_wp2
      go_ret
      exact ⟨ret_int (by rw [H.out, mask_val']), rfl⟩

def holdsV (a : BitVec 32) (n : Int) (b : BitVec 32) : Bool := ((a ^^^ b) &&& maskV n) == 0#32
theorem holds_any (a b : BitVec 32) (n : Int) (w : World) (h : In64 n) :
    Calls Try.prog 36 #[U a, I n, U b] w fun e w' => e = .returned (.bool (holdsV a n b)) ∧ w = w' := by
  go_enter Try.func36, Try.ntmps36
  go_wp2_with (go_at_call 35; refine (mask_any _ _ h).mono ?_; rintro e w' ⟨rfl, rfl⟩)
  go_ret
  exact ⟨rfl, rfl⟩

def lowV (a : BitVec 32) (n : Int) : BitVec 32 := a &&& maskV n
def highV (a : BitVec 32) (n : Int) : BitVec 32 := a ||| ~~~maskV n
theorem ends_any (a : BitVec 32) (n : Int) (w : World) (h : In64 n) :
    Calls Try.prog 31 #[U a, I n] w fun e w' => e = .returned (.tuple #[U (lowV a n), U (highV a n)]) ∧ w = w' := by
  go_enter Try.func31, Try.ntmps31
  go_wp2_with (go_at_call 35; refine (mask_any _ _ h).mono ?_; rintro e w' ⟨rfl, rfl⟩)
  go_outline
  go_ret2
  exact ⟨rfl, rfl⟩

def mayV (a : BitVec 32) (n : Int) : Int := if n < 0 ∨ 32 < n then 1 else if (a &&& ~~~maskV n) = 0#32 then 0 else 8
theorem may_any (a : BitVec 32) (n : Int) (w : World) (h : In64 n) :
    Calls Try.prog 62 #[U a, I n] w fun e w' => e = .returned (I (mayV a n)) ∧ w = w' := by
  have hb := h
  obtain ⟨h0, h1⟩ := h
  by_cases hn : n < 0
  · have H := Lib.hid (show mayV a n = 1 by unfold mayV; rw [if_pos (.inl hn)])
    go_enter Try.func62, Try.ntmps62
    go_wp2
    go_ret
    exact ⟨ret_int H.out.symm, rfl⟩
  · by_cases hm : 32 < n
    · have H := Lib.hid (show mayV a n = 1 by unfold mayV; rw [if_pos (.inr hm)])
      go_enter Try.func62, Try.ntmps62
      go_wp2
      go_ret
      exact ⟨ret_int H.out.symm, rfl⟩
    · by_cases hz : (a &&& ~~~maskV n) = 0#32
      · have H := Lib.hid (show mayV a n = 0 by unfold mayV; rw [if_neg (by omega), if_pos hz])
        have hz' : ((a &&& ~~~maskV n) != 0#32) = false := by simpa using hz
        clear hz
        go_enter Try.func62, Try.ntmps62
        go_wp2_with (go_at_call 35; refine (mask_any _ _ hb).mono ?_; rintro e w' ⟨rfl, rfl⟩)
        go_ret
        exact ⟨ret_int H.out.symm, rfl⟩
      · have H := Lib.hid (show mayV a n = 8 by unfold mayV; rw [if_neg (by omega), if_neg hz])
        have hz' : ((a &&& ~~~maskV n) != 0#32) = true := by simpa using hz
        clear hz
        go_enter Try.func62, Try.ntmps62
        go_wp2_with (go_at_call 35; refine (mask_any _ _ hb).mono ?_; rintro e w' ⟨rfl, rfl⟩)
        go_ret
        exact ⟨ret_int H.out.symm, rfl⟩

end Go.Proofs.Ytilaljdokpdcoaa
