/- The reference's mask. Conditions: whole numbers are within 64 bits. -/
import Derived.Test.YtilaljdokpdcoaaPure2
namespace Go.Proofs.Ytilaljdokpdcoaa
open Go.RowKit

/-- The mask, bit by bit. -/
def mk (n : Int) : Nat → BitVec 32
  | 0 => 0#32
  | k + 1 => if (k : Int) < n then mk n k * 2#32 + 1#32 else mk n k * 2#32
theorem mk_clamp (n : Int) : ∀ k, k ≤ 32 → mk n k = mk (clamp n) k
  | 0, _ => rfl
  | k + 1, h => by
    have e : ((k : Int) < n) ↔ ((k : Int) < (clamp n : Int)) := by
      unfold clamp; split
      · omega
      · split <;> omega
    simp only [mk, mk_clamp n k (by omega), e]
theorem mk_all : ∀ c : Fin 33, mk (c.val : Int) 32 = BitVec.allOnes 32 <<< (32 - c.val) := by decide +kernel
theorem mk_mask (n : Int) : mk n 32 = maskV n := by
  rw [mk_clamp n 32 (by omega)]
  have := clamp_le n
  exact mk_all ⟨clamp n, by omega⟩
theorem r06Mask_any (n : Int) (w : World) (h : In64 n) :
    Calls Try.prog 83 #[I n] w fun e w' => e = .returned (U (maskV n)) ∧ w = w' := by
  obtain ⟨h0, h1⟩ := h
  go_enter Try.func83, Try.ntmps83
  go_wp2
  go_loop [3, 4] (fun m i => ∃ k : Nat, k ≤ 32 ∧ i = I k ∧ m = U (mk n k)) (fun _ i => 32 - (intOf i).toNat)
  case atStart => exact ⟨0, by omega, rfl, rfl⟩
  case round =>
    obtain ⟨k, hk, rfl, rfl⟩ := hrel
    by_cases hlt : k < 32
    · by_cases hn : (k : Int) < n
      · have H := Lib.hid (show mk n (k + 1) = mk n k * 2#32 + 1#32 by simp only [mk, hn, if_true])
        go_wp2
        go_round
        case rel => exact ⟨k + 1, by omega, by go_num, by rw [H.out]⟩
        case measure => simp [intOf]; omega
      · have H := Lib.hid (show mk n (k + 1) = mk n k * 2#32 by simp only [mk, hn, if_false])
        go_wp2
        go_round
        case rel => exact ⟨k + 1, by omega, by go_num, by rw [H.out]⟩
        case measure => simp [intOf]; omega
    · have H := Lib.hid (show mk n k = maskV n by rw [show k = 32 by omega, mk_mask])
      go_wp2
      go_ret
      exact ⟨ret_int (by rw [H.out]), rfl⟩
end Go.Proofs.Ytilaljdokpdcoaa
