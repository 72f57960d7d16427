/- How many first bits two addresses have alike. Conditions: none. -/
import Derived.Test.YtilaljdokpdcoaaPure2
import Derived.Test.YtilaljdokpdcoaaRegion
import Derived.Test.YtilaljdokpdcoaaShelf
namespace Go.Proofs.Ytilaljdokpdcoaa
open Go.RowKit

theorem uv_toNat (a : BitVec 32) : (uv a).toNat = a.toNat := by unfold uv; simp
def commonV (a b : BitVec 32) : Int := 32 - (Lib.bitLen (a ^^^ b).toNat : Int)
theorem bitLen_le (a : BitVec 32) : Lib.bitLen a.toNat ≤ 32 := by
  have := Any.bitLen_le32 (uv a) (uv_nonneg a) (by have := uv_lt a; omega)
  rwa [uv_toNat] at this
theorem common_bd (a b : BitVec 32) : 0 ≤ commonV a b ∧ commonV a b ≤ 32 := by
  have := bitLen_le (a ^^^ b)
  unfold commonV; omega
theorem common_any (a b : BitVec 32) (w : World) :
    Calls Try.prog 88 #[U a, U b] w fun e w' => e = .returned (I (commonV a b)) ∧ w = w' := by
  go_enter Try.func88, Try.ntmps88
  go_wp2_with (first | (go_at_call 102; refine (Try.bits_LeadingZeros32 (uv (a ^^^ b)) _ (uv_nonneg _) (by have := uv_lt (a ^^^ b); omega)).mono ?_; rintro e w' ⟨rfl, rfl⟩))
  go_ret
  exact ⟨ret_int (by unfold commonV; rw [← uv_toNat]), rfl⟩
end Go.Proofs.Ytilaljdokpdcoaa
