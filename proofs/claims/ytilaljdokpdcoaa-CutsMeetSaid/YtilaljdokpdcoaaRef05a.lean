/- The reference of addresses: bits, how many are alike. Conditions: whole numbers are within 64 bits. -/
import Derived.Test.YtilaljdokpdcoaaBits0
namespace Go.Proofs.Ytilaljdokpdcoaa
open Go.RowKit

theorem r05Bit_any (a : BitVec 32) (i : Int) (w : World) (h : In64 i) :
    Calls Try.prog 74 #[U a, I i] w fun e w' => e = .returned (I (bitV a i)) ∧ w = w' := by
  obtain ⟨h0, h1⟩ := h
  by_cases hn : i < 0
  · have H := Lib.hid (show bitV a i = 0 by unfold bitV; rw [if_pos (.inl hn)])
    go_enter Try.func74, Try.ntmps74
    go_wp2
    go_ret
    exact ⟨ret_int H.out.symm, rfl⟩
  · by_cases hm : 31 < i
    · have H := Lib.hid (show bitV a i = 0 by unfold bitV; rw [if_pos (.inr hm)])
      go_enter Try.func74, Try.ntmps74
      go_wp2
      go_ret
      exact ⟨ret_int H.out.symm, rfl⟩
    · have H := Lib.hid (show bitV a i = uv ((a >>> (31 - i).toNat) &&& 1#32) by unfold bitV; rw [if_neg (by omega)])
      go_enter Try.func74, Try.ntmps74
      go_wp2
      go_ret
      exact ⟨ret_int H.out.symm, rfl⟩

theorem bit_nat (a : BitVec 32) {k : Nat} (hk : k < 32) : bitV a k = if a.getMsbD k then 1 else 0 := by
  rw [bit_msb a k (by omega) (by omega), Int.toNat_natCast]
theorem bit_same {a b : BitVec 32} {k : Nat} (hk : k < 32) : bitV a k = bitV b k ↔ a.getMsbD k = b.getMsbD k := by
  rw [bit_nat a hk, bit_nat b hk]
  cases a.getMsbD k <;> cases b.getMsbD k <;> simp
theorem common_le_of {a b : BitVec 32} {k : Nat} (hk : k ≤ 32) (h : ∀ i : Nat, i < k → bitV a i = bitV b i) (he : k = 32 ∨ bitV a k ≠ bitV b k) : commonV a b = k := by
  have hb := common_bd a b
  have hm := common_msb a b
  rcases Int.lt_trichotomy (commonV a b) k with g | g | g
  · exfalso
    have h1 := hm.2 (by omega)
    have h2 := h (commonV a b).toNat (by omega)
    exact h1 ((bit_same (by omega)).1 h2)
  · exact g
  · exfalso
    rcases he with e | e
    · omega
    · exact e ((bit_same (by omega)).2 (hm.1 k (by omega)))
theorem below_snoc {P : Nat → Prop} {k : Nat} (h : ∀ j : Nat, j < k → P j) (hk : P k) : ∀ j : Nat, j < k + 1 → P j := fun j hj => by
  rcases Nat.lt_or_eq_of_le (Nat.le_of_lt_succ hj) with g | g
  · exact h j g
  · subst g; exact hk
end Go.Proofs.Ytilaljdokpdcoaa
