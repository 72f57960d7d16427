/- Plain facts on prefixes as numbers (PrefLaw's, free of the seat). Conditions: none. -/
import Derived.Test.YtilaljdokpdcoaaRef06a
namespace Go.Proofs.Ytilaljdokpdcoaa
open Go.RowKit

/-- The first bits of an address, all others 0. -/
def cutV (a : BitVec 32) (n : Int) : BitVec 32 := a &&& maskV n
theorem cut_msb (a : BitVec 32) (n : Int) (i : Nat) : (cutV a n).getMsbD i = (a.getMsbD i && decide (i < clamp n)) := low_msb a n i
theorem cut_valid (a : BitVec 32) (n : Int) : cutV a n &&& maskV n = cutV a n := by
  unfold cutV; rw [BitVec.and_assoc, BitVec.and_self]
/-- The mask as a number. -/
theorem mask_nat (n : Int) : (maskV n).toNat = 2 ^ 32 - 2 ^ (32 - clamp n) := by
  have h := clamp_le n
  unfold maskV
  generalize clamp n = c at *
  have : ∀ c : Fin 33, (BitVec.allOnes 32 <<< (32 - c.val)).toNat = 2 ^ 32 - 2 ^ (32 - c.val) := by decide +kernel
  exact this ⟨c, by omega⟩
theorem low_nat (a : BitVec 32) (n : Int) : (lowV a n).toNat = a.toNat / 2 ^ (32 - clamp n) * 2 ^ (32 - clamp n) := by
  have e : lowV a n = (a >>> (32 - clamp n)) <<< (32 - clamp n) := by
    refine msb_ext fun i hi => ?_
    have hc := clamp_le n
    rw [low_msb, BitVec.getMsbD_shiftLeft, BitVec.getMsbD_ushiftRight]
    by_cases h : i < clamp n
    · have h1 : ¬ (i + (32 - clamp n) < 32 - clamp n) := by omega
      have h2 : i + (32 - clamp n) < 32 := by omega
      have h3 : i + (32 - clamp n) - (32 - clamp n) = i := by omega
      simp [h, h2, h3]
    · have h2 : ¬ i + (32 - clamp n) < 32 := by omega
      simp [h, h2]
  rw [e, BitVec.toNat_shiftLeft, BitVec.toNat_ushiftRight, Nat.shiftRight_eq_div_pow, Nat.shiftLeft_eq]
  apply Nat.mod_eq_of_lt
  have := Nat.div_mul_le_self a.toNat (2 ^ (32 - clamp n))
  have := a.isLt
  omega
theorem high_nat (a : BitVec 32) (n : Int) : (highV a n).toNat = a.toNat / 2 ^ (32 - clamp n) * 2 ^ (32 - clamp n) + (2 ^ (32 - clamp n) - 1) := by
  have e : highV a n = lowV a n ||| (BitVec.allOnes 32 >>> clamp n) := by
    refine msb_ext fun i hi => ?_
    have hc := clamp_le n
    rw [high_msb a n hi, BitVec.getMsbD_or, low_msb, BitVec.getMsbD_ushiftRight, BitVec.getMsbD_allOnes]
    by_cases h : i < clamp n
    · simp [h]
    · have : i - clamp n < 32 := by omega
      simp [h, this, hi]
  have hc := clamp_le n
  have h1 : (BitVec.allOnes 32 >>> clamp n).toNat = 2 ^ (32 - clamp n) - 1 := by
    generalize clamp n = c at *
    have : ∀ c : Fin 33, (BitVec.allOnes 32 >>> c.val).toNat = 2 ^ (32 - c.val) - 1 := by decide +kernel
    exact this ⟨c, by omega⟩
  rw [e, BitVec.toNat_or, h1, low_nat]
  have h2 := Nat.two_pow_pos (32 - clamp n)
  have := Nat.shiftLeft_add_eq_or_of_lt (b := 2 ^ (32 - clamp n) - 1) (i := 32 - clamp n) (by omega) (a.toNat / 2 ^ (32 - clamp n))
  rw [Nat.shiftLeft_eq] at this
  exact this.symm
/-- A prefix holds an address just if its bits, read as a number, are the same. -/
theorem holds_nat (a b : BitVec 32) (n : Int) : holdsV a n b = true ↔ a.toNat / 2 ^ (32 - clamp n) = b.toNat / 2 ^ (32 - clamp n) := by
  have h1 : holdsV a n b = true ↔ lowV a n = lowV b n := by
    rw [holds_iff]
    unfold lowV
    rw [and_mask_eq]
  rw [h1]
  constructor
  · intro h
    have := congrArg BitVec.toNat h
    rw [low_nat, low_nat] at this
    exact Nat.eq_of_mul_eq_mul_right (Nat.two_pow_pos _) this
  · intro h
    apply BitVec.eq_of_toNat_eq
    rw [low_nat, low_nat, h]
/-- An address is held just if it is between the ends. -/
theorem holds_ends (a b : BitVec 32) (n : Int) : holdsV a n b = true ↔ (lowV a n).toNat ≤ b.toNat ∧ b.toNat ≤ (highV a n).toNat := by
  rw [holds_nat, low_nat, high_nat]
  have h := Nat.two_pow_pos (32 - clamp n)
  generalize 2 ^ (32 - clamp n) = s at *
  have h1 := Nat.div_add_mod b.toNat s
  have h2 := Nat.mod_lt b.toNat h
  constructor
  · intro e
    rw [e, Nat.mul_comm]
    omega
  · rintro ⟨g1, g2⟩
    refine Nat.le_antisymm ?_ ?_
    · exact (Nat.le_div_iff_mul_le h).2 g1
    · exact Nat.le_of_lt_succ ((Nat.div_lt_iff_lt_mul h).2 (by rw [Nat.succ_mul]; omega))
theorem ends_le (a : BitVec 32) (n : Int) : (lowV a n).toNat ≤ a.toNat ∧ a.toNat ≤ (highV a n).toNat := (holds_ends a a n).1 ((holds_nat a a n).2 rfl)
theorem clamp_of {n : Int} (h0 : 0 ≤ n) (h1 : n ≤ 32) : clamp n = n.toNat := clamp_mid h0 h1
/-- Of two prefixes, the first one not longer: the longer one lies within, or apart. -/
theorem nest (p q : BitVec 32) {m k : Int} (h : clamp m ≤ clamp k) :
    (highV p m).toNat < (lowV q k).toNat ∨ (highV q k).toNat < (lowV p m).toNat ∨ ((lowV p m).toNat ≤ (lowV q k).toNat ∧ (highV q k).toNat ≤ (highV p m).toNat) := by
  rw [low_nat, low_nat, high_nat, high_nat]
  have hk := clamp_le k
  obtain ⟨d, hd⟩ : ∃ d, 32 - clamp m = (32 - clamp k) + d := ⟨clamp k - clamp m, by omega⟩
  rw [hd, Nat.pow_add]
  have h1 := Nat.two_pow_pos (32 - clamp k)
  have h2 := Nat.two_pow_pos d
  generalize 2 ^ (32 - clamp k) = s at *
  generalize 2 ^ d = t at *
  have e : p.toNat / (s * t) * (s * t) = p.toNat / (s * t) * t * s := by rw [Nat.mul_assoc, Nat.mul_comm t s]
  rw [e]
  generalize p.toNat / (s * t) * t = P at *
  generalize q.toNat / s = Q at *
  rcases Nat.lt_or_ge Q P with g | g
  · right; left
    have : (Q + 1) * s ≤ P * s := Nat.mul_le_mul_right _ g
    rw [Nat.succ_mul] at this; omega
  · rcases Nat.lt_or_ge Q (P + t) with g2 | g2
    · right; right
      refine ⟨Nat.mul_le_mul_right _ g, ?_⟩
      have : (Q + 1) * s ≤ (P + t) * s := Nat.mul_le_mul_right _ g2
      rw [Nat.succ_mul, Nat.add_mul, Nat.mul_comm t s] at this
      have := Nat.mul_pos h1 h2
      omega
    · left
      have : (P + t) * s ≤ Q * s := Nat.mul_le_mul_right _ g2
      rw [Nat.add_mul, Nat.mul_comm t s] at this
      have := Nat.mul_pos h1 h2
      omega
theorem nest_int (p q : BitVec 32) {m k : Int} (hm : 0 ≤ m ∧ m ≤ 32) (hk : 0 ≤ k ∧ k ≤ 32) (h : m ≤ k) :
    uv (highV p m) < uv (lowV q k) ∨ uv (highV q k) < uv (lowV p m) ∨ (uv (lowV p m) ≤ uv (lowV q k) ∧ uv (highV q k) ≤ uv (highV p m)) := by
  have := nest p q (m := m) (k := k) (by rw [clamp_of hm.1 hm.2, clamp_of hk.1 hk.2]; omega)
  unfold uv; omega
theorem ends_int (p : BitVec 32) (m : Int) : uv (lowV p m) ≤ uv (highV p m) := by have := ends_le p m; unfold uv; omega
theorem holds_int {p a : BitVec 32} {m : Int} (h : holdsV p m a = true) : uv (lowV p m) ≤ uv a ∧ uv a ≤ uv (highV p m) := by
  have := (holds_ends p a m).1 h; unfold uv; omega
end Go.Proofs.Ytilaljdokpdcoaa
