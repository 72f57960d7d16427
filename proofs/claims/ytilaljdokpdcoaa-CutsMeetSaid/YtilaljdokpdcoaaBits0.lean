/- Plain facts on the bits of addresses, counted from the highest: masks, common bits. Conditions: none. -/
import Derived.Test.YtilaljdokpdcoaaCommon
namespace Go.Proofs.Ytilaljdokpdcoaa
open Go.RowKit

theorem mask_msb (n : Int) (i : Nat) : (maskV n).getMsbD i = decide (i < clamp n) := by
  have := clamp_le n
  unfold maskV
  rw [BitVec.getMsbD_shiftLeft, BitVec.getMsbD_allOnes]
  simp; omega
theorem msb_ext {a b : BitVec 32} (h : ∀ i, i < 32 → a.getMsbD i = b.getMsbD i) : a = b := BitVec.eq_of_getMsbD_eq h
theorem and_mask_eq (a b : BitVec 32) (n : Int) : (a &&& maskV n = b &&& maskV n) ↔ ∀ i, i < clamp n → a.getMsbD i = b.getMsbD i := by
  constructor
  · intro h i hi
    have := congrArg (fun x => BitVec.getMsbD x i) h
    simpa [mask_msb, hi] using this
  · intro h
    refine msb_ext fun i _ => ?_
    rw [BitVec.getMsbD_and, BitVec.getMsbD_and, mask_msb]
    by_cases hc : i < clamp n
    · rw [h i hc]
    · simp [hc]
theorem valid_iff (pa : BitVec 32) (n : Int) : (pa &&& maskV n = pa) ↔ ∀ i, clamp n ≤ i → pa.getMsbD i = false := by
  constructor
  · intro h i hi
    have := congrArg (fun x => BitVec.getMsbD x i) h
    simp only [BitVec.getMsbD_and, mask_msb] at this
    rw [← this, decide_eq_false (by omega), Bool.and_false]
  · intro h
    refine msb_ext fun i _ => ?_
    rw [BitVec.getMsbD_and, mask_msb]
    by_cases hc : i < clamp n
    · simp [hc]
    · rw [h i (by omega)]; simp
theorem xor_mask_zero (a b : BitVec 32) (n : Int) : ((a ^^^ b) &&& maskV n = 0#32) ↔ ∀ i, i < clamp n → a.getMsbD i = b.getMsbD i := by
  constructor
  · intro h i hi
    have := congrArg (fun x => BitVec.getMsbD x i) h
    simp only [BitVec.getMsbD_and, BitVec.getMsbD_xor, mask_msb, BitVec.getMsbD_zero, hi, decide_true, Bool.and_true] at this
    simpa using this
  · intro h
    refine msb_ext fun i _ => ?_
    simp only [BitVec.getMsbD_and, BitVec.getMsbD_xor, mask_msb, BitVec.getMsbD_zero]
    by_cases hc : i < clamp n
    · rw [h i hc]; simp
    · simp [hc]
theorem holds_iff (a b : BitVec 32) (n : Int) : holdsV a n b = true ↔ ∀ i, i < clamp n → a.getMsbD i = b.getMsbD i := by
  unfold holdsV; rw [beq_iff_eq, xor_mask_zero]
theorem bit_msb (a : BitVec 32) (i : Int) (h0 : 0 ≤ i) (h1 : i ≤ 31) : bitV a i = if a.getMsbD i.toNat then 1 else 0 := by
  have e : ((a >>> (31 - i).toNat) &&& 1#32) = if a.getMsbD i.toNat then 1#32 else 0#32 := by
    have hb : a.getMsbD i.toNat = a.getLsbD (31 - i).toNat := by
      rw [BitVec.getMsbD_eq_getLsbD, decide_eq_true (by omega), Bool.true_and]
      congr 1; omega
    rw [hb]
    apply BitVec.eq_of_getLsbD_eq
    intro j hj
    rw [BitVec.getLsbD_and, BitVec.getLsbD_ushiftRight]
    by_cases hz : j = 0
    · subst hz
      cases a.getLsbD ((31 - i).toNat + 0) <;> simp_all
    · have : (1#32).getLsbD j = false := by
        rw [BitVec.getLsbD_one]; simp [hz]
      rw [this, Bool.and_false]
      split
      · exact this.symm
      · simp
  unfold bitV
  rw [if_neg (by omega), e]
  split <;> rfl

theorem bitLen_bound : ∀ (k x : Nat), k ≤ 63 → Lib.bitLen x ≤ k → x < 2 ^ 64 → x < 2 ^ k
  | 0, x, _, h, hx => by
    rcases Nat.eq_zero_or_pos x with e | e
    · subst e; decide
    · rw [Lib.bitLen_half x (by omega) hx] at h; omega
  | k + 1, x, hk, h, hx => by
    rcases Nat.eq_zero_or_pos x with e | e
    · subst e; exact Nat.pow_pos (by omega)
    · rw [Lib.bitLen_half x (by omega) hx] at h
      have := bitLen_bound k (x / 2) (by omega) (by omega) (by omega)
      rw [Nat.pow_succ]; omega
/-- The first bits that two addresses have alike, and the one that they have not. -/
theorem common_msb (a b : BitVec 32) : (∀ i : Nat, (i : Int) < commonV a b → a.getMsbD i = b.getMsbD i) ∧ (commonV a b < 32 → a.getMsbD (commonV a b).toNat ≠ b.getMsbD (commonV a b).toNat) := by
  have hl := bitLen_le (a ^^^ b)
  have hx := (a ^^^ b).isLt
  have hu := bitLen_bound (Lib.bitLen (a ^^^ b).toNat) (a ^^^ b).toNat (by omega) (Nat.le_refl _) (by omega)
  constructor
  · intro i hi
    unfold commonV at hi
    have : (a ^^^ b).getMsbD i = false := by
      rw [BitVec.getMsbD_eq_getLsbD, BitVec.getLsbD, Nat.testBit_lt_two_pow (Nat.lt_of_lt_of_le hu (Nat.pow_le_pow_right (by omega) (by omega)))]
      simp
    rw [BitVec.getMsbD_xor] at this
    simpa using this
  · intro hc
    unfold commonV at hc ⊢
    have h1 : 1 ≤ Lib.bitLen (a ^^^ b).toNat := by omega
    have h2 : 2 ^ (Lib.bitLen (a ^^^ b).toNat - 1) ≤ (a ^^^ b).toNat := by
      rcases Nat.lt_or_ge (a ^^^ b).toNat (2 ^ (Lib.bitLen (a ^^^ b).toNat - 1)) with h | h
      · have := Lib.bitLen_le _ _ (by omega) h; omega
      · exact h
    have h3 : (a ^^^ b).getMsbD (32 - (Lib.bitLen (a ^^^ b).toNat : Int)).toNat = true := by
      rw [BitVec.getMsbD_eq_getLsbD, BitVec.getLsbD, decide_eq_true (by omega), Bool.true_and]
      rw [show 32 - 1 - (32 - (Lib.bitLen (a ^^^ b).toNat : Int)).toNat = Lib.bitLen (a ^^^ b).toNat - 1 by omega]
      exact Nat.testBit_of_two_pow_le_and_two_pow_add_one_gt h2 (by rw [show Lib.bitLen (a ^^^ b).toNat - 1 + 1 = Lib.bitLen (a ^^^ b).toNat by omega]; exact hu)
    rw [BitVec.getMsbD_xor] at h3
    intro e
    rw [e] at h3
    simp at h3
theorem common_bits (a b : BitVec 32) (h : commonV a b < 32) : bitV a (commonV a b) ≠ bitV b (commonV a b) := by
  have h1 := common_bd a b
  have h2 := (common_msb a b).2 h
  rw [bit_msb _ _ h1.1 (by omega), bit_msb _ _ h1.1 (by omega)]
  cases e1 : a.getMsbD (commonV a b).toNat <;> cases e2 : b.getMsbD (commonV a b).toNat <;> simp_all
theorem common_comm (a b : BitVec 32) : commonV a b = commonV b a := by unfold commonV; rw [BitVec.xor_comm]
theorem bit01 (a : BitVec 32) (i : Int) : bitV a i = 0 ∨ bitV a i = 1 := by
  unfold bitV
  split
  · exact .inl rfl
  · have : ((a >>> (31 - i).toNat) &&& 1#32) = 0#32 ∨ ((a >>> (31 - i).toNat) &&& 1#32) = 1#32 := by
      generalize a >>> (31 - i).toNat = x
      have h := BitVec.toNat_and x 1#32
      have h2 : x.toNat &&& (1#32).toNat = x.toNat % 2 := Nat.and_one_is_mod _
      rw [h2] at h
      rcases Nat.mod_two_eq_zero_or_one x.toNat with e | e
      · left; apply BitVec.eq_of_toNat_eq; rw [h, e]; rfl
      · right; apply BitVec.eq_of_toNat_eq; rw [h, e]; rfl
    rcases this with h | h
    · left; rw [h]; rfl
    · right; rw [h]; rfl
/-- A prefix that may be. -/
def Valid (pa : BitVec 32) (n : Int) : Prop := 0 ≤ n ∧ n ≤ 32 ∧ pa &&& maskV n = pa
theorem Valid.in64 {pa : BitVec 32} {n : Int} (h : Valid pa n) : In64 n := by obtain ⟨h1, h2, _⟩ := h; unfold In64; omega
theorem clamp_id {n : Int} (h0 : 0 ≤ n) (h1 : n ≤ 32) : (clamp n : Int) = n := by
  unfold clamp
  split
  · omega
  · split <;> omega
end Go.Proofs.Ytilaljdokpdcoaa
