/- Common, Bits0, Ref05a, Ref06a, Ref06b: these texts in one. Conditions: each part names its own. -/
import Derived.Test.YtdpmnldmbnpfpaaDoorGBase
import Derived.Shelf.Small.Bits
import Derived.Test.YtdpmnldmbnpfpaaDoorShelf
/- How many first bits two addresses have alike. Conditions: none. -/
namespace Go.Proofs.YtdpmnldmbnpfpaaDoor
open Go.RowKit

theorem uv_toNat (a : BitVec 32) : (uv a).toNat = a.toNat := by unfold uv; simp
def commonV (a b : BitVec 32) : Int := 32 - (Lib.bitLen (a ^^^ b).toNat : Int)
theorem bitLen_le (a : BitVec 32) : Lib.bitLen a.toNat ≤ 32 := by
  have := Any.bitLen_le32 (uv a) (uv_nonneg a) (by have := uv_lt a; omega)
  rwa [uv_toNat] at this
theorem common_bd (a b : BitVec 32) : 0 ≤ commonV a b ∧ commonV a b ≤ 32 := by
  have := bitLen_le (a ^^^ b)
  unfold commonV; omega
end Go.Proofs.YtdpmnldmbnpfpaaDoor

/- Plain facts on the bits of addresses, counted from the highest: masks, common bits. Conditions: none. -/
namespace Go.Proofs.YtdpmnldmbnpfpaaDoor
open Go.RowKit

theorem mask_msb (n : Int) (i : Nat) : (maskV n).getMsbD i = decide (i < clamp n) := by
  have := clamp_le n
  unfold maskV
  rw [BitVec.getMsbD_shiftLeft, BitVec.getMsbD_allOnes]
  simp; omega
theorem msb_ext {a b : BitVec 32} (h : ∀ i, i < 32 → a.getMsbD i = b.getMsbD i) : a = b := BitVec.eq_of_getMsbD_eq h
theorem and_mask_eq (a b : BitVec 32) (n : Int) : (a &&& maskV n = b &&& maskV n) ↔ ∀ i, i < clamp n → a.getMsbD i = b.getMsbD i := by
  constructor
  · intro h i hi
    have := congrArg (fun x => BitVec.getMsbD x i) h
    simpa [mask_msb, hi] using this
  · intro h
    refine msb_ext fun i _ => ?_
    rw [BitVec.getMsbD_and, BitVec.getMsbD_and, mask_msb]
    by_cases hc : i < clamp n
    · rw [h i hc]
    · simp [hc]
theorem valid_iff (pa : BitVec 32) (n : Int) : (pa &&& maskV n = pa) ↔ ∀ i, clamp n ≤ i → pa.getMsbD i = false := by
  constructor
  · intro h i hi
    have := congrArg (fun x => BitVec.getMsbD x i) h
    simp only [BitVec.getMsbD_and, mask_msb] at this
    rw [← this, decide_eq_false (by omega), Bool.and_false]
  · intro h
    refine msb_ext fun i _ => ?_
    rw [BitVec.getMsbD_and, mask_msb]
    by_cases hc : i < clamp n
    · simp [hc]
    · rw [h i (by omega)]; simp
theorem xor_mask_zero (a b : BitVec 32) (n : Int) : ((a ^^^ b) &&& maskV n = 0#32) ↔ ∀ i, i < clamp n → a.getMsbD i = b.getMsbD i := by
  constructor
  · intro h i hi
    have := congrArg (fun x => BitVec.getMsbD x i) h
    simp only [BitVec.getMsbD_and, BitVec.getMsbD_xor, mask_msb, BitVec.getMsbD_zero, hi, decide_true, Bool.and_true] at this
    simpa using this
  · intro h
    refine msb_ext fun i _ => ?_
    simp only [BitVec.getMsbD_and, BitVec.getMsbD_xor, mask_msb, BitVec.getMsbD_zero]
    by_cases hc : i < clamp n
    · rw [h i hc]; simp
    · simp [hc]
theorem holds_iff (a b : BitVec 32) (n : Int) : holdsV a n b = true ↔ ∀ i, i < clamp n → a.getMsbD i = b.getMsbD i := by
  unfold holdsV; rw [beq_iff_eq, xor_mask_zero]
theorem bit_msb (a : BitVec 32) (i : Int) (h0 : 0 ≤ i) (h1 : i ≤ 31) : bitV a i = if a.getMsbD i.toNat then 1 else 0 := by
  have e : ((a >>> (31 - i).toNat) &&& 1#32) = if a.getMsbD i.toNat then 1#32 else 0#32 := by
    have hb : a.getMsbD i.toNat = a.getLsbD (31 - i).toNat := by
      rw [BitVec.getMsbD_eq_getLsbD, decide_eq_true (by omega), Bool.true_and]
      congr 1; omega
    rw [hb]
    apply BitVec.eq_of_getLsbD_eq
    intro j hj
    rw [BitVec.getLsbD_and, BitVec.getLsbD_ushiftRight]
    by_cases hz : j = 0
    · subst hz
      cases a.getLsbD ((31 - i).toNat + 0) <;> simp_all
    · have : (1#32).getLsbD j = false := by
        rw [BitVec.getLsbD_one]; simp [hz]
      rw [this, Bool.and_false]
      split
      · exact this.symm
      · simp
  unfold bitV
  rw [if_neg (by omega), e]
  split <;> rfl

theorem bitLen_bound : ∀ (k x : Nat), k ≤ 63 → Lib.bitLen x ≤ k → x < 2 ^ 64 → x < 2 ^ k
  | 0, x, _, h, hx => by
    rcases Nat.eq_zero_or_pos x with e | e
    · subst e; decide
    · rw [Lib.bitLen_half x (by omega) hx] at h; omega
  | k + 1, x, hk, h, hx => by
    rcases Nat.eq_zero_or_pos x with e | e
    · subst e; exact Nat.pow_pos (by omega)
    · rw [Lib.bitLen_half x (by omega) hx] at h
      have := bitLen_bound k (x / 2) (by omega) (by omega) (by omega)
      rw [Nat.pow_succ]; omega
/-- The first bits that two addresses have alike, and the one that they have not. -/
theorem common_msb (a b : BitVec 32) : (∀ i : Nat, (i : Int) < commonV a b → a.getMsbD i = b.getMsbD i) ∧ (commonV a b < 32 → a.getMsbD (commonV a b).toNat ≠ b.getMsbD (commonV a b).toNat) := by
  have hl := bitLen_le (a ^^^ b)
  have hx := (a ^^^ b).isLt
  have hu := bitLen_bound (Lib.bitLen (a ^^^ b).toNat) (a ^^^ b).toNat (by omega) (Nat.le_refl _) (by omega)
  constructor
  · intro i hi
    unfold commonV at hi
    have : (a ^^^ b).getMsbD i = false := by
      rw [BitVec.getMsbD_eq_getLsbD, BitVec.getLsbD, Nat.testBit_lt_two_pow (Nat.lt_of_lt_of_le hu (Nat.pow_le_pow_right (by omega) (by omega)))]
      simp
    rw [BitVec.getMsbD_xor] at this
    simpa using this
  · intro hc
    unfold commonV at hc ⊢
    have h1 : 1 ≤ Lib.bitLen (a ^^^ b).toNat := by omega
    have h2 : 2 ^ (Lib.bitLen (a ^^^ b).toNat - 1) ≤ (a ^^^ b).toNat := by
      rcases Nat.lt_or_ge (a ^^^ b).toNat (2 ^ (Lib.bitLen (a ^^^ b).toNat - 1)) with h | h
      · have := Lib.bitLen_le _ _ (by omega) h; omega
      · exact h
    have h3 : (a ^^^ b).getMsbD (32 - (Lib.bitLen (a ^^^ b).toNat : Int)).toNat = true := by
      rw [BitVec.getMsbD_eq_getLsbD, BitVec.getLsbD, decide_eq_true (by omega), Bool.true_and]
      rw [show 32 - 1 - (32 - (Lib.bitLen (a ^^^ b).toNat : Int)).toNat = Lib.bitLen (a ^^^ b).toNat - 1 by omega]
      exact Nat.testBit_of_two_pow_le_and_two_pow_add_one_gt h2 (by rw [show Lib.bitLen (a ^^^ b).toNat - 1 + 1 = Lib.bitLen (a ^^^ b).toNat by omega]; exact hu)
    rw [BitVec.getMsbD_xor] at h3
    intro e
    rw [e] at h3
    simp at h3
theorem common_bits (a b : BitVec 32) (h : commonV a b < 32) : bitV a (commonV a b) ≠ bitV b (commonV a b) := by
  have h1 := common_bd a b
  have h2 := (common_msb a b).2 h
  rw [bit_msb _ _ h1.1 (by omega), bit_msb _ _ h1.1 (by omega)]
  cases e1 : a.getMsbD (commonV a b).toNat <;> cases e2 : b.getMsbD (commonV a b).toNat <;> simp_all
theorem common_comm (a b : BitVec 32) : commonV a b = commonV b a := by unfold commonV; rw [BitVec.xor_comm]
theorem bit01 (a : BitVec 32) (i : Int) : bitV a i = 0 ∨ bitV a i = 1 := by
  unfold bitV
  split
  · exact .inl rfl
  · have : ((a >>> (31 - i).toNat) &&& 1#32) = 0#32 ∨ ((a >>> (31 - i).toNat) &&& 1#32) = 1#32 := by
      generalize a >>> (31 - i).toNat = x
      have h := BitVec.toNat_and x 1#32
      have h2 : x.toNat &&& (1#32).toNat = x.toNat % 2 := Nat.and_one_is_mod _
      rw [h2] at h
      rcases Nat.mod_two_eq_zero_or_one x.toNat with e | e
      · left; apply BitVec.eq_of_toNat_eq; rw [h, e]; rfl
      · right; apply BitVec.eq_of_toNat_eq; rw [h, e]; rfl
    rcases this with h | h
    · left; rw [h]; rfl
    · right; rw [h]; rfl
/-- A prefix that may be. -/
def Valid (pa : BitVec 32) (n : Int) : Prop := 0 ≤ n ∧ n ≤ 32 ∧ pa &&& maskV n = pa
theorem Valid.in64 {pa : BitVec 32} {n : Int} (h : Valid pa n) : In64 n := by obtain ⟨h1, h2, _⟩ := h; unfold In64; omega
theorem clamp_id {n : Int} (h0 : 0 ≤ n) (h1 : n ≤ 32) : (clamp n : Int) = n := by
  unfold clamp
  split
  · omega
  · split <;> omega
end Go.Proofs.YtdpmnldmbnpfpaaDoor

/- The reference of addresses: bits, how many are alike. Conditions: whole numbers are within 64 bits. -/
namespace Go.Proofs.YtdpmnldmbnpfpaaDoor
open Go.RowKit

theorem bit_nat (a : BitVec 32) {k : Nat} (hk : k < 32) : bitV a k = if a.getMsbD k then 1 else 0 := by
  rw [bit_msb a k (by omega) (by omega), Int.toNat_natCast]
theorem bit_same {a b : BitVec 32} {k : Nat} (hk : k < 32) : bitV a k = bitV b k ↔ a.getMsbD k = b.getMsbD k := by
  rw [bit_nat a hk, bit_nat b hk]
  cases a.getMsbD k <;> cases b.getMsbD k <;> simp
theorem common_le_of {a b : BitVec 32} {k : Nat} (hk : k ≤ 32) (h : ∀ i : Nat, i < k → bitV a i = bitV b i) (he : k = 32 ∨ bitV a k ≠ bitV b k) : commonV a b = k := by
  have hb := common_bd a b
  have hm := common_msb a b
  rcases Int.lt_trichotomy (commonV a b) k with g | g | g
  · exfalso
    have h1 := hm.2 (by omega)
    have h2 := h (commonV a b).toNat (by omega)
    exact h1 ((bit_same (by omega)).1 h2)
  · exact g
  · exfalso
    rcases he with e | e
    · omega
    · exact e ((bit_same (by omega)).2 (hm.1 k (by omega)))
theorem below_snoc {P : Nat → Prop} {k : Nat} (h : ∀ j : Nat, j < k → P j) (hk : P k) : ∀ j : Nat, j < k + 1 → P j := fun j hj => by
  rcases Nat.lt_or_eq_of_le (Nat.le_of_lt_succ hj) with g | g
  · exact h j g
  · subst g; exact hk
end Go.Proofs.YtdpmnldmbnpfpaaDoor

/- The reference of prefixes: which may be, what they hold, their ends. Conditions: whole numbers are within 64 bits. -/
namespace Go.Proofs.YtdpmnldmbnpfpaaDoor
open Go.RowKit

theorem bit_one {a : BitVec 32} {k : Nat} (hk : k < 32) : bitV a k = 1 ↔ a.getMsbD k = true := by
  rw [bit_nat a hk]; cases a.getMsbD k <;> simp
theorem bit_zero {a : BitVec 32} {k : Nat} (hk : k < 32) : bitV a k = 0 ↔ a.getMsbD k = false := by
  rw [bit_nat a hk]; cases a.getMsbD k <;> simp
theorem rest_zero (a : BitVec 32) (n : Int) : (a &&& ~~~maskV n) = 0#32 ↔ ∀ i, clamp n ≤ i → a.getMsbD i = false := by
  constructor
  · intro h i hi
    rcases Nat.lt_or_ge i 32 with g | g
    · have := congrArg (fun x => BitVec.getMsbD x i) h
      simp only [BitVec.getMsbD_and, BitVec.getMsbD_not, mask_msb, BitVec.getMsbD_zero] at this
      rw [decide_eq_true g, decide_eq_false (by omega)] at this
      simpa using this
    · simp [BitVec.getMsbD, Nat.not_lt.2 g]
  · intro h
    refine msb_ext fun i hi => ?_
    simp only [BitVec.getMsbD_and, BitVec.getMsbD_not, mask_msb, BitVec.getMsbD_zero]
    by_cases hc : i < clamp n
    · simp [hc]
    · rw [h i (by omega)]; simp
theorem mayV_host {a : BitVec 32} {n : Int} (h0 : 0 ≤ n) (h1 : n ≤ 32) {k : Nat} (hn : n ≤ k) (hk : k < 32) (hb : bitV a k = 1) : mayV a n = 8 := by
  unfold mayV
  rw [if_neg (by omega), if_neg]
  rw [rest_zero]
  intro h
  have := h k (by have := clamp_id h0 h1; omega)
  rw [(bit_one hk).1 hb] at this; cases this
theorem mayV_fine {a : BitVec 32} {n : Int} (h0 : 0 ≤ n) (h1 : n ≤ 32) (h : ∀ j : Nat, n ≤ j → j < 32 → bitV a j ≠ 1) : mayV a n = 0 := by
  unfold mayV
  rw [if_neg (by omega), if_pos]
  rw [rest_zero]
  intro i hi
  have c := clamp_id h0 h1
  rcases Nat.lt_or_ge i 32 with g | g
  · have h2 := h i (by omega) g
    cases e : a.getMsbD i with
    | false => rfl
    | true => exact absurd ((bit_one g).2 e) h2
  · simp [BitVec.getMsbD, Nat.not_lt.2 g]
theorem holdsV_no {a b : BitVec 32} {n : Int} {k : Nat} (hk : k < 32) (hn : (k : Int) < n) (h : bitV a k ≠ bitV b k) : holdsV a n b = false := by
  cases e : holdsV a n b with
  | false => rfl
  | true =>
    have := (holds_iff a b n).1 e k (by unfold clamp; split <;> (try split) <;> omega)
    exact absurd ((bit_same hk).2 this) h
theorem holdsV_yes {a b : BitVec 32} {n : Int} (h : ∀ j : Nat, j < 32 → (j : Int) < n → bitV a j = bitV b j) : holdsV a n b = true := by
  rw [holds_iff]
  intro i hi
  have h1 := clamp_le n
  have h2 : (i : Int) < n := by unfold clamp at hi; split at hi <;> (try split at hi) <;> omega
  exact (bit_same (by omega)).1 (h i (by omega) h2)
theorem shr_step (x : BitVec 32) {k : Nat} (hk : k < 32) : x >>> (32 - (k + 1)) = (x >>> (32 - k)) * 2#32 + (if x.getMsbD k then 1#32 else 0#32) := by
  apply BitVec.eq_of_toNat_eq
  have h1 : x.getMsbD k = decide (x.toNat / 2 ^ (31 - k) % 2 = 1) := by
    rw [BitVec.getMsbD_eq_getLsbD, decide_eq_true hk, Bool.true_and, ← BitVec.testBit_toNat, Nat.testBit_eq_decide_div_mod_eq]
  rw [BitVec.toNat_add, BitVec.toNat_mul, BitVec.toNat_ushiftRight, BitVec.toNat_ushiftRight, Nat.shiftRight_eq_div_pow, Nat.shiftRight_eq_div_pow, h1]
  have h2 : 2 ^ (32 - k) = 2 ^ (32 - (k + 1)) * 2 := by rw [← Nat.pow_succ]; congr 1; omega
  have h3 : 31 - k = 32 - (k + 1) := by omega
  rw [h2, ← Nat.div_div_eq_div_mul, h3]
  have h4 : x.toNat / 2 ^ (32 - (k + 1)) ≤ x.toNat := Nat.div_le_self _ _
  have h5 := x.isLt
  generalize x.toNat / 2 ^ (32 - (k + 1)) = y at *
  by_cases e : y % 2 = 1
  · rw [decide_eq_true e]; simp; omega
  · rw [decide_eq_false e]; simp; omega
theorem shr_all (x : BitVec 32) : x >>> (32 - 0) = 0#32 := by
  apply BitVec.eq_of_toNat_eq
  rw [BitVec.toNat_ushiftRight, Nat.shiftRight_eq_div_pow]
  exact Nat.div_eq_of_lt x.isLt
theorem ret_UU {a b c d : BitVec 32} (h1 : a = c) (h2 : b = d) : Ending.returned (.tuple #[U a, U b]) = .returned (.tuple #[U c, U d]) := by rw [h1, h2]
theorem low_msb (a : BitVec 32) (n : Int) (i : Nat) : (lowV a n).getMsbD i = (a.getMsbD i && decide (i < clamp n)) := by
  unfold lowV; rw [BitVec.getMsbD_and, mask_msb]
theorem high_msb (a : BitVec 32) (n : Int) {i : Nat} (hi : i < 32) : (highV a n).getMsbD i = (a.getMsbD i || !decide (i < clamp n)) := by
  unfold highV; rw [BitVec.getMsbD_or, BitVec.getMsbD_not, mask_msb, decide_eq_true hi, Bool.true_and]
theorem clamp_lt {n : Int} {k : Nat} (hk : k < 32) : k < clamp n ↔ (k : Int) < n := by
  unfold clamp; split <;> (try split) <;> omega
end Go.Proofs.YtdpmnldmbnpfpaaDoor

/- The reference of prefixes: their ends. Conditions: whole numbers are within 64 bits. -/
namespace Go.Proofs.YtdpmnldmbnpfpaaDoor
open Go.RowKit

end Go.Proofs.YtdpmnldmbnpfpaaDoor
