/- The law AddrCommon: the walk. Conditions: the library's table of powers of ten reads as it is laid. -/
import Derived.Test.YtfafoiglllfpgaaDoorShown05
namespace Go.Proofs.YtfafoiglllfpgaaDoor
open Go.RowKit

theorem shr_0 (x : BitVec 32) : x >>> (32 - 32) = x := by simp
theorem common_self (a : BitVec 32) : commonV a a = 32 := common_le_of (k := 32) (by omega) (fun _ _ => rfl) (.inl rfl)
theorem common_32 (a b : BitVec 32) : commonV a b = 32 ↔ a = b := by
  constructor
  · intro h
    exact msb_ext fun i hi => (common_msb a b).1 i (by omega)
  · rintro rfl; exact common_self a
/-- At the first bit that is another one the lower address has 0. -/
theorem first_lt {a b : BitVec 32} {k : Nat} (hk : k < 32) (h : ∀ i : Nat, i < k → a.getMsbD i = b.getMsbD i) (ha : a.getMsbD k = false) (hb : b.getMsbD k = true) : a.toNat < b.toNat := by
  have e : a >>> (32 - k) = b >>> (32 - k) := by
    refine msb_ext fun i hi => ?_
    rw [BitVec.getMsbD_ushiftRight, BitVec.getMsbD_ushiftRight]
    by_cases g : i < 32 - k
    · simp [g]
    · simp [g, h (i - (32 - k)) (by omega)]
  have h1 := shr_step a hk
  have h2 := shr_step b hk
  rw [ha] at h1
  rw [hb, ← e] at h2
  have h3 := congrArg BitVec.toNat h1
  have h4 := congrArg BitVec.toNat h2
  have hb1 : (a >>> (32 - k)).toNat * 2 + 1 < 4294967296 := by
    have h5 := (b >>> (32 - (k + 1))).isLt
    rw [BitVec.toNat_ushiftRight, Nat.shiftRight_eq_div_pow]
    have h6 : a.toNat / 2 ^ (32 - k) < 2147483648 := by
      have : 1 ≤ 32 - k := by omega
      have h7 : 2 ^ 1 ≤ 2 ^ (32 - k) := Nat.pow_le_pow_right (by omega) this
      have h8 := a.isLt
      calc a.toNat / 2 ^ (32 - k) ≤ a.toNat / 2 := Nat.div_le_div_left h7 (by omega)
        _ < 2147483648 := by omega
    omega
  rw [BitVec.toNat_add, BitVec.toNat_mul] at h3 h4
  generalize (a >>> (32 - k)).toNat = P at *
  simp at h3 h4
  rw [Nat.mod_eq_of_lt (by omega)] at h3
  rw [Nat.mod_eq_of_lt (by omega)] at h4
  rw [Nat.shiftRight_eq_div_pow] at h3 h4
  rcases Nat.lt_or_ge a.toNat b.toNat with g | g
  · exact g
  · have := Nat.div_le_div_right (c := 2 ^ (32 - (k + 1))) g
    have e1 : 32 - (k + 1) = 31 - k := by omega
    rw [e1] at this
    omega
set_option maxRecDepth 100000 in
set_option maxHeartbeats 2000000 in
theorem addrCommon_any (a b : BitVec 32) (w : World) (ht : Tab10 w) :
    Calls Tryd.prog 11 #[U a, U b] w fun e w' => e = .returned (.bool true) ∧ Ext w w' := by
  have HC := Lib.hid (common_msb a b)
  have hcb := common_bd a b
  have HCC := Lib.hid (common_comm b a)
  have H32 := Lib.hid (common_32 a b)
  obtain ⟨n, hn⟩ : ∃ n, commonV a b = n := ⟨_, rfl⟩
  have HN := Lib.hid hn
  rw [hn] at hcb HC HCC H32
  clear hn
  go_enter Tryd.func11, Tryd.ntmps11
  go_wp2_with (first
    | (go_at_call 21; with_reducible refine (shown05_any _ ht).mono ?_; rintro e w1 ⟨rfl, hx1⟩)
    | (go_at_call 26; with_reducible refine (common_any _ _ _).mono ?_; rintro e w' ⟨he, rfl⟩; rw [HN.out] at he; subst he))
  go_loop [7, 8] (fun s i => ∃ (k : Nat) (p : BitVec 32), k ≤ 32 ∧ i = I k ∧ s = U p ∧ Hid (p = a >>> (32 - k))) (fun _ i => 32 - (intOf i).toNat)
  case atStart => exact ⟨0, 0#32, by omega, rfl, rfl, (shr_all a).symm⟩
  case round =>
    obtain ⟨k, p, hk, rfl, rfl, HP⟩ := hrel
    by_cases hlt : k < 32
    · have hin : In64 k := by unfold In64; omega
      have SP := Lib.hid (shr_step a hlt)
      have hxy : (a.getMsbD k = b.getMsbD k ∧ ¬ ((k : Int) = n)) ∨ (a.getMsbD k ≠ b.getMsbD k ∧ ¬ ((k : Int) < n)) := by
        rcases Int.lt_trichotomy k n with g | g | g
        · exact .inl ⟨HC.out.1 k g, by omega⟩
        · refine .inr ⟨?_, by omega⟩
          have := HC.out.2 (by omega)
          rw [show n.toNat = k by omega] at this
          exact this
        · by_cases e : a.getMsbD k = b.getMsbD k
          · exact .inl ⟨e, by omega⟩
          · exact .inr ⟨e, by omega⟩
      have hcase : (bitV a k = 0 ∧ bitV b k = 0 ∧ ((k : Int) == n) = false ∧ a >>> (32 - (k + 1)) = p * 2#32) ∨ (bitV a k = 1 ∧ bitV b k = 1 ∧ ((k : Int) == n) = false ∧ a >>> (32 - (k + 1)) = p * 2#32 + 1#32) ∨
          (bitV a k = 0 ∧ bitV b k = 1 ∧ decide ((k : Int) < n) = false ∧ a >>> (32 - (k + 1)) = p * 2#32) ∨ (bitV a k = 1 ∧ bitV b k = 0 ∧ decide ((k : Int) < n) = false ∧ a >>> (32 - (k + 1)) = p * 2#32 + 1#32) := by
        rw [bit_nat a hlt, bit_nat b hlt, SP.out, ← HP.out]
        rcases hxy with ⟨e, g⟩ | ⟨e, g⟩
        · rw [← e]
          have : ((k : Int) == n) = false := by rw [beq_eq_false_iff_ne]; exact g
          cases a.getMsbD k <;> simp [this]
        · have : decide ((k : Int) < n) = false := decide_eq_false g
          cases h1 : a.getMsbD k <;> cases h2 : b.getMsbD k <;> simp_all
      clear hxy SP HP
      rcases hcase with ⟨x0, y0, c0, e⟩ | ⟨x0, y0, c0, e⟩ | ⟨x0, y0, c0, e⟩ | ⟨x0, y0, c0, e⟩
      all_goals
        have HE := Lib.hid e
        clear e
        go_wp2_with (first | (go_at_call 20; with_reducible refine (bit_any _ _ _ hin).mono ?_; rintro e w' ⟨rfl, rfl⟩))
      all_goals go_round
      all_goals first
        | (case rel => exact ⟨k + 1, p * 2#32, by omega, by go_num, rfl, HE.out.symm⟩)
        | (case rel => exact ⟨k + 1, p * 2#32 + 1#32, by omega, by go_num, rfl, HE.out.symm⟩)
        | (case measure => simp [intOf]; omega)
    · have hp : (p == a) = true := by
        rw [beq_iff_eq, HP.out, show k = 32 by omega, shr_0]
      have HS := Lib.hid (common_self a)
      have hin : In64 n := by unfold In64; omega
      have HIN := Lib.hid hin
      have hcase : ((n == 32) = true ∧ (a == b) = true) ∨ ((n == 32) = false ∧ (a == b) = false ∧ bitV a n = 0 ∧ bitV b n = 1 ∧ decide (uv a < uv b) = true) ∨ ((n == 32) = false ∧ (a == b) = false ∧ bitV a n = 1 ∧ bitV b n = 0 ∧ decide (uv a < uv b) = false) := by
        rcases Int.lt_or_le n 32 with g | g
        · right
          have e1 : (n == 32) = false := by rw [beq_eq_false_iff_ne]; omega
          have e2 : (a == b) = false := by
            rw [beq_eq_false_iff_ne]
            intro e
            have := H32.out.2 e
            omega
          obtain ⟨q, rfl⟩ : ∃ q : Nat, n = q := ⟨n.toNat, by omega⟩
          have hq : q < 32 := by omega
          have h1 := HC.out.2 g
          have h2 : ∀ i : Nat, i < q → a.getMsbD i = b.getMsbD i := fun i hi => HC.out.1 i (by omega)
          rw [Int.toNat_natCast] at h1
          rw [bit_nat a hq, bit_nat b hq]
          cases x : a.getMsbD q with
          | false =>
            cases y : b.getMsbD q with
            | false => rw [x, y] at h1; exact absurd rfl h1
            | true =>
              have := first_lt hq h2 x y
              exact .inl ⟨e1, e2, rfl, rfl, decide_eq_true (by unfold uv; omega)⟩
          | true =>
            cases y : b.getMsbD q with
            | true => rw [x, y] at h1; exact absurd rfl h1
            | false =>
              have := first_lt hq (fun i hi => (h2 i hi).symm) y x
              exact .inr ⟨e1, e2, rfl, rfl, decide_eq_false (by unfold uv; omega)⟩
        · left
          have e : n = 32 := by omega
          exact ⟨by rw [beq_iff_eq]; exact e, by rw [beq_iff_eq]; exact H32.out.1 e⟩
      clear hin
      rcases hcase with ⟨c1, c2⟩ | ⟨c1, c2, c3, c4, c5⟩ | ⟨c1, c2, c3, c4, c5⟩
      all_goals
        go_wp2_with (first
          | (go_at_call 26; with_reducible refine (common_any b a _).mono ?_; rintro e w' ⟨he, rfl⟩; rw [HCC.out] at he; subst he)
          | (go_at_call 26; with_reducible refine (common_any a a _).mono ?_; rintro e w' ⟨he, rfl⟩; rw [HS.out] at he; subst he)
          | (go_at_call 20; with_reducible refine (bit_any _ _ _ HIN.out).mono ?_; rintro e w' ⟨rfl, rfl⟩))
        go_ret
        exact ⟨rfl, hx1⟩
end Go.Proofs.YtfafoiglllfpgaaDoor
