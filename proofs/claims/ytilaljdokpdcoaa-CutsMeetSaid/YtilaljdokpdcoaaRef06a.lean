/- The reference of prefixes: which may be, what they hold, their ends. Conditions: whole numbers are within 64 bits. -/
import Derived.Test.YtilaljdokpdcoaaRef05a
import Derived.Test.YtilaljdokpdcoaaMask06
namespace Go.Proofs.Ytilaljdokpdcoaa
open Go.RowKit

theorem bit_one {a : BitVec 32} {k : Nat} (hk : k < 32) : bitV a k = 1 ↔ a.getMsbD k = true := by
  rw [bit_nat a hk]; cases a.getMsbD k <;> simp
theorem bit_zero {a : BitVec 32} {k : Nat} (hk : k < 32) : bitV a k = 0 ↔ a.getMsbD k = false := by
  rw [bit_nat a hk]; cases a.getMsbD k <;> simp
theorem rest_zero (a : BitVec 32) (n : Int) : (a &&& ~~~maskV n) = 0#32 ↔ ∀ i, clamp n ≤ i → a.getMsbD i = false := by
  constructor
  · intro h i hi
    rcases Nat.lt_or_ge i 32 with g | g
    · have := congrArg (fun x => BitVec.getMsbD x i) h
      simp only [BitVec.getMsbD_and, BitVec.getMsbD_not, mask_msb, BitVec.getMsbD_zero] at this
      rw [decide_eq_true g, decide_eq_false (by omega)] at this
      simpa using this
    · simp [BitVec.getMsbD, Nat.not_lt.2 g]
  · intro h
    refine msb_ext fun i hi => ?_
    simp only [BitVec.getMsbD_and, BitVec.getMsbD_not, mask_msb, BitVec.getMsbD_zero]
    by_cases hc : i < clamp n
    · simp [hc]
    · rw [h i (by omega)]; simp
theorem mayV_host {a : BitVec 32} {n : Int} (h0 : 0 ≤ n) (h1 : n ≤ 32) {k : Nat} (hn : n ≤ k) (hk : k < 32) (hb : bitV a k = 1) : mayV a n = 8 := by
  unfold mayV
  rw [if_neg (by omega), if_neg]
  rw [rest_zero]
  intro h
  have := h k (by have := clamp_id h0 h1; omega)
  rw [(bit_one hk).1 hb] at this; cases this
theorem mayV_fine {a : BitVec 32} {n : Int} (h0 : 0 ≤ n) (h1 : n ≤ 32) (h : ∀ j : Nat, n ≤ j → j < 32 → bitV a j ≠ 1) : mayV a n = 0 := by
  unfold mayV
  rw [if_neg (by omega), if_pos]
  rw [rest_zero]
  intro i hi
  have c := clamp_id h0 h1
  rcases Nat.lt_or_ge i 32 with g | g
  · have h2 := h i (by omega) g
    cases e : a.getMsbD i with
    | false => rfl
    | true => exact absurd ((bit_one g).2 e) h2
  · simp [BitVec.getMsbD, Nat.not_lt.2 g]
set_option maxHeartbeats 400000 in
theorem r06May_any (a : BitVec 32) (n : Int) (w : World) (h : In64 n) :
    Calls Try.prog 80 #[U a, I n] w fun e w' => e = .returned (I (mayV a n)) ∧ w = w' := by
  obtain ⟨h0, h1⟩ := h
  by_cases hn : n < 0
  · have H := Lib.hid (show mayV a n = 1 by unfold mayV; rw [if_pos (.inl hn)])
    go_enter Try.func80, Try.ntmps80
    go_wp2
    go_ret
    exact ⟨ret_int H.out.symm, rfl⟩
  · by_cases hm : 32 < n
    · have H := Lib.hid (show mayV a n = 1 by unfold mayV; rw [if_pos (.inr hm)])
      go_enter Try.func80, Try.ntmps80
      go_wp2
      go_ret
      exact ⟨ret_int H.out.symm, rfl⟩
    · have g0 : 0 ≤ n := by omega
      have g1 : n ≤ 32 := by omega
      clear h0 h1 hn hm
      go_enter Try.func80, Try.ntmps80
      go_wp2_with fail
      go_loop [5] (fun i => ∃ k : Nat, k ≤ 32 ∧ n ≤ k ∧ i = I k ∧ Hid (∀ j : Nat, n ≤ j → j < k → bitV a j ≠ 1)) (fun i => 32 - (intOf i).toNat)
      case atStart => exact ⟨n.toNat, by omega, by omega, by rw [Int.toNat_of_nonneg g0], fun j hj hk => by omega⟩
      case round =>
        obtain ⟨k, hk, hnk, rfl, HB⟩ := hrel
        by_cases hlt : k < 32
        · have hin : In64 k := by unfold In64; omega
          by_cases he : bitV a k = 1
          · have hd : (bitV a k == 1) = true := by simpa using he
            have HE := Lib.hid (mayV_host g0 g1 hnk hlt he)
            clear he
            go_wp2_with (first | (go_at_call 74; with_reducible refine (r05Bit_any _ _ _ hin).mono ?_; rintro e w' ⟨rfl, rfl⟩))
            go_ret
            exact ⟨ret_int HE.out.symm, rfl⟩
          · have hd : (bitV a k == 1) = false := by simpa using he
            have HE := Lib.hid (show ∀ j : Nat, n ≤ j → j < k + 1 → bitV a j ≠ 1 from fun j hj hjk => by
              rcases Nat.lt_or_eq_of_le (Nat.le_of_lt_succ hjk) with g | g
              · exact HB.out j hj g
              · subst g; exact he)
            clear he
            go_wp2_with (first | (go_at_call 74; with_reducible refine (r05Bit_any _ _ _ hin).mono ?_; rintro e w' ⟨rfl, rfl⟩))
            go_round
            case rel => exact ⟨k + 1, by omega, by omega, by go_num, HE.out⟩
            case measure => simp [intOf]; omega
        · have HE := Lib.hid (mayV_fine (a := a) g0 g1 fun j hj hj2 => HB.out j hj (by omega))
          go_wp2
          go_ret
          exact ⟨ret_int HE.out.symm, rfl⟩

theorem holdsV_no {a b : BitVec 32} {n : Int} {k : Nat} (hk : k < 32) (hn : (k : Int) < n) (h : bitV a k ≠ bitV b k) : holdsV a n b = false := by
  cases e : holdsV a n b with
  | false => rfl
  | true =>
    have := (holds_iff a b n).1 e k (by unfold clamp; split <;> (try split) <;> omega)
    exact absurd ((bit_same hk).2 this) h
theorem holdsV_yes {a b : BitVec 32} {n : Int} (h : ∀ j : Nat, j < 32 → (j : Int) < n → bitV a j = bitV b j) : holdsV a n b = true := by
  rw [holds_iff]
  intro i hi
  have h1 := clamp_le n
  have h2 : (i : Int) < n := by unfold clamp at hi; split at hi <;> (try split at hi) <;> omega
  exact (bit_same (by omega)).1 (h i (by omega) h2)
set_option maxHeartbeats 400000 in
theorem r06Holds_any (a b : BitVec 32) (n : Int) (w : World) (h : In64 n) :
    Calls Try.prog 89 #[U a, I n, U b] w fun e w' => e = .returned (.bool (holdsV a n b)) ∧ w = w' := by
  obtain ⟨h0, h1⟩ := h
  go_enter Try.func89, Try.ntmps89
  go_wp2_with fail
  go_loop [7] (fun i => ∃ k : Nat, k ≤ 32 ∧ i = I k ∧ Hid (∀ j : Nat, j < k → (j : Int) < n → bitV a j = bitV b j)) (fun i => 32 - (intOf i).toNat)
  case atStart => exact ⟨0, by omega, rfl, fun j hk => by omega⟩
  case round =>
    obtain ⟨k, hk, rfl, HB⟩ := hrel
    by_cases hlt : k < 32
    · by_cases hkn : (k : Int) < n
      · have hin : In64 k := by unfold In64; omega
        by_cases he : bitV a k = bitV b k
        · have hd : (bitV a k != bitV b k) = false := by simpa using he
          have HE := Lib.hid (show ∀ j : Nat, j < k + 1 → (j : Int) < n → bitV a j = bitV b j from fun j hjk hj => by
              rcases Nat.lt_or_eq_of_le (Nat.le_of_lt_succ hjk) with g | g
              · exact HB.out j g hj
              · subst g; exact he)
          clear he
          go_wp2_with (first | (go_at_call 74; with_reducible refine (r05Bit_any _ _ _ hin).mono ?_; rintro e w' ⟨rfl, rfl⟩))
          go_round
          case rel => exact ⟨k + 1, by omega, by go_num, HE.out⟩
          case measure => simp [intOf]; omega
        · have hd : (bitV a k != bitV b k) = true := by simpa using he
          have HE := Lib.hid (holdsV_no hlt hkn he)
          clear he
          go_wp2_with (first | (go_at_call 74; with_reducible refine (r05Bit_any _ _ _ hin).mono ?_; rintro e w' ⟨rfl, rfl⟩))
          go_ret
          exact ⟨ret_bool HE.out.symm, rfl⟩
      · have HE := Lib.hid (holdsV_yes (a := a) (b := b) (n := n) fun j hj hjn => HB.out j (by omega) hjn)
        go_wp2
        go_ret
        exact ⟨ret_bool HE.out.symm, rfl⟩
    · have HE := Lib.hid (holdsV_yes (a := a) (b := b) (n := n) fun j hj hjn => HB.out j (by omega) hjn)
      go_wp2
      go_ret
      exact ⟨ret_bool HE.out.symm, rfl⟩

theorem shr_step (x : BitVec 32) {k : Nat} (hk : k < 32) : x >>> (32 - (k + 1)) = (x >>> (32 - k)) * 2#32 + (if x.getMsbD k then 1#32 else 0#32) := by
  apply BitVec.eq_of_toNat_eq
  have h1 : x.getMsbD k = decide (x.toNat / 2 ^ (31 - k) % 2 = 1) := by
    rw [BitVec.getMsbD_eq_getLsbD, decide_eq_true hk, Bool.true_and, ← BitVec.testBit_toNat, Nat.testBit_eq_decide_div_mod_eq]
  rw [BitVec.toNat_add, BitVec.toNat_mul, BitVec.toNat_ushiftRight, BitVec.toNat_ushiftRight, Nat.shiftRight_eq_div_pow, Nat.shiftRight_eq_div_pow, h1]
  have h2 : 2 ^ (32 - k) = 2 ^ (32 - (k + 1)) * 2 := by rw [← Nat.pow_succ]; congr 1; omega
  have h3 : 31 - k = 32 - (k + 1) := by omega
  rw [h2, ← Nat.div_div_eq_div_mul, h3]
  have h4 : x.toNat / 2 ^ (32 - (k + 1)) ≤ x.toNat := Nat.div_le_self _ _
  have h5 := x.isLt
  generalize x.toNat / 2 ^ (32 - (k + 1)) = y at *
  by_cases e : y % 2 = 1
  · rw [decide_eq_true e]; simp; omega
  · rw [decide_eq_false e]; simp; omega
theorem shr_all (x : BitVec 32) : x >>> (32 - 0) = 0#32 := by
  apply BitVec.eq_of_toNat_eq
  rw [BitVec.toNat_ushiftRight, Nat.shiftRight_eq_div_pow]
  exact Nat.div_eq_of_lt x.isLt
theorem ret_UU {a b c d : BitVec 32} (h1 : a = c) (h2 : b = d) : Ending.returned (.tuple #[U a, U b]) = .returned (.tuple #[U c, U d]) := by rw [h1, h2]
theorem low_msb (a : BitVec 32) (n : Int) (i : Nat) : (lowV a n).getMsbD i = (a.getMsbD i && decide (i < clamp n)) := by
  unfold lowV; rw [BitVec.getMsbD_and, mask_msb]
theorem high_msb (a : BitVec 32) (n : Int) {i : Nat} (hi : i < 32) : (highV a n).getMsbD i = (a.getMsbD i || !decide (i < clamp n)) := by
  unfold highV; rw [BitVec.getMsbD_or, BitVec.getMsbD_not, mask_msb, decide_eq_true hi, Bool.true_and]
theorem clamp_lt {n : Int} {k : Nat} (hk : k < 32) : k < clamp n ↔ (k : Int) < n := by
  unfold clamp; split <;> (try split) <;> omega
end Go.Proofs.Ytilaljdokpdcoaa
