/- The reference of prefixes: their ends. Conditions: whole numbers are within 64 bits. -/
import Derived.Test.YtilaljdokpdcoaaRef06a
namespace Go.Proofs.Ytilaljdokpdcoaa
open Go.RowKit

set_option maxHeartbeats 1000000 in
theorem r06Ends_any (a : BitVec 32) (n : Int) (w : World) (h : In64 n) :
    Calls Try.prog 57 #[U a, I n] w fun e w' => e = .returned (.tuple #[U (lowV a n), U (highV a n)]) ∧ w = w' := by
  obtain ⟨h0, h1⟩ := h
  go_enter Try.func57, Try.ntmps57
  go_wp2_with fail
  go_loop [6, 7, 8] (fun x y i => ∃ (k : Nat) (p q : BitVec 32), k ≤ 32 ∧ i = I k ∧ x = U p ∧ y = U q ∧ Hid (p = lowV a n >>> (32 - k)) ∧ Hid (q = highV a n >>> (32 - k))) (fun _ _ i => 32 - (intOf i).toNat)
  case atStart => exact ⟨0, 0#32, 0#32, by omega, rfl, rfl, rfl, (shr_all _).symm, (shr_all _).symm⟩
  case round =>
    obtain ⟨k, p, q, hk, rfl, rfl, rfl, HP, HQ⟩ := hrel
    by_cases hlt : k < 32
    · have hin : In64 k := by unfold In64; omega
      have SP := Lib.hid (shr_step (lowV a n) hlt)
      have SQ := Lib.hid (shr_step (highV a n) hlt)
      have LP := Lib.hid (low_msb a n k)
      have LQ := Lib.hid (high_msb a n hlt)
      by_cases hkn : (k : Int) < n
      · have HC := Lib.hid ((clamp_lt hlt).2 hkn)
        cases hb : a.getMsbD k with
        | false =>
          have hv : bitV a k = 0 := (bit_zero hlt).2 hb
          have EP := Lib.hid (show lowV a n >>> (32 - (k + 1)) = p * 2#32 by rw [SP.out, LP.out, hb, HP.out]; simp)
          have EQ := Lib.hid (show highV a n >>> (32 - (k + 1)) = q * 2#32 by rw [SQ.out, LQ.out, hb, HQ.out, decide_eq_true HC.out]; simp)
          clear hb HP HQ SP SQ LP LQ
          go_wp2_with (first | (go_at_call 74; with_reducible refine (r05Bit_any _ _ _ hin).mono ?_; rintro e w' ⟨rfl, rfl⟩))
          go_round
          case rel => exact ⟨k + 1, p * 2#32, q * 2#32, by omega, by go_num, rfl, rfl, EP.out.symm, EQ.out.symm⟩
          case measure => simp [intOf]; omega
        | true =>
          have hv : bitV a k = 1 := (bit_one hlt).2 hb
          have EP := Lib.hid (show lowV a n >>> (32 - (k + 1)) = p * 2#32 + 1#32 by rw [SP.out, LP.out, hb, HP.out, decide_eq_true HC.out]; simp)
          have EQ := Lib.hid (show highV a n >>> (32 - (k + 1)) = q * 2#32 + 1#32 by rw [SQ.out, LQ.out, hb, HQ.out]; simp)
          clear hb HP HQ SP SQ LP LQ
          go_wp2_with (first | (go_at_call 74; with_reducible refine (r05Bit_any _ _ _ hin).mono ?_; rintro e w' ⟨rfl, rfl⟩))
          go_round
          case rel => exact ⟨k + 1, p * 2#32 + 1#32, q * 2#32 + 1#32, by omega, by go_num, rfl, rfl, EP.out.symm, EQ.out.symm⟩
          case measure => simp [intOf]; omega
      · have HC := Lib.hid (show ¬ k < clamp n from fun g => hkn ((clamp_lt hlt).1 g))
        have EP := Lib.hid (show lowV a n >>> (32 - (k + 1)) = p * 2#32 by rw [SP.out, LP.out, HP.out, decide_eq_false HC.out]; simp)
        have EQ := Lib.hid (show highV a n >>> (32 - (k + 1)) = q * 2#32 + 1#32 by rw [SQ.out, LQ.out, HQ.out, decide_eq_false HC.out]; simp)
        clear HP HQ SP SQ LP LQ
        go_wp2_with (first | (go_at_call 74; with_reducible refine (r05Bit_any _ _ _ hin).mono ?_; rintro e w' ⟨rfl, rfl⟩))
        go_round
        case rel => exact ⟨k + 1, p * 2#32, q * 2#32 + 1#32, by omega, by go_num, rfl, rfl, EP.out.symm, EQ.out.symm⟩
        case measure => simp [intOf]; omega
    · have EP := Lib.hid (show p = lowV a n by rw [HP.out, show 32 - k = 0 by omega]; simp)
      have EQ := Lib.hid (show q = highV a n by rw [HQ.out, show 32 - k = 0 by omega]; simp)
      go_wp2
      go_ret2
      exact ⟨ret_UU EP.out EQ.out, rfl⟩
end Go.Proofs.Ytilaljdokpdcoaa
