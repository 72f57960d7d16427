/- The law PrefixEnds: the walk. Conditions: the library's table of powers of ten reads as it is laid. -/
import Derived.Test.YtfafoiglllfpgaaDoorCommonLaw
namespace Go.Proofs.YtfafoiglllfpgaaDoor
open Go.RowKit

theorem low_cut (a : BitVec 32) (m : Int) : lowV (a &&& maskV m) m = a &&& maskV m := by unfold lowV; rw [BitVec.and_assoc, BitVec.and_self]
theorem high_cut (a : BitVec 32) (m : Int) : highV (a &&& maskV m) m = highV a m := by
  refine msb_ext fun i hi => ?_
  rw [high_msb _ _ hi, high_msb _ _ hi, BitVec.getMsbD_and, mask_msb]
  cases a.getMsbD i <;> cases decide (i < clamp m) <;> rfl
theorem may_zero {a : BitVec 32} {m : Int} (h0 : 0 ≤ m) (h1 : m ≤ 32) : (mayV a m = 0 ↔ a = a &&& maskV m) ∧ (mayV a m = 0 ∨ mayV a m = 8) := by
  have key : (a &&& ~~~maskV m) = 0#32 ↔ a = a &&& maskV m := by
    rw [rest_zero, eq_comm, valid_iff]
  unfold mayV
  rw [if_neg (by omega)]
  constructor
  · split
    · rename_i h; exact ⟨fun _ => key.1 h, fun _ => rfl⟩
    · rename_i h; exact ⟨fun g => (by cases g), fun g => absurd (key.2 g) h⟩
  · split
    · exact .inl rfl
    · exact .inr rfl
theorem ends_size (a : BitVec 32) {m : Int} (h0 : 0 ≤ m) (h1 : m ≤ 32) : uv (highV a m) - uv (a &&& maskV m) + 1 = 2 ^ (32 - m).toNat := by
  have h2 := low_nat a m
  have h3 := high_nat a m
  have h4 := Nat.two_pow_pos (32 - clamp m)
  have e : (32 - m).toNat = 32 - clamp m := by rw [clamp_of h0 h1]; omega
  have h5 : (2 : Int) ^ (32 - clamp m) = ((2 ^ (32 - clamp m) : Nat) : Int) := by simp
  rw [e, h5]
  unfold lowV at h2
  unfold uv
  rw [h2, h3]
  omega
@[go_sem high] theorem wrap_u64_uv (a : BitVec 32) : IntKind.u64.wrap (uv a) = uv a := by have := uv_bd a; rw [IntKind.wrap_u64]; omega
theorem mayX_any (a : BitVec 32) (m : Int) (w : World) (h0 : 0 ≤ m) (h1 : m ≤ 32) : Calls Tryd.prog 27 #[U (a &&& maskV m), I m] w fun e w' => e = .returned (I 0) ∧ w = w' :=
  (may_any _ m w (by unfold In64; omega)).mono fun _ _ ⟨he, hw⟩ => ⟨by
    rw [he]; exact ret_int ((may_zero h0 h1).1.2 (by rw [BitVec.and_assoc, BitVec.and_self])), hw⟩
theorem endsX_any (a : BitVec 32) (m : Int) (w : World) (h0 : 0 ≤ m) (h1 : m ≤ 32) : Calls Tryd.prog 18 #[U (a &&& maskV m), I m] w fun e w' => e = .returned (.tuple #[U (a &&& maskV m), U (highV a m)]) ∧ w = w' :=
  (ends_any _ m w (by unfold In64; omega)).mono fun _ _ ⟨he, hw⟩ => ⟨by rw [he, low_cut, high_cut], hw⟩
theorem endsY_any (a : BitVec 32) (m : Int) (w : World) (h0 : 0 ≤ m) (h1 : m ≤ 32) : Calls Tryd.prog 18 #[U a, I m] w fun e w' => e = .returned (.tuple #[U (a &&& maskV m), U (highV a m)]) ∧ w = w' :=
  (ends_any _ m w (by unfold In64; omega)).mono fun _ _ ⟨he, hw⟩ => ⟨by rw [he]; rfl, hw⟩
theorem holdsX_any (a b : BitVec 32) (m : Int) (w : World) (x : Bool) (h0 : 0 ≤ m) (h1 : m ≤ 32) (h : holdsV (a &&& maskV m) m b = x) : Calls Tryd.prog 19 #[U (a &&& maskV m), I m, U b] w fun e w' => e = .returned (.bool x) ∧ w = w' :=
  (holds_any _ _ m w (by unfold In64; omega)).mono fun _ _ ⟨he, hw⟩ => ⟨by rw [he, h], hw⟩
theorem holdsX_int (a b : BitVec 32) (m : Int) : holdsV (a &&& maskV m) m b = true ↔ uv (a &&& maskV m) ≤ uv b ∧ uv b ≤ uv (highV a m) := by
  rw [holds_ends, low_cut, high_cut]; unfold uv; omega
/-- So many addresses a prefix has. -/
def P32 (m : Int) : Int := 2 ^ (32 - m).toNat
theorem P32_le {m : Int} (h0 : 0 ≤ m) (h1 : m ≤ 32) : 1 ≤ P32 m ∧ P32 m ≤ 4294967296 := by
  unfold P32
  have e : (2 : Int) ^ (32 - m).toNat = ((2 ^ (32 - m).toNat : Nat) : Int) := by simp
  rw [e]
  have h2 := Nat.two_pow_pos (32 - m).toNat
  have h3 : 2 ^ (32 - m).toNat ≤ 2 ^ 32 := Nat.pow_le_pow_right (by omega) (by omega)
  omega
@[go_sem high] theorem shl_u64_32 (m : Int) (h0 : 0 ≤ m) (h1 : m ≤ 32) : Op.shift .shl .u64 1 .i64 (32 - m) = pure (.int .u64 (P32 m)) := by
  rw [shift_shl_any _ _ _ _ (by omega)]
  have h := P32_le h0 h1
  have e : min (32 - m).toNat IntKind.u64.bits = (32 - m).toNat := by
    have : IntKind.u64.bits = 64 := rfl
    omega
  rw [e]
  have e2 : (1 : Int) * 2 ^ (32 - m).toNat = P32 m := by unfold P32; omega
  rw [e2, IntKind.wrap_u64, Int.emod_eq_of_lt (by omega) (by omega)]
set_option maxRecDepth 100000 in
set_option maxHeartbeats 2000000 in
theorem prefixEnds_any (at0 : BitVec 32) (n : Nat) (a : BitVec 32) (w : World) (hn : n < 256) (ht : Tab10 w) :
    Calls Tryd.prog 8 #[U at0, .int .u8 n, U a] w fun e w' => e = .returned (.bool true) ∧ Ext w w' := by
  have b0 : 0 ≤ (n : Int) % 33 := by omega
  have b1 : (n : Int) % 33 ≤ 32 := by omega
  go_enter Tryd.func8, Tryd.ntmps8
  go_upto_region 7 with (first
    | (go_at_call 16; with_reducible refine (shown06_any _ ht).mono ?_; rintro e w1 ⟨rfl, hx1⟩)
    | (go_at_call 17; with_reducible refine (mask_any _ _ (in64_33 n)).mono ?_; rintro e w' ⟨rfl, rfl⟩)
    | (go_at_call 18; with_reducible refine (endsX_any _ _ _ b0 b1).mono ?_; rintro e w' ⟨rfl, rfl⟩)
    | (go_at_call 18; with_reducible refine (endsY_any _ _ _ b0 b1).mono ?_; rintro e w' ⟨rfl, rfl⟩)
    | (go_at_call 26; with_reducible refine (common_any _ _ _).mono ?_; rintro e w' ⟨rfl, rfl⟩))
  have hin := holdsX_int at0 a ((n : Int) % 33)
  have hco := holds_common (at0 &&& maskV ((n : Int) % 33)) a b0 b1
  have hsz := ends_size at0 b0 b1
  have hel := ends_le at0 ((n : Int) % 33)
  have hmz := may_zero (a := at0) b0 b1
  have hle : uv (at0 &&& maskV ((n : Int) % 33)) ≤ uv (highV at0 ((n : Int) % 33)) := by
    have h1 : (at0 &&& maskV ((n : Int) % 33)).toNat ≤ at0.toNat := hel.1
    unfold uv; omega
  have hh := uv_lt (highV at0 ((n : Int) % 33))
  have hx0 := uv_nonneg (at0 &&& maskV ((n : Int) % 33))
  have hsb : (uv (highV at0 ((n : Int) % 33)) - uv (at0 &&& maskV ((n : Int) % 33)) + 1 == P32 ((n : Int) % 33)) = true := by rw [beq_iff_eq]; exact hsz
  clear hel hsz
  have f0 : mayV (at0 &&& maskV ((n : Int) % 33)) ((n : Int) % 33) = 0 := (may_zero b0 b1).1.2 (by rw [BitVec.and_assoc, BitVec.and_self])
  have HM := Lib.hid (in64_33 n)
  generalize hm : (n : Int) % 33 = m at *
  clear hm
  generalize hx : at0 &&& maskV m = x at *
  generalize highV at0 m = hi at *
  clear hx
  have HLE := Lib.hid hle
  have HH := Lib.hid hh
  have HX0 := Lib.hid hx0
  clear hle hh hx0
  have pos : (uv a < uv x ∧ holdsV x m a = false ∧ commonV x a < m) ∨ (uv x ≤ uv a ∧ uv hi < uv a ∧ holdsV x m a = false ∧ commonV x a < m) ∨ (uv x ≤ uv a ∧ uv a ≤ uv hi ∧ holdsV x m a = true ∧ m ≤ commonV x a) := by
    cases e : holdsV x m a with
    | false =>
      rw [e] at hco hin
      have h1 := of_decide_eq_false hco.symm
      have h2 : ¬ (uv x ≤ uv a ∧ uv a ≤ uv hi) := fun h => by have := hin.2 h; cases this
      rcases Int.lt_or_le (uv a) (uv x) with g | g
      · exact .inl ⟨g, rfl, by omega⟩
      · exact .inr (.inl ⟨g, by omega, rfl, by omega⟩)
    | true =>
      rw [e] at hco hin
      have h1 := of_decide_eq_true hco.symm
      have h2 := hin.1 rfl
      exact .inr (.inr ⟨h2.1, h2.2, rfl, h1⟩)
  clear hin hco
  have his : (mayV at0 m = 0 ∧ (at0 == x) = true) ∨ (mayV at0 m = 8 ∧ (at0 == x) = false) := by
    rcases hmz.2 with h | h
    · exact .inl ⟨h, by simpa using hmz.1.1 h⟩
    · refine .inr ⟨h, ?_⟩
      rw [beq_eq_false_iff_ne]
      intro e
      have := hmz.1.2 e
      omega
  clear hmz
  have sub : ∃ D : Int, IntKind.u64.wrap (uv hi - uv x) = D ∧ IntKind.u64.wrap (D + 1) = D + 1 ∧ (D + 1 == P32 m) = true ∧ IntKind.u64.wrap (2 ^ (32 - m).toNat) = P32 m := by
    have h1 := HLE.out
    have h2 := HH.out
    have h3 := HX0.out
    exact ⟨uv hi - uv x, by rw [IntKind.wrap_u64]; omega, by rw [IntKind.wrap_u64]; omega, hsb, by
      have h4 := P32_le b0 b1
      show IntKind.u64.wrap (P32 m) = P32 m
      rw [IntKind.wrap_u64, Int.emod_eq_of_lt (by omega) (by omega)]⟩
  have SUB := Lib.hid sub
  clear hsb sub HLE HH HX0
  have pos2 : (decide (uv x ≤ uv a) = false ∧ holdsV x m a = false ∧ decide (m ≤ commonV x a) = false) ∨ (decide (uv x ≤ uv a) = true ∧ decide (uv a ≤ uv hi) = false ∧ holdsV x m a = false ∧ decide (m ≤ commonV x a) = false) ∨
      (decide (uv x ≤ uv a) = true ∧ decide (uv a ≤ uv hi) = true ∧ holdsV x m a = true ∧ decide (m ≤ commonV x a) = true) := by
    rcases pos with ⟨g1, e1, e2⟩ | ⟨g1, g2, e1, e2⟩ | ⟨g1, g2, e1, e2⟩
    · exact .inl ⟨decide_eq_false (by omega), e1, decide_eq_false (by omega)⟩
    · exact .inr (.inl ⟨decide_eq_true g1, decide_eq_false (by omega), e1, decide_eq_false (by omega)⟩)
    · exact .inr (.inr ⟨decide_eq_true g1, decide_eq_true g2, e1, decide_eq_true e2⟩)
  clear pos
  rcases pos2 with ⟨g1, e1, e2⟩ | ⟨g1, g2, e1, e2⟩ | ⟨g1, g2, e1, e2⟩
  all_goals
    rcases his with ⟨f1, f2⟩ | ⟨f1, f2⟩
    all_goals
      go_wp2_with fail
      refine (may_any _ _ _ HM.out).mono ?_; rintro e w' ⟨rfl, rfl⟩
      go_wp2_with fail
      refine (holds_any _ _ _ _ HM.out).mono ?_; rintro e w' ⟨rfl, rfl⟩
      go_wp2_with fail
      refine (holds_any _ _ _ _ HM.out).mono ?_; rintro e w' ⟨rfl, rfl⟩
      clear g1
      try clear g2
      obtain ⟨D, s1, s2, s3, s4⟩ := SUB.out
      go_wp2_with fail
      refine (may_any _ _ _ HM.out).mono ?_; rintro e w' ⟨rfl, rfl⟩
      go_wp2
      go_ret
      exact ⟨rfl, hx1⟩
end Go.Proofs.YtfafoiglllfpgaaDoor
