/- The law PrefixHalves: the walk. Conditions: the library's table of powers of ten reads as it is laid. -/
import Derived.Test.YtfafoiglllfpgaaDoorEndsLaw
import Derived.Test.YtfafoiglllfpgaaDoorOrderLaw
namespace Go.Proofs.YtfafoiglllfpgaaDoor
open Go.RowKit

theorem in64_32 (n : Nat) : In64 ((n : Int) % 32) := by unfold In64; omega
/-- What the law asks of a prefix x of m bits, and of y, its upper half. -/
structure Halves (x y : BitVec 32) (m : Int) : Prop where
  l1 : lowV x m = x
  l2 : lowV x (m + 1) = x
  l3 : lowV y (m + 1) = y
  h3 : highV y (m + 1) = highV x m
  mid : (y == highV x (m + 1) + 1#32) = true
  may : mayV y (m + 1) = 0
  lt : uv x < uv y
  one : ∀ a, (holdsV x (m + 1) a = true ∧ holdsV y (m + 1) a = false ∧ holdsV x m a = true) ∨ (holdsV x (m + 1) a = false ∧ holdsV y (m + 1) a = true ∧ holdsV x m a = true) ∨
    (holdsV x (m + 1) a = false ∧ holdsV y (m + 1) a = false ∧ holdsV x m a = false)
set_option maxHeartbeats 2000000 in
theorem halves_mk (a : BitVec 32) {m : Int} (h0 : 0 ≤ m) (h1 : m ≤ 31) : Halves (a &&& maskV m) (a &&& maskV m ||| (1#32 <<< (31 - m.toNat))) m := by
  have c0 : clamp m = m.toNat := clamp_of h0 (by omega)
  have c1 : clamp (m + 1) = m.toNat + 1 := by rw [clamp_of (by omega) (by omega)]; omega
  obtain ⟨k, hk⟩ : ∃ k, k = 31 - m.toNat := ⟨_, rfl⟩
  have e0 : 32 - clamp m = k + 1 := by omega
  have e1 : 32 - clamp (m + 1) = k := by omega
  rw [← hk]
  have ex := low_nat a m
  have ex' : (a &&& maskV m).toNat = a.toNat / 2 ^ (32 - clamp m) * 2 ^ (32 - clamp m) := ex
  rw [e0] at ex'
  have hs := Nat.two_pow_pos k
  have h2s : 2 ^ (k + 1) = 2 ^ k * 2 := Nat.pow_succ 2 k
  have ey : (a &&& maskV m ||| (1#32 <<< k)).toNat = (a &&& maskV m).toNat + 2 ^ k := by
    rw [BitVec.toNat_or, ex', BitVec.toNat_shiftLeft, Nat.shiftLeft_eq]
    have hlt : 2 ^ k < 2 ^ 32 := Nat.pow_lt_pow_right (by omega) (by omega)
    have e : (1#32).toNat * 2 ^ k % 2 ^ 32 = 2 ^ k := by
      show 1 * 2 ^ k % 2 ^ 32 = 2 ^ k
      rw [Nat.one_mul, Nat.mod_eq_of_lt hlt]
    rw [e]
    have := Nat.shiftLeft_add_eq_or_of_lt (b := 2 ^ k) (i := k + 1) (by omega) (a.toNat / 2 ^ (k + 1))
    rw [Nat.shiftLeft_eq] at this
    exact this.symm
  generalize hx : a &&& maskV m = x at *
  generalize hy : x ||| (1#32 <<< k) = y at *
  obtain ⟨X, hX⟩ : ∃ X, x.toNat = X * 2 ^ k * 2 := ⟨_, by rw [ex', h2s, Nat.mul_assoc]⟩
  have L1 := low_nat x m
  have L2 := low_nat x (m + 1)
  have L3 := low_nat y (m + 1)
  have H1 := high_nat x m
  have H2 := high_nat x (m + 1)
  have H3 := high_nat y (m + 1)
  rw [e0] at L1 H1
  rw [e1] at L2 L3 H2 H3
  have d1 : x.toNat / 2 ^ (k + 1) * 2 ^ (k + 1) = x.toNat := Nat.div_mul_cancel ⟨X, by rw [hX, h2s, Nat.mul_assoc, Nat.mul_comm]⟩
  have d2 : x.toNat / 2 ^ k * 2 ^ k = x.toNat := Nat.div_mul_cancel ⟨X * 2, by rw [hX, Nat.mul_assoc, Nat.mul_left_comm]⟩
  have d3 : y.toNat / 2 ^ k * 2 ^ k = y.toNat := Nat.div_mul_cancel ⟨X * 2 + 1, by rw [ey, hX, Nat.mul_add, Nat.mul_assoc, Nat.mul_left_comm, Nat.mul_one]⟩
  rw [d1] at L1 H1
  rw [d2] at L2 H2
  rw [d3] at L3 H3
  generalize 2 ^ k = s at *
  have g1 := fun b => holds_ends x b m
  have g2 := fun b => holds_ends x b (m + 1)
  have g3 := fun b => holds_ends y b (m + 1)
  have hh : highV y (m + 1) = highV x m := BitVec.eq_of_toNat_eq (by omega)
  refine ⟨BitVec.eq_of_toNat_eq L1, BitVec.eq_of_toNat_eq L2, BitVec.eq_of_toNat_eq L3, hh, ?_, ?_, ?_, ?_⟩
  · rw [beq_iff_eq]
    apply BitVec.eq_of_toNat_eq
    rw [BitVec.toNat_add, H2, ey]
    have := y.isLt
    have e : (1#32).toNat = 1 := rfl
    rw [e]; omega
  · exact (may_zero (by omega) (by omega)).1.2 (by
      have := BitVec.eq_of_toNat_eq L3
      exact this.symm)
  · unfold uv; omega
  · intro b
    have k1 := g1 b
    have k2 := g2 b
    have k3 := g3 b
    rw [L1, H1] at k1
    rw [L2, H2] at k2
    rw [L3, H3] at k3
    rcases Nat.lt_or_ge b.toNat x.toNat with z | z
    · refine .inr (.inr ⟨?_, ?_, ?_⟩)
      · rw [Bool.eq_false_iff]; intro e; have := k2.1 e; omega
      · rw [Bool.eq_false_iff]; intro e; have := k3.1 e; omega
      · rw [Bool.eq_false_iff]; intro e; have := k1.1 e; omega
    · rcases Nat.lt_or_ge b.toNat y.toNat with z2 | z2
      · refine .inl ⟨k2.2 (by omega), ?_, k1.2 (by omega)⟩
        rw [Bool.eq_false_iff]; intro e; have := k3.1 e; omega
      · rcases Nat.lt_or_ge b.toNat (y.toNat + s) with z3 | z3
        · refine .inr (.inl ⟨?_, k3.2 (by omega), k1.2 (by omega)⟩)
          rw [Bool.eq_false_iff]; intro e; have := k2.1 e; omega
        · refine .inr (.inr ⟨?_, ?_, ?_⟩)
          · rw [Bool.eq_false_iff]; intro e; have := k2.1 e; omega
          · rw [Bool.eq_false_iff]; intro e; have := k3.1 e; omega
          · rw [Bool.eq_false_iff]; intro e; have := k1.1 e; omega
theorem pow_mod (k : Nat) : (2 : Int) ^ k % 4294967296 = ((1 % 2 ^ 32 * 2 ^ k % 2 ^ 32 : Nat) : Int) := by
  have h : (2 : Int) ^ k = ((2 ^ k : Nat) : Int) := by simp
  rw [h]
  generalize 2 ^ k = s
  omega
theorem pow_uv (k : Nat) : (2 : Int) ^ k % 4294967296 = uv (1#32 <<< k) := by
  rw [pow_mod]
  unfold uv
  rw [BitVec.toNat_shiftLeft, Nat.shiftLeft_eq, BitVec.toNat_ofNat]
theorem or_pow (x : BitVec 32) (k : Nat) : bits .or .u32 (uv x) (2 ^ k % 4294967296) = uv (x ||| (1#32 <<< k)) := by
  rw [pow_uv, bits_or_uv]
theorem endsZ_any (a : BitVec 32) (m : Int) (lo hi : BitVec 32) (w : World) (h : In64 m) (h1 : lowV a m = lo) (h2 : highV a m = hi) : Calls Tryd.prog 18 #[U a, I m] w fun e w' => e = .returned (.tuple #[U lo, U hi]) ∧ w = w' :=
  (ends_any a m w h).mono fun _ _ ⟨he, hw⟩ => ⟨by rw [he, h1, h2], hw⟩
set_option maxRecDepth 100000 in
set_option maxHeartbeats 2000000 in
theorem prefixHalves_any (at0 : BitVec 32) (n : Nat) (a : BitVec 32) (w : World) (hn : n < 256) (ht : Tab10 w) :
    Calls Tryd.prog 13 #[U at0, .int .u8 n, U a] w fun e w' => e = .returned (.bool true) ∧ Ext w w' := by
  have b0 : 0 ≤ (n : Int) % 32 := by omega
  have b1 : (n : Int) % 32 ≤ 31 := by omega
  go_enter Tryd.func13, Tryd.ntmps13
  go_upto_region 5 with (first
    | (go_at_call 16; with_reducible refine (shown06_any _ ht).mono ?_; rintro e w1 ⟨rfl, hx1⟩)
    | (go_at_call 17; with_reducible refine (mask_any _ _ (in64_32 n)).mono ?_; rintro e w' ⟨rfl, rfl⟩))
  have HV := Lib.hid (halves_mk at0 b0 b1)
  simp only [or_pow]
  rw [show ((n : Int) % 32).toNat = n % 32 by omega] at HV
  have HM := Lib.hid (in64_32 n)
  generalize (n : Int) % 32 = m at *
  generalize at0 &&& maskV m = x at *
  generalize x ||| (1#32 <<< (31 - n % 32)) = y at *
  have HM1 := Lib.hid (show In64 (m + 1) by unfold In64; omega)
  have f1 := cmp_ml (p := x) (show m < m + 1 by omega)
  have f2 := cmp_lt (m := m + 1) (k := m + 1) HV.out.lt
  have f3 := HV.out.mid
  have f4 := HV.out.may
  have hone := HV.out.one a
  generalize hmid : highV x (m + 1) = mid at *
  generalize hhi : highV x m = hi at *
  have E1 := Lib.hid hmid
  have E2 := Lib.hid hhi
  have E3 := Lib.hid (HV.out.h3.trans hhi)
  clear hmid hhi
  rcases hone with ⟨o1, o2, o3⟩ | ⟨o1, o2, o3⟩ | ⟨o1, o2, o3⟩
  all_goals
    go_wp2_with (first
      | (go_at_call 18; with_reducible refine (endsZ_any x m x hi _ HM.out HV.out.l1 E2.out).mono ?_; rintro e w' ⟨rfl, rfl⟩)
      | (go_at_call 18; with_reducible refine (endsZ_any x (m + 1) x mid _ HM1.out HV.out.l2 E1.out).mono ?_; rintro e w' ⟨rfl, rfl⟩)
      | (go_at_call 18; with_reducible refine (endsZ_any y (m + 1) y hi _ HM1.out HV.out.l3 E3.out).mono ?_; rintro e w' ⟨rfl, rfl⟩)
      | (go_at_call 19; with_reducible refine (holds_any _ _ _ _ HM.out).mono ?_; rintro e w' ⟨rfl, rfl⟩)
      | (go_at_call 19; with_reducible refine (holds_any _ _ _ _ HM1.out).mono ?_; rintro e w' ⟨rfl, rfl⟩)
      | (go_at_call 27; with_reducible refine (may_any _ _ _ HM1.out).mono ?_; rintro e w' ⟨rfl, rfl⟩)
      | (go_at_call 28; with_reducible refine (prefCompare_any _ _ _ _ _).mono ?_; rintro e w' ⟨rfl, rfl⟩))
    go_ret
    exact ⟨rfl, hx1⟩
end Go.Proofs.YtfafoiglllfpgaaDoor
