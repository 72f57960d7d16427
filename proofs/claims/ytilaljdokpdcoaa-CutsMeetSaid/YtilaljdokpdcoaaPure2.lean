/- What the functions on addresses and prefixes compute, the second part: orders and bits. Conditions: whole numbers are within 64 bits. -/
import Derived.Test.YtilaljdokpdcoaaPure
namespace Go.Proofs.Ytilaljdokpdcoaa
open Go.RowKit

def cmpI (x y : Int) : Int := if x < y then -1 else if y < x then 1 else 0
theorem cmpU_any (a b : BitVec 32) (w : World) :
    Calls Try.prog 101 #[U a, U b] w fun e w' => e = .returned (I (cmpI (uv a) (uv b))) ∧ w = w' := by
  rcases Int.lt_trichotomy (uv a) (uv b) with h | h | h
  · have H := Lib.hid (show cmpI (uv a) (uv b) = -1 by unfold cmpI; rw [if_pos h])
    go_enter Try.func101, Try.ntmps101
    go_wp2
    go_ret
    exact ⟨ret_int H.out.symm, rfl⟩
  · have H := Lib.hid (show cmpI (uv a) (uv b) = 0 by unfold cmpI; rw [if_neg (by omega), if_neg (by omega)])
    have hab := uv_inj h
    subst hab
    go_enter Try.func101, Try.ntmps101
    go_wp2
    go_ret
    exact ⟨ret_int H.out.symm, rfl⟩
  · have H := Lib.hid (show cmpI (uv a) (uv b) = 1 by unfold cmpI; rw [if_neg (by omega), if_pos h])
    go_enter Try.func101, Try.ntmps101
    go_wp2
    go_ret
    exact ⟨ret_int H.out.symm, rfl⟩
theorem cmpI_any (a b : Int) (w : World) :
    Calls Try.prog 53 #[I a, I b] w fun e w' => e = .returned (I (cmpI a b)) ∧ w = w' := by
  rcases Int.lt_trichotomy a b with h | h | h
  · have H := Lib.hid (show cmpI a b = -1 by unfold cmpI; rw [if_pos h])
    go_enter Try.func53, Try.ntmps53
    go_wp2
    go_ret
    exact ⟨ret_int H.out.symm, rfl⟩
  · have H := Lib.hid (show cmpI a b = 0 by unfold cmpI; rw [if_neg (by omega), if_neg (by omega)])
    subst h
    go_enter Try.func53, Try.ntmps53
    go_wp2
    go_ret
    exact ⟨ret_int H.out.symm, rfl⟩
  · have H := Lib.hid (show cmpI a b = 1 by unfold cmpI; rw [if_neg (by omega), if_pos h])
    go_enter Try.func53, Try.ntmps53
    go_wp2
    go_ret
    exact ⟨ret_int H.out.symm, rfl⟩

/-- How two prefixes stand. -/
def cmpV (a : BitVec 32) (m : Int) (b : BitVec 32) (n : Int) : Int := if a = b then cmpI m n else cmpI (uv a) (uv b)
theorem prefCompare_any (a b : BitVec 32) (m n : Int) (w : World) :
    Calls Try.prog 87 #[U a, I m, U b, I n] w fun e w' => e = .returned (I (cmpV a m b n)) ∧ w = w' := by
  by_cases h : a = b
  · subst h
    have H := Lib.hid (show cmpV a m a n = cmpI m n by unfold cmpV; rw [if_pos rfl])
    go_enter Try.func87, Try.ntmps87
    go_wp2_with (go_at_call 53; refine (cmpI_any _ _ _).mono ?_; rintro e w' ⟨rfl, rfl⟩)
    go_ret
    exact ⟨ret_int H.out.symm, rfl⟩
  · have H := Lib.hid (show cmpV a m b n = cmpI (uv a) (uv b) by unfold cmpV; rw [if_neg h])
    have hb : (a != b) = true := by simpa using h
    clear h
    go_enter Try.func87, Try.ntmps87
    go_wp2_with (go_at_call 101; refine (cmpU_any _ _ _).mono ?_; rintro e w' ⟨rfl, rfl⟩)
    go_ret
    exact ⟨ret_int H.out.symm, rfl⟩
theorem cmpV_eq (a b : BitVec 32) (m n : Int) : cmpV a m b n = if uv a < uv b ∨ a = b ∧ m < n then -1 else if a = b ∧ m = n then 0 else 1 := by
  by_cases h : a = b
  · subst h
    unfold cmpV cmpI
    have : ¬ uv a < uv a := by omega
    simp only [if_true, this, false_or, true_and]
    repeat' split <;> (try omega)
  · have hn : uv a ≠ uv b := fun e => h (uv_inj e)
    unfold cmpV cmpI
    simp only [h, if_false, false_and, or_false]
    repeat' split <;> (try omega)
theorem r06Compare_any (a b : BitVec 32) (m n : Int) (w : World) :
    Calls Try.prog 81 #[U a, I m, U b, I n] w fun e w' => e = .returned (I (cmpV a m b n)) ∧ w = w' := by
  by_cases h : a = b
  · subst h
    have hb : decide (uv a < uv a) = false := by simp
    rcases Int.lt_trichotomy m n with g | g | g
    · have H := Lib.hid (show cmpV a m a n = -1 by rw [cmpV_eq, if_pos (.inr ⟨rfl, g⟩)])
      go_enter Try.func81, Try.ntmps81
      go_wp2
      go_ret
      exact ⟨ret_int H.out.symm, rfl⟩
    · have H := Lib.hid (show cmpV a m a n = 0 by rw [cmpV_eq, if_neg (by omega), if_pos ⟨rfl, g⟩])
      subst g
      go_enter Try.func81, Try.ntmps81
      go_wp2
      go_ret
      exact ⟨ret_int H.out.symm, rfl⟩
    · have H := Lib.hid (show cmpV a m a n = 1 by rw [cmpV_eq, if_neg (by omega), if_neg (by omega)])
      go_enter Try.func81, Try.ntmps81
      go_wp2
      go_ret
      exact ⟨ret_int H.out.symm, rfl⟩
  · have hn : uv a ≠ uv b := fun e => h (uv_inj e)
    have hb : (a == b) = false := by simpa using h
    rcases Int.lt_trichotomy (uv a) (uv b) with g | g | g
    · have H := Lib.hid (show cmpV a m b n = -1 by rw [cmpV_eq, if_pos (.inl g)])
      clear hn h
      go_enter Try.func81, Try.ntmps81
      go_wp2
      go_ret
      exact ⟨ret_int H.out.symm, rfl⟩
    · exact absurd g hn
    · have H := Lib.hid (show cmpV a m b n = 1 by rw [cmpV_eq, if_neg (by rintro (q | q); omega; exact h q.1), if_neg (fun q => h q.1)])
      clear hn h
      go_enter Try.func81, Try.ntmps81
      go_wp2
      go_ret
      exact ⟨ret_int H.out.symm, rfl⟩

def bitV (a : BitVec 32) (i : Int) : Int := if i < 0 ∨ 31 < i then 0 else uv ((a >>> (31 - i).toNat) &&& 1#32)
@[go_sem high] theorem fdiv_uv (a : BitVec 32) (k : Nat) : (uv a).fdiv (2 ^ k) = uv (a >>> k) := by
  unfold uv
  rw [BitVec.toNat_ushiftRight, Nat.shiftRight_eq_div_pow, Int.fdiv_eq_ediv_of_nonneg _ (by exact Int.le_of_lt (Int.pow_pos (by omega)))]
  simp
@[go_sem high] theorem div_uv (a : BitVec 32) (k : Nat) : (uv a) / (2 ^ k) = uv (a >>> k) := by
  unfold uv
  rw [BitVec.toNat_ushiftRight, Nat.shiftRight_eq_div_pow]
  simp
theorem bit_any (a : BitVec 32) (i : Int) (w : World) (h : In64 i) :
    Calls Try.prog 78 #[U a, I i] w fun e w' => e = .returned (I (bitV a i)) ∧ w = w' := by
  obtain ⟨h0, h1⟩ := h
  by_cases hn : i < 0
  · have H := Lib.hid (show bitV a i = 0 by unfold bitV; rw [if_pos (.inl hn)])
    go_enter Try.func78, Try.ntmps78
    go_wp2
    go_ret
    exact ⟨ret_int H.out.symm, rfl⟩
  · by_cases hm : 31 < i
    · have H := Lib.hid (show bitV a i = 0 by unfold bitV; rw [if_pos (.inr hm)])
      go_enter Try.func78, Try.ntmps78
      go_wp2
      go_ret
      exact ⟨ret_int H.out.symm, rfl⟩
    · have H := Lib.hid (show bitV a i = uv ((a >>> (31 - i).toNat) &&& 1#32) by unfold bitV; rw [if_neg (by omega)])
      go_enter Try.func78, Try.ntmps78
      go_wp2
      go_ret
      exact ⟨ret_int H.out.symm, rfl⟩
end Go.Proofs.Ytilaljdokpdcoaa
