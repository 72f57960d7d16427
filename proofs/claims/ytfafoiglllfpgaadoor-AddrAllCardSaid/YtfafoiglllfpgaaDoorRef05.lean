/- The reference of addresses: bits, how many are alike, texts. Conditions: the library's table of powers of ten reads as it is laid. -/
import Derived.Test.YtfafoiglllfpgaaDoorParse
import Derived.Test.YtfafoiglllfpgaaDoorBits0
namespace Go.Proofs.YtfafoiglllfpgaaDoor
open Go.RowKit

theorem r05Bit_any (a : BitVec 32) (i : Int) (w : World) (h : In64 i) :
    Calls Tryd.prog 30 #[U a, I i] w fun e w' => e = .returned (I (bitV a i)) ∧ w = w' := by
  obtain ⟨h0, h1⟩ := h
  by_cases hn : i < 0
  · have H := Lib.hid (show bitV a i = 0 by unfold bitV; rw [if_pos (.inl hn)])
    go_enter Tryd.func30, Tryd.ntmps30
    go_wp2
    go_ret
    exact ⟨ret_int H.out.symm, rfl⟩
  · by_cases hm : 31 < i
    · have H := Lib.hid (show bitV a i = 0 by unfold bitV; rw [if_pos (.inr hm)])
      go_enter Tryd.func30, Tryd.ntmps30
      go_wp2
      go_ret
      exact ⟨ret_int H.out.symm, rfl⟩
    · have H := Lib.hid (show bitV a i = uv ((a >>> (31 - i).toNat) &&& 1#32) by unfold bitV; rw [if_neg (by omega)])
      go_enter Tryd.func30, Tryd.ntmps30
      go_wp2
      go_ret
      exact ⟨ret_int H.out.symm, rfl⟩

theorem bit_nat (a : BitVec 32) {k : Nat} (hk : k < 32) : bitV a k = if a.getMsbD k then 1 else 0 := by
  rw [bit_msb a k (by omega) (by omega), Int.toNat_natCast]
theorem bit_same {a b : BitVec 32} {k : Nat} (hk : k < 32) : bitV a k = bitV b k ↔ a.getMsbD k = b.getMsbD k := by
  rw [bit_nat a hk, bit_nat b hk]
  cases a.getMsbD k <;> cases b.getMsbD k <;> simp
theorem common_le_of {a b : BitVec 32} {k : Nat} (hk : k ≤ 32) (h : ∀ i : Nat, i < k → bitV a i = bitV b i) (he : k = 32 ∨ bitV a k ≠ bitV b k) : commonV a b = k := by
  have hb := common_bd a b
  have hm := common_msb a b
  rcases Int.lt_trichotomy (commonV a b) k with g | g | g
  · exfalso
    have h1 := hm.2 (by omega)
    have h2 := h (commonV a b).toNat (by omega)
    exact h1 ((bit_same (by omega)).1 h2)
  · exact g
  · exfalso
    rcases he with e | e
    · omega
    · exact e ((bit_same (by omega)).2 (hm.1 k (by omega)))
theorem below_snoc {P : Nat → Prop} {k : Nat} (h : ∀ j : Nat, j < k → P j) (hk : P k) : ∀ j : Nat, j < k + 1 → P j := fun j hj => by
  rcases Nat.lt_or_eq_of_le (Nat.le_of_lt_succ hj) with g | g
  · exact h j g
  · subst g; exact hk
set_option maxHeartbeats 400000 in
theorem r05Common_any (a b : BitVec 32) (w : World) :
    Calls Tryd.prog 32 #[U a, U b] w fun e w' => e = .returned (I (commonV a b)) ∧ w = w' := by
  go_enter Tryd.func32, Tryd.ntmps32
  go_wp2_with fail
  go_loop [5] (fun i => ∃ k : Nat, k ≤ 32 ∧ i = I k ∧ Hid (∀ j : Nat, j < k → bitV a j = bitV b j)) (fun i => 32 - (intOf i).toNat)
  case atStart => exact ⟨0, by omega, rfl, fun j hj => by omega⟩
  case round =>
    obtain ⟨k, hk, rfl, HB⟩ := hrel
    by_cases hlt : k < 32
    · have hin : In64 k := by unfold In64; omega
      by_cases he : bitV a k = bitV b k
      · have hd : (bitV a k == bitV b k) = true := by simpa using he
        have HE := Lib.hid (below_snoc HB.out he)
        clear he
        go_wp2_with (first | (go_at_call 30; with_reducible refine (r05Bit_any _ _ _ hin).mono ?_; rintro e w' ⟨rfl, rfl⟩))
        go_round
        case rel => exact ⟨k + 1, by omega, by go_num, HE.out⟩
        case measure => simp [intOf]; omega
      · have hd : (bitV a k == bitV b k) = false := by simpa using he
        have HC := Lib.hid (common_le_of hk HB.out (.inr he))
        clear he
        go_wp2_with (first | (go_at_call 30; with_reducible refine (r05Bit_any _ _ _ hin).mono ?_; rintro e w' ⟨rfl, rfl⟩))
        go_ret
        exact ⟨ret_int HC.out.symm, rfl⟩
    · have HC := Lib.hid (common_le_of hk HB.out (.inl (by omega)))
      go_wp2
      go_ret
      exact ⟨ret_int HC.out.symm, rfl⟩

/-- The text so far of the reference, when j bytes have been told. -/
def sufTo (a j : Nat) : List UInt8 :=
  match j with
  | 0 => []
  | 1 => dd (byteK a 0)
  | 2 => dd (byteK a 1) ++ 46 :: dd (byteK a 0)
  | 3 => dd (byteK a 2) ++ 46 :: (dd (byteK a 1) ++ 46 :: dd (byteK a 0))
  | _ => prN a
theorem sufTo_len (a j : Nat) : (sufTo a j).length ≤ 15 := by
  have h1 := dd3 a 0
  have h2 := dd3 a 1
  have h3 := dd3 a 2
  unfold sufTo
  split
  · simp
  · omega
  · simp; omega
  · simp; omega
  · exact prN_len a
theorem byte_div (a k : Nat) : ((a / 256 ^ k : Nat) : Int) % 256 = (byteK a k : Nat) := by unfold byteK; omega
set_option maxHeartbeats 1000000 in
theorem r05Print_any (X : Nat) (hX : X < 4294967296) (w : World) (ht : Tab10 w) :
    Calls Tryd.prog 31 #[.int .u32 X] w fun e w' => e = .returned (S (prN X)) ∧ Ext w w' := by
  have HT := Lib.hid ht
  clear ht
  go_enter Tryd.func31, Tryd.ntmps31
  go_wp2_with fail
  go_loopw [0, 3, 4] (fun a t i wr => ∃ (j Y : Nat), j ≤ 4 ∧ i = I j ∧ Y < 4294967296 ∧ Hid (Y = X / 256 ^ j) ∧ a = .int .u32 Y ∧ t = S (sufTo X j) ∧ Ext w wr) (fun _ _ i _ => 4 - (intOf i).toNat)
  case atStart => exact ⟨0, X, by omega, rfl, hX, by show X = X / 256 ^ 0; simp, rfl, rfl, Ext.refl w⟩
  case round =>
    obtain ⟨j, Y, hj, rfl, hY, HY, rfl, rfl, hx⟩ := hrel
    have hl := sufTo_len X j
    by_cases hlt : j < 4
    · have hd := dd3 X j
      have hb := byteK_lt X j
      have HB := Lib.hid (show (Y : Int) % 256 = (byteK X j : Nat) by rw [HY.out]; exact byte_div X j)
      have HN := Lib.hid (show Y / 256 = X / 256 ^ (j + 1) by rw [HY.out, Nat.div_div_eq_div_mul, Nat.pow_succ])
      clear HY
      by_cases h0 : j = 0
      · subst h0
        go_wp2_with (first
          | (go_at_call 43; with_reducible refine (itoa_is (byteK X 0) _ _ HB.out (by omega) (HT.out.later hx)).mono ?_; rintro e w1 ⟨rfl, hx1⟩))
        go_roundw
        case rel => exact ⟨1, Y / 256, by omega, rfl, by omega, HN.out, by go_num, S_congr (by simp [sufTo]), hx.trans hx1⟩
        case measure => decide
      · have hz : 0 < j := by omega
        have HF := Lib.hid (show sufTo X (j + 1) = dd (byteK X j) ++ 46 :: sufTo X j by
          obtain rfl | rfl | rfl : j = 1 ∨ j = 2 ∨ j = 3 := by omega
          all_goals simp [sufTo, prN, join4])
        clear h0
        go_wp2_with (first
          | (go_at_call 43; with_reducible refine (itoa_is (byteK X j) _ _ HB.out (by omega) (HT.out.later hx)).mono ?_; rintro e w1 ⟨rfl, hx1⟩))
        go_roundw
        case rel => exact ⟨j + 1, Y / 256, by omega, by go_num, by omega, HN.out, by go_num, S_congr (by rw [HF.out]), hx.trans hx1⟩
        case measure => simp [intOf]; omega
    · have HF := Lib.hid (show sufTo X j = prN X by
        obtain rfl : j = 4 := (by omega)
        rfl)
      go_wp2
      go_ret
      exact ⟨ret_S HF.out, hx⟩
end Go.Proofs.YtfafoiglllfpgaaDoor
