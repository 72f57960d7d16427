/- The text of an address. Conditions: the library's table of powers of ten reads as it is laid. -/
import Derived.Test.YtfafoiglllfpgaaDoorItoa
namespace Go.Proofs.YtfafoiglllfpgaaDoor
open Go.RowKit

@[go_sem high] theorem strApp (a b : List UInt8) : (⟨a.toArray⟩ : ByteArray) ++ ⟨b.toArray⟩ = ⟨(a ++ b).toArray⟩ := by
  apply ByteArray.ext; simp
theorem byte_uv (a : BitVec 32) (k : Nat) : uv ((a >>> (8 * k)) &&& BitVec.ofInt 32 255) = (byteK a.toNat k : Int) := by
  unfold uv byteK
  rw [BitVec.toNat_and, BitVec.toNat_ushiftRight, Nat.shiftRight_eq_div_pow, show (BitVec.ofInt 32 255).toNat = 2 ^ 8 - 1 from rfl, Nat.and_two_pow_sub_one_eq_mod, Nat.pow_mul]
theorem wrap64_uv (a : BitVec 32) : wrap64 (uv a) = uv a := by have := uv_bd a; unfold wrap64; omega
theorem byte_lit3 (a : BitVec 32) : wrap64 (bits .and .u32 (uv a / (16777216 : Int)) 255) = (byteK a.toNat 3 : Nat) := by
  have e : uv a / (16777216 : Int) = uv (a >>> 24) := div_uv a 24
  rw [e, bits_and_uv_lit]; refine (wrap64_uv _).trans ?_; exact byte_uv a 3
theorem byte_lit2 (a : BitVec 32) : wrap64 (bits .and .u32 (uv a / (65536 : Int)) 255) = (byteK a.toNat 2 : Nat) := by
  have e : uv a / (65536 : Int) = uv (a >>> 16) := div_uv a 16
  rw [e, bits_and_uv_lit]; refine (wrap64_uv _).trans ?_; exact byte_uv a 2
theorem byte_lit1 (a : BitVec 32) : wrap64 (bits .and .u32 (uv a / (256 : Int)) 255) = (byteK a.toNat 1 : Nat) := by
  have e : uv a / (256 : Int) = uv (a >>> 8) := div_uv a 8
  rw [e, bits_and_uv_lit]; refine (wrap64_uv _).trans ?_; exact byte_uv a 1
theorem byte_lit0 (a : BitVec 32) : uv (a &&& 255#32) = (byteK a.toNat 0 : Nat) := by
  have := byte_uv a 0
  simpa using this
theorem itoa_is (n : Nat) (x : Int) (w : World) (h : x = n) (hn : n < 9223372036854775808) (ht : Tab10 w) :
    Calls Tryd.prog 43 #[I x] w fun e w' => e = .returned (S (dd n)) ∧ Ext w w' := by subst h; exact itoaN_any n w hn ht
/-- The text so far, when j bytes have been told. -/
def prTo (a j : Nat) : List UInt8 :=
  match j with
  | 0 => []
  | 1 => dd (byteK a 3) ++ [46]
  | 2 => (dd (byteK a 3) ++ [46]) ++ dd (byteK a 2) ++ [46]
  | 3 => ((dd (byteK a 3) ++ [46]) ++ dd (byteK a 2) ++ [46]) ++ dd (byteK a 1) ++ [46]
  | _ => prN a
theorem dd3 (a k : Nat) : (dd (byteK a k)).length ≤ 3 := dd_len 3 (by omega) (by have := byteK_lt a k; omega)
theorem prTo_len (a j : Nat) : (prTo a j).length ≤ 15 := by
  have h1 := dd3 a 3
  have h2 := dd3 a 2
  have h3 := dd3 a 1
  unfold prTo
  split
  · simp
  · simp; omega
  · simp; omega
  · simp; omega
  · exact prN_len a
theorem ret_S {a b : List UInt8} (h : a = b) : Ending.returned (S a) = Ending.returned (S b) := by rw [h]
theorem S_congr {a b : List UInt8} (h : a = b) : S a = S b := by rw [h]
set_option maxHeartbeats 1000000 in
theorem print_any (a : BitVec 32) (w : World) (ht : Tab10 w) :
    Calls Tryd.prog 22 #[U a] w fun e w' => e = .returned (S (prN a.toNat)) ∧ Ext w w' := by
  have HT := Lib.hid ht
  clear ht
  go_enter Tryd.func22, Tryd.ntmps22
  go_wp2_with fail
  go_loopw [3, 4] (fun t i wr => ∃ j : Nat, j ≤ 4 ∧ i = I (24 - 8 * j) ∧ t = S (prTo a.toNat j) ∧ Ext w wr) (fun _ i _ => (intOf i + 8).toNat)
  case atStart => exact ⟨0, by omega, rfl, rfl, Ext.refl w⟩
  case round =>
    obtain ⟨j, hj, rfl, rfl, hx⟩ := hrel
    have hl := prTo_len a.toNat j
    obtain rfl | rfl | rfl | rfl | rfl : j = 0 ∨ j = 1 ∨ j = 2 ∨ j = 3 ∨ j = 4 := by omega
    · have hd := dd3 a.toNat 3
      go_wp2_with (first
        | (go_at_call 43; with_reducible refine (itoa_is (byteK a.toNat 3) _ _ (byte_lit3 a) (by have := byteK_lt a.toNat 3; omega) (HT.out.later hx)).mono ?_; rintro e w1 ⟨rfl, hx1⟩))
      go_roundw
      case rel => exact ⟨1, by omega, rfl, rfl, hx.trans hx1⟩
      case measure => decide
    · have hd := dd3 a.toNat 2
      go_wp2_with (first
        | (go_at_call 43; with_reducible refine (itoa_is (byteK a.toNat 2) _ _ (byte_lit2 a) (by have := byteK_lt a.toNat 2; omega) (HT.out.later hx)).mono ?_; rintro e w1 ⟨rfl, hx1⟩))
      go_roundw
      case rel => exact ⟨2, by omega, rfl, S_congr (by simp [prTo]), hx.trans hx1⟩
      case measure => decide
    · have hd := dd3 a.toNat 1
      go_wp2_with (first
        | (go_at_call 43; with_reducible refine (itoa_is (byteK a.toNat 1) _ _ (byte_lit1 a) (by have := byteK_lt a.toNat 1; omega) (HT.out.later hx)).mono ?_; rintro e w1 ⟨rfl, hx1⟩))
      go_roundw
      case rel => exact ⟨3, by omega, rfl, S_congr (by simp [prTo]), hx.trans hx1⟩
      case measure => decide
    · have hd := dd3 a.toNat 0
      go_wp2_with (first
        | (go_at_call 43; with_reducible refine (itoa_is (byteK a.toNat 0) _ _ (byte_lit0 a) (by have := byteK_lt a.toNat 0; omega) (HT.out.later hx)).mono ?_; rintro e w1 ⟨rfl, hx1⟩))
      go_roundw
      case rel => exact ⟨4, by omega, rfl, S_congr (by unfold prTo prN join4; simp), hx.trans hx1⟩
      case measure => decide
    · go_wp2
      go_ret
      exact ⟨rfl, hx⟩
end Go.Proofs.YtfafoiglllfpgaaDoor
