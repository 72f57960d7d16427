/- The law AddrTurns: the walk. Conditions: the library's table of powers of ten reads as it is laid. -/
import Derived.Test.YtfafoiglllfpgaaDoorShown05
import Derived.Test.YtfafoiglllfpgaaDoorHalves
namespace Go.Proofs.YtfafoiglllfpgaaDoor
open Go.RowKit

theorem xor_pow (x : BitVec 32) (k : Nat) : bits .xor .u32 (uv x) (2 ^ k % 4294967296) = uv (x ^^^ (1#32 <<< k)) := by
  rw [pow_uv, bits_xor_uv]
theorem bitV_out (a : BitVec 32) {i : Int} (h : i < 0 ∨ 31 < i) : bitV a i = 0 := by unfold bitV; rw [if_pos h]
theorem turn_msb (a : BitVec 32) {k : Nat} (hk : k < 32) {i : Nat} (hi : i < 32) : (a ^^^ (1#32 <<< (31 - k))).getMsbD i = (a.getMsbD i ^^ decide (i = k)) := by
  rw [BitVec.getMsbD_xor]
  congr 1
  rw [BitVec.getMsbD_eq_getLsbD, BitVec.getLsbD_shiftLeft, BitVec.getLsbD_one]
  by_cases e : i = k
  · subst e
    simp; omega
  · rw [decide_eq_false e]
    simp; omega
theorem turn_common (a : BitVec 32) {k : Nat} (hk : k < 32) : commonV a (a ^^^ (1#32 <<< (31 - k))) = k := by
  refine common_le_of (by omega) (fun i hi => ?_) (.inr ?_)
  · rw [bit_same (by omega), turn_msb a hk (by omega), decide_eq_false (by omega)]; simp
  · rw [Ne, bit_same hk, turn_msb a hk hk, decide_eq_true rfl]; cases a.getMsbD k <;> simp
theorem turn_bit (a : BitVec 32) {k : Nat} (hk : k < 32) : (bitV a k != bitV (a ^^^ (1#32 <<< (31 - k))) k) = true := by
  rw [bne_iff_ne, Ne, bit_same hk, turn_msb a hk hk, decide_eq_true rfl]; cases a.getMsbD k <;> simp
theorem turn_text (a : BitVec 32) {k : Nat} (hk : k < 32) : (prN a.toNat == prN (a ^^^ (1#32 <<< (31 - k))).toNat) = false := by
  rw [beq_eq_false_iff_ne]
  intro e
  have h1 := prN_inj a.isLt (a ^^^ (1#32 <<< (31 - k))).isLt e
  have h2 := turn_bit a hk
  rw [← BitVec.eq_of_toNat_eq h1] at h2
  simp at h2
set_option maxRecDepth 100000 in
set_option maxHeartbeats 2000000 in
theorem addrTurns_any (a : BitVec 32) (n : Nat) (w : World) (hn : n < 256) (ht : Tab10 w) :
    Calls Tryd.prog 12 #[U a, .int .u8 n] w fun e w' => e = .returned (.bool true) ∧ Ext w w' := by
  have HT := Lib.hid ht
  clear ht
  have b0 : 0 ≤ (n : Int) % 32 := by omega
  have b1 : (n : Int) % 32 ≤ 31 := by omega
  go_enter Tryd.func12, Tryd.ntmps12
  go_upto_region 4 with (first
    | (go_at_call 21; with_reducible refine (shown05_any _ HT.out).mono ?_; rintro e w1 ⟨rfl, hx1⟩))
  simp only [xor_pow]
  have hk : n % 32 < 32 := Nat.mod_lt _ (by omega)
  have f1 := turn_common a hk
  have f2 := turn_bit a hk
  have f3 := turn_text a hk
  have f4 : bitV a (32 + (n : Int) % 32) = 0 := bitV_out a (.inr (by omega))
  have f5 : bitV a (-1 - (n : Int) % 32) = 0 := bitV_out a (.inl (by omega))
  rw [show ((n % 32 : Nat) : Int) = (n : Int) % 32 by omega] at f1 f2
  have HM := Lib.hid (in64_32 n)
  generalize a ^^^ (1#32 <<< (31 - n % 32)) = b at *
  have HM1 := Lib.hid (show In64 (32 + (n : Int) % 32) by unfold In64; omega)
  have HM2 := Lib.hid (show In64 (-1 - (n : Int) % 32) by unfold In64; omega)
  generalize (n : Int) % 32 = m at *
  go_wp2_with (first
    | (go_at_call 26; with_reducible refine (common_any _ _ _).mono ?_; rintro e w' ⟨rfl, rfl⟩)
    | (go_at_call 20; with_reducible refine (bit_any _ _ _ HM.out).mono ?_; rintro e w' ⟨rfl, rfl⟩)
    | (go_at_call 20; with_reducible refine (bit_any _ _ _ HM1.out).mono ?_; rintro e w' ⟨rfl, rfl⟩)
    | (go_at_call 20; with_reducible refine (bit_any _ _ _ HM2.out).mono ?_; rintro e w' ⟨rfl, rfl⟩)
    | (go_at_call 22; with_reducible refine (print_any a _ (HT.out.later hx1)).mono ?_; rintro e w2 ⟨rfl, hx2⟩)
    | (go_at_call 22; with_reducible refine (print_any b _ (HT.out.later (hx1.trans hx2))).mono ?_; rintro e w3 ⟨rfl, hx3⟩))
  go_ret
  exact ⟨rfl, hx1.trans (hx2.trans hx3)⟩
end Go.Proofs.YtfafoiglllfpgaaDoor
