/- Text, Itoa, Addr: these texts in one. Conditions: each part names its own. -/
import Derived.Test.YtdpmnldmbnpfpaaGreatDoorGBase
import Derived.Lib.ItoaNum
import Derived.Test.YtdpmnldmbnpfpaaGreatDoorGPref
import Derived.Shelf.Strconv.Itoa3
import Derived.WalkSmall
import Derived.Lib.AppendIntMem
/- Plain facts on the texts of addresses: four numbers with dots between. Conditions: none. -/
namespace Go.Proofs.YtdpmnldmbnpfpaaGreatDoor
/-- The decimal digits of a number. -/
abbrev dd (n : Nat) : List UInt8 := Lib.decDigits n
theorem dd_1 {n : Nat} (h : n < 10) : dd n = [UInt8.ofNat (48 + n)] := by unfold dd; rw [Lib.decDigits, dif_pos h]
theorem dd_2 {n : Nat} (h : ¬ n < 10) : dd n = dd (n / 10) ++ [UInt8.ofNat (48 + n % 10)] := by unfold dd; rw [Lib.decDigits, dif_neg h]
def isDig (c : UInt8) : Bool := decide (48 <= c.toNat) && decide (c.toNat <= 57)
def dval (l : List UInt8) : Nat := l.foldl (fun v c => v * 10 + (c.toNat - 48)) 0
theorem dd_len {n : Nat} : ∀ k : Nat, 1 <= k -> n < 10 ^ k -> (dd n).length <= k := by
 intro k
 induction k generalizing n with
 | zero => intro h; omega
 | succ k ih =>
   intro _ hn
   by_cases h : n < 10
   · rw [dd_1 h]; simp
   · rw [dd_2 h, List.length_append]
     have hk : 1 <= k := by
      rcases Nat.eq_zero_or_pos k with e | e
      · subst e; simp at hn; omega
      · exact e
     have := ih (n := n / 10) hk (by rw [Nat.pow_succ] at hn; omega)
     simp; omega
/-- The four bytes of a number below 2^32. -/
def byteK (a k : Nat) : Nat := a / 256 ^ k % 256
def join4 (p q r s : List UInt8) : List UInt8 := p ++ 46 :: (q ++ 46 :: (r ++ 46 :: s))
def prN (a : Nat) : List UInt8 := join4 (dd (byteK a 3)) (dd (byteK a 2)) (dd (byteK a 1)) (dd (byteK a 0))
abbrev Digs (l : List UInt8) : Prop := ∀ c ∈ l, isDig c = true
theorem byteK_lt (a k : Nat) : byteK a k < 256 := Nat.mod_lt _ (by decide)
theorem prN_len (a : Nat) : (prN a).length <= 15 := by
 have h := fun k => dd_len (n := byteK a k) 3 (by omega) (by have := byteK_lt a k; omega)
 have h0 := h 0
 have h1 := h 1
 have h2 := h 2
 have h3 := h 3
 unfold prN join4
 simp only [List.length_append, List.length_cons]
 omega
/-- A text is read: the number so far, and the one that is begun. -/
def pstep (st : Nat × Nat) (c : UInt8) : Option (Nat × Nat) :=
 if c = 46 then some ((st.1 * 256 + st.2) % 4294967296, 0)
 else if isDig c then (if st.2 * 10 + (c.toNat - 48) > 255 then none else some (st.1, st.2 * 10 + (c.toNat - 48))) else none
/-- The reference's reading: whatever the bytes are. -/
def rstep (st : Nat × Nat) (c : UInt8) : Nat × Nat :=
 if c = 46 then ((st.1 * 256 + st.2) % 4294967296, 0) else (st.1, (st.2 * 10 + c.toNat + 4294967248) % 4294967296)
/-- What a text says: the address whose text it is. -/
def Says (l : List UInt8) (a : Nat) : Prop := a < 4294967296 /\ prN a = l
end Go.Proofs.YtdpmnldmbnpfpaaGreatDoor

/- The text of a whole number, and of an address. Conditions: the library's table of powers of ten reads as it is laid. -/
namespace Go.Proofs.YtdpmnldmbnpfpaaGreatDoor
open Go.RowKit

/-- The library's table reads as it is laid. -/
def Tab10 (w : World) : Prop := Lib.TabIs Tryz.prog w "internal/strconv.uint64pow10" .u64 Lib.pow10Tab
theorem gTab10 : (Tryz.prog.globalNamed "internal/strconv.uint64pow10").isSome = true := by kernel_rfl
theorem Tab10.later {w w' : World} (h : Tab10 w) (hx : Ext w w') : Tab10 w' := by
 obtain ⟨g, hg⟩ := Option.isSome_iff_exists.1 gTab10
 unfold Tab10 Lib.TabIs at *
 refine var?_below hx hg ?_ h
 unfold World.var? at h
 simp only [hg, Option.bind_some] at h
 rcases Nat.lt_or_ge g w.heap.size with k | k
 · exact k
 · rw [Array.getElem?_eq_none k] at h; cases h
theorem Ext.grown' {w : World} (k : Nat) (os : Array Obj) : Ext w (Sort.grow (w.drewN k) os) := Lib.below_grow _ w (Nat.le_refl _) k os
/-- A string's value, of its bytes. -/
abbrev S (l : List UInt8) : Value := .string ⟨l.toArray⟩
theorem itoa_nat (n : Nat) : Lib.itoa (n : Int) = dd n := by
 unfold Lib.itoa; rw [if_neg (by omega), Int.toNat_natCast]
theorem itoa_any (n : Int) (w : World) (h : In64 n) (ht : Tab10 w) :
 Calls Tryz.prog 39 #[I n] w fun e w' => e = .returned (S (Lib.itoa n)) /\ Ext w w' :=
 (Tryz.strconv_Itoa n h.1 h.2 w ht).mono fun e w' ⟨he, k, os, hw⟩ => ⟨he, by rw [hw]; exact Ext.grown' k os⟩
theorem itoaN_any (n : Nat) (w : World) (h : n < 9223372036854775808) (ht : Tab10 w) :
 Calls Tryz.prog 39 #[I n] w fun e w' => e = .returned (S (dd n)) /\ Ext w w' := by
 have := itoa_any n w ⟨by omega, by omega⟩ ht
 rwa [itoa_nat] at this
end Go.Proofs.YtdpmnldmbnpfpaaGreatDoor

/- The text of an address. Conditions: the library's table of powers of ten reads as it is laid. -/
namespace Go.Proofs.YtdpmnldmbnpfpaaGreatDoor
open Go.RowKit

@[go_sem high] theorem strApp (a b : List UInt8) : (⟨a.toArray⟩ : ByteArray) ++ ⟨b.toArray⟩ = ⟨(a ++ b).toArray⟩ := by
  apply ByteArray.ext; simp
theorem byte_uv (a : BitVec 32) (k : Nat) : uv ((a >>> (8 * k)) &&& BitVec.ofInt 32 255) = (byteK a.toNat k : Int) := by
 unfold uv byteK
 rw [BitVec.toNat_and, BitVec.toNat_ushiftRight, Nat.shiftRight_eq_div_pow, show (BitVec.ofInt 32 255).toNat = 2 ^ 8 - 1 from rfl, Nat.and_two_pow_sub_one_eq_mod, Nat.pow_mul]
theorem wrap64_uv (a : BitVec 32) : wrap64 (uv a) = uv a := by have := uv_bd a; unfold wrap64; omega
theorem byte_lit3 (a : BitVec 32) : wrap64 (bits .and .u32 (uv a / (16777216 : Int)) 255) = (byteK a.toNat 3 : Nat) := by
 have e : uv a / (16777216 : Int) = uv (a >>> 24) := div_uv a 24
 rw [e, bits_and_uv_lit]; refine (wrap64_uv _).trans ?_; exact byte_uv a 3
theorem byte_lit2 (a : BitVec 32) : wrap64 (bits .and .u32 (uv a / (65536 : Int)) 255) = (byteK a.toNat 2 : Nat) := by
 have e : uv a / (65536 : Int) = uv (a >>> 16) := div_uv a 16
 rw [e, bits_and_uv_lit]; refine (wrap64_uv _).trans ?_; exact byte_uv a 2
theorem byte_lit1 (a : BitVec 32) : wrap64 (bits .and .u32 (uv a / (256 : Int)) 255) = (byteK a.toNat 1 : Nat) := by
 have e : uv a / (256 : Int) = uv (a >>> 8) := div_uv a 8
 rw [e, bits_and_uv_lit]; refine (wrap64_uv _).trans ?_; exact byte_uv a 1
theorem byte_lit0 (a : BitVec 32) : uv (a &&& 255#32) = (byteK a.toNat 0 : Nat) := by
 have := byte_uv a 0
 simpa using this
theorem itoa_is (n : Nat) (x : Int) (w : World) (h : x = n) (hn : n < 9223372036854775808) (ht : Tab10 w) :
 Calls Tryz.prog 39 #[I x] w fun e w' => e = .returned (S (dd n)) /\ Ext w w' := by subst h; exact itoaN_any n w hn ht
/-- The text so far, when j bytes have been told. -/
def prTo (a j : Nat) : List UInt8 :=
 match j with
 | 0 => []
 | 1 => dd (byteK a 3) ++ [46]
 | 2 => (dd (byteK a 3) ++ [46]) ++ dd (byteK a 2) ++ [46]
 | 3 => ((dd (byteK a 3) ++ [46]) ++ dd (byteK a 2) ++ [46]) ++ dd (byteK a 1) ++ [46]
 | _ => prN a
theorem dd3 (a k : Nat) : (dd (byteK a k)).length <= 3 := dd_len 3 (by omega) (by have := byteK_lt a k; omega)
theorem prTo_len (a j : Nat) : (prTo a j).length <= 15 := by
 have h1 := dd3 a 3
 have h2 := dd3 a 2
 have h3 := dd3 a 1
 unfold prTo
 split
 · simp
 · simp; omega
 · simp; omega
 · simp; omega
 · exact prN_len a
theorem ret_S {a b : List UInt8} (h : a = b) : Ending.returned (S a) = Ending.returned (S b) := by rw [h]
theorem S_congr {a b : List UInt8} (h : a = b) : S a = S b := by rw [h]
set_option maxHeartbeats 1000000 in
theorem print_any (a : BitVec 32) (w : World) (ht : Tab10 w) :
 Calls Tryz.prog 148 #[U a] w fun e w' => e = .returned (S (prN a.toNat)) /\ Ext w w' := by
 have HT := Lib.hid ht
 clear ht
 go_enter Tryz.func148, Tryz.ntmps148
 go_wp2_with fail
 go_loopw [3, 4] (fun t i wr => ∃ j : Nat, j <= 4 /\ i = I (24 - 8 * j) /\ t = S (prTo a.toNat j) /\ Ext w wr) (fun _ i _ => (intOf i + 8).toNat)
 case atStart => exact ⟨0, by omega, rfl, rfl, Ext.refl w⟩
 case round =>
  obtain ⟨j, hj, rfl, rfl, hx⟩ := hrel
  have hl := prTo_len a.toNat j
  obtain rfl | rfl | rfl | rfl | rfl : j = 0 \/ j = 1 \/ j = 2 \/ j = 3 \/ j = 4 := by omega
  · have hd := dd3 a.toNat 3
    go_wp2_with (first
     | (go_at_call 39; with_reducible refine (itoa_is (byteK a.toNat 3) _ _ (byte_lit3 a) (by have := byteK_lt a.toNat 3; omega) (HT.out.later hx)).mono ?_; rintro e w1 ⟨rfl, hx1⟩))
    go_roundw
    case rel => exact ⟨1, by omega, rfl, rfl, hx.trans hx1⟩
    case measure => decide
  · have hd := dd3 a.toNat 2
    go_wp2_with (first
     | (go_at_call 39; with_reducible refine (itoa_is (byteK a.toNat 2) _ _ (byte_lit2 a) (by have := byteK_lt a.toNat 2; omega) (HT.out.later hx)).mono ?_; rintro e w1 ⟨rfl, hx1⟩))
    go_roundw
    case rel => exact ⟨2, by omega, rfl, S_congr (by simp [prTo]), hx.trans hx1⟩
    case measure => decide
  · have hd := dd3 a.toNat 1
    go_wp2_with (first
     | (go_at_call 39; with_reducible refine (itoa_is (byteK a.toNat 1) _ _ (byte_lit1 a) (by have := byteK_lt a.toNat 1; omega) (HT.out.later hx)).mono ?_; rintro e w1 ⟨rfl, hx1⟩))
    go_roundw
    case rel => exact ⟨3, by omega, rfl, S_congr (by simp [prTo]), hx.trans hx1⟩
    case measure => decide
  · have hd := dd3 a.toNat 0
    go_wp2_with (first
     | (go_at_call 39; with_reducible refine (itoa_is (byteK a.toNat 0) _ _ (byte_lit0 a) (by have := byteK_lt a.toNat 0; omega) (HT.out.later hx)).mono ?_; rintro e w1 ⟨rfl, hx1⟩))
    go_roundw
    case rel => exact ⟨4, by omega, rfl, S_congr (by unfold prTo prN join4; simp), hx.trans hx1⟩
    case measure => decide
  · go_wp2
    go_ret
    exact ⟨rfl, hx⟩
end Go.Proofs.YtdpmnldmbnpfpaaGreatDoor
