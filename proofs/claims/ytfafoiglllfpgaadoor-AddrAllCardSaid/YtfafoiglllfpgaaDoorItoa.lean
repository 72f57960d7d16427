/- The text of a whole number, and of an address. Conditions: the library's table of powers of ten reads as it is laid. -/
import Derived.Test.YtfafoiglllfpgaaDoorCommon
import Derived.Test.YtfafoiglllfpgaaDoorText
import Derived.Shelf.Strconv.Itoa3
import Derived.WalkSmall
import Derived.Lib.AppendIntMem
namespace Go.Proofs.YtfafoiglllfpgaaDoor
open Go.RowKit

/-- The library's table reads as it is laid. -/
def Tab10 (w : World) : Prop := Lib.TabIs Tryd.prog w "internal/strconv.uint64pow10" .u64 Lib.pow10Tab
theorem gTab10 : (Tryd.prog.globalNamed "internal/strconv.uint64pow10").isSome = true := by kernel_rfl
theorem Tab10.later {w w' : World} (h : Tab10 w) (hx : Ext w w') : Tab10 w' := by
  obtain ⟨g, hg⟩ := Option.isSome_iff_exists.1 gTab10
  unfold Tab10 Lib.TabIs at *
  refine var?_below hx hg ?_ h
  unfold World.var? at h
  simp only [hg, Option.bind_some] at h
  rcases Nat.lt_or_ge g w.heap.size with k | k
  · exact k
  · rw [Array.getElem?_eq_none k] at h; cases h
theorem Ext.grown' {w : World} (k : Nat) (os : Array Obj) : Ext w (Sort.grow (w.drewN k) os) := Lib.below_grow _ w (Nat.le_refl _) k os
/-- A string's value, of its bytes. -/
abbrev S (l : List UInt8) : Value := .string ⟨l.toArray⟩
theorem itoa_nat (n : Nat) : Lib.itoa (n : Int) = dd n := by
  unfold Lib.itoa; rw [if_neg (by omega), Int.toNat_natCast]
theorem itoa_any (n : Int) (w : World) (h : In64 n) (ht : Tab10 w) :
    Calls Tryd.prog 43 #[I n] w fun e w' => e = .returned (S (Lib.itoa n)) ∧ Ext w w' :=
  (Tryd.strconv_Itoa n h.1 h.2 w ht).mono fun e w' ⟨he, k, os, hw⟩ => ⟨he, by rw [hw]; exact Ext.grown' k os⟩
theorem itoaN_any (n : Nat) (w : World) (h : n < 9223372036854775808) (ht : Tab10 w) :
    Calls Tryd.prog 43 #[I n] w fun e w' => e = .returned (S (dd n)) ∧ Ext w w' := by
  have := itoa_any n w ⟨by omega, by omega⟩ ht
  rwa [itoa_nat] at this
end Go.Proofs.YtfafoiglllfpgaaDoor
