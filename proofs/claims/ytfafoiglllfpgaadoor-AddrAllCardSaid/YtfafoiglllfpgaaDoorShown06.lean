/- The head of the statements on prefixes: the document's example; and texts cut to thirty bytes. Conditions: the library's table of powers of ten reads as it is laid. -/
import Derived.Test.YtfafoiglllfpgaaDoorPref06
namespace Go.Proofs.YtfafoiglllfpgaaDoor
open Go.RowKit

theorem dd_eval (n : Nat) : dd n = if n < 10 then [UInt8.ofNat (48 + n)] else dd (n / 10) ++ [UInt8.ofNat (48 + n % 10)] := by
  split
  · exact dd_1 (by assumption)
  · exact dd_2 (by assumption)
theorem sh_text : prefL 167772160 8 = [49, 48, 46, 48, 46, 48, 46, 48, 47, 56] := by
  have h0 : dd 0 = [48] := dd_1 (by omega)
  have h1 : dd 1 = [49] := dd_1 (by omega)
  have h8 : dd 8 = [56] := dd_1 (by omega)
  have h10 : dd 10 = [49, 48] := by rw [dd_2 (by omega)]; show dd 1 ++ _ = _; rw [h1]; rfl
  have e : Lib.itoa 8 = dd 8 := itoa_nat 8
  unfold prefL prN join4
  rw [e, h8, show byteK 167772160 3 = 10 from rfl, show byteK 167772160 2 = 0 from rfl, show byteK 167772160 1 = 0 from rfl, show byteK 167772160 0 = 0 from rfl, h10, h0]
  rfl
theorem in64_8 : In64 8 := by unfold In64; omega
theorem sh_ends (w : World) : Calls Tryd.prog 18 #[.int .u32 167772160, I 8] w fun e w' => e = .returned (.tuple #[.int .u32 167772160, .int .u32 184549375]) ∧ w = w' :=
  ends_any 167772160#32 8 w in64_8
theorem sh_print (w : World) (ht : Tab10 w) : Calls Tryd.prog 34 #[.int .u32 167772160, I 8] w fun e w' => e = .returned (.string ⟨#[49, 48, 46, 48, 46, 48, 46, 48, 47, 56]⟩) ∧ Ext w w' :=
  (prefPrint_any 167772160#32 8 w in64_8 ht).mono fun _ _ ⟨he, hx⟩ => ⟨by rw [he]; exact ret_S sh_text, hx⟩
theorem shown06_any (w : World) (ht : Tab10 w) : Calls Tryd.prog 16 #[] w fun e w' => e = .returned (.bool true) ∧ Ext w w' := by
  have HT := Lib.hid ht
  clear ht
  go_enter Tryd.func16, Tryd.ntmps16
  go_wp2_with (first
    | (go_at_call 18; with_reducible refine (sh_ends _).mono ?_; rintro e w1 ⟨rfl, rfl⟩)
    | (go_at_call 34; with_reducible refine (sh_print _ HT.out).mono ?_; rintro e w2 ⟨rfl, hx2⟩))
  go_ret
  exact ⟨rfl, hx2⟩
theorem take_min (l : List UInt8) : l.take (min (l.length : Int) 30).toNat = l.take 30 := by
  by_cases h : l.length ≤ 30
  · rw [List.take_of_length_le (by omega), List.take_of_length_le h]
  · rw [show (min (l.length : Int) 30).toNat = 30 by omega]
theorem few06_any (l : List UInt8) (w : World) (hl : l.length ≤ 9223372036854775807) :
    Calls Tryd.prog 35 #[S l] w fun e w' => e = .returned (S (l.take 30)) ∧ w = w' := by
  go_enter Tryd.func35, Tryd.ntmps35
  go_wp2
  go_ret
  exact ⟨ret_S (take_min l), rfl⟩
end Go.Proofs.YtfafoiglllfpgaaDoor
