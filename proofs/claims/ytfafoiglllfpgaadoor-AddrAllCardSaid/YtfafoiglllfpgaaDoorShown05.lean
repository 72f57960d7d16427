/- The head of the statements on addresses: the document's example; texts cut to thirty bytes; a number's digits. Conditions: the library's table of powers of ten reads as it is laid. -/
import Derived.Test.YtfafoiglllfpgaaDoorPref06
namespace Go.Proofs.YtfafoiglllfpgaaDoor
open Go.RowKit

theorem d0 : dd 0 = [48] := dd_1 (by omega)
theorem d1 : dd 1 = [49] := dd_1 (by omega)
theorem d2 : dd 2 = [50] := dd_1 (by omega)
theorem d10 : dd 10 = [49, 48] := by rw [dd_2 (by omega)]; show dd 1 ++ _ = _; rw [d1]; rfl
theorem sh5_text : prN 167772418 = [49, 48, 46, 48, 46, 49, 46, 50] := by
  unfold prN join4
  rw [show byteK 167772418 3 = 10 from rfl, show byteK 167772418 2 = 0 from rfl, show byteK 167772418 1 = 1 from rfl, show byteK 167772418 0 = 2 from rfl, d10, d0, d1, d2]
  rfl
theorem sh5_says : Says [49, 48, 46, 48, 46, 49, 46, 50] 167772418 := ⟨by omega, sh5_text⟩
theorem sh5_val {a : BitVec 32} (h : a.toNat = 167772418) : U a = .int .u32 167772418 := by
  show Value.int .u32 (uv a) = _
  unfold uv; rw [h]; rfl
theorem sh5_parse (w : World) (ht : Tab10 w) : Calls Tryd.prog 23 #[.string ⟨#[49, 48, 46, 48, 46, 49, 46, 50]⟩] w fun e w' => e = .returned (.tuple #[.int .u32 167772418, I 0]) ∧ Ext w w' :=
  (parse_any [49, 48, 46, 48, 46, 49, 46, 50] w ht (by decide)).mono fun e w' ⟨h, hx⟩ => ⟨by
    rcases h with ⟨a, h1, h2⟩ | ⟨h1, _⟩
    · rw [h2, sh5_val (says_one h1 sh5_says)]
    · exact absurd sh5_says (h1 _), hx⟩
theorem sh5_print (w : World) (ht : Tab10 w) : Calls Tryd.prog 22 #[.int .u32 167772418] w fun e w' => e = .returned (.string ⟨#[49, 48, 46, 48, 46, 49, 46, 50]⟩) ∧ Ext w w' :=
  (print_is 167772418 167772418 rfl (by omega) w ht).mono fun _ _ ⟨he, hx⟩ => ⟨by rw [he]; exact ret_S sh5_text, hx⟩
theorem shown05_any (w : World) (ht : Tab10 w) : Calls Tryd.prog 21 #[] w fun e w' => e = .returned (.bool true) ∧ Ext w w' := by
  have HT := Lib.hid ht
  clear ht
  go_enter Tryd.func21, Tryd.ntmps21
  go_wp2_with (first
    | (go_at_call 23; with_reducible refine (sh5_parse _ HT.out).mono ?_; rintro e w1 ⟨rfl, hx1⟩)
    | (go_at_call 22; with_reducible refine (sh5_print _ (HT.out.later hx1)).mono ?_; rintro e w2 ⟨rfl, hx2⟩))
  go_ret
  exact ⟨rfl, hx1.trans hx2⟩
theorem take_min5 (l : List UInt8) : l.take (min (l.length : Int) 30).toNat = l.take 30 := by
  by_cases h : l.length ≤ 30
  · rw [List.take_of_length_le (by omega), List.take_of_length_le h]
  · rw [show (min (l.length : Int) 30).toNat = 30 by omega]
theorem few05_any (l : List UInt8) (w : World) (hl : l.length ≤ 9223372036854775807) :
    Calls Tryd.prog 24 #[S l] w fun e w' => e = .returned (S (l.take 30)) ∧ w = w' := by
  go_enter Tryd.func24, Tryd.ntmps24
  go_wp2
  go_ret
  exact ⟨ret_S (take_min5 l), rfl⟩
def tenL : List UInt8 := [48, 49, 50, 51, 52, 53, 54, 55, 56, 57]
theorem ten_dig : ∀ k : Fin 10, (tenL.take (k.val + 1)).drop k.val = [UInt8.ofNat (48 + k.val)] := by decide
theorem ten_at (n : Nat) : ((tenL.take (n % 10 + 1)).drop (n % 10)) = [UInt8.ofNat (48 + n % 10)] := ten_dig ⟨n % 10, Nat.mod_lt _ (by omega)⟩
/-- What is left of the number, and what is told. -/
def DecAt (n m : Nat) (r : List UInt8) : Prop := (m = 0 → r = dd n) ∧ (0 < m → dd n = dd m ++ r)
theorem dec_start (n : Nat) : DecAt n (n / 10) [UInt8.ofNat (48 + n % 10)] := by
  by_cases h : n < 10
  · refine ⟨fun _ => by rw [dd_1 h, Nat.mod_eq_of_lt h], fun g => by omega⟩
  · exact ⟨fun g => by omega, fun _ => dd_2 h⟩
theorem dec_step {n m : Nat} {r : List UInt8} (h : DecAt n m r) (hm : 0 < m) : DecAt n (m / 10) (UInt8.ofNat (48 + m % 10) :: r) := by
  have h1 := h.2 hm
  by_cases g : m < 10
  · refine ⟨fun _ => ?_, fun k => by omega⟩
    rw [h1, dd_1 g, Nat.mod_eq_of_lt g]; rfl
  · refine ⟨fun k => by omega, fun _ => ?_⟩
    rw [h1, dd_2 g, List.append_assoc]; rfl
theorem ten_at' (n : Nat) : ((List.take (n % 10 + 1) [48, 49, 50, 51, 52, 53, 54, 55, 56, 57]).drop (n % 10) : List UInt8) = [UInt8.ofNat (48 + n % 10)] := ten_at n
set_option maxHeartbeats 1000000 in
theorem decimal_any (n : Nat) (w : World) (hn : n < 1000000) :
    Calls Tryd.prog 25 #[I n] w fun e w' => e = .returned (S (dd n)) ∧ w = w' := by
  have hdl : (dd n).length ≤ 6 := dd_len 6 (by omega) (by omega)
  go_enter Tryd.func25, Tryd.ntmps25
  go_upto_region 4 with (fail)
  go_loop [0, 4] (fun x t => ∃ (m : Nat) (r : List UInt8), x = I m ∧ m < 1000000 ∧ t = S r ∧ Hid (DecAt n m r) ∧ r.length ≤ 6) (fun x _ => (intOf x).toNat)
  case atStart => exact ⟨n / 10, _, by go_num, by omega, S_congr (ten_at' n), dec_start n, by simp⟩
  case round =>
    obtain ⟨m, r, rfl, hm, rfl, HD, hr⟩ := hrel
    by_cases hz : 0 < m
    · have HS := Lib.hid (dec_step HD.out hz)
      have hrl : r.length + 1 ≤ 6 := by
        have h1 := HD.out.2 hz
        have h2 := congrArg List.length h1
        rw [List.length_append] at h2
        have h3 : dd m ≠ [] := dd_ne m
        have h4 : 1 ≤ (dd m).length := List.length_pos_iff.2 h3
        omega
      have HT := Lib.hid (show List.drop (m % 10) (48 :: List.take (m % 10) [49, 50, 51, 52, 53, 54, 55, 56, 57]) = [UInt8.ofNat (48 + m % 10)] from ten_at' m)
      go_wp2
      go_round
      case rel => exact ⟨m / 10, UInt8.ofNat (48 + m % 10) :: r, by go_num, by omega, S_congr (by rw [HT.out]; rfl), HS.out, by simp; omega⟩
      case measure => simp [intOf]; omega
    · have HE := Lib.hid (HD.out.1 (by omega))
      go_wp2
      go_ret
      exact ⟨ret_S HE.out, rfl⟩
end Go.Proofs.YtfafoiglllfpgaaDoor
