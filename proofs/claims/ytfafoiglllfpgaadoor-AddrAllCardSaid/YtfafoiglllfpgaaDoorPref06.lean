/- The reference's prefix of a text. Conditions: the library's table of powers of ten reads as it is laid; a text of at most 1000 bytes. -/
import Derived.Test.YtfafoiglllfpgaaDoorPref
namespace Go.Proofs.YtfafoiglllfpgaaDoor
open Go.RowKit

theorem split_back {x y : List UInt8} {m n : Nat} (h : x ++ 47 :: dd m = y ++ 47 :: dd n) : x = y ∧ m = n := by
  have h1 := congrArg List.reverse h
  rw [List.reverse_append, List.reverse_append, List.reverse_cons, List.reverse_cons, List.append_assoc, List.append_assoc] at h1
  obtain ⟨e1, e2⟩ := split_dot (c := 47) slash_not (fun c hc => dd_dig m c (List.mem_reverse.1 hc)) (fun c hc => dd_dig n c (List.mem_reverse.1 hc)) (by simpa using h1)
  exact ⟨by simpa using e2, dd_inj (by simpa using e1)⟩
attribute [go_sem high] extract_list
theorem no_k {l : List UInt8} {k : Nat} (h : l.length < (dd k).length + 1 ∨ l.drop (l.length - ((dd k).length + 1)) ≠ 47 :: dd k) : ∀ x, l ≠ x ++ 47 :: dd k := by
  intro x e
  rcases h with h | h
  · rw [e] at h; simp at h; omega
  · apply h
    have h1 : l.length - ((dd k).length + 1) = x.length := by rw [e]; simp
    rw [h1, e, List.drop_left]
theorem ret_8 {m : Int} (h : m = 8) : Ending.returned (.tuple #[.int .u32 0, I 0, I 8]) = .returned (.tuple #[.int .u32 0, I 0, I m]) := by rw [h]
theorem psays_none {l : List UInt8} (h : ∀ n : Nat, n < 33 → ∀ x, l ≠ x ++ 47 :: dd n) : ∀ a n, ¬ PSays l a n := fun _ n ⟨h1, h2⟩ => h n (by omega) _ h2
theorem psays_at {x : List UInt8} {k : Nat} (h : ∀ a, ¬ Says x a) : ∀ a n, ¬ PSays (x ++ 47 :: dd k) a n := fun a _ ⟨_, h2⟩ =>
  h a.toNat ⟨a.isLt, (split_back h2).1.symm⟩
set_option maxHeartbeats 2000000 in
theorem r06Parse_any (l : List UInt8) (w : World) (hl : l.length ≤ 1000) (ht : Tab10 w) : Calls Tryd.prog 41 #[S l] w (PrefPost l w) := by
  have HT := Lib.hid ht
  clear ht
  go_enter Tryd.func41, Tryd.ntmps41
  go_wp2_with fail
  go_loopw [5] (fun i wr => ∃ k : Nat, k ≤ 33 ∧ i = I k ∧ Hid (∀ n : Nat, n < k → ∀ x, l ≠ x ++ 47 :: dd n) ∧ Ext w wr) (fun i _ => 33 - (intOf i).toNat)
  case atStart => exact ⟨0, by omega, rfl, fun n hn => by omega, Ext.refl w⟩
  case round =>
    obtain ⟨k, hk, rfl, HB, hx⟩ := hrel
    by_cases hlt : k < 33
    · have hd : (dd k).length ≤ 3 := dd_len 3 (by omega) (by omega)
      by_cases hlen : l.length < (dd k).length + 1
      · have HE := Lib.hid (below_snoc HB.out (no_k (k := k) (.inl hlen)))
        go_wp2_with (first
          | (go_at_call 43; with_reducible refine (itoaN_any k _ (by omega) (HT.out.later hx)).mono ?_; rintro e w1 ⟨rfl, hx1⟩))
        go_roundw
        case rel => exact ⟨k + 1, by omega, by go_num, HE.out, hx.trans hx1⟩
        case measure => simp [intOf]; omega
      · by_cases he : l.drop (l.length - ((dd k).length + 1)) = 47 :: dd k
        · have h1 : (l.drop (l.length - ((dd k).length + 1)) == 47 :: dd k) = true := by simpa using he
          have HX := Lib.hid (show l = l.take (l.length - ((dd k).length + 1)) ++ 47 :: dd k by rw [← he, List.take_append_drop])
          have hxl : (l.take (l.length - ((dd k).length + 1))).length ≤ 1000 := by rw [List.length_take]; omega
          have hin : In64 k := by unfold In64; omega
          have HXL := Lib.hid hxl
          clear he hxl
          go_wp2_with (first
            | (go_at_call 43; with_reducible refine (itoaN_any k _ (by omega) (HT.out.later hx)).mono ?_; rintro e w1 ⟨rfl, hx1⟩)
            | (go_at_call 29; (with_reducible refine (r05Parse_any _ _ (HT.out.later (hx.trans hx1)) HXL.out).mono ?_); rintro e w2 ⟨⟨a, h3, rfl⟩ | ⟨h3, rfl⟩, hx2⟩))
          · have HS := Lib.hid (psays_mk (n := k) (q := dd k) h3 (by omega) rfl)
            rw [← HX.out] at HS
            clear h3
            rcases mayV_08 a k with hm | hm | hm
            · have hmd : (mayV a k != 0) = false := by simpa using hm
              have HM := Lib.hid hm
              clear hm
              go_wp2_with (go_at_call 37; with_reducible refine (r06May_any _ _ _ hin).mono ?_; rintro e w' ⟨rfl, rfl⟩)
              go_ret3
              exact ⟨.inl ⟨a, k, HS.out, .inl ⟨HM.out, rfl⟩⟩, hx.trans (hx1.trans hx2)⟩
            · exfalso
              unfold mayV at hm
              rw [if_neg (by omega)] at hm
              split at hm <;> cases hm
            · have hmd : (mayV a k != 0) = true := by rw [hm]; rfl
              have HM := Lib.hid hm
              clear hm
              go_wp2_with (go_at_call 37; with_reducible refine (r06May_any _ _ _ hin).mono ?_; rintro e w' ⟨rfl, rfl⟩)
              go_ret3
              exact ⟨.inl ⟨a, k, HS.out, .inr ⟨by rw [HM.out]; decide, ret_8 HM.out⟩⟩, hx.trans (hx1.trans hx2)⟩
          · have HN := Lib.hid (psays_at (k := k) h3)
            rw [← HX.out] at HN
            clear h3
            go_wp2
            go_ret3
            exact pref_none HN.out (hx.trans (hx1.trans hx2))
        · have h1 : (l.drop (l.length - ((dd k).length + 1)) == 47 :: dd k) = false := by simpa using he
          have HE := Lib.hid (below_snoc HB.out (no_k (k := k) (.inr he)))
          clear he
          go_wp2_with (first
            | (go_at_call 43; with_reducible refine (itoaN_any k _ (by omega) (HT.out.later hx)).mono ?_; rintro e w1 ⟨rfl, hx1⟩))
          go_roundw
          case rel => exact ⟨k + 1, by omega, by go_num, HE.out, hx.trans hx1⟩
          case measure => simp [intOf]; omega
    · have HE := Lib.hid (psays_none (l := l) fun n hn => HB.out n (by omega))
      go_wp2
      go_ret3
      exact pref_none HE.out hx
end Go.Proofs.YtfafoiglllfpgaaDoor
