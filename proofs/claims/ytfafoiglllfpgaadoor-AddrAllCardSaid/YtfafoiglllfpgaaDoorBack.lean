/- The law AddrBack: the walk. Conditions: the library's table of powers of ten reads as it is laid. -/
import Derived.Test.YtfafoiglllfpgaaDoorShown05
namespace Go.Proofs.YtfafoiglllfpgaaDoor
open Go.RowKit

theorem says_self (a : BitVec 32) : Says (prN a.toNat) a.toNat := ⟨a.isLt, rfl⟩
theorem says_bv {l : List UInt8} {a b : BitVec 32} (h : Says l a.toNat) (g : Says l b.toNat) : a = b := BitVec.eq_of_toNat_eq (says_one h g)
theorem parseBack_any (a : BitVec 32) (w : World) (ht : Tab10 w) : Calls Tryd.prog 23 #[S (prN a.toNat)] w fun e w' => e = .returned (.tuple #[U a, I 0]) ∧ Ext w w' :=
  (parse_any _ w ht (by have := prN_len a.toNat; omega)).mono fun e w' ⟨h, hx⟩ => ⟨by
    rcases h with ⟨b, h1, h2⟩ | ⟨h1, _⟩
    · rw [h2, says_bv h1 (says_self a)]
    · exact absurd (says_self a) (h1 _), hx⟩
theorem parseNo_any (l : List UInt8) (w : World) (ht : Tab10 w) (hl : l.length ≤ 1000) (hn : ∀ a, ¬ Says l a) : Calls Tryd.prog 23 #[S l] w fun e w' => e = .returned (.tuple #[.int .u32 0, I 7]) ∧ Ext w w' :=
  (parse_any _ w ht hl).mono fun e w' ⟨h, hx⟩ => ⟨by
    rcases h with ⟨b, h1, h2⟩ | ⟨_, h2⟩
    · exact absurd h1 (hn _)
    · exact h2, hx⟩
set_option maxRecDepth 100000 in
set_option maxHeartbeats 4000000 in
theorem addrBack_any (a : BitVec 32) (l : List UInt8) (w : World) (hl : l.length ≤ 9223372036854775807) (ht : Tab10 w) :
    Calls Tryd.prog 5 #[U a, S l] w fun e w' => e = .returned (.bool true) ∧ Ext w w' := by
  have HT := Lib.hid ht
  have HLL := Lib.hid hl
  clear ht hl
  have hp := prN_len a.toNat
  have h30 : (l.take 30).length ≤ 30 := by rw [List.length_take]; omega
  have HN4 := Lib.hid (show ∀ x, ¬ Says (48 :: prN a.toNat) x from fun x hs => no_head hs.2)
  have HL4 := Lib.hid (show (48 :: prN a.toNat).length ≤ 1000 by simp; omega)
  have HL3 := Lib.hid (show (prN a.toNat ++ l.take 30).length ≤ 1000 by simp; omega)
  go_enter Tryd.func5, Tryd.ntmps5
  go_upto_region 5 with (first
    | (go_at_call 21; with_reducible refine (shown05_any _ HT.out).mono ?_; rintro e w1 ⟨rfl, hx1⟩)
    | (go_at_call 22; with_reducible refine (print_any a _ (HT.out.later hx1)).mono ?_; rintro e w2 ⟨rfl, hx2⟩)
    | (go_at_call 23; with_reducible refine (parseBack_any a _ (HT.out.later (hx1.trans hx2))).mono ?_; rintro e w3 ⟨rfl, hx3⟩)
    | (go_at_call 24; with_reducible refine (few05_any l _ HLL.out).mono ?_; rintro e w' ⟨rfl, rfl⟩)
    | (go_at_call 23; (refine (parse_any (l.take 30) _ (HT.out.later (hx1.trans (hx2.trans hx3))) (by omega)).mono ?_); rintro e w4 ⟨⟨c, h1, rfl⟩ | ⟨h1, rfl⟩, hx4⟩))
  all_goals
    have HX := Lib.hid (hx1.trans (hx2.trans (hx3.trans hx4)))
    have HS := Lib.hid h1
    clear hx1 hx2 hx3 hx4 h1
  · rcases l with _ | ⟨b, l'⟩
    · exfalso
      have h1 := HS.out.2
      have h2 := prN_count c.toNat
      rw [h1] at h2
      simp at h2
    · have hce : (prN c.toNat == b :: List.take 29 l') = true := by rw [beq_iff_eq]; exact HS.out.2
      by_cases hb : isDig b = true
      · have hbb := hb
        unfold isDig at hbb
        simp only [Bool.and_eq_true, decide_eq_true_eq] at hbb
        obtain ⟨d1, d2⟩ := hbb
        have e1 : (48 : Int) ≤ (b.toNat : Int) := by omega
        have e2 : (b.toNat : Int) ≤ 57 := by omega
        have hg : (⟨(b :: l').toArray⟩ : ByteArray)[0]'(by simp [ByteArray.size]) = b := rfl
        clear d1 d2 hb
        go_wp2_with (first
        | (go_at_call 24; with_reducible refine (few05_any _ _ HLL.out).mono ?_; rintro e w' ⟨rfl, rfl⟩)
        | (go_at_call 23; with_reducible refine (parseNo_any (48 :: prN a.toNat) _ (HT.out.later HX6.out) HL4.out HN4.out).mono ?_; rintro e w7 ⟨rfl, hx7⟩; have HX7 := Lib.hid (HX6.out.trans hx7))
        | (go_at_call 23; (refine (parse_any _ _ (HT.out.later HX.out) HL3.out).mono ?_); rintro e w6 ⟨⟨d, h6, rfl⟩ | ⟨h6, rfl⟩, hx6⟩ <;> (have HX6 := Lib.hid (HX.out.trans hx6); clear h6))
        | (go_at_call 22; with_reducible refine (print_any c _ (HT.out.later HX7.out)).mono ?_; rintro e w8 ⟨rfl, hx8⟩; have HX8 := Lib.hid (HX7.out.trans hx8)))
        all_goals
          go_ret
          exact ⟨rfl, HX8.out⟩
      · have hb2 : isDig b = false := by simpa using hb
        have HN3 := Lib.hid (show ∀ x, ¬ Says (prN a.toNat ++ b :: List.take 29 l') x from fun x hs => no_tail hb2 hs.2)
        have HL3b := Lib.hid (show (prN a.toNat ++ b :: List.take 29 l').length ≤ 1000 from HL3.out)
        have hg : (⟨(b :: l').toArray⟩ : ByteArray)[0]'(by simp [ByteArray.size]) = b := rfl
        have hlr : b.toNat < 48 ∨ 57 < b.toNat := by
          unfold isDig at hb
          simp only [Bool.and_eq_true, decide_eq_true_eq] at hb
          omega
        have e1 : (b.toNat : Int) < 48 ∨ 57 < (b.toNat : Int) := by omega
        clear hb hb2 hlr
        rcases e1 with e1 | e1
        all_goals
          go_wp2_with (first
        | (go_at_call 24; with_reducible refine (few05_any _ _ HLL.out).mono ?_; rintro e w' ⟨rfl, rfl⟩)
        | (go_at_call 23; with_reducible refine (parseNo_any (48 :: prN a.toNat) _ (HT.out.later HX6.out) HL4.out HN4.out).mono ?_; rintro e w7 ⟨rfl, hx7⟩; have HX7 := Lib.hid (HX6.out.trans hx7))
        | (go_at_call 23; with_reducible refine (parseNo_any _ _ (HT.out.later HX.out) HL3b.out HN3.out).mono ?_; rintro e w6 ⟨rfl, hx6⟩; have HX6 := Lib.hid (HX.out.trans hx6))
        | (go_at_call 22; with_reducible refine (print_any c _ (HT.out.later HX7.out)).mono ?_; rintro e w8 ⟨rfl, hx8⟩; have HX8 := Lib.hid (HX7.out.trans hx8)))
          all_goals
            go_ret
            exact ⟨rfl, HX8.out⟩
  · rcases l with _ | ⟨b, l'⟩
    · go_wp2_with (first
        | (go_at_call 24; with_reducible refine (few05_any _ _ HLL.out).mono ?_; rintro e w' ⟨rfl, rfl⟩)
        | (go_at_call 23; with_reducible refine (parseNo_any (48 :: prN a.toNat) _ (HT.out.later HX6.out) HL4.out HN4.out).mono ?_; rintro e w7 ⟨rfl, hx7⟩; have HX7 := Lib.hid (HX6.out.trans hx7))
        | (go_at_call 23; with_reducible refine (parseBack_any a _ (HT.out.later HX.out)).mono ?_; rintro e w6 ⟨rfl, hx6⟩; have HX6 := Lib.hid (HX.out.trans hx6))
        | (go_at_call 22; with_reducible refine (print_any c _ (HT.out.later HX7.out)).mono ?_; rintro e w8 ⟨rfl, hx8⟩; have HX8 := Lib.hid (HX7.out.trans hx8)))
      all_goals
        go_ret
        exact ⟨rfl, HX7.out⟩
    · by_cases hb : isDig b = true
      · have hbb := hb
        unfold isDig at hbb
        simp only [Bool.and_eq_true, decide_eq_true_eq] at hbb
        obtain ⟨d1, d2⟩ := hbb
        have e1 : (48 : Int) ≤ (b.toNat : Int) := by omega
        have e2 : (b.toNat : Int) ≤ 57 := by omega
        have hg : (⟨(b :: l').toArray⟩ : ByteArray)[0]'(by simp [ByteArray.size]) = b := rfl
        clear d1 d2 hb
        go_wp2_with (first
        | (go_at_call 24; with_reducible refine (few05_any _ _ HLL.out).mono ?_; rintro e w' ⟨rfl, rfl⟩)
        | (go_at_call 23; with_reducible refine (parseNo_any (48 :: prN a.toNat) _ (HT.out.later HX6.out) HL4.out HN4.out).mono ?_; rintro e w7 ⟨rfl, hx7⟩; have HX7 := Lib.hid (HX6.out.trans hx7))
        | (go_at_call 23; (refine (parse_any _ _ (HT.out.later HX.out) HL3.out).mono ?_); rintro e w6 ⟨⟨d, h6, rfl⟩ | ⟨h6, rfl⟩, hx6⟩ <;> (have HX6 := Lib.hid (HX.out.trans hx6); clear h6))
        | (go_at_call 22; with_reducible refine (print_any c _ (HT.out.later HX7.out)).mono ?_; rintro e w8 ⟨rfl, hx8⟩; have HX8 := Lib.hid (HX7.out.trans hx8)))
        all_goals
          go_ret
          exact ⟨rfl, HX7.out⟩
      · have hb2 : isDig b = false := by simpa using hb
        have HN3 := Lib.hid (show ∀ x, ¬ Says (prN a.toNat ++ b :: List.take 29 l') x from fun x hs => no_tail hb2 hs.2)
        have HL3b := Lib.hid (show (prN a.toNat ++ b :: List.take 29 l').length ≤ 1000 from HL3.out)
        have hg : (⟨(b :: l').toArray⟩ : ByteArray)[0]'(by simp [ByteArray.size]) = b := rfl
        have hlr : b.toNat < 48 ∨ 57 < b.toNat := by
          unfold isDig at hb
          simp only [Bool.and_eq_true, decide_eq_true_eq] at hb
          omega
        have e1 : (b.toNat : Int) < 48 ∨ 57 < (b.toNat : Int) := by omega
        clear hb hb2 hlr
        rcases e1 with e1 | e1
        all_goals
          go_wp2_with (first
        | (go_at_call 24; with_reducible refine (few05_any _ _ HLL.out).mono ?_; rintro e w' ⟨rfl, rfl⟩)
        | (go_at_call 23; with_reducible refine (parseNo_any (48 :: prN a.toNat) _ (HT.out.later HX6.out) HL4.out HN4.out).mono ?_; rintro e w7 ⟨rfl, hx7⟩; have HX7 := Lib.hid (HX6.out.trans hx7))
        | (go_at_call 23; with_reducible refine (parseNo_any _ _ (HT.out.later HX.out) HL3b.out HN3.out).mono ?_; rintro e w6 ⟨rfl, hx6⟩; have HX6 := Lib.hid (HX.out.trans hx6))
        | (go_at_call 22; with_reducible refine (print_any c _ (HT.out.later HX7.out)).mono ?_; rintro e w8 ⟨rfl, hx8⟩; have HX8 := Lib.hid (HX7.out.trans hx8)))
          all_goals
            go_ret
            exact ⟨rfl, HX7.out⟩
end Go.Proofs.YtfafoiglllfpgaaDoor
