/- The law PrefixTexts: the walk. Conditions: the library's table of powers of ten reads as it is laid. -/
import Derived.Test.YtfafoiglllfpgaaDoorAll6
import Derived.Test.YtfafoiglllfpgaaDoorEndsLaw
namespace Go.Proofs.YtfafoiglllfpgaaDoor
open Go.RowKit

theorem pref_yes {l : List UInt8} {a : BitVec 32} {k : Nat} (h : PSays l a k) (hm : mayV a k = 0) {w w' : World} {e : Ending} (hp : PrefPost l w e w') : e = .returned (.tuple #[U a, I k, I 0]) ∧ Ext w w' := by
  obtain ⟨h2, hx⟩ := hp
  refine ⟨?_, hx⟩
  rcases h2 with ⟨b, n, h1, h2⟩ | ⟨h1, _⟩
  · obtain ⟨rfl, rfl⟩ := psays_one h1 h
    rcases h2 with ⟨_, h2⟩ | ⟨h2, _⟩
    · exact h2
    · exact absurd hm h2
  · exact absurd h (h1 _ _)
theorem pref_host {l : List UInt8} {a : BitVec 32} {k : Nat} (h : PSays l a k) (hm : mayV a k = 8) {w w' : World} {e : Ending} (hp : PrefPost l w e w') : e = .returned (.tuple #[.int .u32 0, I 0, I 8]) ∧ Ext w w' := by
  obtain ⟨h2, hx⟩ := hp
  refine ⟨?_, hx⟩
  rcases h2 with ⟨b, n, h1, h2⟩ | ⟨h1, _⟩
  · obtain ⟨rfl, rfl⟩ := psays_one h1 h
    rcases h2 with ⟨h2, _⟩ | ⟨_, h2⟩
    · rw [hm] at h2; cases h2
    · rw [h2, hm]
  · exact absurd h (h1 _ _)
theorem pref_not {l : List UInt8} (h : ∀ a k, ¬ PSays l a k) {w w' : World} {e : Ending} (hp : PrefPost l w e w') : e = .returned (.tuple #[.int .u32 0, I 0, I 7]) ∧ Ext w w' := by
  obtain ⟨h2, hx⟩ := hp
  refine ⟨?_, hx⟩
  rcases h2 with ⟨b, n, h1, _⟩ | ⟨_, h1⟩
  · exact absurd h1 (h _ _)
  · exact h1
theorem prefL_says {a : BitVec 32} {m : Int} (h0 : 0 ≤ m) (h1 : m ≤ 32) : PSays (prefL a.toNat m) a m.toNat := by
  refine ⟨by omega, ?_⟩
  unfold prefL
  rw [← itoa_nat, Int.toNat_of_nonneg h0]
theorem prefL_big (x : BitVec 32) {m : Int} (h : 33 ≤ m) : ∀ a k, ¬ PSays (prefL x.toNat m) a k := by
  rintro a k ⟨h1, h2⟩
  unfold prefL at h2
  rw [show m = (m.toNat : Int) by omega, itoa_nat] at h2
  have := dd_inj (split_slash says_noslash says_noslash h2).2
  omega
theorem prefL_tail (x : BitVec 32) (m : Int) : ∀ a k, ¬ PSays (prefL x.toNat m ++ [32]) a k := by
  rintro a k ⟨_, h2⟩
  unfold prefL at h2
  rw [List.append_assoc, List.cons_append] at h2
  have h3 := (split_slash says_noslash says_noslash h2).2
  have h4 : isDig 32 = true := dd_dig k 32 (by rw [← h3]; simp)
  exact absurd h4 (by decide)
theorem prefL_len (a : Nat) {n : Int} (h : In64 n) : (prefL a n).length ≤ 37 := by
  have := prN_len a
  have := Lib.itoa_length_le n h.1 h.2
  unfold prefL; simp; omega
set_option maxRecDepth 100000 in
set_option maxHeartbeats 8000000 in
theorem prefixTexts_any (at0 : BitVec 32) (n : Nat) (l : List UInt8) (w : World) (hn : n < 256) (hl : l.length ≤ 9223372036854775807) (ht : Tab10 w) :
    Calls Tryd.prog 14 #[U at0, .int .u8 n, S l] w fun e w' => e = .returned (.bool true) ∧ Ext w w' := by
  have HT := Lib.hid ht
  clear ht
  have HL30 := Lib.hid (show (l.take 30).length ≤ 1000 by rw [List.length_take]; omega)
  obtain ⟨pa, pn, pe, hps, hpc⟩ := pref_same (l.take 30)
  have HP := Lib.hid (show ∀ w e w', PrefPost (l.take 30) w e w' → e = .returned (.tuple #[U pa, I pn, I pe]) ∧ Ext w w' from fun _ _ _ h => hps h)
  have HPC := Lib.hid hpc
  clear hps hpc
  have b0 : 0 ≤ (n : Int) % 33 := by omega
  have b1 : (n : Int) % 33 ≤ 32 := by omega
  go_enter Tryd.func14, Tryd.ntmps14
  go_upto_region 4 with (first
    | (go_at_call 16; with_reducible refine (shown06_any _ HT.out).mono ?_; rintro e w1 ⟨rfl, hx1⟩)
    | (go_at_call 17; with_reducible refine (mask_any _ _ (in64_33 n)).mono ?_; rintro e w' ⟨rfl, rfl⟩))
  have hmz := may_zero (a := at0) b0 b1
  have hm0 : mayV (at0 &&& maskV ((n : Int) % 33)) ((n : Int) % 33) = 0 := (may_zero b0 b1).1.2 (by rw [BitVec.and_assoc, BitVec.and_self])
  have HM := Lib.hid (in64_33 n)
  generalize (n : Int) % 33 = m at *
  generalize at0 &&& maskV m = x at *
  have HM1 := Lib.hid (show In64 (33 + m) by unfold In64; omega)
  have hmk : ((m.toNat : Nat) : Int) = m := Int.toNat_of_nonneg b0
  have HS1 := Lib.hid (prefL_says (a := x) b0 b1)
  have HS2 := Lib.hid (prefL_says (a := at0) b0 b1)
  have HN3 := Lib.hid (prefL_big x (m := 33 + m) (by omega))
  have HN4 := Lib.hid (prefL_tail x m)
  have HL1 := Lib.hid (show (prefL x.toNat m).length ≤ 1000 by have := prefL_len x.toNat HM.out; omega)
  have hl1 := prefL_len x.toNat HM.out
  have HL2 := Lib.hid (show (prefL at0.toNat m).length ≤ 1000 by have := prefL_len at0.toNat HM.out; omega)
  have HL3 := Lib.hid (show (prefL x.toNat (33 + m)).length ≤ 1000 by have := prefL_len x.toNat HM1.out; omega)
  have HL4 := Lib.hid (show (prefL x.toNat m ++ [32]).length ≤ 1000 by have := prefL_len x.toNat HM.out; simp; omega)
  have HY1 := Lib.hid (show mayV x (m.toNat : Nat) = 0 by rw [hmk]; exact hm0)
  have his : (mayV at0 (m.toNat : Nat) = 0 ∧ (at0 == x) = true) ∨ (mayV at0 (m.toNat : Nat) = 8 ∧ (at0 == x) = false) := by
    rw [hmk]
    rcases hmz.2 with h | h
    · exact .inl ⟨h, by simpa using hmz.1.1 h⟩
    · refine .inr ⟨h, ?_⟩
      rw [beq_eq_false_iff_ne]
      intro e
      have := hmz.1.2 e
      omega
  have HMK := Lib.hid hmk
  clear hmz hm0 hmk
  have HX1 := Lib.hid hx1
  clear hx1
  rcases his with ⟨f1, f2⟩ | ⟨f1, f2⟩
  all_goals
    have F1 := Lib.hid f1
    clear f1
  · go_upto_region 9 with (first
      | (go_at_call 34; with_reducible refine (prefPrint_any x (m) _ HM.out (HT.out.later HX1.out)).mono ?_; rintro e w2 ⟨rfl, hx⟩; have HX2 := Lib.hid (HX1.out.trans hx); clear hx)
      | (go_at_call 33; (with_reducible refine (prefParse_any (prefL x.toNat m) _ HL1.out (HT.out.later HX2.out)).mono ?_); rintro e w3 hp; obtain ⟨he, hx⟩ := pref_yes HS1.out HY1.out hp; rw [HMK.out] at he; subst he; clear hp; have HX3 := Lib.hid (HX2.out.trans hx); clear hx)
      | (go_at_call 34; with_reducible refine (prefPrint_any at0 (m) _ HM.out (HT.out.later HX3.out)).mono ?_; rintro e w4 ⟨rfl, hx⟩; have HX4 := Lib.hid (HX3.out.trans hx); clear hx)
      | (go_at_call 33; (with_reducible refine (prefParse_any (prefL at0.toNat m) _ HL2.out (HT.out.later HX4.out)).mono ?_); rintro e w5 hp; obtain ⟨he, hx⟩ := pref_yes HS2.out F1.out hp; rw [HMK.out] at he; subst he; clear hp; have HX5 := Lib.hid (HX4.out.trans hx); clear hx)
      | (go_at_call 34; with_reducible refine (prefPrint_any x (33 + m) _ HM1.out (HT.out.later HX5.out)).mono ?_; rintro e w6 ⟨rfl, hx⟩; have HX6 := Lib.hid (HX5.out.trans hx); clear hx)
      | (go_at_call 33; (with_reducible refine (prefParse_any (prefL x.toNat (33 + m)) _ HL3.out (HT.out.later HX6.out)).mono ?_); rintro e w7 hp; obtain ⟨he, hx⟩ := pref_not HN3.out hp; subst he; clear hp; have HX7 := Lib.hid (HX6.out.trans hx); clear hx)
      | (go_at_call 34; with_reducible refine (prefPrint_any x (m) _ HM.out (HT.out.later HX7.out)).mono ?_; rintro e w8 ⟨rfl, hx⟩; have HX8 := Lib.hid (HX7.out.trans hx); clear hx)
      | (go_at_call 33; (with_reducible refine (prefParse_any (prefL x.toNat m ++ [32]) _ HL4.out (HT.out.later HX8.out)).mono ?_); rintro e w9 hp; obtain ⟨he, hx⟩ := pref_not HN4.out hp; subst he; clear hp; have HX9 := Lib.hid (HX8.out.trans hx); clear hx)
      | (go_at_call 35; with_reducible refine (few06_any l _ hl).mono ?_; rintro e w' ⟨rfl, rfl⟩)
      | (go_at_call 33; (with_reducible refine (prefParse_any (l.take 30) _ HL30.out (HT.out.later HX9.out)).mono ?_); rintro e w10 hp; obtain ⟨he, hx⟩ := HP.out _ _ _ hp; subst he; clear hp; have HX10 := Lib.hid (HX9.out.trans hx); clear hx))
    have HIN := Lib.hid (show ∀ k : Nat, PSays (l.take 30) pa k → In64 k from fun k h => by have := h.1; unfold In64; omega)
    rcases HPC.out with ⟨k, h1, h2, h3, h4⟩ | ⟨b, k, h1, h2, h3⟩ | ⟨h1, h3⟩
    · have c1 : (prefL pa.toNat pn == l.take 30) = true := by
        rw [beq_iff_eq, h2, h1.2]
        unfold prefL
        rw [itoa_nat]
      have c2 : mayV pa pn = 0 := by rw [h2]; exact h3
      have c3 : In64 pn := by rw [h2]; exact HIN.out k h1
      have C3 := Lib.hid c3
      clear h1 h2 h3 c3
      subst h4
      go_wp2_with (first
        | (go_at_call 34; with_reducible refine (prefPrint_any pa pn _ C3.out (HT.out.later HX10.out)).mono ?_; rintro e w11 ⟨rfl, hx⟩; have HX11 := Lib.hid (HX10.out.trans hx); clear hx)
        | (go_at_call 35; with_reducible refine (few06_any l _ hl).mono ?_; rintro e w' ⟨rfl, rfl⟩)
        | (go_at_call 27; with_reducible refine (may_any _ _ _ C3.out).mono ?_; rintro e w' ⟨rfl, rfl⟩))
      go_ret
      exact ⟨rfl, HX11.out⟩
    · have c1 : (pe == 0) = false := by rw [h3, beq_eq_false_iff_ne]; exact h2
      clear h1 h2 h3
      go_wp2
      go_ret
      exact ⟨rfl, HX10.out⟩
    · subst h3
      clear h1
      go_wp2
      go_ret
      exact ⟨rfl, HX10.out⟩
  · go_upto_region 9 with (first
      | (go_at_call 34; with_reducible refine (prefPrint_any x (m) _ HM.out (HT.out.later HX1.out)).mono ?_; rintro e w2 ⟨rfl, hx⟩; have HX2 := Lib.hid (HX1.out.trans hx); clear hx)
      | (go_at_call 33; (with_reducible refine (prefParse_any (prefL x.toNat m) _ HL1.out (HT.out.later HX2.out)).mono ?_); rintro e w3 hp; obtain ⟨he, hx⟩ := pref_yes HS1.out HY1.out hp; rw [HMK.out] at he; subst he; clear hp; have HX3 := Lib.hid (HX2.out.trans hx); clear hx)
      | (go_at_call 34; with_reducible refine (prefPrint_any at0 (m) _ HM.out (HT.out.later HX3.out)).mono ?_; rintro e w4 ⟨rfl, hx⟩; have HX4 := Lib.hid (HX3.out.trans hx); clear hx)
      | (go_at_call 33; (with_reducible refine (prefParse_any (prefL at0.toNat m) _ HL2.out (HT.out.later HX4.out)).mono ?_); rintro e w5 hp; obtain ⟨he, hx⟩ := pref_host HS2.out F1.out hp; subst he; clear hp; have HX5 := Lib.hid (HX4.out.trans hx); clear hx)
      | (go_at_call 34; with_reducible refine (prefPrint_any x (33 + m) _ HM1.out (HT.out.later HX5.out)).mono ?_; rintro e w6 ⟨rfl, hx⟩; have HX6 := Lib.hid (HX5.out.trans hx); clear hx)
      | (go_at_call 33; (with_reducible refine (prefParse_any (prefL x.toNat (33 + m)) _ HL3.out (HT.out.later HX6.out)).mono ?_); rintro e w7 hp; obtain ⟨he, hx⟩ := pref_not HN3.out hp; subst he; clear hp; have HX7 := Lib.hid (HX6.out.trans hx); clear hx)
      | (go_at_call 34; with_reducible refine (prefPrint_any x (m) _ HM.out (HT.out.later HX7.out)).mono ?_; rintro e w8 ⟨rfl, hx⟩; have HX8 := Lib.hid (HX7.out.trans hx); clear hx)
      | (go_at_call 33; (with_reducible refine (prefParse_any (prefL x.toNat m ++ [32]) _ HL4.out (HT.out.later HX8.out)).mono ?_); rintro e w9 hp; obtain ⟨he, hx⟩ := pref_not HN4.out hp; subst he; clear hp; have HX9 := Lib.hid (HX8.out.trans hx); clear hx)
      | (go_at_call 35; with_reducible refine (few06_any l _ hl).mono ?_; rintro e w' ⟨rfl, rfl⟩)
      | (go_at_call 33; (with_reducible refine (prefParse_any (l.take 30) _ HL30.out (HT.out.later HX9.out)).mono ?_); rintro e w10 hp; obtain ⟨he, hx⟩ := HP.out _ _ _ hp; subst he; clear hp; have HX10 := Lib.hid (HX9.out.trans hx); clear hx))
    have HIN := Lib.hid (show ∀ k : Nat, PSays (l.take 30) pa k → In64 k from fun k h => by have := h.1; unfold In64; omega)
    rcases HPC.out with ⟨k, h1, h2, h3, h4⟩ | ⟨b, k, h1, h2, h3⟩ | ⟨h1, h3⟩
    · have c1 : (prefL pa.toNat pn == l.take 30) = true := by
        rw [beq_iff_eq, h2, h1.2]
        unfold prefL
        rw [itoa_nat]
      have c2 : mayV pa pn = 0 := by rw [h2]; exact h3
      have c3 : In64 pn := by rw [h2]; exact HIN.out k h1
      have C3 := Lib.hid c3
      clear h1 h2 h3 c3
      subst h4
      go_wp2_with (first
        | (go_at_call 34; with_reducible refine (prefPrint_any pa pn _ C3.out (HT.out.later HX10.out)).mono ?_; rintro e w11 ⟨rfl, hx⟩; have HX11 := Lib.hid (HX10.out.trans hx); clear hx)
        | (go_at_call 35; with_reducible refine (few06_any l _ hl).mono ?_; rintro e w' ⟨rfl, rfl⟩)
        | (go_at_call 27; with_reducible refine (may_any _ _ _ C3.out).mono ?_; rintro e w' ⟨rfl, rfl⟩))
      go_ret
      exact ⟨rfl, HX11.out⟩
    · have c1 : (pe == 0) = false := by rw [h3, beq_eq_false_iff_ne]; exact h2
      clear h1 h2 h3
      go_wp2
      go_ret
      exact ⟨rfl, HX10.out⟩
    · subst h3
      clear h1
      go_wp2
      go_ret
      exact ⟨rfl, HX10.out⟩
end Go.Proofs.YtfafoiglllfpgaaDoor
