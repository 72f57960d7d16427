/- The program's prefixes as texts. Conditions: whole numbers are within 64 bits; the library's table of powers of ten reads as it is laid; a text of at most 1000 bytes. -/
import Derived.Test.YtfafoiglllfpgaaDoorRef06
namespace Go.Proofs.YtfafoiglllfpgaaDoor
open Go.RowKit

set_option maxHeartbeats 400000 in
theorem prefPrint_any (a : BitVec 32) (n : Int) (w : World) (h : In64 n) (ht : Tab10 w) :
    Calls Tryd.prog 34 #[U a, I n] w fun e w' => e = .returned (S (prefL a.toNat n)) ∧ Ext w w' := by
  have HT := Lib.hid ht
  clear ht
  have hl := prN_len a.toNat
  have hl2 := Lib.itoa_length_le n h.1 h.2
  go_enter Tryd.func34, Tryd.ntmps34
  go_wp2_with (first
    | (go_at_call 22; with_reducible refine (print_any a _ HT.out).mono ?_; rintro e w1 ⟨rfl, hx1⟩)
    | (go_at_call 43; with_reducible refine (itoa_any _ _ h (HT.out.later hx1)).mono ?_; rintro e w2 ⟨rfl, hx2⟩))
  go_ret
  exact ⟨ret_S (by unfold prefL; simp), hx1.trans hx2⟩

/-- What stands ahead of the first slash, and behind it. -/
def CutPost (l : List UInt8) (w : World) (e : Ending) (w' : World) : Prop :=
  ((∃ p q, l = p ++ 47 :: q ∧ 47 ∉ p ∧ e = .returned (.tuple #[S p, S q, .bool true])) ∨ (47 ∉ l ∧ e = .returned (.tuple #[S l, S [], .bool false]))) ∧ Ext w w'
theorem index_split : ∀ (l : List UInt8), (Lib.indexByte l 47 = -1 ∧ 47 ∉ l) ∨ ∃ p q, l = p ++ 47 :: q ∧ 47 ∉ p ∧ Lib.indexByte l 47 = p.length
  | [] => .inl ⟨rfl, by simp⟩
  | b :: l => by
    by_cases hb : b = 47
    · subst hb
      exact .inr ⟨[], l, rfl, by simp, by simp [Lib.indexByte]⟩
    · have h1 : (b == 47) = false := by simpa using hb
      rcases index_split l with ⟨h, g⟩ | ⟨p, q, h, g, e⟩
      · refine .inl ⟨by simp [Lib.indexByte, h1, h], ?_⟩
        intro hm
        rcases List.mem_cons.1 hm with rfl | hm
        · exact hb rfl
        · exact g hm
      · refine .inr ⟨b :: p, q, by rw [h]; rfl, ?_, ?_⟩
        · intro hm
          rcases List.mem_cons.1 hm with rfl | hm
          · exact hb rfl
          · exact g hm
        · have : ¬ ((p.length : Int) == -1) = true := by simp
          simp only [Lib.indexByte, h1, e, this, List.length_cons]
          simp
theorem extract_list (l : List UInt8) (i j : Nat) : (⟨l.toArray⟩ : ByteArray).extract i j = ⟨((l.take j).drop i).toArray⟩ := by
  apply ByteArray.ext
  rw [ByteArray.data_extract]
  simp [List.drop_take]
theorem ret_cutx {l p q : List UInt8} (h : l = p ++ 47 :: q) :
    Ending.returned (.tuple #[.string ((⟨l.toArray⟩ : ByteArray).extract 0 p.length), .string ((⟨l.toArray⟩ : ByteArray).extract (p.length + 1) l.length), .bool true]) = .returned (.tuple #[S p, S q, .bool true]) := by
  rw [extract_list, extract_list, List.take_length, h]
  have h1 : ((p ++ 47 :: q).take p.length).drop 0 = p := by simp
  have h2 : (p ++ 47 :: q).drop (p.length + 1) = q := by rw [List.drop_append]; simp
  rw [h1, h2]
theorem ret_cut {a b c d : List UInt8} {x : Bool} (h1 : a = c) (h2 : b = d) : Ending.returned (.tuple #[S a, S b, .bool x]) = .returned (.tuple #[S c, S d, .bool x]) := by rw [h1, h2]
set_option maxHeartbeats 1000000 in
theorem cutIn_any (l : List UInt8) (w : World) (hl : l.length ≤ 1000) : Calls Tryd.prog 54 #[S l, .string ⟨#[47]⟩] w (CutPost l w) := by
  rcases index_split l with ⟨h1, h2⟩ | ⟨p, q, rfl, hp, hi⟩
  · have HI := Lib.hid (show Lib.indexByte (⟨l.toArray⟩ : ByteArray).data.toList 47 = -1 from h1)
    have HN := Lib.hid h2
    clear h1 h2
    go_enter Tryd.func54, Tryd.ntmps54
    go_wp2_with (first
      | (go_at_call 56; refine (Tryd.stringslite_Index_one _ 47 _).mono ?_; rintro e w1 ⟨he, rfl⟩; rw [HI.out] at he; subst he))
    go_ret3
    exact ⟨.inr ⟨HN.out, rfl⟩, Ext.refl _⟩
  · have HI := Lib.hid (show Lib.indexByte (⟨(p ++ 47 :: q).toArray⟩ : ByteArray).data.toList 47 = (p.length : Int) from hi)
    have HN := Lib.hid hp
    have hpl : p.length + 1 ≤ (p ++ 47 :: q).length := by simp
    obtain ⟨l, hL⟩ : ∃ l, l = p ++ 47 :: q := ⟨_, rfl⟩
    have HL := Lib.hid hL
    rw [← hL] at hpl hl HI ⊢
    clear hi hp hL
    go_enter Tryd.func54, Tryd.ntmps54
    go_wp2_with (first
      | (go_at_call 56; refine (Tryd.stringslite_Index_one _ 47 _).mono ?_; rintro e w1 ⟨he, rfl⟩; rw [HI.out] at he; subst he))
    go_quiet (fail)
    go_wp2
    go_ret3
    exact ⟨.inl ⟨p, q, HL.out, HN.out, ret_cutx HL.out⟩, (Ext.refl _).drewN _⟩
theorem cut_any (l : List UInt8) (w : World) (hl : l.length ≤ 1000) : Calls Tryd.prog 47 #[S l, .string ⟨#[47]⟩] w (CutPost l w) := by
  go_enter Tryd.func47, Tryd.ntmps47
  go_wp2_with (first
    | (go_at_call 54; refine (cutIn_any l _ hl).mono ?_; rintro e w1 ⟨⟨p, q, h1, h2, rfl⟩ | ⟨h1, rfl⟩, hx⟩))
  · go_ret3
    exact ⟨.inl ⟨p, q, h1, h2, rfl⟩, hx⟩
  · go_ret3
    exact ⟨.inr ⟨h1, rfl⟩, hx⟩

/-- The closure that holds a number's text against the tail. -/
theorem right_any (n : Nat) (hn : n < 100) (tail : List UInt8) (pb : Nat) (w : World) (ht : Tab10 w) (hc : w.cell? ⟨pb, 0, none⟩ = some (S tail)) :
    Calls Tryd.prog 49 #[I n, .pointer (some ⟨pb, 0, none⟩)] w fun e w' => e = .returned (.bool (dd n == tail)) ∧ Ext w w' := by
  have HT := Lib.hid ht
  clear ht
  have hk := Ext.keep hc
  go_enter Tryd.func49, Tryd.ntmps49
  go_wp2_with fail
  refine wp_region_E 4 rfl (by kernel_rfl) (by kernel_rfl) ?_
  refine WE_q 0 rfl (by decide) (by kernel_rfl) rfl ?_; apply Exists.intro; refine ⟨fun w1 hx1 => ?_, ?_⟩
  · have hq1 := hx1.cells; go_simp; try go_bits
    first | with_reducible rfl | (refine (itoaN_any n _ (by omega) (HT.out.later (by assumption))).mono ?_; rintro e w' ⟨rfl, hx⟩; exact ⟨rfl, hx⟩)
  simp only [Act.put, List.setIfInBounds_toArray, List.set_cons_zero, List.set_cons_succ]
  refine WE_q 1 rfl (by decide) (by kernel_rfl) rfl ?_; apply Exists.intro; refine ⟨fun w1 hx1 => ?_, ?_⟩
  · have hq1 := hx1.cells; go_simp; try go_bits
    first | with_reducible rfl | (refine (itoaN_any n _ (by omega) (HT.out.later (by assumption))).mono ?_; rintro e w' ⟨rfl, hx⟩; exact ⟨rfl, hx⟩)
  simp only [Act.put, List.setIfInBounds_toArray, List.set_cons_zero, List.set_cons_succ]
  refine WE_q 2 rfl (by decide) (by kernel_rfl) rfl ?_; apply Exists.intro; refine ⟨fun w1 hx1 => ?_, ?_⟩
  · have hq1 := hx1.cells; go_simp; try go_bits
    first | with_reducible rfl | (refine (itoaN_any n _ (by omega) (HT.out.later (by assumption))).mono ?_; rintro e w' ⟨rfl, hx⟩; exact ⟨rfl, hx⟩)
  simp only [Act.put, List.setIfInBounds_toArray, List.set_cons_zero, List.set_cons_succ]
  refine WE_q 3 rfl (by decide) (by kernel_rfl) rfl ?_; apply Exists.intro; refine ⟨fun w1 hx1 => ?_, ?_⟩
  · have hq1 := hx1.cells; go_simp; try go_bits
    first | with_reducible rfl | (refine (itoaN_any n _ (by omega) (HT.out.later (by assumption))).mono ?_; rintro e w' ⟨rfl, hx⟩; exact ⟨rfl, hx⟩)
  simp only [Act.put, List.setIfInBounds_toArray, List.set_cons_zero, List.set_cons_succ]
  refine WE_done (by kernel_rfl) (fun w3 hx3 => ?_)
  simp only [List.drop_succ_cons, List.drop_zero]
  go_wp2
  go_ret
  exact ⟨rfl, hx3⟩
def FirstPost (tail : List UInt8) (w : World) (e : Ending) (w' : World) : Prop :=
  ((∃ n : Nat, n ≤ 32 ∧ dd n = tail ∧ e = .returned (.tuple #[I n, .bool true])) ∨ ((∀ n : Nat, n ≤ 32 → dd n ≠ tail) ∧ e = .returned (.tuple #[I 0, .bool false]))) ∧ Ext w w'
theorem dd_no_slash {n : Nat} : 47 ∉ dd n := fun h => by have := dd_dig n _ h; rw [slash_not] at this; cases this
set_option maxHeartbeats 1000000 in
theorem first_any (tail : List UInt8) (pb : Nat) (w : World) (ht : Tab10 w) (hc : w.cell? ⟨pb, 0, none⟩ = some (S tail)) :
    Calls Tryd.prog 48 #[I 33, .func (Fn.func 49) #[] #[.pointer (some ⟨pb, 0, none⟩)]] w (FirstPost tail w) := by
  have HT := Lib.hid ht
  have HC := Lib.hid hc
  clear ht hc
  go_enter Tryd.func48, Tryd.ntmps48
  go_wp2_with fail
  go_loopw [8] (fun i wr => ∃ k : Nat, k ≤ 33 ∧ i = I k ∧ Hid (∀ n : Nat, n < k → dd n ≠ tail) ∧ Ext w wr) (fun i _ => 33 - (intOf i).toNat)
  case atStart => exact ⟨0, by omega, rfl, fun n hn => by omega, Ext.refl w⟩
  case round =>
    obtain ⟨k, hk, rfl, HB, hx⟩ := hrel
    by_cases hlt : k < 33
    · by_cases he : dd k = tail
      · have hd : (dd k == tail) = true := by simpa using he
        have HE := Lib.hid he
        clear he
        go_wp2_with (first
          | (go_at_call 49; with_reducible refine (right_any k (by omega) tail pb _ (HT.out.later hx) (hx.cell HC.out)).mono ?_; rintro e w1 ⟨rfl, hx1⟩))
        go_ret2
        exact ⟨.inl ⟨k, by omega, HE.out, rfl⟩, hx.trans hx1⟩
      · have hd : (dd k == tail) = false := by simpa using he
        have HE := Lib.hid (below_snoc HB.out he)
        clear he
        go_wp2_with (first
          | (go_at_call 49; with_reducible refine (right_any k (by omega) tail pb _ (HT.out.later hx) (hx.cell HC.out)).mono ?_; rintro e w1 ⟨rfl, hx1⟩))
        go_roundw
        case rel => exact ⟨k + 1, by omega, by go_num, HE.out, hx.trans hx1⟩
        case measure => simp [intOf]; omega
    · have HE := Lib.hid (show ∀ n : Nat, n ≤ 32 → dd n ≠ tail from fun n hn => HB.out n (by omega))
      go_wp2
      go_ret2
      exact ⟨.inr ⟨HE.out, rfl⟩, hx⟩

theorem says_noslash {a : Nat} : 47 ∉ prN a := fun h => by
  rcases prN_mem h with g | g
  · rw [slash_not] at g; cases g
  · cases g
theorem split_slash {p q x y : List UInt8} (hp : 47 ∉ p) (hq : 47 ∉ q) (h : p ++ 47 :: x = q ++ 47 :: y) : p = q ∧ x = y := by
  induction p generalizing q with
  | nil =>
    cases q with
    | nil => simp at h; exact ⟨rfl, h⟩
    | cons d q => simp at h; exact absurd (by rw [h.1]; simp) hq
  | cons a p ih =>
    cases q with
    | nil => simp at h; exact absurd (by rw [h.1]; simp) hp
    | cons d q =>
      simp only [List.cons_append, List.cons.injEq] at h
      obtain ⟨h1, h2⟩ := ih (q := q) (fun hc => hp (by simp [hc])) (fun hc => hq (by simp [hc])) h.2
      exact ⟨by rw [h.1, h1], h2⟩
/-- The prefix whose text it is: an address's, a slash, a length up to 32. -/
def PSays (l : List UInt8) (a : BitVec 32) (n : Nat) : Prop := n ≤ 32 ∧ l = prN a.toNat ++ 47 :: dd n
def PrefPost (l : List UInt8) (w : World) (e : Ending) (w' : World) : Prop :=
  ((∃ (a : BitVec 32) (n : Nat), PSays l a n ∧ ((mayV a n = 0 ∧ e = .returned (.tuple #[U a, I n, I 0])) ∨ (mayV a n ≠ 0 ∧ e = .returned (.tuple #[.int .u32 0, I 0, I (mayV a n)])))) ∨
    ((∀ a n, ¬ PSays l a n) ∧ e = .returned (.tuple #[.int .u32 0, I 0, I 7]))) ∧ Ext w w'
theorem pref_none {l : List UInt8} {w w' : World} (h : ∀ a n, ¬ PSays l a n) (hx : Ext w w') : PrefPost l w (.returned (.tuple #[.int .u32 0, I 0, I 7])) w' := ⟨.inr ⟨h, rfl⟩, hx⟩
theorem psays_slash {l : List UInt8} (h : 47 ∉ l) : ∀ a n, ¬ PSays l a n := fun a n ⟨_, h2⟩ => h (by rw [h2]; simp)
theorem psays_head {p q : List UInt8} (hp : 47 ∉ p) (h : ∀ a, ¬ Says p a) : ∀ a n, ¬ PSays (p ++ 47 :: q) a n := fun a _ ⟨_, h2⟩ =>
  h a.toNat ⟨a.isLt, (split_slash hp says_noslash h2).1.symm⟩
theorem psays_tail {p q : List UInt8} (hp : 47 ∉ p) (h : ∀ n : Nat, n ≤ 32 → dd n ≠ q) : ∀ a n, ¬ PSays (p ++ 47 :: q) a n := fun _ n ⟨h1, h2⟩ =>
  h n h1 (split_slash hp says_noslash h2).2.symm
theorem psays_mk {p q : List UInt8} {a : BitVec 32} {n : Nat} (h1 : Says p a.toNat) (hn : n ≤ 32) (h2 : dd n = q) : PSays (p ++ 47 :: q) a n := ⟨hn, by rw [h1.2, h2]⟩
theorem mayV_08 (a : BitVec 32) (n : Int) : mayV a n = 0 ∨ mayV a n = 1 ∨ mayV a n = 8 := by
  unfold mayV; split
  · exact .inr (.inl rfl)
  · split
    · exact .inl rfl
    · exact .inr (.inr rfl)
set_option maxHeartbeats 1000000 in
theorem prefParse_any (l : List UInt8) (w : World) (hl : l.length ≤ 1000) (ht : Tab10 w) : Calls Tryd.prog 33 #[S l] w (PrefPost l w) := by
  have HT := Lib.hid ht
  clear ht
  go_enter Tryd.func33, Tryd.ntmps33
  go_wp2_with (go_at_call 47; refine (cut_any l _ hl).mono ?_; rintro e w1 ⟨⟨p, q, h1, h2, rfl⟩ | ⟨h1, rfl⟩, hx⟩)
  · have hpl : p.length ≤ 1000 := by rw [h1] at hl; simp at hl; omega
    subst h1
    have HP := Lib.hid h2
    clear h2
    go_wp2_with (go_at_call 23; refine (parse_any p _ (HT.out.later (hx.alloc _)) hpl).mono ?_; rintro e w2 ⟨⟨a, h3, rfl⟩ | ⟨h3, rfl⟩, hx2⟩)
    · have H3 := Lib.hid h3
      have hq : w2.cell? ⟨w1.heap.size, 0, none⟩ = some (S q) := hx2.cell (by simp)
      clear h3
      go_wp2_with (go_at_call 48; refine (first_any q w1.heap.size _ (HT.out.later ((hx.alloc _).trans hx2)) hq).mono ?_; rintro e w3 ⟨⟨n, hn, h4, rfl⟩ | ⟨h4, rfl⟩, hx3⟩)
      · have HS := Lib.hid (psays_mk H3.out hn h4)
        have hin : In64 n := by unfold In64; omega
        clear h4
        by_cases hm : mayV a n = 0
        · have hmd : (mayV a n != 0) = false := by simpa using hm
          have HM := Lib.hid hm
          clear hm
          go_wp2_with (go_at_call 27; with_reducible refine (may_any _ _ _ hin).mono ?_; rintro e w' ⟨rfl, rfl⟩)
          go_ret3
          exact ⟨.inl ⟨a, n, HS.out, .inl ⟨HM.out, rfl⟩⟩, (hx.alloc _).trans (hx2.trans hx3)⟩
        · have hmd : (mayV a n != 0) = true := by simpa using hm
          have HM := Lib.hid hm
          clear hm
          go_wp2_with (go_at_call 27; with_reducible refine (may_any _ _ _ hin).mono ?_; rintro e w' ⟨rfl, rfl⟩)
          go_ret3
          exact ⟨.inl ⟨a, n, HS.out, .inr ⟨HM.out, rfl⟩⟩, (hx.alloc _).trans (hx2.trans hx3)⟩
      · have HS := Lib.hid (psays_tail (q := q) HP.out h4)
        clear h4
        go_wp2
        go_ret3
        exact pref_none HS.out ((hx.alloc _).trans (hx2.trans hx3))
    · have HS := Lib.hid (psays_head (q := q) HP.out h3)
      clear h3
      go_wp2
      go_ret3
      exact pref_none HS.out ((hx.alloc _).trans hx2)
  · have HS := Lib.hid (psays_slash h1)
    clear h1
    go_wp2
    go_ret3
    exact pref_none HS.out (hx.alloc _)
end Go.Proofs.YtfafoiglllfpgaaDoor
