/- The address of a text. Conditions: the library's table of powers of ten reads as it is laid; a text of at most 1000 bytes. -/
import Derived.Test.YtfafoiglllfpgaaDoorAddr
import Derived.ScopeJumps
namespace Go.Proofs.YtfafoiglllfpgaaDoor
open Go.RowKit

theorem take_snoc {α : Type} {l : List α} {k : Nat} (h : k < l.length) : l.take (k + 1) = l.take k ++ [l[k]] := List.take_succ_eq_append_getElem h
theorem or_lit1 (a : Nat) : (a : Int) * 256 % 4294967296 = uv (BitVec.ofNat 32 (a * 256)) := by unfold uv; rw [BitVec.toNat_ofNat]; omega
theorem or_lit2 (b : Nat) (hb : b < 256) : (b : Int) = uv (BitVec.ofNat 32 b) := by unfold uv; rw [BitVec.toNat_ofNat]; omega
theorem or_nat (a b : Nat) (hb : b < 256) : ((BitVec.ofNat 32 (a * 256) ||| BitVec.ofNat 32 b).toNat : Int) = ((a * 256 + b) % 4294967296 : Nat) := by
  rw [BitVec.toNat_or, BitVec.toNat_ofNat, BitVec.toNat_ofNat]
  have h1 : a * 256 % 2 ^ 32 = (a % 16777216) <<< 8 := by rw [Nat.shiftLeft_eq]; omega
  have h2 : b % 2 ^ 32 = b := by omega
  rw [h1, h2, ← Nat.shiftLeft_add_eq_or_of_lt (by omega), Nat.shiftLeft_eq]
  omega
theorem or_lit3 (a b : Nat) (hb : b < 256) : uv (BitVec.ofNat 32 (a * 256) ||| BitVec.ofNat 32 b) = ((a * 256 + b) % 4294967296 : Nat) := or_nat a b hb
theorem or_lit (a b : Nat) (hb : b < 256) : bits .or .u32 ((a : Int) * 256 % 4294967296) (b : Int) = ((a * 256 + b) % 4294967296 : Nat) := by
  rw [or_lit1, or_lit2 b hb, bits_or_uv, or_lit3 a b hb]
theorem ofNat_uv (X : Nat) (h : X < 4294967296) : uv (BitVec.ofNat 32 X) = (X : Int) := by
  unfold uv; rw [BitVec.toNat_ofNat, Nat.mod_eq_of_lt (by omega)]
theorem ofNat_nat (X : Nat) (h : X < 4294967296) : (BitVec.ofNat 32 X).toNat = X := by rw [BitVec.toNat_ofNat, Nat.mod_eq_of_lt (by omega)]
theorem print_uv (a : BitVec 32) (x : Int) (X : Nat) (h1 : uv a = x) (h2 : a.toNat = X) (w : World) (ht : Tab10 w) :
    Calls Tryd.prog 22 #[.int .u32 x] w fun e w' => e = .returned (S (prN X)) ∧ Ext w w' := by subst h1 h2; exact print_any a w ht
theorem print_is (X : Nat) (x : Int) (hx : x = X) (h : X < 4294967296) (w : World) (ht : Tab10 w) :
    Calls Tryd.prog 22 #[.int .u32 x] w fun e w' => e = .returned (S (prN X)) ∧ Ext w w' := print_uv (BitVec.ofNat 32 X) x X ((ofNat_uv X h).trans hx.symm) (ofNat_nat X h) w ht
theorem fold_snoc {l : List UInt8} {k : Nat} {c : UInt8} (hk : k < l.length) (hc : l[k] = c) {st : Nat × Nat} (h : (l.take k).foldlM pstep (0, 0) = some st) : (l.take (k + 1)).foldlM pstep (0, 0) = pstep st c := by
  rw [take_snoc hk, List.foldlM_append, h, hc]
  show (List.foldlM pstep st [c]) = _
  rw [List.foldlM_cons]
  cases pstep st c <;> rfl
/-- A text at which the reading stops is no address's. -/
theorem says_not {l : List UInt8} {k : Nat} (h : (l.take k).foldlM pstep (0, 0) = none) : ∀ a, ¬ Says l a := by
  rintro a ⟨ha, rfl⟩
  have h1 := fold_pr ha
  rw [← List.take_append_drop k (prN a), List.foldlM_append, h] at h1
  cases h1
theorem says_end {l : List UInt8} {a b : Nat} (h : l.foldlM pstep (0, 0) = some (a, b)) {c : Nat} (hs : Says l c) : c = (a * 256 + b) % 4294967296 := by
  obtain ⟨hc, rfl⟩ := hs
  rw [fold_pr hc] at h
  simp only [Option.some.injEq, Prod.mk.injEq] at h
  omega
def ParsePost (l : List UInt8) (w : World) (e : Ending) (w' : World) : Prop :=
  ((∃ a : BitVec 32, Says l a.toNat ∧ e = .returned (.tuple #[U a, I 0])) ∨ ((∀ a, ¬ Says l a) ∧ e = .returned (.tuple #[.int .u32 0, I 7]))) ∧ Ext w w'
theorem parse_yes {l : List UInt8} {w w' : World} {X : Nat} (hX : X < 4294967296) (h : prN X = l) (hx : Ext w w') : ParsePost l w (.returned (.tuple #[.int .u32 X, I 0])) w' := by
  have e : (BitVec.ofNat 32 X).toNat = X := by rw [BitVec.toNat_ofNat]; omega
  refine ⟨.inl ⟨BitVec.ofNat 32 X, by rw [e]; exact ⟨hX, h⟩, ?_⟩, hx⟩
  show _ = Ending.returned (.tuple #[.int .u32 (uv (BitVec.ofNat 32 X)), I 0])
  unfold uv; rw [e]
theorem parse_no {l : List UInt8} {w w' : World} (h : ∀ a, ¬ Says l a) (hx : Ext w w') : ParsePost l w (.returned (.tuple #[.int .u32 0, I 7])) w' := ⟨.inr ⟨h, rfl⟩, hx⟩
theorem ba_ne {a b : List UInt8} (h : a ≠ b) : ((⟨a.toArray⟩ : ByteArray) == ⟨b.toArray⟩) = false := by
  show (a.toArray == b.toArray) = false
  simpa using h
theorem ba_eq {a b : List UInt8} (h : a = b) : ((⟨a.toArray⟩ : ByteArray) == ⟨b.toArray⟩) = true := by
  show (a.toArray == b.toArray) = true
  simpa using h
theorem he_post {l : List UInt8} {w w' : World} {X : Nat} (x : Int) (hx : x = X) (hX : X < 4294967296) (h : prN X = l) (hw : Ext w w') : ParsePost l w (.returned (.tuple #[.int .u32 x, I 0])) w' := by
  subst hx; exact parse_yes hX h hw
/-- The frame of the function, where it says nothing. -/
def ParseOut (l : List UInt8) (w : World) (a' : Act) (w' : World) : Prop :=
  w' = w ∧ (∀ a, ¬ Says l a) ∧ ∃ (u4 u5 u6 u7 u8 u9 u10 u11 u12 u13 u14 u15 u16 u17 u18 u19 u20 u21 u22 u23 u24 u25 u26 u27 u28 u29 u30 u31 u32 u33 u34 u35 u36 u37 u38 u39 u40 u41 u42 u43 u44 u45 u46 u47 : Value), a' = { tmps := #[S l, undef, .int .u32 0, .int .i64 0, u4, u5, u6, u7, u8, u9, u10, u11, u12, u13, u14, u15, u16, u17, u18, u19, u20, u21, u22, u23, u24, u25, u26, u27, u28, u29, u30, u31, u32, u33, u34, u35, u36, u37, u38, u39, u40, u41, u42, u43, u44, u45, u46, u47], defers := [] }
set_option maxHeartbeats 2000000 in
theorem parse_any (l : List UInt8) (w : World) (ht : Tab10 w) (hl : l.length ≤ 1000) : Calls Tryd.prog 23 #[S l] w (ParsePost l w) := by
  have HT := Lib.hid ht
  clear ht
  go_enter Tryd.func23, Tryd.ntmps23
  go_wp2
  refine wp_scope_jumps 0 (ParseOut l w) (fun _ _ => 0) rfl ?_ (fun a' w' ⟨hw, hn, u4, u5, u6, u7, u8, u9, u10, u11, u12, u13, u14, u15, u16, u17, u18, u19, u20, u21, u22, u23, u24, u25, u26, u27, u28, u29, u30, u31, u32, u33, u34, u35, u36, u37, u38, u39, u40, u41, u42, u43, u44, u45, u46, u47, ha⟩ => ?_)
  case refine_2 =>
    subst ha hw
    go_wp2
    simp only [Exit.jump]
    go_ret2
    exact parse_no hn (Ext.refl w')
  go_wp2_with fail
  go_loop [4, 5, 10] (fun x v i => ∃ (k a b : Nat), k ≤ l.length ∧ i = I k ∧ x = .int .u32 a ∧ v = .int .u32 b ∧ a < 4294967296 ∧ b ≤ 255 ∧ Hid ((l.take k).foldlM pstep (0, 0) = some (a, b))) (fun _ _ i => l.length - (intOf i).toNat)
  case atStart => exact ⟨0, 0, 0, by omega, rfl, rfl, rfl, by omega, by omega, rfl⟩
  case round =>
    obtain ⟨k, a, b, hk, rfl, rfl, rfl, ha, hb, HF⟩ := hrel
    by_cases hlt : k < l.length
    · obtain ⟨c, hc⟩ : ∃ c, l[k] = c := ⟨_, rfl⟩
      have HS := Lib.hid (fold_snoc hlt hc HF.out)
      have hg : (⟨l.toArray⟩ : ByteArray)[k]'hlt = c := hc
      clear hc HF
      have hcl : (c.toNat : Int) ≤ 255 := by have := c.toNat_lt; omega
      by_cases h46 : c = 46
      · have HD := Lib.hid h46
        have h1 : ((c.toNat : Int) == 46) = true := by rw [h46]; rfl
        clear h46
        go_wp2_with fail
        go_round
        case rel =>
          refine ⟨k + 1, (a * 256 + b) % 4294967296, 0, by omega, by go_num, by rw [or_lit a b (by omega)], rfl, Nat.mod_lt _ (by omega), by omega, ?_⟩
          have := HS.out
          rw [HD.out] at this
          exact this
        case measure => simp [intOf]; omega
      · have h1 : ((c.toNat : Int) == 46) = false := by
          rw [beq_eq_false_iff_ne]; intro e; apply h46; apply UInt8.toNat_inj.1; show c.toNat = 46; omega
        have HP := Lib.hid (show pstep (a, b) c = if isDig c then (if b * 10 + (c.toNat - 48) > 255 then none else some (a, b * 10 + (c.toNat - 48))) else none by unfold pstep; rw [if_neg h46])
        clear h46
        by_cases hd : 48 ≤ c.toNat ∧ c.toNat ≤ 57
        · obtain ⟨d1, d2⟩ := hd
          have HP2 := Lib.hid (show pstep (a, b) c = if b * 10 + (c.toNat - 48) > 255 then none else some (a, b * 10 + (c.toNat - 48)) by
            rw [HP.out, if_pos (by unfold isDig; simp; omega)])
          clear HP
          by_cases hv : b * 10 + (c.toNat - 48) ≤ 255
          · have HP3 := Lib.hid (show pstep (a, b) c = some (a, b * 10 + (c.toNat - 48)) by rw [HP2.out, if_neg (by omega)])
            clear HP2
            go_wp2_with fail
            go_round
            case rel => exact ⟨k + 1, a, b * 10 + (c.toNat - 48), by omega, by go_num, rfl, by congr 1; omega, ha, hv, by show _ = _; rw [HS.out, HP3.out]⟩
            case measure => simp [intOf]; omega
          · have HN := Lib.hid (says_not (HS.out.trans (HP2.out.trans (if_pos (by omega)))))
            clear HS HP2
            go_wp2_with fail
            go_step3
            exact ⟨rfl, rfl, HN.out, _, _, _, _, _, _, _, _, _, _, _, _, _, _, _, _, _, _, _, _, _, _, _, _, _, _, _, _, _, _, _, _, _, _, _, _, _, _, _, _, _, _, _, _, rfl⟩
        · have HN := Lib.hid (says_not (HS.out.trans (HP.out.trans (if_neg (by unfold isDig; simp; omega)))))
          clear HS HP
          have hd2 : c.toNat < 48 ∨ 57 < c.toNat := by omega
          clear hd
          rcases hd2 with hd2 | hd2
          all_goals
            go_wp2_with fail
            go_step3
            exact ⟨rfl, rfl, HN.out, _, _, _, _, _, _, _, _, _, _, _, _, _, _, _, _, _, _, _, _, _, _, _, _, _, _, _, _, _, _, _, _, _, _, _, _, _, _, _, _, _, _, _, _, rfl⟩
    · have hX : (a * 256 + b) % 4294967296 < 4294967296 := Nat.mod_lt _ (by omega)
      have HO := Lib.hid (or_lit a b (by omega))
      have HE := Lib.hid (fun c hs => says_end (c := c) (by have := HF.out; rwa [List.take_of_length_le (by omega)] at this) hs)
      by_cases he : prN ((a * 256 + b) % 4294967296) = l
      · have h1 : (prN ((a * 256 + b) % 4294967296) == l) = true := by simpa using he
        have HH := Lib.hid he
        clear he
        go_wp2_with (first
          | (go_at_call 22; with_reducible refine (print_is _ _ HO.out hX _ HT.out).mono ?_; rintro e w1 ⟨rfl, hx1⟩))
        simp only [Exit.jump]
        go_ret2
        exact he_post _ HO.out hX HH.out hx1
      · have h1 : (prN ((a * 256 + b) % 4294967296) == l) = false := by simpa using he
        have HH := Lib.hid (show ∀ c, ¬ Says l c from fun c hs => he (by rw [← HE.out c hs]; exact hs.2))
        clear he
        go_wp2_with (first
          | (go_at_call 22; with_reducible refine (print_is _ _ HO.out hX _ HT.out).mono ?_; rintro e w1 ⟨rfl, hx1⟩))
        go_step3
        go_wp2
        simp only [Exit.jump]
        go_ret2
        exact parse_no HH.out hx1
end Go.Proofs.YtfafoiglllfpgaaDoor
