/- The reference's address of a text. Conditions: the library's table of powers of ten reads as it is laid; a text of at most 1000 bytes. -/
import Derived.Test.YtfafoiglllfpgaaDoorRef05
namespace Go.Proofs.YtfafoiglllfpgaaDoor
open Go.RowKit

theorem rfold_snoc {l : List UInt8} {k : Nat} {c : UInt8} (hk : k < l.length) (hc : l[k] = c) {st : Nat × Nat} (h : (l.take k).foldl rstep (0, 0) = st) : (l.take (k + 1)).foldl rstep (0, 0) = rstep st c := by
  rw [take_snoc hk, List.foldl_append, h, hc]; rfl
theorem says_rfold {l : List UInt8} {a b : Nat} (h : l.foldl rstep (0, 0) = (a, b)) {c : Nat} (hs : Says l c) : c = (a * 256 + b) % 4294967296 := by
  obtain ⟨hc, rfl⟩ := hs
  rw [rfold_of _ _ _ (fold_pr hc)] at h
  simp only [Prod.mk.injEq] at h
  omega
theorem says_len {l : List UInt8} {c : Nat} (hs : Says l c) : l.length < 16 := by have := prN_len c; rw [hs.2] at this; omega
theorem r05_num (b c : Nat) : (((b : Int) * 10 + c - 48) % 4294967296) = ((b * 10 + c + 4294967248) % 4294967296 : Nat) := by omega
theorem u32_eq {x y : Int} (h : x = y) : Value.int .u32 x = Value.int .u32 y := by rw [h]
theorem r05Print_is (X : Nat) (x : Int) (hx : x = X) (h : X < 4294967296) (w : World) (ht : Tab10 w) :
    Calls Tryd.prog 31 #[.int .u32 x] w fun e w' => e = .returned (S (prN X)) ∧ Ext w w' := by subst hx; exact r05Print_any X h w ht
set_option maxHeartbeats 2000000 in
theorem r05Parse_any (l : List UInt8) (w : World) (ht : Tab10 w) (hl : l.length ≤ 1000) : Calls Tryd.prog 29 #[S l] w (ParsePost l w) := by
  have HT := Lib.hid ht
  clear ht
  go_enter Tryd.func29, Tryd.ntmps29
  go_wp2_with fail
  go_loop [4, 5, 6] (fun x v i => ∃ (k a b : Nat), k ≤ l.length ∧ i = I k ∧ x = .int .u32 a ∧ v = .int .u32 b ∧ a < 4294967296 ∧ b < 4294967296 ∧ Hid ((l.take k).foldl rstep (0, 0) = (a, b))) (fun _ _ i => l.length - (intOf i).toNat)
  case atStart => exact ⟨0, 0, 0, by omega, rfl, rfl, rfl, by omega, by omega, rfl⟩
  case round =>
    obtain ⟨k, a, b, hk, rfl, rfl, rfl, ha, hb, HF⟩ := hrel
    have endGood : (∀ c, Says l c → c = (a * 256 + b) % 4294967296) → (a * 256 + b) % 4294967296 < 4294967296 ∧ (prN ((a * 256 + b) % 4294967296) = l ∨ (prN ((a * 256 + b) % 4294967296) ≠ l ∧ ∀ c, ¬ Says l c)) := fun h =>
      ⟨Nat.mod_lt _ (by omega), by
        by_cases e : prN ((a * 256 + b) % 4294967296) = l
        · exact .inl e
        · exact .inr ⟨e, fun c hs => e (by rw [← h c hs]; exact hs.2)⟩⟩
    have HG := Lib.hid endGood
    clear endGood
    by_cases hgo : k < l.length ∧ l.length < 16
    · obtain ⟨hlt, h16⟩ := hgo
      obtain ⟨c, hc⟩ : ∃ c, l[k] = c := ⟨_, rfl⟩
      have HS := Lib.hid (rfold_snoc hlt hc HF.out)
      have hg : (⟨l.toArray⟩ : ByteArray)[k]'hlt = c := hc
      clear hc HF HG
      have hcl : (c.toNat : Int) ≤ 255 := by have := c.toNat_lt; omega
      by_cases h46 : c = 46
      · have HD := Lib.hid h46
        have h1 : ((c.toNat : Int) == 46) = true := by rw [h46]; rfl
        clear h46
        go_wp2_with fail
        go_round
        case rel =>
          refine ⟨k + 1, (a * 256 + b) % 4294967296, 0, by omega, by go_num, u32_eq (by omega), rfl, Nat.mod_lt _ (by omega), by omega, ?_⟩
          have := HS.out
          rw [HD.out] at this
          exact this
        case measure => simp [intOf]; omega
      · have h1 : ((c.toNat : Int) == 46) = false := by
          rw [beq_eq_false_iff_ne]; intro e; apply h46; apply UInt8.toNat_inj.1; show c.toNat = 46; omega
        have HP := Lib.hid (show rstep (a, b) c = (a, (b * 10 + c.toNat + 4294967248) % 4294967296) by unfold rstep; rw [if_neg h46])
        clear h46
        go_wp2_with fail
        go_round
        case rel => exact ⟨k + 1, a, (b * 10 + c.toNat + 4294967248) % 4294967296, by omega, by go_num, rfl, u32_eq (by omega), ha, Nat.mod_lt _ (by omega), by show _ = _; rw [HS.out, HP.out]⟩
        case measure => simp [intOf]; omega
    · have HE := Lib.hid (HG.out (fun c hs => by
        have h1 := says_len hs
        have h2 := HF.out
        rw [List.take_of_length_le (by omega)] at h2
        exact says_rfold h2 hs))
      clear HG HF
      have hX := HE.out.1
      have HO := Lib.hid (show (((a : Int) * 256 + b) % 4294967296) = ((a * 256 + b) % 4294967296 : Nat) by omega)
      rcases HE.out.2 with he | ⟨he, hn⟩
      · have h1 : (prN ((a * 256 + b) % 4294967296) == l) = true := by simpa using he
        have HH := Lib.hid he
        clear he
        by_cases hlt : k < l.length
        all_goals
          go_wp2_with (first
            | (go_at_call 31; with_reducible refine (r05Print_is _ _ HO.out hX _ HT.out).mono ?_; rintro e w1 ⟨rfl, hx1⟩))
          go_ret2
          exact he_post _ HO.out hX HH.out hx1
      · have h1 : (prN ((a * 256 + b) % 4294967296) == l) = false := by simpa using he
        have HH := Lib.hid hn
        clear he hn
        by_cases hlt : k < l.length
        all_goals
          go_wp2_with (first
            | (go_at_call 31; with_reducible refine (r05Print_is _ _ HO.out hX _ HT.out).mono ?_; rintro e w1 ⟨rfl, hx1⟩))
          go_ret2
          exact parse_no HH.out hx1
end Go.Proofs.YtfafoiglllfpgaaDoor
