/- The law CutsMeet: intervals meet. Conditions: none. -/
import Derived.Test.YtilaljdokpdcoaaShown12
import Derived.Test.YtilaljdokpdcoaaPut12
namespace Go.Proofs.Ytilaljdokpdcoaa
open Go.RowKit

theorem atN_eq {l : List (BitVec 32)} (hr : Rising l) {a : BitVec 32} {m : Nat} (hm : m < l.length) (h1 : uv l[m] ≤ uv a) (h2 : ∀ h : m + 1 < l.length, uv a < uv l[m + 1]) : atN l a = m + 1 := by
  have hle := atN_le l a
  rcases Nat.lt_or_ge m (atN l a) with g | g
  · rcases Nat.lt_or_ge (m + 1) (atN l a) with g2 | g2
    · have := atN_lt g2 (by omega)
      have := h2 (by omega)
      omega
    · omega
  · have h3 := atN_end (l := l) (a := a) (by omega)
    have h4 := hr.le g hm
    omega
theorem end_ge {l : List (BitVec 32)} (hr : Rising l) {k : Nat} (hk : k < l.length) : uv l[k] ≤ uv (endV l k) := by
  by_cases h : k + 1 < l.length
  · rw [end_pos hr h]
    have := hr.lt (show k < k + 1 by omega) h
    omega
  · rw [end_top h, uv_top]
    have := (uv_bd l[k]).2
    omega
theorem atN_low {l : List (BitVec 32)} (hr : Rising l) {k : Nat} (hk : k < l.length) : atN l l[k] = k + 1 := atN_eq hr hk (Int.le_refl _) (fun h => hr.lt (by omega) h)
theorem atN_high {l : List (BitVec 32)} (hr : Rising l) {k : Nat} (hk : k < l.length) : atN l (endV l k) = k + 1 := atN_eq hr hk (end_ge hr hk) (fun h => by rw [end_pos hr h]; omega)
/-- What comes next. -/
def nxt (l : List (BitVec 32)) (k : Nat) : Int := if h : k < l.length then uv l[k] else 4294967296
theorem nxt_at {l : List (BitVec 32)} {k : Nat} (h : k < l.length) : nxt l k = uv l[k] := by unfold nxt; rw [dif_pos h]
theorem nxt_step {l : List (BitVec 32)} (hr : Rising l) {k : Nat} : nxt l (k + 1) = uv (endV l k) + 1 := by
  unfold nxt
  by_cases h : k + 1 < l.length
  · rw [dif_pos h, end_pos hr h]; omega
  · rw [dif_neg h, end_top h, uv_top]; rfl
set_option maxHeartbeats 2000000 in
set_option maxRecDepth 100000 in
theorem cutsMeet_any (lv : Value) (l : List (BitVec 32)) (a : BitVec 32) (w : World) (hl : UsAt w lv l) :
    Calls Try.prog 8 #[lv, U a] w fun e w' => e = .returned (.bool true) ∧ Ext w w' := by
  have HL := Lib.hid hl
  obtain ⟨hr, hz, hn⟩ := fitC_ok l
  have h0 := cuts_zero hr hz
  obtain ⟨z, hz'⟩ : ∃ z, fitC l = z := ⟨_, rfl⟩
  have HF := Lib.hid hz'
  rw [hz'] at hr h0
  have HR := Lib.hid hr
  have HZ := Lib.hid h0
  have HNX := Lib.hid (show nxt z 0 = 0 by
    obtain ⟨g, e⟩ := List.getElem?_eq_some_iff.1 h0
    rw [nxt_at g, e]; rfl)
  have HLT := Lib.hid (ivN_lt h0 a)
  have HFR := Lib.hid (iv_from h0 a)
  have HTO := Lib.hid (iv_to hr h0 a)
  clear hl hn hz hz' hr
  go_enter Try.func8, Try.ntmps8
  go_wp2_with (first
    | (go_at_call 29; with_reducible refine (shown12_any _).mono ?_; rintro e w1 ⟨rfl, hx1⟩; have HX1 := Lib.hid hx1; clear hx1)
    | (go_at_call 33; with_reducible refine (r12Fit_any lv l _ (HL.out.later HX1.out)).mono ?_; rintro e w2 ⟨v, rfl, hv, hx2⟩; rw [HF.out] at hv; have HU := Lib.hid hv; have HX2 := Lib.hid (HX1.out.trans hx2); clear hv hx2 HX1))
  obtain ⟨ad, cap, rfl, f1, f2, f3⟩ := HU.out.form
  clear f3
  unfold maxLen at f2
  go_loopw [7, 8] (fun s i wr => ∃ k : Nat, k ≤ z.length ∧ i = I k ∧ s = I (nxt z k) ∧ wr = w2) (fun _ i _ => z.length - (intOf i).toNat)
  case atStart => exact ⟨0, by omega, rfl, by rw [HNX.out], rfl⟩
  case round =>
    obtain ⟨k, hk, rfl, rfl, rfl⟩ := hrel
    by_cases hlt : k < z.length
    · have HA1 := Lib.hid (atN_low HR.out hlt)
      have HA2 := Lib.hid (atN_high HR.out hlt)
      have HGE := Lib.hid (end_ge HR.out hlt)
      have HS := Lib.hid (nxt_step HR.out (k := k))
      have hnk := nxt_at hlt
      have hge : decide (uv (endV z k) < uv z[k]) = false := decide_eq_false (by have := HGE.out; omega)
      have HC1 := Lib.hid (show ∀ W, UsAt W (.slice ad z.length cap) z → Calls Try.prog 32 #[.slice ad z.length cap, U z[k]] W fun e w' => e = .returned (I (k : Int)) ∧ w' = W from fun W hW =>
        (cutsAt_any _ z _ W hW).mono fun e w' ⟨h1, h2⟩ => ⟨by rw [h1, HA1.out]; congr 2; omega, h2⟩)
      have HC2 := Lib.hid (show ∀ W, UsAt W (.slice ad z.length cap) z → Calls Try.prog 32 #[.slice ad z.length cap, U (endV z k)] W fun e w' => e = .returned (I (k : Int)) ∧ w' = W from fun W hW =>
        (cutsAt_any _ z _ W hW).mono fun e w' ⟨h1, h2⟩ => ⟨by rw [h1, HA2.out]; congr 2; omega, h2⟩)
      have HC3 := Lib.hid (show ∀ W, UsAt W (.slice ad z.length cap) z → Calls Try.prog 34 #[.slice ad z.length cap, I k] W fun e w' => e = .returned (.tuple #[U z[k], U (endV z k), .bool true]) ∧ w' = W from fun W hW => cutsEnds_any _ z k W hW hlt)
      generalize z[k] = lo at *
      generalize endV z k = hi at *
      rw [hnk]
      have hbl := uv_bd lo
      have hbh := uv_bd hi
      clear hnk
      go_wp2_with (first
        | (go_at_call 34; with_reducible refine (HC3.out _ HU.out).mono ?_; rintro e w' ⟨rfl, rfl⟩)
        | (go_at_call 32; with_reducible refine (HC1.out _ HU.out).mono ?_; rintro e w' ⟨rfl, rfl⟩)
        | (go_at_call 32; with_reducible refine (HC2.out _ HU.out).mono ?_; rintro e w' ⟨rfl, rfl⟩))
      go_roundw
      case rel => exact ⟨k + 1, by omega, by go_num, by rw [HS.out], by trivial⟩
      case measure => simp [intOf]; omega
    · have HE := Lib.hid (show nxt z k = 4294967296 by unfold nxt; rw [dif_neg hlt])
      have hk1 : ((z.length : Int) ≤ k) := by omega
      rw [HE.out]
      have hge : decide (uv z[ivN z a] ≤ uv a) = true := decide_eq_true HFR.out
      have hle : decide (uv a ≤ uv (endV z (ivN z a))) = true := decide_eq_true HTO.out
      have HC1 := Lib.hid (show ∀ W, UsAt W (.slice ad z.length cap) z → Calls Try.prog 32 #[.slice ad z.length cap, U a] W fun e w' => e = .returned (I (ivN z a : Nat)) ∧ w' = W from fun W hW =>
        (cutsAt_any _ z _ W hW).mono fun e w' ⟨h1, h2⟩ => ⟨by rw [h1, ivN_int HZ.out a], h2⟩)
      have HC3 := Lib.hid (show ∀ W, UsAt W (.slice ad z.length cap) z → Calls Try.prog 34 #[.slice ad z.length cap, I (ivN z a : Nat)] W fun e w' => e = .returned (.tuple #[U z[ivN z a], U (endV z (ivN z a)), .bool true]) ∧ w' = W from fun W hW => cutsEnds_any _ z _ W hW HLT.out)
      clear HFR HTO
      generalize z[ivN z a] = lo at *
      generalize endV z (ivN z a) = hi at *
      generalize ivN z a = m at *
      go_wp2_with (first
        | (go_at_call 32; with_reducible refine (HC1.out _ HU.out).mono ?_; rintro e w' ⟨rfl, rfl⟩)
        | (go_at_call 34; with_reducible refine (HC3.out _ HU.out).mono ?_; rintro e w' ⟨rfl, rfl⟩))
      go_ret
      exact ⟨rfl, HX2.out⟩
end Go.Proofs.Ytilaljdokpdcoaa
