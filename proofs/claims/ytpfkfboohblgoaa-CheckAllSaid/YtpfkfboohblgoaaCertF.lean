/- Closures over how many nodes there are: cert.May's 'outside', slices.IndexFunc, slices.ContainsFunc. Conditions: none. -/
import Derived.Test.YtpfkfboohblgoaaCertP
namespace Go.Proofs.Ytpfkfboohblgoaa
open Go.RowKit

abbrev outF (nb : Nat) : Value := .func (.func 46) #[] #[.pointer (some ⟨nb, 0, none⟩)]
set_option maxHeartbeats 1000000 in
theorem outside_any (x n : Int) (nb : Nat) (w : World) (hb : w.cell? ⟨nb, 0, none⟩ = some (I n)) :
    Calls Try.prog 46 #[I x, .pointer (some ⟨nb, 0, none⟩)] w fun e w' => e = .returned (.bool (outB n x)) ∧ w' = w := by
  by_cases h : x < 0
  · have h1 : decide (x < 0) = true := decide_eq_true h
    have HO := Lib.hid (show outB n x = true by unfold outB; rw [h1]; rfl)
    clear h
    go_enter Try.func46, Try.ntmps46
    go_wp2
    go_ret
    exact ⟨by rw [HO.out]; rfl, rfl⟩
  · have h1 : decide (x < 0) = false := decide_eq_false h
    have HO := Lib.hid (show outB n x = decide (n ≤ x) by unfold outB; rw [h1]; rfl)
    clear h
    go_enter Try.func46, Try.ntmps46
    go_wp2
    go_ret
    exact ⟨by rw [HO.out]; rfl, rfl⟩
set_option maxHeartbeats 2000000 in
theorem indexFunc_any (v : Value) (l : List Int) (n : Int) (nb : Nat) (w : World) (hv : IntsAt w v l) (hb : w.cell? ⟨nb, 0, none⟩ = some (I n)) :
    Calls Try.prog 112 #[v, outF nb] w fun e w' => (∃ r : Int, e = .returned (I r) ∧ decide (0 ≤ r) = l.any (outB n)) ∧ w' = w := by
  obtain ⟨a, cap, rfl, a1, a2, a3⟩ := hv.form
  have A3 := Lib.hid a3
  have HB := Lib.hid hb
  clear a3 hv hb
  unfold maxLen at a2
  go_enter Try.func112, Try.ntmps112
  go_wp2_with fail
  go_loopw [8] (fun i wr => ∃ k : Nat, k ≤ l.length ∧ i = I k ∧ Hid (∀ x ∈ l.take k, outB n x = false) ∧ wr = w) (fun i _ => l.length - (intOf i).toNat)
  case atStart => exact ⟨0, by omega, rfl, fun x hx => by simp at hx, rfl⟩
  case round =>
    obtain ⟨k, hk, rfl, HN, rfl⟩ := hrel
    by_cases hlt : k < l.length
    · obtain ⟨b0, o0, rfl, p0⟩ := A3.out k l[k] (List.getElem?_eq_getElem hlt)
      cases hq : outB n l[k] with
      | true =>
        have HQ := Lib.hid hq
        have HA := Lib.hid (any_at hlt hq)
        clear hq
        generalize l[k] = x at *
        go_wp2_with (first
          | (go_at_call 46; (with_reducible refine (outside_any x n nb _ HB.out).mono ?_); rintro e w' ⟨he, hw⟩; rw [HQ.out] at he; subst he; obtain rfl := hw.symm))
        go_ret
        exact ⟨⟨k, rfl, by rw [HA.out]; simp⟩, rfl⟩
      | false =>
        have HQ := Lib.hid hq
        have HT := Lib.hid (take_no hlt HN.out hq)
        clear hq
        generalize l[k] = x at *
        go_wp2_with (first
          | (go_at_call 46; (with_reducible refine (outside_any x n nb _ HB.out).mono ?_); rintro e w' ⟨he, hw⟩; rw [HQ.out] at he; subst he; obtain rfl := hw.symm))
        go_roundw
        case rel => exact ⟨k + 1, by omega, by go_num, HT.out, by first | trivial | rfl⟩
        case measure => simp [intOf]; omega
    · have HA := Lib.hid (any_no HN.out (show l.length ≤ k by omega))
      go_wp2_with fail
      go_ret
      exact ⟨⟨-1, rfl, by rw [HA.out]; rfl⟩, rfl⟩
set_option maxHeartbeats 1000000 in
theorem containsFunc_any (v : Value) (l : List Int) (n : Int) (nb : Nat) (w : World) (hv : IntsAt w v l) (hb : w.cell? ⟨nb, 0, none⟩ = some (I n)) :
    Calls Try.prog 87 #[v, outF nb] w fun e w' => e = .returned (.bool (l.any (outB n))) ∧ w' = w := by
  have HV := Lib.hid hv
  have HB := Lib.hid hb
  clear hv hb
  go_enter Try.func87, Try.ntmps87
  go_wp2_with (first
    | (go_at_call 112; (with_reducible refine (indexFunc_any v l n nb _ HV.out HB.out).mono ?_); rintro e w' ⟨⟨r, he, hr⟩, hw⟩; subst he; obtain rfl := hw.symm; have HR := Lib.hid hr; clear hr))
  go_ret
  exact ⟨by rw [← HR.out]; rfl, by first | trivial | rfl⟩
end Go.Proofs.Ytpfkfboohblgoaa
