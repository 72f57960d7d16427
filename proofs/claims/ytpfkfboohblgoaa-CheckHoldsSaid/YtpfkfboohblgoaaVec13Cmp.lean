/- How vectors stand, and which may be, by the reference; and numbers made a vector that may be. Conditions: whole numbers are within 64 bits. -/
import Derived.Test.YtpfkfboohblgoaaGVec
import Derived.Test.YtpfkfboohblgoaaGRule
namespace Go.Proofs.Ytpfkfboohblgoaa
open Go.RowKit

set_option maxHeartbeats 1000000 in
theorem r13May_any (va : Value) (la : List Int) (w : World) (ha : IntsAt w va la) :
    Calls Try.prog 97 #[va] w fun e w' => e = .returned (I (vmayV la)) ∧ Ext w w' := by
  obtain ⟨a, cap, rfl, a1, a2, a3⟩ := ha.form
  have A3 := Lib.hid a3
  clear a3
  unfold maxLen at a2
  go_enter Try.func97, Try.ntmps97
  go_wp2_with fail
  go_loopw [3] (fun i wr => ∃ k : Nat, k ≤ la.length ∧ i = I k ∧ Hid (mayG la.length (la.drop k) = vmayV la) ∧ Ext w wr) (fun i _ => la.length - (intOf i).toNat)
  case atStart => exact ⟨0, by omega, rfl, rfl, Ext.refl w⟩
  case round =>
    obtain ⟨k, hk, rfl, HG, hx⟩ := hrel
    by_cases hlt : k < la.length
    · obtain ⟨b0, o0, rfl, p0⟩ := A3.out k la[k] (List.getElem?_eq_getElem hlt)
      replace p0 := hx.cell p0
      have HS := Lib.hid (mayG_step (n := la.length) hlt)
      rw [HG.out] at HS
      clear HG
      by_cases h1 : la[k] < -1
      · have hd : decide (la[k] < -1) = true := decide_eq_true h1
        have HS2 := Lib.hid (HS.out.trans (if_pos (.inl h1)))
        clear HS h1
        go_wp2_with fail
        go_ret
        exact ⟨ret_int HS2.out.symm, hx⟩
      · have hd : decide (la[k] < -1) = false := decide_eq_false h1
        by_cases h2 : (la.length : Int) ≤ la[k]
        · have hd2 : decide ((la.length : Int) ≤ la[k]) = true := decide_eq_true h2
          have HS2 := Lib.hid (HS.out.trans (if_pos (.inr h2)))
          clear HS h1 h2
          go_wp2_with fail
          go_ret
          exact ⟨ret_int HS2.out.symm, hx⟩
        · have hd2 : decide ((la.length : Int) ≤ la[k]) = false := decide_eq_false h2
          have HS2 := Lib.hid (HS.out.trans (if_neg (by omega)))
          clear HS h1 h2
          go_wp2_with fail
          go_roundw
          case rel => exact ⟨k + 1, by omega, by go_num, HS2.out.symm, hx⟩
          case measure => simp [intOf]; omega
    · have HE := Lib.hid (HG.out.symm.trans (mayG_end (n := la.length) (v := la) (k := k) (by omega)))
      go_wp2_with fail
      go_ret
      exact ⟨ret_int HE.out.symm, hx⟩
end Go.Proofs.Ytpfkfboohblgoaa
