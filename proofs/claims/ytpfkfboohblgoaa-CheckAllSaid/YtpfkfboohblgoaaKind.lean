/- atoms.kind. Conditions: none. -/
import Derived.Test.YtpfkfboohblgoaaAtomsS
namespace Go.Proofs.Ytpfkfboohblgoaa
open Go Go.RowKit Go.Maps Go.Proofs
def kindV (place : Int) (met : Bool) (last : Int) : Int := if met then (if place = last then 2 else 1) else 0
theorem kind_any (place last : Int) (met : Bool) (w : World) :
    Calls Try.prog 73 #[I place, .bool met, I last] w fun e w' => e = .returned (I (kindV place met last)) ∧ w' = w := by
  cases met
  · go_enter Try.func73, Try.ntmps73
    go_wp2
    go_ret
    exact ⟨rfl, rfl⟩
  · by_cases h : place = last
    · have hd : (place != last) = false := by simp [h]
      have hv : kindV place true last = 2 := by unfold kindV; rw [if_pos rfl, if_pos h]
      rw [hv]
      clear h
      go_enter Try.func73, Try.ntmps73
      go_wp2
      go_ret
      exact ⟨rfl, rfl⟩
    · have hd : (place != last) = true := by simp [h]
      have hv : kindV place true last = 1 := by unfold kindV; rw [if_pos rfl, if_neg h]
      rw [hv]
      clear h
      go_enter Try.func73, Try.ntmps73
      go_wp2
      go_ret
      exact ⟨rfl, rfl⟩
end Go.Proofs.Ytpfkfboohblgoaa
