/- The rule that sends all to one node. Conditions: none. -/
import Derived.Test.YtpfkfboohblgoaaMadeT
namespace Go.Proofs.Ytpfkfboohblgoaa
open Go Go.RowKit Go.Maps Go.Proofs

def allR (t : Nat) : Rul := ⟨0#32, 0, 1, t⟩
theorem may0 : mayV 0#32 0 = 0 := by decide +kernel
theorem i64_small {n : Nat} (h : n ≤ 64) : In64 (n : Int) := by unfold In64; omega
theorem all_may {M t : Nat} (ht : t < M) : ruleMayV (allR t) M = 0 := by
  unfold ruleMayV allR
  simp only [may0]
  rw [if_neg (by omega), if_pos trivial, if_neg (by omega)]
theorem all_step (t : Nat) (a : BitVec 32) : stepO [allR t] a = some (t : Int) := by
  have h1 : findL [allR t] a = some (allR t) := by
    unfold findL findStep better allR
    have h : holdsV 0#32 0 a = true := by unfold holdsV; rw [show maskV 0 = 0#32 from by decide +kernel]; simp
    simp [h]
  unfold stepO
  rw [h1]; rfl
theorem all_ok {t : Nat} (ht : t ≤ 64) : RulesOk [allR t] := fun r h => by
  simp only [List.mem_singleton] at h; subst h
  exact ⟨by unfold In64 allR; simp, by unfold In64 allR; simp, i64_small ht⟩
theorem all_tab {M t : Nat} (ht : t < M) : tabMayV M [allR t] = 0 := by
  unfold tabMayV tabG
  rw [if_neg (by rw [all_may ht]; simp), if_neg (by unfold badOrd; simp)]
  rfl
end Go.Proofs.Ytpfkfboohblgoaa
