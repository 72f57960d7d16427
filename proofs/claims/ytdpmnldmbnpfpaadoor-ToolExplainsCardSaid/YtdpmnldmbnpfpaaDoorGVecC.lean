/- StepBd: these texts in one. Conditions: each part names its own. -/
import Derived.Test.YtdpmnldmbnpfpaaDoorGNetP
/- A step's bounds. Conditions: none. -/
namespace Go.Proofs.YtdpmnldmbnpfpaaDoor
open Go.RowKit

theorem foldS_mem {a : BitVec 32} {r : Rul} : ∀ (t : List Rul) (o : Option Rul), t.foldl (findStep a) o = some r → o = some r ∨ r ∈ t
  | [], _, h => .inl h
  | x :: t, o, h => by
    rcases foldS_mem t _ h with g | g
    · unfold findStep at g
      split at g
      · cases g; exact .inr (by simp)
      · exact .inl g
    · exact .inr (List.mem_cons_of_mem _ g)
theorem findL_mem {t : List Rul} {a : BitVec 32} {r : Rul} (h : findL t a = some r) : r ∈ t := (foldS_mem t none h).resolve_left (by simp)
theorem step_bd {ls : List (List Rul)} (h : netMayV ls = 0) {t : List Rul} (ht : t ∈ ls) (a : BitVec 32) {x : Int} (hs : stepO t a = some x) : 0 ≤ x ∧ x < ls.length := by
  have hm := (netMay_tabs h).2.2 t ht
  have hr := (tabG_spec ls.length t none hm).1
  unfold stepO at hs
  split at hs
  · rename_i r hf
    split at hs
    · rename_i ha
      cases hs
      have hmem : r ∈ t := findL_mem hf
      have h2 := hr r hmem
      unfold ruleMayV at h2
      split at h2
      · rename_i h3; exact absurd h2 h3
      · (try rw [if_pos ha] at h2)
        split at h2
        · cases h2
        · omega
    · cases hs
  · cases hs
end Go.Proofs.YtdpmnldmbnpfpaaDoor
