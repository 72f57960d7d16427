/- Plain laws for the reference's atoms. Conditions: none. -/
import Derived.Test.YtamlalablblfeaaAtomsP
namespace Go.Proofs.Ytamlalablblfeaa
open Go Go.RowKit Go.Maps Go.Proofs

theorem idxV_at {vs : List (List Int)} (hn : vs.Nodup) {j : Nat} (hj : j < vs.length) : idxV vs vs[j] = j := by
  have hm : vs[j] ∈ vs := List.getElem_mem hj
  have hlt := idxV_in.1 hm
  have he := idxV_get hlt
  exact (List.getElem_inj hn).1 he
/-- The vector of the last place. -/
def WasOk (s : Ats) (was : List Int) : Prop := ∃ j : Nat, s.last = (j : Int) ∧ s.vs[j]? = some was
theorem was_iff {s : Ats} (h : AtsOk s) {was : List Int} (hw : WasOk s was) (u : List Int) : u = was ↔ s.last = (idxV s.vs u : Int) := by
  obtain ⟨j, h1, h2⟩ := hw
  obtain ⟨hj, rfl⟩ := List.getElem?_eq_some_iff.1 h2
  rw [h1]
  constructor
  · rintro rfl
    rw [idxV_at h.nodup hj]
  · intro e
    have e' : idxV s.vs u = j := by omega
    have hlt : idxV s.vs u < s.vs.length := by omega
    have := idxV_get hlt
    simp only [e'] at this
    exact this.symm
theorem was_step {vec : BitVec 32 → List Int} {s : Ats} {a : BitVec 32} (h : s.last ≠ (idxV s.vs (vec a) : Int)) : WasOk (atStep vec s a) (vec a) := by
  unfold atStep
  rw [if_neg h]
  refine ⟨idxV s.vs (vec a), last_snoc _ _ _ _, ?_⟩
  by_cases hm : vec a ∈ s.vs
  · have hlt := idxV_in.1 hm
    simp only [if_pos hm]
    rw [List.getElem?_eq_getElem hlt, idxV_get hlt]
  · simp only [if_neg hm]
    rw [idxV_out hm]
    simp
/-- The search goes by where it is not, and stops where it is. -/
theorem idxV_next {vs : List (List Int)} {u : List Int} {k : Nat} (h : k ≤ idxV vs u) (hk : k < vs.length) (hne : vs[k] ≠ u) : k + 1 ≤ idxV vs u := by
  rcases Nat.lt_or_ge k (idxV vs u) with g | g
  · exact g
  · exfalso
    have e : idxV vs u = k := by omega
    have hlt : idxV vs u < vs.length := by omega
    have := idxV_get hlt
    simp only [e] at this
    exact hne this
theorem idxV_stop {vs : List (List Int)} (hn : vs.Nodup) {u : List Int} {k : Nat} (hk : k < vs.length) (he : vs[k] = u) : idxV vs u = k := by
  subst he; exact idxV_at hn hk
theorem cell_low {w : World} {p : Addr} {v : Value} (h : w.cell? p = some v) : p.block < w.heap.size := by
  rcases Nat.lt_or_ge p.block w.heap.size with g | g
  · exact g
  · simp [World.cell?, Array.getElem?_eq_none g] at h
end Go.Proofs.Ytamlalablblfeaa
