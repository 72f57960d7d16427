/- atoms.Of and theseusref16.Of of any network. Conditions: whole numbers are within 64 bits. -/
import Derived.Test.YtamlalablblfeaaAtomsOfG
import Derived.Test.YtamlalablblfeaaR16OfG
namespace Go.Proofs.Ytamlalablblfeaa
open Go Go.RowKit Go.Maps Go.Proofs

/-- These are a network's atoms: none, if it may not be. -/
def IsAts (ls : List (List Rul)) (s : Ats) : Prop := (netMayV ls = 0 ∧ ∃ l, Cuts ls.flatten l ∧ s = atomsL (vecV ls) l) ∨ (netMayV ls ≠ 0 ∧ s = Ats.nil)
theorem IsAts.one {ls : List (List Rul)} {s s' : Ats} (h : IsAts ls s) (h' : IsAts ls s') : s = s' := by
  rcases h with ⟨h0, l, hC, rfl⟩ | ⟨h0, rfl⟩
  · rcases h' with ⟨_, l', hC', rfl⟩ | ⟨h1, _⟩
    · rw [Cuts.at hC hC']
    · exact absurd h0 h1
  · rcases h' with ⟨h1, _⟩ | ⟨_, rfl⟩
    · exact absurd h1 h0
    · rfl
theorem ats_nil_at (w : World) : AtomsAt w sNil sNil sNil Ats.nil := (AtS.nil w 0).at
theorem atomsOf_any (lv : Value) (ls : List (List Rul)) (w : World) (hl : TablesAt w lv ls) (hok : TablesOk ls) (hs : sizeN ls ≤ 100000000) :
    Calls Try.prog 22 #[.agg #[lv]] w fun e w' => ∃ fv hv vv s, e = .returned (.tuple #[.agg #[fv, hv, vv], I (netMayV ls)]) ∧ AtomsAt w' fv hv vv s ∧ IsAts ls s ∧ Ext w w' := by
  by_cases hm : netMayV ls = 0
  · refine (atomsOf_good lv ls w hl hok hm).mono ?_
    rintro e w' ⟨fv, hv, vv, l, he, hC, hA, hx⟩
    exact ⟨fv, hv, vv, _, by rw [he, hm], hA, .inl ⟨hm, l, hC, rfl⟩, hx⟩
  · refine (atomsOf_bad lv ls w hl hok hs hm).mono ?_
    rintro e w' ⟨he, hx⟩
    exact ⟨_, _, _, Ats.nil, he, ats_nil_at _, .inr ⟨hm, rfl⟩, hx⟩
theorem r16Of_any (lv : Value) (ls : List (List Rul)) (w : World) (hl : TablesAt w lv ls) (hok : TablesOk ls) (hs : sizeN ls ≤ 100000000) :
    Calls Try.prog 24 #[.agg #[lv]] w fun e w' => ∃ fv hv vv s, e = .returned (.tuple #[.agg #[fv, hv, vv], I (netMayV ls)]) ∧ AtomsAt w' fv hv vv s ∧ IsAts ls s ∧ Ext w w' := by
  by_cases hm : netMayV ls = 0
  · refine (r16Of_good lv ls w hl hok hm).mono ?_
    rintro e w' ⟨fv, hv, vv, l, he, hC, hA, hx⟩
    exact ⟨fv, hv, vv, _, by rw [he, hm], hA, .inl ⟨hm, l, hC, rfl⟩, hx⟩
  · refine (r16Of_bad lv ls w hl hok hs hm).mono ?_
    rintro e w' ⟨he, hx⟩
    exact ⟨_, _, _, Ats.nil, he, ats_nil_at _, .inr ⟨hm, rfl⟩, hx⟩
end Go.Proofs.Ytamlalablblfeaa
