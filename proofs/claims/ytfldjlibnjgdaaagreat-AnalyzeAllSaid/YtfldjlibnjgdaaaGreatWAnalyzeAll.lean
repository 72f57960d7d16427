/- The statement of AnalyzeAll. Conditions: none. -/
import Derived.Test.YtfldjlibnjgdaaaGreatRows
import Derived.Test.YtfldjlibnjgdaaaGreatGArg
import Derived.Test.YtfldjlibnjgdaaaGreatFactA
import Derived.Test.YtfldjlibnjgdaaaGreatFactB
import Derived.Test.YtfldjlibnjgdaaaGreatFactC
import Derived.Test.YtfldjlibnjgdaaaGreatAnalyzeAll
namespace Go.Proofs.YtfldjlibnjgdaaaGreat
open Go Go.ChangeShapes Go.WideShapes Go.ChangeAt Go.RowKit

set_option maxRecDepth 100000 in
theorem analyzeAll_lifted (os : Os) (started : os.Started) (H : Type) (enc : TypeId × Value → H) :
    ReturnsInHanded {} Tryz.checked os 3 .any (Rows.analyzeAllSpec.pre6 enc Tryz.prog Tryz.f3 Rows.analyzeAllRow.domain false) (Rows.analyzeAllSpec.post enc Tryz.prog Tryz.f3 false true false false) := by
  refine returnsInHanded_of_change (C := Tryz.checked) ownTry started (by kernel_rfl) Tryz.func3
    (ChangeSpec.witness6 (enc := enc) (C := Tryz.checked) false ⟨#[], #[.agg #[.slice none 0 0]], []⟩ 8 (by kernel_rfl) (by kernel_rfl) (by kernel_rfl) (by kernel_rfl)) ?_
  intro W base args ds gs before hval0 hW _ hsz
  have hval : ∀ (j : Nat) t v, Tryz.f3.params[j]? = some t → args[j]? = some v → Value.okWide Tryz.prog W .any base t v := hval0
  have hW' := hW
  obtain ⟨p, q, hA0, hV, rfl, _, _⟩ := hW
  have hA : DataW.TrodAll enc Tryz.prog W 0 (fun _ => true) true Tryz.f3.params.toList args.toList ds p := hA0
  rw [Tryz.params3] at hA hval
  obtain ⟨v0, d0, rfl, rfl, r0⟩ := trodAll_one hA
  obtain ⟨rfl, rfl⟩ := trodVars_none hV
  simp only [List.append_nil] at hW'
  have hlt0 : ∀ x ∈ p, x.block < W.heap.size := fun x hx => hW'.lt x (by simp [hx])
  obtain ⟨lv0, ls0, rfl, hR0, hOk0⟩ := open_net (hval 0 24 v0 rfl rfl) r0
  clear hA0 hval0
  refine (analyzeAll_any lv0 ls0 W hR0 hOk0).mono fun e W' ⟨he, hx⟩ => ?_
  subst he
  have hargs0 := Below.trod (W' := W') laidTry (by kernel_rfl) (of_decide_eq_true (by kernel_rfl)) r0 hx hlt0
  refine ⟨_, rfl, _, _, _, [], p, [], hW', ?_, ?_, rfl, Below.frame hx _, fun h => (by cases h)⟩
  · exact trodAll_mk1 shutTrue
  · exact trodAll_mk1 hargs0
set_option maxRecDepth 100000 in
theorem analyzeAll_closed : joinedFacts Tryz.prog 3 Tryz.f3 Rows.analyzeAllSpec Rows.analyzeAllRow = true := by
  unfold joinedFacts
  rw [fact_mayEnter, show (Rows.analyzeAllRow.lifted == Tryz.prog.liftsFinal) = true from fact_lifts, show (Tryz.prog.make == some Rows.analyzeAllRow.make) = true from fact_make]
  kernel_rfl
theorem analyzeAll_holds : Rows.AnalyzeAllSaid :=
  OpenClaim.holds_of_wide 3 Tryz.f3 rfl rfl rfl rfl rfl rfl rfl ⟨rfl, rfl, rfl, rfl, rfl⟩ rfl rfl rfl rfl rfl (by kernel_rfl) Tryz.func3 analyzeAll_closed
    (of_decide_eq_true (by kernel_rfl)) (by unfold Func.isWrapper; first | (rw [if_pos (by decide +kernel)]; kernel_rfl) | (rw [if_neg (by decide +kernel)]; exact ⟨rfl, rfl⟩))
    (fun os started H enc _ => analyzeAll_lifted os started H enc)
end Go.Proofs.YtfldjlibnjgdaaaGreat
