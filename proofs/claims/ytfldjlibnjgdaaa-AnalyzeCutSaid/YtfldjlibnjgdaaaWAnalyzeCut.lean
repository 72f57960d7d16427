/- The statement of AnalyzeCut. Conditions: none. -/
import Derived.Test.YtfldjlibnjgdaaaRows
import Derived.Test.YtfldjlibnjgdaaaGArg
import Derived.Test.YtfldjlibnjgdaaaFactA
import Derived.Test.YtfldjlibnjgdaaaFactB
import Derived.Test.YtfldjlibnjgdaaaFactC
import Derived.Test.YtfldjlibnjgdaaaAnalyzeCut
namespace Go.Proofs.Ytfldjlibnjgdaaa
open Go Go.ChangeShapes Go.WideShapes Go.ChangeAt Go.RowKit

set_option maxRecDepth 100000 in
theorem analyzeCut_lifted (os : Os) (started : os.Started) (H : Type) (enc : TypeId × Value → H) :
    ReturnsInHanded {} Try.checked os 6 .any (Rows.analyzeCutSpec.pre6 enc Try.prog Try.f6 Rows.analyzeCutRow.domain false) (Rows.analyzeCutSpec.post enc Try.prog Try.f6 false true false false) := by
  refine returnsInHanded_of_change (C := Try.checked) ownTry started (by kernel_rfl) Try.func6
    (ChangeSpec.witness6 (enc := enc) (C := Try.checked) false ⟨#[], #[.agg #[.slice none 0 0]], []⟩ 8 (by kernel_rfl) (by kernel_rfl) (by kernel_rfl) (by kernel_rfl)) ?_
  intro W base args ds gs before hval0 hW _ hsz
  have hval : ∀ (j : Nat) t v, Try.f6.params[j]? = some t → args[j]? = some v → Value.okWide Try.prog W .any base t v := hval0
  have hW' := hW
  obtain ⟨p, q, hA0, hV, rfl, _, _⟩ := hW
  have hA : DataW.TrodAll enc Try.prog W 0 (fun _ => true) true Try.f6.params.toList args.toList ds p := hA0
  rw [Try.params6] at hA hval
  obtain ⟨v0, d0, rfl, rfl, r0⟩ := trodAll_one hA
  obtain ⟨rfl, rfl⟩ := trodVars_none hV
  simp only [List.append_nil] at hW'
  have hlt0 : ∀ x ∈ p, x.block < W.heap.size := fun x hx => hW'.lt x (by simp [hx])
  obtain ⟨lv0, ls0, rfl, hR0, hOk0⟩ := open_net (hval 0 24 v0 rfl rfl) r0
  clear hA0 hval0
  refine (analyzeCut_any lv0 ls0 W hR0 hOk0).mono fun e W' ⟨he, hx⟩ => ?_
  subst he
  have hargs0 := Below.trod (W' := W') laidTry (by kernel_rfl) (of_decide_eq_true (by kernel_rfl)) r0 hx hlt0
  refine ⟨_, rfl, _, _, _, [], p, [], hW', ?_, ?_, rfl, Below.frame hx _, fun h => (by cases h)⟩
  · exact trodAll_mk1 shutTrue
  · exact trodAll_mk1 hargs0
set_option maxRecDepth 100000 in
theorem analyzeCut_closed : joinedFacts Try.prog 6 Try.f6 Rows.analyzeCutSpec Rows.analyzeCutRow = true := by
  unfold joinedFacts
  rw [fact_mayEnter, show (Rows.analyzeCutRow.lifted == Try.prog.liftsFinal) = true from fact_lifts, show (Try.prog.make == some Rows.analyzeCutRow.make) = true from fact_make]
  kernel_rfl
theorem analyzeCut_holds : Rows.AnalyzeCutSaid :=
  OpenClaim.holds_of_wide 6 Try.f6 rfl rfl rfl rfl rfl rfl rfl ⟨rfl, rfl, rfl, rfl, rfl⟩ rfl rfl rfl rfl rfl (by kernel_rfl) Try.func6 analyzeCut_closed
    (of_decide_eq_true (by kernel_rfl)) (by unfold Func.isWrapper; first | (rw [if_pos (by decide +kernel)]; kernel_rfl) | (rw [if_neg (by decide +kernel)]; exact ⟨rfl, rfl⟩))
    (fun os started H enc _ => analyzeCut_lifted os started H enc)
end Go.Proofs.Ytfldjlibnjgdaaa
