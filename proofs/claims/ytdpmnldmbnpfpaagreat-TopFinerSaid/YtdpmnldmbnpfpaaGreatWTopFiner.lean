/- The statement of TopFiner. Conditions: none. -/
import Derived.Test.YtdpmnldmbnpfpaaGreatRows
import Derived.Test.YtdpmnldmbnpfpaaGreatGArg
import Derived.Test.YtdpmnldmbnpfpaaGreatFactA
import Derived.Test.YtdpmnldmbnpfpaaGreatFactB
import Derived.Test.YtdpmnldmbnpfpaaGreatFactC
import Derived.Test.YtdpmnldmbnpfpaaGreatTopFiner
namespace Go.Proofs.YtdpmnldmbnpfpaaGreat
open Go Go.ChangeShapes Go.WideShapes Go.ChangeAt Go.RowKit

set_option maxRecDepth 100000 in
theorem topFiner_lifted (os : Os) (started : os.Started) (H : Type) (enc : TypeId × Value → H) :
    ReturnsInHanded {} Tryz.checked os 5 .any (Rows.topFinerSpec.pre6 enc Tryz.prog Tryz.f5 Rows.topFinerRow.domain false) (Rows.topFinerSpec.post enc Tryz.prog Tryz.f5 false true false false) := by
  refine returnsInHanded_of_change (C := Tryz.checked) ownTry started (by kernel_rfl) Tryz.func5
    (ChangeSpec.witness6 (enc := enc) (C := Tryz.checked) false ⟨#[], #[.agg #[.slice none 0 0], .slice none 0 0], []⟩ 8 (by kernel_rfl) (by kernel_rfl) (by kernel_rfl) (by kernel_rfl)) ?_
  intro W base args ds gs before hval0 hW _ hsz
  have hval : ∀ (j : Nat) t v, Tryz.f5.params[j]? = some t → args[j]? = some v → Value.okWide Tryz.prog W .any base t v := hval0
  have hW' := hW
  obtain ⟨p, q, hA0, hV, rfl, _, _⟩ := hW
  have hA : DataW.TrodAll enc Tryz.prog W 0 (fun _ => true) true Tryz.f5.params.toList args.toList ds p := hA0
  rw [Tryz.params5] at hA hval
  obtain ⟨v0, v1, d0, d1, p0, p1, rfl, rfl, rfl, r0, r1⟩ := trodAll_two hA
  obtain ⟨rfl, rfl⟩ := trodVars_none hV
  simp only [List.append_nil] at hW'
  have hlt0 : ∀ x ∈ p0, x.block < W.heap.size := fun x hx => hW'.lt x (by simp [hx])
  have hlt1 : ∀ x ∈ p1, x.block < W.heap.size := fun x hx => hW'.lt x (by simp [hx])
  obtain ⟨lv0, ls0, rfl, hR0, hOk0⟩ := open_net (hval 0 24 v0 rfl rfl) r0
  obtain ⟨l1, hR1⟩ := open_u32s (hval 1 47 v1 rfl rfl) r1
  clear hA0 hval0
  refine (topFiner_any lv0 v1 ls0 l1 W hR0 hOk0 hR1).mono fun e W' ⟨he, hx⟩ => ?_
  subst he
  have hargs0 := Below.trod (W' := W') laidTry (by kernel_rfl) (of_decide_eq_true (by kernel_rfl)) r0 hx hlt0
  have hargs1 := Below.trod (W' := W') laidTry (by kernel_rfl) (of_decide_eq_true (by kernel_rfl)) r1 hx hlt1
  refine ⟨_, rfl, _, _, _, [], p0 ++ (p1), [], hW', ?_, ?_, rfl, Below.frame hx _, fun h => (by cases h)⟩
  · exact trodAll_mk1 shutTrue
  · exact trodAll_mk2 hargs0 hargs1
set_option maxRecDepth 100000 in
theorem topFiner_closed : joinedFacts Tryz.prog 5 Tryz.f5 Rows.topFinerSpec Rows.topFinerRow = true := by
  unfold joinedFacts
  rw [fact_mayEnter, show (Rows.topFinerRow.lifted == Tryz.prog.liftsFinal) = true from fact_lifts, show (Tryz.prog.make == some Rows.topFinerRow.make) = true from fact_make]
  kernel_rfl
theorem topFiner_holds : Rows.TopFinerSaid :=
  OpenClaim.holds_of_wide 5 Tryz.f5 rfl rfl rfl rfl rfl rfl rfl ⟨rfl, rfl, rfl, rfl, rfl⟩ rfl rfl rfl rfl rfl (by kernel_rfl) Tryz.func5 topFiner_closed
    (of_decide_eq_true (by kernel_rfl)) (by unfold Func.isWrapper; first | (rw [if_pos (by decide +kernel)]; kernel_rfl) | (rw [if_neg (by decide +kernel)]; exact ⟨rfl, rfl⟩))
    (fun os started H enc _ => topFiner_lifted os started H enc)
end Go.Proofs.YtdpmnldmbnpfpaaGreat
