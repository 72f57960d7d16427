/- The statement of AnalyzeHolds. Conditions: none. -/
import Derived.Test.YtfldjlibnjgdaaaGreatRows
import Derived.Test.YtfldjlibnjgdaaaGreatGArg
import Derived.Test.YtfldjlibnjgdaaaGreatFactA
import Derived.Test.YtfldjlibnjgdaaaGreatFactB
import Derived.Test.YtfldjlibnjgdaaaGreatFactC
import Derived.Test.YtfldjlibnjgdaaaGreatAnalyzeHolds
namespace Go.Proofs.YtfldjlibnjgdaaaGreat
open Go Go.ChangeShapes Go.WideShapes Go.ChangeAt Go.RowKit

set_option maxRecDepth 100000 in
theorem analyzeHolds_lifted (os : Os) (started : os.Started) (H : Type) (enc : TypeId × Value → H) :
    ReturnsInHanded {} Tryz.checked os 4 .any (Rows.analyzeHoldsSpec.pre6 enc Tryz.prog Tryz.f4 Rows.analyzeHoldsRow.domain false) (Rows.analyzeHoldsSpec.post enc Tryz.prog Tryz.f4 false true false false) := by
  refine returnsInHanded_of_change (C := Tryz.checked) ownTry started (by kernel_rfl) Tryz.func4
    (ChangeSpec.witness6 (enc := enc) (C := Tryz.checked) false ⟨#[], #[.agg #[.slice none 0 0], .int .u32 0], []⟩ 8 (by kernel_rfl) (by kernel_rfl) (by kernel_rfl) (by kernel_rfl)) ?_
  intro W base args ds gs before hval0 hW _ hsz
  have hval : ∀ (j : Nat) t v, Tryz.f4.params[j]? = some t → args[j]? = some v → Value.okWide Tryz.prog W .any base t v := hval0
  have hW' := hW
  obtain ⟨p, q, hA0, hV, rfl, _, _⟩ := hW
  have hA : DataW.TrodAll enc Tryz.prog W 0 (fun _ => true) true Tryz.f4.params.toList args.toList ds p := hA0
  rw [Tryz.params4] at hA hval
  obtain ⟨v0, v1, d0, d1, p0, p1, rfl, rfl, rfl, r0, r1⟩ := trodAll_two hA
  obtain ⟨rfl, rfl⟩ := trodVars_none hV
  simp only [List.append_nil] at hW'
  have hlt0 : ∀ x ∈ p0, x.block < W.heap.size := fun x hx => hW'.lt x (by simp [hx])
  have hlt1 : ∀ x ∈ p1, x.block < W.heap.size := fun x hx => hW'.lt x (by simp [hx])
  obtain ⟨lv0, ls0, rfl, hR0, hOk0⟩ := open_net (hval 0 24 v0 rfl rfl) r0
  have q1 := r1
  obtain ⟨m1, hm1, _, _, wm1⟩ := open_int Tryz.underlying27 (hval 1 27 v1 rfl rfl) q1
  obtain ⟨a1, rfl⟩ := u32_inw wm1
  subst hm1
  clear hA0 hval0
  refine (analyzeHolds_any lv0 ls0 a1 W hR0 hOk0).mono fun e W' ⟨he, hx⟩ => ?_
  subst he
  have hargs0 := Below.trod (W' := W') laidTry (by kernel_rfl) (of_decide_eq_true (by kernel_rfl)) r0 hx hlt0
  have hargs1 := Below.trod (W' := W') laidTry (by kernel_rfl) (of_decide_eq_true (by kernel_rfl)) r1 hx hlt1
  refine ⟨_, rfl, _, _, _, [], p0 ++ (p1), [], hW', ?_, ?_, rfl, Below.frame hx _, fun h => (by cases h)⟩
  · exact trodAll_mk1 shutTrue
  · exact trodAll_mk2 hargs0 hargs1
set_option maxRecDepth 100000 in
theorem analyzeHolds_closed : joinedFacts Tryz.prog 4 Tryz.f4 Rows.analyzeHoldsSpec Rows.analyzeHoldsRow = true := by
  unfold joinedFacts
  rw [fact_mayEnter, show (Rows.analyzeHoldsRow.lifted == Tryz.prog.liftsFinal) = true from fact_lifts, show (Tryz.prog.make == some Rows.analyzeHoldsRow.make) = true from fact_make]
  kernel_rfl
theorem analyzeHolds_holds : Rows.AnalyzeHoldsSaid :=
  OpenClaim.holds_of_wide 4 Tryz.f4 rfl rfl rfl rfl rfl rfl rfl ⟨rfl, rfl, rfl, rfl, rfl⟩ rfl rfl rfl rfl rfl (by kernel_rfl) Tryz.func4 analyzeHolds_closed
    (of_decide_eq_true (by kernel_rfl)) (by unfold Func.isWrapper; first | (rw [if_pos (by decide +kernel)]; kernel_rfl) | (rw [if_neg (by decide +kernel)]; exact ⟨rfl, rfl⟩))
    (fun os started H enc _ => analyzeHolds_lifted os started H enc)
end Go.Proofs.YtfldjlibnjgdaaaGreat
