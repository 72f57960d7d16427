/- The statement of TopWhole. Conditions: none. -/
import Derived.Test.YtdpmnldmbnpfpaaGreatRows
import Derived.Test.YtdpmnldmbnpfpaaGreatGArg
import Derived.Test.YtdpmnldmbnpfpaaGreatFactA
import Derived.Test.YtdpmnldmbnpfpaaGreatFactB
import Derived.Test.YtdpmnldmbnpfpaaGreatFactC
import Derived.Test.YtdpmnldmbnpfpaaGreatTopWhole
namespace Go.Proofs.YtdpmnldmbnpfpaaGreat
open Go Go.ChangeShapes Go.WideShapes Go.ChangeAt Go.RowKit

set_option maxRecDepth 100000 in
theorem topWhole_lifted (os : Os) (started : os.Started) (H : Type) (enc : TypeId × Value → H) :
 ReturnsInHanded {} Tryz.checked os 3 .any (Rows.topWholeSpec.pre6 enc Tryz.prog Tryz.f3 Rows.topWholeRow.domain false) (Rows.topWholeSpec.post enc Tryz.prog Tryz.f3 false true false false) := by
 refine returnsInHanded_of_change (C := Tryz.checked) ownTry started (by kernel_rfl) Tryz.func3
  (ChangeSpec.witness6 (enc := enc) (C := Tryz.checked) false ⟨#[], #[.agg #[.slice none 0 0], .agg #[.int .u32 0, .int .u32 0]], []⟩ 8 (by kernel_rfl) (by kernel_rfl) (by kernel_rfl) (by kernel_rfl)) ?_
 intro W base args ds gs before hval0 hW _ hsz
 have hval : ∀ (j : Nat) t v, Tryz.f3.params[j]? = some t → args[j]? = some v → Value.okWide Tryz.prog W .any base t v := hval0
 have hW' := hW
 obtain ⟨p, q, hA0, hV, rfl, _, _⟩ := hW
 have hA : DataW.TrodAll enc Tryz.prog W 0 (fun _ => true) true Tryz.f3.params.toList args.toList ds p := hA0
 rw [Tryz.params3] at hA hval
 obtain ⟨v0, v1, d0, d1, p0, p1, rfl, rfl, rfl, r0, r1⟩ := trodAll_two hA
 obtain ⟨rfl, rfl⟩ := trodVars_none hV
 simp only [List.append_nil] at hW'
 have hlt0 : ∀ x ∈ p0, x.block < W.heap.size := fun x hx => hW'.lt x (by simp [hx])
 have hlt1 : ∀ x ∈ p1, x.block < W.heap.size := fun x hx => hW'.lt x (by simp [hx])
 obtain ⟨lv0, ls0, rfl, hR0, hOk0⟩ := open_net (hval 0 24 v0 rfl rfl) r0
 obtain ⟨mx1, my1, hm1, wx1, wy1⟩ := open_arr2 Tryz.underlying26 Tryz.underlying25 (by kernel_rfl) (by kernel_rfl) (hval 1 26 v1 rfl rfl) r1
 obtain ⟨x1, rfl⟩ := u32_inw wx1
 obtain ⟨y1, rfl⟩ := u32_inw wy1
 subst hm1
 clear hA0 hval0
 refine (topWhole_any lv0 ls0 x1 y1 W hR0 hOk0).mono fun e W' ⟨he, hx⟩ => ?_
 subst he
 have hargs0 := Below.trod (W' := W') laidTry (by kernel_rfl) (of_decide_eq_true (by kernel_rfl)) r0 hx hlt0
 have hargs1 := Below.trod (W' := W') laidTry (by kernel_rfl) (of_decide_eq_true (by kernel_rfl)) r1 hx hlt1
 refine ⟨_, rfl, _, _, _, [], p0 ++ (p1), [], hW', ?_, ?_, rfl, Below.frame hx _, fun h => (by cases h)⟩
 · exact trodAll_mk1 shutTrue
 · exact trodAll_mk2 hargs0 hargs1
set_option maxRecDepth 100000 in
theorem topWhole_closed : joinedFacts Tryz.prog 3 Tryz.f3 Rows.topWholeSpec Rows.topWholeRow = true := by
 unfold joinedFacts
 rw [fact_mayEnter, show (Rows.topWholeRow.lifted == Tryz.prog.liftsFinal) = true from fact_lifts, show (Tryz.prog.make == some Rows.topWholeRow.make) = true from fact_make]
 kernel_rfl
theorem topWhole_holds : Rows.TopWholeSaid :=
 OpenClaim.holds_of_wide 3 Tryz.f3 rfl rfl rfl rfl rfl rfl rfl ⟨rfl, rfl, rfl, rfl, rfl⟩ rfl rfl rfl rfl rfl (by kernel_rfl) Tryz.func3 topWhole_closed
  (of_decide_eq_true (by kernel_rfl)) (by unfold Func.isWrapper; first | (rw [if_pos (by decide +kernel)]; kernel_rfl) | (rw [if_neg (by decide +kernel)]; exact ⟨rfl, rfl⟩))
  (fun os started H enc _ => topWhole_lifted os started H enc)
end Go.Proofs.YtdpmnldmbnpfpaaGreat
