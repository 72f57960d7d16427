/- The statement of VectorOrder. Conditions: none. -/
import Derived.Test.YtilaljdokpdcoaaRows
import Derived.Test.YtilaljdokpdcoaaArgs
import Derived.Test.YtilaljdokpdcoaaArgInts
import Derived.Test.YtilaljdokpdcoaaVectorOrder
namespace Go.Proofs.Ytilaljdokpdcoaa
open Go Go.ChangeShapes Go.WideShapes Go.ChangeAt Go.RowKit

set_option maxRecDepth 100000 in
theorem vectorOrder_lifted (os : Os) (started : os.Started) (H : Type) (enc : TypeId × Value → H) :
    ReturnsInHanded {} Try.checked os 6 .any (Rows.vectorOrderSpec.pre6 enc Try.prog Try.f6 Rows.vectorOrderRow.domain false) (Rows.vectorOrderSpec.post enc Try.prog Try.f6 false true false false) := by
  refine returnsInHanded_of_change (C := Try.checked) ownTry started (by kernel_rfl) Try.func6
    (ChangeSpec.witness6 (enc := enc) (C := Try.checked) false ⟨#[], #[.slice none 0 0, .slice none 0 0, .slice none 0 0], []⟩ 8 (by kernel_rfl) (by kernel_rfl) (by kernel_rfl) (by kernel_rfl)) ?_
  intro W base args ds gs before hval0 hW _ hsz
  have hval : ∀ (j : Nat) t v, Try.f6.params[j]? = some t → args[j]? = some v → Value.okWide Try.prog W .any base t v := hval0
  have hW' := hW
  obtain ⟨p, q, hA0, hV, rfl, _, _⟩ := hW
  have hA : DataW.TrodAll enc Try.prog W 0 (fun _ => true) true Try.f6.params.toList args.toList ds p := hA0
  rw [Try.params6] at hA hval
  obtain ⟨v0, v1, v2, d0, d1, d2, p0, p1, p2, rfl, rfl, rfl, r0, r1, r2⟩ := trodAll_three hA
  obtain ⟨rfl, rfl⟩ := trodVars_none hV
  simp only [List.append_nil] at hW'
  have hlt0 : ∀ x ∈ p0, x.block < W.heap.size := fun x hx => hW'.lt x (by simp [hx])
  have hlt1 : ∀ x ∈ p1, x.block < W.heap.size := fun x hx => hW'.lt x (by simp [hx])
  have hlt2 : ∀ x ∈ p2, x.block < W.heap.size := fun x hx => hW'.lt x (by simp [hx])
  obtain ⟨l0, hR0, hOk0⟩ := open_ints1 (hval 0 34 v0 rfl rfl) r0
  obtain ⟨l1, hR1, hOk1⟩ := open_ints1 (hval 1 34 v1 rfl rfl) r1
  obtain ⟨l2, hR2, hOk2⟩ := open_ints1 (hval 2 34 v2 rfl rfl) r2
  clear hA0 hval0
  refine (vectorOrder_any v0 v1 v2 l0 l1 l2 W hR0 hR1 hR2 hOk0).mono fun e W' ⟨he, hx⟩ => ?_
  subst he
  have hargs0 := Below.trod (W' := W') laidTry (by kernel_rfl) (of_decide_eq_true (by kernel_rfl)) r0 hx hlt0
  have hargs1 := Below.trod (W' := W') laidTry (by kernel_rfl) (of_decide_eq_true (by kernel_rfl)) r1 hx hlt1
  have hargs2 := Below.trod (W' := W') laidTry (by kernel_rfl) (of_decide_eq_true (by kernel_rfl)) r2 hx hlt2
  refine ⟨_, rfl, _, _, _, [], p0 ++ (p1 ++ (p2)), [], hW', ?_, ?_, rfl, Below.frame hx _, fun h => (by cases h)⟩
  · exact trodAll_mk1 shutTrue
  · exact trodAll_mk3 hargs0 hargs1 hargs2
theorem vectorOrder_holds : Rows.VectorOrderSaid :=
  OpenClaim.holds_of_wide 6 Try.f6 rfl rfl rfl rfl rfl rfl rfl ⟨rfl, rfl, rfl, rfl, rfl⟩ rfl rfl rfl rfl rfl (by kernel_rfl) Try.func6 (by kernel_rfl)
    (of_decide_eq_true (by kernel_rfl)) (by unfold Func.isWrapper; first | (rw [if_pos (by decide +kernel)]; kernel_rfl) | (rw [if_neg (by decide +kernel)]; exact ⟨rfl, rfl⟩))
    (fun os started H enc _ => vectorOrder_lifted os started H enc)
end Go.Proofs.Ytilaljdokpdcoaa
