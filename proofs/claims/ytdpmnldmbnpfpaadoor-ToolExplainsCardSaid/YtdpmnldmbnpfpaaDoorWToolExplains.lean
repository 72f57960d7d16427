/- The statement of ToolExplains. Conditions: none. -/
import Derived.Test.YtdpmnldmbnpfpaaDoorTie
import Derived.Test.YtdpmnldmbnpfpaaDoorCards
import Derived.Test.YtdpmnldmbnpfpaaDoorGLaid
import Derived.Test.YtdpmnldmbnpfpaaDoorFactA
import Derived.Test.YtdpmnldmbnpfpaaDoorFactB
import Derived.Test.YtdpmnldmbnpfpaaDoorFactC
import Derived.Test.YtdpmnldmbnpfpaaDoorGArg
import Derived.Test.YtdpmnldmbnpfpaaDoorToolExp
import Derived.SevenTiedAt
namespace Go.Proofs.YtdpmnldmbnpfpaaDoor
open Go Go.ChangeShapes Go.WideShapes Go.ChangeAt Go.RowKit

set_option maxRecDepth 100000 in
theorem toolExplains_lifted (os : Os) (started : os.Started) (H : Type) (enc : TypeId × Value → H) :
    ReturnsInHanded {} Tryd.checked os 3 .any (fun w args => (Rows.toolExplainsSpec.pre enc Tryd.prog Tryd.f3 [] false w args ∧ laidMetH Tryd.prog laidL w) ∧ sizedMet enc Tryd.prog Tryd.f3 (OpenSpec.ofChange Rows.toolExplainsSpec) false w args)
      (Rows.toolExplainsSpec.post enc Tryd.prog Tryd.f3 false true false false) := by
  refine returnsInHanded_of_change_and (C := Tryd.checked) (X := fun w _ => laidMetH Tryd.prog laidL w) (fun _ _ _ hh h => h.of_heap hh) ownTry started (by kernel_rfl) Tryd.func3
    (ChangeSpec.witness_shaped (enc := enc) (C := Tryd.checked) (os := os) (X := fun w _ => laidMetH Tryd.prog laidL w) false (World.doorLaid Tryd.prog 24 os) #[.agg #[.slice none 0 0], .int .u32 0, .int .u32 0] 8 rfl (World.shaped_of_RefB (by kernel_rfl) (by kernel_rfl)) (by kernel_rfl) (by kernel_rfl) (by kernel_rfl) (door_met os _)) ?_
  intro W base args ds gs before hval0 hW _ hsz hL _
  have hval : ∀ (j : Nat) t v, Tryd.f3.params[j]? = some t → args[j]? = some v → Value.okWide Tryd.prog W .any base t v := hval0
  have hW' := hW
  obtain ⟨p, q, hA0, hV, rfl, _, _⟩ := hW
  have hA : DataW.TrodAll enc Tryd.prog W 0 (fun _ => true) true Tryd.f3.params.toList args.toList ds p := hA0
  rw [Tryd.params3] at hA hval
  obtain ⟨v0, v1, v2, d0, d1, d2, p0, p1, p2, rfl, rfl, rfl, r0, r1, r2⟩ := trodAll_three hA
  obtain ⟨rfl, rfl⟩ := trodVars_none hV
  have hT := tab_of_laid hL
  have hWd := words_of_laid hL
  simp only [List.append_nil] at hW'
  have hlt0 : ∀ x ∈ p0, x.block < W.heap.size := fun x hx => hW'.lt x (by simp [hx])
  have hlt1 : ∀ x ∈ p1, x.block < W.heap.size := fun x hx => hW'.lt x (by simp [hx])
  have hlt2 : ∀ x ∈ p2, x.block < W.heap.size := fun x hx => hW'.lt x (by simp [hx])
  obtain ⟨lv0, ls0, rfl, hR0, hOk0⟩ := open_net (hval 0 24 v0 rfl rfl) r0
  have q1 := r1
  obtain ⟨m1, hm1, _, _, wm1⟩ := open_int Tryd.underlying25 (hval 1 25 v1 rfl rfl) q1
  obtain ⟨a1, rfl⟩ := u32_inw wm1
  subst hm1
  have q2 := r2
  obtain ⟨m2, hm2, _, _, wm2⟩ := open_int Tryd.underlying25 (hval 2 25 v2 rfl rfl) q2
  obtain ⟨a2, rfl⟩ := u32_inw wm2
  subst hm2
  clear hA0 hval0
  refine (toolExplains_any lv0 ls0 a1 a2 W hR0 hOk0 hT hWd).mono fun e W' ⟨he, hx⟩ => ?_
  subst he
  have hargs0 := Below.trod (W' := W') laidTry (by kernel_rfl) (of_decide_eq_true (by kernel_rfl)) r0 hx hlt0
  have hargs1 := Below.trod (W' := W') laidTry (by kernel_rfl) (of_decide_eq_true (by kernel_rfl)) r1 hx hlt1
  have hargs2 := Below.trod (W' := W') laidTry (by kernel_rfl) (of_decide_eq_true (by kernel_rfl)) r2 hx hlt2
  refine ⟨_, rfl, _, _, _, [], p0 ++ (p1 ++ (p2)), [], hW', ?_, ?_, rfl, Below.frame hx _, fun h => (by cases h)⟩
  · exact trodAll_mk1 shutTrue
  · exact trodAll_mk3 hargs0 hargs1 hargs2
set_option maxRecDepth 100000 in
theorem toolExplains_closed : joinedFacts Tryd.prog 3 Tryd.f3 Rows.toolExplainsSpec Rows.toolExplainsRow = true := by
  unfold joinedFacts
  rw [fact_mayEnter, show (Rows.toolExplainsRow.lifted == Tryd.prog.liftsFinal) = true from fact_lifts, show (Tryd.prog.make == some Rows.toolExplainsRow.make) = true from fact_make]
  kernel_rfl
theorem toolExplains_row : Rows.ToolExplainsSaid :=
  OpenClaim.holds_of_wide 3 Tryd.f3 rfl rfl rfl rfl rfl rfl rfl ⟨rfl, rfl, rfl, rfl, rfl⟩ rfl rfl rfl rfl rfl (by kernel_rfl) Tryd.func3 toolExplains_closed
    (of_decide_eq_true (by kernel_rfl)) (by unfold Func.isWrapper; first | (rw [if_pos (by decide +kernel)]; kernel_rfl) | (rw [if_neg (by decide +kernel)]; exact ⟨rfl, rfl⟩))
    (fun os started H enc _ => toolExplains_lifted os started H enc)
theorem toolExplains_holds : Rows.ToolExplainsCardSaid :=
  Claim7.holds_tied_plain_at .later [] [.data, .data, .data, .data] true (true, "26d8afb6d7f766ddb8c2a32686db00ddfc29f906cb9a495f28aca49a45a26800") false
    toolExplains_row (fun _ h => by cases h) (by kernel_rfl) (fun _ h => by cases h) toolExplains_row_tie rfl ⟨rfl, rfl⟩ (by kernel_rfl) rfl
    (fun f fn hf hfn => by
      obtain rfl : f = 3 := Option.some.inj ((show Tryd.prog.funcNamed "theseus/theseuslaw22.ToolExplains" = some 3 by kernel_rfl).symm.trans hf) |>.symm
      obtain rfl : fn = Tryd.f3 := (Option.some.inj (Tryd.func3.symm.trans hfn)).symm
      exact ⟨by kernel_rfl, fun j t ht => by
        rw [Tryd.params3] at ht
        have hm : t ∈ [24, 25, 25] := by simpa using Array.mem_of_getElem? ht
        have hall : ([24, 25, 25].all fun u => !Tryd.prog.wantsStandIn u) = true := by kernel_rfl
        exact (show Tryd.prog.wantsStandIn t = false by simpa using List.all_eq_true.1 hall t hm)⟩)
    (by kernel_rfl)
end Go.Proofs.YtdpmnldmbnpfpaaDoor
