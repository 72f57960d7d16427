/- The statement of ToolSpoilt. Conditions: none. -/
import Derived.Test.YtdpmnldmbnpfpaaGreatDoorTie
import Derived.Test.YtdpmnldmbnpfpaaGreatDoorCards
import Derived.Test.YtdpmnldmbnpfpaaGreatDoorGLaid
import Derived.Test.YtdpmnldmbnpfpaaGreatDoorFactA
import Derived.Test.YtdpmnldmbnpfpaaGreatDoorFactB
import Derived.Test.YtdpmnldmbnpfpaaGreatDoorFactC
import Derived.Test.YtdpmnldmbnpfpaaGreatDoorToolSpo
import Derived.SevenTiedAt
namespace Go.Proofs.YtdpmnldmbnpfpaaGreatDoor
open Go Go.ChangeShapes Go.WideShapes Go.ChangeAt Go.RowKit

set_option maxRecDepth 100000 in
theorem toolSpoilt_lifted (os : Os) (started : os.Started) (H : Type) (enc : TypeId × Value -> H) :
 ReturnsInHanded {} Tryz.checked os 5 .any (fun w args => (Rows.toolSpoiltSpec.pre enc Tryz.prog Tryz.f5 [] false w args /\ laidMetH Tryz.prog laidL w) /\ sizedMet enc Tryz.prog Tryz.f5 (OpenSpec.ofChange Rows.toolSpoiltSpec) false w args)
  (Rows.toolSpoiltSpec.post enc Tryz.prog Tryz.f5 false true false false) := by
 refine returnsInHanded_of_change_and (C := Tryz.checked) (X := fun w _ => laidMetH Tryz.prog laidL w) (fun _ _ _ hh h => h.of_heap hh) ownTry started (by kernel_rfl) Tryz.func5
  (ChangeSpec.witness_shaped (enc := enc) (C := Tryz.checked) (os := os) (X := fun w _ => laidMetH Tryz.prog laidL w) false (World.doorLaid Tryz.prog 24 os) #[.agg #[.slice none 0 0], .agg #[.int .u16 0, .int .u16 0]] 8 rfl (World.shaped_of_RefB (by kernel_rfl) (by kernel_rfl)) (by kernel_rfl) (by kernel_rfl) (by kernel_rfl) (door_met os _)) ?_
 intro W base args ds gs before hval0 hW _ hsz hL _
 have hval : ∀ (j : Nat) t v, Tryz.f5.params[j]? = some t -> args[j]? = some v -> Value.okWide Tryz.prog W .any base t v := hval0
 have hW' := hW
 obtain ⟨p, q, hA0, hV, rfl, _, _⟩ := hW
 have hA : DataW.TrodAll enc Tryz.prog W 0 (fun _ => true) true Tryz.f5.params.toList args.toList ds p := hA0
 rw [Tryz.params5] at hA hval
 obtain ⟨v0, v1, d0, d1, p0, p1, rfl, rfl, rfl, r0, r1⟩ := trodAll_two hA
 obtain ⟨rfl, rfl⟩ := trodVars_none hV
 have hT := tab_of_laid hL
 have hWd := words_of_laid hL
 simp only [List.append_nil] at hW'
 have hlt0 : ∀ x ∈ p0, x.block < W.heap.size := fun x hx => hW'.lt x (by simp [hx])
 have hlt1 : ∀ x ∈ p1, x.block < W.heap.size := fun x hx => hW'.lt x (by simp [hx])
 obtain ⟨lv0, ls0, rfl, hR0, hOk0⟩ := open_net (hval 0 39 v0 rfl rfl) r0
 obtain ⟨mx1, my1, hm1, wx1, wy1⟩ := open_arr2 Tryz.underlying41 Tryz.underlying40 (by kernel_rfl) (by kernel_rfl) (hval 1 41 v1 rfl rfl) r1
 obtain ⟨x1, rfl, hx1⟩ := u16_inw wx1
 obtain ⟨y1, rfl, hy1⟩ := u16_inw wy1
 subst hm1
 clear hA0 hval0
 refine (toolSpoilt_any lv0 ls0 x1 y1 W hR0 hOk0 hx1 hy1 hT hWd).mono fun e W' ⟨he, hx⟩ => ?_
 subst he
 have hargs0 := Below.trod (W' := W') laidTry (by kernel_rfl) (of_decide_eq_true (by kernel_rfl)) r0 hx hlt0
 have hargs1 := Below.trod (W' := W') laidTry (by kernel_rfl) (of_decide_eq_true (by kernel_rfl)) r1 hx hlt1
 refine ⟨_, rfl, _, _, _, [], p0 ++ (p1), [], hW', ?_, ?_, rfl, Below.frame hx _, fun h => (by cases h)⟩
 · exact trodAll_mk1 shutTrue
 · exact trodAll_mk2 hargs0 hargs1
set_option maxRecDepth 100000 in
theorem toolSpoilt_closed : joinedFacts Tryz.prog 5 Tryz.f5 Rows.toolSpoiltSpec Rows.toolSpoiltRow = true := by
 unfold joinedFacts
 rw [fact_mayEnter, show (Rows.toolSpoiltRow.lifted == Tryz.prog.liftsFinal) = true from fact_lifts, show (Tryz.prog.make == some Rows.toolSpoiltRow.make) = true from fact_make]
 kernel_rfl
theorem toolSpoilt_row : Rows.ToolSpoiltSaid :=
 OpenClaim.holds_of_wide 5 Tryz.f5 rfl rfl rfl rfl rfl rfl rfl ⟨rfl, rfl, rfl, rfl, rfl⟩ rfl rfl rfl rfl rfl (by kernel_rfl) Tryz.func5 toolSpoilt_closed
  (of_decide_eq_true (by kernel_rfl)) (by unfold Func.isWrapper; first | (rw [if_pos (by decide +kernel)]; kernel_rfl) | (rw [if_neg (by decide +kernel)]; exact ⟨rfl, rfl⟩))
  (fun os started H enc _ => toolSpoilt_lifted os started H enc)
theorem toolSpoilt_holds : Rows.ToolSpoiltCardSaid :=
 Claim7.holds_tied_plain_at .later [] [.data, .data, .data, .data] true (true, "9d2a3e2bc24d9756e9ea085ea3cf2133baa12e8dfd253087ca99b06b6fe81935") false
  toolSpoilt_row (fun _ h => by cases h) (by kernel_rfl) (fun _ h => by cases h) toolSpoilt_row_tie rfl ⟨rfl, rfl⟩ (by kernel_rfl) rfl
  (fun f fn hf hfn => by
    obtain rfl : f = 5 := Option.some.inj ((show Tryz.prog.funcNamed "theseus/theseuslaw22.ToolSpoilt" = some 5 by kernel_rfl).symm.trans hf) |>.symm
    obtain rfl : fn = Tryz.f5 := (Option.some.inj (Tryz.func5.symm.trans hfn)).symm
    exact ⟨by kernel_rfl, fun j t ht => by
     rw [Tryz.params5] at ht
     have hm : t ∈ [39, 41] := by simpa using Array.mem_of_getElem? ht
     have hall : ([39, 41].all fun u => !Tryz.prog.wantsStandIn u) = true := by kernel_rfl
     exact (show Tryz.prog.wantsStandIn t = false by simpa using List.all_eq_true.1 hall t hm)⟩)
  (by kernel_rfl)
end Go.Proofs.YtdpmnldmbnpfpaaGreatDoor
