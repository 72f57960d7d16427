/- The statement of TopEmpty. Conditions: none. -/
import Derived.Test.YtdpmnldmbnpfpaaGreatDoorTie
import Derived.Test.YtdpmnldmbnpfpaaGreatDoorCards
import Derived.Test.YtdpmnldmbnpfpaaGreatDoorGLaid
import Derived.Test.YtdpmnldmbnpfpaaGreatDoorFactA
import Derived.Test.YtdpmnldmbnpfpaaGreatDoorFactB
import Derived.Test.YtdpmnldmbnpfpaaGreatDoorFactC
import Derived.Test.YtdpmnldmbnpfpaaGreatDoorTopEmp
import Derived.SevenTiedAt
namespace Go.Proofs.YtdpmnldmbnpfpaaGreatDoor
open Go Go.ChangeShapes Go.WideShapes Go.ChangeAt Go.RowKit

set_option maxRecDepth 100000 in
theorem topEmpty_lifted (os : Os) (started : os.Started) (H : Type) (enc : TypeId × Value -> H) :
 ReturnsInHanded {} Tryz.checked os 8 .any (fun w args => (Rows.topEmptySpec.pre enc Tryz.prog Tryz.f8 [] false w args /\ laidMetH Tryz.prog laidL w) /\ sizedMet enc Tryz.prog Tryz.f8 (OpenSpec.ofChange Rows.topEmptySpec) false w args)
  (Rows.topEmptySpec.post enc Tryz.prog Tryz.f8 false true false false) := by
 refine returnsInHanded_of_change_and (C := Tryz.checked) (X := fun w _ => laidMetH Tryz.prog laidL w) (fun _ _ _ hh h => h.of_heap hh) ownTry started (by kernel_rfl) Tryz.func8
  (ChangeSpec.witness_shaped (enc := enc) (C := Tryz.checked) (os := os) (X := fun w _ => laidMetH Tryz.prog laidL w) false (World.doorLaid Tryz.prog 24 os) #[.int .u8 0, .int .u32 0] 8 rfl (World.shaped_of_RefB (by kernel_rfl) (by kernel_rfl)) (by kernel_rfl) (by kernel_rfl) (by kernel_rfl) (door_met os _)) ?_
 intro W base args ds gs before hval0 hW _ hsz hL _
 have hval : ∀ (j : Nat) t v, Tryz.f8.params[j]? = some t -> args[j]? = some v -> Value.okWide Tryz.prog W .any base t v := hval0
 have hW' := hW
 obtain ⟨p, q, hA0, hV, rfl, _, _⟩ := hW
 have hA : DataW.TrodAll enc Tryz.prog W 0 (fun _ => true) true Tryz.f8.params.toList args.toList ds p := hA0
 rw [Tryz.params8] at hA hval
 obtain ⟨v0, v1, d0, d1, p0, p1, rfl, rfl, rfl, r0, r1⟩ := trodAll_two hA
 obtain ⟨rfl, rfl⟩ := trodVars_none hV
 have hT := tab_of_laid hL
 have hWd := words_of_laid hL
 simp only [List.append_nil] at hW'
 have hlt0 : ∀ x ∈ p0, x.block < W.heap.size := fun x hx => hW'.lt x (by simp [hx])
 have hlt1 : ∀ x ∈ p1, x.block < W.heap.size := fun x hx => hW'.lt x (by simp [hx])
 have q0 := r0
 obtain ⟨m0, hm0, _, _, wm0⟩ := open_int Tryz.underlying5 (hval 0 5 v0 rfl rfl) q0
 obtain ⟨n0, rfl, hn0⟩ := u8_inw wm0
 subst hm0
 have q1 := r1
 obtain ⟨m1, hm1, _, _, wm1⟩ := open_int Tryz.underlying23 (hval 1 23 v1 rfl rfl) q1
 obtain ⟨a1, rfl⟩ := u32_inw wm1
 subst hm1
 clear hA0 hval0
 refine (topEmpty_any n0 a1 W hn0 hT hWd).mono fun e W' ⟨he, hx⟩ => ?_
 subst he
 have hargs0 := Below.trod (W' := W') laidTry (by kernel_rfl) (of_decide_eq_true (by kernel_rfl)) r0 hx hlt0
 have hargs1 := Below.trod (W' := W') laidTry (by kernel_rfl) (of_decide_eq_true (by kernel_rfl)) r1 hx hlt1
 refine ⟨_, rfl, _, _, _, [], p0 ++ (p1), [], hW', ?_, ?_, rfl, Below.frame hx _, fun h => (by cases h)⟩
 · exact trodAll_mk1 shutTrue
 · exact trodAll_mk2 hargs0 hargs1
set_option maxRecDepth 100000 in
theorem topEmpty_closed : joinedFacts Tryz.prog 8 Tryz.f8 Rows.topEmptySpec Rows.topEmptyRow = true := by
 unfold joinedFacts
 rw [fact_mayEnter, show (Rows.topEmptyRow.lifted == Tryz.prog.liftsFinal) = true from fact_lifts, show (Tryz.prog.make == some Rows.topEmptyRow.make) = true from fact_make]
 kernel_rfl
theorem topEmpty_row : Rows.TopEmptySaid :=
 OpenClaim.holds_of_wide 8 Tryz.f8 rfl rfl rfl rfl rfl rfl rfl ⟨rfl, rfl, rfl, rfl, rfl⟩ rfl rfl rfl rfl rfl (by kernel_rfl) Tryz.func8 topEmpty_closed
  (of_decide_eq_true (by kernel_rfl)) (by unfold Func.isWrapper; first | (rw [if_pos (by decide +kernel)]; kernel_rfl) | (rw [if_neg (by decide +kernel)]; exact ⟨rfl, rfl⟩))
  (fun os started H enc _ => topEmpty_lifted os started H enc)
theorem topEmpty_holds : Rows.TopEmptyCardSaid :=
 Claim7.holds_tied_plain_at .later [] [.data, .data, .data, .data] true (true, "9d2a3e2bc24d9756e9ea085ea3cf2133baa12e8dfd253087ca99b06b6fe81935") false
  topEmpty_row (fun _ h => by cases h) (by kernel_rfl) (fun _ h => by cases h) topEmpty_row_tie rfl ⟨rfl, rfl⟩ (by kernel_rfl) rfl
  (fun f fn hf hfn => by
    obtain rfl : f = 8 := Option.some.inj ((show Tryz.prog.funcNamed "theseus/theseustop.TopEmpty" = some 8 by kernel_rfl).symm.trans hf) |>.symm
    obtain rfl : fn = Tryz.f8 := (Option.some.inj (Tryz.func8.symm.trans hfn)).symm
    exact ⟨by kernel_rfl, fun j t ht => by
     rw [Tryz.params8] at ht
     have hm : t ∈ [5, 23] := by simpa using Array.mem_of_getElem? ht
     have hall : ([5, 23].all fun u => !Tryz.prog.wantsStandIn u) = true := by kernel_rfl
     exact (show Tryz.prog.wantsStandIn t = false by simpa using List.all_eq_true.1 hall t hm)⟩)
  (by kernel_rfl)
end Go.Proofs.YtdpmnldmbnpfpaaGreatDoor
