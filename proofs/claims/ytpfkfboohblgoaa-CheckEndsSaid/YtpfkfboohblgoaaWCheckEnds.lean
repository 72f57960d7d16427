/- The statement of CheckEnds. Conditions: none. -/
import Derived.Test.YtpfkfboohblgoaaRows
import Derived.Test.YtpfkfboohblgoaaGArg
import Derived.Test.YtpfkfboohblgoaaFactA
import Derived.Test.YtpfkfboohblgoaaFactB
import Derived.Test.YtpfkfboohblgoaaFactC
import Derived.Test.YtpfkfboohblgoaaArgCert
import Derived.Test.YtpfkfboohblgoaaCheckEnds
namespace Go.Proofs.Ytpfkfboohblgoaa
open Go Go.ChangeShapes Go.WideShapes Go.ChangeAt Go.RowKit

set_option maxRecDepth 100000 in
theorem checkEnds_lifted (os : Os) (started : os.Started) (H : Type) (enc : TypeId × Value → H) :
    ReturnsInHanded {} Try.checked os 5 .any (Rows.checkEndsSpec.pre6 enc Try.prog Try.f5 Rows.checkEndsRow.domain false) (Rows.checkEndsSpec.post enc Try.prog Try.f5 false true false false) := by
  refine returnsInHanded_of_change (C := Try.checked) ownTry started (by kernel_rfl) Try.func5
    (ChangeSpec.witness6 (enc := enc) (C := Try.checked) false ⟨#[], #[.agg #[.int .i64 0, .slice none 0 0, .int .u32 0, .slice none 0 0], .agg #[.int .u8 0, .int .u8 0]], []⟩ 8 (by kernel_rfl) (by kernel_rfl) (by kernel_rfl) (by kernel_rfl)) ?_
  intro W base args ds gs before hval0 hW _ hsz
  have hval : ∀ (j : Nat) t v, Try.f5.params[j]? = some t → args[j]? = some v → Value.okWide Try.prog W .any base t v := hval0
  have hW' := hW
  obtain ⟨p, q, hA0, hV, rfl, _, _⟩ := hW
  have hA : DataW.TrodAll enc Try.prog W 0 (fun _ => true) true Try.f5.params.toList args.toList ds p := hA0
  rw [Try.params5] at hA hval
  obtain ⟨v0, v1, d0, d1, p0, p1, rfl, rfl, rfl, r0, r1⟩ := trodAll_two hA
  obtain ⟨rfl, rfl⟩ := trodVars_none hV
  simp only [List.append_nil] at hW'
  have hlt0 : ∀ x ∈ p0, x.block < W.heap.size := fun x hx => hW'.lt x (by simp [hx])
  have hlt1 : ∀ x ∈ p1, x.block < W.heap.size := fun x hx => hW'.lt x (by simp [hx])
  obtain ⟨pv0, tv0, c0, rfl, hC0, hT0, hK0, hV0⟩ := open_cert (hval 0 29 v0 rfl rfl) r0
  obtain ⟨mx1, my1, hm1, wx1, wy1⟩ := open_arr2 Try.underlying47 Try.underlying5 (by kernel_rfl) (by kernel_rfl) (hval 1 47 v1 rfl rfl) r1
  obtain ⟨x1, rfl, hx1⟩ := u8_inw wx1
  obtain ⟨y1, rfl, hy1⟩ := u8_inw wy1
  subst hm1
  clear hA0 hval0
  refine (checkEnds_any pv0 tv0 c0 x1 y1 W hC0 hT0 hK0 hx1 hy1).mono fun e W' ⟨he, hx⟩ => ?_
  subst he
  have hargs0 := Below.trod (W' := W') laidTry (by kernel_rfl) (of_decide_eq_true (by kernel_rfl)) r0 hx hlt0
  have hargs1 := Below.trod (W' := W') laidTry (by kernel_rfl) (of_decide_eq_true (by kernel_rfl)) r1 hx hlt1
  refine ⟨_, rfl, _, _, _, [], p0 ++ (p1), [], hW', ?_, ?_, rfl, Below.frame hx _, fun h => (by cases h)⟩
  · exact trodAll_mk1 shutTrue
  · exact trodAll_mk2 hargs0 hargs1
set_option maxRecDepth 100000 in
theorem checkEnds_closed : joinedFacts Try.prog 5 Try.f5 Rows.checkEndsSpec Rows.checkEndsRow = true := by
  unfold joinedFacts
  rw [fact_mayEnter, show (Rows.checkEndsRow.lifted == Try.prog.liftsFinal) = true from fact_lifts, show (Try.prog.make == some Rows.checkEndsRow.make) = true from fact_make]
  kernel_rfl
theorem checkEnds_holds : Rows.CheckEndsSaid :=
  OpenClaim.holds_of_wide 5 Try.f5 rfl rfl rfl rfl rfl rfl rfl ⟨rfl, rfl, rfl, rfl, rfl⟩ rfl rfl rfl rfl rfl (by kernel_rfl) Try.func5 checkEnds_closed
    (of_decide_eq_true (by kernel_rfl)) (by unfold Func.isWrapper; first | (rw [if_pos (by decide +kernel)]; kernel_rfl) | (rw [if_neg (by decide +kernel)]; exact ⟨rfl, rfl⟩))
    (fun os started H enc _ => checkEnds_lifted os started H enc)
end Go.Proofs.Ytpfkfboohblgoaa
