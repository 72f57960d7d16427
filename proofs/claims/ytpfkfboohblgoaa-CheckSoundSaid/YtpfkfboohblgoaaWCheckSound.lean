/- The statement of CheckSound. Conditions: none. -/
import Derived.Test.YtpfkfboohblgoaaRows
import Derived.Test.YtpfkfboohblgoaaGArg
import Derived.Test.YtpfkfboohblgoaaFactA
import Derived.Test.YtpfkfboohblgoaaFactB
import Derived.Test.YtpfkfboohblgoaaFactC
import Derived.Test.YtpfkfboohblgoaaArgCert
import Derived.Test.YtpfkfboohblgoaaCheckSound
namespace Go.Proofs.Ytpfkfboohblgoaa
open Go Go.ChangeShapes Go.WideShapes Go.ChangeAt Go.RowKit

set_option maxRecDepth 100000 in
theorem checkSound_lifted (os : Os) (started : os.Started) (H : Type) (enc : TypeId × Value → H) :
    ReturnsInHanded {} Try.checked os 10 .any (Rows.checkSoundSpec.pre6 enc Try.prog Try.f10 Rows.checkSoundRow.domain false) (Rows.checkSoundSpec.post enc Try.prog Try.f10 false true false false) := by
  refine returnsInHanded_of_change (C := Try.checked) ownTry started (by kernel_rfl) Try.func10
    (ChangeSpec.witness6 (enc := enc) (C := Try.checked) false ⟨#[], #[.agg #[.slice none 0 0], .agg #[.int .i64 0, .slice none 0 0, .int .u32 0, .slice none 0 0], .int .u32 0], []⟩ 8 (by kernel_rfl) (by kernel_rfl) (by kernel_rfl) (by kernel_rfl)) ?_
  intro W base args ds gs before hval0 hW _ hsz
  have hval : ∀ (j : Nat) t v, Try.f10.params[j]? = some t → args[j]? = some v → Value.okWide Try.prog W .any base t v := hval0
  have hW' := hW
  obtain ⟨p, q, hA0, hV, rfl, _, _⟩ := hW
  have hA : DataW.TrodAll enc Try.prog W 0 (fun _ => true) true Try.f10.params.toList args.toList ds p := hA0
  rw [Try.params10] at hA hval
  obtain ⟨v0, v1, v2, d0, d1, d2, p0, p1, p2, rfl, rfl, rfl, r0, r1, r2⟩ := trodAll_three hA
  obtain ⟨rfl, rfl⟩ := trodVars_none hV
  simp only [List.append_nil] at hW'
  have hlt0 : ∀ x ∈ p0, x.block < W.heap.size := fun x hx => hW'.lt x (by simp [hx])
  have hlt1 : ∀ x ∈ p1, x.block < W.heap.size := fun x hx => hW'.lt x (by simp [hx])
  have hlt2 : ∀ x ∈ p2, x.block < W.heap.size := fun x hx => hW'.lt x (by simp [hx])
  obtain ⟨lv0, ls0, rfl, hR0, hOk0⟩ := open_net (hval 0 24 v0 rfl rfl) r0
  obtain ⟨pv1, tv1, c1, rfl, hC1, hT1, hK1, hV1⟩ := open_cert (hval 1 29 v1 rfl rfl) r1
  have q2 := r2
  obtain ⟨m2, hm2, _, _, wm2⟩ := open_int Try.underlying26 (hval 2 26 v2 rfl rfl) q2
  obtain ⟨a2, rfl⟩ := u32_inw wm2
  subst hm2
  clear hA0 hval0
  refine (checkSound_any lv0 pv1 tv1 ls0 c1 a2 W hR0 hOk0 hC1 hT1 hK1).mono fun e W' ⟨he, hx⟩ => ?_
  subst he
  have hargs0 := Below.trod (W' := W') laidTry (by kernel_rfl) (of_decide_eq_true (by kernel_rfl)) r0 hx hlt0
  have hargs1 := Below.trod (W' := W') laidTry (by kernel_rfl) (of_decide_eq_true (by kernel_rfl)) r1 hx hlt1
  have hargs2 := Below.trod (W' := W') laidTry (by kernel_rfl) (of_decide_eq_true (by kernel_rfl)) r2 hx hlt2
  refine ⟨_, rfl, _, _, _, [], p0 ++ (p1 ++ (p2)), [], hW', ?_, ?_, rfl, Below.frame hx _, fun h => (by cases h)⟩
  · exact trodAll_mk1 shutTrue
  · exact trodAll_mk3 hargs0 hargs1 hargs2
set_option maxRecDepth 100000 in
theorem checkSound_closed : joinedFacts Try.prog 10 Try.f10 Rows.checkSoundSpec Rows.checkSoundRow = true := by
  unfold joinedFacts
  rw [fact_mayEnter, show (Rows.checkSoundRow.lifted == Try.prog.liftsFinal) = true from fact_lifts, show (Try.prog.make == some Rows.checkSoundRow.make) = true from fact_make]
  kernel_rfl
theorem checkSound_holds : Rows.CheckSoundSaid :=
  OpenClaim.holds_of_wide 10 Try.f10 rfl rfl rfl rfl rfl rfl rfl ⟨rfl, rfl, rfl, rfl, rfl⟩ rfl rfl rfl rfl rfl (by kernel_rfl) Try.func10 checkSound_closed
    (of_decide_eq_true (by kernel_rfl)) (by unfold Func.isWrapper; first | (rw [if_pos (by decide +kernel)]; kernel_rfl) | (rw [if_neg (by decide +kernel)]; exact ⟨rfl, rfl⟩))
    (fun os started H enc _ => checkSound_lifted os started H enc)
end Go.Proofs.Ytpfkfboohblgoaa
