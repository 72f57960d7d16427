/- The statement of TopCodes, where what comes in is of bulk at most 1048576. Conditions: that bulk. -/
import Derived.Test.YtdpmnldmbnpfpaaGreatRows
import Derived.Test.YtdpmnldmbnpfpaaGreatGArg
import Derived.Test.YtdpmnldmbnpfpaaGreatArgBytes
import Derived.Test.YtdpmnldmbnpfpaaGreatArgBulk
import Derived.Test.YtdpmnldmbnpfpaaGreatFactA
import Derived.Test.YtdpmnldmbnpfpaaGreatFactB
import Derived.Test.YtdpmnldmbnpfpaaGreatFactC
import Derived.Test.YtdpmnldmbnpfpaaGreatTopCodes
import Derived.JoinedCond
namespace Go.Proofs.YtdpmnldmbnpfpaaGreat
open Go Go.ChangeShapes Go.WideShapes Go.ChangeAt Go.RowKit

set_option maxRecDepth 100000 in
theorem topCodes_lifted (os : Os) (started : os.Started) (H : Type) (enc : TypeId × Value → H) (F : Stop.Interp) :
    ReturnsInHanded {} Tryz.checked os 4 .any ((Rows.OpenSpec.upto Rows.topCodesSpec).pre6 enc Tryz.prog Tryz.f4 Rows.topCodesUptoRow.domain false) (((Rows.OpenSpec.upto Rows.topCodesSpec).at F).post enc Tryz.prog Tryz.f4 false true false false) := by
  refine returnsInHanded_of_cond (C := Tryz.checked) (s := Rows.OpenSpec.upto Rows.topCodesSpec) (k := Rows.uptoSmall) rfl ownTry started (by kernel_rfl) Tryz.func4
    (OpenSpec.witness (enc := enc) (C := Tryz.checked) (s := Rows.OpenSpec.upto Rows.topCodesSpec) (k := Rows.uptoSmall) rfl false ⟨#[], #[.agg #[.slice none 0 0], .agg #[.int .i64 0, .slice none 0 0, .int .u32 0, .slice none 0 0], .slice none 0 0], []⟩ 8 (by kernel_rfl) (by kernel_rfl) (by kernel_rfl)
      (x := ([.agg [.nil], .agg [.lit (.int .i64 0), .nil, .lit (.int .u32 0), .nil], .nil], [], [])) (by kernel_rfl) rfl (by kernel_rfl)) ?_
  intro W base args ds gs before hval0 hW _ hk hsz
  have hval : ∀ (j : Nat) t v, Tryz.f4.params[j]? = some t → args[j]? = some v → Value.okWide Tryz.prog W .any base t v := hval0
  have hW' := hW
  obtain ⟨p, q, hA0, hV, rfl, _, _⟩ := hW
  have hA : DataW.TrodAll enc Tryz.prog W 0 (fun _ => true) true Tryz.f4.params.toList args.toList ds p := hA0
  rw [Tryz.params4] at hA hval
  obtain ⟨v0, v1, v2, d0, d1, d2, p0, p1, p2, rfl, rfl, rfl, r0, r1, r2⟩ := trodAll_three hA
  obtain ⟨rfl, rfl⟩ := trodVars_none hV
  simp only [List.append_nil] at hW' hk
  have hlt0 : ∀ x ∈ p0, x.block < W.heap.size := fun x hx => hW'.lt x (by simp [hx])
  have hlt1 : ∀ x ∈ p1, x.block < W.heap.size := fun x hx => hW'.lt x (by simp [hx])
  have hlt2 : ∀ x ∈ p2, x.block < W.heap.size := fun x hx => hW'.lt x (by simp [hx])
  obtain ⟨lv0, ls0, rfl, hR0, hOk0⟩ := open_net (hval 0 24 v0 rfl rfl) r0
  obtain ⟨pv1, tv1, c1, rfl, hC1, hT1, hK1, hV1⟩ := open_cert (hval 1 37 v1 rfl rfl) r1
  obtain ⟨l2, hY2⟩ := open_bytes (hval 2 29 v2 rfl rfl) r2
  have hb := cert_bulk hC1 r1
  have hkb : Rows.uptoBulkAll [d0, d1, d2] ≤ 1048576 := of_decide_eq_true hk
  simp only [Rows.uptoBulkAll] at hkb
  have hrk : ∀ x ∈ ranksF c1.rks, In64 x := fun x hx => by
    unfold ranksF at hx
    obtain ⟨r, hr, hxr⟩ := List.mem_flatten.1 hx
    exact hK1 r (List.mem_of_mem_take hr) x hxr
  clear hA0 hval0
  refine (topCodes_any lv0 pv1 tv1 v2 ls0 c1 l2 W hR0 hOk0 hC1 hT1 hrk (by omega) hY2).mono fun e W' ⟨he, hx⟩ => ?_
  subst he
  have hargs0 := Below.trod (W' := W') laidTry (by kernel_rfl) (of_decide_eq_true (by kernel_rfl)) r0 hx hlt0
  have hargs1 := Below.trod (W' := W') laidTry (by kernel_rfl) (of_decide_eq_true (by kernel_rfl)) r1 hx hlt1
  have hargs2 := Below.trod (W' := W') laidTry (by kernel_rfl) (of_decide_eq_true (by kernel_rfl)) r2 hx hlt2
  refine ⟨_, rfl, _, _, _, [], p0 ++ (p1 ++ (p2)), [], hW', ?_, ?_, rfl, Below.frame hx _, fun h => (by cases h)⟩
  · exact trodAll_mk1 shutTrue
  · exact trodAll_mk3 hargs0 hargs1 hargs2
set_option maxRecDepth 100000 in
theorem topCodes_closed : joinedFacts Tryz.prog 4 Tryz.f4 (Rows.OpenSpec.upto Rows.topCodesSpec).bare Rows.topCodesUptoRow = true := by
  unfold joinedFacts
  rw [fact_mayEnter, show (Rows.topCodesUptoRow.lifted == Tryz.prog.liftsFinal) = true from fact_lifts, show (Tryz.prog.make == some Rows.topCodesUptoRow.make) = true from fact_make]
  kernel_rfl
theorem topCodes_holds : Rows.TopCodesUptoSaid :=
  OpenClaim.holds_of_cond 4 Tryz.f4 rfl rfl rfl rfl rfl rfl rfl ⟨rfl, rfl, rfl, rfl, rfl⟩ rfl rfl rfl rfl rfl (by kernel_rfl) Tryz.func4 topCodes_closed
    (of_decide_eq_true (by kernel_rfl)) (by unfold Func.isWrapper; first | (rw [if_pos (by decide +kernel)]; kernel_rfl) | (rw [if_neg (by decide +kernel)]; exact ⟨rfl, rfl⟩))
    (fun os started H enc _ F => topCodes_lifted os started H enc F)
end Go.Proofs.YtdpmnldmbnpfpaaGreat
