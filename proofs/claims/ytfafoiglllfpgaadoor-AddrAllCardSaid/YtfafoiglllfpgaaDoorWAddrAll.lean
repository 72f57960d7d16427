/- The statement of AddrAll. Conditions: none. -/
import Derived.Test.YtfafoiglllfpgaaDoorTie
import Derived.Test.YtfafoiglllfpgaaDoorCards
import Derived.Test.YtfafoiglllfpgaaDoorLaid
import Derived.Test.YtfafoiglllfpgaaDoorAll5
import Derived.SevenTiedAt
namespace Go.Proofs.YtfafoiglllfpgaaDoor
open Go Go.ChangeShapes Go.WideShapes Go.ChangeAt Go.RowKit
open Go.ChangeMaps (open_string)

set_option maxRecDepth 100000 in
theorem addrAll_lifted (os : Os) (started : os.Started) (H : Type) (enc : TypeId × Value → H) :
    ReturnsInHanded {} Tryd.checked os 10 .any (fun w args => (Rows.addrAllSpec.pre enc Tryd.prog Tryd.f10 [] false w args ∧ laidMetH Tryd.prog laidL w) ∧ sizedMet enc Tryd.prog Tryd.f10 (OpenSpec.ofChange Rows.addrAllSpec) false w args)
      (Rows.addrAllSpec.post enc Tryd.prog Tryd.f10 false true false false) := by
  refine returnsInHanded_of_change_and (C := Tryd.checked) (X := fun w _ => laidMetH Tryd.prog laidL w) (fun _ _ _ hh h => h.of_heap hh) ownTry started (by kernel_rfl) Tryd.func10
    (ChangeSpec.witness_shaped (enc := enc) (C := Tryd.checked) (os := os) (X := fun w _ => laidMetH Tryd.prog laidL w) false (World.doorLaid Tryd.prog 24 os) #[.agg #[.int .u32 0, .int .u32 0], .string ⟨#[]⟩, .int .i64 0] 8 rfl (World.shaped_of_RefB (by kernel_rfl) (by kernel_rfl)) (by kernel_rfl) (by kernel_rfl) (by kernel_rfl) (door_met os _)) ?_
  intro W base args ds gs before hval0 hW _ hsz hL _
  have hval : ∀ (j : Nat) t v, Tryd.f10.params[j]? = some t → args[j]? = some v → Value.okWide Tryd.prog W .any base t v := hval0
  have hW' := hW
  obtain ⟨p, q, hA0, hV, rfl, _, _⟩ := hW
  have hA : DataW.TrodAll enc Tryd.prog W 0 (fun _ => true) true Tryd.f10.params.toList args.toList ds p := hA0
  rw [Tryd.params10] at hA hval
  obtain ⟨v0, v1, v2, d0, d1, d2, p0, p1, p2, rfl, rfl, rfl, r0, r1, r2⟩ := trodAll_three hA
  obtain ⟨rfl, rfl⟩ := trodVars_none hV
  have hT := tab_of_laid hL
  simp only [List.append_nil] at hW'
  have hlt0 : ∀ x ∈ p0, x.block < W.heap.size := fun x hx => hW'.lt x (by simp [hx])
  have hlt1 : ∀ x ∈ p1, x.block < W.heap.size := fun x hx => hW'.lt x (by simp [hx])
  have hlt2 : ∀ x ∈ p2, x.block < W.heap.size := fun x hx => hW'.lt x (by simp [hx])
  obtain ⟨mx0, my0, hm0, wx0, wy0⟩ := open_arr2 Tryd.underlying23 Tryd.underlying22 (by kernel_rfl) (by kernel_rfl) (hval 0 23 v0 rfl rfl) r0
  obtain ⟨x0, rfl⟩ := u32_inw wx0
  obtain ⟨y0, rfl⟩ := u32_inw wy0
  subst hm0
  obtain ⟨s1, hm1, _, _, hs1⟩ := open_string Tryd.underlying9 (hval 1 9 v1 rfl rfl) r1
  subst hm1
  obtain ⟨l1, rfl⟩ : ∃ l : List UInt8, s1 = ⟨l.toArray⟩ := ⟨s1.data.toList, rfl⟩
  have hl1 : l1.length ≤ 9223372036854775807 := by have := hs1; unfold maxLen at this; simpa [ByteArray.size] using this
  have q2 := r2
  obtain ⟨m2, hm2, _, _, wm2⟩ := open_int Tryd.underlying3 (hval 2 3 v2 rfl rfl) q2
  have h2w := int_in64w wm2
  subst hm2
  clear hA0 hval0
  refine (addrAll_any x0 y0 l1 m2 W hl1 ⟨h2w.1, h2w.2⟩ hT).mono fun e W' ⟨he, hx⟩ => ?_
  subst he
  have hargs0 := Below.trod (W' := W') laidTry (by kernel_rfl) (of_decide_eq_true (by kernel_rfl)) r0 hx hlt0
  have hargs1 := Below.trod (W' := W') laidTry (by kernel_rfl) (of_decide_eq_true (by kernel_rfl)) r1 hx hlt1
  have hargs2 := Below.trod (W' := W') laidTry (by kernel_rfl) (of_decide_eq_true (by kernel_rfl)) r2 hx hlt2
  refine ⟨_, rfl, _, _, _, [], p0 ++ (p1 ++ (p2)), [], hW', ?_, ?_, rfl, Below.frame hx _, fun h => (by cases h)⟩
  · exact trodAll_mk1 shutTrue
  · exact trodAll_mk3 hargs0 hargs1 hargs2
theorem addrAll_row : Rows.AddrAllSaid :=
  OpenClaim.holds_of_wide 10 Tryd.f10 rfl rfl rfl rfl rfl rfl rfl ⟨rfl, rfl, rfl, rfl, rfl⟩ rfl rfl rfl rfl rfl (by kernel_rfl) Tryd.func10 (by kernel_rfl)
    (of_decide_eq_true (by kernel_rfl)) (by unfold Func.isWrapper; first | (rw [if_pos (by decide +kernel)]; kernel_rfl) | (rw [if_neg (by decide +kernel)]; exact ⟨rfl, rfl⟩))
    (fun os started H enc _ => addrAll_lifted os started H enc)
theorem addrAll_holds : Rows.AddrAllCardSaid :=
  Claim7.holds_tied_plain_at .later [] [.data, .data, .data] true (true, "58998f57f058d52e2307ae06aced5983a4897691ca209826c4f40e05b618e571") false
    addrAll_row (fun _ h => by cases h) (by kernel_rfl) (fun _ h => by cases h) addrAll_row_tie rfl ⟨rfl, rfl⟩ (by kernel_rfl) rfl
    (fun f fn hf hfn => by
      obtain rfl : f = 10 := Option.some.inj ((show Tryd.prog.funcNamed "theseus/theseuslaw05.AddrAll" = some 10 by kernel_rfl).symm.trans hf) |>.symm
      obtain rfl : fn = Tryd.f10 := (Option.some.inj (Tryd.func10.symm.trans hfn)).symm
      exact ⟨by kernel_rfl, fun j t ht => by
        rw [Tryd.params10] at ht
        have hm : t ∈ [23, 9, 3] := by simpa using Array.mem_of_getElem? ht
        have hall : ([23, 9, 3].all fun u => !Tryd.prog.wantsStandIn u) = true := by kernel_rfl
        exact (show Tryd.prog.wantsStandIn t = false by simpa using List.all_eq_true.1 hall t hm)⟩)
    (by kernel_rfl)
end Go.Proofs.YtfafoiglllfpgaaDoor
