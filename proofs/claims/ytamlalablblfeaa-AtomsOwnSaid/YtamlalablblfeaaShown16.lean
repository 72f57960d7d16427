/- The statements' head: the document's examples of atoms. Conditions: none. -/
import Derived.Test.YtamlalablblfeaaAtomsOfG
import Derived.Test.YtamlalablblfeaaAtomsAt
import Derived.Test.YtamlalablblfeaaAtomsL
import Derived.Test.YtamlalablblfeaaGCuts
namespace Go.Proofs.Ytamlalablblfeaa
open Go Go.RowKit Go.Maps Go.Proofs

def s16R : Rul := ⟨2147483648#32, 1, 1, 1⟩
def s16N : List (List Rul) := [[s16R], []]
theorem s16_may : netMayV s16N = 0 := by decide +kernel
theorem s16a_may : netMayV [[]] = 0 := by decide +kernel
theorem s16_ok : TablesOk s16N := by
  intro l hl r hr
  simp only [s16N, List.mem_cons, List.not_mem_nil, or_false] at hl
  rcases hl with rfl | rfl
  · simp only [List.mem_cons, List.not_mem_nil, or_false] at hr
    subst hr
    exact ⟨by unfold In64; decide, by unfold In64; decide, by unfold In64; decide⟩
  · cases hr
theorem s16a_ok : TablesOk [[]] := by
  intro l hl r hr
  simp at hl; subst hl; cases hr
theorem s16_at (w : World) : TablesAt ((w.alloc (.cells #[.int .u32 2147483648, I 1, I 1, I 1] 53)).alloc (.cells #[.slice (some ⟨w.heap.size, 0, none⟩) 1 1, .slice none 0 0] 54)) (.slice (some ⟨w.heap.size + 1, 0, none⟩) 2 2) s16N := by
  have h := TablesAt.made (w.alloc (.cells #[.int .u32 2147483648, I 1, I 1, I 1] 53)) 54 2 [.slice (some ⟨w.heap.size, 0, none⟩) 1 1, .slice none 0 0] s16N rfl (by unfold maxLen s16N; decide) rfl (fun i l hi => by
    match i, hi with
    | 0, hi =>
      simp [s16N] at hi; subst hi
      exact ⟨_, rfl, Reads.made w 4 53 1 s16R.cells rfl (by unfold maxLen; omega)⟩
    | 1, hi =>
      simp [s16N] at hi; subst hi
      exact ⟨_, rfl, Reads.nil _ 4⟩
    | i + 2, hi => simp [s16N] at hi)
  simpa using h
theorem s16a_at (w : World) : TablesAt (w.alloc (.cells #[.slice none 0 0] 54)) (.slice (some ⟨w.heap.size, 0, none⟩) 1 1) [[]] := by
  have h := TablesAt.made w 54 1 [.slice none 0 0] [[]] rfl (by unfold maxLen; decide) rfl (fun i l hi => by
    match i, hi with
    | 0, hi =>
      simp at hi; subst hi
      exact ⟨_, rfl, Reads.nil _ 4⟩
    | i + 1, hi => simp at hi)
  simpa using h
theorem s16_cut : Cuts s16N.flatten [0#32, 2147483648#32] := cuts_eq (by decide +kernel) (by decide +kernel)
theorem s16a_cut : Cuts ([[]] : List (List Rul)).flatten [0#32] := cuts_eq (by decide +kernel) (by decide +kernel)
theorem s16_ats : atomsL (vecV s16N) [0#32, 2147483648#32] = ⟨[0#32, 2147483648#32], [0, 1], [[-1, -1], [1, -1]]⟩ := by
  have h1 : vecV s16N 0#32 = [-1, -1] := by decide +kernel
  have h2 : vecV s16N 2147483648#32 = [1, -1] := by decide +kernel
  have h3 : List.idxOf [1, -1] [[-1, -1]] = 1 := by decide +kernel
  simp [atomsL, atStep, h1, h2, Ats.nil, Ats.last, idxV, h3]
theorem s16a_ats : atomsL (vecV [[]]) [0#32] = ⟨[0#32], [0], [[-1]]⟩ := atoms_one rfl (fun _ _ => rfl)
set_option maxHeartbeats 2000000 in
set_option maxRecDepth 100000 in
theorem shown16_any (w : World) : Calls Try.prog 21 #[] w fun e w' => e = .returned (.bool true) ∧ Ext w w' := by
  have H1 := Lib.hid (s16a_at w)
  have HXA := Lib.hid (show Ext w (w.alloc (.cells #[.slice none 0 0] 54)) by (repeat (first | with_reducible exact Ext.refl _ | with_reducible assumption | with_reducible refine Ext.alloc ?_ _ | with_reducible refine Ext.drew ?_ | with_reducible refine Ext.drewN ?_ _ | (with_reducible refine Ext.setCellP ?_ ?_; focus (first | (simp; done) | (simp; omega) | omega)))))
  have hmk : ∀ w : World, (Instr.makeSlice 22 (.int .i64 1) (.int .i64 1)).run Try.prog w = .ok (.slice (some ⟨w.heap.size, 0, none⟩) 1 1) (w.alloc (.cells #[.slice none 0 0] 54)) := fun w => by
    have h := run_make_row' (P := Try.prog) 22 54 (.slice none 0 0) 24 Try.underlying22 infoRules rfl .i64 .i64 1 (by omega) (by omega) w
    rw [show madeCells #[Value.slice none 0 0] 1 = #[Value.slice none 0 0] from by rw [← Array.toList_inj, toList_madeCells_one]; rfl] at h
    exact h
  go_enter Try.func21, Try.ntmps21
  go_upto_region 2 with (first
    | (go_at_call 22; (with_reducible refine (atomsOf_good _ [[]] _ H1.out s16a_ok s16a_may).mono ?_); rintro e w1 ⟨fv, hv, vv, l, he, hC, hA, hx1⟩; subst he; have he2 := Cuts.at hC s16a_cut; subst he2; rw [s16a_ats] at hA; have HA := Lib.hid hA; have HX1 := Lib.hid (HXA.out.trans hx1); obtain ⟨fa, fc, ha, hc, va, vc, e1, e2, e3⟩ := hA.forms; replace e1 : fv = .slice fa 1 fc := e1; replace e2 : hv = .slice ha 1 hc := e2; replace e3 : vv = .slice va 1 vc := e3; subst e1 e2 e3; clear hC hA hx1))
  refine hideW (Φ := fun W => Code.wp _ _ _ _ W) (fun W => Ext w1 W ∧ Blk W w1.heap.size [.slice fa 1 fc, .slice ha 1 hc, .slice va 1 vc] 30)
    ⟨by (repeat (first | with_reducible exact Ext.refl _ | with_reducible assumption | with_reducible refine Ext.alloc ?_ _ | with_reducible refine Ext.drew ?_ | with_reducible refine Ext.drewN ?_ _ | (with_reducible refine Ext.setCellP ?_ ?_; focus (first | (simp; done) | (simp; omega) | omega)))), Blk.new w1 [.slice fa 1 fc, .slice ha 1 hc, .slice va 1 vc] 30⟩ (fun W2 hW2 => ?_)
  obtain ⟨hx2, hb2⟩ := hW2
  have HA2 := Lib.hid (HA.out.later hx2)
  have HB2 := Lib.hid hb2
  have HX2 := Lib.hid (HX1.out.trans hx2)
  clear hx2 hb2
  generalize w1.heap.size = xb at *
  have H2 := Lib.hid (s16_at W2)
  have HXB := Lib.hid (show Ext W2 ((W2.alloc (.cells #[.int .u32 2147483648, I 1, I 1, I 1] 53)).alloc (.cells #[.slice (some ⟨W2.heap.size, 0, none⟩) 1 1, .slice none 0 0] 54)) by (repeat (first | with_reducible exact Ext.refl _ | with_reducible assumption | with_reducible refine Ext.alloc ?_ _ | with_reducible refine Ext.drew ?_ | with_reducible refine Ext.drewN ?_ _ | (with_reducible refine Ext.setCellP ?_ ?_; focus (first | (simp; done) | (simp; omega) | omega)))))
  go_upto_region 3 with (first
    | (go_at_call 22; (with_reducible refine (atomsOf_good _ s16N _ H2.out s16_ok s16_may).mono ?_); rintro e w3 ⟨fv, hv, vv, l, he, hC, hA, hx3⟩; subst he; have he2 := Cuts.at hC s16_cut; subst he2; rw [s16_ats] at hA; have HA3 := Lib.hid hA; have HX3 := Lib.hid (HXB.out.trans hx3); obtain ⟨fa', fc', ha', hc', va', vc', e1, e2, e3⟩ := hA.forms; replace e1 : fv = .slice fa' 2 fc' := e1; replace e2 : hv = .slice ha' 2 hc' := e2; replace e3 : vv = .slice va' 2 vc' := e3; subst e1 e2 e3; clear hC hA hx3))
  refine hideW (Φ := fun W => Code.wp _ _ _ _ W) (fun W => Ext w3 W ∧ Blk W w3.heap.size [.slice fa' 2 fc', .slice ha' 2 hc', .slice va' 2 vc'] 30)
    ⟨by (repeat (first | with_reducible exact Ext.refl _ | with_reducible assumption | with_reducible refine Ext.alloc ?_ _ | with_reducible refine Ext.drew ?_ | with_reducible refine Ext.drewN ?_ _ | (with_reducible refine Ext.setCellP ?_ ?_; focus (first | (simp; done) | (simp; omega) | omega)))), Blk.new w3 [.slice fa' 2 fc', .slice ha' 2 hc', .slice va' 2 vc'] 30⟩ (fun W4 hW4 => ?_)
  obtain ⟨hx4, hb4⟩ := hW4
  have HA4 := Lib.hid (HA2.out.later (HX3.out.trans hx4))
  have HB4 := Lib.hid (HB2.out.later (HX3.out.trans hx4))
  have HA5 := Lib.hid (HA3.out.later hx4)
  have HB5 := Lib.hid hb4
  have HX4 := Lib.hid (HX2.out.trans (HX3.out.trans hx4))
  have hbc4 := HB4.out.cells
  have hbc5 := HB5.out.cells
  clear hx4 hb4
  generalize w3.heap.size = yb at *
  go_wp2_with (first
    | (go_at_call 31; (with_reducible refine (atomsLen_any _ _ _ _ _ HA4.out).mono ?_); rintro e w5 ⟨he, hx5⟩; replace he : e = .returned (I 1) := he; subst he; have HX5 := Lib.hid hx5; have hbc6 := (HB5.out.later hx5).cells; clear hx5)
    | (go_at_call 31; (with_reducible refine (atomsLen_any _ _ _ _ _ (HA5.out.later HX5.out)).mono ?_); rintro e w6 ⟨he, hx6⟩; replace he : e = .returned (I 2) := he; subst he; have HX6 := Lib.hid (HX5.out.trans hx6); have hbc7 := (HB5.out.later (HX5.out.trans hx6)).cells; clear hx6))
  go_ret
  exact ⟨rfl, HX4.out.trans HX6.out⟩
end Go.Proofs.Ytamlalablblfeaa
