/- The statements' head: the document's example of a vector. Conditions: none. -/
import Derived.Test.YtilaljdokpdcoaaVecOf
namespace Go.Proofs.Ytilaljdokpdcoaa
open Go.RowKit

def s13R : Rul := ⟨0#32, 0, 1, 1⟩
def s13N : List (List Rul) := [[s13R], []]
theorem s13_may : netMayV s13N = 0 := by decide +kernel
theorem s13_vec : vecV s13N 9#32 = [1, -1] := by decide +kernel
theorem s13_ok : TablesOk s13N := by
  intro l hl r hr
  simp only [s13N, List.mem_cons, List.not_mem_nil, or_false] at hl
  rcases hl with rfl | rfl
  · simp only [List.mem_cons, List.not_mem_nil, or_false] at hr
    subst hr
    exact ⟨by unfold In64; decide, by unfold In64; decide, by unfold In64; decide⟩
  · cases hr
theorem s13_at (w : World) : TablesAt ((w.alloc (.cells #[.int .u32 0, I 0, I 1, I 1] 42)).alloc (.cells #[.slice (some ⟨w.heap.size, 0, none⟩) 1 1, .slice none 0 0] 39)) (.slice (some ⟨w.heap.size + 1, 0, none⟩) 2 2) s13N := by
  have h := TablesAt.made (w.alloc (.cells #[.int .u32 0, I 0, I 1, I 1] 42)) 39 2 [.slice (some ⟨w.heap.size, 0, none⟩) 1 1, .slice none 0 0] s13N rfl (by unfold maxLen s13N; decide) rfl (fun i l hi => by
    match i, hi with
    | 0, hi =>
      simp [s13N] at hi; subst hi
      exact ⟨_, rfl, Reads.made w 4 42 1 s13R.cells rfl (by unfold maxLen; omega)⟩
    | 1, hi =>
      simp [s13N] at hi; subst hi
      exact ⟨_, rfl, Reads.nil _ 4⟩
    | i + 2, hi => simp [s13N] at hi)
  simpa using h
theorem ints_made (w : World) (l : List Int) (h : l.length ≤ maxLen) : IntsAt (w.alloc (.cells (icells l).toArray 3)) (.slice (some ⟨w.heap.size, 0, none⟩) l.length l.length) l :=
  Reads.made w 1 3 l.length (icells l) (by rw [icells_len]; omega) h
set_option maxHeartbeats 1000000 in
theorem shown13_any (w : World) : Calls Try.prog 15 #[] w fun e w' => e = .returned (.bool true) ∧ Ext w w' := by
  have H1 := Lib.hid (s13_at w)
  have HXA := Lib.hid (show Ext w ((w.alloc (.cells #[.int .u32 0, I 0, I 1, I 1] 42)).alloc (.cells #[.slice (some ⟨w.heap.size, 0, none⟩) 1 1, .slice none 0 0] 39)) by (repeat (first | with_reducible exact Ext.refl _ | with_reducible assumption | with_reducible refine Ext.alloc ?_ _ | with_reducible refine Ext.drew ?_ | with_reducible refine Ext.drewN ?_ _ | (with_reducible refine Ext.setCellP ?_ ?_; focus (first | (simp; done) | (simp; omega) | omega)))))
  go_enter Try.func15, Try.ntmps15
  go_wp2_with (first
    | (go_at_call 16; (with_reducible refine (vecNew_good _ s13N _ H1.out s13_ok s13_may (by decide)).mono ?_); rintro e w1 ⟨mb, he, hM, hx1⟩; subst he; have HM := Lib.hid hM; have HX1 := Lib.hid hx1; clear hM hx1)
    | (go_at_call 20; refine (vecOf_any _ mb s13N 9#32 _ HM.out (netMay_tab s13_may) (by decide)).mono ?_; rintro e w2 ⟨v, he, hV, hx2⟩; subst he; rw [s13_vec] at hV; have HV := Lib.hid hV; have HX2 := Lib.hid hx2; clear hV hx2)
    | (go_at_call 19; refine (r09Row_any _ _ [1, -1] [1, -1] _ (HV.out.ints.later ((Ext.refl w2).alloc _)) (ints_made w2 [1, -1] (by unfold maxLen; decide))).mono ?_; rintro e w3 ⟨he, hx3⟩; replace he := he.trans (congrArg (fun b => Ending.returned (.bool b)) (decide_eq_true rfl)); subst he; have HX3 := Lib.hid hx3; clear hx3))
  go_ret
  exact ⟨rfl, HXA.out.trans (HX1.out.trans (HX2.out.trans (((Ext.refl w2).alloc _).trans HX3.out)))⟩
end Go.Proofs.Ytilaljdokpdcoaa
