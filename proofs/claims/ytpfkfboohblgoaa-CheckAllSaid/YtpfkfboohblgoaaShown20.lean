/- The statements' head of layer 20: of one node that steps to itself a trace is told. Conditions: none. -/
import Derived.Test.YtpfkfboohblgoaaCheckN
namespace Go.Proofs.Ytpfkfboohblgoaa
open Go Go.RowKit Go.Maps Go.Proofs

def s20R : Rul := ⟨0#32, 0, 1, 0⟩
def s20N : List (List Rul) := [[s20R]]
def s20C : Crt := ⟨2, [], [], 0#32, [0]⟩
theorem s20_ok : TablesOk s20N := by
  intro l hl r hr
  simp only [s20N, List.mem_cons, List.not_mem_nil, or_false] at hl
  subst hl
  simp only [List.mem_cons, List.not_mem_nil, or_false] at hr
  subst hr
  exact ⟨by unfold In64; decide, by unfold In64; decide, by unfold In64; decide⟩
theorem s20_at (w : World) : TablesAt ((w.alloc (.cells #[.int .u32 0, I 0, I 1, I 0] 44)).alloc (.cells #[.slice (some ⟨w.heap.size, 0, none⟩) 1 1] 45)) (.slice (some ⟨w.heap.size + 1, 0, none⟩) 1 1) s20N := by
  have h := TablesAt.made (w.alloc (.cells #[.int .u32 0, I 0, I 1, I 0] 44)) 45 1 [.slice (some ⟨w.heap.size, 0, none⟩) 1 1] s20N rfl (by unfold maxLen; decide) rfl (fun i l hi => by
    match i, hi with
    | 0, hi =>
      simp [s20N] at hi; subst hi
      exact ⟨_, rfl, Reads.made w 4 44 1 s20R.cells rfl (by unfold maxLen; omega)⟩
    | i + 1, hi => simp [s20N] at hi)
  simpa using h
theorem s20_ans (l : List (BitVec 32)) : ansV l s20N s20C = (2, 0) := by
  have h1 : netMayV s20N = 0 := by decide +kernel
  have h2 : certMayV s20N.length s20C = 0 := by decide +kernel
  have h3 : traceV s20N s20C.dest s20C.tr = 0 := by decide +kernel
  unfold ansV
  rw [if_neg (by rw [h1]; simp), if_neg (by rw [h2]; simp), if_neg (by decide), if_neg (by rw [h3]; simp)]
  rfl
theorem s20_cert (w : World) : CertAt (w.alloc (.cells #[I 0] 3)) (.slice none 0 0) (.slice (some ⟨w.heap.size, 0, none⟩) 1 1) s20C :=
  ⟨Reads.nil _ 3, rfl, fun i p r h => by simp [s20C] at h, Reads.made w 1 3 1 (icells [0]) rfl (by unfold maxLen; omega)⟩
theorem s20_size : sizeN s20N ≤ 10000000 := by decide +kernel
theorem s20_tr : ∀ x ∈ s20C.tr, In64 x := by
  intro x hx
  simp [s20C] at hx; subst hx; unfold In64; decide
set_option maxHeartbeats 600000 in
set_option maxRecDepth 100000 in
theorem shown20_any (w : World) : Calls Try.prog 15 #[] w fun e w' => e = .returned (.bool true) ∧ Ext w w' := by
  have hx : Ext w (((w.alloc (.cells #[.int .u32 0, I 0, I 1, I 0] 44)).alloc (.cells #[.slice (some ⟨w.heap.size, 0, none⟩) 1 1] 45)).alloc (.cells #[I 0] 3)) := by (repeat (first | with_reducible exact Ext.refl _ | with_reducible assumption | with_reducible refine Ext.alloc ?_ _ | with_reducible refine Ext.drew ?_ | with_reducible refine Ext.drewN ?_ _ | (with_reducible refine Ext.setCellP ?_ ?_; focus (first | (simp; done) | (simp; omega) | omega))))
  have hx2 : Ext ((w.alloc (.cells #[.int .u32 0, I 0, I 1, I 0] 44)).alloc (.cells #[.slice (some ⟨w.heap.size, 0, none⟩) 1 1] 45)) (((w.alloc (.cells #[.int .u32 0, I 0, I 1, I 0] 44)).alloc (.cells #[.slice (some ⟨w.heap.size, 0, none⟩) 1 1] 45)).alloc (.cells #[I 0] 3)) := by (repeat (first | with_reducible exact Ext.refl _ | with_reducible assumption | with_reducible refine Ext.alloc ?_ _ | with_reducible refine Ext.drew ?_ | with_reducible refine Ext.drewN ?_ _ | (with_reducible refine Ext.setCellP ?_ ?_; focus (first | (simp; done) | (simp; omega) | omega))))
  have HX := Lib.hid hx
  obtain ⟨l, hl⟩ := cuts_exist s20N.flatten
  have H := Lib.hid (checkNet_any _ _ _ s20N s20C l _ ((s20_at w).later hx2) s20_ok s20_size hl (s20_cert ((w.alloc (.cells #[.int .u32 0, I 0, I 1, I 0] 44)).alloc (.cells #[.slice (some ⟨w.heap.size, 0, none⟩) 1 1] 45))) s20_tr)
  rw [s20_ans] at H
  rw [show I s20C.vd = .int .i64 2 from rfl, show U s20C.dest = .int .u32 0 from rfl, show I ((2, 0) : Int × Int).1 = .int .i64 2 from rfl, show I ((2, 0) : Int × Int).2 = .int .i64 0 from rfl,
    show ((w.alloc (.cells #[.int .u32 0, I 0, I 1, I 0] 44)).alloc (.cells #[.slice (some ⟨w.heap.size, 0, none⟩) 1 1] 45)).heap.size = w.heap.size + 2 by simp] at H
  clear hx hx2
  go_enter Try.func15, Try.ntmps15
  go_wp2_with (first
    | (go_at_call 21; (with_reducible refine H.out.mono ?_); rintro e w1 ⟨he, hx1⟩; subst he; have HX1 := Lib.hid (HX.out.trans hx1); clear hx1))
  go_ret
  exact ⟨rfl, HX1.out⟩
end Go.Proofs.Ytpfkfboohblgoaa
