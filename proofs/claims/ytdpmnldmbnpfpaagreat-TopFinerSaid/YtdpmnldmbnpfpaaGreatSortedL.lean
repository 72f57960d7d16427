/- A number put into numbers that rise: plain laws. Conditions: none. -/
import Derived.Test.YtdpmnldmbnpfpaaGreatGCuts
namespace Go.Proofs.YtdpmnldmbnpfpaaGreat
open Go.RowKit

/-- What sorted's outer loop keeps. -/
structure Sto (l A : List (BitVec 32)) : Prop where
 rise : Rising A
 zero : A[0]? = some 0#32
 mem : ∀ y, y ∈ A ↔ y = 0#32 ∨ y ∈ l
 few : A.length ≤ l.length + 1
theorem Sto.start : Sto [] [0#32] := ⟨List.pairwise_singleton _ _, rfl, fun y => by simp, Nat.le_refl _⟩
theorem Sto.ins {l A : List (BitVec 32)} (h : Sto l A) {x : BitVec 32} {k : Nat} (h1 : ∀ j (hj : j < A.length), j < k → uv A[j] < uv x) (hk : k ≤ A.length) (h2 : ∀ hk : k < A.length, uv x < uv A[k]) : Sto (l ++ [x]) (A.take k ++ x :: A.drop k) := by
 have hp : 0 < k := by
  rcases Nat.eq_zero_or_pos k with g | g
  · subst g
    obtain ⟨h0, he⟩ := List.getElem?_eq_some_iff.1 h.zero
    have := h2 h0
    rw [he] at this
    have h3 := (uv_bd x).1
    have h0 : uv (0#32) = 0 := rfl
    omega
  · exact g
 refine ⟨?_, ?_, fun y => ?_, ?_⟩
 · refine List.pairwise_append.2 ⟨h.rise.sublist (List.take_sublist _ _), List.pairwise_cons.2 ⟨fun y hy => ?_, h.rise.sublist (List.drop_sublist _ _)⟩, fun y hy z hz => ?_⟩
   · obtain ⟨j, hj, rfl⟩ := List.getElem_of_mem hy
     rw [List.getElem_drop]
     rw [List.length_drop] at hj
     have g1 := h2 (by omega)
     have g2 := h.rise.le (show k ≤ k + j by omega) (by omega)
     omega
   · obtain ⟨j, hj, rfl⟩ := List.getElem_of_mem hy
     rw [List.length_take] at hj
     rw [List.getElem_take]
     have g1 := h1 j (by omega) (by omega)
     rcases List.mem_cons.1 hz with rfl | hz
     · exact g1
     · obtain ⟨i, hi, rfl⟩ := List.getElem_of_mem hz
       rw [List.getElem_drop]
       rw [List.length_drop] at hi
       exact h.rise.lt (by omega) (by omega)
 · rw [List.getElem?_append_left (by rw [List.length_take]; omega), List.getElem?_take_of_lt hp]
   exact h.zero
 · have e : y ∈ A ↔ y ∈ A.take k ∨ y ∈ A.drop k := by
    conv => lhs; rw [← List.take_append_drop k A]
    exact List.mem_append
   rw [List.mem_append, List.mem_cons, List.mem_append, List.mem_singleton]
   have := h.mem y
   grind
 · have := h.few
   rw [List.length_append, List.length_cons, List.length_take, List.length_drop, List.length_append, List.length_singleton]
   omega
theorem Sto.old {l A : List (BitVec 32)} (h : Sto l A) {x : BitVec 32} (hx : x ∈ A) : Sto (l ++ [x]) A := by
 refine ⟨h.rise, h.zero, fun y => ?_, by have := h.few; rw [List.length_append, List.length_singleton]; omega⟩
 rw [List.mem_append, List.mem_singleton]
 have h1 := h.mem y
 have h2 := h.mem x
 grind
end Go.Proofs.YtdpmnldmbnpfpaaGreat
