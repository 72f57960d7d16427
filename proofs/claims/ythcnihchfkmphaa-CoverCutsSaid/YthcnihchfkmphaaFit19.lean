/- Parts that meet, made of any parts. Conditions: none. -/
import Derived.Test.YthcnihchfkmphaaParts19
import Derived.Test.YthcnihchfkmphaaPartsL
namespace Go.Proofs.Ythcnihchfkmphaa
open Go.RowKit

@[go_sem high] theorem field_parts (w : World) (x0 x2 x3 : Value) (a : Option Addr) (n c : Nat) : (Instr.field 54 (.agg #[x0, .slice a n c, x2, x3]) 1).run Try.prog w = .ok (.slice a n c) w := by kernel_rfl
theorem cell_lt {w : World} {p : Addr} {v : Value} (h : w.cell? p = some v) : p.block < w.heap.size := by
  rcases Nat.lt_or_ge p.block w.heap.size with h' | h'
  · exact h'
  · simp [World.cell?, Array.getElem?_eq_none h'] at h
theorem flatten_nils {α : Type} (l : List (List α)) (h : ∀ x ∈ l, x = []) : l.flatten = [] := by
  induction l with
  | nil => rfl
  | cons x l ih => rw [List.flatten_cons, h x (by simp), ih fun y hy => h y (by simp [hy])]; rfl
theorem fit19_any (v : Value) (ps : List Prt) (w : World) (hp : PartsAt w v (partsN ps)) :
    Calls Try.prog 30 #[.agg #[I 1, v, .int .u32 0, .slice none 0 0], I 1] w fun e w' => ∃ u qs L, e = .returned (.agg #[I 1, u, U 0#32, .slice none 0 0]) ∧ OwnP w' w.heap.size u qs ∧ CutParts L qs ∧ qs.length ≤ 31 ∧ Ext w w' := by
  have hnil : ranksF ((partsN ps).map fun _ => ([] : List Int)) = [] := by
    unfold ranksF
    refine flatten_nils _ fun x hx => ?_
    obtain ⟨y, _, rfl⟩ := List.mem_map.1 (List.mem_of_mem_take hx)
    rfl
  obtain ⟨hr, hz, hn⟩ := fitC_ok (((partsN ps).take 12).map Prt.fr)
  refine (r17FitFree_any v none 0 0 1 0#32 1 (partsN ps) ((partsN ps).map fun _ => []) w hp (by decide +kernel) (by simp) (fun i p r h1 h2 => ?_) (by rw [hnil]; intro x hx; cases hx) (by rw [hnil]; simp) (by omega)).mono ?_
  · rw [List.getElem?_map, h1] at h2
    cases h2
    have hm := List.mem_of_getElem? h1
    unfold partsN at hm
    obtain ⟨q, _, rfl⟩ := List.mem_map.1 hm
    exact Reads.nil w 1
  · rintro e w' ⟨u, rfl, ho, hx⟩
    obtain ⟨qs, h1, h2, h3, _⟩ := ho.parts
    exact ⟨u, qs, _, rfl, h1, cut_parts hr (cuts_zero hr hz) h2 h3, by rw [h2, partsF_len]; exact hn, hx⟩
end Go.Proofs.Ythcnihchfkmphaa
