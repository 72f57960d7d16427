/- Rows of numbers of 32 bits in memory. Conditions: none. -/
import Derived.Test.YtilaljdokpdcoaaNet
namespace Go.Proofs.Ytilaljdokpdcoaa
open Go.RowKit

def ucells (l : List (BitVec 32)) : List Value := l.map U
def UsAt (w : World) (v : Value) (l : List (BitVec 32)) : Prop := Reads w 1 v l.length (ucells l)
def OwnU (w : World) (B : Nat) (v : Value) (l : List (BitVec 32)) : Prop := w.ownsRow B 25 1 v l.length (ucells l)
theorem UsAt.later {w w' : World} {v : Value} {l : List (BitVec 32)} (h : UsAt w v l) (hx : Ext w w') : UsAt w' v l := Reads.later h hx
theorem OwnU.later {w w' : World} {B : Nat} {v : Value} {l : List (BitVec 32)} (h : OwnU w B v l) (hx : Ext w w') : OwnU w' B v l := own_later h hx
theorem OwnU.us {w : World} {B : Nat} {v : Value} {l : List (BitVec 32)} (h : OwnU w B v l) : UsAt w v l := Reads.of_own h
theorem ucells_len (l : List (BitVec 32)) : (ucells l).length = l.length := List.length_map _
theorem ucells_app (a b : List (BitVec 32)) : ucells (a ++ b) = ucells a ++ ucells b := List.map_append
theorem ucells_one (l : List (BitVec 32)) : ∀ u ∈ ucells l, u.oneCell' = true := by
  intro u hu
  obtain ⟨r, _, hr⟩ := List.mem_map.1 hu
  subst hr; rfl
theorem UsAt.form {w : World} {v : Value} {l : List (BitVec 32)} (h : UsAt w v l) :
    ∃ a cap, v = .slice a l.length cap ∧ l.length ≤ cap ∧ cap ≤ maxLen ∧ ∀ (i : Nat) (x : BitVec 32), l[i]? = some x → ∃ b off, a = some ⟨b, off, none⟩ ∧ w.cell? ⟨b, off + i, none⟩ = some (U x) := by
  obtain ⟨h0, a, cap, h1, h2, h3, h4, h5⟩ := h
  refine ⟨a, cap, h1, h2, h3, fun i x hi => ?_⟩
  have hil := (List.getElem?_eq_some_iff.1 hi).1
  cases a with
  | none => have := h4 rfl; omega
  | some b =>
    obtain ⟨e1, e2⟩ := h5 b rfl
    replace e1 : b.spot = none := by
      rcases e1 with e1 | e1
      · exact e1
      · have := ucells_len l; rw [e1] at this; simp at this; omega
    obtain ⟨bb, bo, bs⟩ := b
    simp only at e1
    subst e1
    exact ⟨bb, bo, rfl, e2 i (U x) (by unfold ucells; rw [List.getElem?_map, hi]; rfl)⟩
theorem UsAt.piece {w : World} {v : Value} {l : List (BitVec 32)} (h : UsAt w v l) {j k : Nat} (hj : j ≤ k) (hk : k ≤ l.length) : UsAt w (slv 1 v j k) ((l.take k).drop j) := by
  have := Reads.piece h hj hk
  unfold UsAt
  rw [List.length_drop, List.length_take, Nat.min_eq_left hk]
  rw [Nat.mul_one, Nat.mul_one] at this
  unfold ucells at *
  rw [← List.map_take, ← List.map_drop] at this
  exact this
theorem infoU32 : (Try.prog.info? 25).map (fun i => (i.zero, i.size, i.bytes)) = some (some (.int .u32 0), 1, 4) := by kernel_rfl
theorem sizeU32 (w : World) : (sizeOf (Try.prog.elem 48)).run Try.prog w = .ok 1 w := by kernel_rfl
theorem us_made (w : World) (l : List (BitVec 32)) (h : l.length ≤ maxLen) : UsAt (w.alloc (.cells (ucells l).toArray 25)) (.slice (some ⟨w.heap.size, 0, none⟩) l.length l.length) l :=
  Reads.made w 1 25 l.length (ucells l) (by rw [ucells_len]; omega) h
theorem ownU_made (w : World) (l : List (BitVec 32)) (h : l.length ≤ maxLen) : OwnU (w.alloc (.cells (ucells l).toArray 25)) w.heap.size (.slice (some ⟨w.heap.size, 0, none⟩) l.length l.length) l :=
  own_made w 1 25 l.length (ucells l) (by rw [ucells_len]; omega) h
end Go.Proofs.Ytilaljdokpdcoaa
