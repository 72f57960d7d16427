/- Maker: these texts in one. Conditions: each part names its own. -/
import Derived.Test.YtdpmnldmbnpfpaaDoorGNetP
import Derived.Test.YtdpmnldmbnpfpaaDoorGTrieL
/- What makes vectors, in memory. Conditions: none. -/
namespace Go.Proofs.YtdpmnldmbnpfpaaDoor
open Go.RowKit

theorem blk_row {w : World} {b : Nat} {cs : List Value} {T e : TypeId} {B s n : Nat} {v : Value} {xs : List Value} (h : Blk w b cs T) (ho : w.ownsRow B e s v n xs) (hT : T ≠ e) : some b ≠ v.ownBlock := by
  intro hb
  obtain ⟨_, ho⟩ := ho
  rcases ho with ⟨rfl, _⟩ | ⟨g, cap, cur, rfl, _, h3, _⟩
  · cases hb
  · simp [Value.ownBlock] at hb
    subst hb
    unfold Blk at h
    rw [h] at h3
    cases h3
    exact hT rfl
end Go.Proofs.YtdpmnldmbnpfpaaDoor
