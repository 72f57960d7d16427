/- A network whose tables are filled from the last one on. Conditions: none. -/
import Derived.Test.YtamlalablblfeaaMadeT
import Derived.Test.YtamlalablblfeaaAtomsOf
namespace Go.Proofs.Ytamlalablblfeaa
open Go Go.RowKit Go.Maps Go.Proofs

/-- Block r: the first i tables (from the last one on) are done, in blocks below C; that of i is under way, beyond C; the others are empty. -/
structure RevI (W : World) (B C r M : Nat) (rows : Nat → List Rul) (i : Nat) (cur : List Rul) : Prop where
  ex : ∃ vs : List Value, vs.length = M ∧ Blk W r vs 54 ∧ (∀ j, j < i → ∃ u, vs[M - 1 - j]? = some u ∧ W.ownsRow B 53 4 u (rows j).length (rcells (rows j)) ∧ ∀ g, u.ownBlock = some g → g < C) ∧
    (∀ j, i < j → j < M → vs[M - 1 - j]? = some (.slice none 0 0)) ∧ (i < M → ∃ u, vs[M - 1 - i]? = some u ∧ W.ownsRow C 53 4 u cur.length (rcells cur))
  rB : r < B
  BC : B ≤ C
  sz : C ≤ W.heap.size
theorem RevI.later {W W' : World} {B C r M i : Nat} {rows : Nat → List Rul} {cur : List Rul} (h : RevI W B C r M rows i cur) (hx : Ext W W') : RevI W' B C r M rows i cur := by
  obtain ⟨⟨vs, h1, h2, h3, h4, h5⟩, h6, h7, h8⟩ := h
  exact ⟨⟨vs, h1, h2.later hx, fun j hj => let ⟨u, g1, g2, g3⟩ := h3 j hj; ⟨u, g1, own_later g2 hx, g3⟩, h4, fun hi => let ⟨u, g1, g2⟩ := h5 hi; ⟨u, g1, own_later g2 hx⟩⟩, h6, h7, Nat.le_trans h8 hx.size⟩
theorem RevI.start {w : World} {B r M : Nat} (rows : Nat → List Rul) (h : Blk w r (List.replicate M (.slice none 0 0)) 54) (hr : r < B) (hB : B ≤ w.heap.size) : RevI w B B r M rows 0 [] := by
  have hg : ∀ j, j < M → (List.replicate M (Value.slice none 0 0))[M - 1 - j]? = some (.slice none 0 0) := fun j hj => by
    rw [List.getElem?_replicate, if_pos (by omega)]
  exact ⟨⟨_, by simp, h, fun j hj => by omega, fun j _ hj => hg j hj, fun hi => ⟨_, hg 0 hi, rfl, .inl ⟨rfl, rfl⟩⟩⟩, hr, Nat.le_refl _, hB⟩
theorem RevI.cur {W : World} {B C r M i : Nat} {rows : Nat → List Rul} {cur : List Rul} (h : RevI W B C r M rows i cur) (hi : i < M) :
    ∃ u, W.cell? ⟨r, M - 1 - i, none⟩ = some u ∧ (∀ o, W.frozen? ⟨r, o, none⟩ = false) ∧ W.ownsRow C 53 4 u cur.length (rcells cur) := by
  obtain ⟨⟨vs, h1, h2, h3, h4, h5⟩, h6, h7, h8⟩ := h
  obtain ⟨u, g1, g2⟩ := h5 hi
  exact ⟨u, by rw [h2.cells]; exact g1, h2.frozen, g2⟩
theorem RevI.put {W W' : World} {B C r M i : Nat} {rows : Nat → List Rul} {cur : List Rul} {q : Rul} {u v' : Value} (h : RevI W B C r M rows i cur) (hi : i < M) (hu : W.cell? ⟨r, M - 1 - i, none⟩ = some u)
    (hg : W.grownBy W' u.ownBlock) (ho : W'.ownsRow C 53 4 v' (cur.length + 1) (rcells cur ++ q.cells)) : RevI (W'.setCell ⟨r, M - 1 - i, none⟩ v') B C r M rows i (cur ++ [q]) := by
  obtain ⟨⟨vs, h1, h2, h3, h4, h5⟩, h6, h7, h8⟩ := h
  obtain ⟨u', g1, g2⟩ := h5 hi
  have hue : u' = u := by rw [h2.cells, g1] at hu; exact Option.some.inj hu
  subst hue
  have hge : ∀ g, u'.ownBlock = some g → C ≤ g := own_ge g2
  have hb' : Blk W' r vs 54 := blk_grown h2 (fun g e => by have := hge g e; omega) hg
  refine ⟨⟨vs.set (M - 1 - i) v', by simp [h1], hb'.set _ _, fun j hj => ?_, fun j hj hjM => ?_, fun _ => ⟨v', by rw [List.getElem?_set, if_pos rfl, if_pos (by omega)], ?_⟩⟩, h6, h7, by have := hg.size; simp; omega⟩
  · obtain ⟨x, k1, k2, k3⟩ := h3 j hj
    exact ⟨x, by rw [List.getElem?_set, if_neg (by omega)]; exact k1, own_set (own_high k2 k3 hge hg) (show r < B from h6) v', k3⟩
  · rw [List.getElem?_set, if_neg (by omega)]; exact h4 j hj hjM
  · refine own_set ?_ (show r < C by omega) v'
    rw [List.length_append, rcells_app]
    simpa [rcells] using ho
theorem RevI.next {W : World} {B C r M i : Nat} {rows : Nat → List Rul} {cur : List Rul} (h : RevI W B C r M rows i cur) (hi : i < M) (hc : cur = rows i) : RevI W B W.heap.size r M rows (i + 1) [] := by
  obtain ⟨⟨vs, h1, h2, h3, h4, h5⟩, h6, h7, h8⟩ := h
  subst hc
  refine ⟨⟨vs, h1, h2, fun j hj => ?_, fun j hj hjM => h4 j (by omega) hjM, fun hi1 => ⟨_, h4 (i + 1) (by omega) hi1, rfl, .inl ⟨rfl, rfl⟩⟩⟩, h6, by omega, Nat.le_refl _⟩
  by_cases e : j = i
  · subst e
    obtain ⟨u, g1, g2⟩ := h5 hi
    exact ⟨u, g1, own_low g2 h7, fun g hg => (own_cells g2 hg).2.1⟩
  · obtain ⟨u, g1, g2, g3⟩ := h3 j (by omega)
    exact ⟨u, g1, g2, fun g hg => by have := g3 g hg; omega⟩
theorem RevI.tables {W : World} {B C r M : Nat} {rows : Nat → List Rul} {cur : List Rul} (h : RevI W B C r M rows M cur) (hm : M ≤ maxLen) : TablesAt W (.slice (some ⟨r, 0, none⟩) M M) ((List.range M).map fun p => rows (M - 1 - p)) := by
  obtain ⟨⟨vs, h1, h2, h3, h4, h5⟩, h6, h7, h8⟩ := h
  refine ⟨vs, ⟨by simp [h1], (some ⟨r, 0, none⟩), M, by simp, by simp, hm, fun e => (by cases e), fun b hb => ?_⟩, fun i l hi => ?_⟩
  · cases hb
    refine ⟨.inl rfl, fun j u hj => ?_⟩
    rw [h2.cells]
    simpa using hj
  · obtain ⟨hi1, hi2⟩ := List.getElem?_eq_some_iff.1 hi
    simp at hi1 hi2
    subst hi2
    obtain ⟨u, g1, g2, _⟩ := h3 (M - 1 - i) (by omega)
    rw [show M - 1 - (M - 1 - i) = i by omega] at g1
    exact ⟨u, g1, Reads.of_own g2⟩
end Go.Proofs.Ytamlalablblfeaa
