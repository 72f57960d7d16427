/- Networks that are made of so many empty tables, and filled. Conditions: none. -/
import Derived.Test.YtpfkfboohblgoaaGNetP
namespace Go.Proofs.Ytpfkfboohblgoaa
open Go.RowKit

/-- Block r is a row of tables, each of them the call's own. -/
def MadeT (w : World) (B r : Nat) (ls : List (List Rul)) : Prop :=
  ∃ vs : List Value, vs.length = ls.length ∧ Blk w r vs 45 ∧ ∀ (i : Nat) (l : List Rul), ls[i]? = some l → ∃ u, vs[i]? = some u ∧ w.ownsRow B 44 4 u l.length (rcells l)
theorem MadeT.start (w : World) (n B : Nat) : MadeT (w.alloc (.cells (madeCells #[.slice none 0 0] n) 45)) B w.heap.size (List.replicate n []) := by
  refine ⟨List.replicate n (.slice none 0 0), by simp, ?_, fun i l hi => ?_⟩
  · have h := Blk.new w (madeCells #[.slice none 0 0] n).toList 45
    rw [toList_madeCells_one] at h
    have e : (madeCells #[Value.slice none 0 0] n) = (List.replicate n (Value.slice none 0 0)).toArray := by rw [← Array.toList_inj, toList_madeCells_one]
    rw [e]; exact h
  · obtain ⟨hi1, hi2⟩ := List.getElem?_eq_some_iff.1 hi
    simp at hi1
    simp at hi2
    subst hi2
    exact ⟨.slice none 0 0, by simp [hi1], rfl, .inl ⟨rfl, rfl⟩⟩
theorem MadeT.later {w w' : World} {B r : Nat} {ls : List (List Rul)} (h : MadeT w B r ls) (hx : Ext w w') : MadeT w' B r ls :=
  let ⟨vs, h1, h2, h3⟩ := h
  ⟨vs, h1, h2.later hx, fun i l hi => let ⟨u, g1, g2⟩ := h3 i l hi; ⟨u, g1, own_later g2 hx⟩⟩
theorem MadeT.tables {w : World} {B r n : Nat} {ls : List (List Rul)} (h : MadeT w B r ls) (hn : ls.length = n) (hm : n ≤ maxLen) : TablesAt w (.slice (some ⟨r, 0, none⟩) n n) ls := by
  obtain ⟨vs, h1, h2, h3⟩ := h
  subst hn
  refine ⟨vs, ⟨by omega, _, _, rfl, Nat.le_refl _, hm, fun e => (by cases e), fun b hb => ?_⟩, fun i l hi => ?_⟩
  · cases hb
    refine ⟨.inl rfl, fun j u hj => ?_⟩
    rw [h2.cells]
    simpa using hj
  · obtain ⟨u, g1, g2⟩ := h3 i l hi
    exact ⟨u, g1, Reads.of_own g2⟩
theorem MadeT.put {w : World} {B r : Nat} {ls : List (List Rul)} {i : Nat} {L : List Rul} {u : Value} (h : MadeT w B r ls) (hi : i < ls.length) (hr : r < B) (hu : w.ownsRow B 44 4 u L.length (rcells L)) : MadeT (w.setCell ⟨r, i, none⟩ u) B r (ls.set i L) := by
  obtain ⟨vs, h1, h2, h3⟩ := h
  refine ⟨vs.set i u, by simp [h1], h2.set i u, fun j l hj => ?_⟩
  rw [List.getElem?_set] at hj
  by_cases e : i = j
  · subst e
    rw [if_pos rfl, if_pos hi] at hj
    cases hj
    exact ⟨u, by rw [List.getElem?_set, if_pos rfl, if_pos (by omega)], own_set hu hr u⟩
  · rw [if_neg e] at hj
    obtain ⟨x, g1, g2⟩ := h3 j l hj
    exact ⟨x, by rw [List.getElem?_set, if_neg e]; exact g1, own_set g2 hr u⟩
theorem MadeT.other {w : World} {B r : Nat} {ls : List (List Rul)} {p : Addr} (h : MadeT w B r ls) (hne : p.block ≠ r) (hp : p.block < B) (x : Value) : MadeT (w.setCell p x) B r ls := by
  obtain ⟨vs, h1, h2, h3⟩ := h
  exact ⟨vs, h1, h2.other hne x, fun i l hi => let ⟨u, g1, g2⟩ := h3 i l hi; ⟨u, g1, own_set g2 hp x⟩⟩
theorem own_rule1 (w : World) (r : Rul) : (w.alloc (.cells #[U r.pa, I r.pl, I r.act, I r.nx] 44)).ownsRow w.heap.size 44 4 (.slice (some ⟨w.heap.size, 0, none⟩) 1 1) 1 (rcells [r]) :=
  own_made w 4 44 1 (rcells [r]) rfl (by unfold maxLen; omega)
theorem own_rule2 (w : World) (r q : Rul) : (w.alloc (.cells #[U r.pa, I r.pl, I r.act, I r.nx, U q.pa, I q.pl, I q.act, I q.nx] 44)).ownsRow w.heap.size 44 4 (.slice (some ⟨w.heap.size, 0, none⟩) 2 2) 2 (rcells [r, q]) :=
  own_made w 4 44 2 (rcells [r, q]) rfl (by unfold maxLen; omega)
/-- The first k tables are L, the others empty. -/
def fillT (M k : Nat) (L : List Rul) : List (List Rul) := (List.range M).map fun j => if j < k then L else []
theorem fillT_len (M k : Nat) (L : List Rul) : (fillT M k L).length = M := by unfold fillT; simp
theorem fillT_zero (M : Nat) (L : List Rul) : List.replicate M [] = fillT M 0 L := by
  unfold fillT
  refine List.ext_getElem (by simp) fun i h1 h2 => by simp
theorem fillT_all (M : Nat) (L : List Rul) : fillT M M L = List.replicate M L := by
  unfold fillT
  refine List.ext_getElem (by simp) fun i h1 h2 => ?_
  simp at h1
  simp [h1]
theorem fillT_step {M k : Nat} (L : List Rul) : (fillT M k L).set k L = fillT M (k + 1) L := by
  unfold fillT
  refine List.ext_getElem (by simp) fun i h1 h2 => ?_
  rw [List.getElem_set]
  simp only [List.getElem_map, List.getElem_range]
  by_cases e : k = i
  · subst e; simp
  · rw [if_neg e]
    by_cases g : i < k
    · rw [if_pos g, if_pos (by omega)]
    · rw [if_neg g, if_neg (by omega)]
/-- Such a network may be, if each of its tables may. -/
theorem rep_may {M : Nat} {L : List Rul} (hM : M ≤ 64) (hL : L.length ≤ 20) (h : tabMayV M L = 0) : netMayV (List.replicate M L) = 0 := by
  have h1 : sizeN (List.replicate M L) ≤ M * 20 := by
    have := sizeN_le (ls := List.replicate M L) (c := 20) (fun l hl => by rw [List.eq_of_mem_replicate hl]; exact hL)
    simpa using this
  unfold netMayV
  rw [if_neg (by simp; omega)]
  exact netG_zero fun l hl => by rw [List.eq_of_mem_replicate hl, List.length_replicate]; exact h
theorem rep_ok {M : Nat} {L : List Rul} (h : RulesOk L) : TablesOk (List.replicate M L) := fun l hl => by rw [List.eq_of_mem_replicate hl]; exact h
theorem rep_vec {M : Nat} {L : List Rul} {a : BitVec 32} {c : Int} (h : (stepO L a).getD (-1) = c) : vecV (List.replicate M L) a = List.replicate M c := by
  unfold vecV
  rw [List.map_replicate, h]
theorem rep_size {M : Nat} {L : List Rul} (hM : M ≤ 64) (hL : L.length ≤ 20) : sizeN (List.replicate M L) ≤ 10000 := by
  have := sizeN_le (ls := List.replicate M L) (c := 20) (fun l hl => by rw [List.eq_of_mem_replicate hl]; exact hL)
  simp at this; omega
end Go.Proofs.Ytpfkfboohblgoaa
