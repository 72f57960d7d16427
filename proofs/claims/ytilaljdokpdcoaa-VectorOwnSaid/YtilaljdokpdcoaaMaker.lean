/- What makes vectors, in memory. Conditions: none. -/
import Derived.Test.YtilaljdokpdcoaaNetFit
import Derived.Test.YtilaljdokpdcoaaTrieG
namespace Go.Proofs.Ytilaljdokpdcoaa
open Go.RowKit

/-- What finds in the trie at block tb. -/
abbrev findF (tb : Nat) : Value := .func (.func 48) #[.pointer (some ⟨tb, 0, none⟩)] #[]
theorem TreeAt.forks {w : World} : ∀ {t : T} {v : Value} {bs : List Nat}, TreeAt w t v bs → ∀ b ∈ bs, ∃ cs, Blk w b cs 104
  | .nil, _, _, ⟨_, h⟩, b, hb => by subst h; cases hb
  | .node .., v, bs, ⟨b, bl, bk, vl, vk, h1, h2, h3, h4, h5⟩, q, hq => by
    subst h2
    simp only [List.mem_cons, List.mem_append] at hq
    rcases hq with rfl | hq | hq
    · exact ⟨_, h3⟩
    · exact h4.forks q hq
    · exact h5.forks q hq
theorem TrieAt.keep {w w' : World} {B tb : Nat} {t : T} {v : Value} {bs : List Nat} (h : TrieAt w B tb t v bs)
    (hs : ∀ b cs, B ≤ b → (Blk w b cs 104 ∨ Blk w b cs 96) → w'.heap[b]? = w.heap[b]?) : TrieAt w' B tb t v bs := by
  refine ⟨?_, h.tree.same fun b hb => ?_, h.nodup, h.low, h.ok⟩
  · have hb := h.blk
    unfold Blk
    rw [hs tb _ (h.low tb (by simp)) (.inr hb)]
    exact hb
  · obtain ⟨cs, hc⟩ := h.tree.forks b hb
    exact hs b cs (h.low b (by simp [hb])) (.inl hc)
theorem TrieAt.lower {w : World} {B B' tb : Nat} {t : T} {v : Value} {bs : List Nat} (h : TrieAt w B tb t v bs) (hB : B' ≤ B) : TrieAt w B' tb t v bs :=
  ⟨h.blk, h.tree, h.nodup, fun q hq => Nat.le_trans hB (h.low q hq), h.ok⟩
/-- A row of what finds, of the call's own, and its tries. -/
def FindsAt (w : World) (B : Nat) (fv : Value) (ls : List (List Rul)) : Prop :=
  ∃ fs : List Value, w.ownsRow B 80 1 fv ls.length fs ∧ ∀ (i : Nat) (l : List Rul), ls[i]? = some l → ∃ tb v bs, fs[i]? = some (findF tb) ∧ TrieAt w B tb (buildT l) v bs
theorem FindsAt.nil (w : World) (B : Nat) : FindsAt w B (.slice none 0 0) [] := ⟨[], ⟨by simp, .inl ⟨rfl, rfl⟩⟩, fun i l h => by cases h⟩
theorem FindsAt.later {w w' : World} {B : Nat} {fv : Value} {ls : List (List Rul)} (h : FindsAt w B fv ls) (hx : Ext w w') : FindsAt w' B fv ls :=
  let ⟨fs, h1, h2⟩ := h
  ⟨fs, own_later h1 hx, fun i l hi => let ⟨tb, v, bs, g1, g2⟩ := h2 i l hi; ⟨tb, v, bs, g1, g2.later hx⟩⟩
theorem FindsAt.lower {w : World} {B B' : Nat} {fv : Value} {ls : List (List Rul)} (h : FindsAt w B fv ls) (hB : B' ≤ B) : FindsAt w B' fv ls :=
  let ⟨fs, h1, h2⟩ := h
  ⟨fs, own_low h1 hB, fun i l hi => let ⟨tb, v, bs, g1, g2⟩ := h2 i l hi; ⟨tb, v, bs, g1, g2.lower hB⟩⟩
theorem FindsAt.form {w : World} {B : Nat} {fv : Value} {ls : List (List Rul)} (h : FindsAt w B fv ls) : ∃ a cap, fv = .slice a ls.length cap ∧ ls.length ≤ cap ∧ cap ≤ maxLen := by
  obtain ⟨fs, ⟨_, h1⟩, _⟩ := h
  rcases h1 with ⟨h1, h2⟩ | ⟨g, cap, cur, h1, _, _, h4, h5, _⟩
  · exact ⟨none, 0, by rw [h1, h2], by omega, by unfold maxLen; omega⟩
  · exact ⟨_, cap, h1, h4, h5⟩
/-- All blocks from B on as they were. -/
theorem FindsAt.keep {w w' : World} {B : Nat} {fv : Value} {ls : List (List Rul)} (h : FindsAt w B fv ls) (hs : ∀ b, B ≤ b → b < w.heap.size → w'.heap[b]? = w.heap[b]?) : FindsAt w' B fv ls := by
  obtain ⟨fs, ⟨h0, h1⟩, h2⟩ := h
  refine ⟨fs, ⟨h0, ?_⟩, ?_⟩
  · rcases h1 with h1 | ⟨g, cap, cur, e1, e2, e3, e4⟩
    · exact .inl h1
    · refine .inr ⟨g, cap, cur, e1, e2, ?_, e4⟩
      rw [hs g e2 (by
        rcases Nat.lt_or_ge g w.heap.size with h' | h'
        · exact h'
        · simp [Array.getElem?_eq_none h'] at e3), e3]
  · intro i l hi
    obtain ⟨tb, v, bs, g1, g2⟩ := h2 i l hi
    exact ⟨tb, v, bs, g1, g2.keep fun b cs hb hk => hs b hb (by rcases hk with hk | hk <;> exact hk.lt)⟩
theorem blk_row {w : World} {b : Nat} {cs : List Value} {T e : TypeId} {B s n : Nat} {v : Value} {xs : List Value} (h : Blk w b cs T) (ho : w.ownsRow B e s v n xs) (hT : T ≠ e) : some b ≠ v.ownBlock := by
  intro hb
  obtain ⟨_, ho⟩ := ho
  rcases ho with ⟨rfl, _⟩ | ⟨g, cap, cur, rfl, _, h3, _⟩
  · cases hb
  · simp [Value.ownBlock] at hb
    subst hb
    unfold Blk at h
    rw [h] at h3
    cases h3
    exact hT rfl
theorem FindsAt.app {w w' : World} {B : Nat} {fv fv' : Value} {tb : Nat} {ls : List (List Rul)} {l : List Rul} {fs : List Value} {v : Value} {bs : List Nat} (hown : w.ownsRow B 80 1 fv ls.length fs)
    (hfs : ∀ (i : Nat) (l : List Rul), ls[i]? = some l → ∃ tb v bs, fs[i]? = some (findF tb) ∧ TrieAt w B tb (buildT l) v bs)
    (ho : w'.ownsRow B 80 1 fv' (ls.length + 1) (fs ++ [findF tb])) (hg : w.grownBy w' fv.ownBlock) (ht : TrieAt w B tb (buildT l) v bs) : FindsAt w' B fv' (ls ++ [l]) := by
  have hlen : fs.length = ls.length := by have := hown.1; simpa using this
  have hk : ∀ {tb : Nat} {t : T} {v : Value} {bs : List Nat}, TrieAt w B tb t v bs → TrieAt w' B tb t v bs := fun h => h.keep fun b cs _ hc =>
    hg.block b (by rcases hc with hc | hc <;> exact hc.lt) (by rcases hc with hc | hc <;> exact blk_row hc hown (by decide))
  refine ⟨fs ++ [findF tb], by rw [List.length_append]; exact ho, fun i m hi => ?_⟩
  rcases snoc_get hi with hi | ⟨rfl, rfl⟩
  · obtain ⟨tb', v', bs', g1, g2⟩ := hfs i m hi
    have hil := (List.getElem?_eq_some_iff.1 hi).1
    exact ⟨tb', v', bs', by rw [List.getElem?_append_left (by omega)]; exact g1, hk g2⟩
  · exact ⟨tb, v, bs, by rw [List.getElem?_append_right (by omega), hlen]; simp, hk ht⟩
theorem FindsAt.setCell {w : World} {B : Nat} {fv : Value} {ls : List (List Rul)} (h : FindsAt w B fv ls) {p : Addr} (hp : p.block < B) (x : Value) : FindsAt (w.setCell p x) B fv ls :=
  h.keep fun b hb _ => by
    have : p.block ≠ b := by omega
    simp [World.setCell, Array.getElem?_modify, this]
/-- A maker of a network's vectors. -/
def MakerAt (w : World) (B mb : Nat) (ls : List (List Rul)) : Prop := B ≤ mb ∧ ∃ fv, Blk w mb [fv] 77 ∧ FindsAt w B fv ls
theorem MakerAt.later {w w' : World} {B mb : Nat} {ls : List (List Rul)} (h : MakerAt w B mb ls) (hx : Ext w w') : MakerAt w' B mb ls :=
  let ⟨h0, fv, h1, h2⟩ := h
  ⟨h0, fv, h1.later hx, h2.later hx⟩
theorem MakerAt.keep {w w' : World} {B mb : Nat} {ls : List (List Rul)} (h : MakerAt w B mb ls) (hs : ∀ b, B ≤ b → b < w.heap.size → w'.heap[b]? = w.heap[b]?) : MakerAt w' B mb ls :=
  let ⟨h0, fv, h1, h2⟩ := h
  ⟨h0, fv, by have := h1.lt; unfold Blk at *; rw [hs mb h0 this]; exact h1, h2.keep hs⟩
end Go.Proofs.Ytilaljdokpdcoaa
