/- Atoms in memory while they are made. Conditions: none. -/
import Derived.Test.YtpfkfboohblgoaaAtomsP
import Derived.Test.YtpfkfboohblgoaaPart
namespace Go.Proofs.Ytpfkfboohblgoaa
open Go Go.RowKit Go.Maps Go.Proofs

/-- Rows of whole numbers, read. -/
def IssAt (w : World) (v : Value) (ls : List (List Int)) : Prop :=
  ∃ vs : List Value, Reads w 1 v ls.length vs ∧ ∀ (i : Nat) (l : List Int), ls[i]? = some l → ∃ u, vs[i]? = some u ∧ IntsAt w u l
theorem IssAt.later {w w' : World} {v : Value} {ls : List (List Int)} (h : IssAt w v ls) (hx : Ext w w') : IssAt w' v ls :=
  let ⟨vs, h1, h2⟩ := h
  ⟨vs, h1.later hx, fun i l hi => let ⟨u, g1, g2⟩ := h2 i l hi; ⟨u, g1, g2.later hx⟩⟩
theorem IssAt.form {w : World} {v : Value} {ls : List (List Int)} (h : IssAt w v ls) :
    ∃ a cap, v = .slice a ls.length cap ∧ ls.length ≤ cap ∧ cap ≤ maxLen ∧ ∀ (i : Nat) (l : List Int), ls[i]? = some l → ∃ b off u, a = some ⟨b, off, none⟩ ∧ w.cell? ⟨b, off + i, none⟩ = some u ∧ IntsAt w u l := by
  obtain ⟨vs, ⟨h0, a, cap, h1, h2, h3, h4, h5⟩, hv⟩ := h
  refine ⟨a, cap, h1, h2, h3, fun i l hi => ?_⟩
  have hil := (List.getElem?_eq_some_iff.1 hi).1
  obtain ⟨u, g1, g2⟩ := hv i l hi
  cases a with
  | none => have := h4 rfl; omega
  | some b =>
    obtain ⟨e1, e2⟩ := h5 b rfl
    replace e1 : b.spot = none := by
      rcases e1 with e1 | e1
      · exact e1
      · rw [e1] at g1; cases g1
    obtain ⟨bb, bo, bs⟩ := b
    simp only at e1
    subst e1
    exact ⟨bb, bo, u, rfl, e2 i u g1, g2⟩
/-- Atoms' value, read. -/
structure AtomsAt (w : World) (fv hv vv : Value) (s : Ats) : Prop where
  fr : UsAt w fv s.fr
  wh : IntsAt w hv s.wh
  vs : IssAt w vv s.vs
theorem AtomsAt.later {w w' : World} {fv hv vv : Value} {s : Ats} (h : AtomsAt w fv hv vv s) (hx : Ext w w') : AtomsAt w' fv hv vv s := ⟨h.fr.later hx, h.wh.later hx, h.vs.later hx⟩
/-- The rows of vectors, the call's own, none of them in the block of the places. -/
def RowsO (w : World) (B : Nat) (hv vv : Value) (vs : List (List Int)) : Prop :=
  ∃ vals : List Value, w.ownsRow B 27 1 vv vs.length vals ∧ ∀ (i : Nat) (u : List Int), vs[i]? = some u → ∃ x, vals[i]? = some x ∧ OwnI w B x u ∧ ∀ g, hv.ownBlock = some g → x.ownBlock ≠ some g
structure AtS (w : World) (B : Nat) (s : Ats) (fv hv vv : Value) : Prop where
  fr : OwnU w B fv s.fr
  wh : OwnI w B hv s.wh
  rows : RowsO w B hv vv s.vs
theorem own_keep {w w' : World} {B : Nat} {e : TypeId} {z : Nat} {v : Value} {n : Nat} {xs : List Value} (h : w.ownsRow B e z v n xs) (hs : ∀ g, v.ownBlock = some g → w'.heap[g]? = w.heap[g]?) : w'.ownsRow B e z v n xs := by
  obtain ⟨h0, h1⟩ := h
  refine ⟨h0, ?_⟩
  rcases h1 with h1 | ⟨g, cap, cur, rfl, h2, h3, h4⟩
  · exact .inl h1
  · exact .inr ⟨g, cap, cur, rfl, h2, by rw [hs g rfl]; exact h3, h4⟩
theorem own_cells {w : World} {B : Nat} {e : TypeId} {z : Nat} {v : Value} {n : Nat} {xs : List Value} (h : w.ownsRow B e z v n xs) {g : Nat} (hg : v.ownBlock = some g) : B ≤ g ∧ g < w.heap.size ∧ ∃ cur, w.heap[g]? = some (.cells cur e (0, 0)) := by
  obtain ⟨h0, h1⟩ := h
  rcases h1 with ⟨rfl, _⟩ | ⟨g', cap, cur, rfl, h2, h3, h4⟩
  · cases hg
  · simp only [Value.ownBlock, Option.some.injEq] at hg
    subst hg
    refine ⟨h2, ?_, cur, h3⟩
    rcases Nat.lt_or_ge g' w.heap.size with h' | h'
    · exact h'
    · rw [Array.getElem?_eq_none h'] at h3; cases h3
/-- A map's turn leaves all rows as they were. -/
theorem own_mapped {w w' : World} {B : Nat} {e : TypeId} {z : Nat} {v : Value} {n : Nat} {xs : List Value} {H : Type} {P : Program} {k : TypeId} {R : Value → Option (DataW H × List MemPlace)} {mb m : Nat} {D : DataW H}
    (h : w.ownsRow B e z v n xs) (hm : w.ownsMap P k R mb m D) (hg : w.grownBy w' (some mb)) : w'.ownsRow B e z v n xs := by
  refine own_keep h fun g hv => ?_
  obtain ⟨_, hlt, cur, hc⟩ := own_cells h hv
  refine hg.block g hlt fun e => ?_
  cases e
  obtain ⟨es, clock, hb, _⟩ := hm
  rw [hc] at hb; cases hb
theorem AtS.later {w w' : World} {B : Nat} {s : Ats} {fv hv vv : Value} (h : AtS w B s fv hv vv) (hx : Ext w w') : AtS w' B s fv hv vv := by
  obtain ⟨vals, h1, h2⟩ := h.rows
  exact ⟨own_later h.fr hx, own_later h.wh hx, vals, own_later h1 hx, fun i u hi => let ⟨x, g1, g2, g3⟩ := h2 i u hi; ⟨x, g1, own_later g2 hx, g3⟩⟩
theorem AtS.mapped {w w' : World} {B : Nat} {s : Ats} {fv hv vv : Value} {H : Type} {P : Program} {k : TypeId} {R : Value → Option (DataW H × List MemPlace)} {mb m : Nat} {D : DataW H} (h : AtS w B s fv hv vv)
    (hm : w.ownsMap P k R mb m D) (hg : w.grownBy w' (some mb)) : AtS w' B s fv hv vv := by
  obtain ⟨vals, h1, h2⟩ := h.rows
  exact ⟨own_mapped h.fr hm hg, own_mapped h.wh hm hg, vals, own_mapped h1 hm hg, fun i u hi => let ⟨x, g1, g2, g3⟩ := h2 i u hi; ⟨x, g1, own_mapped g2 hm hg, g3⟩⟩
theorem AtS.setCell {w : World} {B : Nat} {s : Ats} {fv hv vv : Value} (h : AtS w B s fv hv vv) {p : Addr} (hp : p.block < B) (x : Value) : AtS (w.setCell p x) B s fv hv vv := by
  obtain ⟨vals, h1, h2⟩ := h.rows
  exact ⟨own_set h.fr hp x, own_set h.wh hp x, vals, own_set h1 hp x, fun i u hi => let ⟨y, g1, g2, g3⟩ := h2 i u hi; ⟨y, g1, own_set g2 hp x, g3⟩⟩
theorem AtS.at {w : World} {B : Nat} {s : Ats} {fv hv vv : Value} (h : AtS w B s fv hv vv) : AtomsAt w fv hv vv s := by
  obtain ⟨vals, h1, h2⟩ := h.rows
  exact ⟨h.fr.us, h.wh.ints, vals, Reads.of_own h1, fun i u hi => let ⟨x, g1, g2, _⟩ := h2 i u hi; ⟨x, g1, g2.ints⟩⟩
theorem AtS.nil (w : World) (B : Nat) : AtS w B Ats.nil (.slice none 0 0) (.slice none 0 0) (.slice none 0 0) :=
  ⟨⟨rfl, .inl ⟨rfl, rfl⟩⟩, ⟨rfl, .inl ⟨rfl, rfl⟩⟩, [], ⟨rfl, .inl ⟨rfl, rfl⟩⟩, fun i l h => by cases h⟩
/-- Another begin. -/
theorem AtS.addFr {w w' : World} {B : Nat} {s : Ats} {fv hv vv v' : Value} {a : BitVec 32} (h : AtS w B s fv hv vv) (ho : w'.ownsRow B 26 1 v' (s.fr.length + 1) (ucells s.fr ++ [U a])) (hg : w.grownBy w' fv.ownBlock) :
    AtS w' B ⟨s.fr ++ [a], s.wh, s.vs⟩ v' hv vv := by
  obtain ⟨vals, h1, h2⟩ := h.rows
  refine ⟨?_, own_apart h.wh h.fr (by decide) hg, vals, own_apart h1 h.fr (by decide) hg, fun i u hi => let ⟨x, g1, g2, g3⟩ := h2 i u hi; ⟨x, g1, own_apart g2 h.fr (by decide) hg, g3⟩⟩
  unfold OwnU
  rw [List.length_append, ucells_app]
  exact ho
/-- Another place. -/
theorem AtS.addWh {w w' : World} {B : Nat} {s : Ats} {fv hv vv v' : Value} {k : Int} (h : AtS w B s fv hv vv) (ho : w'.ownsRow B 3 1 v' (s.wh.length + 1) (icells s.wh ++ [I k])) (hg : w.grownBy w' hv.ownBlock)
    (hloc : v'.ownBlock = hv.ownBlock ∨ v'.ownBlock = some w.heap.size) : AtS w' B ⟨s.fr, s.wh ++ [k], s.vs⟩ fv v' vv := by
  obtain ⟨vals, h1, h2⟩ := h.rows
  refine ⟨own_apart h.fr h.wh (by decide) hg, ?_, vals, own_apart h1 h.wh (by decide) hg, fun i u hi => ?_⟩
  · unfold OwnI
    rw [List.length_append, icells_app]
    exact ho
  · obtain ⟨x, g1, g2, g3⟩ := h2 i u hi
    refine ⟨x, g1, own_keep g2 fun g hx => ?_, fun g hg' hx => ?_⟩
    · refine hg.block g (own_cells g2 hx).2.1 fun e => ?_
      exact g3 g e.symm hx
    · have hlt := (own_cells g2 hx).2.1
      rcases hloc with e | e
      · exact g3 g (by rw [← e]; exact hg') hx
      · rw [e] at hg'; simp at hg'; omega
/-- Another vector. -/
theorem AtS.addVs' {w w' : World} {B : Nat} {s : Ats} {fv hv vv v' y : Value} {u : List Int} {vals : List Value} (h : AtS w B s fv hv vv) (hy : OwnI w B y u) (hfar : ∀ g, hv.ownBlock = some g → y.ownBlock ≠ some g)
    (h1 : w.ownsRow B 27 1 vv s.vs.length vals) (h2 : ∀ (i : Nat) (m : List Int), s.vs[i]? = some m → ∃ x, vals[i]? = some x ∧ OwnI w B x m ∧ ∀ g, hv.ownBlock = some g → x.ownBlock ≠ some g)
    (ho : w'.ownsRow B 27 1 v' (s.vs.length + 1) (vals ++ [y])) (hg : w.grownBy w' vv.ownBlock) : AtS w' B ⟨s.fr, s.wh, s.vs ++ [u]⟩ fv hv v' := by
  have hlen : vals.length = s.vs.length := by have := h1.1; simpa using this
  refine ⟨own_apart h.fr h1 (by decide) hg, own_apart h.wh h1 (by decide) hg, vals ++ [y], by rw [List.length_append]; exact ho, fun i m hi => ?_⟩
  rcases snoc_get hi with hi | ⟨rfl, rfl⟩
  · obtain ⟨x, q1, q2, q3⟩ := h2 i m hi
    have hil := (List.getElem?_eq_some_iff.1 hi).1
    exact ⟨x, by rw [List.getElem?_append_left (by omega)]; exact q1, own_apart q2 h1 (by decide) hg, q3⟩
  · exact ⟨y, by rw [List.getElem?_append_right (by omega), hlen]; simp, own_apart hy h1 (by decide) hg, hfar⟩
end Go.Proofs.Ytpfkfboohblgoaa
