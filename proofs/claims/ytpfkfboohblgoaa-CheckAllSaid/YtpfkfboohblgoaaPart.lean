/- Parts in memory, and rows of rows of numbers of 32 bits. Conditions: none. -/
import Derived.Test.YtpfkfboohblgoaaGNetP
import Derived.Test.YtpfkfboohblgoaaGNet
namespace Go.Proofs.Ytpfkfboohblgoaa
open Go.RowKit

/-- A part: where it begins, where it ends, and the slice of its ranks. -/
structure Prt where
  fr : BitVec 32
  up : BitVec 32
  ra : Option Addr
  rn : Nat
  rc : Nat
abbrev Prt.rk (p : Prt) : Value := .slice p.ra p.rn p.rc
def Prt.cells (p : Prt) : List Value := [U p.fr, U p.up, p.rk]
abbrev Prt.val (p : Prt) : Value := .agg #[U p.fr, U p.up, p.rk]
def pcells (l : List Prt) : List Value := l.flatMap Prt.cells
theorem pcells_len (l : List Prt) : (pcells l).length = l.length * 3 := flat_len _ 3 (fun _ => rfl) l
theorem pcells_app (a b : List Prt) : pcells (a ++ b) = pcells a ++ pcells b := List.flatMap_append
theorem pcells_one (l : List Prt) : ∀ u ∈ pcells l, u.oneCell' = true := by
  intro u hu
  obtain ⟨r, _, hr⟩ := List.mem_flatMap.1 hu
  simp only [Prt.cells, List.mem_cons, List.not_mem_nil, or_false] at hr
  rcases hr with rfl | rfl | rfl <;> rfl
def PartsAt (w : World) (v : Value) (l : List Prt) : Prop := Reads w 3 v l.length (pcells l)
def OwnP (w : World) (B : Nat) (v : Value) (l : List Prt) : Prop := w.ownsRow B 35 3 v l.length (pcells l)
theorem PartsAt.later {w w' : World} {v : Value} {l : List Prt} (h : PartsAt w v l) (hx : Ext w w') : PartsAt w' v l := Reads.later h hx
theorem OwnP.later {w w' : World} {B : Nat} {v : Value} {l : List Prt} (h : OwnP w B v l) (hx : Ext w w') : OwnP w' B v l := own_later h hx
theorem OwnP.parts {w : World} {B : Nat} {v : Value} {l : List Prt} (h : OwnP w B v l) : PartsAt w v l := Reads.of_own h
theorem PartsAt.form {w : World} {v : Value} {l : List Prt} (h : PartsAt w v l) :
  ∃ a cap, v = .slice a l.length cap ∧ l.length ≤ cap ∧ cap ≤ maxLen ∧ ∀ (i : Nat) (r : Prt), l[i]? = some r → ∃ b off, a = some ⟨b, off, none⟩ ∧
    w.cell? ⟨b, off + i * 3, none⟩ = some (U r.fr) ∧ w.cell? ⟨b, off + i * 3 + 1, none⟩ = some (U r.up) ∧ w.cell? ⟨b, off + i * 3 + 2, none⟩ = some r.rk := by
  obtain ⟨h0, a, cap, h1, h2, h3, h4, h5⟩ := h
  refine ⟨a, cap, h1, h2, h3, fun i r hi => ?_⟩
  have hil := (List.getElem?_eq_some_iff.1 hi).1
  cases a with
  | none => have := h4 rfl; omega
  | some b =>
    obtain ⟨e1, e2⟩ := h5 b rfl
    replace e1 : b.spot = none := by
      rcases e1 with e1 | e1
      · exact e1
      · have := pcells_len l; rw [e1] at this; simp at this; omega
    have g : ∀ k, k < 3 → (pcells l)[i * 3 + k]? = r.cells[k]? := fun k hk => flat_get Prt.cells 3 (fun _ => rfl) l i k r hi hk
    obtain ⟨bb, bo, bs⟩ := b
    simp only at e1
    subst e1
    refine ⟨bb, bo, rfl, ?_, ?_, ?_⟩
    · have := e2 (i * 3 + 0) (U r.fr) (by rw [g 0 (by omega)]; rfl); simpa using this
    · have := e2 (i * 3 + 1) (U r.up) (by rw [g 1 (by omega)]; rfl); simpa [Nat.add_assoc] using this
    · have := e2 (i * 3 + 2) r.rk (by rw [g 2 (by omega)]; rfl); simpa [Nat.add_assoc] using this
theorem parts_one (w : World) (p : Prt) : PartsAt (w.alloc (.cells #[U p.fr, U p.up, p.rk] 35)) (.slice (some ⟨w.heap.size, 0, none⟩) 1 1) [p] :=
  Reads.made w 3 35 1 p.cells rfl (by unfold maxLen; omega)
theorem parts_nil (w : World) : PartsAt w (.slice none 0 0) [] := Reads.nil w 3

/-- A row of rows, read; and one of the call's own, its rows too. -/
def UUsAt (w : World) (v : Value) (ls : List (List (BitVec 32))) : Prop :=
  ∃ vs : List Value, Reads w 1 v ls.length vs ∧ ∀ (i : Nat) (l : List (BitVec 32)), ls[i]? = some l → ∃ u, vs[i]? = some u ∧ UsAt w u l
def OwnUU (w : World) (B : Nat) (v : Value) (ls : List (List (BitVec 32))) : Prop :=
  ∃ vs : List Value, w.ownsRow B 55 1 v ls.length vs ∧ ∀ (i : Nat) (l : List (BitVec 32)), ls[i]? = some l → ∃ u, vs[i]? = some u ∧ OwnU w B u l
theorem UUsAt.later {w w' : World} {v : Value} {ls : List (List (BitVec 32))} (h : UUsAt w v ls) (hx : Ext w w') : UUsAt w' v ls :=
  let ⟨vs, h1, h2⟩ := h
  ⟨vs, h1.later hx, fun i l hi => let ⟨u, g1, g2⟩ := h2 i l hi; ⟨u, g1, g2.later hx⟩⟩
theorem UUsAt.nil (w : World) : UUsAt w (.slice none 0 0) [] := ⟨[], Reads.nil w 1, fun i l h => by cases h⟩
theorem UUsAt.form {w : World} {v : Value} {ls : List (List (BitVec 32))} (h : UUsAt w v ls) :
    ∃ a cap, v = .slice a ls.length cap ∧ ls.length ≤ cap ∧ cap ≤ maxLen ∧ ∀ (i : Nat) (l : List (BitVec 32)), ls[i]? = some l → ∃ b off u, a = some ⟨b, off, none⟩ ∧ w.cell? ⟨b, off + i, none⟩ = some u ∧ UsAt w u l := by
  obtain ⟨vs, ⟨h0, a, cap, h1, h2, h3, h4, h5⟩, hv⟩ := h
  refine ⟨a, cap, h1, h2, h3, fun i l hi => ?_⟩
  have hil := (List.getElem?_eq_some_iff.1 hi).1
  obtain ⟨u, g1, g2⟩ := hv i l hi
  cases a with
  | none => have := h4 rfl; omega
  | some b =>
    obtain ⟨e1, e2⟩ := h5 b rfl
    replace e1 : b.spot = none := by
      rcases e1 with e1 | e1
      · exact e1
      · rw [e1] at g1; cases g1
    obtain ⟨bb, bo, bs⟩ := b
    simp only at e1
    subst e1
    exact ⟨bb, bo, u, rfl, e2 i u g1, g2⟩
theorem OwnUU.nil (w : World) (B : Nat) : OwnUU w B (.slice none 0 0) [] := ⟨[], ⟨by simp, .inl ⟨rfl, rfl⟩⟩, fun i l h => by cases h⟩
theorem OwnUU.later {w w' : World} {B : Nat} {v : Value} {ls : List (List (BitVec 32))} (h : OwnUU w B v ls) (hx : Ext w w') : OwnUU w' B v ls :=
  let ⟨vs, h1, h2⟩ := h
  ⟨vs, own_later h1 hx, fun i l hi => let ⟨u, g1, g2⟩ := h2 i l hi; ⟨u, g1, own_later g2 hx⟩⟩
theorem OwnUU.low {w : World} {B B' : Nat} {v : Value} {ls : List (List (BitVec 32))} (h : OwnUU w B v ls) (hB : B' ≤ B) : OwnUU w B' v ls :=
  let ⟨vs, h1, h2⟩ := h
  ⟨vs, own_low h1 hB, fun i l hi => let ⟨u, g1, g2⟩ := h2 i l hi; ⟨u, g1, own_low g2 hB⟩⟩
theorem OwnUU.read {w : World} {B : Nat} {v : Value} {ls : List (List (BitVec 32))} (h : OwnUU w B v ls) : UUsAt w v ls :=
  let ⟨vs, h1, h2⟩ := h
  ⟨vs, Reads.of_own h1, fun i l hi => let ⟨u, g1, g2⟩ := h2 i l hi; ⟨u, g1, g2.us⟩⟩
theorem OwnUU.app {w w' : World} {B : Nat} {v v' u : Value} {ls : List (List (BitVec 32))} {l : List (BitVec 32)} {vs : List Value} (hown : w.ownsRow B 55 1 v ls.length vs)
    (hvs : ∀ (i : Nat) (l : List (BitVec 32)), ls[i]? = some l → ∃ u, vs[i]? = some u ∧ OwnU w B u l)
    (ho : w'.ownsRow B 55 1 v' (ls.length + 1) (vs ++ [u])) (hg : w.grownBy w' v.ownBlock) (hu : OwnU w B u l) : OwnUU w' B v' (ls ++ [l]) := by
  have hlen : vs.length = ls.length := by have := hown.1; simpa using this
  refine ⟨vs ++ [u], by rw [List.length_append]; exact ho, fun i m hi => ?_⟩
  rcases snoc_get hi with hi | ⟨rfl, rfl⟩
  · obtain ⟨q, q1, q2⟩ := hvs i m hi
    have hil := (List.getElem?_eq_some_iff.1 hi).1
    exact ⟨q, by rw [List.getElem?_append_left (by omega)]; exact q1, own_apart q2 hown (by decide) hg⟩
  · exact ⟨u, by rw [List.getElem?_append_right (by omega), hlen]; simp, own_apart hu hown (by decide) hg⟩
theorem infoU32s : (Try.prog.info? 55).map (fun i => (i.zero, i.size, i.bytes)) = some (some (.slice none 0 0), 1, 24) := by kernel_rfl
theorem usAt_slice {w : World} {v : Value} {l : List (BitVec 32)} (h : UsAt w v l) : ∃ a cap, v = .slice a l.length cap := let ⟨a, cap, h1, _⟩ := h.form; ⟨a, cap, h1⟩
end Go.Proofs.Ytpfkfboohblgoaa
