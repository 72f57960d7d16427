/- Inside, InsideL, Part, Points: these texts in one. Conditions: each part names its own. -/
import Derived.Test.YtfldjlibnjgdaaaGCuts
import Derived.Test.YtfldjlibnjgdaaaGNetP
import Derived.Test.YtfldjlibnjgdaaaGNet
import Derived.Laws.OwnMore
/- The cuts within bounds, by the program and by the reference; a network's cuts by the reference. Conditions: whole numbers are within 64 bits; no more rows than the proved part takes. -/
namespace Go.Proofs.Ytfldjlibnjgdaaa
open Go.RowKit

def insB (lo hi c : BitVec 32) : Bool := decide (uv lo < uv c) && decide (uv c ≤ uv hi)
def insideV (l : List (BitVec 32)) (lo hi : BitVec 32) : List (BitVec 32) := lo :: l.filter (insB lo hi)
theorem insideV_in {l : List (BitVec 32)} {lo hi : BitVec 32} {k : Nat} (h : k < l.length) (hb : insB lo hi l[k] = true) : insideV (l.take (k + 1)) lo hi = insideV (l.take k) lo hi ++ [l[k]] := by
  unfold insideV
  rw [List.take_succ_eq_append_getElem h, List.filter_append, List.cons_append]
  simp [hb]
theorem insideV_out {l : List (BitVec 32)} {lo hi : BitVec 32} {k : Nat} (h : k < l.length) (hb : insB lo hi l[k] = false) : insideV (l.take (k + 1)) lo hi = insideV (l.take k) lo hi := by
  unfold insideV
  rw [List.take_succ_eq_append_getElem h, List.filter_append]
  simp [hb]
theorem insideV_len (l : List (BitVec 32)) (lo hi : BitVec 32) : (insideV l lo hi).length ≤ l.length + 1 := by
  unfold insideV
  rw [List.length_cons]
  have := List.length_filter_le (insB lo hi) l
  omega
theorem insideV_all {l : List (BitVec 32)} {lo hi : BitVec 32} {k : Nat} (h : l.length ≤ k) : insideV (l.take k) lo hi = insideV l lo hi := by rw [List.take_of_length_le h]
theorem own1_at {w : World} (x : BitVec 32) : OwnU (w.alloc (.cells #[U x] 28)) w.heap.size (.slice (some ⟨w.heap.size, 0, none⟩) 1 1) [x] := ownU_made w [x] (by unfold maxLen; simp)
theorem one_U (x : BitVec 32) : ∀ u ∈ [U x], u.oneCell' = true := ucells_one [x]
/-- A rising row of these numbers. -/
def CutsS (S : List Int) (l : List (BitVec 32)) : Prop := Rising l ∧ ∀ c : BitVec 32, c ∈ l ↔ uv c ∈ S
theorem CutsS.put {S : List Int} {l : List (BitVec 32)} (h : CutsS S l) (x : BitVec 32) : CutsS (S ++ [uv x]) (putC l x) :=
  ⟨putC_rising h.1 x, fun c => by
    rw [putC_mem, h.2, List.mem_append, List.mem_singleton]
    exact ⟨fun g => g.imp id (congrArg uv), fun g => g.imp id uv_inj⟩⟩
theorem CutsS.len {S : List Int} {l : List (BitVec 32)} (h : CutsS S l) : l.length ≤ S.length := by
  have := len_sub (l.map uv) S h.1.nodup fun x hx => by
    obtain ⟨c, hc, rfl⟩ := List.mem_map.1 hx
    exact (h.2 c).1 hc
  simpa using this
theorem CutsS.start : CutsS (cutI []) [0#32] := ⟨by simp [Rising], fun c => by
  simp only [cutI, List.flatMap_nil, List.mem_singleton]
  exact ⟨fun h => by rw [h]; rfl, fun h => uv_inj (by rw [h]; rfl)⟩⟩
end Go.Proofs.Ytfldjlibnjgdaaa

/- Plain laws of the cuts within bounds. Conditions: none. -/
namespace Go.Proofs.Ytfldjlibnjgdaaa
open Go.RowKit

theorem rising_ext {a b : List (BitVec 32)} (ha : Rising a) (hb : Rising b) (h : ∀ c, c ∈ a ↔ c ∈ b) : a = b :=
  List.Perm.eq_of_pairwise (le := fun x y => uv x < uv y) (fun x y _ _ h1 h2 => by omega) ha hb
    ((List.perm_ext_iff_of_nodup (ha.imp (fun {x y} h e => by subst e; omega)) (hb.imp (fun {x y} h e => by subst e; omega))).2 h)
theorem insB_iff {lo hi c : BitVec 32} : insB lo hi c = true ↔ uv lo < uv c ∧ uv c ≤ uv hi := by
  unfold insB; rw [Bool.and_eq_true, decide_eq_true_iff, decide_eq_true_iff]
theorem inside_mem {l : List (BitVec 32)} {lo hi c : BitVec 32} : c ∈ insideV l lo hi ↔ c = lo ∨ (c ∈ l ∧ uv lo < uv c ∧ uv c ≤ uv hi) := by
  unfold insideV; rw [List.mem_cons, List.mem_filter, insB_iff]
theorem inside_rising {l : List (BitVec 32)} (hr : Rising l) (lo hi : BitVec 32) : Rising (insideV l lo hi) := by
  unfold insideV Rising
  rw [List.pairwise_cons]
  refine ⟨fun c hc => ?_, hr.sublist List.filter_sublist⟩
  rw [List.mem_filter, insB_iff] at hc
  exact hc.2.1
theorem rising_app {a b : List (BitVec 32)} (ha : Rising a) (hb : Rising b) (h : ∀ x ∈ a, ∀ y ∈ b, uv x < uv y) : Rising (a ++ b) := List.pairwise_append.2 ⟨ha, hb, h⟩
theorem uv_dec {x : BitVec 32} (h : 0 < uv x) : uv (x - 1#32) = uv x - 1 := uv_pred h
theorem inside_bd {l : List (BitVec 32)} {lo hi c : BitVec 32} (h : uv lo ≤ uv hi) (hc : c ∈ insideV l lo hi) : uv lo ≤ uv c ∧ uv c ≤ uv hi := by
  rcases inside_mem.1 hc with rfl | ⟨_, h1, h2⟩
  · exact ⟨Int.le_refl _, h⟩
  · exact ⟨Int.le_of_lt h1, h2⟩
/-- A part cut in two. -/
theorem inside_split {l : List (BitVec 32)} (hr : Rising l) {lo mid hi : BitVec 32} (h1 : uv lo < uv mid) (h2 : uv mid ≤ uv hi) :
    (mid ∈ l → insideV l lo hi = insideV l lo (mid - 1#32) ++ insideV l mid hi) ∧ (mid ∉ l → insideV l lo hi = insideV l lo (mid - 1#32) ++ (insideV l mid hi).tail) := by
  have hb := uv_bd lo
  have hd := uv_dec (x := mid) (by omega)
  have hA := inside_rising hr lo hi
  have hB := inside_rising hr lo (mid - 1#32)
  have hC := inside_rising hr mid hi
  have hlow : ∀ x ∈ insideV l lo (mid - 1#32), uv x < uv mid := fun x hx => by have := inside_bd (by omega) hx; omega
  have htail : ∀ c, c ∈ (insideV l mid hi).tail ↔ c ∈ l ∧ uv mid < uv c ∧ uv c ≤ uv hi := fun c => by
    unfold insideV; rw [List.tail_cons, List.mem_filter, insB_iff]
  refine ⟨fun hm => ?_, fun hm => ?_⟩
  · refine rising_ext hA (rising_app hB hC fun x hx y hy => ?_) fun c => ?_
    · have g1 := hlow x hx
      have g2 := (inside_bd h2 hy).1
      omega
    · rw [List.mem_append, inside_mem, inside_mem, inside_mem, hd]
      constructor
      · rintro (h | ⟨h, g1, g2⟩)
        · exact .inl (.inl h)
        · rcases Int.lt_trichotomy (uv c) (uv mid) with q | q | q
          · exact .inl (.inr ⟨h, g1, by omega⟩)
          · exact .inr (.inl (uv_inj q))
          · exact .inr (.inr ⟨h, q, g2⟩)
      · rintro ((h | ⟨h, g1, g2⟩) | (h | ⟨h, g1, g2⟩))
        · exact .inl h
        · exact .inr ⟨h, g1, by omega⟩
        · rw [h]; exact .inr ⟨hm, h1, h2⟩
        · exact .inr ⟨h, by omega, g2⟩
  · refine rising_ext hA (rising_app hB (hC.sublist (List.tail_sublist _)) fun x hx y hy => ?_) fun c => ?_
    · have g1 := hlow x hx
      have g2 := (htail y).1 hy
      omega
    · rw [List.mem_append, inside_mem, inside_mem, htail, hd]
      constructor
      · rintro (h | ⟨h, g1, g2⟩)
        · exact .inl (.inl h)
        · rcases Int.lt_trichotomy (uv c) (uv mid) with q | q | q
          · exact .inl (.inr ⟨h, g1, by omega⟩)
          · exact absurd (uv_inj q ▸ h) hm
          · exact .inr ⟨h, q, g2⟩
      · rintro ((h | ⟨h, g1, g2⟩) | ⟨h, g1, g2⟩)
        · exact .inl h
        · exact .inr ⟨h, g1, by omega⟩
        · exact .inr ⟨h, by omega, g2⟩
/-- Three numbers: the least, the greatest, and the other one. -/
theorem three_order (x y z : BitVec 32) : ∃ lo hi md : BitVec 32, min (uv x) (min (uv y) (uv z)) = uv lo ∧ max (uv x) (max (uv y) (uv z)) = uv hi ∧ x ^^^ y ^^^ z ^^^ lo ^^^ hi = md ∧ uv lo ≤ uv md ∧ uv md ≤ uv hi := by
  have hx : ∀ (a b c : Bool), ((((a ^^ b) ^^ c) ^^ a) ^^ c) = b ∧ ((((a ^^ b) ^^ c) ^^ a) ^^ b) = c ∧ ((((a ^^ b) ^^ c) ^^ c) ^^ b) = a ∧ ((((a ^^ b) ^^ c) ^^ b) ^^ c) = a ∧ ((((a ^^ b) ^^ c) ^^ b) ^^ a) = c ∧ ((((a ^^ b) ^^ c) ^^ c) ^^ a) = b := by decide
  have e1 : x ^^^ y ^^^ z ^^^ x ^^^ z = y := BitVec.eq_of_getLsbD_eq fun i _ => by simp only [BitVec.getLsbD_xor]; exact (hx _ _ _).1
  have e2 : x ^^^ y ^^^ z ^^^ x ^^^ y = z := BitVec.eq_of_getLsbD_eq fun i _ => by simp only [BitVec.getLsbD_xor]; exact (hx _ _ _).2.1
  have e3 : x ^^^ y ^^^ z ^^^ z ^^^ y = x := BitVec.eq_of_getLsbD_eq fun i _ => by simp only [BitVec.getLsbD_xor]; exact (hx _ _ _).2.2.1
  have e4 : x ^^^ y ^^^ z ^^^ y ^^^ z = x := BitVec.eq_of_getLsbD_eq fun i _ => by simp only [BitVec.getLsbD_xor]; exact (hx _ _ _).2.2.2.1
  have e5 : x ^^^ y ^^^ z ^^^ y ^^^ x = z := BitVec.eq_of_getLsbD_eq fun i _ => by simp only [BitVec.getLsbD_xor]; exact (hx _ _ _).2.2.2.2.1
  have e6 : x ^^^ y ^^^ z ^^^ z ^^^ x = y := BitVec.eq_of_getLsbD_eq fun i _ => by simp only [BitVec.getLsbD_xor]; exact (hx _ _ _).2.2.2.2.2
  rcases Int.le_total (uv x) (uv y) with h1 | h1 <;> rcases Int.le_total (uv y) (uv z) with h2 | h2
  · exact ⟨x, z, y, by omega, by omega, e1, h1, h2⟩
  · rcases Int.le_total (uv x) (uv z) with h3 | h3
    · exact ⟨x, y, z, by omega, by omega, e2, h3, h2⟩
    · exact ⟨z, y, x, by omega, by omega, e3, h3, h1⟩
  · rcases Int.le_total (uv x) (uv z) with h3 | h3
    · exact ⟨y, z, x, by omega, by omega, e4, h1, h3⟩
    · exact ⟨y, x, z, by omega, by omega, e5, h2, h3⟩
  · exact ⟨z, x, y, by omega, by omega, e6, h2, h1⟩
end Go.Proofs.Ytfldjlibnjgdaaa

/- Parts in memory, and rows of rows of numbers of 32 bits. Conditions: none. -/
namespace Go.Proofs.Ytfldjlibnjgdaaa
open Go.RowKit

/-- A part: where it begins, where it ends, and the slice of its ranks. -/
structure Prt where
  fr : BitVec 32
  up : BitVec 32
  ra : Option Addr
  rn : Nat
  rc : Nat
abbrev Prt.rk (p : Prt) : Value := .slice p.ra p.rn p.rc
def Prt.cells (p : Prt) : List Value := [U p.fr, U p.up, p.rk]
abbrev Prt.val (p : Prt) : Value := .agg #[U p.fr, U p.up, p.rk]
def pcells (l : List Prt) : List Value := l.flatMap Prt.cells
theorem pcells_len (l : List Prt) : (pcells l).length = l.length * 3 := flat_len _ 3 (fun _ => rfl) l
theorem pcells_app (a b : List Prt) : pcells (a ++ b) = pcells a ++ pcells b := List.flatMap_append
theorem pcells_one (l : List Prt) : ∀ u ∈ pcells l, u.oneCell' = true := by
  intro u hu
  obtain ⟨r, _, hr⟩ := List.mem_flatMap.1 hu
  simp only [Prt.cells, List.mem_cons, List.not_mem_nil, or_false] at hr
  rcases hr with rfl | rfl | rfl <;> rfl
def PartsAt (w : World) (v : Value) (l : List Prt) : Prop := Reads w 3 v l.length (pcells l)
def OwnP (w : World) (B : Nat) (v : Value) (l : List Prt) : Prop := w.ownsRow B 37 3 v l.length (pcells l)
theorem PartsAt.later {w w' : World} {v : Value} {l : List Prt} (h : PartsAt w v l) (hx : Ext w w') : PartsAt w' v l := Reads.later h hx
theorem OwnP.later {w w' : World} {B : Nat} {v : Value} {l : List Prt} (h : OwnP w B v l) (hx : Ext w w') : OwnP w' B v l := own_later h hx
theorem OwnP.parts {w : World} {B : Nat} {v : Value} {l : List Prt} (h : OwnP w B v l) : PartsAt w v l := Reads.of_own h
theorem PartsAt.form {w : World} {v : Value} {l : List Prt} (h : PartsAt w v l) :
  ∃ a cap, v = .slice a l.length cap ∧ l.length ≤ cap ∧ cap ≤ maxLen ∧ ∀ (i : Nat) (r : Prt), l[i]? = some r → ∃ b off, a = some ⟨b, off, none⟩ ∧
    w.cell? ⟨b, off + i * 3, none⟩ = some (U r.fr) ∧ w.cell? ⟨b, off + i * 3 + 1, none⟩ = some (U r.up) ∧ w.cell? ⟨b, off + i * 3 + 2, none⟩ = some r.rk := by
  obtain ⟨h0, a, cap, h1, h2, h3, h4, h5⟩ := h
  refine ⟨a, cap, h1, h2, h3, fun i r hi => ?_⟩
  have hil := (List.getElem?_eq_some_iff.1 hi).1
  cases a with
  | none => have := h4 rfl; omega
  | some b =>
    obtain ⟨e1, e2⟩ := h5 b rfl
    replace e1 : b.spot = none := by
      rcases e1 with e1 | e1
      · exact e1
      · have := pcells_len l; rw [e1] at this; simp at this; omega
    have g : ∀ k, k < 3 → (pcells l)[i * 3 + k]? = r.cells[k]? := fun k hk => flat_get Prt.cells 3 (fun _ => rfl) l i k r hi hk
    obtain ⟨bb, bo, bs⟩ := b
    simp only at e1
    subst e1
    refine ⟨bb, bo, rfl, ?_, ?_, ?_⟩
    · have := e2 (i * 3 + 0) (U r.fr) (by rw [g 0 (by omega)]; rfl); simpa using this
    · have := e2 (i * 3 + 1) (U r.up) (by rw [g 1 (by omega)]; rfl); simpa [Nat.add_assoc] using this
    · have := e2 (i * 3 + 2) r.rk (by rw [g 2 (by omega)]; rfl); simpa [Nat.add_assoc] using this
theorem parts_one (w : World) (p : Prt) : PartsAt (w.alloc (.cells #[U p.fr, U p.up, p.rk] 37)) (.slice (some ⟨w.heap.size, 0, none⟩) 1 1) [p] :=
  Reads.made w 3 37 1 p.cells rfl (by unfold maxLen; omega)
theorem parts_nil (w : World) : PartsAt w (.slice none 0 0) [] := Reads.nil w 3

/-- A row of rows, read; and one of the call's own, its rows too. -/
def UUsAt (w : World) (v : Value) (ls : List (List (BitVec 32))) : Prop :=
  ∃ vs : List Value, Reads w 1 v ls.length vs ∧ ∀ (i : Nat) (l : List (BitVec 32)), ls[i]? = some l → ∃ u, vs[i]? = some u ∧ UsAt w u l
def OwnUU (w : World) (B : Nat) (v : Value) (ls : List (List (BitVec 32))) : Prop :=
  ∃ vs : List Value, w.ownsRow B 40 1 v ls.length vs ∧ ∀ (i : Nat) (l : List (BitVec 32)), ls[i]? = some l → ∃ u, vs[i]? = some u ∧ OwnU w B u l
theorem UUsAt.later {w w' : World} {v : Value} {ls : List (List (BitVec 32))} (h : UUsAt w v ls) (hx : Ext w w') : UUsAt w' v ls :=
  let ⟨vs, h1, h2⟩ := h
  ⟨vs, h1.later hx, fun i l hi => let ⟨u, g1, g2⟩ := h2 i l hi; ⟨u, g1, g2.later hx⟩⟩
theorem UUsAt.nil (w : World) : UUsAt w (.slice none 0 0) [] := ⟨[], Reads.nil w 1, fun i l h => by cases h⟩
theorem UUsAt.form {w : World} {v : Value} {ls : List (List (BitVec 32))} (h : UUsAt w v ls) :
    ∃ a cap, v = .slice a ls.length cap ∧ ls.length ≤ cap ∧ cap ≤ maxLen ∧ ∀ (i : Nat) (l : List (BitVec 32)), ls[i]? = some l → ∃ b off u, a = some ⟨b, off, none⟩ ∧ w.cell? ⟨b, off + i, none⟩ = some u ∧ UsAt w u l := by
  obtain ⟨vs, ⟨h0, a, cap, h1, h2, h3, h4, h5⟩, hv⟩ := h
  refine ⟨a, cap, h1, h2, h3, fun i l hi => ?_⟩
  have hil := (List.getElem?_eq_some_iff.1 hi).1
  obtain ⟨u, g1, g2⟩ := hv i l hi
  cases a with
  | none => have := h4 rfl; omega
  | some b =>
    obtain ⟨e1, e2⟩ := h5 b rfl
    replace e1 : b.spot = none := by
      rcases e1 with e1 | e1
      · exact e1
      · rw [e1] at g1; cases g1
    obtain ⟨bb, bo, bs⟩ := b
    simp only at e1
    subst e1
    exact ⟨bb, bo, u, rfl, e2 i u g1, g2⟩
theorem OwnUU.nil (w : World) (B : Nat) : OwnUU w B (.slice none 0 0) [] := ⟨[], ⟨by simp, .inl ⟨rfl, rfl⟩⟩, fun i l h => by cases h⟩
theorem OwnUU.later {w w' : World} {B : Nat} {v : Value} {ls : List (List (BitVec 32))} (h : OwnUU w B v ls) (hx : Ext w w') : OwnUU w' B v ls :=
  let ⟨vs, h1, h2⟩ := h
  ⟨vs, own_later h1 hx, fun i l hi => let ⟨u, g1, g2⟩ := h2 i l hi; ⟨u, g1, own_later g2 hx⟩⟩
theorem OwnUU.low {w : World} {B B' : Nat} {v : Value} {ls : List (List (BitVec 32))} (h : OwnUU w B v ls) (hB : B' ≤ B) : OwnUU w B' v ls :=
  let ⟨vs, h1, h2⟩ := h
  ⟨vs, own_low h1 hB, fun i l hi => let ⟨u, g1, g2⟩ := h2 i l hi; ⟨u, g1, own_low g2 hB⟩⟩
theorem OwnUU.read {w : World} {B : Nat} {v : Value} {ls : List (List (BitVec 32))} (h : OwnUU w B v ls) : UUsAt w v ls :=
  let ⟨vs, h1, h2⟩ := h
  ⟨vs, Reads.of_own h1, fun i l hi => let ⟨u, g1, g2⟩ := h2 i l hi; ⟨u, g1, g2.us⟩⟩
theorem OwnUU.app {w w' : World} {B : Nat} {v v' u : Value} {ls : List (List (BitVec 32))} {l : List (BitVec 32)} {vs : List Value} (hown : w.ownsRow B 40 1 v ls.length vs)
    (hvs : ∀ (i : Nat) (l : List (BitVec 32)), ls[i]? = some l → ∃ u, vs[i]? = some u ∧ OwnU w B u l)
    (ho : w'.ownsRow B 40 1 v' (ls.length + 1) (vs ++ [u])) (hg : w.grownBy w' v.ownBlock) (hu : OwnU w B u l) : OwnUU w' B v' (ls ++ [l]) := by
  have hlen : vs.length = ls.length := by have := hown.1; simpa using this
  refine ⟨vs ++ [u], by rw [List.length_append]; exact ho, fun i m hi => ?_⟩
  rcases snoc_get hi with hi | ⟨rfl, rfl⟩
  · obtain ⟨q, q1, q2⟩ := hvs i m hi
    have hil := (List.getElem?_eq_some_iff.1 hi).1
    exact ⟨q, by rw [List.getElem?_append_left (by omega)]; exact q1, own_apart q2 hown (by decide) hg⟩
  · exact ⟨u, by rw [List.getElem?_append_right (by omega), hlen]; simp, own_apart hu hown (by decide) hg⟩
theorem infoU32s : (Try.prog.info? 40).map (fun i => (i.zero, i.size, i.bytes)) = some (some (.slice none 0 0), 1, 24) := by kernel_rfl
theorem usAt_slice {w : World} {v : Value} {l : List (BitVec 32)} (h : UsAt w v l) : ∃ a cap, v = .slice a l.length cap := let ⟨a, cap, h1, _⟩ := h.form; ⟨a, cap, h1⟩
end Go.Proofs.Ytfldjlibnjgdaaa

/- The points of parts, by the program. Conditions: whole numbers are within 64 bits; no more rules and parts than the proved part takes. -/
namespace Go.Proofs.Ytfldjlibnjgdaaa
open Go.RowKit

def pointsL (l : List (BitVec 32)) (ps : List Prt) : List (List (BitVec 32)) := ps.map fun p => insideV l p.fr p.up
theorem pointsL_len (l : List (BitVec 32)) (ps : List Prt) : (pointsL l ps).length = ps.length := List.length_map _
theorem pointsL_step {l : List (BitVec 32)} {ps : List Prt} {k : Nat} (h : k < ps.length) : pointsL l (ps.take (k + 1)) = pointsL l (ps.take k) ++ [insideV l ps[k].fr ps[k].up] := by
  unfold pointsL
  rw [List.take_succ_eq_append_getElem h, List.map_append]
  rfl
end Go.Proofs.Ytfldjlibnjgdaaa
