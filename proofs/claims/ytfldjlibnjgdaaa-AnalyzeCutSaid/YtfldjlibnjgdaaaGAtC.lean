/- R16P, R16Of, R16OfG, AtomsAny, AtomsL: these texts in one. Conditions: each part names its own. -/
import Derived.Test.YtfldjlibnjgdaaaGAtA
import Derived.Test.YtfldjlibnjgdaaaGAtB
import Derived.Test.YtfldjlibnjgdaaaGIns
import Derived.Test.YtfldjlibnjgdaaaGVecC
import Derived.Test.YtfldjlibnjgdaaaGFit17
/- Plain laws for the reference's atoms. Conditions: none. -/
namespace Go.Proofs.Ytfldjlibnjgdaaa
open Go Go.RowKit Go.Maps Go.Proofs

theorem idxV_at {vs : List (List Int)} (hn : vs.Nodup) {j : Nat} (hj : j < vs.length) : idxV vs vs[j] = j := by
  have hm : vs[j] ∈ vs := List.getElem_mem hj
  have hlt := idxV_in.1 hm
  have he := idxV_get hlt
  exact (List.getElem_inj hn).1 he
/-- The vector of the last place. -/
def WasOk (s : Ats) (was : List Int) : Prop := ∃ j : Nat, s.last = (j : Int) ∧ s.vs[j]? = some was
theorem was_iff {s : Ats} (h : AtsOk s) {was : List Int} (hw : WasOk s was) (u : List Int) : u = was ↔ s.last = (idxV s.vs u : Int) := by
  obtain ⟨j, h1, h2⟩ := hw
  obtain ⟨hj, rfl⟩ := List.getElem?_eq_some_iff.1 h2
  rw [h1]
  constructor
  · rintro rfl
    rw [idxV_at h.nodup hj]
  · intro e
    have e' : idxV s.vs u = j := by omega
    have hlt : idxV s.vs u < s.vs.length := by omega
    have := idxV_get hlt
    simp only [e'] at this
    exact this.symm
theorem was_step {vec : BitVec 32 → List Int} {s : Ats} {a : BitVec 32} (h : s.last ≠ (idxV s.vs (vec a) : Int)) : WasOk (atStep vec s a) (vec a) := by
  unfold atStep
  rw [if_neg h]
  refine ⟨idxV s.vs (vec a), last_snoc _ _ _ _, ?_⟩
  by_cases hm : vec a ∈ s.vs
  · have hlt := idxV_in.1 hm
    simp only [if_pos hm]
    rw [List.getElem?_eq_getElem hlt, idxV_get hlt]
  · simp only [if_neg hm]
    rw [idxV_out hm]
    simp
/-- The search goes by where it is not, and stops where it is. -/
theorem idxV_next {vs : List (List Int)} {u : List Int} {k : Nat} (h : k ≤ idxV vs u) (hk : k < vs.length) (hne : vs[k] ≠ u) : k + 1 ≤ idxV vs u := by
  rcases Nat.lt_or_ge k (idxV vs u) with g | g
  · exact g
  · exfalso
    have e : idxV vs u = k := by omega
    have hlt : idxV vs u < vs.length := by omega
    have := idxV_get hlt
    simp only [e] at this
    exact hne this
theorem idxV_stop {vs : List (List Int)} (hn : vs.Nodup) {u : List Int} {k : Nat} (hk : k < vs.length) (he : vs[k] = u) : idxV vs u = k := by
  subst he; exact idxV_at hn hk
theorem cell_low {w : World} {p : Addr} {v : Value} (h : w.cell? p = some v) : p.block < w.heap.size := by
  rcases Nat.lt_or_ge p.block w.heap.size with g | g
  · exact g
  · simp [World.cell?, Array.getElem?_eq_none g] at h
end Go.Proofs.Ytfldjlibnjgdaaa

/- theseusref16.Of. Conditions: whole numbers are within 64 bits. -/
namespace Go.Proofs.Ytfldjlibnjgdaaa
open Go Go.RowKit Go.Maps Go.Proofs
end Go.Proofs.Ytfldjlibnjgdaaa

/- theseusref16.Of of a network that may be. Conditions: whole numbers are within 64 bits. -/
namespace Go.Proofs.Ytfldjlibnjgdaaa
open Go Go.RowKit Go.Maps Go.Proofs
end Go.Proofs.Ytfldjlibnjgdaaa

/- atoms.Of and theseusref16.Of of any network. Conditions: whole numbers are within 64 bits. -/
namespace Go.Proofs.Ytfldjlibnjgdaaa
open Go Go.RowKit Go.Maps Go.Proofs

/-- These are a network's atoms: none, if it may not be. -/
def IsAts (ls : List (List Rul)) (s : Ats) : Prop := (netMayV ls = 0 ∧ ∃ l, Cuts ls.flatten l ∧ s = atomsL (vecV ls) l) ∨ (netMayV ls ≠ 0 ∧ s = Ats.nil)
theorem IsAts.one {ls : List (List Rul)} {s s' : Ats} (h : IsAts ls s) (h' : IsAts ls s') : s = s' := by
  rcases h with ⟨h0, l, hC, rfl⟩ | ⟨h0, rfl⟩
  · rcases h' with ⟨_, l', hC', rfl⟩ | ⟨h1, _⟩
    · rw [Cuts.at hC hC']
    · exact absurd h0 h1
  · rcases h' with ⟨h1, _⟩ | ⟨_, rfl⟩
    · exact absurd h1 h0
    · rfl
theorem ats_nil_at (w : World) : AtomsAt w sNil sNil sNil Ats.nil := (AtS.nil w 0).at
theorem atomsOf_any (lv : Value) (ls : List (List Rul)) (w : World) (hl : TablesAt w lv ls) (hok : TablesOk ls) (hs : sizeN ls ≤ 100000000) :
    Calls Try.prog 12 #[.agg #[lv]] w fun e w' => ∃ fv hv vv s, e = .returned (.tuple #[.agg #[fv, hv, vv], I (netMayV ls)]) ∧ AtomsAt w' fv hv vv s ∧ IsAts ls s ∧ Ext w w' := by
  by_cases hm : netMayV ls = 0
  · refine (atomsOf_good lv ls w hl hok hm).mono ?_
    rintro e w' ⟨fv, hv, vv, l, he, hC, hA, hx⟩
    exact ⟨fv, hv, vv, _, by rw [he, hm], hA, .inl ⟨hm, l, hC, rfl⟩, hx⟩
  · refine (atomsOf_bad lv ls w hl hok hs hm).mono ?_
    rintro e w' ⟨he, hx⟩
    exact ⟨_, _, _, Ats.nil, he, ats_nil_at _, .inr ⟨hm, rfl⟩, hx⟩
end Go.Proofs.Ytfldjlibnjgdaaa

/- Plain laws of atoms: where they begin, which vector each has, in which order these come. Conditions: none. -/
namespace Go.Proofs.Ytfldjlibnjgdaaa
open Go Go.RowKit Go.Maps Go.Proofs

/-- The greatest place so far. -/
def mxW (l : List Int) : Int := l.foldl max (-1)
theorem mxW_snoc (l : List Int) (x : Int) : mxW (l ++ [x]) = max (mxW l) x := by unfold mxW; simp
theorem mxW_mem {l : List Int} {x : Int} (h : x ∈ l) : x ≤ mxW l := by
  unfold mxW
  suffices g : ∀ (l : List Int) (b : Int), b ≤ l.foldl max b ∧ ∀ x ∈ l, x ≤ l.foldl max b from (g l (-1)).2 x h
  intro l
  induction l with
  | nil => intro b; exact ⟨Int.le_refl _, fun x h => by cases h⟩
  | cons y l ih =>
    intro b
    obtain ⟨h1, h2⟩ := ih (max b y)
    refine ⟨by rw [List.foldl_cons]; omega, fun x hx => ?_⟩
    rw [List.foldl_cons]
    rcases List.mem_cons.1 hx with rfl | hx
    · omega
    · exact h2 x hx
theorem mxW_bd {l : List Int} {c : Int} (h : ∀ x ∈ l, x ≤ c) (hc : -1 ≤ c := by omega) : -1 ≤ mxW l ∧ mxW l ≤ c := by
  unfold mxW
  suffices g : ∀ (l : List Int) (b : Int), (∀ x ∈ l, x ≤ c) → b ≤ c → b ≤ l.foldl max b ∧ l.foldl max b ≤ c from g l (-1) h hc
  intro l
  induction l with
  | nil => intro b _ hb; exact ⟨Int.le_refl _, hb⟩
  | cons y l ih =>
    intro b hl hb
    have h1 := hl y (by simp)
    obtain ⟨h2, h3⟩ := ih (max b y) (fun x hx => hl x (by simp [hx])) (by omega)
    rw [List.foldl_cons]
    exact ⟨by omega, h3⟩
structure AtInv (vec : BitVec 32 → List Int) (s : Ats) (l : List (BitVec 32)) : Prop where
  ok : AtsOk s
  sub : s.fr.Sublist l
  was : ∀ c, l.getLast? = some c → WasOk s (vec c)
  place : ∀ (j : Nat) (c : BitVec 32), s.fr[j]? = some c → ∃ i : Nat, s.wh[j]? = some (i : Int) ∧ s.vs[i]? = some (vec c)
  diff : ∀ (j : Nat) (x : Int), s.wh[j]? = some x → s.wh[j + 1]? ≠ some x
  each : ∀ c ∈ l, ∃ (j : Nat) (d : BitVec 32), s.fr[j]? = some d ∧ uv d ≤ uv c ∧ vec d = vec c ∧ ∀ d', s.fr[j + 1]? = some d' → uv c < uv d'
  ord : ∀ (j : Nat) (x : Int), s.wh[j]? = some x → x ≤ mxW (s.wh.take j) + 1
  mx : mxW s.wh = (s.vs.length : Int) - 1
theorem AtInv.nil (vec : BitVec 32 → List Int) : AtInv vec Ats.nil [] :=
  ⟨AtsOk.nil, List.Sublist.refl _, fun c h => (by cases h), fun j c h => (by cases h), fun j x h => (by cases h), fun c h => (by cases h), fun j x h => (by cases h), rfl⟩
theorem rising_snoc {l : List (BitVec 32)} {a : BitVec 32} (h : Rising (l ++ [a])) : Rising l ∧ ∀ c ∈ l, uv c < uv a := by
  unfold Rising at *
  rw [List.pairwise_append] at h
  exact ⟨h.1, fun c hc => h.2.2 c hc a (by simp)⟩
theorem AtInv.step {vec : BitVec 32 → List Int} {s : Ats} {l : List (BitVec 32)} {a : BitVec 32} (h : AtInv vec s l) (hr : Rising (l ++ [a])) (hn : l = [] → s = Ats.nil) : AtInv vec (atStep vec s a) (l ++ [a]) := by
  obtain ⟨hrl, hlt⟩ := rising_snoc hr
  have hok := h.ok.step vec a
  by_cases hs : s.last = (idxV s.vs (vec a) : Int)
  · have e : atStep vec s a = s := by unfold atStep; rw [if_pos hs]
    rw [e] at hok ⊢
    have hne : l ≠ [] := by
      intro e0
      rw [hn e0] at hs
      have : Ats.nil.last = -1 := rfl
      omega
    have hgl : l.getLast? = some (l.getLast hne) := List.getLast?_eq_some_getLast hne
    have hmem : l.getLast hne ∈ l := List.getLast_mem hne
    have hw := h.was _ hgl
    have hva : vec a = vec (l.getLast hne) := (was_iff h.ok hw (vec a)).2 hs
    refine ⟨hok, h.sub.trans (List.sublist_append_left _ _), fun c hc => ?_, h.place, h.diff, fun c hc => ?_, h.ord, h.mx⟩
    · simp only [List.getLast?_append, List.getLast?_singleton, Option.some_or, Option.some.injEq] at hc
      subst hc
      rw [hva]; exact hw
    · rcases List.mem_append.1 hc with hc | hc
      · exact h.each c hc
      · simp only [List.mem_singleton] at hc
        subst hc
        obtain ⟨j, d, h1, h2, h3, h4⟩ := h.each _ hmem
        refine ⟨j, d, h1, by have := hlt _ hmem; omega, by rw [h3, hva], fun d' hd' => ?_⟩
        exfalso
        have h5 := h4 d' hd'
        have h6 : d' ∈ l := h.sub.subset (List.mem_of_getElem? hd')
        obtain ⟨i, hi, rfl⟩ := List.mem_iff_getElem.1 h6
        have h7 := hrl.le (i := i) (j := l.length - 1) (by omega) (by omega)
        rw [List.getLast_eq_getElem hne] at h5
        omega
  · have hw2 := was_step (vec := vec) (a := a) hs
    have e : atStep vec s a = ⟨s.fr ++ [a], s.wh ++ [(idxV s.vs (vec a) : Int)], if vec a ∈ s.vs then s.vs else s.vs ++ [vec a]⟩ := by unfold atStep; rw [if_neg hs]
    have hpre : ∀ (i : Nat) (v : List Int), s.vs[i]? = some v → (if vec a ∈ s.vs then s.vs else s.vs ++ [vec a])[i]? = some v := fun i v hv => by
      split
      · exact hv
      · rw [List.getElem?_append_left (List.getElem?_eq_some_iff.1 hv).1]; exact hv
    rw [e] at hok hw2 ⊢
    have hlen := h.ok.len
    refine ⟨hok, h.sub.append (List.Sublist.refl _), fun c hc => ?_, fun j c hc => ?_, fun j x hx hx' => ?_, fun c hc => ?_, fun j x hx => ?_, ?_⟩
    · simp only [List.getLast?_append, List.getLast?_singleton, Option.some_or, Option.some.injEq] at hc
      subst hc
      exact hw2
    · rcases snoc_get hc with hc | ⟨rfl, rfl⟩
      · obtain ⟨i, h1, h2⟩ := h.place j c hc
        exact ⟨i, by rw [List.getElem?_append_left (List.getElem?_eq_some_iff.1 h1).1]; exact h1, hpre i _ h2⟩
      · refine ⟨idxV s.vs (vec c), by rw [hlen]; simp, ?_⟩
        by_cases hm : vec c ∈ s.vs
        · simp only [if_pos hm]
          have := idxV_in.1 hm
          rw [List.getElem?_eq_getElem this, idxV_get this]
        · simp only [if_neg hm]
          rw [idxV_out hm]; simp
    · rcases snoc_get hx' with hx' | ⟨h1, h2⟩
      · have hj := (List.getElem?_eq_some_iff.1 hx').1
        rw [List.getElem?_append_left (by omega)] at hx
        exact h.diff j x hx hx'
      · rw [List.getElem?_append_left (by omega)] at hx
        apply hs
        unfold Ats.last
        have : s.wh.getLast? = some x := by
          rw [List.getLast?_eq_getElem?, ← h1]
          exact hx
        rw [this, ← h2]; rfl
    · rcases List.mem_append.1 hc with hc | hc
      · obtain ⟨j, d, h1, h2, h3, h4⟩ := h.each c hc
        have hj := (List.getElem?_eq_some_iff.1 h1).1
        refine ⟨j, d, by rw [List.getElem?_append_left hj]; exact h1, h2, h3, fun d' hd' => ?_⟩
        rcases snoc_get hd' with hd' | ⟨_, hda⟩
        · exact h4 d' hd'
        · rw [hda]; exact hlt c hc
      · simp only [List.mem_singleton] at hc
        subst hc
        refine ⟨s.fr.length, c, by simp, Int.le_refl _, rfl, fun d' hd' => ?_⟩
        rw [List.getElem?_eq_none (by simp)] at hd'
        cases hd'
    · rcases snoc_get hx with hx | ⟨rfl, rfl⟩
      · have hj := (List.getElem?_eq_some_iff.1 hx).1
        rw [List.take_append_of_le_length (by omega)]
        exact h.ord j x hx
      · rw [List.take_left]
        rw [h.mx]
        have := idxV_le s.vs (vec a)
        omega
    · rw [mxW_snoc, h.mx]
      by_cases hm : vec a ∈ s.vs
      · simp only [if_pos hm]
        have := idxV_in.1 hm
        omega
      · simp only [if_neg hm]
        rw [idxV_out hm]; simp; omega
theorem atInv_all {vec : BitVec 32 → List Int} {l : List (BitVec 32)} (hr : Rising l) : ∀ k, k ≤ l.length → AtInv vec (atomsL vec (l.take k)) (l.take k) := by
  intro k
  induction k with
  | zero => intro _; exact AtInv.nil vec
  | succ k ih =>
    intro hk
    have e := List.take_succ_eq_append_getElem (l := l) (i := k) (by omega)
    rw [atomsL_step (by omega), e]
    refine (ih (by omega)).step ?_ (fun h => by rw [h]; rfl)
    rw [← e]
    exact List.Pairwise.sublist (List.take_sublist _ _) hr
theorem atInv {vec : BitVec 32 → List Int} {l : List (BitVec 32)} (hr : Rising l) : AtInv vec (atomsL vec l) l := by
  have := atInv_all (vec := vec) hr l.length (Nat.le_refl _)
  rw [List.take_length] at this
  exact this
/-- What later steps add to the begins. -/
theorem fold_ext (vec : BitVec 32 → List Int) : ∀ (m : List (BitVec 32)) (s : Ats), ∃ r, (m.foldl (atStep vec) s).fr = s.fr ++ r ∧ r.Sublist m
  | [], s => ⟨[], by simp, List.Sublist.refl _⟩
  | a :: m, s => by
    obtain ⟨r, h1, h2⟩ := fold_ext vec m (atStep vec s a)
    rw [List.foldl_cons, h1]
    by_cases hs : s.last = (idxV s.vs (vec a) : Int)
    · have e : atStep vec s a = s := by unfold atStep; rw [if_pos hs]
      rw [e]
      exact ⟨r, rfl, h2.cons _⟩
    · have e : (atStep vec s a).fr = s.fr ++ [a] := by unfold atStep; rw [if_neg hs]
      rw [e]
      exact ⟨a :: r, by simp, h2.cons_cons _⟩
theorem fr_ext (vec : BitVec 32 → List Int) (l : List (BitVec 32)) (k : Nat) : ∃ r, (atomsL vec l).fr = (atomsL vec (l.take k)).fr ++ r ∧ r.Sublist (l.drop k) := by
  have h := fold_ext vec (l.drop k) (atomsL vec (l.take k))
  have e : (l.drop k).foldl (atStep vec) (atomsL vec (l.take k)) = atomsL vec l := by
    unfold atomsL
    rw [← List.foldl_append, List.take_append_drop]
  rw [e] at h
  exact h
/-- Each cut begins an atom, or has the vector of the one ahead. -/
theorem cut_way {vec : BitVec 32 → List Int} {l : List (BitVec 32)} (hr : Rising l) {k : Nat} (hk : k < l.length) :
    ((atomsL vec l).fr[(atomsL vec (l.take k)).fr.length]? = some l[k] ∧ (atomsL vec (l.take (k + 1))).fr.length = (atomsL vec (l.take k)).fr.length + 1) ∨
    (0 < k ∧ (∀ j, j + 1 = k → ∀ h : j < l.length, vec l[k] = vec l[j]) ∧ (atomsL vec l).fr[(atomsL vec (l.take k)).fr.length]? ≠ some l[k] ∧ (atomsL vec (l.take (k + 1))).fr.length = (atomsL vec (l.take k)).fr.length) := by
  have hi := atInv_all (vec := vec) hr k (by omega)
  obtain ⟨r, h1, h2⟩ := fr_ext vec l (k + 1)
  have hst := atomsL_step (vec := vec) hk
  by_cases hs : (atomsL vec (l.take k)).last = (idxV (atomsL vec (l.take k)).vs (vec l[k]) : Int)
  · have e : atomsL vec (l.take (k + 1)) = atomsL vec (l.take k) := by rw [hst]; unfold atStep; rw [if_pos hs]
    right
    have hk0 : 0 < k := by
      rcases Nat.eq_zero_or_pos k with rfl | g
      · have : (atomsL vec (l.take 0)).last = -1 := rfl
        omega
      · exact g
    refine ⟨hk0, fun j hj hjl => ?_, fun hc => ?_, by rw [e]⟩
    · have hgl : (l.take k).getLast? = some l[j] := by
        subst hj
        rw [List.getLast?_eq_getElem?, List.length_take, List.getElem?_take]
        simp only [Nat.min_eq_left (Nat.le_of_lt hk)]
        rw [if_pos (by omega)]
        simp only [Nat.add_sub_cancel]
        exact List.getElem?_eq_getElem hjl
      exact (was_iff hi.ok (hi.was _ hgl) _).2 hs
    · rw [h1, e, List.getElem?_append_right (Nat.le_refl _)] at hc
      have hm : l[k] ∈ l.drop (k + 1) := h2.subset (List.mem_of_getElem? hc)
      obtain ⟨i, hi2, he⟩ := List.mem_iff_getElem.1 hm
      rw [List.getElem_drop] at he
      rw [List.length_drop] at hi2
      have := hr.lt (i := k) (j := k + 1 + i) (by omega) (by omega)
      rw [he] at this
      omega
  · have e : (atomsL vec (l.take (k + 1))).fr = (atomsL vec (l.take k)).fr ++ [l[k]] := by rw [hst]; unfold atStep; rw [if_neg hs]
    left
    refine ⟨?_, by rw [e]; simp⟩
    rw [h1, e]; simp
/-- Atoms of a network's cuts. -/
structure AtomsIt (ls : List (List Rul)) (l : List (BitVec 32)) (s : Ats) : Prop where
  inv : AtInv (vecV ls) s l
  rise : Rising s.fr
  zero : s.fr[0]? = some 0#32
theorem atomsIt {ls : List (List Rul)} {l : List (BitVec 32)} (hC : Cuts ls.flatten l) : AtomsIt ls l (atomsL (vecV ls) l) := by
  have hi := atInv (vec := vecV ls) hC.rise
  have hr : Rising (atomsL (vecV ls) l).fr := List.Pairwise.sublist hi.sub hC.rise
  refine ⟨hi, hr, cuts_zero hr ?_⟩
  obtain ⟨j, d, h1, h2, h3, _⟩ := hi.each 0#32 (List.mem_of_getElem? hC.zero)
  have : d = 0#32 := uv_inj (by have := uv_nonneg d; have := uv_zero; omega)
  exact this ▸ List.mem_of_getElem? h1
theorem cut_ways {ls : List (List Rul)} {l : List (BitVec 32)} {s : Ats} (hC : Cuts ls.flatten l) (hs : atomsL (vecV ls) l = s) : ∃ aN : Nat → Nat, aN 0 = 0 ∧ aN l.length = s.fr.length ∧ ∀ k (hk : k < l.length),
    (s.fr[aN k]? = some l[k] ∧ aN (k + 1) = aN k + 1) ∨ (∃ (j : Nat) (hj : j < l.length), j + 1 = k ∧ vecV ls l[k] = vecV ls l[j] ∧ s.fr[aN k]? ≠ some l[k] ∧ aN (k + 1) = aN k) := by
  subst hs
  refine ⟨fun k => (atomsL (vecV ls) (l.take k)).fr.length, rfl, by simp only [List.take_length], fun k hk => ?_⟩
  rcases cut_way (vec := vecV ls) hC.rise hk with h | ⟨h0, h1, h2, h3⟩
  · exact .inl h
  · exact .inr ⟨k - 1, by omega, by omega, h1 (k - 1) (by omega) (by omega), h2, h3⟩
/-- An address has the vector of where its atom begins. -/
theorem AtomsIt.vec {ls : List (List Rul)} {l : List (BitVec 32)} {s : Ats} (h : AtomsIt ls l s) (hC : Cuts ls.flatten l) (a : BitVec 32) : vecV ls (s.fr[ivN s.fr a]'(ivN_lt h.zero a)) = vecV ls a := by
  rw [← vec_low hC a]
  have hm : l[ivN l a]'(ivN_lt hC.zero a) ∈ l := List.getElem_mem _
  obtain ⟨j, d, h1, h2, h3, h4⟩ := h.inv.each _ hm
  obtain ⟨hj, rfl⟩ := List.getElem?_eq_some_iff.1 h1
  rw [← h3]
  have h5 : ivN s.fr a = j := by
    unfold ivN
    rw [atN_eq h.rise hj (by have := iv_from hC.zero a; omega) (fun hj1 => ?_)]
    · rfl
    · have h6 := h4 _ (List.getElem?_eq_getElem hj1)
      have h7 : s.fr[j + 1] ∈ l := h.inv.sub.subset (List.getElem_mem _)
      by_cases g : uv a < uv s.fr[j + 1]
      · exact g
      · have := iv_below hC.rise hC.zero a h7 (by omega)
        omega
  simp only [h5]
theorem AtomsIt.low {ls : List (List Rul)} {l : List (BitVec 32)} {s : Ats} (h : AtomsIt ls l s) (hC : Cuts ls.flatten l) (a : BitVec 32) : vecV ls (s.fr[ivN s.fr a]'(ivN_lt h.zero a)) = vecV ls a := h.vec hC a
theorem AtomsIt.high {ls : List (List Rul)} {l : List (BitVec 32)} {s : Ats} (h : AtomsIt ls l s) (hC : Cuts ls.flatten l) (a : BitVec 32) : vecV ls (endV s.fr (ivN s.fr a)) = vecV ls a := by
  have h1 := h.vec hC (endV s.fr (ivN s.fr a))
  have h2 := h.vec hC a
  have h3 : ivN s.fr (endV s.fr (ivN s.fr a)) = ivN s.fr a := by
    have := atN_high h.rise (ivN_lt h.zero a)
    have e : ivN s.fr (endV s.fr (ivN s.fr a)) = atN s.fr (endV s.fr (ivN s.fr a)) - 1 := rfl
    omega
  simp only [h3] at h1
  rw [← h1, h2]
theorem AtomsIt.at {ls : List (List Rul)} {l : List (BitVec 32)} {s : Ats} (h : AtomsIt ls l s) (hC : Cuts ls.flatten l) (a : BitVec 32) : ∃ j : Nat, s.wh[ivN s.fr a]? = some (j : Int) ∧ s.vs[j]? = some (vecV ls a) := by
  obtain ⟨j, h1, h2⟩ := h.inv.place _ _ (List.getElem?_eq_getElem (ivN_lt h.zero a))
  exact ⟨j, h1, by rw [h2, h.vec hC a]⟩
/-- Vectors by another way to tell them apart. -/
theorem idxV_map {f : List Int → List Int} {vs : List (List Int)} {v : List Int} (hf : ∀ u ∈ vs, f u = f v → u = v) : idxV (vs.map f) (f v) = idxV vs v := by
  unfold idxV
  induction vs with
  | nil => rfl
  | cons u vs ih =>
    rw [List.map_cons, List.idxOf_cons, List.idxOf_cons, ih (fun x hx => hf x (by simp [hx]))]
    by_cases e : u = v
    · subst e; simp
    · have e2 : f u ≠ f v := fun e2 => e (hf u (by simp) e2)
      rw [beq_false_of_ne e, beq_false_of_ne e2]
def Ats.mapV (f : List Int → List Int) (s : Ats) : Ats := ⟨s.fr, s.wh, s.vs.map f⟩
theorem step_mapV {f : List Int → List Int} {vec : BitVec 32 → List Int} {s : Ats} {a : BitVec 32} (hf : ∀ u ∈ s.vs, f u = f (vec a) → u = vec a) : atStep (fun b => f (vec b)) (s.mapV f) a = (atStep vec s a).mapV f := by
  have h1 := idxV_map hf
  have h2 : f (vec a) ∈ s.vs.map f ↔ vec a ∈ s.vs := ⟨fun h => by
    obtain ⟨u, hu, he⟩ := List.mem_map.1 h
    exact hf u hu he ▸ hu, fun h => List.mem_map_of_mem h⟩
  unfold atStep Ats.mapV
  have h3 : (Ats.mk s.fr s.wh (s.vs.map f)).last = s.last := rfl
  simp only [h3, h1]
  by_cases hs : s.last = (idxV s.vs (vec a) : Int)
  · simp only [if_pos hs]
  · simp only [if_neg hs]
    by_cases hm : vec a ∈ s.vs
    · simp only [if_pos hm, if_pos (h2.2 hm)]
    · simp only [if_neg hm, if_neg (fun h => hm (h2.1 h)), List.map_append, List.map_cons, List.map_nil]
theorem atoms_mapV {f : List Int → List Int} {vec : BitVec 32 → List Int} {p : List Int → Prop} (hp : ∀ a, p (vec a)) (hf : ∀ u v, p u → p v → f u = f v → u = v) (l : List (BitVec 32)) : atomsL (fun b => f (vec b)) l = (atomsL vec l).mapV f := by
  unfold atomsL
  suffices g : ∀ s : Ats, (∀ u ∈ s.vs, p u) → l.foldl (atStep (fun b => f (vec b))) (s.mapV f) = (l.foldl (atStep vec) s).mapV f from g Ats.nil (fun u h => by cases h)
  induction l with
  | nil => intro s _; rfl
  | cons a l ih =>
    intro s hs
    rw [List.foldl_cons, List.foldl_cons, step_mapV (fun u hu e => hf u _ (hs u hu) (hp a) e)]
    refine ih _ fun u hu => ?_
    unfold atStep at hu
    split at hu
    · exact hs u hu
    · simp only at hu
      split at hu
      · exact hs u hu
      · rcases List.mem_append.1 hu with hu | hu
        · exact hs u hu
        · simp only [List.mem_singleton] at hu
          subst hu; exact hp a
/-- Where all have one vector there is one atom. -/
theorem atoms_one {vec : BitVec 32 → List Int} {v : List Int} {l : List (BitVec 32)} {c : BitVec 32} (h : l[0]? = some c) (hv : ∀ a ∈ l, vec a = v) : atomsL vec l = ⟨[c], [0], [v]⟩ := by
  cases l with
  | nil => cases h
  | cons a l =>
    simp only [List.getElem?_cons_zero, Option.some.injEq] at h
    subst h
    have h1 : atStep vec Ats.nil a = ⟨[a], [0], [v]⟩ := by
      unfold atStep
      rw [hv a (by simp)]
      simp [Ats.nil, Ats.last, idxV]
    unfold atomsL
    rw [List.foldl_cons, h1]
    have h2 : ∀ m : List (BitVec 32), (∀ b ∈ m, vec b = v) → m.foldl (atStep vec) ⟨[a], [0], [v]⟩ = ⟨[a], [0], [v]⟩ := by
      intro m
      induction m with
      | nil => intro _; rfl
      | cons b m ih =>
        intro hm
        have h3 : atStep vec ⟨[a], [0], [v]⟩ b = ⟨[a], [0], [v]⟩ := by
          unfold atStep
          rw [hm b (by simp)]
          simp [Ats.last, idxV]
        rw [List.foldl_cons, h3]
        exact ih fun x hx => hm x (by simp [hx])
    exact h2 l fun b hb => hv b (by simp [hb])
end Go.Proofs.Ytfldjlibnjgdaaa
