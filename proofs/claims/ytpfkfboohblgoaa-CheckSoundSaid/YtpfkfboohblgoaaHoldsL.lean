/- Plain laws for the law CheckHolds: vectors and steps, and a part of one address. Conditions: none. -/
import Derived.Test.YtpfkfboohblgoaaRankL
import Derived.Test.YtpfkfboohblgoaaFallL
import Derived.Test.YtpfkfboohblgoaaRanksL
namespace Go.Proofs.Ytpfkfboohblgoaa
open Go.RowKit

theorem vec_nx (ls : List (List Rul)) (a : BitVec 32) (x : Int) : nxv (vecV ls a) x = (stepN ls a x).getD (-1) := by
  unfold nxv stepN
  by_cases h : x < 0
  · rw [if_pos h, if_pos h]; rfl
  · rw [if_neg h, if_neg h]
    unfold vecV
    rw [List.getD_eq_getElem?_getD, List.getElem?_map]
    cases ls[x.toNat]? with
    | none => rfl
    | some t => rfl
theorem vec_ok {ls : List (List Rul)} (h : netMayV ls = 0) (a : BitVec 32) : VOk (vecV ls a) := fun x hx => by
  unfold vecV at hx
  obtain ⟨t, ht, rfl⟩ := List.mem_map.1 hx
  rw [vecV_len]
  cases hs : stepO t a with
  | none => simp; omega
  | some y => have := step_bd h ht a hs; simp; omega
theorem step_nx {ls : List (List Rul)} (h : netMayV ls = 0) {a : BitVec 32} {x y : Int} : stepN ls a x = some y ↔ nxv (vecV ls a) x = y ∧ y ≠ -1 := by
  rw [vec_nx]
  constructor
  · intro hs
    have := step_in h hs
    rw [hs]
    exact ⟨rfl, by omega⟩
  · rintro ⟨h1, h2⟩
    cases hs : stepN ls a x with
    | none => rw [hs] at h1; exact absurd h1.symm h2
    | some z => rw [hs] at h1; exact congrArg some h1
theorem step_no {ls : List (List Rul)} (h : netMayV ls = 0) {a : BitVec 32} {x : Int} : stepN ls a x = none ↔ nxv (vecV ls a) x = -1 := by
  rw [vec_nx]
  constructor
  · intro hs; rw [hs]; rfl
  · intro h1
    cases hs : stepN ls a x with
    | none => rfl
    | some z => rw [hs] at h1; have := step_in h hs; have h1' : z = -1 := h1; omega
theorem one_pt (l : List (BitVec 32)) (a : BitVec 32) : insideV l a a = [a] := by
  unfold insideV
  rw [List.filter_eq_nil_iff.2 fun c _ hc => by rw [insB_iff] at hc; omega]
theorem holds_ok {ls : List (List Rul)} (h : netMayV ls = 0) {l : List (BitVec 32)} {a : BitVec 32} {rs : List Int} (hr : RanksIs (vecV ls a) rs) : fallV ls (insideV l a a) rs = 0 := by
  rw [one_pt, fallV_zero]
  intro b hb v hv
  simp only [List.mem_singleton] at hb; subst hb
  unfold badS
  cases hs : stepN ls b v with
  | none => rfl
  | some x =>
    have g := step_in h hs
    obtain ⟨e1, e2⟩ := (step_nx h).1 hs
    have hf := hr.falls (vec_ok h b) (x := (v : Int)) ⟨g.1, by rw [vecV_len]; exact g.2.1⟩ (by rw [e1]; exact e2)
    rw [e1, Int.toNat_natCast] at hf
    show badX _ _ _ _ = false
    unfold badX
    simp only [Bool.or_eq_false_iff, decide_eq_false_iff_not]
    omega
theorem holds_bad {ls : List (List Rul)} {l : List (BitVec 32)} {a : BitVec 32} {rk : List Int} {v : Nat} {x : Int} (hv : v < ls.length) (hs : stepN ls a v = some x) (hr : rk.getD v 0 ≤ rk.getD x.toNat 0) : fallV ls (insideV l a a) rk = 16 := by
  rw [one_pt]
  refine fallV_bad (k := 0) (by simp) hv ?_
  show badS ls rk a v = true
  unfold badS
  rw [hs]
  show badX _ _ _ _ = true
  unfold badX
  rw [decide_eq_true hr]
  simp
theorem holds_zero {ls : List (List Rul)} (h : netMayV ls = 0) {l : List (BitVec 32)} {a : BitVec 32} (ho : ∃ x, OnL (vecV ls a) x) (n : Nat) : fallV ls (insideV l a a) (List.replicate n 0) = 16 := by
  obtain ⟨x, hx⟩ := ho
  have hv := vec_ok h a
  have hi := hx.is hv
  have hn := hx.next hv
  rw [isN, vecV_len] at hi
  have hs : stepN ls a x.toNat = some (nxv (vecV ls a) x) := (step_nx h).2 ⟨by rw [Int.toNat_of_nonneg hi.1], by have := hn.1; omega⟩
  refine holds_bad (v := x.toNat) (by omega) hs ?_
  have hz : ∀ k, (List.replicate n (0 : Int)).getD k 0 = 0 := fun k => by
    rw [List.getD_eq_getElem?_getD, List.getElem?_replicate]
    split <;> rfl
  rw [hz, hz]
  exact Int.le_refl _
theorem getD_set {r : List Int} {i k : Nat} {y : Int} (hi : i < r.length) : (r.set i y).getD k 0 = if k = i then y else r.getD k 0 := by
  rw [List.getD_eq_getElem?_getD, List.getElem?_set]
  by_cases h : k = i
  · subst h; rw [if_pos rfl, if_pos hi, if_pos rfl]; rfl
  · rw [if_neg (by omega), if_neg h, List.getD_eq_getElem?_getD]
/-- The three that are wrong: a rank of 0; two turned about. -/
theorem holds_odd {ls : List (List Rul)} (h : netMayV ls = 0) {l : List (BitVec 32)} {a : BitVec 32} {rs : List Int} (hr : RanksIs (vecV ls a) rs) {i : Nat} (hi : i < ls.length) {j : Nat} (hj : nxv (vecV ls a) i = (j : Int)) :
    fallV ls (insideV l a a) (rs.set i 0) = 16 ∧ fallV ls (insideV l a a) ((rs.set i (rs.getD j 0)).set j (rs.getD i 0)) = 16 := by
  have hv := vec_ok h a
  have hs : stepN ls a i = some (j : Int) := (step_nx h).2 ⟨hj, by omega⟩
  have g := step_in h hs
  have hl : rs.length = ls.length := by rw [hr.1, vecV_len]
  have hf := hr.falls hv (x := (i : Int)) ⟨g.1, by rw [vecV_len]; exact g.2.1⟩ (by rw [hj]; omega)
  rw [hj, Int.toNat_natCast, Int.toNat_natCast] at hf
  have hne : j ≠ i := fun e => by subst e; omega
  have hbj : 0 ≤ rs.getD j 0 := by
    obtain ⟨m, h1, _⟩ := hr.at (x := (j : Int)) ⟨by omega, by rw [vecV_len]; omega⟩
    rw [Int.toNat_natCast] at h1
    omega
  refine ⟨holds_bad hi hs ?_, holds_bad hi hs ?_⟩
  · rw [Int.toNat_natCast, getD_set (by omega), getD_set (by omega), if_pos rfl, if_neg hne]; exact hbj
  · have e1 := getD_set (r := rs.set i (rs.getD j 0)) (i := j) (k := i) (y := rs.getD i 0) (by rw [List.length_set]; omega)
    have e2 := getD_set (r := rs.set i (rs.getD j 0)) (i := j) (k := j) (y := rs.getD i 0) (by rw [List.length_set]; omega)
    have e3 := getD_set (r := rs) (i := i) (k := i) (y := rs.getD j 0) (by omega)
    rw [if_neg (Ne.symm hne), e3, if_pos rfl] at e1
    rw [if_pos rfl] at e2
    rw [Int.toNat_natCast, e1, e2]
    omega
theorem icell_get {q : List Int} {k : Nat} (h : k < q.length) : (icells q)[k]? = some (I (q.getD k 0)) := by
  unfold icells
  rw [List.getElem?_map, List.getElem?_eq_getElem h, List.getD_eq_getElem?_getD, List.getElem?_eq_getElem h]; rfl
theorem ints_tail {w : World} {v : Value} {l : List Int} (h : IntsAt w v l) (h1 : 1 ≤ l.length) : IntsAt w (slv 1 v 1 l.length) (l.drop 1) := by
  have h2 := Reads.piece h h1 (Nat.le_refl _)
  unfold IntsAt
  rw [List.length_drop]
  have e : icells (l.drop 1) = ((icells l).take (l.length * 1)).drop (1 * 1) := by
    rw [List.take_of_length_le (by rw [icells_len]; omega)]
    unfold icells
    rw [List.map_drop]
  rw [e]; exact h2
theorem vec_at {ls : List (List Rul)} {a : BitVec 32} {k : Nat} (h : k < ls.length) : (vecV ls a)[k]'(by rw [vecV_len]; exact h) = (stepN ls a k).getD (-1) := by
  rw [stepN_in h]
  exact Option.some.inj ((List.getElem?_eq_getElem _).symm.trans (vecV_get h))
end Go.Proofs.Ytpfkfboohblgoaa
