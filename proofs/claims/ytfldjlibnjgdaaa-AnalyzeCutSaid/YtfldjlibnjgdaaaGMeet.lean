/- Meet, CoverA: these texts in one. Conditions: each part names its own. -/
import Derived.Test.YtfldjlibnjgdaaaGIns
import Derived.Test.YtfldjlibnjgdaaaGRule
/- Whether parts meet, and which part has an address: the program's and the reference's answers. Conditions: none. -/
namespace Go.Proofs.Ytfldjlibnjgdaaa
open Go.RowKit

def meetG : Int → List Prt → Bool
  | nx, [] => nx == 4294967296
  | nx, p :: ps => (uv p.fr == nx) && (decide (uv p.fr ≤ uv p.up) && meetG (uv p.up + 1) ps)
def meetV (ps : List Prt) : Int := if meetG 0 ps = true then 0 else 15
theorem meetV_yes {ps : List Prt} (h : meetG 0 ps = true) : meetV ps = 0 := by unfold meetV; rw [if_pos h]
theorem meetV_no {ps : List Prt} (h : meetG 0 ps = false) : meetV ps = 15 := by unfold meetV; rw [h]; rfl
theorem meetG_step (nx : Int) {ps : List Prt} {k : Nat} (h : k < ps.length) : meetG nx (ps.drop k) = ((uv ps[k].fr == nx) && (decide (uv ps[k].fr ≤ uv ps[k].up) && meetG (uv ps[k].up + 1) (ps.drop (k + 1)))) := by
  rw [List.drop_eq_getElem_cons h]; rfl
theorem meetG_end (nx : Int) {ps : List Prt} {k : Nat} (h : ps.length ≤ k) : meetG nx (ps.drop k) = (nx == 4294967296) := by rw [List.drop_of_length_le h]; rfl
theorem meetG_last : ∀ {ps : List Prt} {nx : Int} {m : Nat}, meetG nx ps = true → ps.length = m + 1 → ∃ p, ps[m]? = some p ∧ uv p.up = 4294967295
  | [], _, _, _, h => by simp at h
  | [p], nx, m, h, hm => by
    have : m = 0 := by simpa using hm.symm
    subst this
    refine ⟨p, rfl, ?_⟩
    simp only [meetG, Bool.and_eq_true, beq_iff_eq] at h
    omega
  | p :: q :: ps, nx, m, h, hm => by
    simp only [meetG, Bool.and_eq_true] at h
    obtain ⟨k, rfl⟩ : ∃ k, m = k + 1 := ⟨m - 1, by simp at hm; omega⟩
    have h2 : meetG (uv p.up + 1) (q :: ps) = true := by simp only [meetG, Bool.and_eq_true]; exact h.2.2
    obtain ⟨x, h3, h4⟩ := meetG_last (m := k) h2 (by simpa using hm)
    exact ⟨x, by simpa using h3, h4⟩
/-- Which parts have an address. -/
def inP (a : BitVec 32) (p : Prt) : Bool := decide (uv p.fr ≤ uv a) && decide (uv a ≤ uv p.up)
def notP (a : BitVec 32) (p : Prt) : Bool := !inP a p
def coN (ps : List Prt) (a : BitVec 32) : Nat := (ps.takeWhile (notP a)).length
theorem coN_le (ps : List Prt) (a : BitVec 32) : coN ps a ≤ ps.length := (List.takeWhile_sublist _).length_le
theorem coN_lt {ps : List Prt} {a : BitVec 32} {j : Nat} (h : j < coN ps a) (h' : j < ps.length) : inP a ps[j] = false := by
  have := tw_lt (notP a) ps j h h'
  unfold notP at this
  simpa using this
theorem coN_end {ps : List Prt} {a : BitVec 32} (h : coN ps a < ps.length) : inP a ps[coN ps a] = true := by
  have h1 : notP a ps[coN ps a] = false := tw_end (notP a) ps h
  cases hb : inP a ps[coN ps a]
  · have h2 : notP a ps[coN ps a] = true := by unfold notP; rw [hb]; rfl
    rw [h1] at h2; cases h2
  · rfl
theorem coN_eq {ps : List Prt} {a : BitVec 32} {k : Nat} (hk : k < ps.length) (hle : k ≤ coN ps a) (h : inP a ps[k] = true) : coN ps a = k := by
  rcases Nat.lt_or_ge k (coN ps a) with g | g
  · rw [coN_lt g hk] at h; cases h
  · omega
theorem coN_next {ps : List Prt} {a : BitVec 32} {k : Nat} (hk : k < ps.length) (hle : k ≤ coN ps a) (h : inP a ps[k] = false) : k + 1 ≤ coN ps a := by
  rcases Nat.lt_or_ge k (coN ps a) with g | g
  · exact g
  · have e : k = coN ps a := by omega
    have := coN_end (ps := ps) (a := a) (by omega)
    simp only [← e] at this
    rw [h] at this; cases this
abbrev coverV (ps : List Prt) (a : BitVec 32) : Value := .tuple #[I (if coN ps a < ps.length then (coN ps a : Int) else 0), .bool (decide (coN ps a < ps.length))]
theorem coverV_yes {ps : List Prt} {a : BitVec 32} {k : Nat} (h : coN ps a = k) (hk : k < ps.length) : coverV ps a = .tuple #[I k, .bool true] := by
  unfold coverV; rw [h, if_pos hk, decide_eq_true hk]
theorem coverV_no {ps : List Prt} {a : BitVec 32} (h : ps.length ≤ coN ps a) : coverV ps a = .tuple #[I 0, .bool false] := by
  unfold coverV; rw [if_neg (by omega), decide_eq_false (by omega)]
/-- What a part must begin with, behind k parts. -/
def nxP (ps : List Prt) : Nat → Int
  | 0 => 0
  | k + 1 => ((ps[k]?).map fun p => uv p.up + 1).getD 0
end Go.Proofs.Ytfldjlibnjgdaaa

/- The points of all parts, by the program and by the reference. Conditions: whole numbers are within 64 bits; no more rules and parts than the proved part takes. -/
namespace Go.Proofs.Ytfldjlibnjgdaaa
open Go.RowKit

end Go.Proofs.Ytfldjlibnjgdaaa
