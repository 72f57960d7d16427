/- Plain laws of rising rows: in which interval an address is, and where it ends. Conditions: none. -/
import Derived.Test.YtilaljdokpdcoaaCuts12
import Derived.Test.YtilaljdokpdcoaaPrefN
namespace Go.Proofs.Ytilaljdokpdcoaa
open Go.RowKit

def Rising (l : List (BitVec 32)) : Prop := l.Pairwise (fun a b => uv a < uv b)
theorem Rising.lt {l : List (BitVec 32)} (h : Rising l) {i j : Nat} (hij : i < j) (hj : j < l.length) : uv l[i] < uv l[j] := List.pairwise_iff_getElem.1 h i j (by omega) hj hij
theorem Rising.le {l : List (BitVec 32)} (h : Rising l) {i j : Nat} (hij : i ≤ j) (hj : j < l.length) : uv l[i] ≤ uv l[j] := by
  rcases Nat.lt_or_ge i j with g | g
  · exact Int.le_of_lt (h.lt g hj)
  · have : i = j := by omega
    subst this; exact Int.le_refl _
theorem uv_zero : uv 0#32 = 0 := rfl
theorem uv_top : uv 4294967295#32 = 4294967295 := rfl
theorem uv_pred {x : BitVec 32} (h : 0 < uv x) : uv (x - 1#32) = uv x - 1 := by
  have h1 := uv_bd x
  unfold uv at *
  rw [BitVec.toNat_sub]
  have := x.isLt
  simp
  omega
/-- 0 is the first. -/
theorem atN_pos {l : List (BitVec 32)} (h0 : l[0]? = some 0#32) (a : BitVec 32) : 1 ≤ atN l a := by
  rcases Nat.lt_or_ge 0 (atN l a) with g | g
  · exact g
  · obtain ⟨hl, he⟩ := List.getElem?_eq_some_iff.1 h0
    have hz : atN l a = 0 := by omega
    have h1 := atN_end (l := l) (a := a) (by omega)
    simp only [hz, he] at h1
    exact absurd (by rw [uv_zero]; exact (uv_bd a).1) h1
/-- The interval's number. -/
def ivN (l : List (BitVec 32)) (a : BitVec 32) : Nat := atN l a - 1
theorem ivN_lt {l : List (BitVec 32)} (h0 : l[0]? = some 0#32) (a : BitVec 32) : ivN l a < l.length := by
  have := atN_pos h0 a
  have := atN_le l a
  unfold ivN; omega
theorem ivN_int {l : List (BitVec 32)} (h0 : l[0]? = some 0#32) (a : BitVec 32) : ((atN l a : Int) - 1) = (ivN l a : Nat) := by
  have := atN_pos h0 a
  unfold ivN; omega
theorem iv_from {l : List (BitVec 32)} (h0 : l[0]? = some 0#32) (a : BitVec 32) : uv (l[ivN l a]'(ivN_lt h0 a)) ≤ uv a :=
  atN_lt (by have := atN_pos h0 a; unfold ivN; omega) (ivN_lt h0 a)
theorem end_pos {l : List (BitVec 32)} (hr : Rising l) {k : Nat} (hk : k + 1 < l.length) : uv (endV l k) = uv l[k + 1] - 1 := by
  unfold endV
  rw [dif_pos hk]
  refine uv_pred ?_
  have := hr.lt (show k < k + 1 by omega) hk
  have := (uv_bd (l[k]'(by omega))).1
  omega
theorem end_top {l : List (BitVec 32)} {k : Nat} (hk : ¬ k + 1 < l.length) : endV l k = 4294967295#32 := by unfold endV; rw [dif_neg hk]
theorem iv_next {l : List (BitVec 32)} (h0 : l[0]? = some 0#32) (a : BitVec 32) (h : ivN l a + 1 < l.length) : uv a < uv l[ivN l a + 1] := by
  have hp := atN_pos h0 a
  have e : ivN l a + 1 = atN l a := by unfold ivN; omega
  have h1 := atN_end (l := l) (a := a) (by omega)
  simp only [e]
  omega
theorem iv_to {l : List (BitVec 32)} (hr : Rising l) (h0 : l[0]? = some 0#32) (a : BitVec 32) : uv a ≤ uv (endV l (ivN l a)) := by
  by_cases h : ivN l a + 1 < l.length
  · rw [end_pos hr h]
    have := iv_next h0 a h
    omega
  · rw [end_top h, uv_top]
    have := (uv_bd a).2
    omega
/-- Each cut up to an address is up to its interval's beginning; each behind it is behind its end. -/
theorem iv_below {l : List (BitVec 32)} (hr : Rising l) (h0 : l[0]? = some 0#32) (a : BitVec 32) {c : BitVec 32} (hc : c ∈ l) (h : uv c ≤ uv a) : uv c ≤ uv (l[ivN l a]'(ivN_lt h0 a)) := by
  obtain ⟨j, hj, rfl⟩ := List.getElem_of_mem hc
  rcases Nat.lt_or_ge (ivN l a) j with g | g
  · have h1 := iv_next h0 a (by omega)
    have h2 := hr.le (show ivN l a + 1 ≤ j from g) hj
    omega
  · exact hr.le g (ivN_lt h0 a)
theorem iv_above {l : List (BitVec 32)} (hr : Rising l) (h0 : l[0]? = some 0#32) (a : BitVec 32) {c : BitVec 32} (hc : c ∈ l) (h : uv a < uv c) : uv (endV l (ivN l a)) < uv c := by
  obtain ⟨j, hj, rfl⟩ := List.getElem_of_mem hc
  have hf := iv_from h0 a
  rcases Nat.lt_or_ge (ivN l a) j with g | g
  · rw [end_pos hr (by omega)]
    have h2 := hr.le (show ivN l a + 1 ≤ j from g) hj
    omega
  · have := hr.le g (ivN_lt h0 a)
    omega
theorem iv_end {l : List (BitVec 32)} (hr : Rising l) (a : BitVec 32) : endV l (ivN l a) = 4294967295#32 ∨ ∃ c ∈ l, uv c = uv (endV l (ivN l a)) + 1 := by
  by_cases h : ivN l a + 1 < l.length
  · right
    refine ⟨_, List.getElem_mem h, ?_⟩
    rw [end_pos hr h]; omega
  · exact .inl (end_top h)
theorem cuts_zero {l : List (BitVec 32)} (h : Rising l) (hz : 0#32 ∈ l) : l[0]? = some 0#32 := by
  obtain ⟨j, hj, he⟩ := List.getElem_of_mem hz
  rcases Nat.lt_or_ge 0 j with g | g
  · have := h.lt g hj
    rw [he, uv_zero] at this
    have := (uv_bd (l[0]'(by omega))).1
    omega
  · have : j = 0 := by omega
    subst this
    exact List.getElem?_eq_some_iff.2 ⟨hj, he⟩
end Go.Proofs.Ytilaljdokpdcoaa
