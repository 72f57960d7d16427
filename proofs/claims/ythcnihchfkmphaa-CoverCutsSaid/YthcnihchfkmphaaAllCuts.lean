/- Plain laws of all parts' points one behind another. Conditions: none. -/
import Derived.Test.YthcnihchfkmphaaPartsL
import Derived.Test.YthcnihchfkmphaaPoints
namespace Go.Proofs.Ythcnihchfkmphaa
open Go.RowKit

theorem cnt_or (p q r : BitVec 32 → Bool) : ∀ l : List (BitVec 32), (∀ c ∈ l, p c = (q c || r c)) → (∀ c ∈ l, ¬(q c = true ∧ r c = true)) → l.countP p = l.countP q + l.countP r
  | [], _, _ => rfl
  | c :: l, h, hd => by
    have h1 := cnt_or p q r l (fun x hx => h x (by simp [hx])) (fun x hx => hd x (by simp [hx]))
    have h2 := h c (by simp)
    have h3 := hd c (by simp)
    rw [List.countP_cons, List.countP_cons, List.countP_cons, h1, h2]
    cases hq : q c <;> cases hr : r c
    · simp
    · simp; omega
    · simp; omega
    · exact absurd ⟨hq, hr⟩ h3
theorem cnt_eq {l : List (BitVec 32)} (hr : Rising l) (x : BitVec 32) : l.countP (fun c => decide (c = x)) = if decide (x ∈ l) = true then 1 else 0 := by
  induction l with
  | nil => rfl
  | cons c l ih =>
    have hr' : Rising l := List.Pairwise.of_cons hr
    have hb : ∀ y ∈ l, uv c < uv y := fun y hy => List.rel_of_pairwise_cons hr hy
    rw [List.countP_cons, ih hr']
    by_cases he : c = x
    · subst he
      have hn : ¬ c ∈ l := fun h => by have := hb c h; omega
      simp [hn]
    · have he' : ¬ x = c := fun h => he h.symm
      simp [he, he']
/-- How many of these are below a number. -/
def lowC (C : List (BitVec 32)) (n : Int) : Nat := C.countP fun c => decide (uv c < n)
theorem lowC_all (C : List (BitVec 32)) : lowC C 4294967296 = C.length := by
  unfold lowC
  rw [List.countP_eq_length]
  intro c _
  have := uv_bd c
  rw [decide_eq_true_iff]; omega
theorem lowC_zero (C : List (BitVec 32)) : lowC C 0 = 0 := by
  unfold lowC
  rw [List.countP_eq_zero]
  intro c _ h
  have := uv_bd c
  rw [decide_eq_true_iff] at h; omega
theorem lowC_step {C : List (BitVec 32)} (hr : Rising C) {lo hi : BitVec 32} (h : uv lo ≤ uv hi) :
    lowC C (uv hi + 1) + (if decide (lo ∈ C) = true then 0 else 1) = lowC C (uv lo) + (insideV C lo hi).length := by
  have e1 := cnt_or (fun c => decide (uv c < uv hi + 1)) (fun c => decide (uv c < uv lo)) (fun c => decide (c = lo) || insB lo hi c) C
    (fun c _ => by
      unfold insB
      rw [Bool.eq_iff_iff]
      simp only [Bool.or_eq_true, Bool.and_eq_true, decide_eq_true_iff]
      constructor
      · intro g
        rcases Int.lt_trichotomy (uv c) (uv lo) with q | q | q
        · exact .inl q
        · exact .inr (.inl (uv_inj q))
        · exact .inr (.inr ⟨q, by omega⟩)
      · rintro (g | g | ⟨g1, g2⟩)
        · omega
        · subst g; omega
        · omega)
    (fun c _ => by
      unfold insB
      simp only [Bool.or_eq_true, Bool.and_eq_true, decide_eq_true_iff]
      rintro ⟨g, q | ⟨q1, q2⟩⟩
      · subst q; omega
      · omega)
  have e2 := cnt_or (fun c => decide (c = lo) || insB lo hi c) (fun c => decide (c = lo)) (insB lo hi) C (fun c _ => rfl)
    (fun c _ => by
      unfold insB
      simp only [Bool.and_eq_true, decide_eq_true_iff]
      rintro ⟨g, q1, q2⟩
      subst g; omega)
  have e3 := cnt_eq hr lo
  unfold lowC
  unfold insideV
  rw [List.length_cons, ← List.countP_eq_length_filter, e1, e2, e3]
  cases hm : decide (lo ∈ C) <;> simp <;> omega
/-- All points of the parts ahead of this one; and how many of those parts begin at no cut. -/
def allN (C : List (BitVec 32)) (qs : List Prt) (k : Nat) : List (BitVec 32) := (pointsL C (qs.take k)).flatten
def begN (C : List (BitVec 32)) (qs : List Prt) (k : Nat) : Nat := (qs.take k).countP fun p => !decide (p.fr ∈ C)
theorem allN_step {C : List (BitVec 32)} {qs : List Prt} {k : Nat} (h : k < qs.length) : allN C qs (k + 1) = allN C qs k ++ insideV C qs[k].fr qs[k].up := by
  unfold allN
  rw [pointsL_step h, List.flatten_append]
  simp
theorem begN_step {C : List (BitVec 32)} {qs : List Prt} {k : Nat} (h : k < qs.length) : begN C qs (k + 1) = begN C qs k + (if decide (qs[k].fr ∈ C) = true then 0 else 1) := by
  unfold begN
  rw [List.take_succ_eq_append_getElem h, List.countP_append, List.countP_cons, List.countP_nil]
  cases hm : decide (qs[k].fr ∈ C) <;> simp
theorem begN_le (C : List (BitVec 32)) (qs : List Prt) (k : Nat) : begN C qs k ≤ k := by
  unfold begN
  refine Nat.le_trans List.countP_le_length ?_
  rw [List.length_take]; omega
theorem CutParts.nx {L : List (BitVec 32)} {qs : List Prt} (h : CutParts L qs) {k : Nat} (hk : k < qs.length) : nxt L k = uv qs[k].fr ∧ nxt L (k + 1) = uv qs[k].up + 1 ∧ uv qs[k].fr ≤ uv qs[k].up := by
  have hL : k < L.length := by rw [← h.len]; exact hk
  rw [h.fr k hk hL, h.up k hk]
  exact ⟨nxt_at hL, nxt_step h.rise, end_ge h.rise hL⟩
theorem CutParts.all {L : List (BitVec 32)} {qs : List Prt} (h : CutParts L qs) {C : List (BitVec 32)} (hC : Rising C) : ∀ k, k ≤ qs.length →
    Rising (allN C qs k) ∧ (∀ x ∈ allN C qs k, uv x < nxt L k) ∧ (allN C qs k).length = lowC C (nxt L k) + begN C qs k
  | 0, _ => by
    have h0 : nxt L 0 = 0 := by
      obtain ⟨g, e⟩ := List.getElem?_eq_some_iff.1 h.zero
      rw [nxt_at g, e]; rfl
    refine ⟨List.Pairwise.nil, fun x hx => (by cases hx), ?_⟩
    rw [h0, lowC_zero]; rfl
  | k + 1, hk => by
    obtain ⟨i1, i2, i3⟩ := h.all hC k (by omega)
    have hlt : k < qs.length := hk
    obtain ⟨n1, n2, n3⟩ := h.nx hlt
    have hs := lowC_step hC n3
    rw [allN_step hlt, begN_step hlt]
    refine ⟨rising_app i1 (inside_rising hC _ _) fun x hx y hy => ?_, fun x hx => ?_, ?_⟩
    · have := i2 x hx
      have := (inside_bd n3 hy).1
      omega
    · rcases List.mem_append.1 hx with g | g
      · have := i2 x g
        omega
      · have := (inside_bd n3 g).2
        omega
    · rw [List.length_append, i3, n1, n2]
      omega
theorem CutParts.allLen {L : List (BitVec 32)} {qs : List Prt} (h : CutParts L qs) {C : List (BitVec 32)} (hC : Rising C) : (allN C qs qs.length).length = C.length + begN C qs qs.length := by
  have h1 := (h.all hC qs.length (Nat.le_refl _)).2.2
  have h2 : nxt L qs.length = 4294967296 := by
    unfold nxt
    rw [dif_neg (by rw [h.len]; omega)]
  rw [h2, lowC_all] at h1
  exact h1
theorem allN_len {L : List (BitVec 32)} {qs : List Prt} (h : CutParts L qs) {C : List (BitVec 32)} (hC : Rising C) {k : Nat} (hk : k ≤ qs.length) : (allN C qs k).length ≤ C.length + k := by
  have h1 := (h.all hC k hk).2.2
  have h2 := begN_le C qs k
  have h3 : lowC C (nxt L k) ≤ C.length := by unfold lowC; exact List.countP_le_length
  omega
/-- The begin of a part is its first point, the others are above it. -/
theorem inside_first (C : List (BitVec 32)) (lo hi : BitVec 32) : (insideV C lo hi)[0]? = some lo := rfl
theorem inside_later {C : List (BitVec 32)} {lo hi : BitVec 32} {m : Nat} (h : m < (insideV C lo hi).length) (hm : m ≠ 0) : uv lo < uv (insideV C lo hi)[m] ∧ uv (insideV C lo hi)[m] ≤ uv hi := by
  obtain ⟨j, rfl⟩ : ∃ j, m = j + 1 := ⟨m - 1, by omega⟩
  have e : (insideV C lo hi)[j + 1] = (C.filter (insB lo hi))[j]'(by unfold insideV at h; simpa using h) := rfl
  rw [e]
  have hmem := List.getElem_mem (l := C.filter (insB lo hi)) (n := j) (by unfold insideV at h; simpa using h)
  exact insB_iff.1 (List.mem_filter.1 hmem).2
end Go.Proofs.Ythcnihchfkmphaa
