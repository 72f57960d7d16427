/- Plain laws of the cuts within bounds. Conditions: none. -/
import Derived.Test.YtamlalablblfeaaInside
namespace Go.Proofs.Ytamlalablblfeaa
open Go.RowKit

theorem rising_ext {a b : List (BitVec 32)} (ha : Rising a) (hb : Rising b) (h : ∀ c, c ∈ a ↔ c ∈ b) : a = b :=
  List.Perm.eq_of_pairwise (le := fun x y => uv x < uv y) (fun x y _ _ h1 h2 => by omega) ha hb
    ((List.perm_ext_iff_of_nodup (ha.imp (fun {x y} h e => by subst e; omega)) (hb.imp (fun {x y} h e => by subst e; omega))).2 h)
theorem insB_iff {lo hi c : BitVec 32} : insB lo hi c = true ↔ uv lo < uv c ∧ uv c ≤ uv hi := by
  unfold insB; rw [Bool.and_eq_true, decide_eq_true_iff, decide_eq_true_iff]
theorem inside_mem {l : List (BitVec 32)} {lo hi c : BitVec 32} : c ∈ insideV l lo hi ↔ c = lo ∨ (c ∈ l ∧ uv lo < uv c ∧ uv c ≤ uv hi) := by
  unfold insideV; rw [List.mem_cons, List.mem_filter, insB_iff]
theorem inside_rising {l : List (BitVec 32)} (hr : Rising l) (lo hi : BitVec 32) : Rising (insideV l lo hi) := by
  unfold insideV Rising
  rw [List.pairwise_cons]
  refine ⟨fun c hc => ?_, hr.sublist List.filter_sublist⟩
  rw [List.mem_filter, insB_iff] at hc
  exact hc.2.1
theorem rising_app {a b : List (BitVec 32)} (ha : Rising a) (hb : Rising b) (h : ∀ x ∈ a, ∀ y ∈ b, uv x < uv y) : Rising (a ++ b) := List.pairwise_append.2 ⟨ha, hb, h⟩
theorem uv_dec {x : BitVec 32} (h : 0 < uv x) : uv (x - 1#32) = uv x - 1 := uv_pred h
theorem inside_bd {l : List (BitVec 32)} {lo hi c : BitVec 32} (h : uv lo ≤ uv hi) (hc : c ∈ insideV l lo hi) : uv lo ≤ uv c ∧ uv c ≤ uv hi := by
  rcases inside_mem.1 hc with rfl | ⟨_, h1, h2⟩
  · exact ⟨Int.le_refl _, h⟩
  · exact ⟨Int.le_of_lt h1, h2⟩
/-- A part cut in two. -/
theorem inside_split {l : List (BitVec 32)} (hr : Rising l) {lo mid hi : BitVec 32} (h1 : uv lo < uv mid) (h2 : uv mid ≤ uv hi) :
    (mid ∈ l → insideV l lo hi = insideV l lo (mid - 1#32) ++ insideV l mid hi) ∧ (mid ∉ l → insideV l lo hi = insideV l lo (mid - 1#32) ++ (insideV l mid hi).tail) := by
  have hb := uv_bd lo
  have hd := uv_dec (x := mid) (by omega)
  have hA := inside_rising hr lo hi
  have hB := inside_rising hr lo (mid - 1#32)
  have hC := inside_rising hr mid hi
  have hlow : ∀ x ∈ insideV l lo (mid - 1#32), uv x < uv mid := fun x hx => by have := inside_bd (by omega) hx; omega
  have htail : ∀ c, c ∈ (insideV l mid hi).tail ↔ c ∈ l ∧ uv mid < uv c ∧ uv c ≤ uv hi := fun c => by
    unfold insideV; rw [List.tail_cons, List.mem_filter, insB_iff]
  refine ⟨fun hm => ?_, fun hm => ?_⟩
  · refine rising_ext hA (rising_app hB hC fun x hx y hy => ?_) fun c => ?_
    · have g1 := hlow x hx
      have g2 := (inside_bd h2 hy).1
      omega
    · rw [List.mem_append, inside_mem, inside_mem, inside_mem, hd]
      constructor
      · rintro (h | ⟨h, g1, g2⟩)
        · exact .inl (.inl h)
        · rcases Int.lt_trichotomy (uv c) (uv mid) with q | q | q
          · exact .inl (.inr ⟨h, g1, by omega⟩)
          · exact .inr (.inl (uv_inj q))
          · exact .inr (.inr ⟨h, q, g2⟩)
      · rintro ((h | ⟨h, g1, g2⟩) | (h | ⟨h, g1, g2⟩))
        · exact .inl h
        · exact .inr ⟨h, g1, by omega⟩
        · rw [h]; exact .inr ⟨hm, h1, h2⟩
        · exact .inr ⟨h, by omega, g2⟩
  · refine rising_ext hA (rising_app hB (hC.sublist (List.tail_sublist _)) fun x hx y hy => ?_) fun c => ?_
    · have g1 := hlow x hx
      have g2 := (htail y).1 hy
      omega
    · rw [List.mem_append, inside_mem, inside_mem, htail, hd]
      constructor
      · rintro (h | ⟨h, g1, g2⟩)
        · exact .inl (.inl h)
        · rcases Int.lt_trichotomy (uv c) (uv mid) with q | q | q
          · exact .inl (.inr ⟨h, g1, by omega⟩)
          · exact absurd (uv_inj q ▸ h) hm
          · exact .inr ⟨h, q, g2⟩
      · rintro ((h | ⟨h, g1, g2⟩) | ⟨h, g1, g2⟩)
        · exact .inl h
        · exact .inr ⟨h, g1, by omega⟩
        · exact .inr ⟨h, by omega, g2⟩
/-- Three numbers: the least, the greatest, and the other one. -/
theorem three_order (x y z : BitVec 32) : ∃ lo hi md : BitVec 32, min (uv x) (min (uv y) (uv z)) = uv lo ∧ max (uv x) (max (uv y) (uv z)) = uv hi ∧ x ^^^ y ^^^ z ^^^ lo ^^^ hi = md ∧ uv lo ≤ uv md ∧ uv md ≤ uv hi := by
  have hx : ∀ (a b c : Bool), ((((a ^^ b) ^^ c) ^^ a) ^^ c) = b ∧ ((((a ^^ b) ^^ c) ^^ a) ^^ b) = c ∧ ((((a ^^ b) ^^ c) ^^ c) ^^ b) = a ∧ ((((a ^^ b) ^^ c) ^^ b) ^^ c) = a ∧ ((((a ^^ b) ^^ c) ^^ b) ^^ a) = c ∧ ((((a ^^ b) ^^ c) ^^ c) ^^ a) = b := by decide
  have e1 : x ^^^ y ^^^ z ^^^ x ^^^ z = y := BitVec.eq_of_getLsbD_eq fun i _ => by simp only [BitVec.getLsbD_xor]; exact (hx _ _ _).1
  have e2 : x ^^^ y ^^^ z ^^^ x ^^^ y = z := BitVec.eq_of_getLsbD_eq fun i _ => by simp only [BitVec.getLsbD_xor]; exact (hx _ _ _).2.1
  have e3 : x ^^^ y ^^^ z ^^^ z ^^^ y = x := BitVec.eq_of_getLsbD_eq fun i _ => by simp only [BitVec.getLsbD_xor]; exact (hx _ _ _).2.2.1
  have e4 : x ^^^ y ^^^ z ^^^ y ^^^ z = x := BitVec.eq_of_getLsbD_eq fun i _ => by simp only [BitVec.getLsbD_xor]; exact (hx _ _ _).2.2.2.1
  have e5 : x ^^^ y ^^^ z ^^^ y ^^^ x = z := BitVec.eq_of_getLsbD_eq fun i _ => by simp only [BitVec.getLsbD_xor]; exact (hx _ _ _).2.2.2.2.1
  have e6 : x ^^^ y ^^^ z ^^^ z ^^^ x = y := BitVec.eq_of_getLsbD_eq fun i _ => by simp only [BitVec.getLsbD_xor]; exact (hx _ _ _).2.2.2.2.2
  rcases Int.le_total (uv x) (uv y) with h1 | h1 <;> rcases Int.le_total (uv y) (uv z) with h2 | h2
  · exact ⟨x, z, y, by omega, by omega, e1, h1, h2⟩
  · rcases Int.le_total (uv x) (uv z) with h3 | h3
    · exact ⟨x, y, z, by omega, by omega, e2, h3, h2⟩
    · exact ⟨z, y, x, by omega, by omega, e3, h3, h1⟩
  · rcases Int.le_total (uv x) (uv z) with h3 | h3
    · exact ⟨y, z, x, by omega, by omega, e4, h1, h3⟩
    · exact ⟨y, x, z, by omega, by omega, e5, h2, h3⟩
  · exact ⟨z, x, y, by omega, by omega, e6, h2, h1⟩
end Go.Proofs.Ytamlalablblfeaa
