/- Plain laws of ranks that fall: at all addresses of a part, and of a whole certificate. Conditions: none. -/
import Derived.Test.YtpfkfboohblgoaaGChk
import Derived.Test.YtpfkfboohblgoaaPartsL
import Derived.Test.YtpfkfboohblgoaaGVecC
namespace Go.Proofs.Ytpfkfboohblgoaa
open Go.RowKit

theorem stepN_congr {ls : List (List Rul)} {a b : BitVec 32} (h : ∀ t ∈ ls, findL t a = findL t b) (v : Int) : stepN ls a v = stepN ls b v := by
  unfold stepN
  by_cases hv : v < 0
  · rw [if_pos hv, if_pos hv]
  · rw [if_neg hv, if_neg hv]
    cases hk : ls[v.toNat]? with
    | none => rfl
    | some t =>
      show stepO t a = stepO t b
      unfold stepO
      rw [h t (List.mem_of_getElem? hk)]
theorem badS_congr {ls : List (List Rul)} {a b : BitVec 32} (h : ∀ t ∈ ls, findL t a = findL t b) (rk : List Int) (v : Nat) : badS ls rk a v = badS ls rk b v := by
  unfold badS; rw [stepN_congr h]
theorem fallV_two (ls : List (List Rul)) (pts : List (BitVec 32)) (rk : List Int) : fallV ls pts rk = 0 ∨ fallV ls pts rk = 16 := by
  unfold fallV
  split <;> simp
theorem fallV_zero {ls : List (List Rul)} {pts : List (BitVec 32)} {rk : List Int} : fallV ls pts rk = 0 ↔ ∀ a ∈ pts, ∀ v, v < ls.length → badS ls rk a v = false := by
  constructor
  · intro h a ha v hv
    cases hb : badS ls rk a v with
    | false => rfl
    | true =>
      obtain ⟨k, hk, rfl⟩ := List.getElem_of_mem ha
      rw [fallV_bad hk hv hb] at h
      cases h
  · intro h
    exact fallV_ok (k := pts.length) (fun a ha => h a (List.mem_of_mem_take ha)) (Nat.le_refl _)
/-- Ranks fall at the points of a part just if they fall at all its addresses. -/
theorem fall_iff {ls : List (List Rul)} {l : List (BitVec 32)} (hC : Cuts ls.flatten l) {lo hi : BitVec 32} (hle : uv lo ≤ uv hi) (rk : List Int) :
    fallV ls (insideV l lo hi) rk = 0 ↔ ∀ a, uv lo ≤ uv a → uv a ≤ uv hi → ∀ v, v < ls.length → badS ls rk a v = false := by
  rw [fallV_zero]
  constructor
  · intro h a h1 h2 v hv
    obtain ⟨k, hk, _, _, hf⟩ := point_find hC h1 h2
    rw [← badS_congr hf]
    exact h _ (List.getElem_mem hk) v hv
  · intro h a ha v hv
    obtain ⟨h1, h2⟩ := inside_bd hle ha
    exact h a h1 h2 v hv
theorem partV_eq {l : List (BitVec 32)} {ls : List (List Rul)} {p : Prt} {rk : List Int} (h : rk.length = ls.length) : partV l ls p rk = fallV ls (insideV l p.fr p.up) rk := by
  unfold partV; rw [if_neg (by simp [h])]
theorem partV_zero {l : List (BitVec 32)} {ls : List (List Rul)} {p : Prt} {rk : List Int} (h : partV l ls p rk = 0) : rk.length = ls.length ∧ fallV ls (insideV l p.fr p.up) rk = 0 := by
  unfold partV at h
  split at h
  · cases h
  · rename_i g; exact ⟨by simpa using g, h⟩
/-- A part cut in two. -/
theorem fall_split {ls : List (List Rul)} {l : List (BitVec 32)} (hC : Cuts ls.flatten l) {lo mid hi : BitVec 32} (h1 : uv lo < uv mid) (h2 : uv mid ≤ uv hi) (rk : List Int) :
    fallV ls (insideV l lo hi) rk = 0 ↔ fallV ls (insideV l lo (mid - 1#32)) rk = 0 ∧ fallV ls (insideV l mid hi) rk = 0 := by
  have hb := uv_bd lo
  have hd := uv_dec (x := mid) (by omega)
  rw [fall_iff hC (by omega), fall_iff hC (by omega), fall_iff hC h2]
  constructor
  · intro h
    exact ⟨fun a g1 g2 => h a g1 (by omega), fun a g1 g2 => h a (by omega) g2⟩
  · rintro ⟨ha, hb⟩ a g1 g2
    rcases Int.lt_or_le (uv a) (uv mid) with q | q
    · exact ha a g1 (by omega)
    · exact hb a q g2
theorem badS_no {ls : List (List Rul)} {rk : List Int} {a : BitVec 32} {v : Nat} (h : badS ls rk a v = false) {x : Int} (hs : stepN ls a v = some x) : 0 ≤ x ∧ x < ls.length ∧ rk.getD x.toNat 0 < rk.getD v 0 := by
  unfold badS at h
  rw [hs] at h
  simp only [badX, Bool.or_eq_false_iff, decide_eq_false_iff_not] at h
  omega
theorem partsZ_zero {l : List (BitVec 32)} {ls : List (List Rul)} : ∀ {qs : List (Prt × List Int)}, partsZ l ls qs = 0 → ∀ q ∈ qs, partV l ls q.1 q.2 = 0
  | [], _, q, hq => by cases hq
  | x :: t, h, q, hq => by
    unfold partsZ at h
    split at h
    · exact absurd h (by assumption)
    · rename_i g
      rcases List.mem_cons.1 hq with rfl | hq
      · simpa using g
      · exact partsZ_zero h q hq
theorem partsZ_all {l : List (BitVec 32)} {ls : List (List Rul)} : ∀ {qs : List (Prt × List Int)}, (∀ q ∈ qs, partV l ls q.1 q.2 = 0) → partsZ l ls qs = 0
  | [], _ => rfl
  | x :: t, h => by
    unfold partsZ
    rw [if_neg (by simp [h x (List.mem_cons_self ..)])]
    exact partsZ_all fun q hq => h q (List.mem_cons_of_mem _ hq)
theorem partsZ_three (l : List (BitVec 32)) (ls : List (List Rul)) : ∀ qs, partsZ l ls qs = 0 ∨ partsZ l ls qs = 1 ∨ partsZ l ls qs = 16
  | [] => .inl rfl
  | x :: t => by
    unfold partsZ
    split
    · exact partV_three ..
    · exact partsZ_three l ls t
/-- Parts that meet have each address in one of them. -/
theorem meetG_has : ∀ {ps : List Prt} {nx : Int}, meetG nx ps = true → ∀ a : BitVec 32, nx ≤ uv a → ∃ p ∈ ps, uv p.fr ≤ uv a ∧ uv a ≤ uv p.up
  | [], nx, h, a, ha => by
    have := uv_bd a
    simp only [meetG, beq_iff_eq] at h
    omega
  | p :: ps, nx, h, a, ha => by
    simp only [meetG, Bool.and_eq_true, beq_iff_eq, decide_eq_true_eq] at h
    obtain ⟨h1, h2, h3⟩ := h
    rcases Int.lt_or_le (uv p.up) (uv a) with q | q
    · obtain ⟨r, hr, g⟩ := meetG_has h3 a (by omega)
      exact ⟨r, List.mem_cons_of_mem _ hr, g⟩
    · exact ⟨p, List.mem_cons_self .., by omega, q⟩
theorem meetV_has {ps : List Prt} (h : meetV ps = 0) (a : BitVec 32) : ∃ p ∈ ps, uv p.fr ≤ uv a ∧ uv a ≤ uv p.up := by
  unfold meetV at h
  split at h
  · exact meetG_has (by assumption) a (uv_nonneg a)
  · cases h
/-- What is accepted as free of loops has falling ranks at each address. -/
theorem free_falls {l : List (BitVec 32)} {ls : List (List Rul)} {c : Crt} (hC : Cuts ls.flatten l) (hlen : c.rks.length = c.ps.length) (hm : meetV c.ps = 0) (hz : partsZ l ls (c.ps.zip c.rks) = 0) (a : BitVec 32) :
    ∃ rk : List Int, ∀ (v : Nat) (x : Int), v < ls.length → stepN ls a v = some x → 0 ≤ x ∧ x < ls.length ∧ rk.getD x.toNat 0 < rk.getD v 0 := by
  obtain ⟨p, hp, h1, h2⟩ := meetV_has hm a
  obtain ⟨i, hi, rfl⟩ := List.getElem_of_mem hp
  have hr : i < c.rks.length := by omega
  have hq : (c.ps[i], c.rks[i]) ∈ c.ps.zip c.rks := by
    refine List.mem_iff_getElem.2 ⟨i, by simp; omega, by simp⟩
  have h3 := (partV_zero (partsZ_zero hz _ hq)).2
  refine ⟨c.rks[i], fun v x hv hs => badS_no ((fall_iff (lo := c.ps[i].fr) (hi := c.ps[i].up) hC (by omega) c.rks[i]).1 h3 a h1 h2 v hv) hs⟩
end Go.Proofs.Ytpfkfboohblgoaa
