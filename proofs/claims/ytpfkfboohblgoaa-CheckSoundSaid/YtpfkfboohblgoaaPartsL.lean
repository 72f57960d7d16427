/- Plain laws of parts that are made of cuts. Conditions: none. -/
import Derived.Test.YtpfkfboohblgoaaGFit17
import Derived.Test.YtpfkfboohblgoaaGMeet
import Derived.Test.YtpfkfboohblgoaaGVecC
namespace Go.Proofs.Ytpfkfboohblgoaa
open Go.RowKit

/-- These parts are the intervals of these cuts. -/
structure CutParts (L : List (BitVec 32)) (ps : List Prt) : Prop where
  rise : Rising L
  zero : L[0]? = some 0#32
  len : ps.length = L.length
  fr : ∀ (i : Nat) (h : i < ps.length) (h' : i < L.length), ps[i].fr = L[i]
  up : ∀ (i : Nat) (h : i < ps.length), ps[i].up = endV L i
theorem cut_parts {L : List (BitVec 32)} {n : Nat} {ranks : List Int} {ps : List Prt} (hr : Rising L) (h0 : L[0]? = some 0#32) (hl : ps.length = (partsF L n ranks).length) (hm : ps.map (fun p => (p.fr, p.up)) = (partsF L n ranks).map (fun q => (q.fr, q.up))) : CutParts L ps := by
  have hlen : ps.length = L.length := by rw [hl, partsF_len]
  have hg : ∀ (i : Nat) (h : i < ps.length), (ps[i].fr, ps[i].up) = (L.getD i 0#32, endV L i) := fun i h => by
    have h1 : (ps.map (fun p => (p.fr, p.up)))[i]? = some (ps[i].fr, ps[i].up) := by rw [List.getElem?_map, List.getElem?_eq_getElem h]; rfl
    rw [hm] at h1
    unfold partsF at h1
    rw [List.map_map, List.getElem?_map, List.getElem?_range (by omega)] at h1
    exact (Option.some.inj h1).symm
  exact ⟨hr, h0, hlen, fun i h h' => by have := congrArg Prod.fst (hg i h); simpa [List.getD_eq_getElem?_getD, h'] using this, fun i h => congrArg Prod.snd (hg i h)⟩
theorem CutParts.pos {L : List (BitVec 32)} {ps : List Prt} (h : CutParts L ps) : 0 < ps.length := by
  rw [h.len]; exact (List.getElem?_eq_some_iff.1 h.zero).1
theorem CutParts.meetG {L : List (BitVec 32)} {ps : List Prt} (h : CutParts L ps) : ∀ (d k : Nat), ps.length - k = d → k ≤ ps.length → meetG (nxt L k) (ps.drop k) = true
  | 0, k, hd, hk => by
    have e : k = ps.length := by omega
    rw [meetG_end _ (by omega)]
    have : ¬ k < L.length := by rw [← h.len]; omega
    unfold nxt
    rw [dif_neg this]; rfl
  | d + 1, k, hd, hk => by
    have hlt : k < ps.length := by omega
    have hL : k < L.length := by rw [← h.len]; exact hlt
    rw [meetG_step _ hlt, h.fr k hlt hL, h.up k hlt, nxt_at hL, ← nxt_step h.rise, h.meetG d (k + 1) (by omega) hlt, decide_eq_true (end_ge h.rise hL)]
    simp
theorem CutParts.meet {L : List (BitVec 32)} {ps : List Prt} (h : CutParts L ps) : meetV ps = 0 := by
  refine meetV_yes ?_
  have h1 := h.meetG ps.length 0 (by omega) (by omega)
  have h2 : nxt L 0 = 0 := by
    obtain ⟨g, e⟩ := List.getElem?_eq_some_iff.1 h.zero
    rw [nxt_at g, e]; rfl
  rw [h2, List.drop_zero] at h1
  exact h1
theorem inP_iff {a : BitVec 32} {p : Prt} : inP a p = true ↔ uv p.fr ≤ uv a ∧ uv a ≤ uv p.up := by
  unfold inP; rw [Bool.and_eq_true, decide_eq_true_iff, decide_eq_true_iff]
/-- An address is in its interval's part, and in no other one. -/
theorem CutParts.inIff {L : List (BitVec 32)} {ps : List Prt} (h : CutParts L ps) (a : BitVec 32) {k : Nat} (hk : k < ps.length) : inP a ps[k] = true ↔ k = ivN L a := by
  have hL : k < L.length := by rw [← h.len]; exact hk
  rw [inP_iff, h.fr k hk hL, h.up k hk]
  constructor
  · rintro ⟨h1, h2⟩
    have := atN_eq h.rise hL h1 (fun g => by rw [end_pos h.rise g] at h2; omega)
    unfold ivN; omega
  · intro e
    subst e
    exact ⟨iv_from h.zero a, iv_to h.rise h.zero a⟩
theorem CutParts.at {L : List (BitVec 32)} {ps : List Prt} (h : CutParts L ps) (a : BitVec 32) : coN ps a = ivN L a ∧ ivN L a < ps.length := by
  have hlt : ivN L a < ps.length := by rw [h.len]; exact ivN_lt h.zero a
  refine ⟨?_, hlt⟩
  have hle := coN_le ps a
  rcases Nat.lt_or_ge (coN ps a) ps.length with g | g
  · exact (h.inIff a g).1 (coN_end g)
  · have := coN_lt (ps := ps) (a := a) (j := ivN L a) (by omega) hlt
    rw [(h.inIff a hlt).2 rfl] at this; cases this
/-- Which points are in which part. -/
theorem CutParts.place {L : List (BitVec 32)} {ps : List Prt} (h : CutParts L ps) {l : List (BitVec 32)} {i : Nat} (hi : i < ps.length) {c : BitVec 32} (hc : c ∈ insideV l ps[i].fr ps[i].up) : coN ps c = i := by
  have hL : i < L.length := by rw [← h.len]; exact hi
  have hle : uv ps[i].fr ≤ uv ps[i].up := by rw [h.fr i hi hL, h.up i hi]; exact end_ge h.rise hL
  have hb := inside_bd hle hc
  have h1 := (h.inIff c hi).1 (inP_iff.2 hb)
  rw [(h.at c).1, ← h1]
theorem CutParts.best {L : List (BitVec 32)} {ps : List Prt} (h : CutParts L ps) (a : BitVec 32) {k : Nat} (hk : k < ps.length) : uv ps[k].fr ≤ uv a ↔ k ≤ ivN L a := by
  have hL : k < L.length := by rw [← h.len]; exact hk
  rw [h.fr k hk hL]
  constructor
  · intro g
    rcases Nat.lt_or_ge (ivN L a) k with q | q
    · have h1 := iv_next h.zero a (by omega)
      have h2 := h.rise.le (show ivN L a + 1 ≤ k from q) hL
      omega
    · exact q
  · intro g
    have h1 := iv_from h.zero a
    have h2 := h.rise.le g (ivN_lt h.zero a)
    omega
/-- Of a part's points the last one not above an address finds what the address finds. -/
theorem point_find {ls : List (List Rul)} {l : List (BitVec 32)} (hC : Cuts ls.flatten l) {lo hi a : BitVec 32} (h1 : uv lo ≤ uv a) (h2 : uv a ≤ uv hi) :
    ∃ (k : Nat) (h : k < (insideV l lo hi).length), atN (insideV l lo hi) a = k + 1 ∧ uv (insideV l lo hi)[k] ≤ uv a ∧ ∀ t ∈ ls, findL t (insideV l lo hi)[k] = findL t a := by
  have hr := inside_rising hC.rise lo hi
  have hpos : 0 < (insideV l lo hi).length := by unfold insideV; simp
  have hle := atN_le (insideV l lo hi) a
  have h0 : (insideV l lo hi)[0] = lo := rfl
  have hat : 0 < atN (insideV l lo hi) a := by
    rcases Nat.lt_or_ge 0 (atN (insideV l lo hi) a) with g | g
    · exact g
    · exfalso
      have e : atN (insideV l lo hi) a = 0 := by omega
      have h3 := atN_end (l := insideV l lo hi) (a := a) (by omega)
      simp only [e] at h3
      exact h3 (by rw [h0]; exact h1)
  have hk : atN (insideV l lo hi) a - 1 < (insideV l lo hi).length := by omega
  have hka := atN_lt (l := insideV l lo hi) (a := a) (j := atN (insideV l lo hi) a - 1) (by omega) hk
  refine ⟨atN (insideV l lo hi) a - 1, hk, by omega, hka, fun t ht => ?_⟩
  refine find_same hC (fun c hc => ⟨fun g => by omega, fun g => ?_⟩) ht
  rcases Int.lt_or_le (uv lo) (uv c) with q | q
  · have hm : c ∈ insideV l lo hi := inside_mem.2 (.inr ⟨hc, q, by omega⟩)
    obtain ⟨j, hj, rfl⟩ := List.getElem_of_mem hm
    rcases Nat.lt_or_ge j (atN (insideV l lo hi) a) with x | x
    · exact hr.le (by omega) hk
    · exfalso
      have h3 := atN_end (l := insideV l lo hi) (a := a) (by omega)
      have h4 := hr.le x hj
      omega
  · have h3 := hr.le (Nat.zero_le (atN (insideV l lo hi) a - 1)) hk
    rw [h0] at h3
    omega
end Go.Proofs.Ytpfkfboohblgoaa
