/- Plain laws of traces: one that holds goes round, and a loop's nodes from any of them on are one. Conditions: none. -/
import Derived.Test.YtfldjlibnjgdaaaGreatGPl
namespace Go.Proofs.YtfldjlibnjgdaaaGreat
open Go.RowKit

theorem trace_iff {ls : List (List Rul)} (hm : netMayV ls = 0) {a : BitVec 32} {tr : List Int} :
    traceV ls a tr = 0 ↔ 0 < tr.length ∧ ∀ j, j < tr.length → nxv (vecV ls a) (tr.getD j 0) = tr.getD ((j + 1) % tr.length) 0 ∧ 0 ≤ tr.getD ((j + 1) % tr.length) 0 := by
  constructor
  · intro h
    have h0 : 0 < tr.length := by
      rcases Nat.eq_zero_or_pos tr.length with g | g
      · unfold traceV at h; rw [if_pos g] at h; cases h
      · exact g
    refine ⟨h0, fun j hj => ?_⟩
    cases hb : trOkV ls a tr j with
    | false => rw [traceV_no hj hb] at h; cases h
    | true =>
      unfold trOkV at hb
      have hs := of_decide_eq_true hb
      exact ⟨((step_nx hm).1 hs).1, (step_in hm hs).2.2.1⟩
  · rintro ⟨h0, h⟩
    refine traceV_yes h0 fun j hj => ?_
    unfold trOkV
    obtain ⟨h1, h2⟩ := h j hj
    exact decide_eq_true ((step_nx hm).2 ⟨h1, by omega⟩)
theorem trace_it {ls : List (List Rul)} (hm : netMayV ls = 0) {a : BitVec 32} {tr : List Int} (h : traceV ls a tr = 0) : ∀ j, itv (vecV ls a) j (tr.getD 0 0) = tr.getD (j % tr.length) 0
  | 0 => by rw [Nat.zero_mod]; rfl
  | j + 1 => by
    obtain ⟨h0, hn⟩ := (trace_iff hm).1 h
    rw [itv_out, trace_it hm h j, (hn _ (Nat.mod_lt _ h0)).1, Nat.mod_add_mod]
theorem trace_on {ls : List (List Rul)} (hm : netMayV ls = 0) {a : BitVec 32} {tr : List Int} (h : traceV ls a tr = 0) : 0 < tr.length ∧ OnL (vecV ls a) (tr.getD 0 0) ∧ itv (vecV ls a) tr.length (tr.getD 0 0) = tr.getD 0 0 := by
  obtain ⟨h0, hn⟩ := (trace_iff hm).1 h
  have hb : itv (vecV ls a) tr.length (tr.getD 0 0) = tr.getD 0 0 := by rw [trace_it hm h, Nat.mod_self]
  have hp := (hn (tr.length - 1) (by omega)).2
  rw [show tr.length - 1 + 1 = tr.length by omega, Nat.mod_self] at hp
  exact ⟨h0, ⟨hp, tr.length, h0, hb⟩, hb⟩
theorem wayV_getD {v : List Int} {x : Int} {m j : Nat} (h : j < m) : (wayV v x m).getD j 0 = itv v j x := by
  rw [List.getD_eq_getElem?_getD, wayV_get? h]; rfl
theorem trace_way {ls : List (List Rul)} (hm : netMayV ls = 0) {a : BitVec 32} {y : Int} (hy : OnL (vecV ls a) y) {m : Nat} (h0 : 0 < m) (hb : itv (vecV ls a) m y = y) : traceV ls a (wayV (vecV ls a) y m) = 0 := by
  refine (trace_iff hm).2 ⟨by rw [wayV_len]; exact h0, fun j hj => ?_⟩
  rw [wayV_len] at hj ⊢
  have e : (wayV (vecV ls a) y m).getD ((j + 1) % m) 0 = itv (vecV ls a) (j + 1) y := by
    rw [wayV_getD (Nat.mod_lt _ h0)]
    rcases Nat.lt_or_ge (j + 1) m with g | g
    · rw [Nat.mod_eq_of_lt g]
    · rw [show j + 1 = m by omega, Nat.mod_self, hb]; rfl
  rw [e, wayV_getD hj]
  exact ⟨(itv_out _ _ _).symm, (hy.it (vec_ok hm a) _).1⟩
theorem IsPer.it {v : List Int} {b : Int} {p : Nat} (h : IsPer v b p) (hb : 0 ≤ b) (i : Nat) : IsPer v (itv v i b) p := by
  refine ⟨h.pos, by rw [← itv_add, Nat.add_comm, itv_add, h.back], fun j h0 hj he => ?_⟩
  obtain ⟨m, hm⟩ := (h.on hb).reach i
  refine h.first j h0 hj ?_
  conv => lhs; rw [← hm]
  rw [← itv_add, Nat.add_comm, itv_add, he, hm]
theorem way_turned {v : List Int} {b : Int} {p : Nat} (h : IsPer v b p) {i : Nat} (hi : i ≤ p) : (wayV v b p).drop i ++ (wayV v b p).take i = wayV v (itv v i b) p := by
  apply List.ext_getElem?
  intro j
  have hl : ((wayV v b p).drop i).length = p - i := by rw [List.length_drop, wayV_len]
  rcases Nat.lt_or_ge j p with g | g
  · rw [wayV_get? g, ← itv_add]
    rcases Nat.lt_or_ge j (p - i) with q | q
    · rw [List.getElem?_append_left (by omega), List.getElem?_drop, wayV_get? (by omega), Nat.add_comm]
    · rw [List.getElem?_append_right (by omega), hl, List.getElem?_take_of_lt (by omega), wayV_get? (by omega)]
      conv => rhs; rw [show j + i = (j - (p - i)) + p by omega, itv_add, h.back]
  · rw [List.getElem?_eq_none (by rw [List.length_append, hl, List.length_take, wayV_len]; omega), List.getElem?_eq_none (by rw [wayV_len]; omega)]
theorem way_twice {v : List Int} {y : Int} {p : Nat} (hb : itv v p y = y) : wayV v y p ++ wayV v y p = wayV v y (p + p) := by
  apply List.ext_getElem?
  intro j
  rcases Nat.lt_or_ge j p with g | g
  · rw [List.getElem?_append_left (by rw [wayV_len]; exact g), wayV_get? g, wayV_get? (by omega)]
  · rw [List.getElem?_append_right (by rw [wayV_len]; exact g), wayV_len]
    rcases Nat.lt_or_ge j (p + p) with q | q
    · rw [wayV_get? (by omega), wayV_get? q]
      conv => rhs; rw [show j = (j - p) + p by omega, itv_add, hb]
    · rw [List.getElem?_eq_none (by rw [wayV_len]; omega), List.getElem?_eq_none (by rw [wayV_len]; omega)]
theorem way_drop (v : List Int) (y : Int) (p : Nat) : (wayV v y p).drop 1 = wayV v (itv v 1 y) (p - 1) := by
  apply List.ext_getElem?
  intro j
  rw [List.getElem?_drop]
  rcases Nat.lt_or_ge j (p - 1) with g | g
  · rw [wayV_get? (by omega), wayV_get? g, ← itv_add, Nat.add_comm]
  · rw [List.getElem?_eq_none (by rw [wayV_len]; omega), List.getElem?_eq_none (by rw [wayV_len]; omega)]
theorem trace_short {ls : List (List Rul)} (hm : netMayV ls = 0) {a : BitVec 32} {y : Int} {p : Nat} (h : IsPer (vecV ls a) y p) (hp : 1 < p) : traceV ls a ((wayV (vecV ls a) y p).drop 1) = 17 := by
  rcases traceV_two ls a ((wayV (vecV ls a) y p).drop 1) with g | g
  · exfalso
    rw [way_drop] at g
    obtain ⟨_, hn⟩ := (trace_iff hm).1 g
    have h1 := (hn (p - 2) (by rw [wayV_len]; omega)).1
    rw [wayV_len, wayV_getD (by omega), show p - 2 + 1 = p - 1 by omega, Nat.mod_self, wayV_getD (by omega), ← itv_out, ← itv_add, show p - 2 + 1 + 1 = p by omega, h.back] at h1
    exact h.first 1 (by omega) hp h1.symm
  · exact g
theorem trace_nil (ls : List (List Rul)) (a : BitVec 32) : traceV ls a [] = 17 := rfl
/-- What the law CheckTraces asks of the nodes of a loop. -/
theorem loop_traces {ls : List (List Rul)} (hm : netMayV ls = 0) {a : BitVec 32} {c : List Int} (h : LoopIs (vecV ls a) c) {i : Nat} (hi : i < c.length) :
    traceV ls a (c.drop i ++ c.take i) = 0 ∧ traceV ls a ((c.drop i ++ c.take i) ++ (c.drop i ++ c.take i)) = 0 ∧ (1 < c.length → traceV ls a ((c.drop i ++ c.take i).drop 1) = 17) := by
  obtain ⟨b, p, hb, hp, rfl⟩ := h.cons (by intro e; rw [e] at hi; exact absurd hi (Nat.not_lt_zero _))
  rw [wayV_len] at hi
  have hy := hp.it hb.1.1 i
  have hon := hb.1.it (vec_ok hm a) i
  rw [way_turned hp (Nat.le_of_lt hi), way_twice hy.back, wayV_len]
  exact ⟨trace_way hm hon hp.pos hy.back, trace_way hm hon (by have := hp.pos; omega) (by rw [itv_add, hy.back, hy.back]), fun h1 => trace_short hm hy h1⟩
theorem trace_loop {ls : List (List Rul)} (hm : netMayV ls = 0) {a : BitVec 32} {c raw : List Int} (h : LoopIs (vecV ls a) c) (ht : traceV ls a raw = 0) : c ≠ [] ∧ 0 < raw.length := by
  obtain ⟨h0, hon, _⟩ := trace_on hm ht
  exact ⟨fun e => by subst e; exact LoopIs.nil.1 h _ hon, h0⟩
end Go.Proofs.YtfldjlibnjgdaaaGreat
