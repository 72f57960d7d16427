/- Plain laws for the law CheckRanks: nodes more that do nothing, and ranks twice as much. Conditions: none. -/
import Derived.Test.YtpfkfboohblgoaaGShort
import Derived.Test.YtpfkfboohblgoaaFallL
namespace Go.Proofs.Ytpfkfboohblgoaa
open Go.RowKit

theorem ruleMay_mono {r : Rul} {m n : Int} (h : ruleMayV r m = 0) (hmn : m ≤ n) : ruleMayV r n = 0 := by
  unfold ruleMayV at *
  by_cases h0 : mayV r.pa r.pl = 0
  · rw [if_neg (by simp [h0])] at *
    by_cases ha : r.act = 1
    · rw [if_pos ha] at *
      by_cases hb : r.nx < 0 ∨ m ≤ r.nx
      · rw [if_pos hb] at h; cases h
      · rw [if_neg (by omega)]
    · rw [if_neg ha] at *
      exact h
  · rw [if_pos h0] at h; exact absurd h h0
theorem tabG_mono {m n : Int} (hmn : m ≤ n) : ∀ (l : List Rul) (p : Option Rul), tabG m p l = 0 → tabG n p l = 0
  | [], _, _ => rfl
  | r :: l, p, h => by
    unfold tabG at *
    by_cases hr : ruleMayV r m = 0
    · rw [if_neg (by simp [hr])] at h
      rw [if_neg (by simp [ruleMay_mono hr hmn])]
      by_cases hb : badOrd p r = true
      · rw [if_pos hb] at h; cases h
      · rw [if_neg hb] at *
        exact tabG_mono hmn l _ h
    · rw [if_pos hr] at h; exact absurd h hr
/-- As many nodes more, without rules. -/
def wideN (ls : List (List Rul)) : List (List Rul) := ls ++ List.replicate ls.length []
theorem wideN_len (ls : List (List Rul)) : (wideN ls).length = 2 * ls.length := by unfold wideN; rw [List.length_append, List.length_replicate]; omega
theorem wideN_flat (ls : List (List Rul)) : (wideN ls).flatten = ls.flatten := by unfold wideN; rw [List.flatten_append]; simp
theorem wideN_size (ls : List (List Rul)) : sizeN (wideN ls) = sizeN ls := by rw [← sizeN_flat, ← sizeN_flat, wideN_flat]
theorem wideN_ok {ls : List (List Rul)} (h : TablesOk ls) : TablesOk (wideN ls) := fun l hl => by
  rcases List.mem_append.1 hl with g | g
  · exact h l g
  · rw [List.eq_of_mem_replicate g]; exact fun r h => by cases h
theorem wideN_may {ls : List (List Rul)} (h : netMayV ls = 0) (h8 : ls.length ≤ 128) : netMayV (wideN ls) = 0 := by
  obtain ⟨h1, h2, h3⟩ := netMay_tabs h
  unfold netMayV
  rw [if_neg (by rw [wideN_len, wideN_size]; omega)]
  refine netG_zero fun l hl => ?_
  rcases List.mem_append.1 hl with g | g
  · exact tabG_mono (by rw [wideN_len]; omega) l none (h3 l g)
  · rw [List.eq_of_mem_replicate g]; rfl
theorem wideN_step {ls : List (List Rul)} {a : BitVec 32} {v : Int} : stepN (wideN ls) a v = stepN ls a v := by
  unfold stepN wideN
  by_cases h : v < 0
  · rw [if_pos h, if_pos h]
  · rw [if_neg h, if_neg h]
    by_cases g : v.toNat < ls.length
    · rw [List.getElem?_append_left g]
    · rw [List.getElem?_append_right (by omega), List.getElem?_eq_none (by omega : ls.length ≤ v.toNat), List.getElem?_replicate]
      split <;> rfl
/-- Each rank twice as much, and as many more of 0. -/
def dblR (r : List Int) : List Int := r.map (2 * ·) ++ List.replicate r.length 0
theorem dblR_len (r : List Int) : (dblR r).length = 2 * r.length := by unfold dblR; rw [List.length_append, List.length_map, List.length_replicate]; omega
theorem dblR_at {r : List Int} {k : Nat} (h : k < r.length) : (dblR r)[k]? = some (2 * r[k]) := by
  unfold dblR
  rw [List.getElem?_append_left (by simpa using h), List.getElem?_map, List.getElem?_eq_getElem h]; rfl
theorem dblR_zero {r : List Int} {k : Nat} (h : r.length ≤ k) (h2 : k < 2 * r.length) : (dblR r)[k]? = some 0 := by
  unfold dblR
  rw [List.getElem?_append_right (by simpa using h), List.getElem?_replicate, if_pos (by simp; omega)]
theorem dblR_get {r : List Int} {k : Nat} (h : k < r.length) : (dblR r).getD k 0 = 2 * r.getD k 0 := by
  rw [List.getD_eq_getElem?_getD, dblR_at h, List.getD_eq_getElem?_getD, List.getElem?_eq_getElem h]; rfl
theorem dblR_mem {r : List Int} {n : Int} (hn : (r.length : Int) = n) (h : ∀ x ∈ r, 0 ≤ x ∧ x < n) : ∀ x ∈ dblR r, 0 ≤ x ∧ x < 2 * n := fun x hx => by
  rcases List.mem_append.1 hx with g | g
  · obtain ⟨y, hy, rfl⟩ := List.mem_map.1 g
    have := h y hy; omega
  · obtain ⟨h1, h2⟩ := List.mem_replicate.1 g
    omega
theorem step_in {ls : List (List Rul)} (h : netMayV ls = 0) {a : BitVec 32} {v x : Int} (hs : stepN ls a v = some x) : 0 ≤ v ∧ v < ls.length ∧ 0 ≤ x ∧ x < ls.length := by
  unfold stepN at hs
  by_cases hv : v < 0
  · rw [if_pos hv] at hs; cases hs
  · rw [if_neg hv] at hs
    cases hk : ls[v.toNat]? with
    | none => rw [hk] at hs; cases hs
    | some t =>
      rw [hk] at hs
      have hl := (List.getElem?_eq_some_iff.1 hk).1
      have := step_bd h (List.mem_of_getElem? hk) a hs
      omega
theorem dbl_part {ls : List (List Rul)} {l : List (BitVec 32)} (h : netMayV ls = 0) {p q : Prt} {r : List Int} (hr : r.length = ls.length) (h1 : q.fr = p.fr) (h2 : q.up = p.up) : partV l (wideN ls) q (dblR r) = partV l ls p r := by
  rw [partV_eq (by rw [dblR_len, wideN_len, hr]), partV_eq hr, h1, h2]
  have key : ∀ a, (List.range (wideN ls).length).any (badS (wideN ls) (dblR r) a) = (List.range ls.length).any (badS ls r a) := fun a => by
    rw [Bool.eq_iff_iff, List.any_eq_true, List.any_eq_true]
    have hb : ∀ v, badS (wideN ls) (dblR r) a v = true ↔ badS ls r a v = true := fun v => by
      unfold badS
      rw [wideN_step]
      cases hs : stepN ls a v with
      | none => exact Iff.rfl
      | some x =>
        obtain ⟨g1, g2, g3, g4⟩ := step_in h hs
        show badX _ _ _ _ = true ↔ badX _ _ _ _ = true
        unfold badX
        rw [wideN_len, dblR_get (by omega), dblR_get (by omega)]
        simp only [Bool.or_eq_true, decide_eq_true_eq]
        omega
    constructor
    · rintro ⟨v, hv, hw⟩
      have hw' := (hb v).1 hw
      refine ⟨v, List.mem_range.2 ?_, hw'⟩
      unfold badS at hw'
      cases hs : stepN ls a v with
      | none => rw [hs] at hw'; cases hw'
      | some x => have := step_in h hs; omega
    · rintro ⟨v, hv, hw⟩
      exact ⟨v, List.mem_range.2 (by have := List.mem_range.1 hv; rw [wideN_len]; omega), (hb v).2 hw⟩
  unfold fallV fallB
  congr 2
  exact congrArg (fun f => List.any _ f) (funext key)
theorem dbl_parts {ls : List (List Rul)} {l : List (BitVec 32)} (h : netMayV ls = 0) : ∀ {ps qs : List Prt} {rks : List (List Int)}, qs.map (fun q => (q.fr, q.up)) = ps.map (fun p => (p.fr, p.up)) → (∀ r ∈ rks, r.length = ls.length) →
    partsZ l (wideN ls) (qs.zip (rks.map dblR)) = partsZ l ls (ps.zip rks)
  | [], [], _, _, _ => rfl
  | [], q :: qs, _, hm, _ => by simp at hm
  | p :: ps, [], _, hm, _ => by simp at hm
  | p :: ps, q :: qs, [], _, _ => rfl
  | p :: ps, q :: qs, r :: rks, hm, hr => by
    simp only [List.map_cons, List.cons.injEq, Prod.mk.injEq] at hm
    obtain ⟨⟨e1, e2⟩, hm⟩ := hm
    have h1 := dbl_part (l := l) h (hr r (List.mem_cons_self ..)) e1 e2
    have h2 := dbl_parts (l := l) h hm fun x hx => hr x (List.mem_cons_of_mem _ hx)
    show (if partV l (wideN ls) q (dblR r) ≠ 0 then _ else partsZ l (wideN ls) (qs.zip (rks.map dblR))) = if partV l ls p r ≠ 0 then _ else partsZ l ls (ps.zip rks)
    rw [h1, h2]
theorem meetG_congr : ∀ {ps qs : List Prt} {nx : Int}, qs.map (fun q => (q.fr, q.up)) = ps.map (fun p => (p.fr, p.up)) → meetG nx qs = meetG nx ps
  | [], [], _, _ => rfl
  | [], q :: qs, _, h => by simp at h
  | p :: ps, [], _, h => by simp at h
  | p :: ps, q :: qs, nx, h => by
    simp only [List.map_cons, List.cons.injEq, Prod.mk.injEq] at h
    obtain ⟨⟨h1, h2⟩, h3⟩ := h
    unfold meetG
    rw [h1, h2, meetG_congr h3]
theorem meetV_congr {ps qs : List Prt} (h : qs.map (fun q => (q.fr, q.up)) = ps.map (fun p => (p.fr, p.up))) : meetV qs = meetV ps := by unfold meetV; rw [meetG_congr h]
theorem ans_free {ls : List (List Rul)} {l : List (BitVec 32)} (h : netMayV ls = 0) {c : Crt} (hf : FreeOk ls.length c) : ansV l ls c = if partsZ l ls (c.ps.zip c.rks) ≠ 0 then (0, partsZ l ls (c.ps.zip c.rks)) else (1, 0) := by
  unfold ansV
  rw [if_neg (by rw [h]; simp), if_neg (by rw [hf.may]; simp), if_pos hf.vd]
theorem ans_loop {ls : List (List Rul)} {l : List (BitVec 32)} (h : netMayV ls = 0) {c : Crt} (hf : LoopOk ls.length c) : ansV l ls c = if traceV ls c.dest c.tr ≠ 0 then (0, 17) else (c.vd, 0) := by
  unfold ansV
  rw [if_neg (by rw [h]; simp), if_neg (by rw [hf.may]; simp), if_neg (by rw [hf.vd]; decide)]
/-- The law: the wide certificate may be, and the same is told of it. -/
theorem dbl_law {ls : List (List Rul)} {l : List (BitVec 32)} (h : netMayV ls = 0) (h8 : ls.length ≤ 128) {c : Crt} (hc : certMayV ls.length c = 0) {qs : List Prt} (hq : qs.map (fun q => (q.fr, q.up)) = c.ps.map (fun p => (p.fr, p.up))) :
    certMayV ((wideN ls).length : Nat) ⟨c.vd, qs, c.rks.map dblR, c.dest, c.tr⟩ = 0 ∧ ansV l (wideN ls) ⟨c.vd, qs, c.rks.map dblR, c.dest, c.tr⟩ = ansV l ls c := by
  by_cases hv : c.vd = 1
  · have hf := free_ok hc hv
    have hql : qs.length = c.ps.length := by have := congrArg List.length hq; simpa using this
    have hr : ∀ r ∈ c.rks, r.length = ls.length := fun r hr => by have := (rksV_all hf.rks r hr).1; omega
    have hd : FreeOk (wideN ls).length ⟨c.vd, qs, c.rks.map dblR, c.dest, c.tr⟩ := by
      refine ⟨hv, hf.dest, hf.tr, by show qs.length ≤ 8193; rw [hql]; exact hf.few, by show meetV qs = 0; rw [meetV_congr hq]; exact hf.meet, rksV_zero _ _ fun r hr => ?_⟩
      obtain ⟨q, hq, rfl⟩ := List.mem_map.1 hr
      obtain ⟨g1, g2⟩ := rksV_all hf.rks q hq
      refine ⟨by rw [dblR_len, wideN_len]; omega, fun x hx => ?_⟩
      have := dblR_mem g1 g2 x hx
      rw [wideN_len]; omega
    refine ⟨hd.may, ?_⟩
    rw [ans_free (wideN_may h h8) hd, ans_free h hf, dbl_parts h hq hr]
  · have hf := loop_ok hc hv
    have hq0 : qs = [] := List.eq_nil_of_length_eq_zero (by have := congrArg List.length hq; rw [hf.ps] at this; simpa using this)
    subst hq0
    have hd : LoopOk (wideN ls).length ⟨c.vd, [], c.rks.map dblR, c.dest, c.tr⟩ := ⟨hf.vd, rfl, hf.pos, by rw [wideN_len]; have := hf.few; show c.tr.length ≤ _; omega, fun x hx => by have := hf.bd x hx; rw [wideN_len]; omega, hf.once⟩
    refine ⟨hd.may, ?_⟩
    have ht : traceV (wideN ls) c.dest c.tr = traceV ls c.dest c.tr := by
      unfold traceV
      congr 2
      refine congrArg (fun f => List.all _ f = true) (funext fun i => ?_)
      unfold trOkV
      rw [wideN_step]
    rw [ans_loop (wideN_may h h8) hd, ans_loop h hf]
    show (if traceV (wideN ls) c.dest c.tr ≠ 0 then _ else _) = _
    rw [ht]
end Go.Proofs.Ytpfkfboohblgoaa
