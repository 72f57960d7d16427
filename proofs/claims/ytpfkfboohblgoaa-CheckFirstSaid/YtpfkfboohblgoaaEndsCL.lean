/- Plain laws for the law CheckEnds: networks in which one node steps at most. Conditions: none. -/
import Derived.Test.YtpfkfboohblgoaaAllR
import Derived.Test.YtpfkfboohblgoaaGShort
import Derived.Test.YtpfkfboohblgoaaFallL
namespace Go.Proofs.Ytpfkfboohblgoaa
open Go.RowKit

/-- M nodes without rules; with one that sends all to node j. -/
def noN (M : Nat) : List (List Rul) := List.replicate M []
def oneN (M i j : Nat) : List (List Rul) := (noN M).set i [allR j]
theorem noN_len (M : Nat) : (noN M).length = M := List.length_replicate
theorem oneN_len (M i j : Nat) : (oneN M i j).length = M := by unfold oneN; rw [List.length_set, noN_len]
theorem noN_short (M : Nat) : ∀ l ∈ noN M, l.length ≤ 1 := fun l hl => by rw [List.eq_of_mem_replicate hl]; simp
theorem oneN_short (M i j : Nat) : ∀ l ∈ oneN M i j, l.length ≤ 1 := fun l hl => by
  rcases List.mem_or_eq_of_mem_set hl with h | h
  · exact noN_short M l h
  · rw [h]; simp
theorem noN_size {M : Nat} (h : M ≤ 64) : sizeN (noN M) ≤ 64 := by have := sizeN_le (noN_short M); rw [noN_len] at this; omega
theorem oneN_size {M i j : Nat} (h : M ≤ 64) : sizeN (oneN M i j) ≤ 64 := by have := sizeN_le (oneN_short M i j); rw [oneN_len] at this; omega
theorem noN_ok (M : Nat) : TablesOk (noN M) := fun l hl => by rw [List.eq_of_mem_replicate hl]; exact fun r h => by cases h
theorem oneN_ok {M i j : Nat} (hj : j ≤ 64) : TablesOk (oneN M i j) := fun l hl => by
  rcases List.mem_or_eq_of_mem_set hl with h | h
  · exact noN_ok M l h
  · rw [h]; exact all_ok hj
theorem noN_may {M : Nat} (h : M ≤ 64) : netMayV (noN M) = 0 := by
  unfold netMayV
  rw [if_neg (by have := noN_size h; rw [noN_len]; omega)]
  exact netG_zero fun l hl => by rw [List.eq_of_mem_replicate hl]; rfl
theorem oneN_may {M i j : Nat} (h : M ≤ 64) (hj : j < M) : netMayV (oneN M i j) = 0 := by
  unfold netMayV
  rw [if_neg (by have := oneN_size (i := i) (j := j) h; rw [oneN_len]; omega)]
  refine netG_zero fun l hl => ?_
  rw [oneN_len]
  rcases List.mem_or_eq_of_mem_set hl with g | g
  · rw [List.eq_of_mem_replicate g]; rfl
  · rw [g]; exact all_tab hj
theorem noN_step (M : Nat) (a : BitVec 32) (v : Int) : stepN (noN M) a v = none := by
  unfold stepN noN
  split
  · rfl
  · rw [List.getElem?_replicate]
    split <;> rfl
theorem oneN_step {M i j : Nat} (hi : i < M) (a : BitVec 32) (v : Int) : stepN (oneN M i j) a v = if v = i then some (j : Int) else none := by
  unfold stepN oneN
  by_cases h : v < 0
  · rw [if_pos h, if_neg (by omega)]
  · rw [if_neg h, List.getElem?_set]
    by_cases e : v = i
    · rw [if_pos e, if_pos (by omega), if_pos (by rw [noN_len]; exact hi)]
      show stepO [allR j] a = _
      exact all_step j a
    · rw [if_neg e, if_neg (by omega)]
      unfold noN
      rw [List.getElem?_replicate]
      split <;> rfl
/-- Whether each part's rank of j is below that of i. -/
def fallsV (rks : List (List Int)) (i j : Nat) : Bool := rks.all fun r => decide (r.getD j 0 < r.getD i 0)
theorem fallsV_step {rks : List (List Int)} {i j k : Nat} (h : k < rks.length) : fallsV (rks.take (k + 1)) i j = (fallsV (rks.take k) i j && decide (rks[k].getD j 0 < rks[k].getD i 0)) := by
  unfold fallsV
  rw [List.take_succ_eq_append_getElem h, List.all_append]
  simp
theorem inside_ne (l : List (BitVec 32)) (lo hi : BitVec 32) : lo ∈ insideV l lo hi := by unfold insideV; exact List.mem_cons_self ..
theorem noN_free {M : Nat} {c : Crt} (h64 : M ≤ 64) (hf : FreeOk M c) {l : List (BitVec 32)} : ansV l (noN M) c = (1, 0) := by
  have hz : partsZ l (noN M) (c.ps.zip c.rks) = 0 := partsZ_all fun q hq => by
    have hr := List.of_mem_zip hq
    rw [partV_eq (by rw [noN_len]; have := (rksV_all hf.rks _ hr.2).1; omega), fallV_zero]
    intro a _ v _
    unfold badS
    rw [noN_step]
  unfold ansV
  rw [if_neg (by rw [noN_may h64]; simp), if_neg (by rw [noN_len, hf.may]; simp), if_pos hf.vd, if_neg (by rw [hz]; simp)]
theorem oneN_part {M i j : Nat} (hi : i < M) (hj : j < M) {l : List (BitVec 32)} {p : Prt} {r : List Int} (hr : r.length = M) : partV l (oneN M i j) p r = if r.getD j 0 < r.getD i 0 then 0 else 16 := by
  rw [partV_eq (by rw [oneN_len]; exact hr)]
  have hb : ∀ a v, badS (oneN M i j) r a v = (decide (v = i) && decide (r.getD i 0 ≤ r.getD j 0)) := fun a v => by
    unfold badS
    rw [oneN_step hi]
    by_cases e : v = i
    · subst e
      rw [if_pos rfl]
      show badX _ r v (j : Int) = _
      unfold badX
      rw [decide_eq_false (by omega : ¬ (j : Int) < 0), decide_eq_false (by rw [oneN_len]; omega : ¬ ((oneN M v j).length : Int) ≤ j)]
      simp
    · rw [if_neg (by omega), decide_eq_false e]; rfl
  by_cases g : r.getD j 0 < r.getD i 0
  · rw [if_pos g, fallV_zero]
    intro a _ v _
    rw [hb, decide_eq_false (by omega : ¬ r.getD i 0 ≤ r.getD j 0), Bool.and_false]
  · rw [if_neg g]
    rcases fallV_two (oneN M i j) (insideV l p.fr p.up) r with h | h
    · rw [fallV_zero] at h
      have := h _ (inside_ne l p.fr p.up) i (by rw [oneN_len]; exact hi)
      rw [hb, decide_eq_true rfl, Bool.true_and, decide_eq_false_iff_not] at this
      omega
    · exact h
theorem partsZ_falls {M i j : Nat} (hi : i < M) (hj : j < M) {l : List (BitVec 32)} : ∀ {qs : List (Prt × List Int)}, (∀ q ∈ qs, q.2.length = M) → partsZ l (oneN M i j) qs = if fallsV (qs.map Prod.snd) i j then 0 else 16
  | [], _ => rfl
  | q :: t, h => by
    have h1 := oneN_part (l := l) (p := q.1) hi hj (h q (List.mem_cons_self ..))
    have h2 := partsZ_falls hi hj (l := l) (qs := t) fun x hx => h x (List.mem_cons_of_mem _ hx)
    unfold partsZ
    rw [h1, h2]
    have e : fallsV ((q :: t).map Prod.snd) i j = (decide (q.2.getD j 0 < q.2.getD i 0) && fallsV (t.map Prod.snd) i j) := rfl
    rw [e]
    by_cases g : q.2.getD j 0 < q.2.getD i 0
    · rw [if_pos g, decide_eq_true g]; simp
    · rw [if_neg g, decide_eq_false g]; simp
theorem oneN_free {M i j : Nat} {c : Crt} (h64 : M ≤ 64) (hi : i < M) (hj : j < M) (hf : FreeOk M c) (hlen : c.rks.length = c.ps.length) {l : List (BitVec 32)} : ansV l (oneN M i j) c = if fallsV c.rks i j then (1, 0) else (0, 16) := by
  have hz := partsZ_falls (l := l) hi hj (qs := c.ps.zip c.rks) fun q hq => by
    have := (rksV_all hf.rks _ (List.of_mem_zip hq).2).1; omega
  have e : (c.ps.zip c.rks).map Prod.snd = c.rks := List.map_snd_zip (by omega)
  rw [e] at hz
  unfold ansV
  rw [if_neg (by rw [oneN_may h64 hj]; simp), if_neg (by rw [oneN_len, hf.may]; simp), if_pos hf.vd, hz]
  split <;> simp
theorem noN_loop {M : Nat} {c : Crt} (h64 : M ≤ 64) (hf : LoopOk M c) {l : List (BitVec 32)} : ansV l (noN M) c = (0, 17) := by
  have ht : traceV (noN M) c.dest c.tr = 17 := traceV_no hf.pos (by unfold trOkV; rw [noN_step]; simp)
  unfold ansV
  rw [if_neg (by rw [noN_may h64]; simp), if_neg (by rw [noN_len, hf.may]; simp), if_neg (by rw [hf.vd]; decide), if_pos (by rw [ht]; simp)]
theorem oneN_ring {c : Crt} (hf : LoopOk 1 c) {l : List (BitVec 32)} : ansV l (oneN 1 0 0) c = (2, 0) := by
  have hlen : c.tr.length = 1 := by have := hf.pos; have := hf.few; omega
  obtain ⟨x, hx⟩ := List.length_eq_one_iff.1 hlen
  have hx0 : x = 0 := by have := hf.bd x (by rw [hx]; simp); omega
  subst hx0
  have ht : traceV (oneN 1 0 0) c.dest c.tr = 0 := by
    rw [hx]
    refine traceV_yes (by simp) fun i hi => ?_
    obtain rfl : i = 0 := by simp at hi; omega
    unfold trOkV
    rw [oneN_step (by decide)]
    simp
  unfold ansV
  rw [if_neg (by rw [oneN_may (by decide) (by decide)]; simp), if_neg (by rw [oneN_len, hf.may]; simp), if_neg (by rw [hf.vd]; decide), if_neg (by rw [ht]; simp), hf.vd]
theorem oneN_loop {M i j : Nat} {c : Crt} (h64 : M ≤ 64) (hi : i < M) (hj : j < M) (hne : i ≠ j) (hf : LoopOk M c) {l : List (BitVec 32)} : ansV l (oneN M i j) c = (0, 17) := by
  have ht : traceV (oneN M i j) c.dest c.tr = 17 := by
    rcases traceV_two (oneN M i j) c.dest c.tr with h | h
    · exfalso
      have hall : ∀ k, k < c.tr.length → trOkV (oneN M i j) c.dest c.tr k = true := fun k hk => by
        cases hb : trOkV (oneN M i j) c.dest c.tr k with
        | true => rfl
        | false => rw [traceV_no hk hb] at h; cases h
      have hi2 : ∀ k, k < c.tr.length → c.tr.getD k 0 = i ∧ c.tr.getD ((k + 1) % c.tr.length) 0 = j := fun k hk => by
        have := hall k hk
        unfold trOkV at this
        rw [oneN_step hi, decide_eq_true_eq] at this
        split at this
        · exact ⟨by assumption, (Option.some.inj this).symm⟩
        · cases this
      have h1 := (hi2 0 hf.pos).2
      have h2 := (hi2 ((0 + 1) % c.tr.length) (Nat.mod_lt _ hf.pos)).1
      omega
    · exact h
  unfold ansV
  rw [if_neg (by rw [oneN_may h64 hj]; simp), if_neg (by rw [oneN_len, hf.may]; simp), if_neg (by rw [hf.vd]; decide), if_pos (by rw [ht]; simp)]
/-- All cases of the law. -/
theorem ends_cases {M T J : Nat} {c : Crt} (h64 : M ≤ 64) (hT : T < M) (hJ : J < M) (hR : M = 1 → T = 0 ∧ J = 0) (hNR : M ≠ 1 → T ≠ J) (h : certMayV M c = 0) (hlen : c.rks.length = c.ps.length) (l1 l2 : List (BitVec 32)) :
    ((c.vd == 1) = true ∧ Hid (ansV l1 (noN M) c = (1, 0)) ∧ Hid (fallsV c.rks T J = true) ∧ Hid (ansV l2 (oneN M T J) c = (1, 0))) ∨
    ((c.vd == 1) = true ∧ Hid (ansV l1 (noN M) c = (1, 0)) ∧ Hid (fallsV c.rks T J = false) ∧ Hid (ansV l2 (oneN M T J) c = (0, 16))) ∨
    ((c.vd == 1) = false ∧ Hid (ansV l1 (noN M) c = (0, 17)) ∧ ((M : Int) == 1) = true ∧ Hid (ansV l2 (oneN M T J) c = (2, 0))) ∨
    ((c.vd == 1) = false ∧ Hid (ansV l1 (noN M) c = (0, 17)) ∧ ((M : Int) == 1) = false ∧ Hid (ansV l2 (oneN M T J) c = (0, 17))) := by
  by_cases hv : c.vd = 1
  · have hf := free_ok h hv
    have h2 := oneN_free (l := l2) h64 hT hJ hf hlen
    cases hb : fallsV c.rks T J with
    | true => rw [hb, if_pos rfl] at h2; exact .inl ⟨by simp [hv], noN_free h64 hf, rfl, h2⟩
    | false => rw [hb, if_neg (by simp)] at h2; exact .inr (.inl ⟨by simp [hv], noN_free h64 hf, rfl, h2⟩)
  · have hf := loop_ok h hv
    by_cases hm : M = 1
    · obtain ⟨rfl, rfl⟩ := hR hm
      subst hm
      exact .inr (.inr (.inl ⟨by simp [hv], noN_loop h64 hf, rfl, oneN_ring hf⟩))
    · exact .inr (.inr (.inr ⟨by simp [hv], noN_loop h64 hf, beq_false_of_ne (by omega), oneN_loop h64 hT hJ (hNR hm) hf⟩))
end Go.Proofs.Ytpfkfboohblgoaa
