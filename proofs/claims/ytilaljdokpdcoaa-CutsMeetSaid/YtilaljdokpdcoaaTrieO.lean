/- Plain facts: the trie and the scan find the same rule; how many forks there are. Conditions: prefixes may be, each once. -/
import Derived.Test.YtilaljdokpdcoaaTrieN
namespace Go.Proofs.Ytilaljdokpdcoaa
open Go.RowKit

theorem longest_step {l : List Rul} {a : BitVec 32} {o : Option Rul} (h : Longest l a o) (r : Rul) : Longest (l ++ [r]) a (findStep a o r) := by
  unfold findStep better
  cases e : holdsV r.pa r.pl a with
  | false =>
    simp only [Bool.false_and, Bool.false_eq_true, if_false]
    cases o with
    | none =>
      intro s hs
      rcases List.mem_append.1 hs with hs | hs
      · exact h s hs
      · simp at hs; subst hs; exact e
    | some b =>
      refine ⟨by simp [h.1], h.2.1, fun s hs hh => ?_⟩
      rcases List.mem_append.1 hs with hs | hs
      · exact h.2.2 s hs hh
      · simp at hs; subst hs; rw [e] at hh; cases hh
  | true =>
    cases o with
    | none =>
      simp only [Bool.true_and, Option.all_none, if_true]
      refine ⟨by simp, e, fun s hs hh => ?_⟩
      rcases List.mem_append.1 hs with hs | hs
      · rw [h s hs] at hh; cases hh
      · simp at hs; subst hs; exact Int.le_refl _
    | some b =>
      simp only [Bool.true_and, Option.all_some, decide_eq_true_eq]
      split
      · rename_i g
        refine ⟨by simp, e, fun s hs hh => ?_⟩
        rcases List.mem_append.1 hs with hs | hs
        · have := h.2.2 s hs hh; omega
        · simp at hs; subst hs; exact Int.le_refl _
      · rename_i g
        refine ⟨by simp [h.1], h.2.1, fun s hs hh => ?_⟩
        rcases List.mem_append.1 hs with hs | hs
        · exact h.2.2 s hs hh
        · simp at hs; subst hs; omega
theorem longest_fold {a : BitVec 32} : ∀ (m l : List Rul) (o : Option Rul), Longest l a o → Longest (l ++ m) a (m.foldl (findStep a) o)
  | [], l, o, h => by simpa using h
  | r :: m, l, o, h => by
    have := longest_fold m (l ++ [r]) _ (longest_step h r)
    rwa [List.append_assoc, List.singleton_append] at this
theorem findL_longest (l : List Rul) (a : BitVec 32) : Longest l a (findL l a) := by
  have := longest_fold (a := a) l [] none (fun s hs => by cases hs)
  rwa [List.nil_append] at this
theorem same_of {l : List Rul} (h : Tab l) {r s : Rul} (hr : r ∈ l) (hs : s ∈ l) (hp : r.pa = s.pa) (hn : r.pl = s.pl) : r = s := by
  obtain ⟨i, hi, rfl⟩ := List.mem_iff_getElem.1 hr
  obtain ⟨j, hj, rfl⟩ := List.mem_iff_getElem.1 hs
  rcases Nat.lt_trichotomy i j with g | g | g
  · exact absurd ⟨hp, hn⟩ (List.pairwise_iff_getElem.1 h.apart i j hi hj g)
  · subst g; rfl
  · exact absurd ⟨hp.symm, hn.symm⟩ (List.pairwise_iff_getElem.1 h.apart j i hj hi g)
theorem holds_same {p q a : BitVec 32} {n : Int} (hp : Valid p n) (hq : Valid q n) (h1 : holdsV p n a = true) (h2 : holdsV q n a = true) : p = q := by
  rw [holds_msb hp] at h1
  rw [holds_msb hq] at h2
  have c := clamp_id hp.1 hp.2.1
  have v1 := (valid_iff p n).1 hp.2.2
  have v2 := (valid_iff q n).1 hq.2.2
  refine msb_ext fun i _ => ?_
  rcases Nat.lt_or_ge i (clamp n) with g | g
  · rw [h1 i (by omega), h2 i (by omega)]
  · rw [v1 i g, v2 i g]
theorem longest_one {l : List Rul} (h : Tab l) {a : BitVec 32} {o u : Option Rul} (ho : Longest l a o) (hu : Longest l a u) : o = u := by
  cases o with
  | none =>
    cases u with
    | none => rfl
    | some s =>
      have h1 := ho s hu.1
      rw [hu.2.1] at h1; cases h1
  | some r =>
    cases u with
    | none =>
      have h1 := hu r ho.1
      rw [ho.2.1] at h1; cases h1
    | some s =>
      have e1 := ho.2.2 s hu.1 hu.2.1
      have e2 := hu.2.2 r ho.1 ho.2.1
      have hn : r.pl = s.pl := by omega
      have v := h.valid s hu.1
      have hp := holds_same (hn ▸ h.valid r ho.1) v (hn ▸ ho.2.1) hu.2.1
      rw [same_of h ho.1 hu.1 hp hn]
theorem find_scan {l : List Rul} (h : Tab l) (a : BitVec 32) : (buildT l).find a none = findL l a := longest_one h (build_find h a) (findL_longest l a)

theorem rules_size : ∀ {t : T}, t.Wf → t.rules.length ≤ t.size ∧ (t = .nil ∨ t.size + 1 ≤ 2 * t.rules.length)
  | .nil, _ => ⟨Nat.le_refl _, .inl rfl⟩
  | .node pa n r is l k, h => by
    have h1 := rules_size h.2.2.2.2.2.1
    have h2 := rules_size h.2.2.2.2.2.2
    cases is with
    | true =>
      simp only [T.rules, T.size, if_true, List.length_append, List.length_cons, List.length_nil]
      refine ⟨by omega, .inr ?_⟩
      have z1 : l.size + 1 ≤ 2 * l.rules.length ∨ l.size = 0 := h1.2.symm.imp id fun g => by rw [g]; rfl
      have z2 : k.size + 1 ≤ 2 * k.rules.length ∨ k.size = 0 := h2.2.symm.imp id fun g => by rw [g]; rfl
      omega
    | false =>
      have hn := h.2.2.1 rfl
      simp only [T.rules, T.size, Bool.false_eq_true, if_false, List.length_append, List.length_nil]
      refine ⟨by omega, .inr ?_⟩
      rcases h1.2 with g | g1
      · exact absurd g hn.1
      · rcases h2.2 with g | g2
        · exact absurd g hn.2.1
        · omega
theorem build_bounds {l : List Rul} (h : Tab l) : l.length ≤ (buildT l).size ∧ (l.length = 0 ∧ (buildT l).size = 0 ∨ 1 ≤ l.length ∧ (buildT l).size + 1 ≤ 2 * l.length) := by
  have h1 := rules_size (wf_build l)
  rw [(build_rules h).length_eq] at h1
  refine ⟨h1.1, ?_⟩
  rcases h1.2 with g | g
  · have hz : (buildT l).size = 0 := by rw [g]; rfl
    exact .inl ⟨by omega, hz⟩
  · exact .inr ⟨by omega, g⟩
end Go.Proofs.Ytilaljdokpdcoaa
