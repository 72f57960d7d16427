/- Plain facts: two tries of the same rules are the same trie. Conditions: prefixes may be, each once. -/
import Derived.Test.YtgkefgibpbdepaaTrieO
namespace Go.Proofs.Ytgkefgibpbdepaa
open Go.RowKit

theorem rules_ne {t : T} (h : t.Wf) (hn : t ≠ .nil) : ∃ s, s ∈ t.rules := by
  rcases (rules_size h).2 with g | g
  · exact absurd g hn
  · cases e : t.rules with
    | nil => rw [e] at g; simp at g
    | cons s l => exact ⟨s, by simp⟩
/-- All rules of a fork and below it are as long, and begin with its bits. -/
theorem rules_under {pa : BitVec 32} {n : Int} {r : Rul} {is : Bool} {l k : T} (h : (T.node pa n r is l k).Wf) :
    ∀ s ∈ (T.node pa n r is l k).rules, n ≤ s.pl ∧ ∀ i : Nat, (i : Int) < n → s.pa.getMsbD i = pa.getMsbD i := by
  intro s hs
  simp only [T.rules, List.mem_append] at hs
  rcases hs with hs | hs | hs
  · cases is with
    | false => cases hs
    | true =>
      simp at hs; subst hs
      have := h.2.1 rfl
      exact ⟨by omega, fun i _ => by rw [this.1]⟩
  · have := all_rules h.2.2.2.2.2.1 h.2.2.2.1 s hs
    exact ⟨by have := this.lt; omega, this.bits⟩
  · have := all_rules h.2.2.2.2.2.2 h.2.2.2.2.1 s hs
    exact ⟨by have := this.lt; omega, this.bits⟩
theorem root_rules {pa : BitVec 32} {n : Int} {r : Rul} {is : Bool} {l k : T} (h : (T.node pa n r is l k).Wf) {s : Rul} (hs : s ∈ (T.node pa n r is l k).rules) :
    (is = true ∧ s = r ∧ s.pl = n) ∨ (s ∈ l.rules ∧ n < s.pl ∧ bitV s.pa n = 0) ∨ (s ∈ k.rules ∧ n < s.pl ∧ bitV s.pa n = 1) := by
  simp only [T.rules, List.mem_append] at hs
  rcases hs with hs | hs | hs
  · cases is with
    | false => cases hs
    | true =>
      simp at hs; subst hs
      exact .inl ⟨rfl, rfl, (h.2.1 rfl).2⟩
  · have := all_rules h.2.2.2.2.2.1 h.2.2.2.1 s hs
    exact .inr (.inl ⟨hs, this.lt, this.bit⟩)
  · have := all_rules h.2.2.2.2.2.2 h.2.2.2.2.1 s hs
    exact .inr (.inr ⟨hs, this.lt, this.bit⟩)
theorem top_le {pa qa : BitVec 32} {n m : Int} {r q : Rul} {is iq : Bool} {l k x y : T} (h : (T.node pa n r is l k).Wf) (g : (T.node qa m q iq x y).Wf)
    (hr : ∀ s, s ∈ (T.node pa n r is l k).rules → s ∈ (T.node qa m q iq x y).rules) : m ≤ n := by
  rcases Int.lt_or_le n m with c | c
  · exfalso
    have hm : m ≤ 32 := g.1.2.1
    have h0 : 0 ≤ n := h.1.1
    cases is with
    | true =>
      have h1 := h.2.1 rfl
      have h2 := rules_under g r (hr r (by simp [T.rules]))
      have := h2.1
      rw [h1.2] at this; omega
    | false =>
      have h1 := h.2.2.1 rfl
      obtain ⟨s, hs⟩ := rules_ne h.2.2.2.2.2.1 h1.1
      obtain ⟨u, hu⟩ := rules_ne h.2.2.2.2.2.2 h1.2.1
      have s0 := (all_rules h.2.2.2.2.2.1 h.2.2.2.1 s hs).bit
      have u0 := (all_rules h.2.2.2.2.2.2 h.2.2.2.2.1 u hu).bit
      have s1 := (rules_under g s (hr s (by simp [T.rules, hs]))).2 n.toNat (by omega)
      have u1 := (rules_under g u (hr u (by simp [T.rules, hu]))).2 n.toNat (by omega)
      have := (bit_eq (a := s.pa) (b := u.pa) h0 (by omega)).2 (s1.trans u1.symm)
      omega
  · exact c
theorem trie_unique : ∀ {t u : T}, t.Wf → u.Wf → (∀ s, s ∈ t.rules ↔ s ∈ u.rules) → t = u
  | .nil, .nil, _, _, _ => rfl
  | .nil, .node .., _, g, h => by
    obtain ⟨s, hs⟩ := rules_ne g (by simp)
    have := (h s).2 hs
    cases this
  | .node .., .nil, g, _, h => by
    obtain ⟨s, hs⟩ := rules_ne g (by simp)
    have := (h s).1 hs
    cases this
  | .node pa n r is l k, .node qa m q iq x y, h, g, hr => by
    have e1 := top_le h g fun s => (hr s).1
    have e2 := top_le g h fun s => (hr s).2
    obtain rfl : n = m := by omega
    obtain ⟨s0, hs0⟩ := rules_ne h (by simp)
    have b1 := (rules_under h s0 hs0).2
    have b2 := (rules_under g s0 ((hr s0).1 hs0)).2
    have c := clamp_id h.1.1 h.1.2.1
    have v1 := (valid_iff pa n).1 h.1.2.2
    have v2 := (valid_iff qa n).1 g.1.2.2
    obtain rfl : pa = qa := msb_ext fun i _ => by
      rcases Nat.lt_or_ge i (clamp n) with z | z
      · rw [← b1 i (by omega), ← b2 i (by omega)]
      · rw [v1 i z, v2 i z]
    have hi : is = iq ∧ r = q := by
      cases is with
      | true =>
        have w1 := h.2.1 rfl
        rcases root_rules g ((hr r).1 (by simp [T.rules])) with ⟨z1, z2, _⟩ | ⟨_, z, _⟩ | ⟨_, z, _⟩
        · exact ⟨z1.symm, z2⟩
        · omega
        · omega
      | false =>
        cases iq with
        | true =>
          have w1 := g.2.1 rfl
          rcases root_rules h ((hr q).2 (by simp [T.rules])) with ⟨z1, _, _⟩ | ⟨_, z, _⟩ | ⟨_, z, _⟩
          · cases z1
          · omega
          · omega
        | false => exact ⟨rfl, ((h.2.2.1 rfl).2.2).trans ((g.2.2.1 rfl).2.2).symm⟩
    obtain ⟨rfl, rfl⟩ := hi
    have el : l = x := trie_unique h.2.2.2.2.2.1 g.2.2.2.2.2.1 fun s => ⟨fun hs => by
      have k1 := all_rules h.2.2.2.2.2.1 h.2.2.2.1 s hs
      have := k1.lt
      have := k1.bit
      rcases root_rules g ((hr s).1 (by simp [T.rules, hs])) with ⟨_, _, z⟩ | ⟨z, _, _⟩ | ⟨_, _, z⟩
      · omega
      · exact z
      · omega, fun hs => by
      have k1 := all_rules g.2.2.2.2.2.1 g.2.2.2.1 s hs
      have := k1.lt
      have := k1.bit
      rcases root_rules h ((hr s).2 (by simp [T.rules, hs])) with ⟨_, _, z⟩ | ⟨z, _, _⟩ | ⟨_, _, z⟩
      · omega
      · exact z
      · omega⟩
    have ek : k = y := trie_unique h.2.2.2.2.2.2 g.2.2.2.2.2.2 fun s => ⟨fun hs => by
      have k1 := all_rules h.2.2.2.2.2.2 h.2.2.2.2.1 s hs
      have := k1.lt
      have := k1.bit
      rcases root_rules g ((hr s).1 (by simp [T.rules, hs])) with ⟨_, _, z⟩ | ⟨_, _, z⟩ | ⟨z, _, _⟩
      · omega
      · omega
      · exact z, fun hs => by
      have k1 := all_rules g.2.2.2.2.2.2 g.2.2.2.2.1 s hs
      have := k1.lt
      have := k1.bit
      rcases root_rules h ((hr s).2 (by simp [T.rules, hs])) with ⟨_, _, z⟩ | ⟨_, _, z⟩ | ⟨z, _, _⟩
      · omega
      · omega
      · exact z⟩
    rw [el, ek]
theorem tab_perm {l m : List Rul} (h : Tab l) (hp : m.Perm l) : Tab m :=
  ⟨fun r hr => h.valid r (hp.mem_iff.1 hr), (List.Perm.pairwise_iff (fun {_ _} hxy hyx => hxy ⟨hyx.1.symm, hyx.2.symm⟩) hp).2 h.apart⟩
theorem build_perm {l m : List Rul} (h : Tab l) (hp : m.Perm l) : buildT m = buildT l :=
  trie_unique (wf_build m) (wf_build l) fun s => by
    rw [(build_rules (tab_perm h hp)).mem_iff, (build_rules h).mem_iff, hp.mem_iff]
/-- A table's rows turned about. -/
def turnL (l : List Rul) (k : Nat) : List Rul := (l.drop k).reverse ++ l.take k
theorem turn_perm (l : List Rul) (k : Nat) : (turnL l k).Perm l := by
  unfold turnL
  refine (List.Perm.append_right _ (List.reverse_perm _)).trans ?_
  refine List.perm_append_comm.trans ?_
  rw [List.take_append_drop]
theorem build_turn {l : List Rul} (h : Tab l) (k : Nat) : buildT (turnL l k) = buildT l := build_perm h (turn_perm l k)
end Go.Proofs.Ytgkefgibpbdepaa
