/- Plain facts on built tries: size, depth, what is found. Conditions: prefixes may be. -/
import Derived.Test.YtilaljdokpdcoaaTrieL
import Derived.Test.YtilaljdokpdcoaaTrieG
namespace Go.Proofs.Ytilaljdokpdcoaa
open Go.RowKit

def T.forks : T → List (BitVec 32 × Int)
  | .nil => []
  | .node pa n _ _ l k => (pa, n) :: (l.forks ++ k.forks)
def T.rules : T → List Rul
  | .nil => []
  | .node _ _ r is l k => (if is then [r] else []) ++ (l.rules ++ k.rules)
theorem size_forks : ∀ t : T, t.size = t.forks.length
  | .nil => rfl
  | .node _ _ _ _ l k => by simp only [T.size, T.forks, List.length_cons, List.length_append, size_forks l, size_forks k]; omega
/-- Rules put in keep the forks that there are. -/
theorem hang_count (p : BitVec 32 × Int → Bool) (pa : BitVec 32) (n : Int) (r : Rul) (t : T) : t.forks.countP p ≤ (hangT pa n r t).forks.countP p := by
  cases t with
  | nil => simp [T.forks]
  | node qa qn qr qi l k =>
    unfold hangT
    simp only
    split <;> split <;> simp only [T.forks, List.countP_cons, List.countP_append, List.countP_nil] <;> omega
theorem put_count (p : BitVec 32 × Int → Bool) (pa : BitVec 32) (n : Int) (r : Rul) : ∀ t : T, t.forks.countP p ≤ (putT pa n r t).forks.countP p
  | .nil => hang_count p pa n r .nil
  | .node qa qn qr qi l k => by
    have h1 := put_count p pa n r l
    have h2 := put_count p pa n r k
    unfold putT
    split
    · split
      · split <;> simp only [T.forks] <;> omega
      · split <;> simp only [T.forks, List.countP_cons, List.countP_append] <;> omega
    · exact hang_count p pa n r _
theorem putOk_count (p : BitVec 32 × Int → Bool) (t : T) (r : Rul) : t.forks.countP p ≤ (putOk t r).forks.countP p := by
  unfold putOk; split
  · exact put_count _ _ _ _ _
  · exact Nat.le_refl _
theorem fold_count (p : BitVec 32 × Int → Bool) : ∀ (l : List Rul) (t : T), t.forks.countP p ≤ (l.foldl putOk t).forks.countP p
  | [], _ => Nat.le_refl _
  | r :: l, t => Nat.le_trans (putOk_count p t r) (fold_count p l (putOk t r))
theorem take_count (p : BitVec 32 × Int → Bool) (l : List Rul) (k : Nat) : (buildT (l.take k)).forks.countP p ≤ (buildT l).forks.countP p := by
  unfold buildT
  conv => rhs; rw [← List.take_append_drop k l, List.foldl_append]
  exact fold_count p _ _
theorem take_size (l : List Rul) (k : Nat) : (buildT (l.take k)).size ≤ (buildT l).size := by
  have := take_count (fun _ => true) l k
  simpa [size_forks] using this
theorem wf_putOk {t : T} (r : Rul) (h : t.Wf) : (putOk t r).Wf := by
  unfold putOk; split
  · rename_i e; exact wf_put (mayV_valid e) ⟨rfl, rfl⟩ h
  · exact h
theorem wf_fold : ∀ (l : List Rul) (t : T), t.Wf → (l.foldl putOk t).Wf
  | [], _, h => h
  | r :: l, t, h => wf_fold l (putOk t r) (wf_putOk r h)
theorem wf_build (l : List Rul) : (buildT l).Wf := wf_fold l .nil trivial

theorem holds_msb {pa a : BitVec 32} {n : Int} (h : Valid pa n) : holdsV pa n a = true ↔ ∀ i : Nat, (i : Int) < n → pa.getMsbD i = a.getMsbD i := by
  have c := clamp_id h.1 h.2.1
  rw [holds_iff]
  exact ⟨fun g i hi => g i (by omega), fun g i hi => g i (by omega)⟩
theorem kid_holds {pa a : BitVec 32} {n b : Int} {x : BitVec 32} {xn : Int} (hp : Valid pa n) (hx : Valid x xn) (hk : Kid pa n b x xn) (h : holdsV x xn a = true) : holdsV pa n a = true ∧ bitV a n = b := by
  have hl := hk.lt
  have h0 := hp.1
  have h1 := hx.2.1
  rw [holds_msb hx] at h
  refine ⟨(holds_msb hp).2 fun i hi => by rw [← hk.bits i hi]; exact h i (by omega), ?_⟩
  rw [← hk.bit]
  exact (bit_eq h0 (by omega)).2 (h _ (by omega)).symm
theorem all_forks {P : BitVec 32 → Int → Prop} : ∀ {t : T}, t.All P → ∀ f ∈ t.forks, P f.1 f.2
  | .nil, _, f, hf => by cases hf
  | .node .., h, f, hf => by
    simp only [T.forks, List.mem_cons, List.mem_append] at hf
    rcases hf with rfl | hf | hf
    · exact h.1
    · exact all_forks h.2.1 f hf
    · exact all_forks h.2.2 f hf
abbrev holdsF (a : BitVec 32) (f : BitVec 32 × Int) : Bool := holdsV f.1 f.2 a
theorem none_count {pa a : BitVec 32} {n b : Int} (hp : Valid pa n) {t : T} (hv : t.Ok) (hk : t.All (Kid pa n b)) (h : holdsV pa n a = false ∨ bitV a n ≠ b) : t.forks.countP (holdsF a) = 0 := by
  rw [List.countP_eq_zero]
  intro f hf g
  have := kid_holds hp (all_forks (ok_all hv) f hf) (all_forks hk f hf) g
  rcases h with h | h
  · rw [h] at this; cases this.1
  · exact h this.2
theorem depth_count (a : BitVec 32) : ∀ {t : T}, t.Wf → t.depth a = t.forks.countP (holdsF a)
  | .nil, _ => rfl
  | .node pa n r is l k, h => by
    obtain ⟨hp, _, _, hl, hk, wl, wk⟩ := h
    have e1 := depth_count a wl
    have e2 := depth_count a wk
    have z1 := none_count (a := a) hp wl.ok hl
    have z2 := none_count (a := a) hp wk.ok hk
    simp only [T.depth, T.forks, List.countP_cons, List.countP_append]
    cases e : holdsV pa n a with
    | false => rw [z1 (.inl e), z2 (.inl e)]; simp [e]
    | true =>
      rcases bit01 a n with g | g
      · rw [z2 (.inr (by omega)), e1]; simp [g, e]; omega
      · rw [z1 (.inr (by omega)), e2]; simp [g, e]; omega
theorem take_depth (l : List Rul) (k : Nat) (a : BitVec 32) : (buildT (l.take k)).depth a ≤ (buildT l).depth a := by
  rw [depth_count a (wf_build _), depth_count a (wf_build _)]
  exact take_count _ l k

/-- What is found: the longest rule that holds the address. -/
def Longest (l : List Rul) (a : BitVec 32) (o : Option Rul) : Prop :=
  match o with
  | some r => r ∈ l ∧ holdsV r.pa r.pl a = true ∧ ∀ s ∈ l, holdsV s.pa s.pl a = true → s.pl ≤ r.pl
  | none => ∀ s ∈ l, holdsV s.pa s.pl a = false
theorem all_rules {P : BitVec 32 → Int → Prop} : ∀ {t : T}, t.Wf → t.All P → ∀ r ∈ t.rules, P r.pa r.pl
  | .nil, _, _, r, hr => by cases hr
  | .node pa n r0 is l k, h, g, r, hr => by
    simp only [T.rules, List.mem_append] at hr
    rcases hr with hr | hr | hr
    · cases is with
      | false => cases hr
      | true =>
        simp at hr; subst hr
        have := h.2.1 rfl
        rw [this.1, this.2]; exact g.1
    · exact all_rules h.2.2.2.2.2.1 g.2.1 r hr
    · exact all_rules h.2.2.2.2.2.2 g.2.2 r hr
theorem find_longest (a : BitVec 32) : ∀ {t : T}, t.Wf → ∀ best, (t.find a best = best ∧ ∀ s ∈ t.rules, holdsV s.pa s.pl a = false) ∨ (∃ r, t.find a best = some r ∧ Longest t.rules a (some r))
  | .nil, _, best => .inl ⟨rfl, fun s hs => by cases hs⟩
  | .node pa n r is l k, h, best => by
    have hw := h
    obtain ⟨hp, hi, _, hl, hk, wl, wk⟩ := h
    have none1 : ∀ {b : Int} {t : T}, t.Wf → t.All (Kid pa n b) → (holdsV pa n a = false ∨ bitV a n ≠ b) → ∀ s ∈ t.rules, holdsV s.pa s.pl a = false := fun wt ht hh s hs => by
      cases e : holdsV s.pa s.pl a with
      | false => rfl
      | true =>
        have := kid_holds hp (all_rules wt (ok_all wt.ok) s hs) (all_rules wt ht s hs) e
        rcases hh with h | h
        · rw [h] at this; cases this.1
        · exact absurd this.2 h
    cases e : holdsV pa n a with
    | false =>
      refine .inl ⟨by simp [T.find, e], fun s hs => ?_⟩
      simp only [T.rules, List.mem_append] at hs
      rcases hs with hs | hs | hs
      · cases is with
        | false => cases hs
        | true =>
          simp at hs; subst hs
          have := hi rfl
          rw [this.1, this.2]; exact e
      · exact none1 wl hl (.inl e) s hs
      · exact none1 wk hk (.inl e) s hs
    | true =>
      have key : ∀ {b : Int} (t u : T), t.Wf → u.Wf → t.All (Kid pa n b) → (∀ s ∈ u.rules, holdsV s.pa s.pl a = false) → (∀ s, s ∈ (T.node pa n r is l k).rules ↔ (is = true ∧ s = r) ∨ s ∈ t.rules ∨ s ∈ u.rules) →
          (T.node pa n r is l k).find a best = t.find a (if is then some r else best) →
          (∀ b, (t.find a b = b ∧ ∀ s ∈ t.rules, holdsV s.pa s.pl a = false) ∨ (∃ r, t.find a b = some r ∧ Longest t.rules a (some r))) →
          ((T.node pa n r is l k).find a best = best ∧ ∀ s ∈ (T.node pa n r is l k).rules, holdsV s.pa s.pl a = false) ∨ (∃ r', (T.node pa n r is l k).find a best = some r' ∧ Longest (T.node pa n r is l k).rules a (some r')) := by
        intro b t u wt wu ht hu hm hf ih
        rw [hf]
        rcases ih (if is then some r else best) with ⟨h1, h2⟩ | ⟨r2, h1, h2, h3, h4⟩
        · rw [h1]
          cases is with
          | false =>
            refine .inl ⟨rfl, fun s hs => ?_⟩
            rcases (hm s).1 hs with ⟨h, _⟩ | h | h
            · cases h
            · exact h2 s h
            · exact hu s h
          | true =>
            have hr := hi rfl
            refine .inr ⟨r, rfl, (hm r).2 (.inl ⟨rfl, rfl⟩), by rw [hr.1, hr.2]; exact e, fun s hs hh => ?_⟩
            rcases (hm s).1 hs with ⟨_, rfl⟩ | h | h
            · exact Int.le_refl _
            · rw [h2 s h] at hh; cases hh
            · rw [hu s h] at hh; cases hh
        · refine .inr ⟨r2, h1, (hm r2).2 (.inr (.inl h2)), h3, fun s hs hh => ?_⟩
          rcases (hm s).1 hs with ⟨g, rfl⟩ | h | h
          · have := (all_rules wt ht r2 h2).lt
            rw [(hi g).2]; omega
          · exact h4 s h hh
          · rw [hu s h] at hh; cases hh
      have hmem : ∀ s, s ∈ (T.node pa n r is l k).rules ↔ (is = true ∧ s = r) ∨ s ∈ l.rules ∨ s ∈ k.rules := fun s => by
        cases is <;> simp [T.rules]
      rcases bit01 a n with g | g
      · refine key (b := 0) l k wl wk hl (none1 wk hk (.inr (by omega))) hmem (by simp [T.find, e, g]) fun b => find_longest a wl b
      · refine key (b := 1) k l wk wl hk (none1 wl hl (.inr (by omega))) (fun s => by rw [hmem s]; simp only [or_comm (a := s ∈ l.rules)]) (by simp [T.find, e, g]) fun b => find_longest a wk b
theorem find_spec (a : BitVec 32) {t : T} (h : t.Wf) : Longest t.rules a (t.find a none) := by
  rcases find_longest a h none with ⟨h1, h2⟩ | ⟨r, h1, h2⟩
  · rw [h1]; exact h2
  · rw [h1]; exact h2
end Go.Proofs.Ytilaljdokpdcoaa
