/- Plain facts on networks: which may be, where an address is sent, and networks that are made such as may be. Conditions: none. -/
import Derived.Test.YtilaljdokpdcoaaNet
import Derived.Test.YtilaljdokpdcoaaTrieO
namespace Go.Proofs.Ytilaljdokpdcoaa
open Go.RowKit

def netG (nodes : Int) : List (List Rul) → Int
  | [] => 0
  | l :: r => if tabMayV nodes l ≠ 0 then tabMayV nodes l else netG nodes r
def netMayV (ls : List (List Rul)) : Int := if 256 < ls.length ∨ 4096 < sizeN ls then 12 else netG ls.length ls
theorem netG_step (nodes : Int) {ls : List (List Rul)} {k : Nat} (h : k < ls.length) : netG nodes (ls.drop k) = if tabMayV nodes ls[k] ≠ 0 then tabMayV nodes ls[k] else netG nodes (ls.drop (k + 1)) := by
  rw [List.drop_eq_getElem_cons h]; rfl
theorem netG_end (nodes : Int) {ls : List (List Rul)} {k : Nat} (h : ls.length ≤ k) : netG nodes (ls.drop k) = 0 := by rw [List.drop_of_length_le h]; rfl
theorem netG_all {nodes : Int} : ∀ {ls : List (List Rul)}, netG nodes ls = 0 → ∀ l ∈ ls, tabMayV nodes l = 0
  | [], _, _, h => by cases h
  | x :: r, h, l, hl => by
    unfold netG at h
    by_cases hx : tabMayV nodes x = 0
    · rw [if_neg (by simpa using hx)] at h
      rcases List.mem_cons.1 hl with rfl | hl
      · exact hx
      · exact netG_all h l hl
    · rw [if_pos hx] at h; exact absurd h hx
theorem netG_zero {nodes : Int} : ∀ {ls : List (List Rul)}, (∀ l ∈ ls, tabMayV nodes l = 0) → netG nodes ls = 0
  | [], _ => rfl
  | x :: r, h => by
    unfold netG
    rw [if_neg (by simpa using h x (by simp))]
    exact netG_zero fun l hl => h l (by simp [hl])
theorem netMay_tabs {ls : List (List Rul)} (h : netMayV ls = 0) : ls.length ≤ 256 ∧ sizeN ls ≤ 4096 ∧ ∀ l ∈ ls, tabMayV ls.length l = 0 := by
  unfold netMayV at h
  split at h
  · cases h
  · exact ⟨by omega, by omega, netG_all h⟩
theorem cmp_one {a b : Rul} : cmpR a b = 1 ↔ ltP b a := by
  rw [ltP_iff]
  unfold cmpR
  rw [cmpV_eq]
  constructor
  · intro h
    split at h
    · omega
    · split at h
      · omega
      · rename_i h1 h2
        rcases Int.lt_trichotomy (uv b.pa) (uv a.pa) with g | g | g
        · exact .inl g
        · refine .inr ⟨uv_inj g, ?_⟩
          have e := uv_inj g
          rcases Int.lt_trichotomy b.pl a.pl with q | q | q
          · exact q
          · exact absurd ⟨e.symm, q.symm⟩ h2
          · exact absurd (.inr ⟨e.symm, q⟩) h1
        · exact absurd (.inl g) h1
  · intro h
    rw [if_neg, if_neg]
    · rintro ⟨e1, e2⟩
      rcases h with h | ⟨_, h⟩
      · rw [e1] at h; omega
      · omega
    · rintro (g | ⟨e1, g⟩)
      · rcases h with h | ⟨h, _⟩
        · omega
        · rw [h] at g; omega
      · rcases h with h | ⟨_, h⟩
        · rw [e1] at h; omega
        · omega
theorem tabG_spec (nodes : Int) : ∀ (l : List Rul) (p : Option Rul), tabG nodes p l = 0 → (∀ r ∈ l, ruleMayV r nodes = 0) ∧ Sorted l ∧ ∀ q, p = some q → ∀ r ∈ l, ltP q r
  | [], p, _ => ⟨fun r h => (by cases h), List.Pairwise.nil, fun q _ r h => (by cases h)⟩
  | x :: l, p, h => by
    unfold tabG at h
    by_cases hx : ruleMayV x nodes = 0
    · rw [if_neg (by simpa using hx)] at h
      by_cases hb : badOrd p x = true
      · rw [if_pos hb] at h; cases h
      · rw [if_neg hb] at h
        obtain ⟨h1, h2, h3⟩ := tabG_spec nodes l (some x) h
        have h4 := h3 x rfl
        refine ⟨fun r hr => ?_, List.Pairwise.cons h4 h2, fun q hq r hr => ?_⟩
        · rcases List.mem_cons.1 hr with rfl | hr
          · exact hx
          · exact h1 r hr
        · subst hq
          have hqx : ltP q x := by
            unfold badOrd at hb
            exact cmp_one.1 (by simpa [cmpR] using hb)
          rcases List.mem_cons.1 hr with rfl | hr
          · exact hqx
          · exact ltP_trans hqx (h4 r hr)
    · rw [if_pos hx] at h; exact absurd h hx
theorem tabG_zero (nodes : Int) : ∀ (l : List Rul) (p : Option Rul), (∀ r ∈ l, ruleMayV r nodes = 0) → Sorted l → (∀ q, p = some q → ∀ r ∈ l, ltP q r) → tabG nodes p l = 0
  | [], p, _, _, _ => by cases p <;> rfl
  | x :: l, p, h1, h2, h3 => by
    unfold tabG
    rw [if_neg (by simpa using h1 x (by simp)), if_neg]
    · have h2' := List.pairwise_cons.1 h2
      exact tabG_zero nodes l (some x) (fun r hr => h1 r (by simp [hr])) h2'.2 fun q hq r hr => by cases hq; exact h2'.1 r hr
    · intro hb
      cases p with
      | none => cases hb
      | some q =>
        have := cmp_one.2 (h3 q rfl x (by simp))
        have hb' : (cmpV x.pa x.pl q.pa q.pl != 1) = true := hb
        simp only [cmpR] at this
        rw [this] at hb'
        simp at hb'
theorem ruleMay_valid {r : Rul} {nodes : Int} (h : ruleMayV r nodes = 0) : Valid r.pa r.pl := by
  refine mayV_valid ?_
  by_cases g : mayV r.pa r.pl = 0
  · exact g
  · unfold ruleMayV at h
    rw [if_pos g] at h
    exact absurd h g
theorem tab_of_may {nodes : Int} {l : List Rul} (h : tabMayV nodes l = 0) : Tab l :=
  let ⟨h1, h2, _⟩ := tabG_spec nodes l none h
  ⟨fun r hr => ruleMay_valid (h1 r hr), h2.imp ltP_ne⟩
theorem netMay_tab {ls : List (List Rul)} (h : netMayV ls = 0) : ∀ l ∈ ls, Tab l := fun l hl => tab_of_may ((netMay_tabs h).2.2 l hl)

/-- Where a table sends an address. -/
def stepO (l : List Rul) (a : BitVec 32) : Option Int :=
  match findL l a with
  | some r => if r.act = 1 then some r.nx else none
  | none => none
/-- Where all nodes send an address. -/
def vecV (ls : List (List Rul)) (a : BitVec 32) : List Int := ls.map fun l => (stepO l a).getD (-1)
theorem vecV_len (ls : List (List Rul)) (a : BitVec 32) : (vecV ls a).length = ls.length := List.length_map _
theorem vecV_get {ls : List (List Rul)} {a : BitVec 32} {k : Nat} (h : k < ls.length) : (vecV ls a)[k]? = some ((stepO ls[k] a).getD (-1)) := by
  unfold vecV; rw [List.getElem?_map, List.getElem?_eq_getElem h]; rfl

/-- A network that may be. -/
def manyN (ls : List (List Rul)) : Nat := max 1 (min ls.length 8)
def fitN (ls : List (List Rul)) : List (List Rul) := (List.range (manyN ls)).map fun i => fitL (ls.getD i []) (manyN ls)
theorem manyN_bd (ls : List (List Rul)) : 1 ≤ manyN ls ∧ manyN ls ≤ 8 := by unfold manyN; omega
theorem fitN_len (ls : List (List Rul)) : (fitN ls).length = manyN ls := by unfold fitN; rw [List.length_map, List.length_range]
theorem fitN_mem {ls : List (List Rul)} {l : List Rul} (h : l ∈ fitN ls) : ∃ m, l = fitL m (manyN ls) := by
  unfold fitN at h
  obtain ⟨i, _, rfl⟩ := List.mem_map.1 h
  exact ⟨_, rfl⟩
theorem ruleMay_fit (r : Rul) {nodes : Int} (h1 : 1 ≤ nodes) : ruleMayV (fitV r nodes) nodes = 0 := by
  have hv : mayV (fitV r nodes).pa (fitV r nodes).pl = 0 := valid_mayV (fitV_valid r nodes)
  unfold ruleMayV
  rw [if_neg (by simpa using hv)]
  have e1 : (fitV r nodes).act = if r.act % 3 = 0 then 3 else r.act % 3 := rfl
  have e2 : (fitV r nodes).nx = if r.act % 3 = 1 then r.nx % nodes else 0 := rfl
  have b0 := Int.emod_nonneg r.nx (show nodes ≠ 0 by omega)
  have b1 := Int.emod_lt_of_pos r.nx (show 0 < nodes by omega)
  rcases mod3 r.act with g | g | g <;> simp only [g] at e1 e2 <;> rw [e1, e2] <;> simp <;> omega
theorem fit_may (l : List Rul) {nodes : Int} (h1 : 1 ≤ nodes) : tabMayV nodes (fitL l nodes) = 0 :=
  tabG_zero nodes _ none (fun r hr => by obtain ⟨q, rfl⟩ := fitL_mem hr; exact ruleMay_fit q h1) (fitL_sorted l nodes) fun q hq => by cases hq
theorem sum_le {l : List Nat} {c : Nat} (h : ∀ x ∈ l, x ≤ c) : l.sum ≤ l.length * c := by
  induction l with
  | nil => simp
  | cons x l ih =>
    have h1 := ih fun y hy => h y (by simp [hy])
    have h2 := h x (by simp)
    rw [List.sum_cons, List.length_cons, Nat.succ_mul]; omega
theorem sizeN_le {ls : List (List Rul)} {c : Nat} (h : ∀ l ∈ ls, l.length ≤ c) : sizeN ls ≤ ls.length * c := by
  unfold sizeN
  have := @sum_le (ls.map List.length) c fun x hx => by obtain ⟨l, hl, rfl⟩ := List.mem_map.1 hx; exact h l hl
  rwa [List.length_map] at this
theorem fitN_short {ls : List (List Rul)} : ∀ l ∈ fitN ls, l.length ≤ 20 := fun l hl => by obtain ⟨m, rfl⟩ := fitN_mem hl; exact fitL_len m _
theorem fitN_size (ls : List (List Rul)) : sizeN (fitN ls) ≤ 160 := by
  have h := sizeN_le (@fitN_short ls)
  rw [fitN_len] at h
  have := manyN_bd ls
  have : manyN ls * 20 ≤ 8 * 20 := Nat.mul_le_mul_right _ (by omega)
  omega
theorem fitN_may (ls : List (List Rul)) : netMayV (fitN ls) = 0 := by
  have h1 := fitN_size ls
  have h2 := manyN_bd ls
  have h3 := fitN_len ls
  unfold netMayV
  rw [if_neg (by omega), h3]
  exact netG_zero fun l hl => by obtain ⟨m, rfl⟩ := fitN_mem hl; exact fit_may m (by omega)
theorem fitN_ok (ls : List (List Rul)) : TablesOk (fitN ls) := fun l hl => by
  obtain ⟨m, rfl⟩ := fitN_mem hl
  have := manyN_bd ls
  exact fitL_ok (by omega) (by omega)
/-- A network of 8 nodes at most, of 20 rules at most each. -/
def fewN (ls : List (List Rul)) : List (List Rul) := (ls.take 8).map (·.take 20)
theorem fewN_len (ls : List (List Rul)) : (fewN ls).length ≤ 8 := by unfold fewN; rw [List.length_map, List.length_take]; omega
theorem fewN_short {ls : List (List Rul)} : ∀ l ∈ fewN ls, l.length ≤ 20 := fun l hl => by
  obtain ⟨m, _, rfl⟩ := List.mem_map.1 hl
  rw [List.length_take]; omega
theorem fewN_size (ls : List (List Rul)) : sizeN (fewN ls) ≤ 160 := by
  have h := sizeN_le (@fewN_short ls)
  have := fewN_len ls
  have : (fewN ls).length * 20 ≤ 8 * 20 := Nat.mul_le_mul_right _ (by omega)
  omega
theorem fewN_ok {ls : List (List Rul)} (h : TablesOk ls) : TablesOk (fewN ls) := fun l hl r hr => by
  obtain ⟨m, hm, rfl⟩ := List.mem_map.1 hl
  exact h m (List.mem_of_mem_take hm) r (List.mem_of_mem_take hr)
end Go.Proofs.Ytilaljdokpdcoaa
