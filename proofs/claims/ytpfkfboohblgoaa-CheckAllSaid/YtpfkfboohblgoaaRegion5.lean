/- A statement whose order Go leaves open: one state for all orders; each operation's step is shown once. Conditions: as in the texts ahead; each operation waits for earlier ones alone. -/
import Derived.Test.YtpfkfboohblgoaaRegion4
namespace Go.Proofs.Ytpfkfboohblgoaa
open Go.RowKit

section
variable {P : Program} {R : World → World → Prop} {l : List Oper} {n : Nat} {Q : Exit → Act → World → Prop}

/-- Each operation waits for earlier ones alone. -/
def backB (l : List Oper) : Bool := (List.range l.length).all fun j => ((l[j]?).map fun o => o.after.all fun e => !Region.binds .any e || decide (e.on < j)).getD true
theorem backB_spec (h : backB l = true) {j : Nat} {o : Oper} (ho : l[j]? = some o) : ∀ e ∈ o.after, Region.binds .any e = true → e.on < j := by
  intro e he hb
  have hj := (List.getElem?_eq_some_iff.1 ho).1
  have h1 := List.all_eq_true.1 h j (List.mem_range.2 hj)
  rw [ho] at h1
  simp only [Option.map_some, Option.getD_some, Array.all_eq_true_iff_forall_mem] at h1
  have h2 := h1 e he
  rw [hb] at h2
  simpa using h2
def upd (b : Nat → Bool) (i : Nat) : Nat → Bool := fun j => if j = i then true else b j
theorem upd_self (b : Nat → Bool) (i : Nat) : upd b i i = true := by unfold upd; rw [if_pos rfl]
theorem upd_other {b : Nat → Bool} {i j : Nat} (h : j ≠ i) : upd b i j = b j := by unfold upd; rw [if_neg h]
def flags (listed : Array Bool) : Nat → Bool := fun j => listed.getD j false
theorem flags_set {listed : Array Bool} {i : Nat} (h : i < listed.size) : flags (listed.setIfInBounds i true) = upd (flags listed) i := by
  funext j
  unfold flags upd
  by_cases e : j = i
  · subst e; simp [h]
  · rw [if_neg e]
    simp [Ne.symm e]
/-- How many of the first ones are left. -/
def left (b : Nat → Bool) : Nat → Nat
  | 0 => 0
  | k + 1 => left b k + (if b k then 0 else 1)
theorem left_upd {b : Nat → Bool} {i : Nat} (hb : b i = false) : ∀ k, i < k → left b k = left (upd b i) k + 1
  | 0, h => by omega
  | k + 1, h => by
    unfold left
    by_cases e : k = i
    · subst e
      rw [hb, upd_self]
      have : ∀ m, m ≤ k → left b m = left (upd b k) m := by
        intro m
        induction m with
        | zero => intro _; rfl
        | succ m ih => intro hm; unfold left; rw [ih (by omega), upd_other (by omega)]
      rw [this k (Nat.le_refl _)]; simp
    · rw [left_upd hb k (by omega), upd_other e]; omega
theorem left_zero {b : Nat → Bool} : ∀ {k}, left b k = 0 → ∀ i, i < k → b i = true
  | 0, _, _, h => by omega
  | k + 1, h, i, hi => by
    unfold left at h
    rcases Nat.lt_or_ge i k with g | g
    · exact left_zero (by omega) i g
    · have : i = k := by omega
      subst this
      cases hb : b i
      · rw [hb] at h; simp at h
      · rfl
theorem left_some {b : Nat → Bool} : ∀ {k}, left b k ≠ 0 → ∃ i, i < k ∧ b i = false ∧ ∀ j, j < i → b j = true
  | 0, h => absurd rfl h
  | k + 1, h => by
    by_cases g : left b k = 0
    · refine ⟨k, by omega, ?_, left_zero g⟩
      unfold left at h
      cases hb : b k
      · rfl
      · rw [hb] at h; simp at h; omega
    · obtain ⟨i, h1, h2⟩ := left_some g
      exact ⟨i, by omega, h2⟩
def doneA (n m : Nat) : Array Bool := (List.range m).map (fun i => decide (i < n)) |>.toArray
theorem done_eq {listed : Array Bool} {m : Nat} (hs : listed.size = m) (h1 : ∀ i, i < n → listed.getD i false = true) (h2 : ∀ t, n ≤ t → t < m → listed.getD t true = false) : listed = doneA n m := by
  refine Array.ext (by simp [doneA, hs]) fun i hi _ => ?_
  have him : i < m := by omega
  simp only [doneA, List.getElem_toArray, List.getElem_map, List.getElem_range]
  by_cases g : i < n
  · have := h1 i g
    simp [hi] at this
    simp [g, this]
  · have := h2 i (by omega) him
    simp [hi] at this
    simp [g, this]
theorem WR_steps (S : (Nat → Bool) → Act → World → Prop) (hback : backB l = true) (hseq : Region.seqB .any l.toArray (l.length - n) n (doneA n l.length) = true)
    (steps : ∀ i oi b a w, l[i]? = some oi → i < n → b i = false → (∀ e ∈ oi.after, Region.binds .any e = true → b e.on = true) → S b a w →
      oi.guard = none ∧ ∀ K : Act → World → Prop, (∀ a' w', R w w' → S (upd b i) a' w' → K a' w') → oi.wp P a w K NoWay)
    (fin : ∀ b a w, (∀ i, i < n → b i = true) → S b a w → wpList P l.toArray Q (l.drop n) a w) :
    ∀ (f : Nat) (listed : Array Bool) (a : Act) (w : World), left (flags listed) n = f → S (flags listed) a w → WR R P l n Q f listed a w := by
  intro f
  induction f with
  | zero =>
    intro listed a w hf hS hk inv
    have h1 := left_zero hf
    refine ⟨?_, fin _ a w h1 hS⟩
    rw [done_eq (n := n) (m := l.length) (by rw [inv.size]; simp) h1 (fun t h2 h3 => inv.tail t h2 (by simpa using h3))]
    exact hseq
  | succ f ih =>
    intro listed a w hf hS hk inv
    have hk' := hk
    simp only [okE, Bool.and_eq_true, decide_eq_true_eq] at hk
    obtain ⟨⟨⟨hsel, hn⟩, hs⟩, hc⟩ := hk
    have hn' : n < l.length := by simpa using hn
    have hsz : listed.size = l.length := by rw [inv.size]; simp
    obtain ⟨i0, hi1, hi2, hi3⟩ := left_some (b := flags listed) (k := n) (by omega)
    have hun0 : listed.getD i0 true = false := getD_in (by omega) hi2
    have hr0 : i0 ∈ Region.ready .any l.toArray listed := by
      rw [mem_ready]
      refine ⟨hun0, l[i0]'(by omega), by simp, fun e he hb => ?_⟩
      exact hi3 _ (backB_spec hback (List.getElem?_eq_getElem (by omega)) e he hb)
    refine ⟨fun h0 => (by rw [h0] at hr0; cases hr0), fun i hi => ?_⟩
    have hin : i < n := by
      rcases Nat.lt_or_ge i n with h | h
      · exact h
      · exact absurd hi (tail_waits hs hc hn inv _ i0 rfl hi1 hun0 i h)
    refine ⟨hin, ?_⟩
    have hi' := hi
    rw [mem_ready] at hi'
    obtain ⟨hun, oi, hoi, hall⟩ := hi'
    have hoi' : l[i]? = some oi := by simpa using hoi
    have hb : flags listed i = false := getD_both hun
    obtain ⟨hg, hstep⟩ := steps i oi (flags listed) a w hoi' hin hb hall hS
    unfold wpOp
    simp only [hoi]
    rw [if_pos (wanted_none hg a)]
    refine .inl (hstep _ fun a' w' hR' hS' => ⟨hR', ?_⟩)
    have hfl := flags_set (listed := listed) (i := i) (by omega)
    refine ih _ a' w' ?_ (by rw [hfl]; exact hS') hk' (inv.set hi hin)
    rw [hfl]
    have := left_upd hb n hin
    omega
end
end Go.Proofs.Ytpfkfboohblgoaa
