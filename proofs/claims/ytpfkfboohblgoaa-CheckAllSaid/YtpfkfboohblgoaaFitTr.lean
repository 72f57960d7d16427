/- The trace that theseusref17.Fit makes, in plain words, and that it may be. Conditions: none. -/
import Derived.Test.YtpfkfboohblgoaaCertP
import Derived.Test.YtpfkfboohblgoaaFit17
namespace Go.Proofs.Ytpfkfboohblgoaa
open Go.RowKit

def addT (v : Int) (o : List Int) : List Int := if v ∈ o then o else if o = [] ∨ o.headD 0 < v then o ++ [v] else o
/-- The numbers that are tried, one after the other. -/
def tryT (n : Nat) (tr : List Int) : List Int := if tr = [] then [0] else tr.map (fitRk n)
def fitTr (n : Nat) (tr : List Int) : List Int := (tryT n tr).foldl (fun o v => addT v o) []
structure GoodT (n : Nat) (o : List Int) : Prop where
  nodup : o.Nodup
  low : ∀ x ∈ o, o.headD 0 ≤ x
  mem : ∀ x ∈ o, 0 ≤ x ∧ x < n
theorem GoodT.nil (n : Nat) : GoodT n [] := ⟨List.nodup_nil, (fun x h => by cases h), (fun x h => by cases h)⟩
theorem GoodT.add {n : Nat} {o : List Int} (h : GoodT n o) {v : Int} (hv : 0 ≤ v ∧ v < n) : GoodT n (addT v o) := by
  unfold addT
  split
  · exact h
  · rename_i hn
    split
    · rename_i hf
      refine ⟨?_, ?_, ?_⟩
      · rw [List.nodup_append]
        refine ⟨h.nodup, by simp, fun a ha b hb => ?_⟩
        simp only [List.mem_singleton] at hb
        subst hb
        intro e; subst e; exact hn ha
      · intro x hx
        cases o with
        | nil => simp at hx; subst hx; simp
        | cons y t =>
          rcases List.mem_append.1 hx with hx | hx
          · exact h.low x hx
          · simp only [List.mem_singleton] at hx
            subst hx
            rcases hf with hf | hf
            · cases hf
            · simp at hf ⊢; omega
      · intro x hx
        rcases List.mem_append.1 hx with hx | hx
        · exact h.mem x hx
        · simp only [List.mem_singleton] at hx
          subst hx; exact hv
    · exact h
theorem addT_ne {v : Int} {o : List Int} : addT v o ≠ [] := by
  unfold addT
  split
  · rename_i h; intro e; subst e; cases h
  · split
    · simp
    · rename_i h; intro e; exact h (.inl e)
theorem GoodT.fold {n : Nat} (l : List Int) (hl : ∀ x ∈ l, 0 ≤ x ∧ x < n) : ∀ o, GoodT n o → GoodT n (l.foldl (fun o v => addT v o) o) := by
  induction l with
  | nil => intro o h; exact h
  | cons v t ih => intro o h; exact ih (fun x hx => hl x (List.mem_cons_of_mem _ hx)) _ (h.add (hl v (List.mem_cons_self ..)))
theorem fold_ne (l : List Int) : ∀ o, (o ≠ [] ∨ l ≠ []) → l.foldl (fun o v => addT v o) o ≠ [] := by
  induction l with
  | nil => intro o h; rcases h with h | h; exact h; exact absurd rfl h
  | cons v t ih => intro o _; exact ih _ (.inl addT_ne)
theorem tryT_bd {n : Nat} (hn : 1 ≤ n) (tr : List Int) : ∀ x ∈ tryT n tr, 0 ≤ x ∧ x < n := by
  intro x hx
  unfold tryT at hx
  split at hx
  · simp at hx; subst hx; omega
  · obtain ⟨y, _, rfl⟩ := List.mem_map.1 hx
    exact fitRk_bd hn y
theorem fitTr_good {n : Nat} (hn : 1 ≤ n) (tr : List Int) : GoodT n (fitTr n tr) := GoodT.fold _ (tryT_bd hn tr) _ (GoodT.nil n)
theorem fitTr_ne (n : Nat) (tr : List Int) : fitTr n tr ≠ [] := by
  refine fold_ne _ _ (.inr ?_)
  unfold tryT
  split
  · simp
  · rename_i h; simpa using h
theorem nodup_few : ∀ (n : Nat) (l : List Int), l.Nodup → (∀ x ∈ l, 0 ≤ x ∧ x < (n : Int)) → l.length ≤ n
  | 0, l, _, h => by
    cases l with
    | nil => simp
    | cons x t => have := h x (List.mem_cons_self ..); omega
  | n + 1, l, hd, h => by
    have h1 := nodup_few n (l.erase (n : Int)) (hd.erase _) (fun x hx => by
      have hx2 := (hd.mem_erase_iff).1 hx
      have := h x hx2.2
      have := hx2.1
      omega)
    rw [List.length_erase] at h1
    split at h1 <;> omega
theorem trG_no {f : Int} : ∀ (t s : List Int), (s ++ t).Nodup → (∀ x ∈ t, f ≤ x) → trG f s t = false
  | [], _, _, _ => rfl
  | x :: t, s, hd, hl => by
    have h1 : x ∉ s := fun hx => by
      rw [List.nodup_append] at hd
      exact hd.2.2 x hx x (List.mem_cons_self ..) rfl
    have h2 := hl x (List.mem_cons_self ..)
    show (decide (x ∈ s) || (decide (x < f) || trG f (s ++ [x]) t)) = false
    rw [trG_no t (s ++ [x]) (by simpa using hd) (fun y hy => hl y (List.mem_cons_of_mem _ hy)), decide_eq_false h1, decide_eq_false (show ¬ x < f by omega)]
    rfl
theorem fitTr_may {n : Nat} (hn : 1 ≤ n) (tr : List Int) (d : BitVec 32) : certMayV n ⟨2, [], [], d, fitTr n tr⟩ = 0 := by
  have hg := fitTr_good hn tr
  have h1 := nodup_few n _ hg.nodup hg.mem
  have h2 := List.length_pos_iff.2 (fitTr_ne n tr)
  have h3 : (fitTr n tr).any (outB n) = false := by
    rw [List.any_eq_false]
    intro x hx
    have := hg.mem x hx
    unfold outB
    simp; omega
  have h4 := trG_no (fitTr n tr) [] (by simpa using hg.nodup) hg.low
  unfold certMayV loopsV
  rw [if_neg (show ¬ (2 : Int) = 1 by decide), if_pos rfl, if_neg (by simp), if_neg (show ¬ ((fitTr n tr).length = 0 ∨ (n : Int) < ((fitTr n tr).length : Int)) by omega), if_neg (show ¬ (fitTr n tr).any (outB n) = true by rw [h3]; simp)]
  exact if_neg (by rw [h4]; simp)
end Go.Proofs.Ytpfkfboohblgoaa
