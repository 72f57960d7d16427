/- Plain facts on tries of tables that may be: their rules. Conditions: prefixes may be, each once. -/
import Derived.Test.YtilaljdokpdcoaaTrieM
import Derived.Test.YtilaljdokpdcoaaFitLaw
namespace Go.Proofs.Ytilaljdokpdcoaa
open Go.RowKit

abbrev Free (pa : BitVec 32) (n : Int) (l : List Rul) : Prop := ∀ y ∈ l, ¬ (y.pa = pa ∧ y.pl = n)
theorem hang_rules (pa : BitVec 32) (n : Int) (r : Rul) (t : T) : (hangT pa n r t).rules.Perm (r :: t.rules) := by
  cases t with
  | nil => exact List.Perm.refl _
  | node qa qn qr qi l k =>
    unfold hangT
    simp only
    split
    · split
      · simp only [T.rules, if_true, List.append_nil]; exact List.Perm.refl _
      · simp only [T.rules, if_true, List.nil_append]; exact List.Perm.refl _
    · split
      · simp only [T.rules, if_true, List.append_nil, List.nil_append, Bool.false_eq_true, if_false]
        exact List.perm_append_singleton r _
      · simp only [T.rules, if_true, List.append_nil, List.nil_append, Bool.false_eq_true, if_false]; exact List.Perm.refl _
theorem put_rules {pa : BitVec 32} {n : Int} {r : Rul} : ∀ {t : T}, t.Wf → Free pa n t.rules → (putT pa n r t).rules.Perm (r :: t.rules)
  | .nil, _, _ => hang_rules pa n r .nil
  | .node qa qn qr qi l k, h, hf => by
    unfold putT
    split
    · split
      · rename_i e
        split
        · rename_i g
          subst g
          exfalso
          have := h.2.1 rfl
          exact hf qr (by simp [T.rules]) ⟨this.1.trans e.1.symm, this.2.trans e.2.symm⟩
        · rename_i g
          simp only [T.rules, g, if_true, Bool.false_eq_true, if_false, List.nil_append]
          exact List.Perm.refl _
      · split
        · have ih := put_rules (r := r) h.2.2.2.2.2.1 fun y hy => hf y (by simp [T.rules, hy])
          simp only [T.rules]
          refine (List.Perm.append_left _ (List.Perm.append_right _ ih)).trans ?_
          exact List.perm_middle
        · have ih := put_rules (r := r) h.2.2.2.2.2.2 fun y hy => hf y (by simp [T.rules, hy])
          simp only [T.rules]
          refine (List.Perm.append_left _ (List.Perm.append_left _ ih)).trans ?_
          refine (List.Perm.append_left _ List.perm_middle).trans ?_
          exact List.perm_middle
    · exact hang_rules pa n r _
theorem valid_mayV {a : BitVec 32} {n : Int} (h : Valid a n) : mayV a n = 0 := by
  unfold mayV
  rw [if_neg (by have := h.1; have := h.2.1; omega), if_pos]
  have h2 := h.2.2
  apply BitVec.eq_of_getLsbD_eq
  intro i hi
  have := congrArg (fun x : BitVec 32 => x.getLsbD i) h2
  simp only [BitVec.getLsbD_and, BitVec.getLsbD_not, BitVec.getLsbD_zero] at this ⊢
  cases e : a.getLsbD i <;> cases e2 : (maskV n).getLsbD i <;> simp_all
theorem fold_rules : ∀ (l : List Rul) (t : T), t.Wf → (∀ r ∈ l, Valid r.pa r.pl) → l.Pairwise (fun a b => ¬ (a.pa = b.pa ∧ a.pl = b.pl)) → (∀ r ∈ l, Free r.pa r.pl t.rules) → (l.foldl putOk t).rules.Perm (l ++ t.rules)
  | [], _, _, _, _, _ => List.Perm.refl _
  | r :: l, t, h, hv, hd, hf => by
    have hp : putOk t r = putT r.pa r.pl r t := if_pos (valid_mayV (hv r (by simp)))
    have h1 := put_rules (r := r) h (hf r (by simp))
    rw [← hp] at h1
    obtain ⟨d1, d2⟩ := List.pairwise_cons.1 hd
    have h2 := fold_rules l (putOk t r) (wf_putOk r h) (fun x hx => hv x (by simp [hx])) d2 fun x hx y hy => by
      rcases List.mem_cons.1 (h1.mem_iff.1 hy) with rfl | hy
      · exact d1 x hx
      · exact hf x (by simp [hx]) y hy
    exact h2.trans ((List.Perm.append_left l h1).trans List.perm_middle)
/-- A table that may be. -/
structure Tab (l : List Rul) : Prop where
  valid : ∀ r ∈ l, Valid r.pa r.pl
  apart : l.Pairwise (fun a b => ¬ (a.pa = b.pa ∧ a.pl = b.pl))
theorem Tab.take {l : List Rul} (h : Tab l) (k : Nat) : Tab (l.take k) :=
  ⟨fun r hr => h.valid r (List.mem_of_mem_take hr), h.apart.sublist (List.take_sublist _ _)⟩
theorem fit_tab (l : List Rul) (nodes : Int) : Tab (fitL l nodes) := ⟨fitL_valid, (fitL_sorted l nodes).imp ltP_ne⟩
theorem build_rules {l : List Rul} (h : Tab l) : (buildT l).rules.Perm l := by
  have := fold_rules l .nil trivial h.valid h.apart (fun _ _ y hy => by cases hy)
  rw [T.rules, List.append_nil] at this
  exact this
theorem Longest.mem {l m : List Rul} {a : BitVec 32} {o : Option Rul} (hlm : ∀ x, x ∈ l ↔ x ∈ m) (h : Longest l a o) : Longest m a o := by
  cases o with
  | none => exact fun s hs => h s ((hlm s).2 hs)
  | some r => exact ⟨(hlm r).1 h.1, h.2.1, fun s hs => h.2.2 s ((hlm s).2 hs)⟩
theorem build_find {l : List Rul} (h : Tab l) (a : BitVec 32) : Longest l a ((buildT l).find a none) :=
  (find_spec a (wf_build l)).mem fun _ => (build_rules h).mem_iff
/-- Of a part of the rules none longer is found. -/
theorem longest_part {l m : List Rul} {a : BitVec 32} {o u : Option Rul} (hs : ∀ x ∈ m, x ∈ l) (ho : Longest l a o) (hu : Longest m a u) : (!u.isSome || (o.isSome && decide ((resR u).pl ≤ (resR o).pl))) = true := by
  cases u with
  | none => rfl
  | some s =>
    cases o with
    | none =>
      have h1 := ho s (hs s hu.1)
      rw [hu.2.1] at h1; cases h1
    | some r =>
      have := ho.2.2 s (hs s hu.1) hu.2.1
      show (false || (true && decide (s.pl ≤ r.pl))) = true
      rw [decide_eq_true this]; rfl
end Go.Proofs.Ytilaljdokpdcoaa
