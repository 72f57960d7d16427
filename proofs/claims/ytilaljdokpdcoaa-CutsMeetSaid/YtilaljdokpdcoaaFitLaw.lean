/- Plain facts on tables that may be: in order, each prefix once, each may be. Conditions: none. -/
import Derived.Test.YtilaljdokpdcoaaFit
import Derived.Test.YtilaljdokpdcoaaBits
namespace Go.Proofs.Ytilaljdokpdcoaa
open Go.RowKit

def ltP (a b : Rul) : Prop := cmpR a b < 0
theorem ltP_iff (a b : Rul) : ltP a b ↔ (uv a.pa < uv b.pa ∨ a.pa = b.pa ∧ a.pl < b.pl) := by
  unfold ltP cmpR
  rw [cmpV_eq]
  split
  · simp_all
  · rename_i h
    constructor
    · intro g; split at g <;> omega
    · intro g; exact absurd g h
theorem cmpR_zero (a b : Rul) : cmpR a b = 0 ↔ (a.pa = b.pa ∧ a.pl = b.pl) := by
  unfold cmpR
  rw [cmpV_eq]
  constructor
  · intro g
    split at g
    · omega
    · split at g
      · assumption
      · omega
  · rintro ⟨h1, h2⟩
    rw [h1, h2, if_neg (by omega), if_pos ⟨rfl, rfl⟩]
theorem ltP_not {a b : Rul} (h : ¬ ltP a b) (h0 : ¬ cmpR a b = 0) : ltP b a := by
  rw [ltP_iff] at h ⊢
  rw [cmpR_zero] at h0
  by_cases e : a.pa = b.pa
  · rw [e] at h h0 ⊢
    refine .inr ⟨rfl, ?_⟩
    have : ¬ a.pl < b.pl := fun g => h (.inr ⟨rfl, g⟩)
    have : ¬ a.pl = b.pl := fun g => h0 ⟨rfl, g⟩
    omega
  · have h1 : ¬ uv a.pa < uv b.pa := fun g => h (.inl g)
    have h2 : uv a.pa ≠ uv b.pa := fun g => e (by
      unfold uv at g
      exact BitVec.eq_of_toNat_eq (by omega))
    exact .inl (by omega)
theorem ltP_trans {a b c : Rul} (h1 : ltP a b) (h2 : ltP b c) : ltP a c := by
  rw [ltP_iff] at *
  rcases h1 with h1 | ⟨e1, h1⟩ <;> rcases h2 with h2 | ⟨e2, h2⟩
  · exact .inl (by omega)
  · exact .inl (by rw [← e2]; exact h1)
  · exact .inl (by rw [e1]; exact h2)
  · exact .inr ⟨e1.trans e2, by omega⟩
theorem ltP_ne {a b : Rul} (h : ltP a b) : ¬ (a.pa = b.pa ∧ a.pl = b.pl) := by
  intro g
  have := (cmpR_zero a b).2 g
  unfold ltP at h; omega
def Sorted (l : List Rul) : Prop := l.Pairwise ltP
theorem sorted_ins {out : List Rul} (h : Sorted out) (r : Rul) : Sorted (ins out r) := by
  unfold ins
  split
  · exact h
  · rename_i hne
    unfold Sorted at *
    have hd : ∀ x ∈ out.drop (insAt out r), ltP r x := by
      intro x hx
      obtain ⟨j, hj, rfl⟩ := List.mem_iff_getElem.1 hx
      rw [List.length_drop] at hj
      have hl : insAt out r < out.length := by omega
      have h0 : ltP r out[insAt out r] := ltP_not (insAt_end hl) (fun e => hne (by rw [List.getElem?_eq_getElem hl]; simp [e]))
      rw [List.getElem_drop]
      cases j with
      | zero => exact h0
      | succ j => exact ltP_trans h0 (List.pairwise_iff_getElem.1 h _ _ hl (by omega) (by omega))
    rw [List.pairwise_append, List.pairwise_cons]
    have ht : ∀ x ∈ out.take (insAt out r), ltP x r := by
      intro x hx
      obtain ⟨j, hj, rfl⟩ := List.mem_iff_getElem.1 hx
      rw [List.length_take] at hj
      rw [List.getElem_take]
      exact insAt_lt (by omega) (by omega)
    refine ⟨h.sublist (List.take_sublist _ _), ⟨hd, h.sublist (List.drop_sublist _ _)⟩, fun a ha b hb => ?_⟩
    rcases List.mem_cons.1 hb with rfl | hb
    · exact ht a ha
    · exact ltP_trans (ht a ha) (hd b hb)
theorem mem_ins {out : List Rul} {r x : Rul} (h : x ∈ ins out r) : x ∈ out ∨ x = r := by
  unfold ins at h
  split at h
  · exact .inl h
  · rw [List.mem_append, List.mem_cons] at h
    rcases h with h | h | h
    · exact .inl (List.mem_of_mem_take h)
    · exact .inr h
    · exact .inl (List.mem_of_mem_drop h)
theorem fold_sorted (nodes : Int) : ∀ (l out : List Rul), Sorted out → Sorted (l.foldl (fun out r => ins out (fitV r nodes)) out)
  | [], _, h => h
  | _ :: l, _, h => fold_sorted nodes l _ (sorted_ins h _)
theorem fold_mem (nodes : Int) {x : Rul} : ∀ (l out : List Rul), x ∈ l.foldl (fun out r => ins out (fitV r nodes)) out → x ∈ out ∨ ∃ r ∈ l, x = fitV r nodes
  | [], _, h => .inl h
  | r :: l, out, h => by
    rcases fold_mem nodes l _ h with h | ⟨r2, h1, h2⟩
    · rcases mem_ins h with h | h
      · exact .inl h
      · exact .inr ⟨r, by simp, h⟩
    · exact .inr ⟨r2, by simp [h1], h2⟩
theorem fold_len (nodes : Int) : ∀ (l out : List Rul), (l.foldl (fun out r => ins out (fitV r nodes)) out).length ≤ out.length + l.length
  | [], _ => Nat.le_refl _
  | r :: l, out => by
    have h1 := fold_len nodes l (ins out (fitV r nodes))
    have h2 := ins_len out (fitV r nodes)
    simp only [List.foldl_cons, List.length_cons]; omega
theorem fitL_sorted (l : List Rul) (nodes : Int) : Sorted (fitL l nodes) := fold_sorted nodes _ _ List.Pairwise.nil
theorem fitL_len (l : List Rul) (nodes : Int) : (fitL l nodes).length ≤ 20 := by
  have := fold_len nodes (l.take 20) []
  rw [List.length_take] at this
  unfold fitL
  simp only [List.length_nil] at this
  omega
theorem fitL_mem {l : List Rul} {nodes : Int} {x : Rul} (h : x ∈ fitL l nodes) : ∃ r, x = fitV r nodes := by
  rcases fold_mem nodes _ _ h with h | ⟨r, _, h⟩
  · cases h
  · exact ⟨r, h⟩
theorem fitV_valid (r : Rul) (nodes : Int) : Valid (fitV r nodes).pa (fitV r nodes).pl := by
  unfold fitV Valid
  simp only
  refine ⟨by omega, by omega, ?_⟩
  rw [BitVec.and_assoc, BitVec.and_self]
theorem fitV_ok (r : Rul) {nodes : Int} (h1 : 1 ≤ nodes) (h2 : nodes ≤ 100000) : (fitV r nodes).Ok := by
  have a := Int.emod_nonneg r.nx (show nodes ≠ 0 by omega)
  have b := Int.emod_lt_of_pos r.nx (show 0 < nodes by omega)
  refine ⟨?_, ?_, ?_⟩ <;> unfold fitV In64 <;> simp only
  · omega
  · split <;> omega
  · split <;> omega
theorem fitL_valid {l : List Rul} {nodes : Int} : ∀ x ∈ fitL l nodes, Valid x.pa x.pl := fun x hx => by
  obtain ⟨r, rfl⟩ := fitL_mem hx
  exact fitV_valid r nodes
theorem fitL_ok {l : List Rul} {nodes : Int} (h1 : 1 ≤ nodes) (h2 : nodes ≤ 100000) : RulesOk (fitL l nodes) := fun x hx => by
  obtain ⟨r, rfl⟩ := fitL_mem hx
  exact fitV_ok r h1 h2
end Go.Proofs.Ytilaljdokpdcoaa
