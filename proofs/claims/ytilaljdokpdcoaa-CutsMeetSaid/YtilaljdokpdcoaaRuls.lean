/- Rows of rules in memory, and when two of them are the same. Conditions: none. -/
import Derived.Test.YtilaljdokpdcoaaRule
import Derived.Test.YtilaljdokpdcoaaSlice
namespace Go.Proofs.Ytilaljdokpdcoaa
open Go.RowKit

theorem flat_get {α β : Type} (f : α → List β) (s : Nat) (hf : ∀ x, (f x).length = s) : ∀ (l : List α) (i k : Nat) (x : α), l[i]? = some x → k < s → (l.flatMap f)[i * s + k]? = (f x)[k]?
  | [], _, _, _, h, _ => by simp at h
  | y :: l, 0, k, x, h, hk => by
    simp at h; subst h
    rw [List.flatMap_cons, Nat.zero_mul, Nat.zero_add, List.getElem?_append_left (by rw [hf]; exact hk)]
  | y :: l, i + 1, k, x, h, hk => by
    simp at h
    rw [List.flatMap_cons, List.getElem?_append_right (by rw [hf, Nat.succ_mul]; omega), hf, show (i + 1) * s + k - s = i * s + k by rw [Nat.succ_mul]; omega]
    exact flat_get f s hf l i k x h hk
theorem flat_len {α β : Type} (f : α → List β) (s : Nat) (hf : ∀ x, (f x).length = s) : ∀ (l : List α), (l.flatMap f).length = l.length * s
  | [] => by simp
  | y :: l => by rw [List.flatMap_cons, List.length_append, hf, flat_len f s hf l, List.length_cons, Nat.succ_mul]; omega
theorem flat_take {α β : Type} (f : α → List β) (s : Nat) (hf : ∀ x, (f x).length = s) : ∀ (l : List α) (k : Nat), (l.flatMap f).take (k * s) = (l.take k).flatMap f
  | [], _ => by simp
  | y :: l, 0 => by simp
  | y :: l, k + 1 => by
    rw [List.take_succ_cons, List.flatMap_cons, List.flatMap_cons, Nat.succ_mul, Nat.add_comm, ← hf y, List.take_length_add_append, hf y, flat_take f s hf l k]
theorem flat_drop {α β : Type} (f : α → List β) (s : Nat) (hf : ∀ x, (f x).length = s) : ∀ (l : List α) (k : Nat), (l.flatMap f).drop (k * s) = (l.drop k).flatMap f
  | [], _ => by simp
  | y :: l, 0 => by simp
  | y :: l, k + 1 => by
    rw [List.drop_succ_cons, List.flatMap_cons, Nat.succ_mul, Nat.add_comm, ← hf y, List.drop_length_add_append, hf y, flat_drop f s hf l k]

/-- The cells of rules, one behind the other. -/
def rcells (l : List Rul) : List Value := l.flatMap Rul.cells
theorem rcells_len (l : List Rul) : (rcells l).length = l.length * 4 := flat_len _ 4 (fun _ => rfl) l
theorem rcells_app (a b : List Rul) : rcells (a ++ b) = rcells a ++ rcells b := List.flatMap_append
theorem rcells_one (l : List Rul) : ∀ u ∈ rcells l, u.oneCell' = true := by
  intro u hu
  obtain ⟨r, _, hr⟩ := List.mem_flatMap.1 hu
  simp only [Rul.cells, List.mem_cons, List.not_mem_nil, or_false] at hr
  rcases hr with rfl | rfl | rfl | rfl <;> rfl
/-- The slice value v reads as the rules l. -/
def RulesAt (w : World) (v : Value) (l : List Rul) : Prop := Reads w 4 v l.length (rcells l)
theorem RulesAt.later {w w' : World} {v : Value} {l : List Rul} (h : RulesAt w v l) (hx : Ext w w') : RulesAt w' v l := Reads.later h hx
theorem RulesAt.form {w : World} {v : Value} {l : List Rul} (h : RulesAt w v l) :
  ∃ a cap, v = .slice a l.length cap ∧ l.length ≤ cap ∧ cap ≤ maxLen ∧ ∀ i r, l[i]? = some r → ∃ b off, a = some ⟨b, off, none⟩ ∧
    w.cell? ⟨b, off + i * 4, none⟩ = some (U r.pa) ∧ w.cell? ⟨b, off + i * 4 + 1, none⟩ = some (I r.pl) ∧ w.cell? ⟨b, off + i * 4 + 2, none⟩ = some (I r.act) ∧ w.cell? ⟨b, off + i * 4 + 3, none⟩ = some (I r.nx) := by
  obtain ⟨h0, a, cap, h1, h2, h3, h4, h5⟩ := h
  refine ⟨a, cap, h1, h2, h3, fun i r hi => ?_⟩
  have hil := (List.getElem?_eq_some_iff.1 hi).1
  cases a with
  | none => have := h4 rfl; omega
  | some b =>
    obtain ⟨e1, e2⟩ := h5 b rfl
    replace e1 : b.spot = none := by
      rcases e1 with e1 | e1
      · exact e1
      · have := rcells_len l; rw [e1] at this; simp at this; omega
    have g : ∀ k, k < 4 → (rcells l)[i * 4 + k]? = r.cells[k]? := fun k hk => flat_get Rul.cells 4 (fun _ => rfl) l i k r hi hk
    obtain ⟨bb, bo, bs⟩ := b
    simp only at e1
    subst e1
    refine ⟨bb, bo, rfl, ?_, ?_, ?_, ?_⟩
    · have := e2 (i * 4 + 0) (U r.pa) (by rw [g 0 (by omega)]; rfl); simpa using this
    · have := e2 (i * 4 + 1) (I r.pl) (by rw [g 1 (by omega)]; rfl); simpa [Nat.add_assoc] using this
    · have := e2 (i * 4 + 2) (I r.act) (by rw [g 2 (by omega)]; rfl); simpa [Nat.add_assoc] using this
    · have := e2 (i * 4 + 3) (I r.nx) (by rw [g 3 (by omega)]; rfl); simpa [Nat.add_assoc] using this
theorem RulesAt.piece {w : World} {v : Value} {l : List Rul} (h : RulesAt w v l) {j k : Nat} (hj : j ≤ k) (hk : k ≤ l.length) : RulesAt w (slv 4 v j k) ((l.take k).drop j) := by
  have := Reads.piece h hj hk
  unfold RulesAt
  unfold rcells at *
  rw [flat_take Rul.cells 4 (fun _ => rfl), flat_drop Rul.cells 4 (fun _ => rfl)] at this
  rw [List.length_drop, List.length_take, Nat.min_eq_left hk]
  exact this
@[go_sem high] theorem rule_eql (r s : Rul) (w : World) : (binOp .eql 42 (.agg #[U r.pa, I r.pl, I r.act, I r.nx]) (.agg #[U s.pa, I s.pl, I s.act, I s.nx])).run Try.prog w = .ok (.bool (decide (r = s))) w := by
  go_simp
  cases r; cases s
  simp only [Rul.mk.injEq]
  repeat' split <;> simp_all
@[go_sem high] theorem rule_neq (r s : Rul) (w : World) : (binOp .neq 42 (.agg #[U r.pa, I r.pl, I r.act, I r.nx]) (.agg #[U s.pa, I s.pl, I s.act, I s.nx])).run Try.prog w = .ok (.bool (!decide (r = s))) w := by
  go_simp
  cases r; cases s
  simp only [Rul.mk.injEq]
  repeat' split <;> simp_all
theorem take_same {α : Type} {a b : List α} {k : Nat} (h : a.take k = b.take k) (ha : k < a.length) (hb : k < b.length) (he : a[k] = b[k]) : a.take (k + 1) = b.take (k + 1) := by
  rw [List.take_succ_eq_append_getElem ha, List.take_succ_eq_append_getElem hb, h, he]
def RulesOk (l : List Rul) : Prop := ∀ r ∈ l, r.Ok

end Go.Proofs.Ytilaljdokpdcoaa
