/- Sets of whole numbers kept as map[int]bool. Conditions: none. -/
import Derived.Test.YtpfkfboohblgoaaCertP
import Derived.Maps.OwnSet
namespace Go.Proofs.Ytpfkfboohblgoaa
open Go Go.RowKit Go.Maps Go.Proofs

def SetI (w : World) (mb : Nat) (seen : List Int) : Prop :=
  ∃ (n : Nat) (D : DataW Unit), w.ownsMap Try.prog 3 (plainElem Try.prog 4) mb n D ∧ n ≤ seen.length ∧ ∀ x, D.atKey (.int .i64 x) (.lit (.bool false)) = .lit (.bool (decide (x ∈ seen)))
theorem SetI.start (w : World) : SetI (w.alloc (.map #[] 0)) w.heap.size [] :=
  ⟨0, .map [], World.ownsMap_made _ _ _ _, Nat.le_refl _, fun _ => rfl⟩
theorem lawI : Keyed Try.prog 3 := int_keyed Try.underlying3
theorem wf64 {x : Int} (h : In64 x) : (Lit.int .i64 x).wf = true := by
  unfold In64 at h
  show (decide (-9223372036854775808 ≤ x) && decide (x ≤ 9223372036854775807)) = true
  rw [decide_eq_true h.1, decide_eq_true h.2]; rfl
theorem keyI {x : Int} (h : In64 x) : keyOf Try.prog 3 (.int .i64 x) = some (.int .i64 x) := keyOf_int_mk Try.underlying3 (wf64 h)
theorem zeroBool (w : World) : (zeroValue 4).run Try.prog w = .ok (.bool false) w := by kernel_rfl
theorem plain_bool_inv {P : Program} {e : TypeId} (he : P.underlying e = some .bool) {v : Value} {b : Bool} {ps : List MemPlace} (h : plainElem (H := Unit) P e v = some (.lit (.bool b), ps)) : v = .bool b := by
  unfold plainElem at h
  rw [he] at h
  cases v <;> simp at h
  rw [h.1]
theorem plainElem_bool_inv {v : Value} {b : Bool} {ps : List MemPlace} (h : plainElem (H := Unit) Try.prog 4 v = some (.lit (.bool b), ps)) : v = .bool b := plain_bool_inv Try.underlying4 h
theorem SetI.look {w : World} {mb : Nat} {seen : List Int} (h : SetI w mb seen) {x : Int} (hx : In64 x) : (Instr.lookup 126 (.map (some mb)) (.int .i64 x) false).run Try.prog w = .ok (.bool (decide (x ∈ seen))) w := by
  obtain ⟨n, D, ⟨es, clock, hb, F, _, rfl⟩, hn, hh⟩ := h
  have hx' := hh x
  rcases Maps.fit_look false lawI Try.underlying126 (zeroBool w) hb F (keyI hx) with ⟨hrun, _, hat⟩ | ⟨e0, y, _, _, hrun, hRv, hat, _⟩
  · rw [hat] at hx'
    rw [hrun]
    have e : decide (x ∈ seen) = false := by simpa using hx'.symm
    rw [e]; rfl
  · rw [hat] at hx'
    rw [hrun]
    obtain ⟨y1, y2⟩ := y
    simp only at hx'
    subst hx'
    rw [plainElem_bool_inv hRv]; rfl
theorem SetI.lt {w : World} {mb : Nat} {seen : List Int} (h : SetI w mb seen) : mb < w.heap.size := by
  obtain ⟨n, D, ⟨es, clock, hb, r⟩, h2, h3⟩ := h
  rcases Nat.lt_or_ge mb w.heap.size with h' | h'
  · exact h'
  · rw [Array.getElem?_eq_none h'] at hb; cases hb
theorem SetI.later {w w' : World} {mb : Nat} {seen : List Int} (h : SetI w mb seen) (hx : Ext w w') : SetI w' mb seen := by
  have hlt := h.lt
  obtain ⟨n, D, ⟨es, clock, hb, r⟩, h2, h3⟩ := h
  exact ⟨n, D, ⟨es, clock, by rw [Below.block hx mb hlt]; exact hb, r⟩, h2, h3⟩
theorem SetI.put {w w' : World} {mb n : Nat} {D : DataW Unit} {seen : List Int} {x : Int} (hown : w.ownsMap Try.prog 3 (plainElem Try.prog 4) mb n D) (hn : n ≤ seen.length) (hh : ∀ y, D.atKey (.int .i64 y) (.lit (.bool false)) = .lit (.bool (decide (y ∈ seen))))
    (ho : w'.ownsMap Try.prog 3 (plainElem Try.prog 4) mb (n + 1) (D.put (.int .i64 x) (.lit (.bool true)))) : SetI w' mb (seen ++ [x]) := by
  refine ⟨n + 1, _, ho, by simp; omega, fun y => ?_⟩
  by_cases e : y = x
  · subst e
    rw [atKey_put_same hown.isMap (by first | trivial | simp [WideAt.IsKeyLit])]
    simp
  · rw [atKey_put_other (by simp [e]), hh y]
    simp [e]
end Go.Proofs.Ytpfkfboohblgoaa
