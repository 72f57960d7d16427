/- A statement whose order Go leaves open, with operations that make memory side by side: each of the ready ones may come first. Conditions: as in the first text. -/
import Derived.Test.YtilaljdokpdcoaaRegion
namespace Go.Proofs.Ytilaljdokpdcoaa
open Go.RowKit

section
variable {P : Program} {l : List Oper} {n : Nat} {Q : Exit → Act → World → Prop} {f : Nat} {listed : Array Bool} {a : Act} {w : World}

/-- What must be shown of a ready operation that is carried out first. -/
def WE1 (P : Program) (l : List Oper) (n : Nat) (Q : Exit → Act → World → Prop) (f : Nat) (listed : Array Bool) (a : Act) (w : World) (i : Nat) (oi : Oper) : Prop :=
  ∀ w1, Ext w w1 → ∀ K : Act → World → Prop, (∀ a' w', Ext w1 w' → WE P l n Q f (listed.setIfInBounds i true) a' w' → K a' w') → oi.wp P a w1 K NoWay

theorem WE1.step {i : Nat} {oi : Oper} (hi : l[i]? = some oi) (hin : i < n) (hw : Region.wanted oi (yielded l.toArray a.tmps) = true) (h : WE1 P l n Q f listed a w i oi)
    (hk : okE l.toArray n = true) (inv : HeadInv .any l.toArray n listed) (hr : i ∈ Region.ready .any l.toArray listed) :
    i < n ∧ ∀ w1, Ext w w1 → wpOp P l.toArray NoWay i (fun a' w' => Ext w1 w' ∧ headE P l.toArray n (fun listed' a' w' => Region.seqB .any l.toArray (l.length - n) n listed' = true ∧ wpList P l.toArray Q (l.drop n) a' w') f (listed.setIfInBounds i true) a' w') a w1 := by
  refine ⟨hin, fun w1 hx => ?_⟩
  unfold wpOp
  have hi' : l.toArray[i]? = some oi := by simpa using hi
  simp only [hi']
  rw [if_pos hw]
  exact .inl (h w1 hx _ fun _ _ h1 h2 => ⟨h1, h2 hk (inv.set hr hin)⟩)
theorem WE_one (i : Nat) {oi : Oper} (hi : l[i]? = some oi) (hin : i < n) (hr : Region.ready .any l.toArray listed = [i]) (hw : Region.wanted oi (yielded l.toArray a.tmps) = true)
    (h : WE1 P l n Q f listed a w i oi) : WE P l n Q (f + 1) listed a w := by
  intro hk inv
  refine ⟨fun h0 => (by rw [hr] at h0; cases h0), fun j hj => ?_⟩
  have hj' := hj
  rw [hr] at hj'
  obtain rfl : j = i := by simpa using hj'
  exact h.step hi hin hw hk inv hj
theorem WE_two (i j : Nat) {oi oj : Oper} (hi : l[i]? = some oi) (hj : l[j]? = some oj) (hin : i < n) (hjn : j < n) (hr : Region.ready .any l.toArray listed = [i, j])
    (hwi : Region.wanted oi (yielded l.toArray a.tmps) = true) (hwj : Region.wanted oj (yielded l.toArray a.tmps) = true)
    (h1 : WE1 P l n Q f listed a w i oi) (h2 : WE1 P l n Q f listed a w j oj) : WE P l n Q (f + 1) listed a w := by
  intro hk inv
  refine ⟨fun h0 => (by rw [hr] at h0; cases h0), fun k hk2 => ?_⟩
  have hk' := hk2
  rw [hr] at hk'
  rcases (by simpa using hk' : k = i ∨ k = j) with rfl | rfl
  · exact h1.step hi hin hwi hk inv hk2
  · exact h2.step hj hjn hwj hk inv hk2
/-- An operation by a law that speaks of a list of operations. -/
theorem wp_of_list {o : Oper} {ops : Array Oper} {K : Act → World → Prop} (hw : Region.wanted o (yielded ops a.tmps) = true) (h : wpList P ops (fun x a' w' => x = .normal ∧ K a' w') [o] a w) : o.wp P a w K NoWay := by
  unfold wpList at h
  rw [if_pos hw] at h
  rcases h with h | ⟨_, _, _, h, _⟩
  · unfold Oper.wp at *
    generalize (execOp a.eval o).run P w = r at *
    cases r with
    | ok n w' =>
      cases n <;> simp only [Oper.upon] at h ⊢ <;>
        first
          | exact h.2
          | exact Calls.mono h (fun e w'' he => by cases e <;> first | exact he.2 | (cases he.1) | (obtain ⟨_, _, hf, _⟩ := he; cases hf))
          | exact Rows.mono h (fun _ _ he => he.2)
          | exact False.elim h
    | halt x w' => cases x <;> simp only [Oper.upon] at h ⊢ <;> first | (cases h.1) | exact h
  · cases h
/-- A quiet operation in the place of one of two. -/
theorem WE_later {w' : World} (h : WE P l n Q f listed a w) (hx : Ext w w') : WE P l n Q f listed a w' := fun hk inv => headE_later _ (h hk inv) hx
end
end Go.Proofs.Ytilaljdokpdcoaa
