/- Region3's walk of a statement whose order is open, inside a round of a range over a function. Conditions: no operation of the statement is a defer. -/
import Derived.Test.YtpfkfboohblgoaaRangeTo
namespace Go.Proofs.Ytpfkfboohblgoaa
open Go.RowKit

/-- Only the way on. -/
def OnN (Q : Exit → Act → World → Prop) : Exit → Act → World → Prop := fun e a w => e = .normal ∧ Q e a w
theorem letsOut_onN (Q : Exit → Act → World → Prop) : ¬ LetsOut (OnN Q) := fun ⟨_, _, h, _⟩ => by cases h
section
variable {P : Program} {ops : Array Oper} {Q : Exit → Act → World → Prop} {l m : Nat}
theorem wpOpIn_of_wpOp {i : Nat} {K K' : Act → World → Prop} {a : Act} {w : World} (hd : ∀ (o : Oper), ops[i]? = some o → ∀ c, o.op ≠ .defer c) (hK : ∀ a w, K a w → K' a w) (h : wpOp P ops (OnN Q) i K a w) : wpOpIn (Fence.wide.inRound l) m P ops Q i K' a w := by
  unfold wpOp at h
  unfold wpOpIn
  cases ho : ops[i]? with
  | none => simp only [ho] at h ⊢; exact hK _ _ h
  | some o =>
    simp only [ho] at h ⊢
    split
    · rename_i hw
      rw [if_pos hw] at h
      rcases h with h | h
      case inr => exact absurd h.2 (letsOut_onN Q)
      refine ⟨fun _ _ => trivial, ?_⟩
      rw [Oper.semAt_plain _ _ _ (hd o ho)]
      unfold Oper.wp at h
      generalize (execOp a.eval o).run P w = r at *
      cases r with
      | ok n w' =>
        cases n <;> simp only [Oper.upon, Oper.uponIn] at h ⊢
        case value => exact hK _ _ h
        case skip => exact hK _ _ h
        case defer => exact hK _ _ h
        case enter f args =>
          refine ⟨fun hh => (by cases hh), CallsIn.inRound l (callsIn_wide.2 (h.mono fun e w'' he => ?_))⟩
          cases e with
          | returned v => exact hK _ _ he
          | panicked c => exact absurd he.1 (by intro hh; cases hh)
          | outgrown => exact absurd he (letsOut_onN Q)
        case row row args =>
          refine ⟨fun hh => (by cases hh), fun c cs _ => ?_⟩
          obtain ⟨v, w'', hv, hs⟩ := h c cs
          exact ⟨v, w'', hK _ _ hv, stepsIn_wide.2 hs⟩
      | halt x w' => cases x <;> simp only [Oper.upon, Oper.uponIn] at h ⊢; exact absurd h.1 (by intro hh; cases hh)
    · rename_i hw
      rw [if_neg hw] at h
      exact ⟨fun _ _ => trivial, hK _ _ h⟩
theorem wpAnyIn_of_wpAny (hd : ∀ (i : Nat) (o : Oper), ops[i]? = some o → ∀ c, o.op ≠ .defer c) : ∀ (f : Nat) (listed : Array Bool) (a : Act) (w : World), wpAny P .any ops (OnN Q) f listed a w → wpAnyIn (Fence.wide.inRound l) m P .any ops Q f listed a w
  | 0, _, _, _, h => ⟨h.1, h.2.2⟩
  | f + 1, _, _, _, h => ⟨fun h0 => (h.1 h0).2, fun i hi => wpOpIn_of_wpOp (hd i) (fun a' w' h' => wpAnyIn_of_wpAny hd f _ a' w' h') (h.2 i hi)⟩
def noDefer : Op → Bool
  | .defer _ => false
  | _ => true
theorem noDefer_ops {ls : List Oper} (h : ls.all (fun o => noDefer o.op) = true) : ∀ (i : Nat) (o : Oper), ls.toArray[i]? = some o → ∀ c, o.op ≠ .defer c := by
  intro i o ho c hc
  have := List.all_eq_true.1 h o (List.mem_of_getElem? (by simpa using ho))
  rw [hc] at this
  cases this
theorem wp_region_RI {ls : List Oper} {a : Act} {w : World} (R : World → World → Prop) {id : Nat} (n : Nat) {k : Nat} (hlen : ls.length = k) (hm : P.follows .mixedOrders = true) (hk : okE ls.toArray n = true) (hd : ls.all (fun o => noDefer o.op) = true)
    (h : ∀ w0, Ext w w0 → WR R P ls n (OnN Q) n (Array.replicate k false) a w0) : (Code.region id ls.toArray true).wpIn (Fence.wide.inRound l) m P Q a w := by
  subst hlen
  have hk' := hk
  simp only [okE, Bool.and_eq_true, decide_eq_true_eq] at hk'
  obtain ⟨⟨⟨hsel, hn⟩, hs⟩, hc⟩ := hk'
  have hn' : n < ls.length := by simpa using hn
  have inv0 : HeadInv .any ls.toArray n (Array.replicate ls.length false) :=
    ⟨by simp, fun j oj _ hl => (by rw [getD_replicate_false] at hl; cases hl), fun t _ ht => getD_in (by simpa using ht) (getD_replicate_false _ _)⟩
  refine wpIn_region_any hm (wpAnyIn_of_wpAny (noDefer_ops hd) _ _ _ _ ?_)
  have hx : Ext w { w with drawn := w.drawn + 1 } := ⟨rfl, rfl, rfl, Nat.le_refl _, fun _ _ => rfl⟩
  have H := h _ hx hk inv0
  have := wpAny_of_headR (Q := OnN Q) (g := ls.length - n) (fun listed' a' w' hL => by
    have := wpAny_of_seq (md := .any) (Q' := OnN Q) (ls.drop n) n listed' a' w' (fun j => by simp [List.getElem?_drop]) (by rw [List.length_drop]; exact hL.1) hL.2
    rwa [List.length_drop] at this) _ _ _ _ H
  rw [show n + (ls.length - n) = ls.toArray.size by simp; omega] at this
  simpa using this
end
end Go.Proofs.Ytpfkfboohblgoaa
