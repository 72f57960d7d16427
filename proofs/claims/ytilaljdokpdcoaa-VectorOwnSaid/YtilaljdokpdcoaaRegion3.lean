/- A statement whose order Go leaves open, walked once, the worlds told exactly: reads hold in all worlds that a relation allows; whatever else is done keeps to the relation. Conditions: the last operations of the statement wait for all others. -/
import Derived.Test.YtilaljdokpdcoaaRegion2
namespace Go.Proofs.Ytilaljdokpdcoaa
open Go.RowKit

section
variable {P : Program} {ops : Array Oper} {R : World → World → Prop}

structure Pre (R : World → World → Prop) : Prop where
  refl : ∀ w, R w w
  trans : ∀ {a b c}, R a b → R b c → R a c
theorem preBelow (B : Nat) : Pre (fun w w' => B ≤ w.heap.size → Below B w w' ∧ B ≤ w'.heap.size) :=
  ⟨fun _ h => ⟨Below.refl _ _, h⟩, fun h1 h2 h => ⟨(h1 h).1.trans (h2 (h1 h).2).1, (h2 (h1 h).2).2⟩⟩

def YieldsR (R : World → World → Prop) (P : Program) (ops : Array Oper) (o : Oper) (v : Value) (a : Act) (w : World) : Prop :=
  (Region.wanted o (yielded ops a.tmps) = true ∧ ∀ w1, R w w1 → (execOp a.eval o).run P w1 = .ok (.value v) w1) ∨
  (Region.wanted o (yielded ops a.tmps) = false ∧ v = undef)
theorem YieldsR.later (hR : Pre R) {o : Oper} {v : Value} {a : Act} {w w' : World} (h : YieldsR R P ops o v a w) (hx : R w w') : YieldsR R P ops o v a w' :=
  h.imp (fun ⟨h1, h2⟩ => ⟨h1, fun w1 h3 => h2 w1 (hR.trans hx h3)⟩) id
theorem YieldsR.of_same {o : Oper} {v : Value} {a a' : Act} {w : World} (hy : YieldsR R P ops o v a w) (he : execOp a'.eval o = execOp a.eval o)
    (hw : Region.wanted o (yielded ops a'.tmps) = Region.wanted o (yielded ops a.tmps)) : YieldsR R P ops o v a' w := by
  unfold YieldsR at *
  rw [he, hw]
  exact hy
theorem YieldsR.wpOp (hR : Pre R) {i : Nat} {o : Oper} {v : Value} {a : Act} {w : World} (hi : ops[i]? = some o) (hy : YieldsR R P ops o v a w)
    {K : Act → World → Prop} (h : K (a.put o.dst v) w) : wpOp P ops NoWay i K a w := by
  unfold Go.wpOp
  simp only [hi]
  rcases hy with ⟨hw, hv⟩ | ⟨hw, rfl⟩
  · simp only [hw, if_true]
    refine .inl ?_
    have h3 := hv w (hR.refl w)
    unfold Oper.wp
    rw [h3]
    exact h
  · simp only [hw, Bool.false_eq_true, if_false]
    exact h
theorem wpOp_putR {j : Nat} {oi oj : Oper} {v : Value} (hj : ops[j]? = some oj) (hap : oi.apart ops oj = true)
    (hsi : ∀ cs b, oi.op ≠ .select cs b) (hsj : ∀ cs b, oj.op ≠ .select cs b) {K : Act → World → Prop} {a : Act} {w0 w : World}
    (hy : YieldsR R P ops oi v a w0) (h : wpOp P ops NoWay j K (a.put oi.dst v) w) :
    wpOp P ops NoWay j (fun a' w' => YieldsR R P ops oi v a' w0 ∧ K (a'.put oi.dst v) w') a w := by
  obtain ⟨h1, h2, h3⟩ := Oper.apart_spec hap
  have keep : ∀ (a : Act), YieldsR R P ops oi v a w0 → ∀ u, YieldsR R P ops oi v (a.put oj.dst u) w0 := fun a hy u =>
    hy.of_same (execOp_put oi hsi a oj.dst u h3) (wanted_put oi a oj.dst u h3)
  have keepD : ∀ d, YieldsR R P ops oi v { a with defers := d :: a.defers } w0 := fun d => hy.of_same rfl rfl
  unfold wpOp at *
  simp only [hj] at *
  rw [wanted_put oj a oi.dst v h1] at h
  split
  · rename_i hw
    simp only [hw, if_true] at h
    rcases h with h | ⟨_, _, _, hf⟩
    case inr => exact False.elim hf
    refine .inl ?_
    unfold Oper.wp at *
    rw [execOp_put oj hsj a oi.dst v h1] at h
    generalize (execOp a.eval oj).run P w = r at *
    cases r with
    | ok n w' =>
      cases n <;> simp only [Oper.upon] at h ⊢
      case value u => exact ⟨keep a hy u, by rw [← Act.put_comm a v u h2]; exact h⟩
      case skip => exact ⟨keep a hy _, by rw [← Act.put_comm a v undef h2]; exact h⟩
      case defer d =>
        refine ⟨keep _ (keepD d) _, ?_⟩
        rw [← Act.put_comm _ v undef h2, ← Act.put_defers]
        exact h
      case enter f args =>
        refine Calls.mono h fun e w'' he => ?_
        cases e with
        | returned u => exact ⟨keep a hy u, by rw [← Act.put_comm a v u h2]; exact he⟩
        | panicked c => exact he
        | outgrown => exact he
      case row row args => exact Rows.mono h fun u w'' he => ⟨keep a hy u, by rw [← Act.put_comm a v u h2]; exact he⟩
    | halt x w' => cases x <;> simp only [Oper.upon] at h ⊢; exact h
  · rename_i hw
    simp only [hw] at h
    exact ⟨keep a hy _, by rw [← Act.put_comm a v undef h2]; exact h⟩

/-- The operations ahead of number n, in whatever order, each keeping to R. -/
def headR (R : World → World → Prop) (P : Program) (ops : Array Oper) (n : Nat) (L : Array Bool → Act → World → Prop) : Nat → Array Bool → Act → World → Prop
  | 0, listed, a, w => L listed a w
  | f + 1, listed, a, w => Region.ready .any ops listed ≠ [] ∧ ∀ i ∈ Region.ready .any ops listed, i < n ∧
      wpOp P ops NoWay i (fun a' w' => R w w' ∧ headR R P ops n L f (listed.setIfInBounds i true) a' w') a w

theorem wpAny_of_headR {n g : Nat} {L : Array Bool → Act → World → Prop} {Q : Exit → Act → World → Prop} (hL : ∀ listed a w, L listed a w → wpAny P .any ops Q g listed a w) :
    ∀ (f : Nat) (listed : Array Bool) (a : Act) (w : World), headR R P ops n L f listed a w → wpAny P .any ops Q (f + g) listed a w
  | 0, listed, a, w, h => by rw [Nat.zero_add]; exact hL _ _ _ h
  | f + 1, listed, a, w, h => by
    rw [show f + 1 + g = (f + g) + 1 by omega]
    exact ⟨fun h0 => absurd h0 h.1, fun i hi => wpOp_mono (fun a' w' h' => wpAny_of_headR hL f _ a' w' h'.2) (wpOp_of_noWay (h.2 i hi).2)⟩

theorem headR_first (hR : Pre R) {n i : Nat} {oi : Oper} {v : Value} {L : Array Bool → Act → World → Prop} (hi : ops[i]? = some oi) (hsel : ∀ (j : Nat) (o : Oper) cs b, ops[j]? = some o → o.op ≠ .select cs b)
    (hs : Region.sinkB .any ops n = true) (hc : Region.chainB .any ops n = true) (hn : n < ops.size) (hin : i < n)
    (hdone : ∀ listed a w, L listed a w → ∀ j ∈ Region.ready .any ops listed, n ≤ j) :
    ∀ (f : Nat) (listed : Array Bool) (a : Act) (w : World), HeadInv .any ops n listed →
      (∀ j oj, ops[j]? = some oj → j ≠ i → listed.getD j true = false → (∀ e ∈ oj.after, Region.binds .any e = true → e.on ≠ i) → oi.apart ops oj = true) →
      i ∈ Region.ready .any ops listed → YieldsR R P ops oi v a w →
      headR R P ops n L f (listed.setIfInBounds i true) (a.put oi.dst v) w → headR R P ops n L (f + 1) listed a w := by
  intro f
  induction f with
  | zero =>
    intro listed a w inv _ hr hy H
    have hun := (mem_ready.1 hr).1
    refine ⟨fun h => (by rw [h] at hr; cases hr), fun j hj => ?_⟩
    have hjn : j < n := by
      rcases Nat.lt_or_ge j n with h | h
      · exact h
      · exact absurd hj (tail_waits hs hc hn inv _ i rfl hin hun j h)
    refine ⟨hjn, ?_⟩
    by_cases hji : j = i
    · subst hji
      exact hy.wpOp hR hi ⟨hR.refl w, H⟩
    · have := hdone _ _ _ H j (ready_mono hj hji)
      omega
  | succ f ih =>
    intro listed a w inv hfree hr hy H
    have hun := (mem_ready.1 hr).1
    refine ⟨fun h => (by rw [h] at hr; cases hr), fun j hj => ?_⟩
    have hjn : j < n := by
      rcases Nat.lt_or_ge j n with h | h
      · exact h
      · exact absurd hj (tail_waits hs hc hn inv _ i rfl hin hun j h)
    refine ⟨hjn, ?_⟩
    by_cases hji : j = i
    · subst hji
      exact hy.wpOp hR hi ⟨hR.refl w, H⟩
    · have h1 := (H.2 j (ready_mono hj hji)).2
      obtain ⟨hjun, oj, hoj, hall⟩ := mem_ready.1 hj
      have hnot : ∀ e ∈ oj.after, Region.binds .any e = true → e.on ≠ i := fun e he hb heq => by
        have h1 := hall e he hb
        rw [heq, getD_both hun] at h1
        cases h1
      have h2 := wpOp_putR hoj (hfree j oj hoj hji hjun hnot) (fun cs b => hsel i oi cs b hi) (fun cs b => hsel j oj cs b hoj) hy h1
      have hfree' : ∀ k ok, ops[k]? = some ok → k ≠ i → (listed.setIfInBounds j true).getD k true = false →
          (∀ e ∈ ok.after, Region.binds .any e = true → e.on ≠ i) → oi.apart ops ok = true := fun k ok hk hki hun hno => by
        refine hfree k ok hk hki ?_ hno
        by_cases hjk : j = k
        · subst hjk; exact hjun
        · rw [getD_set_ne true hjk] at hun; exact hun
      refine wpOp_mono (fun a' w' h3 => ⟨h3.2.1, ih (listed.setIfInBounds j true) a' w' (inv.set hj hjn) hfree' (ready_mono hr (Ne.symm hji)) (h3.1.later hR h3.2.1) ?_⟩) h2
      rw [Array.setIfInBounds_comm _ _ hji]
      exact h3.2.2

/-- The walk of a statement whose order is open: 'f' operations ahead of number n are left; the world is just w. -/
def WR (R : World → World → Prop) (P : Program) (l : List Oper) (n : Nat) (Q : Exit → Act → World → Prop) (f : Nat) (listed : Array Bool) (a : Act) (w : World) : Prop :=
  okE l.toArray n = true → HeadInv .any l.toArray n listed → headR R P l.toArray n (fun listed' a' w' => Region.seqB .any l.toArray (l.length - n) n listed' = true ∧ wpList P l.toArray Q (l.drop n) a' w') f listed a w

variable {l : List Oper} {n : Nat} {Q : Exit → Act → World → Prop} {f : Nat} {listed : Array Bool} {a : Act} {w : World}

theorem WR_take (hR : Pre R) (i : Nat) {oi : Oper} {v : Value} (hi : l[i]? = some oi) (hin : i < n)
    (hf : (Region.free .any l.toArray listed i && (Region.ready .any l.toArray listed).contains i) = true) (hy : YieldsR R P l.toArray oi v a w)
    (h : WR R P l n Q f (listed.setIfInBounds i true) (a.put oi.dst v) w) : WR R P l n Q (f + 1) listed a w := by
  intro hk inv
  have hk' := hk
  simp only [okE, Bool.and_eq_true, decide_eq_true_eq] at hk
  obtain ⟨⟨⟨hsel, hn⟩, hs⟩, hc⟩ := hk
  simp only [Bool.and_eq_true] at hf
  have hr : i ∈ Region.ready .any l.toArray listed := by simpa using hf.2
  have hi' : l.toArray[i]? = some oi := by simpa using hi
  exact headR_first hR hi' (Region.noSelect_spec hsel) hs hc hn hin (fun listed' _ _ hL => seqB_ready hL.1) f listed a w inv (Region.free_spec hi' hf.1) hr hy (h hk' (inv.set hr hin))
theorem WR_q (hR : Pre R) (i : Nat) {oi : Oper} (hi : l[i]? = some oi) (hin : i < n)
    (hf : (Region.free .any l.toArray listed i && (Region.ready .any l.toArray listed).contains i) = true) (hw : Region.wanted oi (yielded l.toArray a.tmps) = true)
    (h : ∃ v, (∀ w1, R w w1 → (execOp a.eval oi).run P w1 = .ok (.value v) w1) ∧ WR R P l n Q f (listed.setIfInBounds i true) (a.put oi.dst v) w) : WR R P l n Q (f + 1) listed a w :=
  let ⟨_, h1, h2⟩ := h
  WR_take hR i hi hin hf (.inl ⟨hw, h1⟩) h2
theorem WR_s (hR : Pre R) (i : Nat) {oi : Oper} (hi : l[i]? = some oi) (hin : i < n)
    (hf : (Region.free .any l.toArray listed i && (Region.ready .any l.toArray listed).contains i) = true) (hw : Region.wanted oi (yielded l.toArray a.tmps) = false)
    (h : WR R P l n Q f (listed.setIfInBounds i true) (a.put oi.dst undef) w) : WR R P l n Q (f + 1) listed a w :=
  WR_take hR i hi hin hf (.inr ⟨hw, rfl⟩) h
/-- What must be shown of a ready operation that is carried out first. -/
def WR1 (R : World → World → Prop) (P : Program) (l : List Oper) (n : Nat) (Q : Exit → Act → World → Prop) (f : Nat) (listed : Array Bool) (a : Act) (w : World) (i : Nat) (oi : Oper) : Prop :=
  ∀ K : Act → World → Prop, (∀ a' w', R w w' → WR R P l n Q f (listed.setIfInBounds i true) a' w' → K a' w') → oi.wp P a w K NoWay
theorem WR1.step {i : Nat} {oi : Oper} (hi : l[i]? = some oi) (hin : i < n) (hw : Region.wanted oi (yielded l.toArray a.tmps) = true) (h : WR1 R P l n Q f listed a w i oi)
    (hk : okE l.toArray n = true) (inv : HeadInv .any l.toArray n listed) (hr : i ∈ Region.ready .any l.toArray listed) :
    i < n ∧ wpOp P l.toArray NoWay i (fun a' w' => R w w' ∧ headR R P l.toArray n (fun listed' a' w' => Region.seqB .any l.toArray (l.length - n) n listed' = true ∧ wpList P l.toArray Q (l.drop n) a' w') f (listed.setIfInBounds i true) a' w') a w := by
  refine ⟨hin, ?_⟩
  unfold wpOp
  have hi' : l.toArray[i]? = some oi := by simpa using hi
  simp only [hi']
  rw [if_pos hw]
  exact .inl (h _ fun _ _ h1 h2 => ⟨h1, h2 hk (inv.set hr hin)⟩)
theorem WR_one (i : Nat) {oi : Oper} (hi : l[i]? = some oi) (hin : i < n) (hr : Region.ready .any l.toArray listed = [i]) (hw : Region.wanted oi (yielded l.toArray a.tmps) = true)
    (h : WR1 R P l n Q f listed a w i oi) : WR R P l n Q (f + 1) listed a w := by
  intro hk inv
  refine ⟨fun h0 => (by rw [hr] at h0; cases h0), fun j hj => ?_⟩
  have hj' := hj
  rw [hr] at hj'
  obtain rfl : j = i := by simpa using hj'
  exact h.step hi hin hw hk inv hj
theorem WR_two (i j : Nat) {oi oj : Oper} (hi : l[i]? = some oi) (hj : l[j]? = some oj) (hin : i < n) (hjn : j < n) (hr : Region.ready .any l.toArray listed = [i, j])
    (hwi : Region.wanted oi (yielded l.toArray a.tmps) = true) (hwj : Region.wanted oj (yielded l.toArray a.tmps) = true)
    (h1 : WR1 R P l n Q f listed a w i oi) (h2 : WR1 R P l n Q f listed a w j oj) : WR R P l n Q (f + 1) listed a w := by
  intro hk inv
  refine ⟨fun h0 => (by rw [hr] at h0; cases h0), fun k hk2 => ?_⟩
  have hk' := hk2
  rw [hr] at hk'
  rcases (by simpa using hk' : k = i ∨ k = j) with rfl | rfl
  · exact h1.step hi hin hwi hk inv hk2
  · exact h2.step hj hjn hwj hk inv hk2
theorem WR_done (hq : Region.seqB .any l.toArray (l.length - n) n listed = true) (h : wpList P l.toArray Q (l.drop n) a w) : WR R P l n Q 0 listed a w :=
  fun _ _ => ⟨hq, h⟩
theorem wp_region_R (R : World → World → Prop) {id : Nat} (n : Nat) {m : Nat} (hlen : l.length = m) (hm : P.follows .mixedOrders = true) (hk : okE l.toArray n = true)
    (h : ∀ w0, Ext w w0 → WR R P l n Q n (Array.replicate m false) a w0) : (Code.region id l.toArray true).wp P Q a w := by
  subst hlen
  have hk' := hk
  simp only [okE, Bool.and_eq_true, decide_eq_true_eq] at hk'
  obtain ⟨⟨⟨hsel, hn⟩, hs⟩, hc⟩ := hk'
  have hn' : n < l.length := by simpa using hn
  have inv0 : HeadInv .any l.toArray n (Array.replicate l.length false) :=
    ⟨by simp, fun j oj _ hl => (by rw [getD_replicate_false] at hl; cases hl), fun t _ ht => getD_in (by simpa using ht) (getD_replicate_false _ _)⟩
  refine wp_region_any hm ?_
  have hx : Ext w { w with drawn := w.drawn + 1 } := ⟨rfl, rfl, rfl, Nat.le_refl _, fun _ _ => rfl⟩
  have H := h _ hx hk inv0
  have := wpAny_of_headR (Q := Q) (g := l.length - n) (fun listed' a' w' hL => by
    have := wpAny_of_seq (md := .any) (Q' := Q) (l.drop n) n listed' a' w' (fun j => by simp [List.getElem?_drop]) (by rw [List.length_drop]; exact hL.1) hL.2
    rwa [List.length_drop] at this) _ _ _ _ H
  rw [show n + (l.length - n) = l.toArray.size by simp; omega] at this
  simpa using this
end
/-- The relation most used: all blocks below B as they were. -/
def RB (B : Nat) : World → World → Prop := fun w w' => B ≤ w.heap.size → Below B w w' ∧ B ≤ w'.heap.size
theorem preRB (B : Nat) : Pre (RB B) := preBelow B
theorem RB.ext {B : Nat} {w w' : World} (h : Ext w w') : RB B w w' := fun hB => ⟨Below.mono h hB, Nat.le_trans hB h.size⟩
theorem RB.below {B : Nat} {w w' : World} (hB : B ≤ w.heap.size) (h : Below B w w') : RB B w w' := fun _ => ⟨h, Nat.le_trans hB h.size⟩
/-- A cell below B. -/
theorem RB.cell {B : Nat} {w w' : World} (hB : B ≤ w.heap.size) (h : RB B w w') {p : Addr} (hp : p.block < B) : w'.cell? p = w.cell? p := (h hB).1.cell hp
theorem RB.keep {B : Nat} {w : World} (hB : B ≤ w.heap.size) {p : Addr} {v : Value} (hp : p.block < B) (h : w.cell? p = some v) : ∀ w', RB B w w' → w'.cell? p = some v := fun _ hx => by rw [RB.cell hB hx hp]; exact h
theorem below_trans {B : Nat} {a b c : World} (h : Below B a b) (k : Below B b c) : Below B a c := h.trans k
theorem blk_below {w w' : World} {b B : Nat} {cs : List Value} {T : TypeId} (h : Blk w b cs T) (hb : b < B) (hx : Below B w w') : Blk w' b cs T := by
  unfold Blk at *; rw [hx.block b hb]; exact h
end Go.Proofs.Ytilaljdokpdcoaa
