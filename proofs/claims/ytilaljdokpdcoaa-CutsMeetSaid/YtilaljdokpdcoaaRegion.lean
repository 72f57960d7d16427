/- A statement whose order Go leaves open, walked once: operations that leave all old memory as it was may be taken in any fixed order. Conditions: the last operations of the statement wait for all others. -/
import Derived.Test.YtilaljdokpdcoaaBase
import Derived.StillTail
namespace Go.Proofs.Ytilaljdokpdcoaa
open Go.RowKit

theorem Ext.alloc {a w : World} (h : Ext a w) (o : Obj) : Ext a (w.alloc o) := Below.alloc h h.size o
theorem Ext.drew {a w : World} (h : Ext a w) : Ext a w.drew := Below.drew h
theorem Ext.drewN {a w : World} (h : Ext a w) (n : Nat) : Ext a (w.drewN n) := ⟨h.os, h.tape, h.output, h.size, h.block⟩
theorem Ext.alloc_lt (w : World) (o : Obj) : w.heap.size < (w.alloc o).heap.size := by simp
theorem Ext.setCell {a w : World} (h : Ext a w) {p : Addr} (hp : a.heap.size ≤ p.block) (u : Value) : Ext a (w.setCell p u) := Below.setCell h hp u

theorem Ext.setCellP {a w : World} {p : Addr} {u : Value} (hp : a.heap.size ≤ p.block) (h : Ext a w) : Ext a (w.setCell p u) := h.setCell hp u
/-- Block b is a row of cells, none of them frozen. -/
def Blk (w : World) (b : Nat) (cs : List Value) (T : TypeId) : Prop := w.heap[b]? = some (.cells cs.toArray T (0, 0))
theorem Blk.cells {w : World} {b : Nat} {cs : List Value} {T : TypeId} (h : Blk w b cs T) : ∀ o, w.cell? ⟨b, o, none⟩ = cs[o]? := fun o => by
  unfold Blk at h; simp [World.cell?, h]
theorem Blk.frozen {w : World} {b : Nat} {cs : List Value} {T : TypeId} (h : Blk w b cs T) : ∀ o, w.frozen? ⟨b, o, none⟩ = false := fun o => by
  unfold Blk at h; simp [World.frozen?, h]
theorem Blk.lt {w : World} {b : Nat} {cs : List Value} {T : TypeId} (h : Blk w b cs T) : b < w.heap.size := by
  unfold Blk at h
  rcases Nat.lt_or_ge b w.heap.size with h' | h'
  · exact h'
  · simp [Array.getElem?_eq_none h'] at h
theorem Blk.later {w w' : World} {b : Nat} {cs : List Value} {T : TypeId} (h : Blk w b cs T) (hx : Ext w w') : Blk w' b cs T := by
  have := Below.block hx b h.lt
  unfold Blk at *
  rw [this]; exact h
theorem Blk.new (w : World) (cs : List Value) (T : TypeId) : Blk (w.alloc (.cells cs.toArray T)) w.heap.size cs T := by
  unfold Blk World.alloc; simp
theorem Blk.newAt {w : World} {b : Nat} (cs : List Value) {T : TypeId} (hb : w.heap.size = b) : Blk (w.alloc (.cells cs.toArray T)) b cs T := hb ▸ Blk.new w cs T
theorem Blk.old {w : World} {b : Nat} {cs : List Value} {T : TypeId} (h : Blk w b cs T) (o : Obj) : Blk (w.alloc o) b cs T := h.later ((Ext.refl w).alloc o)
theorem Blk.set {w : World} {b : Nat} {cs : List Value} {T : TypeId} (h : Blk w b cs T) (o : Nat) (v : Value) : Blk (w.setCell ⟨b, o, none⟩ v) b (cs.set o v) T := by
  unfold Blk at *
  simp [World.setCell, Array.getElem?_modify, h]
/-- Block b has four cells. -/
def Row4 (w : World) (b : Nat) (T : TypeId) : Prop := ∃ cs, cs.length = 4 ∧ Blk w b cs T
theorem Row4.of {w : World} {b : Nat} {x0 x1 x2 x3 : Value} {T : TypeId} (h : Blk w b [x0, x1, x2, x3] T) : Row4 w b T := ⟨_, rfl, h⟩
theorem Row4.old {w : World} {b : Nat} {T : TypeId} (h : Row4 w b T) (o : Obj) : Row4 (w.alloc o) b T := let ⟨cs, h1, h2⟩ := h; ⟨cs, h1, h2.old o⟩
theorem Blk.set4 {w : World} {b : Nat} {T : TypeId} (h : Row4 w b T) {v0 v1 v2 v3 : Value} :
    Blk ((((w.setCell ⟨b, 0, none⟩ v0).setCell ⟨b, 1, none⟩ v1).setCell ⟨b, 2, none⟩ v2).setCell ⟨b, 3, none⟩ v3) b [v0, v1, v2, v3] T := by
  obtain ⟨cs, h1, h2⟩ := h
  match cs, h1 with
  | [x0, x1, x2, x3], _ => exact (((h2.set 0 v0).set 1 v1).set 2 v2).set 3 v3
theorem Blk.other {w : World} {b : Nat} {cs : List Value} {T : TypeId} (h : Blk w b cs T) {p : Addr} (hp : p.block ≠ b) (v : Value) : Blk (w.setCell p v) b cs T := by
  unfold Blk at *
  simp only [World.setCell, Array.getElem?_modify, hp, if_false, h]
theorem Blk.otherP {w : World} {b : Nat} {cs : List Value} {T : TypeId} {p : Addr} {v : Value} (hp : p.block ≠ b) (h : Blk w b cs T) : Blk (w.setCell p v) b cs T := h.other hp v
theorem Blk.drew {w : World} {b : Nat} {cs : List Value} {T : TypeId} (h : Blk w b cs T) : Blk w.drew b cs T := h
theorem Blk.keep {w : World} {b : Nat} {cs : List Value} {T : TypeId} (h : Blk w b cs T) : ∀ w', Ext w w' → ∀ o, w'.cell? ⟨b, o, none⟩ = cs[o]? := fun _ hx => (h.later hx).cells
theorem Blk.keepF {w : World} {b : Nat} {cs : List Value} {T : TypeId} (h : Blk w b cs T) : ∀ w', Ext w w' → ∀ o, w'.frozen? ⟨b, o, none⟩ = false := fun _ hx => (h.later hx).frozen
theorem Ext.keep {w : World} {p : Addr} {v : Value} (h : w.cell? p = some v) : ∀ w', Ext w w' → w'.cell? p = some v := fun _ hx => hx.cell h
@[simp, go_sem] theorem Ext.allocS {a w : World} (h : Ext a w) (o : Obj) : Ext a (w.alloc o) := h.alloc o
@[simp, go_sem] theorem Ext.drewS {a w : World} (h : Ext a w) : Ext a w.drew := h.drew
@[simp, go_sem] theorem Ext.drewNS {a w : World} (h : Ext a w) (n : Nat) : Ext a (w.drewN n) := h.drewN n
/-- From here on the world is a letter of which just this is known. -/
theorem hideW {Φ : World → Prop} (Ψ : World → Prop) {w : World} (h1 : Ψ w) (h : ∀ W, Ψ W → Φ W) : Φ w := h w h1

section
variable {P : Program} {ops : Array Oper}

def NoWay : Exit → Act → World → Prop := fun _ _ _ => False

theorem Oper.wp_of_noWay {Q : Exit → Act → World → Prop} {o : Oper} {a : Act} {w : World} {K : Act → World → Prop} (hh : o.wp P a w K NoWay) : o.wp P a w K Q := by
  unfold Oper.wp at *
  generalize (execOp a.eval o).run P w = r at *
  cases r with
  | ok n w' =>
    cases n <;> simp only [Oper.upon] at hh ⊢ <;>
      first
        | exact hh
        | exact Calls.mono hh (fun e w'' he => by cases e <;> first | exact he | exact False.elim he | (obtain ⟨_, _, hf⟩ := he; exact False.elim hf))
        | exact Rows.mono hh (fun _ _ he => he)
  | halt x w' => cases x <;> simp only [Oper.upon] at hh ⊢ <;> exact False.elim hh

theorem wpOp_of_noWay {Q : Exit → Act → World → Prop} {i : Nat} {a : Act} {w : World} {K : Act → World → Prop} (hh : wpOp P ops NoWay i K a w) : wpOp P ops Q i K a w := by
  unfold wpOp at *
  split
  · simpa [*] using hh
  · rename_i o ho
    simp only [ho] at hh
    split
    · rename_i hw
      simp only [hw, if_true] at hh
      rcases hh with hh | ⟨_, _, _, hf⟩
      · exact .inl (Oper.wp_of_noWay hh)
      · exact False.elim hf
    · rename_i hw
      simp only [hw] at hh
      exact hh

/-- What a quiet operation may come to: the value v, old memory as it was. -/
def Oper.quietE (P : Program) (w1 : World) (v : Value) : Result Next → Prop
  | .ok (.value u) w' => Ext w1 w' ∧ u = v
  | .ok .skip w' => Ext w1 w' ∧ v = undef
  | .ok (.enter f args) w' => Ext w1 w' ∧ Calls P f args w' (fun e w'' => e = .returned v ∧ Ext w1 w'')
  | _ => False

attribute [go_sem] Oper.quietE
attribute [simp, go_sem] Ext.refl

/-- One value in every later world. -/
def YieldsE (P : Program) (ops : Array Oper) (o : Oper) (v : Value) (a : Act) (w : World) : Prop :=
  (Region.wanted o (yielded ops a.tmps) = true ∧ ∀ w1, Ext w w1 → Oper.quietE P w1 v ((execOp a.eval o).run P w1)) ∨
  (Region.wanted o (yielded ops a.tmps) = false ∧ v = undef)

theorem YieldsE.later {o : Oper} {v : Value} {a : Act} {w w' : World} (h : YieldsE P ops o v a w) (hx : Ext w w') : YieldsE P ops o v a w' :=
  h.imp (fun ⟨h1, h2⟩ => ⟨h1, fun w1 h3 => h2 w1 (hx.trans h3)⟩) id

theorem YieldsE.of_same {o : Oper} {v : Value} {a a' : Act} {w : World} (hy : YieldsE P ops o v a w) (he : execOp a'.eval o = execOp a.eval o)
    (hw : Region.wanted o (yielded ops a'.tmps) = Region.wanted o (yielded ops a.tmps)) : YieldsE P ops o v a' w := by
  unfold YieldsE at *
  rw [he, hw]
  exact hy

theorem YieldsE.wpOp {i : Nat} {o : Oper} {v : Value} {a : Act} {w w1 : World} (hi : ops[i]? = some o) (hy : YieldsE P ops o v a w) (hx : Ext w w1)
    {K : Act → World → Prop} (h : ∀ w', Ext w1 w' → K (a.put o.dst v) w') : wpOp P ops NoWay i K a w1 := by
  unfold Go.wpOp
  simp only [hi]
  rcases hy with ⟨hw, hv⟩ | ⟨hw, rfl⟩
  · simp only [hw, if_true]
    refine .inl ?_
    have h3 := hv w1 hx
    unfold Oper.wp
    generalize (execOp a.eval o).run P w1 = r at *
    cases r with
    | ok n w' =>
      cases n <;> simp only [Oper.quietE] at h3 <;> simp only [Oper.upon]
      case value u => obtain ⟨e1, e2⟩ := h3; rw [e2]; exact h _ e1
      case skip => obtain ⟨e1, e2⟩ := h3; rw [← e2]; exact h _ e1
      case enter f args =>
        obtain ⟨_, hc⟩ := h3
        exact hc.mono fun e w'' ⟨he, hw''⟩ => by subst he; exact h _ hw''
    | halt x w' => simp only [Oper.quietE] at h3
  · simp only [hw, Bool.false_eq_true, if_false]
    exact h _ (Ext.refl _)

theorem wpOp_putE {j : Nat} {oi oj : Oper} {v : Value} (hj : ops[j]? = some oj) (hap : oi.apart ops oj = true)
    (hsi : ∀ cs b, oi.op ≠ .select cs b) (hsj : ∀ cs b, oj.op ≠ .select cs b) {K : Act → World → Prop} {a : Act} {w0 w : World}
    (hy : YieldsE P ops oi v a w0) (h : wpOp P ops NoWay j K (a.put oi.dst v) w) :
    wpOp P ops NoWay j (fun a' w' => YieldsE P ops oi v a' w0 ∧ K (a'.put oi.dst v) w') a w := by
  obtain ⟨h1, h2, h3⟩ := Oper.apart_spec hap
  have keep : ∀ (a : Act), YieldsE P ops oi v a w0 → ∀ u, YieldsE P ops oi v (a.put oj.dst u) w0 := fun a hy u =>
    hy.of_same (execOp_put oi hsi a oj.dst u h3) (wanted_put oi a oj.dst u h3)
  have keepD : ∀ d, YieldsE P ops oi v { a with defers := d :: a.defers } w0 := fun d => hy.of_same rfl rfl
  unfold wpOp at *
  simp only [hj] at *
  rw [wanted_put oj a oi.dst v h1] at h
  split
  · rename_i hw
    simp only [hw, if_true] at h
    rcases h with h | ⟨_, _, _, hf⟩
    case inr => exact False.elim hf
    refine .inl ?_
    unfold Oper.wp at *
    rw [execOp_put oj hsj a oi.dst v h1] at h
    generalize (execOp a.eval oj).run P w = r at *
    cases r with
    | ok n w' =>
      cases n <;> simp only [Oper.upon] at h ⊢
      case value u => exact ⟨keep a hy u, by rw [← Act.put_comm a v u h2]; exact h⟩
      case skip => exact ⟨keep a hy _, by rw [← Act.put_comm a v undef h2]; exact h⟩
      case defer d =>
        refine ⟨keep _ (keepD d) _, ?_⟩
        rw [← Act.put_comm _ v undef h2, ← Act.put_defers]
        exact h
      case enter f args =>
        refine Calls.mono h fun e w'' he => ?_
        cases e with
        | returned u => exact ⟨keep a hy u, by rw [← Act.put_comm a v u h2]; exact he⟩
        | panicked c => exact he
        | outgrown => exact he
      case row row args => exact Rows.mono h fun u w'' he => ⟨keep a hy u, by rw [← Act.put_comm a v u h2]; exact he⟩
    | halt x w' => cases x <;> simp only [Oper.upon] at h ⊢; exact h
  · rename_i hw
    simp only [hw] at h
    exact ⟨keep a hy _, by rw [← Act.put_comm a v undef h2]; exact h⟩

/-- The operations ahead of number n, in whatever order, each leaving old memory as it was. -/
def headE (P : Program) (ops : Array Oper) (n : Nat) (L : Array Bool → Act → World → Prop) : Nat → Array Bool → Act → World → Prop
  | 0, listed, a, w => ∀ w1, Ext w w1 → L listed a w1
  | f + 1, listed, a, w => Region.ready .any ops listed ≠ [] ∧ ∀ i ∈ Region.ready .any ops listed, i < n ∧
      ∀ w1, Ext w w1 → wpOp P ops NoWay i (fun a' w' => Ext w1 w' ∧ headE P ops n L f (listed.setIfInBounds i true) a' w') a w1

theorem headE_later {n : Nat} {L : Array Bool → Act → World → Prop} : ∀ (f : Nat) {listed : Array Bool} {a : Act} {w w' : World}, headE P ops n L f listed a w → Ext w w' → headE P ops n L f listed a w'
  | 0, _, _, _, _, h, hx => fun w1 h1 => h w1 (hx.trans h1)
  | _ + 1, _, _, _, _, h, hx => ⟨h.1, fun i hi => ⟨(h.2 i hi).1, fun w1 h1 => (h.2 i hi).2 w1 (hx.trans h1)⟩⟩

theorem wpAny_of_headE {n g : Nat} {L : Array Bool → Act → World → Prop} {Q : Exit → Act → World → Prop} (hL : ∀ listed a w, L listed a w → wpAny P .any ops Q g listed a w) :
    ∀ (f : Nat) (listed : Array Bool) (a : Act) (w : World), headE P ops n L f listed a w → wpAny P .any ops Q (f + g) listed a w
  | 0, listed, a, w, h => by rw [Nat.zero_add]; exact hL _ _ _ (h w (Ext.refl w))
  | f + 1, listed, a, w, h => by
    rw [show f + 1 + g = (f + g) + 1 by omega]
    exact ⟨fun h0 => absurd h0 h.1, fun i hi => wpOp_mono (fun a' w' h' => wpAny_of_headE hL f _ a' w' h'.2) (wpOp_of_noWay ((h.2 i hi).2 w (Ext.refl w)))⟩

theorem headE_first {n i : Nat} {oi : Oper} {v : Value} {L : Array Bool → Act → World → Prop} (hi : ops[i]? = some oi) (hsel : ∀ (j : Nat) (o : Oper) cs b, ops[j]? = some o → o.op ≠ .select cs b)
    (hs : Region.sinkB .any ops n = true) (hc : Region.chainB .any ops n = true) (hn : n < ops.size) (hin : i < n)
    (hdone : ∀ listed a w, L listed a w → ∀ j ∈ Region.ready .any ops listed, n ≤ j) :
    ∀ (f : Nat) (listed : Array Bool) (a : Act) (w : World), HeadInv .any ops n listed →
      (∀ j oj, ops[j]? = some oj → j ≠ i → listed.getD j true = false → (∀ e ∈ oj.after, Region.binds .any e = true → e.on ≠ i) → oi.apart ops oj = true) →
      i ∈ Region.ready .any ops listed → YieldsE P ops oi v a w →
      headE P ops n L f (listed.setIfInBounds i true) (a.put oi.dst v) w → headE P ops n L (f + 1) listed a w := by
  intro f
  induction f with
  | zero =>
    intro listed a w inv _ hr hy H
    have hun := (mem_ready.1 hr).1
    refine ⟨fun h => (by rw [h] at hr; cases hr), fun j hj => ?_⟩
    have hjn : j < n := by
      rcases Nat.lt_or_ge j n with h | h
      · exact h
      · exact absurd hj (tail_waits hs hc hn inv _ i rfl hin hun j h)
    refine ⟨hjn, fun w1 hx => ?_⟩
    by_cases hji : j = i
    · subst hji
      exact hy.wpOp hi hx fun w' hw' => ⟨hw', headE_later 0 H (hx.trans hw')⟩
    · have := hdone _ _ _ (H w (Ext.refl w)) j (ready_mono hj hji)
      omega
  | succ f ih =>
    intro listed a w inv hfree hr hy H
    have hun := (mem_ready.1 hr).1
    refine ⟨fun h => (by rw [h] at hr; cases hr), fun j hj => ?_⟩
    have hjn : j < n := by
      rcases Nat.lt_or_ge j n with h | h
      · exact h
      · exact absurd hj (tail_waits hs hc hn inv _ i rfl hin hun j h)
    refine ⟨hjn, fun w1 hx => ?_⟩
    by_cases hji : j = i
    · subst hji
      exact hy.wpOp hi hx fun w' hw' => ⟨hw', headE_later _ H (hx.trans hw')⟩
    · have h1 := (H.2 j (ready_mono hj hji)).2 w1 hx
      obtain ⟨hjun, oj, hoj, hall⟩ := mem_ready.1 hj
      have hnot : ∀ e ∈ oj.after, Region.binds .any e = true → e.on ≠ i := fun e he hb heq => by
        have h1 := hall e he hb
        rw [heq, getD_both hun] at h1
        cases h1
      have h2 := wpOp_putE hoj (hfree j oj hoj hji hjun hnot) (fun cs b => hsel i oi cs b hi) (fun cs b => hsel j oj cs b hoj) (hy.later hx) h1
      have hfree' : ∀ k ok, ops[k]? = some ok → k ≠ i → (listed.setIfInBounds j true).getD k true = false →
          (∀ e ∈ ok.after, Region.binds .any e = true → e.on ≠ i) → oi.apart ops ok = true := fun k ok hk hki hun hno => by
        refine hfree k ok hk hki ?_ hno
        by_cases hjk : j = k
        · subst hjk; exact hjun
        · rw [getD_set_ne true hjk] at hun; exact hun
      refine wpOp_mono (fun a' w' h3 => ⟨h3.2.1, ih (listed.setIfInBounds j true) a' w' (inv.set hj hjn) hfree' (ready_mono hr (Ne.symm hji)) (h3.1.later h3.2.1) ?_⟩) h2
      rw [Array.setIfInBounds_comm _ _ hji]
      exact h3.2.2

/-- The facts on a statement that are asked once. -/
def okE (ops : Array Oper) (n : Nat) : Bool := Region.noSelect ops && decide (n < ops.size) && Region.sinkB .any ops n && Region.chainB .any ops n

/-- The walk of a statement whose order is open: 'f' operations ahead of number n are left. -/
def WE (P : Program) (l : List Oper) (n : Nat) (Q : Exit → Act → World → Prop) (f : Nat) (listed : Array Bool) (a : Act) (w : World) : Prop :=
  okE l.toArray n = true → HeadInv .any l.toArray n listed → headE P l.toArray n (fun listed' a' w' => Region.seqB .any l.toArray (l.length - n) n listed' = true ∧ wpList P l.toArray Q (l.drop n) a' w') f listed a w

variable {l : List Oper} {n : Nat} {Q : Exit → Act → World → Prop} {f : Nat} {listed : Array Bool} {a : Act} {w : World}

theorem WE_take (i : Nat) {oi : Oper} {v : Value} (hi : l[i]? = some oi) (hin : i < n)
    (hf : (Region.free .any l.toArray listed i && (Region.ready .any l.toArray listed).contains i) = true) (hy : YieldsE P l.toArray oi v a w)
    (h : WE P l n Q f (listed.setIfInBounds i true) (a.put oi.dst v) w) : WE P l n Q (f + 1) listed a w := by
  intro hk inv
  have hk' := hk
  simp only [okE, Bool.and_eq_true, decide_eq_true_eq] at hk
  obtain ⟨⟨⟨hsel, hn⟩, hs⟩, hc⟩ := hk
  simp only [Bool.and_eq_true] at hf
  have hr : i ∈ Region.ready .any l.toArray listed := by simpa using hf.2
  have hi' : l.toArray[i]? = some oi := by simpa using hi
  exact headE_first hi' (Region.noSelect_spec hsel) hs hc hn hin (fun listed' _ _ hL => seqB_ready hL.1) f listed a w inv (Region.free_spec hi' hf.1) hr hy (h hk' (inv.set hr hin))

/-- A quiet operation that is carried out; one that is passed over. -/
theorem WE_q (i : Nat) {oi : Oper} (hi : l[i]? = some oi) (hin : i < n)
    (hf : (Region.free .any l.toArray listed i && (Region.ready .any l.toArray listed).contains i) = true) (hw : Region.wanted oi (yielded l.toArray a.tmps) = true)
    (h : ∃ v, (∀ w1, Ext w w1 → Oper.quietE P w1 v ((execOp a.eval oi).run P w1)) ∧ WE P l n Q f (listed.setIfInBounds i true) (a.put oi.dst v) w) : WE P l n Q (f + 1) listed a w :=
  let ⟨_, h1, h2⟩ := h
  WE_take i hi hin hf (.inl ⟨hw, h1⟩) h2
theorem WE_s (i : Nat) {oi : Oper} (hi : l[i]? = some oi) (hin : i < n)
    (hf : (Region.free .any l.toArray listed i && (Region.ready .any l.toArray listed).contains i) = true) (hw : Region.wanted oi (yielded l.toArray a.tmps) = false)
    (h : WE P l n Q f (listed.setIfInBounds i true) (a.put oi.dst undef) w) : WE P l n Q (f + 1) listed a w :=
  WE_take i hi hin hf (.inr ⟨hw, rfl⟩) h

theorem WE_do (i : Nat) {oi : Oper} (hi : l[i]? = some oi) (hin : i < n) (hr : Region.ready .any l.toArray listed = [i]) (hg : oi.guard = none)
    (h : ∀ w1, Ext w w1 → ∀ K : Act → World → Prop, (∀ a' w', Ext w1 w' → WE P l n Q f (listed.setIfInBounds i true) a' w' → K a' w') → oi.wp P a w1 K NoWay) : WE P l n Q (f + 1) listed a w := by
  intro hk inv
  refine ⟨fun h0 => (by rw [hr] at h0; cases h0), fun j hj => ?_⟩
  have hj' := hj
  rw [hr] at hj'
  have hji : j = i := by simpa using hj'
  subst hji
  refine ⟨hin, fun w1 hx => ?_⟩
  unfold wpOp
  have hi' : l.toArray[j]? = some oi := by simpa using hi
  simp only [hi']
  rw [if_pos (by simp [Region.wanted, hg])]
  exact .inl (h w1 hx _ fun _ _ h1 h2 => ⟨h1, h2 hk (inv.set hj hin)⟩)

theorem WE_done (hq : Region.seqB .any l.toArray (l.length - n) n listed = true) (h : ∀ w1, Ext w w1 → wpList P l.toArray Q (l.drop n) a w1) : WE P l n Q 0 listed a w :=
  fun _ _ w1 hx => ⟨hq, h w1 hx⟩

theorem wp_region_E {id : Nat} (n : Nat) {m : Nat} (hlen : l.length = m) (hm : P.follows .mixedOrders = true) (hk : okE l.toArray n = true)
    (h : WE P l n Q n (Array.replicate m false) a w) : (Code.region id l.toArray true).wp P Q a w := by
  subst hlen
  have hk' := hk
  simp only [okE, Bool.and_eq_true, decide_eq_true_eq] at hk'
  obtain ⟨⟨⟨hsel, hn⟩, hs⟩, hc⟩ := hk'
  have hn' : n < l.length := by simpa using hn
  have inv0 : HeadInv .any l.toArray n (Array.replicate l.length false) :=
    ⟨by simp, fun j oj _ hl => (by rw [getD_replicate_false] at hl; cases hl), fun t _ ht => getD_in (by simpa using ht) (getD_replicate_false _ _)⟩
  refine wp_region_any hm ?_
  have hx : Ext w { w with drawn := w.drawn + 1 } := ⟨rfl, rfl, rfl, Nat.le_refl _, fun _ _ => rfl⟩
  have H := headE_later _ (h hk inv0) hx
  have := wpAny_of_headE (Q := Q) (g := l.length - n) (fun listed' a' w' hL => by
    have := wpAny_of_seq (md := .any) (Q' := Q) (l.drop n) n listed' a' w' (fun j => by simp [List.getElem?_drop]) (by rw [List.length_drop]; exact hL.1) hL.2
    rwa [List.length_drop] at this) _ _ _ _ H
  rw [show n + (l.length - n) = l.toArray.size by simp; omega] at this
  simpa using this
end
end Go.Proofs.Ytilaljdokpdcoaa
