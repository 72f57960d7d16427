/- RangeTo, RoundR, NetSteps, NetWalk, NetRound, NetBack, NetLoop: these texts in one. Conditions: each part names its own. -/
import Derived.Test.YtdpmnldmbnpfpaaGreatDoorGNet
import Derived.RangeFuncNested
import Derived.RangeFuncBound
import Derived.RangeFuncCalls
import Derived.RangeFuncLeaves
import Derived.RangeFuncWrites
import Derived.Shelf.Abstract
import Derived.Shelf.RegionOpen
import Derived.WalkKit
import Derived.OwnWalkIn
import Derived.TacticsInMore
import Derived.LoopNIn
import Derived.LoopIn
import Derived.Test.YtdpmnldmbnpfpaaGreatDoorGPl
import Derived.Test.YtdpmnldmbnpfpaaGreatDoorGNetP
import Derived.Deep.LoopGhost
import Derived.Maps.OwnIn
import Derived.Maps.AppendAt
/- A range over a function whose rounds are numbered, where the caller alone knows that they come to an end. Conditions: none. -/
namespace Go.Proofs.YtdpmnldmbnpfpaaGreatDoor
open Go.RowKit Go.Shelf

theorem Ext.putObj {a w : World} (h : Ext a w) {l : Nat} (hl : a.heap.size <= l) (o : Obj) : Ext a (w.putObj l o) :=
 Below.trans h ((Below.refl a.heap.size w).grown (grownBy_putObj' w l o) h.size (fun k e => by cases e; exact hl))
/-- What is said of a world bears that there comes more, and that a block from L on that holds no cells is put anew. -/
structure Bears (L : Nat) (I : World -> Prop) : Prop where
 later : ∀ A B, I A -> Ext A B -> I B
 put : ∀ A l o o', I A -> L <= l -> A.heap[l]? = some o -> o.isCells = false -> I (A.putObj l o')
theorem Bears.and {L : Nat} {I J : World -> Prop} (h : Bears L I) (k : Bears L J) : Bears L fun W => I W /\ J W :=
 ⟨fun A B hi hx => ⟨h.later A B hi.1 hx, k.later A B hi.2 hx⟩, fun A l o o' hi hl ho hc => ⟨h.put A l o o' hi.1 hl ho hc, k.put A l o o' hi.2 hl ho hc⟩⟩
theorem Bears.pure (L : Nat) (p : Prop) : Bears L fun _ => p := ⟨fun _ _ h _ => h, fun _ _ _ _ h _ _ _ => h⟩
theorem Bears.ex {α : Type} {L : Nat} {I : α -> World -> Prop} (h : ∀ x, Bears L (I x)) : Bears L fun W => ∃ x, I x W :=
 ⟨fun A B ⟨x, hx⟩ hX => ⟨x, (h x).later A B hx hX⟩, fun A l o o' ⟨x, hx⟩ hl ho hc => ⟨x, (h x).put A l o o' hx hl ho hc⟩⟩
theorem bears_ext {L : Nat} {w : World} (h : w.heap.size <= L) : Bears L fun W => Ext w W := ⟨fun _ _ h hx => h.trans hx, fun _ _ _ o' hx hl _ _ => hx.putObj (Nat.le_trans h hl) o'⟩
theorem bears_blk (L b : Nat) (cs : List Value) (T : TypeId) : Bears L fun W => Blk W b cs T :=
 ⟨fun _ _ h hx => h.later hx, fun A l o o' h _ ho hc => by
   have hne : b ≠ l := fun e => by
    unfold Blk at h
    rw [e, ho] at h
    cases h
    simp [Obj.isCells] at hc
   unfold Blk
   rw [World.putObj_heap_other hne]; exact h⟩
theorem bears_own (L B : Nat) (e : TypeId) (s : Nat) (v : Value) (n : Nat) (xs : List Value) : Bears L fun W => W.ownsRow B e s v n xs :=
 ⟨fun _ _ h hx => own_later h hx, fun _ _ _ _ h _ ho hc => ownsRow_putObj h _ ho hc⟩
theorem heap_setB {A : World} {p : Addr} {u : Value} {k : Nat} (h : p.block ≠ k) : (A.setCell p u).heap[k]? = A.heap[k]? := by
 simp [World.setCell, Array.getElem?_modify, h]
theorem Ext.heap {A B : World} (h : Ext A B) {k : Nat} (hk : k < A.heap.size) : B.heap[k]? = A.heap[k]? := h.block k hk
/-- The two blocks of a loop hold no cells. -/
def Held (L : Nat) (A : World) : Prop := (∃ o, A.heap[L]? = some o /\ o.isCells = false) /\ ∃ o, A.heap[L + 1]? = some o /\ o.isCells = false
theorem Held.lt {L : Nat} {A : World} (h : Held L A) : L + 1 < A.heap.size := let ⟨_, h1, _⟩ := h.2; (Array.getElem?_eq_some_iff.1 h1).1
theorem Held.later {L : Nat} {A B : World} (h : Held L A) (hx : Ext A B) : B.heap[L]? = A.heap[L]? /\ B.heap[L + 1]? = A.heap[L + 1]? :=
 ⟨hx.heap (Nat.lt_of_succ_lt h.lt), hx.heap h.lt⟩
theorem held_ne {L b : Nat} {A : World} {o : Obj} (h : A.heap[L]? = some o) (ho : o.isCells = false) {cs : List Value} {T : TypeId} (hb : Blk A b cs T) : b ≠ L := fun e => by
 unfold Blk at hb
 rw [e, h] at hb
 cases hb
 simp [Obj.isCells] at ho
theorem Held.set {L b : Nat} {A : World} (h : Held L A) {cs : List Value} {T : TypeId} (hb : Blk A b cs T) (i : Nat) (u : Value) : (A.setCell ⟨b, i, none⟩ u).heap[L]? = A.heap[L]? /\ (A.setCell ⟨b, i, none⟩ u).heap[L + 1]? = A.heap[L + 1]? :=
 let ⟨⟨_, h1, h2⟩, ⟨_, h3, h4⟩⟩ := h
 ⟨heap_setB (held_ne h1 h2 hb), heap_setB (held_ne h3 h4 hb)⟩
theorem own_ne {A : World} {B : Nat} {e : TypeId} {s : Nat} {v : Value} {n : Nat} {xs : List Value} (ho : A.ownsRow B e s v n xs) {L : Nat} {o : Obj} (h : A.heap[L]? = some o) (hc : o.isCells = false) : some L ≠ v.ownBlock := fun he => by
 rcases ho.2 with ⟨rfl, _⟩ | ⟨g, cap, cur, rfl, _, hg, _⟩
 · simp [Value.ownBlock] at he
 · simp only [Value.ownBlock, Option.some.injEq] at he
   rw [he] at h
   rw [hg] at h
   cases h
   simp [Obj.isCells] at hc
theorem Held.grown {L : Nat} {A C : World} (h : Held L A) {B : Nat} {e : TypeId} {s : Nat} {v : Value} {n : Nat} {xs : List Value} (ho : A.ownsRow B e s v n xs) (hg : A.grownBy C v.ownBlock) : C.heap[L]? = A.heap[L]? /\ C.heap[L + 1]? = A.heap[L + 1]? :=
 let ⟨⟨_, h1, h2⟩, ⟨_, h3, h4⟩⟩ := h
 ⟨hg.block L (Nat.lt_of_succ_lt h.lt) (own_ne ho h1 h2), hg.block (L + 1) h.lt (own_ne ho h3 h4)⟩
theorem Held.of_eq {L : Nat} {A C : World} (h : Held L A) (e : C.heap[L]? = A.heap[L]? /\ C.heap[L + 1]? = A.heap[L + 1]?) : Held L C :=
 let ⟨⟨o, h1, h2⟩, ⟨q, h3, h4⟩⟩ := h
 ⟨⟨o, e.1.trans h1, h2⟩, q, e.2.trans h3, h4⟩
/-- How the body of a round may be left. -/
def toPost (L : Nat) (I : Nat -> World -> Prop) (Ix : Code -> World -> Prop) (k : Nat) (A : World) : Exit -> Act -> World -> Prop
 | .normal, _, B => (B.heap[L]? = A.heap[L]? /\ B.heap[L + 1]? = A.heap[L + 1]?) /\ I (k + 1) B
 | .ret, _, B => (B.heap[L]? = A.heap[L]? /\ B.heap[L + 1]? = A.heap[L + 1]?) /\ Ix .ret B
 | .exit id, _, B => (B.heap[L]? = A.heap[L]? /\ B.heap[L + 1]? = A.heap[L + 1]?) /\ Ix (.exit id) B
 | .goto t, _, B => (B.heap[L]? = A.heap[L]? /\ B.heap[L + 1]? = A.heap[L + 1]?) /\ Ix (.goto t) B
 | .panic _, _, _ => False
 | .outgrown, _, _ => False
/-- What is asked of the iterator, for rounds that are numbered: they come to an end behind S, or are stopped. -/
def SeqTo (P : Program) (gf : Nat) (lb : Array Value) (xs : Nat -> Value) (S : Nat -> Prop) (I : Nat -> World -> Prop) : Prop :=
 ∀ (l : Nat) (J : Nat -> World -> Prop) (Jx : World -> Prop) (W : World), (∀ k A, J k A -> I k A) -> (∀ k A B, J k A -> Ext A B -> J k B) -> (∀ A B, Jx A -> Ext A B -> Jx B) ->
   (∀ k A, J k A -> ¬ S k -> YieldAt Fence.wide 7 P l #[xs k] A fun e B => (e = .returned (.bool true) /\ J (k + 1) B) \/ (e = .returned (.bool false) /\ Jx B)) -> J 0 W ->
   CallsIn Fence.wide 8 P gf (#[.func (.yield l) #[] #[]] ++ lb) W fun e B => (∃ v, e = .returned v) /\ ((∃ k, S k /\ J k B) \/ Jx B)
theorem wp_range_to {P : Program} {g : Operand} {ps : Array Tmp} {assign body : Code} {Q : Exit -> Act -> World -> Prop} {a : Act} {w : World} {gf : Nat} {lb : Array Value}
 (hg : a.eval g = .func (.func gf) #[] lb) (eg : ∀ args w, (callFunc gf args).run P w = .ok (.enter gf args) w) {xs : Nat -> Value} {S : Nat -> Prop} {I : Nat -> World -> Prop} (hps : ps.size = 1)
 (hseq : SeqTo P gf lb xs S I) (Ix : Code -> World -> Prop) (hI : ∀ k, Bears w.heap.size (I k)) (hIx : ∀ c, Bears w.heap.size (Ix c)) (h0 : I 0 w)
 (hround : ∃ a₁ : Nat -> Act, (∀ (l k : Nat) (A : World) (K : Act -> World -> Prop), K (a₁ k) A ->
   assign.wpIn (Fence.wide.inRound l) 7 P (Exit.then K (fun _ _ _ => False)) { tmps := (ps.zip #[xs k]).foldl (fun t (p, v) => t.setIfInBounds p v) a.tmps, defers := [] } A) /\
   ∀ (l k : Nat) (A : World), Held w.heap.size A -> I k A -> ¬ S k -> body.wpIn (Fence.wide.inRound l) 7 P (toPost w.heap.size I Ix k A) (a₁ k) A)
 (hdone : ∀ (k : Nat) (A : World), S k -> I k A -> A.heap[w.heap.size]? = some (.deferred (some [])) -> Q .normal { a with defers := { target := .collected w.heap.size, args := #[] } :: a.defers } A)
 (hstop : ∀ (c : Code) (A : World), Ix c A -> A.heap[w.heap.size]? = some (.deferred (some [])) -> c.wp P Q { a with defers := { target := .collected w.heap.size, args := #[] } :: a.defers } A) :
 (Code.rangeFunc g ps assign body).wp P Q a w := by
 obtain ⟨a₁, hassign, hbody⟩ := hround
 refine (wpIn_wide (n := 9)).1 (wpIn_rangeFunc fun fn _ => ?_)
 obtain ⟨rec, hrec⟩ : ∃ rec : LoopState -> Option Code -> Loop, rec = fun st pe => { state := st, pending := pe, fn, tmps := a.tmps, params := ps, assign, body, defers := w.heap.size } := ⟨_, rfl⟩
 have hx1 : Ext w ((w.alloc (.deferred (some []))).alloc (.loop (rec .ready none))) := ((Ext.refl w).alloc _).alloc _
 have hl1 : ((w.alloc (.deferred (some []))).alloc (.loop (rec .ready none))).heap[w.heap.size + 1]? = some (.loop (rec .ready none)) := by
  have := World.alloc_heap_new (w.alloc (.deferred (some []))) (.loop (rec .ready none)); rwa [World.size_alloc] at this
 have hk1 : ((w.alloc (.deferred (some []))).alloc (.loop (rec .ready none))).heap[w.heap.size]? = some (.deferred (some [])) :=
  (Below.heap_alloc _ _ _ (by simp)).trans (World.alloc_heap_new w _)
 have he : (Instr.enterLoop fn a.tmps ps assign body Fence.wide.round).run P w = .ok (w.heap.size + 1, [{ target := .collected w.heap.size, args := #[] }]) ((w.alloc (.deferred (some []))).alloc (.loop (rec .ready none))) := by
  rw [hrec]; exact run_enterLoop_outer _ _ _ _ _
 generalize (w.alloc (.deferred (some []))).alloc (.loop (rec .ready none)) = W1 at hx1 hl1 hk1 he
 have keepR : ∀ {A B : World} {b : Nat} {o : Obj}, Ext A B -> A.heap[b]? = some o -> B.heap[b]? = some o := fun hx ho => (hx.block _ (Array.getElem?_eq_some_iff.1 ho).1).trans ho
 refine ⟨w.heap.size + 1, [{ target := .collected w.heap.size, args := #[] }], W1, { target := .fn (.func gf) lb, args := #[.func (.yield (w.heap.size + 1)) #[] #[]] }, W1, gf,
  #[.func (.yield (w.heap.size + 1)) #[] #[]] ++ lb, W1, he, ?_, fun _ _ => trivial, ?_, fun h => by simp [Fence.wide] at h, ?_⟩
 · simp only [resolve, hg]
   simp [go_sem]
 · simp [invoke, go_sem, eg]
 · refine (hseq (w.heap.size + 1)
    (fun k A => I k A /\ A.heap[w.heap.size + 1]? = some (.loop (rec .ready none)) /\ A.heap[w.heap.size]? = some (.deferred (some [])))
    (fun A => ∃ c, Ix c A /\ A.heap[w.heap.size + 1]? = some (.loop (rec .done (some c))) /\ A.heap[w.heap.size]? = some (.deferred (some [])))
    W1 (fun k A h => h.1) (fun k A B h hx => ⟨(hI k).later _ _ h.1 hx, keepR hx h.2.1, keepR hx h.2.2⟩)
    (fun A B ⟨c, h1, h2, h3⟩ hx => ⟨c, (hIx c).later _ _ h1 hx, keepR hx h2, keepR hx h3⟩) ?_ ⟨(hI 0).later _ _ h0 hx1, hl1, hk1⟩).mono ?_
   · rintro k A ⟨hi, hl, hk⟩ hs
     have hlt := (Array.getElem?_eq_some_iff.1 hl).1
     have hy := run_yield (P := P) (args := #[xs k]) hl (by rw [hrec]; exact hps.symm)
     rw [hrec] at hy
     refine ⟨fn, _, assign, body, hy, roundIn_of_wpIn trivial (hassign _ k A _ ⟨_, run_beginRound hl (by rw [hrec]), ?_⟩)⟩
     have hlb : (A.putObj (w.heap.size + 1) (.loop { rec .ready none with state := .busy })).heap[w.heap.size + 1]? = some (.loop { rec .ready none with state := .busy }) := World.putObj_heap_same hlt
     have hkb : (A.putObj (w.heap.size + 1) (.loop { rec .ready none with state := .busy })).heap[w.heap.size]? = some (.deferred (some [])) := (World.putObj_heap_other (by omega)).trans hk
     refine wpIn_mono (hbody _ k _ ⟨⟨_, hkb, rfl⟩, _, hlb, rfl⟩ ((hI k).put _ _ _ _ hi (by omega) hl rfl) hs) ?_
     have fin : ∀ (jump : Option Code) (B : World), B.heap[w.heap.size]? = (A.putObj (w.heap.size + 1) (.loop { rec .ready none with state := .busy })).heap[w.heap.size]? /\ B.heap[w.heap.size + 1]? = (A.putObj (w.heap.size + 1) (.loop { rec .ready none with state := .busy })).heap[w.heap.size + 1]? ->
      ∃ C, (Instr.endRound (w.heap.size + 1) jump).run P B = .ok (.bool jump.isNone) C /\ C.heap[w.heap.size + 1]? = some (.loop (rec (if jump.isNone then .ready else .done) jump)) /\ C.heap[w.heap.size]? = some (.deferred (some [])) /\ ∀ J : World -> Prop, Bears w.heap.size J -> J B -> J C := by
      rintro jump B ⟨g1, g2⟩
      rw [hkb] at g1
      rw [hlb] at g2
      have hr := run_endRound (P := P) jump g2
      refine ⟨_, hr, ?_, (World.putObj_heap_other (by omega)).trans g1, fun J hJ hj => hJ.put _ _ _ _ hj (by omega) g2 rfl⟩
      rw [World.putObj_heap_same (Array.getElem?_eq_some_iff.1 g2).1, hrec]
     rintro e a3 B hp
     cases e with
     | normal =>
       obtain ⟨g, hi3⟩ := hp
       obtain ⟨C, h1, h2, h3, h4⟩ := fin none B g
       exact ⟨_, C, h1, .inl ⟨rfl, h4 _ (hI _) hi3, h2, h3⟩⟩
     | ret =>
       obtain ⟨g, hi3⟩ := hp
       obtain ⟨C, h1, h2, h3, h4⟩ := fin (some .ret) B g
       exact ⟨_, C, h1, .inr ⟨rfl, .ret, h4 _ (hIx _) hi3, h2, h3⟩⟩
     | exit id =>
       obtain ⟨g, hi3⟩ := hp
       obtain ⟨C, h1, h2, h3, h4⟩ := fin (some (.exit id)) B g
       exact ⟨_, C, h1, .inr ⟨rfl, .exit id, h4 _ (hIx _) hi3, h2, h3⟩⟩
     | goto t =>
       obtain ⟨g, hi3⟩ := hp
       obtain ⟨C, h1, h2, h3, h4⟩ := fin (some (.goto t)) B g
       exact ⟨_, C, h1, .inr ⟨rfl, .goto t, h4 _ (hIx _) hi3, h2, h3⟩⟩
     | panic ch => exact hp.elim
     | outgrown => exact hp.elim
   · rintro e B ⟨⟨v, rfl⟩, (⟨k, hS, hi, hl, hk⟩ | ⟨c, hi, hl, hk⟩)⟩
     · exact ⟨none, _, by have := run_endLoop (P := P) hl (by rw [hrec]; simp); rw [hrec] at this; exact this, hdone k _ hS ((hI k).put _ _ _ _ hi (by omega) hl rfl) ((World.putObj_heap_other (by omega)).trans hk)⟩
     · exact ⟨some c, _, by have := run_endLoop (P := P) hl (by rw [hrec]; simp); rw [hrec] at this; exact this, wpIn_wide.2 (hstop c _ ((hIx c).put _ _ _ _ hi (by omega) hl rfl) ((World.putObj_heap_other (by omega)).trans hk))⟩
end Go.Proofs.YtdpmnldmbnpfpaaGreatDoor

/- Region3's walk of a statement whose order is open, inside a round of a range over a function. Conditions: no operation of the statement is a defer. -/
namespace Go.Proofs.YtdpmnldmbnpfpaaGreatDoor
open Go.RowKit

/-- Only the way on. -/
def OnN (Q : Exit -> Act -> World -> Prop) : Exit -> Act -> World -> Prop := fun e a w => e = .normal /\ Q e a w
theorem letsOut_onN (Q : Exit -> Act -> World -> Prop) : ¬ LetsOut (OnN Q) := fun ⟨_, _, h, _⟩ => by cases h
section
variable {P : Program} {ops : Array Oper} {Q : Exit -> Act -> World -> Prop} {l m : Nat}
theorem wpOpIn_of_wpOp {i : Nat} {K K' : Act -> World -> Prop} {a : Act} {w : World} (hd : ∀ (o : Oper), ops[i]? = some o -> ∀ c, o.op ≠ .defer c) (hK : ∀ a w, K a w -> K' a w) (h : wpOp P ops (OnN Q) i K a w) : wpOpIn (Fence.wide.inRound l) m P ops Q i K' a w := by
 unfold wpOp at h
 unfold wpOpIn
 cases ho : ops[i]? with
 | none => simp only [ho] at h ⊢; exact hK _ _ h
 | some o =>
   simp only [ho] at h ⊢
   split
   · rename_i hw
     rw [if_pos hw] at h
     rcases h with h | h
     case inr => exact absurd h.2 (letsOut_onN Q)
     refine ⟨fun _ _ => trivial, ?_⟩
     rw [Oper.semAt_plain _ _ _ (hd o ho)]
     unfold Oper.wp at h
     generalize (execOp a.eval o).run P w = r at *
     cases r with
     | ok n w' =>
       cases n <;> simp only [Oper.upon, Oper.uponIn] at h ⊢
       case value => exact hK _ _ h
       case skip => exact hK _ _ h
       case defer => exact hK _ _ h
       case enter f args =>
        refine ⟨fun hh => (by cases hh), CallsIn.inRound l (callsIn_wide.2 (h.mono fun e w'' he => ?_))⟩
        cases e with
        | returned v => exact hK _ _ he
        | panicked c => exact absurd he.1 (by intro hh; cases hh)
        | outgrown => exact absurd he (letsOut_onN Q)
       case row row args =>
        refine ⟨fun hh => (by cases hh), fun c cs _ => ?_⟩
        obtain ⟨v, w'', hv, hs⟩ := h c cs
        exact ⟨v, w'', hK _ _ hv, stepsIn_wide.2 hs⟩
     | halt x w' => cases x <;> simp only [Oper.upon, Oper.uponIn] at h ⊢; exact absurd h.1 (by intro hh; cases hh)
   · rename_i hw
     rw [if_neg hw] at h
     exact ⟨fun _ _ => trivial, hK _ _ h⟩
theorem wpAnyIn_of_wpAny (hd : ∀ (i : Nat) (o : Oper), ops[i]? = some o -> ∀ c, o.op ≠ .defer c) : ∀ (f : Nat) (listed : Array Bool) (a : Act) (w : World), wpAny P .any ops (OnN Q) f listed a w -> wpAnyIn (Fence.wide.inRound l) m P .any ops Q f listed a w
 | 0, _, _, _, h => ⟨h.1, h.2.2⟩
 | f + 1, _, _, _, h => ⟨fun h0 => (h.1 h0).2, fun i hi => wpOpIn_of_wpOp (hd i) (fun a' w' h' => wpAnyIn_of_wpAny hd f _ a' w' h') (h.2 i hi)⟩
def noDefer : Op -> Bool
 | .defer _ => false
 | _ => true
theorem noDefer_ops {ls : List Oper} (h : ls.all (fun o => noDefer o.op) = true) : ∀ (i : Nat) (o : Oper), ls.toArray[i]? = some o -> ∀ c, o.op ≠ .defer c := by
 intro i o ho c hc
 have := List.all_eq_true.1 h o (List.mem_of_getElem? (by simpa using ho))
 rw [hc] at this
 cases this
theorem wp_region_RI {ls : List Oper} {a : Act} {w : World} (R : World -> World -> Prop) {id : Nat} (n : Nat) {k : Nat} (hlen : ls.length = k) (hm : P.follows .mixedOrders = true) (hk : okE ls.toArray n = true) (hd : ls.all (fun o => noDefer o.op) = true)
 (h : ∀ w0, Ext w w0 -> WR R P ls n (OnN Q) n (Array.replicate k false) a w0) : (Code.region id ls.toArray true).wpIn (Fence.wide.inRound l) m P Q a w := by
 subst hlen
 have hk' := hk
 simp only [okE, Bool.and_eq_true, decide_eq_true_eq] at hk'
 obtain ⟨⟨⟨hsel, hn⟩, hs⟩, hc⟩ := hk'
 have hn' : n < ls.length := by simpa using hn
 have inv0 : HeadInv .any ls.toArray n (Array.replicate ls.length false) :=
  ⟨by simp, fun j oj _ hl => (by rw [getD_replicate_false] at hl; cases hl), fun t _ ht => getD_in (by simpa using ht) (getD_replicate_false _ _)⟩
 refine wpIn_region_any hm (wpAnyIn_of_wpAny (noDefer_ops hd) _ _ _ _ ?_)
 have hx : Ext w { w with drawn := w.drawn + 1 } := ⟨rfl, rfl, rfl, Nat.le_refl _, fun _ _ => rfl⟩
 have H := h _ hx hk inv0
 have := wpAny_of_headR (Q := OnN Q) (g := ls.length - n) (fun listed' a' w' hL => by
  have := wpAny_of_seq (md := .any) (Q' := OnN Q) (ls.drop n) n listed' a' w' (fun j => by simp [List.getElem?_drop]) (by rw [List.length_drop]; exact hL.1) hL.2
  rwa [List.length_drop] at this) _ _ _ _ H
 rw [show n + (ls.length - n) = ls.toArray.size by simp; omega] at this
 simpa using this
end
end Go.Proofs.YtdpmnldmbnpfpaaGreatDoor

/- network.steps: the nodes behind a node, one after the other. Conditions: whole numbers are within 64 bits. -/
namespace Go.Proofs.YtdpmnldmbnpfpaaGreatDoor
open Go.RowKit Go.Shelf
attribute [local go_sem] Oper.semAt_some

/-- What the iterator reads. -/
structure StepBox (A : World) (nb ab vb : Nat) (lv : Value) (ls : List (List Rul)) (a : BitVec 32) (x : Int) : Prop where
 net : Blk A nb [lv] 39
 addr : Blk A ab [U a] 23
 node : Blk A vb [I x] 3
 tab : TablesAt A lv ls
def stR (ls : List (List Rul)) (a : BitVec 32) (x : Int) (M : Nat) (J : Nat -> World -> Prop) (n : Nat) (wv okv : Value) (wr : World) : Prop :=
 ∃ k : Nat, n = M - k /\ wv = I ((stepN ls a (itv (vecV ls a) k x)).getD 0) /\ okv = .bool (stepN ls a (itv (vecV ls a) k x)).isSome /\ J k wr
set_option maxRecDepth 100000 in
set_option maxHeartbeats 4000000 in
theorem steps_to (lv : Value) (ls : List (List Rul)) (a : BitVec 32) (x : Int) (nb ab vb M : Nat) (hok : TablesOk ls) (hm : netMayV ls = 0) (J0 : Nat -> World -> Prop) (hI : ∀ k A, J0 k A -> k < M /\ StepBox A nb ab vb lv ls a x) :
 SeqTo Tryz.prog 120 #[.pointer (some ⟨nb, 0, none⟩), .pointer (some ⟨ab, 0, none⟩), .pointer (some ⟨vb, 0, none⟩)] (fun k => I (itv (vecV ls a) (k + 1) x)) (fun k => itv (vecV ls a) (k + 1) x = -1) J0 := by
 intro l J Jx W hJ hJe hJxe hY h0
 have HOK := Lib.hid hok
 have HM := Lib.hid hm
 have HI := Lib.hid (fun k A h => hI k A (hJ k A h))
 have HJE := Lib.hid hJe
 have HY := Lib.hid hY
 have H0 := Lib.hid h0
 clear hok hm hI hJ hJe hJxe hY h0
 obtain ⟨hlt, ⟨hb1, hb2, hb3, ht⟩⟩ := HI.out 0 W H0.out
 have HT := Lib.hid ht
 obtain ⟨ad, cap, hlv, a1, a2, a3⟩ := ht.form
 subst hlv
 clear a3 ht
 refine callsIn_of_wp Tryz.func120 rfl trivial ?_ rfl
 simp only [Tryz.ntmps120, List.size_toArray, List.length_cons, List.length_nil, Nat.reduceAdd, Nat.reduceSub, Array.replicate_succ, Array.replicate_zero, List.push_toArray, List.append_toArray, List.nil_append, List.cons_append]
 have c1 := hb1.cells
 have c2 := hb2.cells
 have c3 := hb3.cells
 clear hb1 hb2 hb3
 gi_wp2_with (refine ⟨trivial, ?_⟩; gi_at_call 121; refine (callsIn_wide.2 (netStep_any _ ls a x _ HT.out HOK.out)).mono ?_; rintro e w' ⟨he, hx⟩; subst he; have HX := Lib.hid hx; clear hx)
 have HJ0 := Lib.hid (show J 0 w' from HJE.out 0 W w' H0.out HX.out)
 clear H0 HT HX c1 c2 c3 hlt
 gi_loopw [5, 6] (fun wv okv wr => ∃ n : Nat, stR ls a x M J n wv okv wr) (fun wv okv wr => leastOf fun n => stR ls a x M J n wv okv wr)
 case atStart => exact ⟨M, 0, rfl, rfl, rfl, HJ0.out⟩
 case round =>
  have HLE := Lib.hid (leastOf_spec hrel)
  obtain ⟨k, hk, rfl, rfl, hJ⟩ := HLE.out.1
  have HJ1 := Lib.hid hJ
  have HK := Lib.hid hk
  clear hk hJ hrel
  have HKM := Lib.hid (HI.out k wr HJ1.out).1
  have HNX := Lib.hid (show nxv (vecV ls a) (itv (vecV ls a) k x) = itv (vecV ls a) (k + 1) x from (itv_out _ _ _).symm)
  rcases hs : stepN ls a (itv (vecV ls a) k x) with _ | y
  · have HE := Lib.hid (show itv (vecV ls a) (k + 1) x = -1 from HNX.out.symm.trans ((step_no HM.out).1 hs))
    simp only [hs, Option.getD_none, Option.isSome_none] at *
    clear hs HLE HK
    gi_wp2
    refine ⟨fun _ h => (by cases h), ?_⟩
    gi_wp2
    go_end0
    exact ⟨⟨_, rfl⟩, .inl ⟨k, HE.out, HJ1.out⟩⟩
  · have HY1 := Lib.hid (show itv (vecV ls a) (k + 1) x = y /\ y ≠ -1 from let h := (step_nx HM.out).1 hs; ⟨HNX.out.symm.trans h.1, h.2⟩)
    obtain ⟨fn, tmps, assign, body, hy, hR⟩ := HY.out k wr HJ1.out (by rw [HY1.out.1]; exact HY1.out.2)
    rw [HY1.out.1] at hy
    have HS := Lib.hid hs
    simp only [hs, Option.getD_some, Option.isSome_some] at *
    gi_wp2
    refine hR.mono ?_
    rintro e W3 (⟨rfl, hJ3⟩ | ⟨rfl, hJx3⟩)
    · obtain ⟨-, ⟨hb1, hb2, hb3, ht⟩⟩ := HI.out (k + 1) W3 hJ3
      have HT3 := Lib.hid ht
      have HJ3 := Lib.hid hJ3
      have c1 := hb1.cells
      have c2 := hb2.cells
      clear hb1 hb2 hb3 ht hJ3 hR hy
      gi_wp2_with (refine ⟨trivial, ?_⟩; gi_at_call 121; refine (callsIn_wide.2 (netStep_any _ ls a y _ HT3.out HOK.out)).mono ?_; rintro e w4 ⟨he, hx⟩; subst he; have HX4 := Lib.hid hx; clear hx)
      have HS4 := Lib.hid (show stR ls a x M J (M - (k + 1)) (I ((stepN ls a y).getD 0)) (.bool (stepN ls a y).isSome) w4 from
       ⟨k + 1, rfl, by rw [HY1.out.1], by rw [HY1.out.1], HJE.out _ _ _ HJ3.out HX4.out⟩)
      go_roundw
      case rel => exact ⟨_, HS4.out⟩
      case measure =>
       have h1 := (leastOf_spec (p := fun n => stR ls a x M J n (I ((stepN ls a y).getD 0)) (.bool (stepN ls a y).isSome) w4) ⟨_, HS4.out⟩).2 _ HS4.out
       have h2 := HK.out
       have h3 := HKM.out
       rw [h2]
       omega
    · gi_wp2
      go_end0
      exact ⟨⟨_, rfl⟩, .inr hJx3⟩
end Go.Proofs.YtdpmnldmbnpfpaaGreatDoor

/- network.Walk: the node that so many steps lead to. Conditions: whole numbers are within 64 bits. -/
namespace Go.Proofs.YtdpmnldmbnpfpaaGreatDoor
open Go.RowKit Go.Shelf
attribute [local go_sem] Oper.semAt_some

theorem calls_of_marks {P : Program} {f : FuncId} {fn : Func} {c : Code} {args : Array Value} {w : World} {R : Ending -> World -> Prop} (hf : P.funcs[f]? = some fn) (hb : fn.body = some c)
 (h : c.wp P (bodyPostM Fence.wide 9 P fn R) { tmps := args ++ Array.replicate (fn.ntmps - args.size) undef, defers := [] } w) : Calls P f args w R :=
 (callsIn_wide (n := 9)).1 (callsIn_of_wp_marks hf hb trivial (wpIn_wide.2 h) rfl)
set_option maxHeartbeats 1000000 in
theorem steps_any1 (lv : Value) (a : BitVec 32) (x : Int) (w : World) :
 Calls Tryz.prog 66 #[.agg #[lv], U a, I x] w fun e w' => e = .returned (.func (.func 120) #[] #[.pointer (some ⟨w.heap.size, 0, none⟩), .pointer (some ⟨w.heap.size + 1, 0, none⟩), .pointer (some ⟨w.heap.size + 1 + 1, 0, none⟩)]) /\
  Blk w' w.heap.size [lv] 39 /\ Blk w' (w.heap.size + 1) [U a] 23 /\ Blk w' (w.heap.size + 1 + 1) [I x] 3 /\ Ext w w' := by
 go_enter Tryz.func66, Tryz.ntmps66
 go_wp2_with fail
 go_ret
 exact ⟨rfl, ((Blk.new w [lv] 39).old _).old _, (Blk.newAt [U a] (by simp)).old _, Blk.newAt [I x] (by simp), by (repeat with_reducible first | exact Ext.refl _ | assumption | refine Ext.alloc ?_ _ | refine Ext.drew ?_ | refine Ext.drewN ?_ _ | (refine Ext.setCellP ?_ ?_; focus (first | (simp; done) | (simp; omega) | omega)))⟩
set_option maxHeartbeats 4000000 in
set_option maxRecDepth 100000 in
theorem netWalk_any (lv : Value) (ls : List (List Rul)) (a : BitVec 32) (x : Int) (k : Nat) (w : World) (hl : TablesAt w lv ls) (hok : TablesOk ls) (hm : netMayV ls = 0) (hk : 1 <= k /\ k <= 256) (hx : ∀ j, j <= k -> isN (vecV ls a) (itv (vecV ls a) j x)) :
 Calls Tryz.prog 28 #[.agg #[lv], U a, I x, I k] w fun e w' => e = .returned (.tuple #[I (itv (vecV ls a) k x), .bool true]) /\ Ext w w' := by
 have HL := Lib.hid hl
 have HOK := Lib.hid hok
 have HM := Lib.hid hm
 have HX := Lib.hid hx
 have h0 := hx 0 (by omega)
 have hx0 : 0 <= x := h0.1
 have hx1 : x < ls.length := by have := h0.2; rw [vecV_len] at this; exact this
 obtain ⟨ad, cap, rfl, a1, a2, a3⟩ := hl.form
 clear a3 hl hok hm hx h0
 unfold maxLen at a2
 refine calls_of_marks Tryz.func28 rfl ?_
 simp only [Tryz.ntmps28, List.size_toArray, List.length_cons, List.length_nil, Nat.reduceAdd, Nat.reduceSub, Array.replicate_succ, Array.replicate_zero, List.push_toArray, List.append_toArray, List.nil_append, List.cons_append]
 go_upto_region 1 with fail
 refine hideW (Φ := fun W => Code.wp _ _ _ _ W) (fun W => Ext w W /\ Blk W w.heap.size [.slice ad ls.length cap] 39 /\ Blk W (w.heap.size + 1) [I k] 3 /\ Blk W (w.heap.size + 1 + 1) [I 0] 3 /\ Blk W (w.heap.size + 1 + 1 + 1) [.bool false] 4)
  ⟨by (repeat with_reducible first | exact Ext.refl _ | assumption | refine Ext.alloc ?_ _ | refine Ext.drew ?_ | refine Ext.drewN ?_ _ | (refine Ext.setCellP ?_ ?_; focus (first | (simp; done) | (simp; omega) | omega))), (((Blk.new w [.slice ad ls.length cap] 39).old _).old _).old _, ((Blk.newAt [I k] (by simp)).old _).old _, (Blk.newAt [I 0] (by simp)).old _, Blk.newAt [.bool false] (by simp)⟩ (fun W1 hW1 => ?_)
 obtain ⟨hx1', hb1, hk1, hr1, hs1⟩ := hW1
 have HX1 := Lib.hid hx1'
 have HB1 := Lib.hid hb1
 have HK1 := Lib.hid hk1
 have HR1 := Lib.hid hr1
 have HS1 := Lib.hid hs1
 have HRS := Lib.hid (fun (A : World) (u : Value) (h : Ext w A) => h.setCell (p := ⟨w.heap.size + 1 + 1, 0, none⟩) (by show w.heap.size <= w.heap.size + 1 + 1; omega) u)
 have HSS := Lib.hid (fun (A : World) (u : Value) (h : Ext w A) => h.setCell (p := ⟨w.heap.size + 1 + 1 + 1, 0, none⟩) (by show w.heap.size <= w.heap.size + 1 + 1 + 1; omega) u)
 clear hx1' hb1 hk1 hr1 hs1
 generalize hsb : w.heap.size + 1 + 1 + 1 = sb at *
 generalize hrb : w.heap.size + 1 + 1 = rb at *
 generalize hkb : w.heap.size + 1 = kb at *
 generalize w.heap.size = nb at *
 have HSB := Lib.hid (show nb <= rb /\ rb ≠ sb /\ nb <= sb /\ kb ≠ rb /\ kb ≠ sb by omega)
 clear hsb hrb hkb
 have hbc := HB1.out.keep
 have hkc := HK1.out.keep
 have hxr := Ext.refl W1
 have hd0 : decide (0 <= x) = true := decide_eq_true hx0
 have hd1 : decide (x < (ls.length : Int)) = true := decide_eq_true hx1
 have hk0 : decide ((k : Int) < 0) = false := decide_eq_false (by omega)
 have hk1 : decide (256 < (k : Int)) = false := decide_eq_false (by omega)
 go_upto_region 3 with (first
  | (go_at_call 65; (with_reducible refine (netIs_any _ ls x _ (HL.out.later HX1.out)).mono ?_); rintro e w2 ⟨he, hx2⟩; subst he; have HX2 := Lib.hid hx2; have HXT := Lib.hid (HX1.out.trans hx2); clear hx2))
 clear hbc hkc hxr
 have hkc := (HK1.out.later HX2.out).cells
 have hke : ((k : Int) == 0) = false := beq_false_of_ne (by omega)
 go_upto_region 6 with fail
 refine hideW (Φ := fun W => Code.wp _ _ _ _ W) (fun W => Ext w2 W /\ Blk W w2.heap.size [I 0] 3)
  ⟨by (repeat with_reducible first | exact Ext.refl _ | assumption | refine Ext.alloc ?_ _ | refine Ext.drew ?_ | refine Ext.drewN ?_ _ | (refine Ext.setCellP ?_ ?_; focus (first | (simp; done) | (simp; omega) | omega))), Blk.new w2 [I 0] 3⟩ (fun W3 hW3 => ?_)
 obtain ⟨hx3, hd3⟩ := hW3
 have HX3 := Lib.hid (HX2.out.trans hx3)
 have HD3 := Lib.hid hd3
 have HDB := Lib.hid (show sb < w2.heap.size /\ rb < w2.heap.size /\ kb < w2.heap.size from ⟨(HS1.out.later HX2.out).lt, (HR1.out.later HX2.out).lt, (HK1.out.later HX2.out).lt⟩)
 clear hx3 hd3 hkc
 have HDS := Lib.hid (fun (A : World) (u : Value) (h : Ext w A) => h.setCell (p := ⟨w2.heap.size, 0, none⟩) HXT.out.size u)
 generalize w2.heap.size = db at *
 have hbc := (HB1.out.later HX3.out).cells
 go_wp2_with (first
  | (go_at_call 66; (with_reducible refine (steps_any1 _ a x _).mono ?_); rintro e w4 ⟨he, g1, g2, g3, hx4⟩; subst he; have HX4 := Lib.hid (HX3.out.trans hx4); have HX34 := Lib.hid hx4; have HG := Lib.hid (show StepBox w4 W3.heap.size (W3.heap.size + 1) (W3.heap.size + 1 + 1) (.slice ad ls.length cap) ls a x from ⟨g1, g2, g3, HL.out.later (HX1.out.trans (HX3.out.trans hx4))⟩); clear g1 g2 g3 hx4))
 have HLT := Lib.hid (show db < W3.heap.size /\ W3.heap.size + 1 + 1 < w4.heap.size from ⟨HD3.out.lt, HG.out.node.lt⟩)
 have hw4 : w.heap.size <= w4.heap.size := (HX1.out.trans HX4.out).size
 have HZ4 := Lib.hid (show db + 1 <= W3.heap.size from HD3.out.lt)
 clear hbc
 refine wp_range_to (gf := 120) rfl (enters_of Tryz.func120 (by kernel_rfl) rfl) (S := fun j => itv (vecV ls a) (j + 1) x = -1)
  (I := fun j W => (j < k) /\ Ext w W /\ Blk W db [I (j : Int)] 3 /\ Blk W kb [I k] 3 /\ Blk W rb [I 0] 3 /\ Blk W sb [.bool false] 4 /\ Blk W W3.heap.size [.slice ad ls.length cap] 39 /\ Blk W (W3.heap.size + 1) [U a] 23 /\ Blk W (W3.heap.size + 1 + 1) [I x] 3) rfl
  (steps_to (.slice ad ls.length cap) ls a x W3.heap.size (W3.heap.size + 1) (W3.heap.size + 1 + 1) k HOK.out HM.out _ fun j A h => ⟨h.1, h.2.2.2.2.2.2.1, h.2.2.2.2.2.2.2.1, h.2.2.2.2.2.2.2.2, HL.out.later h.2.1⟩)
  (fun c W => c = .ret /\ Ext w W /\ Blk W rb [I (itv (vecV ls a) k x)] 3 /\ Blk W sb [.bool true] 4) (fun j => ?_) (fun c => ?_) ?_ ?round ?done ?stop
 · (repeat (first | with_reducible exact bears_blk _ _ _ _ | with_reducible exact bears_own _ _ _ _ _ _ _ | with_reducible exact bears_ext (by assumption) | with_reducible exact Bears.pure _ _ | with_reducible refine Bears.and ?_ ?_))
 · (repeat (first | with_reducible exact bears_blk _ _ _ _ | with_reducible exact bears_own _ _ _ _ _ _ _ | with_reducible exact bears_ext (by assumption) | with_reducible exact Bears.pure _ _ | with_reducible refine Bears.and ?_ ?_))
 · exact ⟨hk.1, HX1.out.trans HX4.out, HD3.out.later HX34.out, HK1.out.later HX4.out, HR1.out.later HX4.out, HS1.out.later HX4.out, HG.out.net, HG.out.addr, HG.out.node⟩
 case round =>
  apply Exists.intro
  refine ⟨fun l j A K hK => ?_, fun l j A hsz hI hS => ?_⟩
  · gi_wp2
    exact hK
  · obtain ⟨hj, hxA, hd, hkk, hr, hs, g1, g2, g3⟩ := hI
    have HXA := Lib.hid hxA
    have HDA := Lib.hid hd
    have HKA := Lib.hid hkk
    have HRA := Lib.hid hr
    have HSA := Lib.hid hs
    have hdc := hd.cells
    have hdf := hd.frozen
    have hkc := (hkk.other (p := ⟨db, 0, none⟩) (by show db ≠ kb; have := HDB.out; omega) (I ((j : Int) + 1))).cells
    have hw5 : db < w4.heap.size := by have := HLT.out; omega
    have hne : db ≠ w4.heap.size /\ db ≠ w4.heap.size + 1 := by omega
    have HNE := Lib.hid hne
    clear hxA hd hkk hr hs hne
    have hji : IntKind.i64.wrap ((j : Int) + 1) = (j : Int) + 1 := by rw [IntKind.wrap_i64]; omega
    by_cases hjk : j + 1 = k
    · have hb : ((j : Int) + 1 == (k : Int)) = true := by rw [<- hjk]; simp
      have h1 : db ≠ rb := by have := HDB.out; omega
      have h2 : db ≠ sb := by have := HDB.out; omega
      have h3 : rb ≠ sb := HSB.out.2.1
      have HR2 := Lib.hid (HRA.out.other (p := ⟨db, 0, none⟩) h1 (I ((j : Int) + 1)))
      have HS2 := Lib.hid ((HSA.out.other (p := ⟨db, 0, none⟩) h2 (I ((j : Int) + 1))).other (p := ⟨rb, 0, none⟩) h3 (I (itv (vecV ls a) k x)))
      have hrc := HR2.out.cells
      have hrf := HR2.out.frozen
      have hsc := HS2.out.cells
      have hsf := HS2.out.frozen
      have HH := Lib.hid (show rb < w4.heap.size /\ sb < w4.heap.size by have := HDB.out; omega)
      clear h1 h2 h3 hw5
      gi_wp2
      refine ⟨⟨?_, ?_⟩, rfl, HSS.out _ _ (HRS.out _ _ (HDS.out _ _ HXA.out)), (HR2.out.set 0 _).other HSB.out.2.1.symm _, HS2.out.set 0 _⟩
      · rw [heap_setB (by show sb ≠ _; have := HH.out; omega), heap_setB (by show rb ≠ _; have := HH.out; omega), heap_setB HNE.out.1]
      · rw [heap_setB (by show sb ≠ _; have := HH.out; omega), heap_setB (by show rb ≠ _; have := HH.out; omega), heap_setB HNE.out.2]
    · have hb : ((j : Int) + 1 == (k : Int)) = false := beq_false_of_ne (by omega)
      have HJ := Lib.hid (show j + 1 < k by omega)
      have h1 : db ≠ rb := by have := HDB.out; omega
      have h2 : db ≠ sb := by have := HDB.out; omega
      have h3 : db ≠ kb := by have := HDB.out; omega
      have HN := Lib.hid (And.intro h1 (And.intro h2 h3))
      clear h1 h2 h3 hw5 hjk
      gi_wp2
      exact ⟨⟨heap_setB HNE.out.1, heap_setB HNE.out.2⟩, HJ.out, HDS.out _ _ HXA.out, HDA.out.set 0 _, HKA.out.other HN.out.2.2 _, HRA.out.other HN.out.1 _, HSA.out.other HN.out.2.1 _,
       g1.other (by show db ≠ _; have := HLT.out; omega) _, g2.other (by show db ≠ _; have := HLT.out; omega) _, g3.other (by show db ≠ _; have := HLT.out; omega) _⟩
 case done => exact fun j A hS hI _ => absurd hS (by have := (HX.out (j + 1) (by have := hI.1; omega)).1; omega)
 case stop =>
  rintro c A ⟨rfl, hxA, hr, hs⟩ hD
  go_wp2_with fail
  have hrB := (bears_blk w4.heap.size rb [I (itv (vecV ls a) k x)] 3).put A w4.heap.size _ (.deferred none) hr (Nat.le_refl _) hD rfl
  have hsB := (bears_blk w4.heap.size sb [.bool true] 4).put A w4.heap.size _ (.deferred none) hs (Nat.le_refl _) hD rfl
  have hxB := hxA.putObj hw4 (.deferred none)
  refine ⟨by simp, .inl ⟨_, _, rfl, run_takeDeferred hD, ?_⟩⟩
  generalize A.putObj w4.heap.size (.deferred none) = B at *
  have hrc := hrB.cells
  have hsc := hsB.cells
  exact ⟨.tuple #[I (itv (vecV ls a) k x), .bool true], by simp [results, Tryz.results28, go_sem, hrc, hsc], rfl, hxB⟩
end Go.Proofs.YtdpmnldmbnpfpaaGreatDoor

/- network.round: the nodes of a loop, from one of them on. Conditions: whole numbers are within 64 bits. -/
namespace Go.Proofs.YtdpmnldmbnpfpaaGreatDoor
open Go.RowKit Go.Shelf
attribute [local go_sem] Oper.semAt_some

theorem blk_grownN {w w' : World} {b : Nat} {cs : List Value} {T : TypeId} {r : Option Nat} (h : Blk w b cs T) (hr : r ≠ some b) (hg : w.grownBy w' r) : Blk w' b cs T := by
 have hb := hg.block b h.lt (fun e => hr e.symm)
 unfold Blk
 rw [hb]; exact h
theorem own_setB {W : World} {B : Nat} {e : TypeId} {s : Nat} {v : Value} {n : Nat} {xs : List Value} (h : W.ownsRow B e s v n xs) {b : Nat} {cs : List Value} {T : TypeId} (hb : Blk W b cs T) (hT : T ≠ e) (i : Nat) (u : Value) : (W.setCell ⟨b, i, none⟩ u).ownsRow B e s v n xs := by
 obtain ⟨h0, h1⟩ := h
 refine ⟨h0, ?_⟩
 rcases h1 with h1 | ⟨g, cap, cur, h1, h2, h3, h4⟩
 · exact .inl h1
 · refine .inr ⟨g, cap, cur, h1, h2, ?_, h4⟩
   rw [heap_setB (by
    intro e'
    unfold Blk at hb
    have e2 : b = g := e'
    rw [e2, h3] at hb
    cases hb
    exact hT rfl)]
   exact h3
set_option maxHeartbeats 4000000 in
set_option maxRecDepth 100000 in
theorem netRound_any (lv : Value) (ls : List (List Rul)) (a : BitVec 32) (x : Int) (p : Nat) (w : World) (hl : TablesAt w lv ls) (hok : TablesOk ls) (hm : netMayV ls = 0) (hx : 0 <= x) (hp : IsPer (vecV ls a) x p) :
 Calls Tryz.prog 52 #[.agg #[lv], U a, I x] w fun e w' => ∃ u, e = .returned u /\ OwnI w' w.heap.size u (wayV (vecV ls a) x p) /\ Ext w w' := by
 have HL := Lib.hid hl
 have HOK := Lib.hid hok
 have HM := Lib.hid hm
 have HP := Lib.hid hp
 have HON := Lib.hid (hp.on hx)
 have hple : p <= 256 := by
  have h1 := hp.le (vec_ok hm a) hx
  have h2 := (netMay_tabs hm).1
  rw [vecV_len] at h1
  omega
 have hpp := hp.pos
 obtain ⟨ad, cap, rfl, a1, a2, a3⟩ := hl.form
 clear a3 hl hok hm hp
 unfold maxLen at a2
 refine calls_of_marks Tryz.func52 rfl ?_
 simp only [Tryz.ntmps52, List.size_toArray, List.length_cons, List.length_nil, Nat.reduceAdd, Nat.reduceSub, Array.replicate_succ, Array.replicate_zero, List.push_toArray, List.append_toArray, List.nil_append, List.cons_append]
 go_upto_region 1 with fail
 refine hideW (Φ := fun W => Code.wp _ _ _ _ W) (fun W => Ext w W /\ Blk W w.heap.size [.slice ad ls.length cap] 39 /\ Blk W (w.heap.size + 1) [I x] 3)
  ⟨by (repeat with_reducible first | exact Ext.refl _ | assumption | refine Ext.alloc ?_ _ | refine Ext.drew ?_ | refine Ext.drewN ?_ _ | (refine Ext.setCellP ?_ ?_; focus (first | (simp; done) | (simp; omega) | omega))), (Blk.new w [.slice ad ls.length cap] 39).old _, Blk.newAt [I x] (by simp)⟩ (fun W1 hW1 => ?_)
 obtain ⟨hx1, hb1, hv1⟩ := hW1
 have HX1 := Lib.hid hx1
 have HB1 := Lib.hid hb1
 have HV1 := Lib.hid hv1
 clear hx1 hb1 hv1
 generalize hB0 : w.heap.size = B at *
 have HB0 := Lib.hid hB0
 clear hB0
 have hvc := HV1.out.cells
 go_upto_region 2 with fail
 refine hideW (Φ := fun W => Code.wp _ _ _ _ W) (fun W => Ext W1 W /\ Blk W (W1.heap.size + 1) [.slice (some ⟨W1.heap.size, 0, none⟩) 1 1] 47 /\ OwnI W W1.heap.size (.slice (some ⟨W1.heap.size, 0, none⟩) 1 1) [x])
  ⟨by (repeat with_reducible first | exact Ext.refl _ | assumption | refine Ext.alloc ?_ _ | refine Ext.drew ?_ | refine Ext.drewN ?_ _ | (refine Ext.setCellP ?_ ?_; focus (first | (simp; done) | (simp; omega) | omega))), Blk.newAt [.slice (some ⟨W1.heap.size, 0, none⟩) 1 1] (by simp), own_later (own_made W1 1 3 1 [I x] rfl (by unfold maxLen; omega)) ((Ext.refl _).alloc _)⟩ (fun W2 hW2 => ?_)
 obtain ⟨hx2, hl2, ho2⟩ := hW2
 have HX2 := Lib.hid (HX1.out.trans hx2)
 have HL2 := Lib.hid hl2
 have HV2 := Lib.hid (HV1.out.later hx2)
 have HO2 := Lib.hid (own_low ho2 (show B <= W1.heap.size by have := HX1.out.size; rw [HB0.out] at this; exact this))
 have HLB := Lib.hid (show B + 1 < W1.heap.size + 1 by have := HV1.out.lt; omega)
 have hbc := (HB1.out.later hx2).cells
 have hvc := HV2.out.cells
 clear hx2 hl2 ho2
 have HN0 := Lib.hid (show B + 1 < W1.heap.size from HV1.out.lt)
 have HN2 := Lib.hid (show W1.heap.size + 1 < W2.heap.size from HL2.out.lt)
 generalize hr0 : W1.heap.size = r0 at HN0 HN2 HO2 HL2 HLB ⊢
 clear hr0
 have HN1 := Lib.hid (show (Value.slice (some ⟨r0, 0, none⟩) 1 1).ownBlock ≠ some (B + 1) /\ (Value.slice (some ⟨r0, 0, none⟩) 1 1).ownBlock ≠ some (W2.heap.size + 1 + 1) from by
  have h1 := HN0.out
  have h2 := HN2.out
  constructor <;> (simp [Value.ownBlock]; omega))
 generalize r0 + 1 = lb at *
 go_wp2_with (first
  | (go_at_call 66; (with_reducible refine (steps_any1 _ a x _).mono ?_); rintro e w4 ⟨he, g1, g2, g3, hx4⟩; subst he; have HX4 := Lib.hid (HX2.out.trans hx4); have HX24 := Lib.hid hx4; have HG := Lib.hid (show StepBox w4 W2.heap.size (W2.heap.size + 1) (W2.heap.size + 1 + 1) (.slice ad ls.length cap) ls a x from ⟨g1, g2, g3, HL.out.later (HX2.out.trans hx4)⟩); clear g1 g2 g3 hx4))
 clear hbc hvc
 have HLT := Lib.hid (show lb < W2.heap.size /\ W2.heap.size + 1 + 1 < w4.heap.size from ⟨HL2.out.lt, HG.out.node.lt⟩)
 have hw4 : w.heap.size <= w4.heap.size := HX4.out.size
 refine wp_range_to (gf := 120) rfl (enters_of Tryz.func120 (by kernel_rfl) rfl) (S := fun j => itv (vecV ls a) (j + 1) x = -1)
  (I := fun j W => (j < p) /\ Ext w W /\ (∃ u, Blk W lb [u] 47 /\ W.ownsRow B 3 1 u (wayV (vecV ls a) x (j + 1)).length (icells (wayV (vecV ls a) x (j + 1))) /\ u.ownBlock ≠ some (B + 1) /\ u.ownBlock ≠ some (W2.heap.size + 1 + 1)) /\ Blk W (B + 1) [I x] 3 /\ Blk W W2.heap.size [.slice ad ls.length cap] 39 /\ Blk W (W2.heap.size + 1) [U a] 23 /\ Blk W (W2.heap.size + 1 + 1) [I x] 3) rfl
  (steps_to (.slice ad ls.length cap) ls a x W2.heap.size (W2.heap.size + 1) (W2.heap.size + 1 + 1) p HOK.out HM.out _ fun j A h => ⟨h.1, h.2.2.2.2.1, h.2.2.2.2.2.1, h.2.2.2.2.2.2, HL.out.later h.2.1⟩)
  (fun c W => c = .exit 0 /\ Ext w W /\ ∃ u, Blk W lb [u] 47 /\ W.ownsRow B 3 1 u (wayV (vecV ls a) x p).length (icells (wayV (vecV ls a) x p))) (fun j => ?_) (fun c => ?_) ?_ ?round ?done ?stop
 · refine Bears.and (Bears.pure _ _) (Bears.and (bears_ext hw4) (Bears.and (Bears.ex fun u => ?_) ?_))
   · (repeat (first | with_reducible exact bears_blk _ _ _ _ | with_reducible exact bears_own _ _ _ _ _ _ _ | with_reducible exact bears_ext (by assumption) | with_reducible exact Bears.pure _ _ | with_reducible refine Bears.and ?_ ?_))
   · (repeat (first | with_reducible exact bears_blk _ _ _ _ | with_reducible exact bears_own _ _ _ _ _ _ _ | with_reducible exact bears_ext (by assumption) | with_reducible exact Bears.pure _ _ | with_reducible refine Bears.and ?_ ?_))
 · refine Bears.and (Bears.pure _ _) (Bears.and (bears_ext hw4) (Bears.ex fun u => ?_))
   (repeat (first | with_reducible exact bears_blk _ _ _ _ | with_reducible exact bears_own _ _ _ _ _ _ _ | with_reducible exact bears_ext (by assumption) | with_reducible exact Bears.pure _ _ | with_reducible refine Bears.and ?_ ?_))
 · exact ⟨hpp, HX4.out, ⟨_, HL2.out.later HX24.out, own_later HO2.out HX24.out, HN1.out.1, HN1.out.2⟩, HV2.out.later HX24.out, HG.out.net, HG.out.addr, HG.out.node⟩
 case round =>
  apply Exists.intro
  refine ⟨fun l j A K hK => ?_, fun l j A hsz hI hS => ?_⟩
  · gi_wp2
    exact hK
  · obtain ⟨hj, hxA, ⟨u, hlb, ho, hn1, hn2⟩, hv, g1, g2, g3⟩ := hI
    have HXA := Lib.hid hxA
    have HLA := Lib.hid hlb
    have HVA := Lib.hid hv
    obtain ⟨ua, uc, rfl⟩ := own_form ho
    have HOA := Lib.hid ho
    have HNA := Lib.hid (And.intro hn1 hn2)
    have hvc := hv.cells
    have hlc := hlb.cells
    clear hxA hlb hv ho hn1 hn2
    by_cases hjp : j + 1 = p
    · have HE := Lib.hid (show itv (vecV ls a) (j + 1) x = x by rw [hjp]; exact HP.out.back)
      have HJP := Lib.hid hjp
      rw [HE.out]
      clear hjp
      gi_wp2
      exact ⟨⟨rfl, rfl⟩, rfl, HXA.out, _, HLA.out, by rw [<- HJP.out]; exact HOA.out⟩
    · have hb : (itv (vecV ls a) (j + 1) x == x) = false := beq_false_of_ne (HP.out.first (j + 1) (by omega) (by omega))
      have HJ := Lib.hid (show j + 1 < p by omega)
      clear hjp
      have HWS := Lib.hid (wayV_step (vecV ls a) x (j + 1))
      have HWL := Lib.hid (wayV_len (vecV ls a) x (j + 1))
      generalize itv (vecV ls a) (j + 1) x = y at *
      obtain ⟨i0, hi, hz0, hz1, hz2⟩ := info_parts infoInt
      have HOB := Lib.hid (own_later HOA.out ((Ext.refl A).alloc (.cells #[I y] 3)))
      have HLB2 := Lib.hid (HLA.out.old (.cells #[I y] 3))
      have HHB := Lib.hid (hsz.of_eq (hsz.later ((Ext.refl A).alloc (.cells #[I y] 3))))
      have HHA := Lib.hid (hsz.later ((Ext.refl A).alloc (.cells #[I y] 3)))
      have HBZ := Lib.hid (show B <= (A.alloc (.cells #[I y] 3)).heap.size by have := HXA.out.size; rw [HB0.out] at this; simp; omega)
      have HXB := Lib.hid (show Ext w (A.alloc (.cells #[I y] 3)) from HXA.out.alloc _)
      have HG3 := Lib.hid (And.intro (HVA.out.old (.cells #[I y] 3)) (And.intro (g1.old (.cells #[I y] 3)) (And.intro (g2.old (.cells #[I y] 3)) (g3.old (.cells #[I y] 3)))))
      gi_wp2_with (gi_at_builtin; refine wpListIn_append_own_at _ rfl (.tmp 19) (.tmp 21) 47 rfl B 3 i0 (I 0) 1 8 Tryz.underlying47 hi hz0 hz1 hz2 rfl (by decide) _ _ _ rfl HOB.out ⟨A.heap.size, 0, none⟩ 1 1 [I y] rfl rfl (cell_one_new _ _ _) (by intro q hq; simp at hq; subst hq; rfl) (by rw [HWL.out]; unfold maxLen; omega) (by rw [HWL.out]; omega) HBZ.out ?_
                   intro v' w1 ho hg hnil hat
                   have HC := Lib.hid (blk_grownT HLB2.out HOB.out (by decide) hg)
                   have HXC := Lib.hid (Ext.grown HXB.out hg HOB.out (Nat.le_of_eq HB0.out))
                   have HHC := Lib.hid (HHB.out.grown HOB.out hg)
                   have HOC := Lib.hid ho
                   have HV5 := Lib.hid (blk_grownN HG3.out.1 HNA.out.1 hg)
                   have HN5 := Lib.hid (blk_grownT HG3.out.2.1 HOB.out (by decide) hg)
                   have HA5 := Lib.hid (blk_grownT HG3.out.2.2.1 HOB.out (by decide) hg)
                   have HX5 := Lib.hid (blk_grownN HG3.out.2.2.2 HNA.out.2 hg)
                   have HNC := Lib.hid (show v'.ownBlock ≠ some (B + 1) /\ v'.ownBlock ≠ some (W2.heap.size + 1 + 1) from by
                    rcases hat with h | h
                    · rw [h]; exact HNA.out
                    · rw [h]
                      have h1 := HLT.out.2
                      have h2 := HN0.out
                      have h3 := HN2.out
                      have h4 := HVA.out.lt
                      have h5 := g3.lt
                      constructor <;> (simp; omega))
                   obtain ⟨xa, xc, rfl⟩ := own_form ho
                   have hlc := HC.out.cells
                   have hlf := HC.out.frozen
                   clear ho hg hnil hat)
      have HQ := Lib.hid (HHC.out)
      refine ⟨⟨((HHB.out.of_eq HHC.out).set HC.out 0 _).1.trans (HHC.out.1.trans HHA.out.1), ((HHB.out.of_eq HHC.out).set HC.out 0 _).2.trans (HHC.out.2.trans HHA.out.2)⟩, HJ.out, HXC.out.setCell (by show w.heap.size <= lb; rw [HB0.out]; have := HLB.out; omega) _, ⟨_, HC.out.set 0 _, ?_, HNC.out.1, HNC.out.2⟩, ?_, ?_, ?_, ?_⟩
      · have h := own_setB HOC.out HC.out (by decide) 0 (.slice xa ((wayV (vecV ls a) x (j + 1)).length + 1) xc)
        rw [HWS.out, List.length_append, icells_app]
        exact h
      · exact HV5.out.other (by show lb ≠ B + 1; have := HLB.out; omega) _
      · exact HN5.out.other (by show lb ≠ _; have := HLT.out; omega) _
      · exact HA5.out.other (by show lb ≠ _; have := HLT.out; omega) _
      · exact HX5.out.other (by show lb ≠ _; have := HLT.out; omega) _
 case done => exact fun j A hS hI _ => absurd hS (by have := (HON.out.it (vec_ok HM.out a) (j + 1)).1; omega)
 case stop =>
  rintro c A ⟨rfl, hxA, u, hr, hs⟩ hD
  have hrc := hr.cells
  go_wp2_with fail
  have hoB := (bears_own w4.heap.size B 3 1 u (wayV (vecV ls a) x p).length (icells (wayV (vecV ls a) x p))).put A w4.heap.size _ (.deferred none) hs (Nat.le_refl _) hD rfl
  have hxB := hxA.putObj hw4 (.deferred none)
  refine ⟨by simp, .inl ⟨_, _, rfl, run_takeDeferred hD, ?_⟩⟩
  exact ⟨_, results_tmp rfl _ _ _, u, rfl, by rw [HB0.out]; exact hoB, hxB⟩
end Go.Proofs.YtdpmnldmbnpfpaaGreatDoor

/- network.back: a walk that marks the nodes that it comes by. Conditions: whole numbers are within 64 bits. -/
namespace Go.Proofs.YtdpmnldmbnpfpaaGreatDoor
open Go.RowKit Go.Shelf
attribute [local go_sem] Oper.semAt_some

/-- What a walk tells, and what it leaves. -/
def BackIs (v : List Int) (u : Nat) (s s' : List Int) (k : Nat) (y : Int) (ok : Bool) : Prop :=
 Wlk v u s s' k /\ 0 < k /\ ((itv v k u = -1 /\ y = 0 /\ ok = false) \/ (y = itv v k u /\ isN v y /\ mkv s' y ≠ 0 /\ ok = (mkv s' y == (u : Int) + 1)))
set_option maxHeartbeats 4000000 in
set_option maxRecDepth 100000 in
theorem netBack_any (w0 : World) (lv : Value) (ls : List (List Rul)) (a : BitVec 32) (u : Nat) (s : List Int) (sb nb : Nat) (cs : List Value) (T : TypeId) (w : World) (hl : TablesAt w0 lv ls) (hok : TablesOk ls) (hm : netMayV ls = 0)
 (hx : Ext w0 w) (hs : Blk w sb (icells s) 3) (hsb : w0.heap.size <= sb) (hnb : Blk w nb cs T) (hne : nb ≠ sb) (hsl : s.length = ls.length) (hu : u < ls.length) (h0 : mkv s u = 0) :
 Calls Tryz.prog 50 #[.agg #[lv], U a, I u, .slice (some ⟨sb, 0, none⟩) ls.length ls.length] w fun e w' => ∃ (s' : List Int) (k : Nat) (y : Int) (ok : Bool), e = .returned (.tuple #[I y, .bool ok]) /\ BackIs (vecV ls a) u s s' k y ok /\
  Blk w' sb (icells s') 3 /\ Blk w' nb cs T /\ Ext w0 w' := by
 have HL := Lib.hid hl
 have HOK := Lib.hid hok
 have HM := Lib.hid hm
 have HVN := Lib.hid (vecV_len ls a)
 have HVOK := Lib.hid (vec_ok hm a)
 have hle : ls.length <= 256 := (netMay_tabs hm).1
 have HW1 := Lib.hid ((Wlk.start (u := u) (by rw [hsl, vecV_len] : s.length = (vecV ls a).length)).step ⟨by show (0 : Int) <= (u : Int); omega, by rw [vecV_len]; show (u : Int) < _; omega⟩ h0)
 have e0 : (itv (vecV ls a) 0 (u : Int)).toNat = u := by show ((u : Int)).toNat = u; omega
 rw [e0] at HW1
 obtain ⟨ad, cap, rfl, a1, a2, a3⟩ := hl.form
 have HX := Lib.hid hx
 have HS := Lib.hid hs
 have HSB := Lib.hid hsb
 have HNB := Lib.hid hnb
 have HNE := Lib.hid hne
 have HLT := Lib.hid (And.intro hs.lt hnb.lt)
 have HU := Lib.hid hu
 have HSL := Lib.hid hsl
 clear a3 hl hok hm e0 hx hs hsb hnb hne h0 hsl
 unfold maxLen at a2
 refine calls_of_marks Tryz.func50 rfl ?_
 simp only [Tryz.ntmps50, List.size_toArray, List.length_cons, List.length_nil, Nat.reduceAdd, Nat.reduceSub, Array.replicate_succ, Array.replicate_zero, List.push_toArray, List.append_toArray, List.nil_append, List.cons_append]
 go_upto_region 1 with fail
 refine hideW (Φ := fun W => Code.wp _ _ _ _ W) (fun W => Ext w W /\ Blk W w.heap.size [.slice ad ls.length cap] 39 /\ Blk W (w.heap.size + 1) [I u] 3 /\ Blk W (w.heap.size + 1 + 1) [.slice (some ⟨sb, 0, none⟩) ls.length ls.length] 47 /\ Blk W (w.heap.size + 1 + 1 + 1) [I 0] 3 /\ Blk W (w.heap.size + 1 + 1 + 1 + 1) [.bool false] 4)
  ⟨by (repeat with_reducible first | exact Ext.refl _ | assumption | refine Ext.alloc ?_ _ | refine Ext.drew ?_ | refine Ext.drewN ?_ _ | (refine Ext.setCellP ?_ ?_; focus (first | (simp; done) | (simp; omega) | omega))), ((((Blk.new w [.slice ad ls.length cap] 39).old _).old _).old _).old _, (((Blk.newAt [I u] (by simp)).old _).old _).old _, ((Blk.newAt [.slice (some ⟨sb, 0, none⟩) ls.length ls.length] (by simp)).old _).old _, (Blk.newAt [I 0] (by simp)).old _, Blk.newAt [.bool false] (by simp)⟩ (fun W1 hW1 => ?_)
 obtain ⟨hx1, hb1, hv1, hs1, hr1, ho1⟩ := hW1
 have HX1 := Lib.hid hx1
 have HB1 := Lib.hid hb1
 have HV1 := Lib.hid hv1
 have HS1 := Lib.hid hs1
 have HR1 := Lib.hid hr1
 have HO1 := Lib.hid ho1
 clear hx1 hb1 hv1 hs1 hr1 ho1
 have HRS := Lib.hid (fun (A : World) (u : Value) (h : Ext w0 A) => h.setCell (p := ⟨w.heap.size + 1 + 1 + 1, 0, none⟩) (by show w0.heap.size <= w.heap.size + 1 + 1 + 1; have := HX.out.size; omega) u)
 have HOS := Lib.hid (fun (A : World) (u : Value) (h : Ext w0 A) => h.setCell (p := ⟨w.heap.size + 1 + 1 + 1 + 1, 0, none⟩) (by show w0.heap.size <= w.heap.size + 1 + 1 + 1 + 1; have := HX.out.size; omega) u)
 have HSS := Lib.hid (fun (A : World) (o : Nat) (u : Value) (h : Ext w0 A) => h.setCell (p := ⟨sb, o, none⟩) HSB.out u)
 generalize hob : w.heap.size + 1 + 1 + 1 + 1 = ob at *
 generalize hrb : w.heap.size + 1 + 1 + 1 = rb at *
 generalize htb : w.heap.size + 1 + 1 = tb at *
 generalize hvb : w.heap.size + 1 = vb at *
 generalize hbb : w.heap.size = bb at *
 have HNN := Lib.hid (show sb < bb /\ nb < bb /\ vb = bb + 1 /\ tb = bb + 2 /\ rb = bb + 3 /\ ob = bb + 4 by have := HLT.out; omega)
 clear hob hrb htb hvb hbb
 have hvc := HV1.out.cells
 have htc := HS1.out.cells
 have HSC := Lib.hid (HS.out.later HX1.out)
 have hsc : W1.cell? ⟨sb, u, none⟩ = some (I (s.getD u 0)) := by rw [HSC.out.cells]; exact icell_get (by rw [HSL.out]; exact hu)
 have hsf := HSC.out.frozen
 go_upto_region 2 with fail
 refine hideW (Φ := fun W => Code.wp _ _ _ _ W) (fun W => Ext w0 W /\ Blk W nb cs T /\ Blk W sb (icells (s.set u ((u : Int) + 1))) 3 /\ Blk W bb [.slice ad ls.length cap] 39 /\ Blk W vb [I u] 3 /\ Blk W tb [.slice (some ⟨sb, 0, none⟩) ls.length ls.length] 47 /\ Blk W rb [I 0] 3 /\ Blk W ob [.bool false] 4)
  ⟨HSS.out _ _ _ (HX.out.trans HX1.out), (HNB.out.later HX1.out).other (Ne.symm HNE.out) _, by have h := HSC.out.set u (I ((u : Int) + 1)); unfold icells at *; rw [List.map_set]; exact h,
    HB1.out.other (by show sb ≠ bb; have := HNN.out; omega) _, HV1.out.other (by show sb ≠ vb; have := HNN.out; omega) _, HS1.out.other (by show sb ≠ tb; have := HNN.out; omega) _, HR1.out.other (by show sb ≠ rb; have := HNN.out; omega) _, HO1.out.other (by show sb ≠ ob; have := HNN.out; omega) _⟩ (fun W2 hW2 => ?_)
 obtain ⟨hx2, hn2, hs2, hb2, hv2, ht2, hr2, ho2⟩ := hW2
 have HX2 := Lib.hid hx2
 have HN2 := Lib.hid hn2
 have HS2 := Lib.hid hs2
 have HV2 := Lib.hid hv2
 have HT2 := Lib.hid ht2
 have HR2 := Lib.hid hr2
 have HO2 := Lib.hid ho2
 have HB2 := Lib.hid hb2
 have hbc := hb2.cells
 have hvc2 := hv2.cells
 clear hvc htc hsc hsf hx2 hn2 hs2 hb2 hv2 ht2 hr2 ho2 HX1 HB1 HV1 HS1 HR1 HO1 HSC HNB
 generalize s.set u ((u : Int) + 1) = s1 at *
 go_wp2_with (first
  | (go_at_call 66; (with_reducible refine (steps_any1 _ a u _).mono ?_); rintro e w4 ⟨he, g1, g2, g3, hx4⟩; subst he; have HX4 := Lib.hid (HX2.out.trans hx4); have HX24 := Lib.hid hx4; have HG := Lib.hid (show StepBox w4 W2.heap.size (W2.heap.size + 1) (W2.heap.size + 1 + 1) (.slice ad ls.length cap) ls a u from ⟨g1, g2, g3, HL.out.later (HX2.out.trans hx4)⟩); clear g1 g2 g3 hx4))
 clear hbc hvc2
 have HLT2 := Lib.hid (show ob < W2.heap.size from HO2.out.lt)
 have hw4 : w0.heap.size <= w4.heap.size := HX4.out.size
 refine wp_range_to (gf := 120) rfl (enters_of Tryz.func120 (by kernel_rfl) rfl) (S := fun j => itv (vecV ls a) (j + 1) u = -1)
  (I := fun j W => (j < ls.length) /\ Ext w0 W /\ (∃ s', Wlk (vecV ls a) u s s' (j + 1) /\ Blk W sb (icells s') 3) /\ Blk W nb cs T /\ Blk W vb [I u] 3 /\ Blk W tb [.slice (some ⟨sb, 0, none⟩) ls.length ls.length] 47 /\ Blk W rb [I 0] 3 /\ Blk W ob [.bool false] 4 /\ Blk W bb [.slice ad ls.length cap] 39 /\ Blk W W2.heap.size [.slice ad ls.length cap] 39 /\ Blk W (W2.heap.size + 1) [U a] 23 /\ Blk W (W2.heap.size + 1 + 1) [I u] 3) rfl
  (steps_to (.slice ad ls.length cap) ls a u W2.heap.size (W2.heap.size + 1) (W2.heap.size + 1 + 1) ls.length HOK.out HM.out _ fun j A h => ⟨h.1, h.2.2.2.2.2.2.2.2.2.1, h.2.2.2.2.2.2.2.2.2.2.1, h.2.2.2.2.2.2.2.2.2.2.2, HL.out.later h.2.1⟩)
  (fun c W => c = .ret /\ Ext w0 W /\ ∃ s' k y ok, BackIs (vecV ls a) u s s' k y ok /\ Blk W sb (icells s') 3 /\ Blk W nb cs T /\ Blk W rb [I y] 3 /\ Blk W ob [.bool ok] 4) (fun j => ?_) (fun c => ?_) ?_ ?round ?done ?stop
 · refine Bears.and (Bears.pure _ _) (Bears.and (bears_ext hw4) (Bears.and (Bears.ex fun s' => ?_) ?_))
   · (repeat (first | with_reducible exact bears_blk _ _ _ _ | with_reducible exact bears_own _ _ _ _ _ _ _ | with_reducible exact bears_ext (by assumption) | with_reducible exact Bears.pure _ _ | with_reducible refine Bears.and ?_ ?_))
   · (repeat (first | with_reducible exact bears_blk _ _ _ _ | with_reducible exact bears_own _ _ _ _ _ _ _ | with_reducible exact bears_ext (by assumption) | with_reducible exact Bears.pure _ _ | with_reducible refine Bears.and ?_ ?_))
 · refine Bears.and (Bears.pure _ _) (Bears.and (bears_ext hw4) (Bears.ex fun s' => Bears.ex fun k => Bears.ex fun y => Bears.ex fun ok => ?_))
   (repeat (first | with_reducible exact bears_blk _ _ _ _ | with_reducible exact bears_own _ _ _ _ _ _ _ | with_reducible exact bears_ext (by assumption) | with_reducible exact Bears.pure _ _ | with_reducible refine Bears.and ?_ ?_))
 · exact ⟨by have := HU.out; omega, HX4.out, ⟨s1, HW1.out, HS2.out.later HX24.out⟩, HN2.out.later HX24.out, HV2.out.later HX24.out, HT2.out.later HX24.out, HR2.out.later HX24.out, HO2.out.later HX24.out, HB2.out.later HX24.out, HG.out.net, HG.out.addr, HG.out.node⟩
 case round =>
  apply Exists.intro
  refine ⟨fun l j A K hK => ?_, fun l j A hsz hI hS => ?_⟩
  · gi_wp2
    exact hK
  · obtain ⟨hj, hxA, ⟨s', hwk, hsB⟩, hn, hv, ht, hr, ho, hbN, g1, g2, g3⟩ := hI
    have hy := (itv_ok HVOK.out (x := (u : Int)) ⟨by omega, by rw [HVN.out]; have := HU.out; omega⟩ (j + 1)).resolve_left hS
    obtain ⟨q, hq⟩ : ∃ q : Nat, itv (vecV ls a) (j + 1) u = q := ⟨(itv (vecV ls a) (j + 1) u).toNat, by have := hy.1; omega⟩
    have hql : q < ls.length := by have := hy.2; rw [hq, HVN.out] at this; omega
    have hsl : s'.length = ls.length := by rw [hwk.len, HVN.out]
    have HXA := Lib.hid hxA
    have HSA := Lib.hid hsB
    have HNA := Lib.hid hn
    have HVA := Lib.hid hv
    have HTA := Lib.hid ht
    have HRA := Lib.hid hr
    have HOA := Lib.hid ho
    have HBA := Lib.hid hbN
    have HGA := Lib.hid (And.intro g1 (And.intro g2 g3))
    have HWK := Lib.hid hwk
    have HQ := Lib.hid (And.intro hq hy)
    have HGT := Lib.hid (icell_get (q := s') (k := q) (by rw [hsl]; exact hql))
    have hbc := hbN.cells
    have hd0 : decide ((0 : Int) <= (q : Int)) = true := decide_eq_true (by omega)
    have hd1 : decide ((q : Int) < (ls.length : Int)) = true := decide_eq_true (by omega)
    have HMK := Lib.hid (show mkv s' (itv (vecV ls a) (j + 1) u) = s'.getD q 0 by rw [hq]; unfold mkv; rw [Int.toNat_natCast])
    rw [hq]
    clear hxA hsB hn hv ht hr ho hbN g1 g2 g3 hwk hq hy hS
    generalize hz : s'.getD q 0 = z at HGT HMK
    clear hz
    by_cases hz : z = 0
    · have hzb : (z != 0) = false := by simp [hz]
      have HZ := Lib.hid hz
      clear hz
      gi_wp2_with (refine ⟨trivial, ?_⟩; gi_at_call 65; refine (CallsIn.inRound l (callsIn_wide.2 (netIs_any _ ls q _ (HL.out.later HXA.out)))).mono ?_; rintro e w5 ⟨he, hx5⟩; subst he; have HX5 := Lib.hid hx5; have htc := (HTA.out.later hx5).cells; have hsc := (HSA.out.later hx5).cells q; rw [HGT.out] at hsc; have hsf := (HSA.out.later hx5).frozen; have hvc := (HVA.out.later hx5).cells; clear hx5 hbc)
      have HL5 := Lib.hid (hsz.later HX5.out)
      have hh := (hsz.of_eq HL5.out).set (HSA.out.later HX5.out) q (I ((u : Int) + 1))
      have hw2 := HWK.out.step HQ.out.2 (by rw [HMK.out]; exact HZ.out)
      rw [show (itv (vecV ls a) (j + 1) (u : Int)).toNat = q by rw [HQ.out.1]; exact Int.toNat_natCast q] at hw2
      refine ⟨⟨hh.1.trans HL5.out.1, hh.2.trans HL5.out.2⟩, by have := hw2.few; rw [HVN.out] at this; omega, HSS.out _ _ _ (HXA.out.trans HX5.out), ⟨_, hw2, by have h := (HSA.out.later HX5.out).set q (I ((u : Int) + 1)); unfold icells at *; rw [List.map_set]; exact h⟩,
       (HNA.out.later HX5.out).other (Ne.symm HNE.out) _, (HVA.out.later HX5.out).other (by show sb ≠ vb; have := HNN.out; omega) _, (HTA.out.later HX5.out).other (by show sb ≠ tb; have := HNN.out; omega) _, (HRA.out.later HX5.out).other (by show sb ≠ rb; have := HNN.out; omega) _,
       (HOA.out.later HX5.out).other (by show sb ≠ ob; have := HNN.out; omega) _, (HBA.out.later HX5.out).other (by show sb ≠ bb; have := HNN.out; omega) _, (HGA.out.1.later HX5.out).other (by show sb ≠ W2.heap.size; have := HNN.out; have := HLT2.out; omega) _,
       (HGA.out.2.1.later HX5.out).other (by show sb ≠ W2.heap.size + 1; have := HNN.out; have := HLT2.out; omega) _, (HGA.out.2.2.later HX5.out).other (by show sb ≠ W2.heap.size + 1 + 1; have := HNN.out; have := HLT2.out; omega) _⟩
    · have hzb : (z != 0) = true := by simp [hz]
      have HZ := Lib.hid hz
      clear hz
      gi_wp2_with (refine ⟨trivial, ?_⟩; gi_at_call 65; refine (CallsIn.inRound l (callsIn_wide.2 (netIs_any _ ls q _ (HL.out.later HXA.out)))).mono ?_; rintro e w5 ⟨he, hx5⟩; subst he; have HX5 := Lib.hid hx5; have htc := (HTA.out.later hx5).cells; have hsc := (HSA.out.later hx5).cells q; rw [HGT.out] at hsc; have hvc := (HVA.out.later hx5).cells; have hrc := (HRA.out.later hx5).cells; have hrf := (HRA.out.later hx5).frozen; have hoc := (HOA.out.later hx5).cells; have hof := (HOA.out.later hx5).frozen; clear hx5 hbc)
      clear htc hsc hvc hrc hrf hoc hof
      have HRB := Lib.hid (show rb <= w5.heap.size by have := (HRA.out.later HX5.out).lt; omega)
      refine wp_region_RI (RB rb) 9 rfl (by kernel_rfl) (by kernel_rfl) (by kernel_rfl) (fun w6 hx6 => ?_)
      have HX6 := Lib.hid (HX5.out.trans hx6)
      have HB6 := Lib.hid (Nat.le_trans HRB.out hx6.size)
      have k1 := RB.keep HB6.out (p := ⟨tb, 0, none⟩) (show tb < rb by have := HNN.out; omega) ((HTA.out.later HX6.out).cells 0)
      have k2 := RB.keep HB6.out (p := ⟨sb, q, none⟩) (show sb < rb by have := HNN.out; omega) (((HSA.out.later HX6.out).cells q).trans HGT.out)
      have k3 := RB.keep HB6.out (p := ⟨vb, 0, none⟩) (show vb < rb by have := HNN.out; omega) ((HVA.out.later HX6.out).cells 0)
      clear hx6
      refine WRi_at 0 ?_
      iterate 8
       refine WRi_q (preRB _) rfl (by decide) (by kernel_rfl) rfl ?_; apply Exists.intro; refine ⟨fun w1 hx1 => ?_, ?_⟩
       · go_simp; try go_bits
         first | with_reducible rfl | rfl
       simp only [Act.put, List.setIfInBounds_toArray, List.set_cons_zero, List.set_cons_succ, Nat.reduceAdd]
      refine WRi_out ?_
      clear k1 k2 k3
      have hrc := (HRA.out.later HX6.out).cells
      have hrf := (HRA.out.later HX6.out).frozen
      refine WR_one 8 rfl (by decide) (by kernel_rfl) rfl (fun K hK => ?_)
      go_simp
      refine hK _ _ (RB.below HB6.out ((Below.refl _ _).setCell (by simp) _)) ?_
      clear hK K hrc hrf
      have HO7 := Lib.hid ((HOA.out.later HX6.out).other (p := ⟨rb, 0, none⟩) (by show rb ≠ ob; have := HNN.out; omega) (I q))
      have hoc := HO7.out.cells
      have hof := HO7.out.frozen
      refine WR_done (by kernel_rfl) ?_
      (try simp only [List.drop_succ_cons, List.drop_zero])
      go_simp
      refine .inl ?_
      go_simp
      refine ⟨rfl, ?_⟩
      clear hoc hof
      gi_wp2
      have HL6 := Lib.hid (hsz.later HX6.out)
      have hh := (hsz.of_eq HL6.out).set (HRA.out.later HX6.out) 0 (I q)
      have hh2 := ((hsz.of_eq HL6.out).of_eq hh).set HO7.out 0 (.bool (z == (u : Int) + 1))
      refine ⟨⟨hh2.1.trans (hh.1.trans HL6.out.1), hh2.2.trans (hh.2.trans HL6.out.2)⟩, rfl, HOS.out _ _ (HRS.out _ _ (HXA.out.trans HX6.out)), s', j + 1, q, (z == (u : Int) + 1), ⟨HWK.out, Nat.succ_pos _, .inr ⟨HQ.out.1.symm, by rw [<- HQ.out.1]; exact HQ.out.2, by rw [<- HQ.out.1, HMK.out]; exact HZ.out, by rw [<- HQ.out.1, HMK.out]⟩⟩,
       ((HSA.out.later HX6.out).other (by show rb ≠ sb; have := HNN.out; omega) _).other (by show ob ≠ sb; have := HNN.out; omega) _, ((HNA.out.later HX6.out).other (by show rb ≠ nb; have := HNN.out; omega) _).other (by show ob ≠ nb; have := HNN.out; omega) _,
       ((HRA.out.later HX6.out).set 0 _).other (by show ob ≠ rb; have := HNN.out; omega) _, HO7.out.set 0 _⟩
 case done =>
  intro j A hS hI hD
  obtain ⟨hj, hxA, ⟨s', hwk, hsB⟩, hn, hv, ht, hr, ho, hbN, g1, g2, g3⟩ := hI
  have HXA := Lib.hid hxA
  have HRA := Lib.hid hr
  have HOA := Lib.hid (ho.other (p := ⟨rb, 0, none⟩) (by show rb ≠ ob; have := HNN.out; omega) (I 0))
  have HSA := Lib.hid hsB
  have HNA := Lib.hid hn
  have HWK := Lib.hid (And.intro hS hwk)
  have hrc := hr.cells
  have hrf := hr.frozen
  have hoc := HOA.out.cells
  have hof := HOA.out.frozen
  clear hxA hsB hn hv ht hr ho hbN g1 g2 g3 hwk hS
  go_wp2_with fail
  have hlt : ob < w4.heap.size := Nat.lt_of_lt_of_le HLT2.out HX24.out.size
  have hrC : Blk ((A.setCell ⟨rb, 0, none⟩ (I 0)).setCell ⟨ob, 0, none⟩ (.bool false)) rb [I 0] 3 := (HRA.out.set 0 _).other (by show ob ≠ rb; have := HNN.out; omega) _
  have hoC := HOA.out.set 0 (.bool false)
  have hsC := (HSA.out.other (p := ⟨rb, 0, none⟩) (by show rb ≠ sb; have := HNN.out; omega) (I 0)).other (p := ⟨ob, 0, none⟩) (by show ob ≠ sb; have := HNN.out; omega) (.bool false)
  have hnC := (HNA.out.other (p := ⟨rb, 0, none⟩) (by show rb ≠ nb; have := HNN.out; omega) (I 0)).other (p := ⟨ob, 0, none⟩) (by show ob ≠ nb; have := HNN.out; omega) (.bool false)
  have hxC := HOS.out _ (.bool false) (HRS.out _ (I 0) HXA.out)
  have hDC : ((A.setCell ⟨rb, 0, none⟩ (I 0)).setCell ⟨ob, 0, none⟩ (.bool false)).heap[w4.heap.size]? = some (.deferred (some [])) := by
   rw [heap_setB (by show ob ≠ _; omega), heap_setB (by show rb ≠ _; have := HNN.out; omega)]; exact hD
  have hBI : BackIs (vecV ls a) u s s' (j + 1) 0 false := ⟨HWK.out.2, Nat.succ_pos _, .inl ⟨HWK.out.1, rfl, rfl⟩⟩
  clear hrc hrf hoc hof hD
  simp only [List.set_cons_zero] at hrC hoC
  change bodyPostM _ _ _ _ _ _ _ ((A.setCell ⟨rb, 0, none⟩ (I 0)).setCell ⟨ob, 0, none⟩ (.bool false))
  generalize (A.setCell ⟨rb, 0, none⟩ (I 0)).setCell ⟨ob, 0, none⟩ (.bool false) = C at *
  have hrB := (bears_blk w4.heap.size rb [I 0] 3).put C w4.heap.size _ (.deferred none) hrC (Nat.le_refl _) hDC rfl
  have hoB := (bears_blk w4.heap.size ob [.bool false] 4).put C w4.heap.size _ (.deferred none) hoC (Nat.le_refl _) hDC rfl
  have hsB := (bears_blk w4.heap.size sb (icells s') 3).put C w4.heap.size _ (.deferred none) hsC (Nat.le_refl _) hDC rfl
  have hnB := (bears_blk w4.heap.size nb cs T).put C w4.heap.size _ (.deferred none) hnC (Nat.le_refl _) hDC rfl
  have hxB := hxC.putObj hw4 (.deferred none)
  refine ⟨by simp, .inl ⟨_, _, rfl, run_takeDeferred hDC, ?_⟩⟩
  generalize C.putObj w4.heap.size (.deferred none) = B at *
  have hrc := hrB.cells
  have hsc := hoB.cells
  exact ⟨.tuple #[I 0, .bool false], by simp [results, Tryz.results50, go_sem, hrc, hsc], s', j + 1, 0, false, rfl, hBI, hsB, hnB, hxB⟩
 case stop =>
  rintro c A ⟨rfl, hxA, s', k, y, ok, hB, hs, hn, hr, ho⟩ hD
  go_wp2_with fail
  have hrB := (bears_blk w4.heap.size rb [I y] 3).put A w4.heap.size _ (.deferred none) hr (Nat.le_refl _) hD rfl
  have hoB := (bears_blk w4.heap.size ob [.bool ok] 4).put A w4.heap.size _ (.deferred none) ho (Nat.le_refl _) hD rfl
  have hsB := (bears_blk w4.heap.size sb (icells s') 3).put A w4.heap.size _ (.deferred none) hs (Nat.le_refl _) hD rfl
  have hnB := (bears_blk w4.heap.size nb cs T).put A w4.heap.size _ (.deferred none) hn (Nat.le_refl _) hD rfl
  have hxB := hxA.putObj hw4 (.deferred none)
  refine ⟨by simp, .inl ⟨_, _, rfl, run_takeDeferred hD, ?_⟩⟩
  generalize A.putObj w4.heap.size (.deferred none) = B at *
  have hrc := hrB.cells
  have hsc := hoB.cells
  exact ⟨.tuple #[I y, .bool ok], by simp [results, Tryz.results50, go_sem, hrc, hsc], s', k, y, ok, rfl, hB, hsB, hnB, hxB⟩
end Go.Proofs.YtdpmnldmbnpfpaaGreatDoor

/- network.Loop: where an address goes round. Conditions: whole numbers are within 64 bits. -/
namespace Go.Proofs.YtdpmnldmbnpfpaaGreatDoor
open Go.RowKit Go.Shelf

theorem minOf_mem : ∀ {zs : List Int} {k : Nat}, 0 < k -> k <= zs.length -> Lib.minOf (zs.take k) ∈ zs.take k
 | zs, 1, _, h => by
   rw [Lib.minOf_one]
   cases zs with
   | nil => simp at h
   | cons z t => simp
 | zs, k + 2, _, h => by
   rw [Lib.minOf_step zs (k + 1) (Nat.succ_pos k) (by omega)]
   have ih := minOf_mem (zs := zs) (k := k + 1) (Nat.succ_pos k) (by omega)
   have hs : zs.take (k + 2) = zs.take (k + 1) ++ [zs.getD (k + 1) 0] := by
    rw [List.take_succ_eq_append_getElem (by omega), List.getD_eq_getElem?_getD, List.getElem?_eq_getElem (by omega)]; rfl
   rw [hs, List.mem_append, List.mem_singleton]
   rcases Int.le_total (Lib.minOf (zs.take (k + 1))) (zs.getD (k + 1) 0) with g | g
   · rw [Int.min_eq_left g]; exact .inl ih
   · rw [Int.min_eq_right g]; exact .inr rfl
theorem minOf_le : ∀ {zs : List Int} {k : Nat}, 0 < k -> k <= zs.length -> ∀ z ∈ zs.take k, Lib.minOf (zs.take k) <= z
 | zs, 1, _, h, z, hz => by
   rw [Lib.minOf_one]
   cases zs with
   | nil => simp at h
   | cons y t => simp at hz; simp [hz]
 | zs, k + 2, _, h, z, hz => by
   rw [Lib.minOf_step zs (k + 1) (Nat.succ_pos k) (by omega)]
   have ih := minOf_le (zs := zs) (k := k + 1) (Nat.succ_pos k) (by omega)
   have hs : zs.take (k + 2) = zs.take (k + 1) ++ [zs.getD (k + 1) 0] := by
    rw [List.take_succ_eq_append_getElem (by omega), List.getD_eq_getElem?_getD, List.getElem?_eq_getElem (by omega)]; rfl
   rw [hs, List.mem_append, List.mem_singleton] at hz
   rcases hz with hz | hz
   · exact Int.le_trans (Int.min_le_left _ _) (ih z hz)
   · rw [hz]; exact Int.min_le_right _ _
theorem minOf_all {zs : List Int} (h : 0 < zs.length) : Lib.minOf (zs.take zs.length) ∈ zs /\ ∀ z ∈ zs, Lib.minOf (zs.take zs.length) <= z := by
 have h1 := minOf_mem h (Nat.le_refl _)
 have h2 := minOf_le h (Nat.le_refl _)
 rw [List.take_length] at *
 exact ⟨h1, h2⟩
theorem minInts_any (u : Value) (l : List Int) (w : World) (h : IntsAt w u l) (hl : 0 < l.length) (hb : l.length <= 9223372036854775807) :
 Calls Tryz.prog 51 #[u] w fun e w' => e = .returned (I (Lib.minOf (l.take l.length))) /\ w' = w := by
 obtain ⟨a, cap, rfl, a1, a2, a3⟩ := h.form
 obtain ⟨b, o, he, -⟩ := a3 0 _ (List.getElem?_eq_getElem hl)
 subst he
 refine Tryz.slices_Min_int b o l.length cap l w hl (Nat.le_refl _) hb fun j hj => ?_
 obtain ⟨b', o', he, hc⟩ := a3 j _ (List.getElem?_eq_getElem hj)
 cases he
 rw [hc, List.getD_eq_getElem?_getD, List.getElem?_eq_getElem hj]; rfl
/-- What network.Loop tells. -/
def LoopOut (v : List Int) (w : World) (e : Ending) (w' : World) : Prop :=
 ∃ (u : Value) (l : List Int) (b : Bool), e = .returned (.tuple #[u, .bool b]) /\ LoopIs v l /\ (b = true ↔ l ≠ []) /\ OwnI w' w.heap.size u l /\ Ext w w'
set_option maxHeartbeats 4000000 in
set_option maxRecDepth 100000 in
theorem netLoop_any (lv : Value) (ls : List (List Rul)) (a : BitVec 32) (w : World) (hl : TablesAt w lv ls) (hok : TablesOk ls) (hm : netMayV ls = 0) :
 Calls Tryz.prog 22 #[.agg #[lv], U a] w (LoopOut (vecV ls a) w) := by
 have HL := Lib.hid hl
 have HOK := Lib.hid hok
 have HM := Lib.hid hm
 have HVN := Lib.hid (vecV_len ls a)
 have HVOK := Lib.hid (vec_ok hm a)
 have hle : ls.length <= 256 := (netMay_tabs hm).1
 obtain ⟨ad, cap, rfl, a1, a2, a3⟩ := hl.form
 clear a3 hl hok hm
 unfold maxLen at a2
 go_enter Tryz.func22, Tryz.ntmps22
 have hmk := fun w => run_make_row' (P := Tryz.prog) 47 3 (I 0) 8 Tryz.underlying47 infoInt rfl .i64 .i64 ls.length (by omega) (by omega) w
 go_upto_region 2 with fail
 have eI : (madeCells #[I 0] ls.length) = (icells (List.replicate ls.length 0)).toArray := by unfold icells; rw [<- Array.toList_inj, toList_madeCells_one, List.map_replicate]
 rw [eI]
 refine hideW (Φ := fun W => Code.wp _ _ _ _ W) (fun W => Ext w W /\ Blk W w.heap.size [.slice ad ls.length cap] 39 /\ Blk W (w.heap.size + 1) (icells (List.replicate ls.length 0)) 3)
  ⟨by (repeat with_reducible first | exact Ext.refl _ | assumption | refine Ext.alloc ?_ _ | refine Ext.drew ?_ | refine Ext.drewN ?_ _ | (refine Ext.setCellP ?_ ?_; focus (first | (simp; done) | (simp; omega) | omega))), (Blk.new w [.slice ad ls.length cap] 39).old _, Blk.newAt (icells (List.replicate ls.length 0)) (by simp)⟩ (fun W1 hW1 => ?_)
 obtain ⟨hx1, hb1, hs1⟩ := hW1
 have HX1 := Lib.hid hx1
 have HB1 := Lib.hid hb1
 have HS1 := Lib.hid hs1
 have hbc := hb1.cells
 clear hx1 hb1 hs1 hmk eI
 generalize hnb : w.heap.size = nb at *
 have HNB := Lib.hid hnb
 clear hnb
 go_wp2_with fail
 go_loopw [7, 8, 20] (fun b f i wr => ∃ (k : Nat) (s : List Int) (best : Int) (fo : Bool), k <= ls.length /\ i = I k /\ b = I best /\ f = .bool fo /\ Hid (Marks (vecV ls a) k s fo best) /\ Hid (Blk wr (nb + 1) (icells s) 3) /\ Hid (Blk wr nb [.slice ad ls.length cap] 39) /\ Hid (Ext w wr)) (fun _ _ i _ => ls.length - (intOf i).toNat)
 case atStart => exact ⟨0, List.replicate ls.length 0, 0, false, Nat.zero_le _, rfl, rfl, rfl, by rw [<- HVN.out]; exact Marks.start _ 0, HS1.out, HB1.out, HX1.out⟩
 case round =>
  obtain ⟨k, s, best, fo, hk, rfl, rfl, rfl, HK, HS, HB, HX⟩ := hrel
  have hbc := HB.out.cells
  by_cases hlt : k < ls.length
  · have hkd : decide ((k : Int) < (ls.length : Int)) = true := decide_eq_true (by omega)
    have HLT := Lib.hid hlt
    have HSL := Lib.hid (show s.length = ls.length by rw [HK.out.len, HVN.out])
    have HGT := Lib.hid (icell_get (q := s) (k := k) (by rw [HSL.out]; exact hlt))
    have HMK := Lib.hid (show mkv s k = s.getD k 0 by unfold mkv; rw [Int.toNat_natCast])
    generalize hz : s.getD k 0 = z at HGT HMK
    clear hz
    have hsc := (HS.out.cells k).trans HGT.out
    by_cases hz : z = 0
    · have hzb : (z != 0) = false := by simp [hz]
      have HZ := Lib.hid hz
      clear hz
      go_upto_region 8 with (first
       | (go_at_call 50; (with_reducible refine (netBack_any w _ ls a k s (nb + 1) nb _ 39 _ HL.out HOK.out HM.out HX.out HS.out (by rw [HNB.out]; omega) HB.out (by omega) HSL.out HLT.out (by rw [HMK.out]; exact HZ.out)).mono ?_); rintro e w2 ⟨s', m, y, ok, he, hBI, hs2, hb2, hx2⟩; subst he; have HBI := Lib.hid hBI; have HS2 := Lib.hid hs2; have HB2 := Lib.hid hb2; have HX2 := Lib.hid hx2; clear hs2 hb2 hx2))
      have HKL := Lib.hid (show k < (vecV ls a).length by rw [HVN.out]; exact HLT.out)
      have hbc := HB2.out.cells
      clear hsc
      obtain ⟨hwk, hm0, hcase⟩ := hBI
      have HWK := Lib.hid (And.intro hwk hm0)
      clear hwk hm0
      rcases hcase with ⟨hen, rfl, rfl⟩ | ⟨hy, hn, hnz, hok⟩
      · have HEN := Lib.hid hen
        clear hen
        go_wp2_with fail
        go_roundw
        case rel => exact ⟨k + 1, s', best, fo, Nat.succ_le_of_lt HLT.out, by go_num, rfl, rfl, HK.out.out HVOK.out HWK.out.1 HWK.out.2 HKL.out HEN.out, HS2.out, HB2.out, HX2.out⟩
        case measure => have := HLT.out; simp [intOf]; omega
      · have HY := Lib.hid (And.intro hy (And.intro hn hnz))
        have hyn : 0 <= y := hn.1
        by_cases hmk : mkv s' y = (k : Int) + 1
        · rw [hmk, beq_self_eq_true] at hok
          subst hok
          obtain ⟨p, hp, hlow⟩ := HK.out.loop HVOK.out HWK.out.1 HWK.out.2 HKL.out (by rw [<- hy]; exact hn) (by rw [<- hy]; exact hmk)
          rw [<- hy] at hp hlow
          have HP := Lib.hid hp
          have HLOW := Lib.hid hlow
          have HY0 := Lib.hid hyn
          have HPL := Lib.hid (show 0 < (wayV (vecV ls a) y p).length /\ (wayV (vecV ls a) y p).length <= 9223372036854775807 by
           rw [wayV_len]; have h1 := hp.le HVOK.out hyn; rw [HVN.out] at h1; have := hp.pos; omega)
          clear hp hlow hy hn hnz hmk hyn
          go_upto_region 10 with (first
           | (go_at_call 52; (with_reducible refine (netRound_any _ ls a y p _ (HL.out.later HX2.out) HOK.out HM.out HY0.out HP.out).mono ?_); rintro e w3 ⟨v3, he, ho3, hx3⟩; subst he; have HO3 := Lib.hid ho3; have HX3 := Lib.hid hx3; clear ho3 hx3)
           | (go_at_call 51; (with_reducible refine (minInts_any _ _ _ HO3.out.ints HPL.out.1 HPL.out.2).mono ?_); rintro e w4 ⟨he, hw4⟩; subst he; subst hw4))
          have HMIN := Lib.hid (show Lib.minOf (wayV (vecV ls a) y p) ∈ wayV (vecV ls a) y p /\ ∀ z ∈ wayV (vecV ls a) y p, Lib.minOf (wayV (vecV ls a) y p) <= z by have h := minOf_all HPL.out.1; rwa [List.take_length] at h)
          have HUP := Lib.hid (fun b hb => HLOW.out _ HMIN.out.1 HMIN.out.2 b hb)
          clear HMIN
          generalize Lib.minOf (wayV (vecV ls a) y p) = low at *
          cases fo with
          | false =>
            go_wp2_with fail
            go_roundw
            case rel => exact ⟨k + 1, s', low, true, Nat.succ_le_of_lt HLT.out, by go_num, rfl, rfl, HUP.out low (.inl ⟨rfl, rfl⟩), HS2.out.later HX3.out, HB2.out.later HX3.out, HX2.out.trans HX3.out⟩
            case measure => have := HLT.out; simp [intOf]; omega
          | true =>
            by_cases hlb : low < best
            · have hld : decide (low < best) = true := decide_eq_true hlb
              have HLB := Lib.hid hlb
              clear hlb
              go_wp2_with fail
              go_roundw
              case rel => exact ⟨k + 1, s', low, true, Nat.succ_le_of_lt HLT.out, by go_num, rfl, rfl, HUP.out low (.inr ⟨rfl, (Int.min_eq_right (Int.le_of_lt HLB.out)).symm⟩), HS2.out.later HX3.out, HB2.out.later HX3.out, HX2.out.trans HX3.out⟩
              case measure => have := HLT.out; simp [intOf]; omega
            · have hld : decide (low < best) = false := decide_eq_false hlb
              have HLB := Lib.hid hlb
              clear hlb
              go_wp2_with fail
              go_roundw
              case rel => exact ⟨k + 1, s', best, true, Nat.succ_le_of_lt HLT.out, by go_num, rfl, rfl, HUP.out best (.inr ⟨rfl, (Int.min_eq_left (by have := HLB.out; omega)).symm⟩), HS2.out.later HX3.out, HB2.out.later HX3.out, HX2.out.trans HX3.out⟩
              case measure => have := HLT.out; simp [intOf]; omega
        · have HMK2 := Lib.hid hmk
          have hokf : (mkv s' y == (k : Int) + 1) = false := beq_false_of_ne hmk
          rw [hokf] at hok
          subst hok
          clear hy hn hnz hmk hyn hokf
          go_wp2_with fail
          go_roundw
          case rel => exact ⟨k + 1, s', best, fo, Nat.succ_le_of_lt HLT.out, by go_num, rfl, rfl, HK.out.met HVOK.out HWK.out.1 HWK.out.2 HKL.out (by rw [<- HY.out.1]; exact HY.out.2.1) (by rw [<- HY.out.1]; exact HY.out.2.2) (by rw [<- HY.out.1]; exact HMK2.out), HS2.out, HB2.out, HX2.out⟩
          case measure => have := HLT.out; simp [intOf]; omega
    · have hzb : (z != 0) = true := by simp [hz]
      have HZ := Lib.hid hz
      clear hz
      go_wp2_with fail
      go_roundw
      case rel => exact ⟨k + 1, s, best, fo, Nat.succ_le_of_lt HLT.out, by go_num, rfl, rfl, HK.out.skip (by rw [HMK.out]; exact HZ.out), HS.out, HB.out, HX.out⟩
      case measure => have := HLT.out; simp [intOf]; omega
  · have hkk : k = ls.length := by omega
    have HD := Lib.hid (Marks.done HVOK.out (by rw [HVN.out, <- hkk]; exact HK.out))
    clear hkk
    cases fo with
    | false =>
      have HD1 := Lib.hid (HD.out.1 rfl)
      clear HD HK
      go_wp2_with fail
      go_ret2
      unfold LoopOut
      exact ⟨.slice none 0 0, [], false, rfl, .inl ⟨rfl, HD1.out⟩, by simp, ⟨rfl, .inl ⟨rfl, rfl⟩⟩, HX.out⟩
    | true =>
      have HD2 := Lib.hid (HD.out.2 rfl)
      clear HD HK
      obtain ⟨p, hp⟩ := HD2.out.1.per
      have HB0 := Lib.hid (show (0 : Int) <= best from HD2.out.1.1)
      have HP := Lib.hid hp
      clear hp
      go_wp2_with (first
       | (go_at_call 52; (with_reducible refine (netRound_any _ ls a best p _ (HL.out.later HX.out) HOK.out HM.out HB0.out HP.out).mono ?_); rintro e w3 ⟨v3, he, ho3, hx3⟩; subst he; have HO3 := Lib.hid ho3; have HX3 := Lib.hid hx3; clear ho3 hx3))
      go_ret2
      unfold LoopOut
      exact ⟨v3, wayV (vecV ls a) best p, true, rfl, .inr ⟨best, p, HD2.out, HP.out, rfl⟩, ⟨fun _ h => (by have := HP.out.pos; have h2 := wayV_len (vecV ls a) best p; rw [h] at h2; simp at h2; omega), fun _ => rfl⟩, own_low HO3.out HX.out.size, HX.out.trans HX3.out⟩
end Go.Proofs.YtdpmnldmbnpfpaaGreatDoor
