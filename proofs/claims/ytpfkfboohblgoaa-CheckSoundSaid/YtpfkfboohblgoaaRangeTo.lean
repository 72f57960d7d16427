/- A range over a function whose rounds are numbered, where the caller alone knows that they come to an end. Conditions: none. -/
import Derived.Test.YtpfkfboohblgoaaGNet
import Derived.RangeFuncNested
import Derived.RangeFuncBound
import Derived.RangeFuncCalls
import Derived.RangeFuncLeaves
import Derived.RangeFuncWrites
import Derived.Shelf.Abstract
import Derived.Shelf.RegionOpen
import Derived.WalkKit
import Derived.OwnWalkIn
import Derived.TacticsInMore
import Derived.LoopNIn
import Derived.LoopIn
namespace Go.Proofs.Ytpfkfboohblgoaa
open Go.RowKit Go.Shelf

theorem Ext.putObj {a w : World} (h : Ext a w) {l : Nat} (hl : a.heap.size ≤ l) (o : Obj) : Ext a (w.putObj l o) :=
  Below.trans h ((Below.refl a.heap.size w).grown (grownBy_putObj' w l o) h.size (fun k e => by cases e; exact hl))
/-- What is said of a world bears that there comes more, and that a block from L on that holds no cells is put anew. -/
structure Bears (L : Nat) (I : World → Prop) : Prop where
  later : ∀ A B, I A → Ext A B → I B
  put : ∀ A l o o', I A → L ≤ l → A.heap[l]? = some o → o.isCells = false → I (A.putObj l o')
theorem Bears.and {L : Nat} {I J : World → Prop} (h : Bears L I) (k : Bears L J) : Bears L fun W => I W ∧ J W :=
  ⟨fun A B hi hx => ⟨h.later A B hi.1 hx, k.later A B hi.2 hx⟩, fun A l o o' hi hl ho hc => ⟨h.put A l o o' hi.1 hl ho hc, k.put A l o o' hi.2 hl ho hc⟩⟩
theorem Bears.pure (L : Nat) (p : Prop) : Bears L fun _ => p := ⟨fun _ _ h _ => h, fun _ _ _ _ h _ _ _ => h⟩
theorem Bears.ex {α : Type} {L : Nat} {I : α → World → Prop} (h : ∀ x, Bears L (I x)) : Bears L fun W => ∃ x, I x W :=
  ⟨fun A B ⟨x, hx⟩ hX => ⟨x, (h x).later A B hx hX⟩, fun A l o o' ⟨x, hx⟩ hl ho hc => ⟨x, (h x).put A l o o' hx hl ho hc⟩⟩
theorem bears_ext {L : Nat} {w : World} (h : w.heap.size ≤ L) : Bears L fun W => Ext w W := ⟨fun _ _ h hx => h.trans hx, fun _ _ _ o' hx hl _ _ => hx.putObj (Nat.le_trans h hl) o'⟩
theorem bears_blk (L b : Nat) (cs : List Value) (T : TypeId) : Bears L fun W => Blk W b cs T :=
  ⟨fun _ _ h hx => h.later hx, fun A l o o' h _ ho hc => by
    have hne : b ≠ l := fun e => by
      unfold Blk at h
      rw [e, ho] at h
      cases h
      simp [Obj.isCells] at hc
    unfold Blk
    rw [World.putObj_heap_other hne]; exact h⟩
theorem bears_own (L B : Nat) (e : TypeId) (s : Nat) (v : Value) (n : Nat) (xs : List Value) : Bears L fun W => W.ownsRow B e s v n xs :=
  ⟨fun _ _ h hx => own_later h hx, fun _ _ _ _ h _ ho hc => ownsRow_putObj h _ ho hc⟩
theorem heap_setB {A : World} {p : Addr} {u : Value} {k : Nat} (h : p.block ≠ k) : (A.setCell p u).heap[k]? = A.heap[k]? := by
  simp [World.setCell, Array.getElem?_modify, h]
theorem Ext.heap {A B : World} (h : Ext A B) {k : Nat} (hk : k < A.heap.size) : B.heap[k]? = A.heap[k]? := h.block k hk
/-- The two blocks of a loop hold no cells. -/
def Held (L : Nat) (A : World) : Prop := (∃ o, A.heap[L]? = some o ∧ o.isCells = false) ∧ ∃ o, A.heap[L + 1]? = some o ∧ o.isCells = false
theorem Held.lt {L : Nat} {A : World} (h : Held L A) : L + 1 < A.heap.size := let ⟨_, h1, _⟩ := h.2; (Array.getElem?_eq_some_iff.1 h1).1
theorem Held.later {L : Nat} {A B : World} (h : Held L A) (hx : Ext A B) : B.heap[L]? = A.heap[L]? ∧ B.heap[L + 1]? = A.heap[L + 1]? :=
  ⟨hx.heap (Nat.lt_of_succ_lt h.lt), hx.heap h.lt⟩
theorem held_ne {L b : Nat} {A : World} {o : Obj} (h : A.heap[L]? = some o) (ho : o.isCells = false) {cs : List Value} {T : TypeId} (hb : Blk A b cs T) : b ≠ L := fun e => by
  unfold Blk at hb
  rw [e, h] at hb
  cases hb
  simp [Obj.isCells] at ho
theorem Held.set {L b : Nat} {A : World} (h : Held L A) {cs : List Value} {T : TypeId} (hb : Blk A b cs T) (i : Nat) (u : Value) : (A.setCell ⟨b, i, none⟩ u).heap[L]? = A.heap[L]? ∧ (A.setCell ⟨b, i, none⟩ u).heap[L + 1]? = A.heap[L + 1]? :=
  let ⟨⟨_, h1, h2⟩, ⟨_, h3, h4⟩⟩ := h
  ⟨heap_setB (held_ne h1 h2 hb), heap_setB (held_ne h3 h4 hb)⟩
theorem own_ne {A : World} {B : Nat} {e : TypeId} {s : Nat} {v : Value} {n : Nat} {xs : List Value} (ho : A.ownsRow B e s v n xs) {L : Nat} {o : Obj} (h : A.heap[L]? = some o) (hc : o.isCells = false) : some L ≠ v.ownBlock := fun he => by
  rcases ho.2 with ⟨rfl, _⟩ | ⟨g, cap, cur, rfl, _, hg, _⟩
  · simp [Value.ownBlock] at he
  · simp only [Value.ownBlock, Option.some.injEq] at he
    rw [he] at h
    rw [hg] at h
    cases h
    simp [Obj.isCells] at hc
theorem Held.grown {L : Nat} {A C : World} (h : Held L A) {B : Nat} {e : TypeId} {s : Nat} {v : Value} {n : Nat} {xs : List Value} (ho : A.ownsRow B e s v n xs) (hg : A.grownBy C v.ownBlock) : C.heap[L]? = A.heap[L]? ∧ C.heap[L + 1]? = A.heap[L + 1]? :=
  let ⟨⟨_, h1, h2⟩, ⟨_, h3, h4⟩⟩ := h
  ⟨hg.block L (Nat.lt_of_succ_lt h.lt) (own_ne ho h1 h2), hg.block (L + 1) h.lt (own_ne ho h3 h4)⟩
theorem Held.of_eq {L : Nat} {A C : World} (h : Held L A) (e : C.heap[L]? = A.heap[L]? ∧ C.heap[L + 1]? = A.heap[L + 1]?) : Held L C :=
  let ⟨⟨o, h1, h2⟩, ⟨q, h3, h4⟩⟩ := h
  ⟨⟨o, e.1.trans h1, h2⟩, q, e.2.trans h3, h4⟩
/-- How the body of a round may be left. -/
def toPost (L : Nat) (I : Nat → World → Prop) (Ix : Code → World → Prop) (k : Nat) (A : World) : Exit → Act → World → Prop
  | .normal, _, B => (B.heap[L]? = A.heap[L]? ∧ B.heap[L + 1]? = A.heap[L + 1]?) ∧ I (k + 1) B
  | .ret, _, B => (B.heap[L]? = A.heap[L]? ∧ B.heap[L + 1]? = A.heap[L + 1]?) ∧ Ix .ret B
  | .exit id, _, B => (B.heap[L]? = A.heap[L]? ∧ B.heap[L + 1]? = A.heap[L + 1]?) ∧ Ix (.exit id) B
  | .goto t, _, B => (B.heap[L]? = A.heap[L]? ∧ B.heap[L + 1]? = A.heap[L + 1]?) ∧ Ix (.goto t) B
  | .panic _, _, _ => False
  | .outgrown, _, _ => False
/-- What is asked of the iterator, for rounds that are numbered: they come to an end behind S, or are stopped. -/
def SeqTo (P : Program) (gf : Nat) (lb : Array Value) (xs : Nat → Value) (S : Nat → Prop) (I : Nat → World → Prop) : Prop :=
  ∀ (l : Nat) (J : Nat → World → Prop) (Jx : World → Prop) (W : World), (∀ k A, J k A → I k A) → (∀ k A B, J k A → Ext A B → J k B) → (∀ A B, Jx A → Ext A B → Jx B) →
    (∀ k A, J k A → ¬ S k → YieldAt Fence.wide 7 P l #[xs k] A fun e B => (e = .returned (.bool true) ∧ J (k + 1) B) ∨ (e = .returned (.bool false) ∧ Jx B)) → J 0 W →
    CallsIn Fence.wide 8 P gf (#[.func (.yield l) #[] #[]] ++ lb) W fun e B => (∃ v, e = .returned v) ∧ ((∃ k, S k ∧ J k B) ∨ Jx B)
theorem wp_range_to {P : Program} {g : Operand} {ps : Array Tmp} {assign body : Code} {Q : Exit → Act → World → Prop} {a : Act} {w : World} {gf : Nat} {lb : Array Value}
    (hg : a.eval g = .func (.func gf) #[] lb) (eg : ∀ args w, (callFunc gf args).run P w = .ok (.enter gf args) w) {xs : Nat → Value} {S : Nat → Prop} {I : Nat → World → Prop} (hps : ps.size = 1)
    (hseq : SeqTo P gf lb xs S I) (Ix : Code → World → Prop) (hI : ∀ k, Bears w.heap.size (I k)) (hIx : ∀ c, Bears w.heap.size (Ix c)) (h0 : I 0 w)
    (hround : ∃ a₁ : Nat → Act, (∀ (l k : Nat) (A : World) (K : Act → World → Prop), K (a₁ k) A →
      assign.wpIn (Fence.wide.inRound l) 7 P (Exit.then K (fun _ _ _ => False)) { tmps := (ps.zip #[xs k]).foldl (fun t (p, v) => t.setIfInBounds p v) a.tmps, defers := [] } A) ∧
      ∀ (l k : Nat) (A : World), Held w.heap.size A → I k A → ¬ S k → body.wpIn (Fence.wide.inRound l) 7 P (toPost w.heap.size I Ix k A) (a₁ k) A)
    (hdone : ∀ (k : Nat) (A : World), S k → I k A → A.heap[w.heap.size]? = some (.deferred (some [])) → Q .normal { a with defers := { target := .collected w.heap.size, args := #[] } :: a.defers } A)
    (hstop : ∀ (c : Code) (A : World), Ix c A → A.heap[w.heap.size]? = some (.deferred (some [])) → c.wp P Q { a with defers := { target := .collected w.heap.size, args := #[] } :: a.defers } A) :
    (Code.rangeFunc g ps assign body).wp P Q a w := by
  obtain ⟨a₁, hassign, hbody⟩ := hround
  refine (wpIn_wide (n := 9)).1 (wpIn_rangeFunc fun fn _ => ?_)
  obtain ⟨rec, hrec⟩ : ∃ rec : LoopState → Option Code → Loop, rec = fun st pe => { state := st, pending := pe, fn, tmps := a.tmps, params := ps, assign, body, defers := w.heap.size } := ⟨_, rfl⟩
  have hx1 : Ext w ((w.alloc (.deferred (some []))).alloc (.loop (rec .ready none))) := ((Ext.refl w).alloc _).alloc _
  have hl1 : ((w.alloc (.deferred (some []))).alloc (.loop (rec .ready none))).heap[w.heap.size + 1]? = some (.loop (rec .ready none)) := by
    have := World.alloc_heap_new (w.alloc (.deferred (some []))) (.loop (rec .ready none)); rwa [World.size_alloc] at this
  have hk1 : ((w.alloc (.deferred (some []))).alloc (.loop (rec .ready none))).heap[w.heap.size]? = some (.deferred (some [])) :=
    (Below.heap_alloc _ _ _ (by simp)).trans (World.alloc_heap_new w _)
  have he : (Instr.enterLoop fn a.tmps ps assign body Fence.wide.round).run P w = .ok (w.heap.size + 1, [{ target := .collected w.heap.size, args := #[] }]) ((w.alloc (.deferred (some []))).alloc (.loop (rec .ready none))) := by
    rw [hrec]; exact run_enterLoop_outer _ _ _ _ _
  generalize (w.alloc (.deferred (some []))).alloc (.loop (rec .ready none)) = W1 at hx1 hl1 hk1 he
  have keepR : ∀ {A B : World} {b : Nat} {o : Obj}, Ext A B → A.heap[b]? = some o → B.heap[b]? = some o := fun hx ho => (hx.block _ (Array.getElem?_eq_some_iff.1 ho).1).trans ho
  refine ⟨w.heap.size + 1, [{ target := .collected w.heap.size, args := #[] }], W1, { target := .fn (.func gf) lb, args := #[.func (.yield (w.heap.size + 1)) #[] #[]] }, W1, gf,
    #[.func (.yield (w.heap.size + 1)) #[] #[]] ++ lb, W1, he, ?_, fun _ _ => trivial, ?_, fun h => by simp [Fence.wide] at h, ?_⟩
  · simp only [resolve, hg]
    simp [go_sem]
  · simp [invoke, go_sem, eg]
  · refine (hseq (w.heap.size + 1)
      (fun k A => I k A ∧ A.heap[w.heap.size + 1]? = some (.loop (rec .ready none)) ∧ A.heap[w.heap.size]? = some (.deferred (some [])))
      (fun A => ∃ c, Ix c A ∧ A.heap[w.heap.size + 1]? = some (.loop (rec .done (some c))) ∧ A.heap[w.heap.size]? = some (.deferred (some [])))
      W1 (fun k A h => h.1) (fun k A B h hx => ⟨(hI k).later _ _ h.1 hx, keepR hx h.2.1, keepR hx h.2.2⟩)
      (fun A B ⟨c, h1, h2, h3⟩ hx => ⟨c, (hIx c).later _ _ h1 hx, keepR hx h2, keepR hx h3⟩) ?_ ⟨(hI 0).later _ _ h0 hx1, hl1, hk1⟩).mono ?_
    · rintro k A ⟨hi, hl, hk⟩ hs
      have hlt := (Array.getElem?_eq_some_iff.1 hl).1
      have hy := run_yield (P := P) (args := #[xs k]) hl (by rw [hrec]; exact hps.symm)
      rw [hrec] at hy
      refine ⟨fn, _, assign, body, hy, roundIn_of_wpIn trivial (hassign _ k A _ ⟨_, run_beginRound hl (by rw [hrec]), ?_⟩)⟩
      have hlb : (A.putObj (w.heap.size + 1) (.loop { rec .ready none with state := .busy })).heap[w.heap.size + 1]? = some (.loop { rec .ready none with state := .busy }) := World.putObj_heap_same hlt
      have hkb : (A.putObj (w.heap.size + 1) (.loop { rec .ready none with state := .busy })).heap[w.heap.size]? = some (.deferred (some [])) := (World.putObj_heap_other (by omega)).trans hk
      refine wpIn_mono (hbody _ k _ ⟨⟨_, hkb, rfl⟩, _, hlb, rfl⟩ ((hI k).put _ _ _ _ hi (by omega) hl rfl) hs) ?_
      have fin : ∀ (jump : Option Code) (B : World), B.heap[w.heap.size]? = (A.putObj (w.heap.size + 1) (.loop { rec .ready none with state := .busy })).heap[w.heap.size]? ∧ B.heap[w.heap.size + 1]? = (A.putObj (w.heap.size + 1) (.loop { rec .ready none with state := .busy })).heap[w.heap.size + 1]? →
          ∃ C, (Instr.endRound (w.heap.size + 1) jump).run P B = .ok (.bool jump.isNone) C ∧ C.heap[w.heap.size + 1]? = some (.loop (rec (if jump.isNone then .ready else .done) jump)) ∧ C.heap[w.heap.size]? = some (.deferred (some [])) ∧ ∀ J : World → Prop, Bears w.heap.size J → J B → J C := by
        rintro jump B ⟨g1, g2⟩
        rw [hkb] at g1
        rw [hlb] at g2
        have hr := run_endRound (P := P) jump g2
        refine ⟨_, hr, ?_, (World.putObj_heap_other (by omega)).trans g1, fun J hJ hj => hJ.put _ _ _ _ hj (by omega) g2 rfl⟩
        rw [World.putObj_heap_same (Array.getElem?_eq_some_iff.1 g2).1, hrec]
      rintro e a3 B hp
      cases e with
      | normal =>
        obtain ⟨g, hi3⟩ := hp
        obtain ⟨C, h1, h2, h3, h4⟩ := fin none B g
        exact ⟨_, C, h1, .inl ⟨rfl, h4 _ (hI _) hi3, h2, h3⟩⟩
      | ret =>
        obtain ⟨g, hi3⟩ := hp
        obtain ⟨C, h1, h2, h3, h4⟩ := fin (some .ret) B g
        exact ⟨_, C, h1, .inr ⟨rfl, .ret, h4 _ (hIx _) hi3, h2, h3⟩⟩
      | exit id =>
        obtain ⟨g, hi3⟩ := hp
        obtain ⟨C, h1, h2, h3, h4⟩ := fin (some (.exit id)) B g
        exact ⟨_, C, h1, .inr ⟨rfl, .exit id, h4 _ (hIx _) hi3, h2, h3⟩⟩
      | goto t =>
        obtain ⟨g, hi3⟩ := hp
        obtain ⟨C, h1, h2, h3, h4⟩ := fin (some (.goto t)) B g
        exact ⟨_, C, h1, .inr ⟨rfl, .goto t, h4 _ (hIx _) hi3, h2, h3⟩⟩
      | panic ch => exact hp.elim
      | outgrown => exact hp.elim
    · rintro e B ⟨⟨v, rfl⟩, (⟨k, hS, hi, hl, hk⟩ | ⟨c, hi, hl, hk⟩)⟩
      · exact ⟨none, _, by have := run_endLoop (P := P) hl (by rw [hrec]; simp); rw [hrec] at this; exact this, hdone k _ hS ((hI k).put _ _ _ _ hi (by omega) hl rfl) ((World.putObj_heap_other (by omega)).trans hk)⟩
      · exact ⟨some c, _, by have := run_endLoop (P := P) hl (by rw [hrec]; simp); rw [hrec] at this; exact this, wpIn_wide.2 (hstop c _ ((hIx c).put _ _ _ _ hi (by omega) hl rfl) ((World.putObj_heap_other (by omega)).trans hk))⟩
end Go.Proofs.Ytpfkfboohblgoaa
