/- RangeTo, RoundR, NetSteps, NetWalk, NetRound, NetBack, NetLoop: these texts in one. Conditions: each part names its own. -/
import Derived.Test.YtdpmnldmbnpfpaaGreatDoorGNet
import Derived.RangeFuncNested
import Derived.RangeFuncBound
import Derived.RangeFuncCalls
import Derived.RangeFuncLeaves
import Derived.RangeFuncWrites
import Derived.Shelf.Abstract
import Derived.Shelf.RegionOpen
import Derived.WalkKit
import Derived.OwnWalkIn
import Derived.TacticsInMore
import Derived.LoopNIn
import Derived.LoopIn
import Derived.Test.YtdpmnldmbnpfpaaGreatDoorGPl
import Derived.Test.YtdpmnldmbnpfpaaGreatDoorGNetP
import Derived.Deep.LoopGhost
import Derived.Maps.OwnIn
import Derived.Maps.AppendAt
/- A range over a function whose rounds are numbered, where the caller alone knows that they come to an end. Conditions: none. -/
namespace Go.Proofs.YtdpmnldmbnpfpaaGreatDoor
open Go.RowKit Go.Shelf

theorem Ext.putObj {a w : World} (h : Ext a w) {l : Nat} (hl : a.heap.size <= l) (o : Obj) : Ext a (w.putObj l o) :=
 Below.trans h ((Below.refl a.heap.size w).grown (grownBy_putObj' w l o) h.size (fun k e => by cases e; exact hl))
/-- What is said of a world bears that there comes more, and that a block from L on that holds no cells is put anew. -/
structure Bears (L : Nat) (I : World -> Prop) : Prop where
 later : ∀ A B, I A -> Ext A B -> I B
 put : ∀ A l o o', I A -> L <= l -> A.heap[l]? = some o -> o.isCells = false -> I (A.putObj l o')
theorem Bears.and {L : Nat} {I J : World -> Prop} (h : Bears L I) (k : Bears L J) : Bears L fun W => I W /\ J W :=
 ⟨fun A B hi hx => ⟨h.later A B hi.1 hx, k.later A B hi.2 hx⟩, fun A l o o' hi hl ho hc => ⟨h.put A l o o' hi.1 hl ho hc, k.put A l o o' hi.2 hl ho hc⟩⟩
theorem Bears.ex {α : Type} {L : Nat} {I : α -> World -> Prop} (h : ∀ x, Bears L (I x)) : Bears L fun W => ∃ x, I x W :=
 ⟨fun A B ⟨x, hx⟩ hX => ⟨x, (h x).later A B hx hX⟩, fun A l o o' ⟨x, hx⟩ hl ho hc => ⟨x, (h x).put A l o o' hx hl ho hc⟩⟩
theorem heap_setB {A : World} {p : Addr} {u : Value} {k : Nat} (h : p.block ≠ k) : (A.setCell p u).heap[k]? = A.heap[k]? := by
 simp [World.setCell, Array.getElem?_modify, h]
theorem Ext.heap {A B : World} (h : Ext A B) {k : Nat} (hk : k < A.heap.size) : B.heap[k]? = A.heap[k]? := h.block k hk
/-- The two blocks of a loop hold no cells. -/
def Held (L : Nat) (A : World) : Prop := (∃ o, A.heap[L]? = some o /\ o.isCells = false) /\ ∃ o, A.heap[L + 1]? = some o /\ o.isCells = false
theorem Held.lt {L : Nat} {A : World} (h : Held L A) : L + 1 < A.heap.size := let ⟨_, h1, _⟩ := h.2; (Array.getElem?_eq_some_iff.1 h1).1
theorem Held.later {L : Nat} {A B : World} (h : Held L A) (hx : Ext A B) : B.heap[L]? = A.heap[L]? /\ B.heap[L + 1]? = A.heap[L + 1]? :=
 ⟨hx.heap (Nat.lt_of_succ_lt h.lt), hx.heap h.lt⟩
theorem held_ne {L b : Nat} {A : World} {o : Obj} (h : A.heap[L]? = some o) (ho : o.isCells = false) {cs : List Value} {T : TypeId} (hb : Blk A b cs T) : b ≠ L := fun e => by
 unfold Blk at hb
 rw [e, h] at hb
 cases hb
 simp [Obj.isCells] at ho
theorem Held.set {L b : Nat} {A : World} (h : Held L A) {cs : List Value} {T : TypeId} (hb : Blk A b cs T) (i : Nat) (u : Value) : (A.setCell ⟨b, i, none⟩ u).heap[L]? = A.heap[L]? /\ (A.setCell ⟨b, i, none⟩ u).heap[L + 1]? = A.heap[L + 1]? :=
 let ⟨⟨_, h1, h2⟩, ⟨_, h3, h4⟩⟩ := h
 ⟨heap_setB (held_ne h1 h2 hb), heap_setB (held_ne h3 h4 hb)⟩
theorem own_ne {A : World} {B : Nat} {e : TypeId} {s : Nat} {v : Value} {n : Nat} {xs : List Value} (ho : A.ownsRow B e s v n xs) {L : Nat} {o : Obj} (h : A.heap[L]? = some o) (hc : o.isCells = false) : some L ≠ v.ownBlock := fun he => by
 rcases ho.2 with ⟨rfl, _⟩ | ⟨g, cap, cur, rfl, _, hg, _⟩
 · simp [Value.ownBlock] at he
 · simp only [Value.ownBlock, Option.some.injEq] at he
   rw [he] at h
   rw [hg] at h
   cases h
   simp [Obj.isCells] at hc
theorem Held.grown {L : Nat} {A C : World} (h : Held L A) {B : Nat} {e : TypeId} {s : Nat} {v : Value} {n : Nat} {xs : List Value} (ho : A.ownsRow B e s v n xs) (hg : A.grownBy C v.ownBlock) : C.heap[L]? = A.heap[L]? /\ C.heap[L + 1]? = A.heap[L + 1]? :=
 let ⟨⟨_, h1, h2⟩, ⟨_, h3, h4⟩⟩ := h
 ⟨hg.block L (Nat.lt_of_succ_lt h.lt) (own_ne ho h1 h2), hg.block (L + 1) h.lt (own_ne ho h3 h4)⟩
/-- How the body of a round may be left. -/
def toPost (L : Nat) (I : Nat -> World -> Prop) (Ix : Code -> World -> Prop) (k : Nat) (A : World) : Exit -> Act -> World -> Prop
 | .normal, _, B => (B.heap[L]? = A.heap[L]? /\ B.heap[L + 1]? = A.heap[L + 1]?) /\ I (k + 1) B
 | .ret, _, B => (B.heap[L]? = A.heap[L]? /\ B.heap[L + 1]? = A.heap[L + 1]?) /\ Ix .ret B
 | .exit id, _, B => (B.heap[L]? = A.heap[L]? /\ B.heap[L + 1]? = A.heap[L + 1]?) /\ Ix (.exit id) B
 | .goto t, _, B => (B.heap[L]? = A.heap[L]? /\ B.heap[L + 1]? = A.heap[L + 1]?) /\ Ix (.goto t) B
 | .panic _, _, _ => False
 | .outgrown, _, _ => False
/-- What is asked of the iterator, for rounds that are numbered: they come to an end behind S, or are stopped. -/
def SeqTo (P : Program) (gf : Nat) (lb : Array Value) (xs : Nat -> Value) (S : Nat -> Prop) (I : Nat -> World -> Prop) : Prop :=
 ∀ (l : Nat) (J : Nat -> World -> Prop) (Jx : World -> Prop) (W : World), (∀ k A, J k A -> I k A) -> (∀ k A B, J k A -> Ext A B -> J k B) -> (∀ A B, Jx A -> Ext A B -> Jx B) ->
   (∀ k A, J k A -> ¬ S k -> YieldAt Fence.wide 7 P l #[xs k] A fun e B => (e = .returned (.bool true) /\ J (k + 1) B) \/ (e = .returned (.bool false) /\ Jx B)) -> J 0 W ->
   CallsIn Fence.wide 8 P gf (#[.func (.yield l) #[] #[]] ++ lb) W fun e B => (∃ v, e = .returned v) /\ ((∃ k, S k /\ J k B) \/ Jx B)
end Go.Proofs.YtdpmnldmbnpfpaaGreatDoor

/- Region3's walk of a statement whose order is open, inside a round of a range over a function. Conditions: no operation of the statement is a defer. -/
namespace Go.Proofs.YtdpmnldmbnpfpaaGreatDoor
open Go.RowKit

/-- Only the way on. -/
def OnN (Q : Exit -> Act -> World -> Prop) : Exit -> Act -> World -> Prop := fun e a w => e = .normal /\ Q e a w
section
variable {P : Program} {ops : Array Oper} {Q : Exit -> Act -> World -> Prop} {l m : Nat}
def noDefer : Op -> Bool
 | .defer _ => false
 | _ => true
end
end Go.Proofs.YtdpmnldmbnpfpaaGreatDoor

/- network.steps: the nodes behind a node, one after the other. Conditions: whole numbers are within 64 bits. -/
namespace Go.Proofs.YtdpmnldmbnpfpaaGreatDoor
open Go.RowKit Go.Shelf
attribute [local go_sem] Oper.semAt_some

/-- What the iterator reads. -/
structure StepBox (A : World) (nb ab vb : Nat) (lv : Value) (ls : List (List Rul)) (a : BitVec 32) (x : Int) : Prop where
 net : Blk A nb [lv] 39
 addr : Blk A ab [U a] 23
 node : Blk A vb [I x] 3
 tab : TablesAt A lv ls
def stR (ls : List (List Rul)) (a : BitVec 32) (x : Int) (M : Nat) (J : Nat -> World -> Prop) (n : Nat) (wv okv : Value) (wr : World) : Prop :=
 ∃ k : Nat, n = M - k /\ wv = I ((stepN ls a (itv (vecV ls a) k x)).getD 0) /\ okv = .bool (stepN ls a (itv (vecV ls a) k x)).isSome /\ J k wr
end Go.Proofs.YtdpmnldmbnpfpaaGreatDoor

/- network.Walk: the node that so many steps lead to. Conditions: whole numbers are within 64 bits. -/
namespace Go.Proofs.YtdpmnldmbnpfpaaGreatDoor
open Go.RowKit Go.Shelf
attribute [local go_sem] Oper.semAt_some

end Go.Proofs.YtdpmnldmbnpfpaaGreatDoor

/- network.round: the nodes of a loop, from one of them on. Conditions: whole numbers are within 64 bits. -/
namespace Go.Proofs.YtdpmnldmbnpfpaaGreatDoor
open Go.RowKit Go.Shelf
attribute [local go_sem] Oper.semAt_some

theorem own_setB {W : World} {B : Nat} {e : TypeId} {s : Nat} {v : Value} {n : Nat} {xs : List Value} (h : W.ownsRow B e s v n xs) {b : Nat} {cs : List Value} {T : TypeId} (hb : Blk W b cs T) (hT : T ≠ e) (i : Nat) (u : Value) : (W.setCell ⟨b, i, none⟩ u).ownsRow B e s v n xs := by
 obtain ⟨h0, h1⟩ := h
 refine ⟨h0, ?_⟩
 rcases h1 with h1 | ⟨g, cap, cur, h1, h2, h3, h4⟩
 · exact .inl h1
 · refine .inr ⟨g, cap, cur, h1, h2, ?_, h4⟩
   rw [heap_setB (by
    intro e'
    unfold Blk at hb
    have e2 : b = g := e'
    rw [e2, h3] at hb
    cases hb
    exact hT rfl)]
   exact h3
end Go.Proofs.YtdpmnldmbnpfpaaGreatDoor

/- network.back: a walk that marks the nodes that it comes by. Conditions: whole numbers are within 64 bits. -/
namespace Go.Proofs.YtdpmnldmbnpfpaaGreatDoor
open Go.RowKit Go.Shelf
attribute [local go_sem] Oper.semAt_some

/-- What a walk tells, and what it leaves. -/
def BackIs (v : List Int) (u : Nat) (s s' : List Int) (k : Nat) (y : Int) (ok : Bool) : Prop :=
 Wlk v u s s' k /\ 0 < k /\ ((itv v k u = -1 /\ y = 0 /\ ok = false) \/ (y = itv v k u /\ isN v y /\ mkv s' y ≠ 0 /\ ok = (mkv s' y == (u : Int) + 1)))
end Go.Proofs.YtdpmnldmbnpfpaaGreatDoor

/- network.Loop: where an address goes round. Conditions: whole numbers are within 64 bits. -/
namespace Go.Proofs.YtdpmnldmbnpfpaaGreatDoor
open Go.RowKit Go.Shelf

theorem minOf_mem : ∀ {zs : List Int} {k : Nat}, 0 < k -> k <= zs.length -> Lib.minOf (zs.take k) ∈ zs.take k
 | zs, 1, _, h => by
   rw [Lib.minOf_one]
   cases zs with
   | nil => simp at h
   | cons z t => simp
 | zs, k + 2, _, h => by
   rw [Lib.minOf_step zs (k + 1) (Nat.succ_pos k) (by omega)]
   have ih := minOf_mem (zs := zs) (k := k + 1) (Nat.succ_pos k) (by omega)
   have hs : zs.take (k + 2) = zs.take (k + 1) ++ [zs.getD (k + 1) 0] := by
    rw [List.take_succ_eq_append_getElem (by omega), List.getD_eq_getElem?_getD, List.getElem?_eq_getElem (by omega)]; rfl
   rw [hs, List.mem_append, List.mem_singleton]
   rcases Int.le_total (Lib.minOf (zs.take (k + 1))) (zs.getD (k + 1) 0) with g | g
   · rw [Int.min_eq_left g]; exact .inl ih
   · rw [Int.min_eq_right g]; exact .inr rfl
theorem minOf_le : ∀ {zs : List Int} {k : Nat}, 0 < k -> k <= zs.length -> ∀ z ∈ zs.take k, Lib.minOf (zs.take k) <= z
 | zs, 1, _, h, z, hz => by
   rw [Lib.minOf_one]
   cases zs with
   | nil => simp at h
   | cons y t => simp at hz; simp [hz]
 | zs, k + 2, _, h, z, hz => by
   rw [Lib.minOf_step zs (k + 1) (Nat.succ_pos k) (by omega)]
   have ih := minOf_le (zs := zs) (k := k + 1) (Nat.succ_pos k) (by omega)
   have hs : zs.take (k + 2) = zs.take (k + 1) ++ [zs.getD (k + 1) 0] := by
    rw [List.take_succ_eq_append_getElem (by omega), List.getD_eq_getElem?_getD, List.getElem?_eq_getElem (by omega)]; rfl
   rw [hs, List.mem_append, List.mem_singleton] at hz
   rcases hz with hz | hz
   · exact Int.le_trans (Int.min_le_left _ _) (ih z hz)
   · rw [hz]; exact Int.min_le_right _ _
theorem minOf_all {zs : List Int} (h : 0 < zs.length) : Lib.minOf (zs.take zs.length) ∈ zs /\ ∀ z ∈ zs, Lib.minOf (zs.take zs.length) <= z := by
 have h1 := minOf_mem h (Nat.le_refl _)
 have h2 := minOf_le h (Nat.le_refl _)
 rw [List.take_length] at *
 exact ⟨h1, h2⟩
theorem minInts_any (u : Value) (l : List Int) (w : World) (h : IntsAt w u l) (hl : 0 < l.length) (hb : l.length <= 9223372036854775807) :
 Calls Tryz.prog 51 #[u] w fun e w' => e = .returned (I (Lib.minOf (l.take l.length))) /\ w' = w := by
 obtain ⟨a, cap, rfl, a1, a2, a3⟩ := h.form
 obtain ⟨b, o, he, -⟩ := a3 0 _ (List.getElem?_eq_getElem hl)
 subst he
 refine Tryz.slices_Min_int b o l.length cap l w hl (Nat.le_refl _) hb fun j hj => ?_
 obtain ⟨b', o', he, hc⟩ := a3 j _ (List.getElem?_eq_getElem hj)
 cases he
 rw [hc, List.getD_eq_getElem?_getD, List.getElem?_eq_getElem hj]; rfl
/-- What network.Loop tells. -/
def LoopOut (v : List Int) (w : World) (e : Ending) (w' : World) : Prop :=
 ∃ (u : Value) (l : List Int) (b : Bool), e = .returned (.tuple #[u, .bool b]) /\ LoopIs v l /\ (b = true ↔ l ≠ []) /\ OwnI w' w.heap.size u l /\ Ext w w'
end Go.Proofs.YtdpmnldmbnpfpaaGreatDoor
