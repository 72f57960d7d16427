/- Fit17, CutsNx: these texts in one. Conditions: each part names its own. -/
import Derived.Test.YtdpmnldmbnpfpaaGreatDoorGIns
import Derived.Test.YtdpmnldmbnpfpaaGreatDoorGCuts
import Derived.Test.YtdpmnldmbnpfpaaGreatDoorGReg
import Derived.Test.YtdpmnldmbnpfpaaGreatDoorGVec
/- Certificates of no loop that are made such as may be (the reference's Fit), and parts without ranks. Conditions: whole numbers are within 64 bits; no more ranks than the proved part takes. -/
namespace Go.Proofs.YtdpmnldmbnpfpaaGreatDoor
open Go.RowKit

theorem infoPart : (Tryz.prog.info? 59).map (fun i => (i.zero, i.size, i.bytes)) = some (some (.agg #[.int .u32 0, .int .u32 0, .slice none 0 0]), 3, 32) := by kernel_rfl
/-- What a part is to be: its ends and its ranks. -/
structure PrtV where
 fr : BitVec 32
 up : BitVec 32
 rk : List Int
/-- A row of parts of the call's own, their ranks too. -/
def OwnPR (w : World) (B : Nat) (v : Value) (qs : List PrtV) : Prop :=
 ∃ ps : List Prt, w.ownsRow B 59 3 v qs.length (pcells ps) /\ ps.length = qs.length /\ ∀ (i : Nat) (q : PrtV), qs[i]? = some q -> ∃ p, ps[i]? = some p /\ p.fr = q.fr /\ p.up = q.up /\ OwnI w B p.rk q.rk
theorem OwnPR.nil (w : World) (B : Nat) : OwnPR w B (.slice none 0 0) [] := ⟨[], ⟨by simp [pcells], .inl ⟨rfl, rfl⟩⟩, rfl, fun i q h => by cases h⟩
theorem OwnPR.later {w w' : World} {B : Nat} {v : Value} {qs : List PrtV} (h : OwnPR w B v qs) (hx : Ext w w') : OwnPR w' B v qs :=
 let ⟨ps, h1, h2, h3⟩ := h
 ⟨ps, own_later h1 hx, h2, fun i q hi => let ⟨p, g1, g2, g3, g4⟩ := h3 i q hi; ⟨p, g1, g2, g3, g4.later hx⟩⟩
theorem OwnPR.low {w : World} {B B' : Nat} {v : Value} {qs : List PrtV} (h : OwnPR w B v qs) (hB : B' <= B) : OwnPR w B' v qs :=
 let ⟨ps, h1, h2, h3⟩ := h
 ⟨ps, own_low h1 hB, h2, fun i q hi => let ⟨p, g1, g2, g3, g4⟩ := h3 i q hi; ⟨p, g1, g2, g3, own_low g4 hB⟩⟩
theorem OwnPR.app {w w' : World} {B : Nat} {v v' : Value} {qs : List PrtV} {q : PrtV} {p : Prt} {ps : List Prt} (hown : w.ownsRow B 59 3 v qs.length (pcells ps)) (hlen : ps.length = qs.length)
 (hqs : ∀ (i : Nat) (q : PrtV), qs[i]? = some q -> ∃ p, ps[i]? = some p /\ p.fr = q.fr /\ p.up = q.up /\ OwnI w B p.rk q.rk)
 (ho : w'.ownsRow B 59 3 v' (qs.length + 1) (pcells ps ++ p.cells)) (hg : w.grownBy w' v.ownBlock) (hp : p.fr = q.fr /\ p.up = q.up /\ OwnI w B p.rk q.rk) : OwnPR w' B v' (qs ++ [q]) := by
 have hk : ∀ {u : Value} {l : List Int}, OwnI w B u l -> OwnI w' B u l := fun {u l} h => own_apart h hown (by decide) hg
 refine ⟨ps ++ [p], by rw [List.length_append, pcells_app]; simpa [pcells] using ho, by simp [hlen], fun i r hi => ?_⟩
 rcases snoc_get hi with hi | ⟨rfl, rfl⟩
 · obtain ⟨x, g1, g2, g3, g4⟩ := hqs i r hi
   have hil := (List.getElem?_eq_some_iff.1 hi).1
   exact ⟨x, by rw [List.getElem?_append_left (by omega)]; exact g1, g2, g3, hk g4⟩
 · exact ⟨p, by rw [List.getElem?_append_right (by omega), hlen]; simp, hp.1, hp.2.1, hk hp.2.2⟩
theorem OwnPR.setCell {w : World} {B : Nat} {v : Value} {qs : List PrtV} (h : OwnPR w B v qs) {p : Addr} (hp : p.block < B) (x : Value) : OwnPR (w.setCell p x) B v qs :=
 let ⟨ps, h1, h2, h3⟩ := h
 ⟨ps, own_set h1 hp x, h2, fun i q hi => let ⟨p', g1, g2, g3, g4⟩ := h3 i q hi; ⟨p', g1, g2, g3, own_set g4 hp x⟩⟩
/-- The parts as they lie there. -/
theorem OwnPR.parts {w : World} {B : Nat} {v : Value} {qs : List PrtV} (h : OwnPR w B v qs) : ∃ ps : List Prt, OwnP w B v ps /\ ps.length = qs.length /\ ps.map (fun p => (p.fr, p.up)) = qs.map (fun q => (q.fr, q.up)) /\ ∀ (i : Nat) (q : PrtV), qs[i]? = some q -> ∃ p, ps[i]? = some p /\ OwnI w B p.rk q.rk := by
 obtain ⟨ps, h1, h2, h3⟩ := h
 refine ⟨ps, by unfold OwnP; rw [h2]; exact h1, h2, ?_, fun i q hi => let ⟨p, g1, _, _, g4⟩ := h3 i q hi; ⟨p, g1, g4⟩⟩
 refine List.ext_getElem (by simp [h2]) fun i hi hj => ?_
 simp only [List.length_map] at hi hj
 obtain ⟨p, g1, g2, g3, _⟩ := h3 i _ (List.getElem?_eq_getElem hj)
 rw [List.getElem?_eq_getElem hi] at g1
 cases g1
 simp [g2, g3]
/-- Ranks, over and over. -/
def rankN (ranks : List Int) (j : Nat) : Int := if 0 < ranks.length then ranks.getD (j % ranks.length) 0 else 0
def fitRk (n : Nat) (x : Int) : Int := (x.tmod n + n).tmod n
def rowRk (n : Nat) (ranks : List Int) (i : Nat) : List Int := (List.range n).map fun k => fitRk n (rankN ranks (i * n + k))
def partsF (L : List (BitVec 32)) (n : Nat) (ranks : List Int) : List PrtV := (List.range L.length).map fun i => ⟨L.getD i 0#32, endV L i, rowRk n ranks i⟩
theorem blk_grownT {w w' : World} {b : Nat} {cs : List Value} {T e : TypeId} {B s n : Nat} {v : Value} {xs : List Value} (hb : Blk w b cs T) (ho : w.ownsRow B e s v n xs) (hT : T ≠ e) (hg : w.grownBy w' v.ownBlock) : Blk w' b cs T := by
 have h1 := hg.block b hb.lt (blk_row hb ho hT)
 unfold Blk at *
 rw [h1]; exact hb
/-- The ranks of the first parts, one behind the other. -/
def ranksF (rs : List (List Int)) : List Int := (rs.take 12).flatten
end Go.Proofs.YtdpmnldmbnpfpaaGreatDoor

/- Plain laws of rising rows: which interval a cut and an end are in, and what comes next. Conditions: none. -/
namespace Go.Proofs.YtdpmnldmbnpfpaaGreatDoor
open Go.RowKit

theorem atN_eq {l : List (BitVec 32)} (hr : Rising l) {a : BitVec 32} {m : Nat} (hm : m < l.length) (h1 : uv l[m] <= uv a) (h2 : ∀ h : m + 1 < l.length, uv a < uv l[m + 1]) : atN l a = m + 1 := by
 have hle := atN_le l a
 rcases Nat.lt_or_ge m (atN l a) with g | g
 · rcases Nat.lt_or_ge (m + 1) (atN l a) with g2 | g2
   · have := atN_lt g2 (by omega)
     have := h2 (by omega)
     omega
   · omega
 · have h3 := atN_end (l := l) (a := a) (by omega)
   have h4 := hr.le g hm
   omega
theorem end_ge {l : List (BitVec 32)} (hr : Rising l) {k : Nat} (hk : k < l.length) : uv l[k] <= uv (endV l k) := by
 by_cases h : k + 1 < l.length
 · rw [end_pos hr h]
   have := hr.lt (show k < k + 1 by omega) h
   omega
 · rw [end_top h, uv_top]
   have := (uv_bd l[k]).2
   omega
theorem atN_high {l : List (BitVec 32)} (hr : Rising l) {k : Nat} (hk : k < l.length) : atN l (endV l k) = k + 1 := atN_eq hr hk (end_ge hr hk) (fun h => by rw [end_pos hr h]; omega)
/-- What comes next. -/
def nxt (l : List (BitVec 32)) (k : Nat) : Int := if h : k < l.length then uv l[k] else 4294967296
theorem nxt_at {l : List (BitVec 32)} {k : Nat} (h : k < l.length) : nxt l k = uv l[k] := by unfold nxt; rw [dif_pos h]
theorem nxt_step {l : List (BitVec 32)} (hr : Rising l) {k : Nat} : nxt l (k + 1) = uv (endV l k) + 1 := by
 unfold nxt
 by_cases h : k + 1 < l.length
 · rw [dif_pos h, end_pos hr h]; omega
 · rw [dif_neg h, end_top h, uv_top]; rfl
end Go.Proofs.YtdpmnldmbnpfpaaGreatDoor
