/- R16P, R16Of, R16OfG, AtomsAny, AtomsL: these texts in one. Conditions: each part names its own. -/
import Derived.Test.YtdpmnldmbnpfpaaGreatDoorGAtA
import Derived.Test.YtdpmnldmbnpfpaaGreatDoorGAtB
import Derived.Test.YtdpmnldmbnpfpaaGreatDoorGIns
import Derived.Test.YtdpmnldmbnpfpaaGreatDoorGVecC
import Derived.Test.YtdpmnldmbnpfpaaGreatDoorGFit17
/- Plain laws for the reference's atoms. Conditions: none. -/
namespace Go.Proofs.YtdpmnldmbnpfpaaGreatDoor
open Go Go.RowKit Go.Maps Go.Proofs

theorem idxV_at {vs : List (List Int)} (hn : vs.Nodup) {j : Nat} (hj : j < vs.length) : idxV vs vs[j] = j := by
 have hm : vs[j] ∈ vs := List.getElem_mem hj
 have hlt := idxV_in.1 hm
 have he := idxV_get hlt
 exact (List.getElem_inj hn).1 he
/-- The vector of the last place. -/
def WasOk (s : Ats) (was : List Int) : Prop := ∃ j : Nat, s.last = (j : Int) /\ s.vs[j]? = some was
theorem was_iff {s : Ats} (h : AtsOk s) {was : List Int} (hw : WasOk s was) (u : List Int) : u = was ↔ s.last = (idxV s.vs u : Int) := by
 obtain ⟨j, h1, h2⟩ := hw
 obtain ⟨hj, rfl⟩ := List.getElem?_eq_some_iff.1 h2
 rw [h1]
 constructor
 · rintro rfl
   rw [idxV_at h.nodup hj]
 · intro e
   have e' : idxV s.vs u = j := by omega
   have hlt : idxV s.vs u < s.vs.length := by omega
   have := idxV_get hlt
   simp only [e'] at this
   exact this.symm
theorem was_step {vec : BitVec 32 -> List Int} {s : Ats} {a : BitVec 32} (h : s.last ≠ (idxV s.vs (vec a) : Int)) : WasOk (atStep vec s a) (vec a) := by
 unfold atStep
 rw [if_neg h]
 refine ⟨idxV s.vs (vec a), last_snoc _ _ _ _, ?_⟩
 by_cases hm : vec a ∈ s.vs
 · have hlt := idxV_in.1 hm
   simp only [if_pos hm]
   rw [List.getElem?_eq_getElem hlt, idxV_get hlt]
 · simp only [if_neg hm]
   rw [idxV_out hm]
   simp
end Go.Proofs.YtdpmnldmbnpfpaaGreatDoor

/- theseusref16.Of. Conditions: whole numbers are within 64 bits. -/
namespace Go.Proofs.YtdpmnldmbnpfpaaGreatDoor
open Go Go.RowKit Go.Maps Go.Proofs

/-- What holds in a round of the reference's: the atoms so far in their box; all else below B as it was. -/
structure RnR (w2 w4 : World) (xb B : Nat) (s : Ats) (fv hv vv : Value) (w : World) : Prop where
 ats : AtS w B s fv hv vv
 box : Blk w xb [fv, hv, vv] 139
 low : xb < B
 x2 : w2.heap.size <= xb
 ext : Ext w2 w
 sz : B <= w.heap.size
 same : ∀ b, b < B -> b ≠ xb -> w.heap[b]? = w4.heap[b]?
theorem RnR.later {w2 w4 w w' : World} {xb B : Nat} {fv hv vv : Value} {s : Ats} (h : RnR w2 w4 xb B s fv hv vv w) (hx : Ext w w') : RnR w2 w4 xb B s fv hv vv w' :=
 ⟨h.ats.later hx, h.box.later hx, h.low, h.x2, h.ext.trans hx, Nat.le_trans h.sz hx.size, fun b hb hne => by have := h.sz; rw [Below.block hx b (by omega)]; exact h.same b hb hne⟩
theorem RnR.cell {w2 w4 w : World} {xb B : Nat} {fv hv vv : Value} {s : Ats} (h : RnR w2 w4 xb B s fv hv vv w) {p : Addr} {v : Value} (hp : p.block < B) (hne : p.block ≠ xb) (hc : w4.cell? p = some v) : w.cell? p = some v := by
 rw [World.cell?_of_block (h.same p.block hp hne)]; exact hc
theorem RnR.stored {w2 w4 w w' : World} {xb B : Nat} {fv hv vv fv' hv' vv' x : Value} {s s' : Ats} {r : Option Nat} {j : Nat} (h : RnR w2 w4 xb B s fv hv vv w)
 (hg : w.grownBy w' r) (hr : ∀ g, r = some g -> B <= g) (ha : AtS w' B s' fv' hv' vv') (hb : [fv, hv, vv].set j x = [fv', hv', vv']) : RnR w2 w4 xb B s' fv' hv' vv' (w'.setCell ⟨xb, j, none⟩ x) := by
 have hl := h.low
 have h2 := h.x2
 have hz := h.sz
 refine ⟨ha.setCell h.low x, ?_, hl, h2, (Below.grown h.ext hg h.ext.size (fun g e => by have := hr g e; omega)).setCell h2 x, by have := hg.size; simp; omega, fun b hb' hne => ?_⟩
 · rw [<- hb]
   exact (blk_grown h.box (fun g e => by have := hr g e; omega) hg).set j x
 · rw [(grown_set w' ⟨xb, j, none⟩ x).block b (by have := hg.size; omega) (fun e => hne (Option.some.inj e)), hg.block b (by omega) (fun e => by have := hr b e.symm; omega)]
   exact h.same b hb' hne
theorem RnR.addFr {w2 w4 w w' : World} {xb B : Nat} {fv hv vv v' : Value} {s : Ats} {a : BitVec 32} (h : RnR w2 w4 xb B s fv hv vv w)
 (ho : w'.ownsRow B 23 1 v' (s.fr.length + 1) (ucells s.fr ++ [U a])) (hg : w.grownBy w' fv.ownBlock) : RnR w2 w4 xb B ⟨s.fr ++ [a], s.wh, s.vs⟩ v' hv vv (w'.setCell ⟨xb, 0, none⟩ v') :=
 h.stored hg (own_ge h.ats.fr) (h.ats.addFr ho hg) rfl
theorem RnR.addWh {w2 w4 w w' : World} {xb B : Nat} {fv hv vv v' : Value} {s : Ats} {k : Int} (h : RnR w2 w4 xb B s fv hv vv w)
 (ho : w'.ownsRow B 3 1 v' (s.wh.length + 1) (icells s.wh ++ [I k])) (hg : w.grownBy w' hv.ownBlock) (hloc : v'.ownBlock = hv.ownBlock \/ v'.ownBlock = some w.heap.size) :
 RnR w2 w4 xb B ⟨s.fr, s.wh ++ [k], s.vs⟩ fv v' vv (w'.setCell ⟨xb, 1, none⟩ v') :=
 h.stored hg (own_ge h.ats.wh) (h.ats.addWh ho hg hloc) rfl
theorem RnR.addVs {w2 w4 w w' : World} {xb B : Nat} {fv hv vv v' y : Value} {s : Ats} {u : List Int} {vals : List Value} (h : RnR w2 w4 xb B s fv hv vv w)
 (hy : OwnI w B y u) (hfar : ∀ g, hv.ownBlock = some g -> y.ownBlock ≠ some g) (h1 : w.ownsRow B 47 1 vv s.vs.length vals)
 (h2 : ∀ (i : Nat) (m : List Int), s.vs[i]? = some m -> ∃ x, vals[i]? = some x /\ OwnI w B x m /\ ∀ g, hv.ownBlock = some g -> x.ownBlock ≠ some g)
 (ho : w'.ownsRow B 47 1 v' (s.vs.length + 1) (vals ++ [y])) (hg : w.grownBy w' vv.ownBlock) : RnR w2 w4 xb B ⟨s.fr, s.wh, s.vs ++ [u]⟩ fv hv v' (w'.setCell ⟨xb, 2, none⟩ v') :=
 h.stored hg (own_ge h1) (AtS.addVs' h.ats hy hfar h1 h2 ho hg) rfl
end Go.Proofs.YtdpmnldmbnpfpaaGreatDoor

/- theseusref16.Of of a network that may be. Conditions: whole numbers are within 64 bits. -/
namespace Go.Proofs.YtdpmnldmbnpfpaaGreatDoor
open Go Go.RowKit Go.Maps Go.Proofs

end Go.Proofs.YtdpmnldmbnpfpaaGreatDoor

/- atoms.Of and theseusref16.Of of any network. Conditions: whole numbers are within 64 bits. -/
namespace Go.Proofs.YtdpmnldmbnpfpaaGreatDoor
open Go Go.RowKit Go.Maps Go.Proofs

/-- These are a network's atoms: none, if it may not be. -/
def IsAts (ls : List (List Rul)) (s : Ats) : Prop := (netMayV ls = 0 /\ ∃ l, Cuts ls.flatten l /\ s = atomsL (vecV ls) l) \/ (netMayV ls ≠ 0 /\ s = Ats.nil)
theorem IsAts.one {ls : List (List Rul)} {s s' : Ats} (h : IsAts ls s) (h' : IsAts ls s') : s = s' := by
 rcases h with ⟨h0, l, hC, rfl⟩ | ⟨h0, rfl⟩
 · rcases h' with ⟨_, l', hC', rfl⟩ | ⟨h1, _⟩
   · rw [Cuts.at hC hC']
   · exact absurd h0 h1
 · rcases h' with ⟨h1, _⟩ | ⟨_, rfl⟩
   · exact absurd h1 h0
   · rfl
end Go.Proofs.YtdpmnldmbnpfpaaGreatDoor

/- Plain laws of atoms: where they begin, which vector each has, in which order these come. Conditions: none. -/
namespace Go.Proofs.YtdpmnldmbnpfpaaGreatDoor
open Go Go.RowKit Go.Maps Go.Proofs

/-- The greatest place so far. -/
def mxW (l : List Int) : Int := l.foldl max (-1)
theorem mxW_snoc (l : List Int) (x : Int) : mxW (l ++ [x]) = max (mxW l) x := by unfold mxW; simp
structure AtInv (vec : BitVec 32 -> List Int) (s : Ats) (l : List (BitVec 32)) : Prop where
 ok : AtsOk s
 sub : s.fr.Sublist l
 was : ∀ c, l.getLast? = some c -> WasOk s (vec c)
 place : ∀ (j : Nat) (c : BitVec 32), s.fr[j]? = some c -> ∃ i : Nat, s.wh[j]? = some (i : Int) /\ s.vs[i]? = some (vec c)
 diff : ∀ (j : Nat) (x : Int), s.wh[j]? = some x -> s.wh[j + 1]? ≠ some x
 each : ∀ c ∈ l, ∃ (j : Nat) (d : BitVec 32), s.fr[j]? = some d /\ uv d <= uv c /\ vec d = vec c /\ ∀ d', s.fr[j + 1]? = some d' -> uv c < uv d'
 ord : ∀ (j : Nat) (x : Int), s.wh[j]? = some x -> x <= mxW (s.wh.take j) + 1
 mx : mxW s.wh = (s.vs.length : Int) - 1
theorem AtInv.nil (vec : BitVec 32 -> List Int) : AtInv vec Ats.nil [] :=
 ⟨AtsOk.nil, List.Sublist.refl _, fun c h => (by cases h), fun j c h => (by cases h), fun j x h => (by cases h), fun c h => (by cases h), fun j x h => (by cases h), rfl⟩
theorem rising_snoc {l : List (BitVec 32)} {a : BitVec 32} (h : Rising (l ++ [a])) : Rising l /\ ∀ c ∈ l, uv c < uv a := by
 unfold Rising at *
 rw [List.pairwise_append] at h
 exact ⟨h.1, fun c hc => h.2.2 c hc a (by simp)⟩
theorem AtInv.step {vec : BitVec 32 -> List Int} {s : Ats} {l : List (BitVec 32)} {a : BitVec 32} (h : AtInv vec s l) (hr : Rising (l ++ [a])) (hn : l = [] -> s = Ats.nil) : AtInv vec (atStep vec s a) (l ++ [a]) := by
 obtain ⟨hrl, hlt⟩ := rising_snoc hr
 have hok := h.ok.step vec a
 by_cases hs : s.last = (idxV s.vs (vec a) : Int)
 · have e : atStep vec s a = s := by unfold atStep; rw [if_pos hs]
   rw [e] at hok ⊢
   have hne : l ≠ [] := by
    intro e0
    rw [hn e0] at hs
    have : Ats.nil.last = -1 := rfl
    omega
   have hgl : l.getLast? = some (l.getLast hne) := List.getLast?_eq_some_getLast hne
   have hmem : l.getLast hne ∈ l := List.getLast_mem hne
   have hw := h.was _ hgl
   have hva : vec a = vec (l.getLast hne) := (was_iff h.ok hw (vec a)).2 hs
   refine ⟨hok, h.sub.trans (List.sublist_append_left _ _), fun c hc => ?_, h.place, h.diff, fun c hc => ?_, h.ord, h.mx⟩
   · simp only [List.getLast?_append, List.getLast?_singleton, Option.some_or, Option.some.injEq] at hc
     subst hc
     rw [hva]; exact hw
   · rcases List.mem_append.1 hc with hc | hc
     · exact h.each c hc
     · simp only [List.mem_singleton] at hc
       subst hc
       obtain ⟨j, d, h1, h2, h3, h4⟩ := h.each _ hmem
       refine ⟨j, d, h1, by have := hlt _ hmem; omega, by rw [h3, hva], fun d' hd' => ?_⟩
       exfalso
       have h5 := h4 d' hd'
       have h6 : d' ∈ l := h.sub.subset (List.mem_of_getElem? hd')
       obtain ⟨i, hi, rfl⟩ := List.mem_iff_getElem.1 h6
       have h7 := hrl.le (i := i) (j := l.length - 1) (by omega) (by omega)
       rw [List.getLast_eq_getElem hne] at h5
       omega
 · have hw2 := was_step (vec := vec) (a := a) hs
   have e : atStep vec s a = ⟨s.fr ++ [a], s.wh ++ [(idxV s.vs (vec a) : Int)], if vec a ∈ s.vs then s.vs else s.vs ++ [vec a]⟩ := by unfold atStep; rw [if_neg hs]
   have hpre : ∀ (i : Nat) (v : List Int), s.vs[i]? = some v -> (if vec a ∈ s.vs then s.vs else s.vs ++ [vec a])[i]? = some v := fun i v hv => by
    split
    · exact hv
    · rw [List.getElem?_append_left (List.getElem?_eq_some_iff.1 hv).1]; exact hv
   rw [e] at hok hw2 ⊢
   have hlen := h.ok.len
   refine ⟨hok, h.sub.append (List.Sublist.refl _), fun c hc => ?_, fun j c hc => ?_, fun j x hx hx' => ?_, fun c hc => ?_, fun j x hx => ?_, ?_⟩
   · simp only [List.getLast?_append, List.getLast?_singleton, Option.some_or, Option.some.injEq] at hc
     subst hc
     exact hw2
   · rcases snoc_get hc with hc | ⟨rfl, rfl⟩
     · obtain ⟨i, h1, h2⟩ := h.place j c hc
       exact ⟨i, by rw [List.getElem?_append_left (List.getElem?_eq_some_iff.1 h1).1]; exact h1, hpre i _ h2⟩
     · refine ⟨idxV s.vs (vec c), by rw [hlen]; simp, ?_⟩
       by_cases hm : vec c ∈ s.vs
       · simp only [if_pos hm]
         have := idxV_in.1 hm
         rw [List.getElem?_eq_getElem this, idxV_get this]
       · simp only [if_neg hm]
         rw [idxV_out hm]; simp
   · rcases snoc_get hx' with hx' | ⟨h1, h2⟩
     · have hj := (List.getElem?_eq_some_iff.1 hx').1
       rw [List.getElem?_append_left (by omega)] at hx
       exact h.diff j x hx hx'
     · rw [List.getElem?_append_left (by omega)] at hx
       apply hs
       unfold Ats.last
       have : s.wh.getLast? = some x := by
        rw [List.getLast?_eq_getElem?, <- h1]
        exact hx
       rw [this, <- h2]; rfl
   · rcases List.mem_append.1 hc with hc | hc
     · obtain ⟨j, d, h1, h2, h3, h4⟩ := h.each c hc
       have hj := (List.getElem?_eq_some_iff.1 h1).1
       refine ⟨j, d, by rw [List.getElem?_append_left hj]; exact h1, h2, h3, fun d' hd' => ?_⟩
       rcases snoc_get hd' with hd' | ⟨_, hda⟩
       · exact h4 d' hd'
       · rw [hda]; exact hlt c hc
     · simp only [List.mem_singleton] at hc
       subst hc
       refine ⟨s.fr.length, c, by simp, Int.le_refl _, rfl, fun d' hd' => ?_⟩
       rw [List.getElem?_eq_none (by simp)] at hd'
       cases hd'
   · rcases snoc_get hx with hx | ⟨rfl, rfl⟩
     · have hj := (List.getElem?_eq_some_iff.1 hx).1
       rw [List.take_append_of_le_length (by omega)]
       exact h.ord j x hx
     · rw [List.take_left]
       rw [h.mx]
       have := idxV_le s.vs (vec a)
       omega
   · rw [mxW_snoc, h.mx]
     by_cases hm : vec a ∈ s.vs
     · simp only [if_pos hm]
       have := idxV_in.1 hm
       omega
     · simp only [if_neg hm]
       rw [idxV_out hm]; simp; omega
theorem atInv_all {vec : BitVec 32 -> List Int} {l : List (BitVec 32)} (hr : Rising l) : ∀ k, k <= l.length -> AtInv vec (atomsL vec (l.take k)) (l.take k) := by
 intro k
 induction k with
 | zero => intro _; exact AtInv.nil vec
 | succ k ih =>
   intro hk
   have e := List.take_succ_eq_append_getElem (l := l) (i := k) (by omega)
   rw [atomsL_step (by omega), e]
   refine (ih (by omega)).step ?_ (fun h => by rw [h]; rfl)
   rw [<- e]
   exact List.Pairwise.sublist (List.take_sublist _ _) hr
theorem atInv {vec : BitVec 32 -> List Int} {l : List (BitVec 32)} (hr : Rising l) : AtInv vec (atomsL vec l) l := by
 have := atInv_all (vec := vec) hr l.length (Nat.le_refl _)
 rw [List.take_length] at this
 exact this
/-- Atoms of a network's cuts. -/
structure AtomsIt (ls : List (List Rul)) (l : List (BitVec 32)) (s : Ats) : Prop where
 inv : AtInv (vecV ls) s l
 rise : Rising s.fr
 zero : s.fr[0]? = some 0#32
theorem atomsIt {ls : List (List Rul)} {l : List (BitVec 32)} (hC : Cuts ls.flatten l) : AtomsIt ls l (atomsL (vecV ls) l) := by
 have hi := atInv (vec := vecV ls) hC.rise
 have hr : Rising (atomsL (vecV ls) l).fr := List.Pairwise.sublist hi.sub hC.rise
 refine ⟨hi, hr, cuts_zero hr ?_⟩
 obtain ⟨j, d, h1, h2, h3, _⟩ := hi.each 0#32 (List.mem_of_getElem? hC.zero)
 have : d = 0#32 := uv_inj (by have := uv_nonneg d; have := uv_zero; omega)
 exact this ▸ List.mem_of_getElem? h1
/-- An address has the vector of where its atom begins. -/
theorem AtomsIt.vec {ls : List (List Rul)} {l : List (BitVec 32)} {s : Ats} (h : AtomsIt ls l s) (hC : Cuts ls.flatten l) (a : BitVec 32) : vecV ls (s.fr[ivN s.fr a]'(ivN_lt h.zero a)) = vecV ls a := by
 rw [<- vec_low hC a]
 have hm : l[ivN l a]'(ivN_lt hC.zero a) ∈ l := List.getElem_mem _
 obtain ⟨j, d, h1, h2, h3, h4⟩ := h.inv.each _ hm
 obtain ⟨hj, rfl⟩ := List.getElem?_eq_some_iff.1 h1
 rw [<- h3]
 have h5 : ivN s.fr a = j := by
  unfold ivN
  rw [atN_eq h.rise hj (by have := iv_from hC.zero a; omega) (fun hj1 => ?_)]
  · rfl
  · have h6 := h4 _ (List.getElem?_eq_getElem hj1)
    have h7 : s.fr[j + 1] ∈ l := h.inv.sub.subset (List.getElem_mem _)
    by_cases g : uv a < uv s.fr[j + 1]
    · exact g
    · have := iv_below hC.rise hC.zero a h7 (by omega)
      omega
 simp only [h5]
theorem AtomsIt.low {ls : List (List Rul)} {l : List (BitVec 32)} {s : Ats} (h : AtomsIt ls l s) (hC : Cuts ls.flatten l) (a : BitVec 32) : vecV ls (s.fr[ivN s.fr a]'(ivN_lt h.zero a)) = vecV ls a := h.vec hC a
theorem AtomsIt.high {ls : List (List Rul)} {l : List (BitVec 32)} {s : Ats} (h : AtomsIt ls l s) (hC : Cuts ls.flatten l) (a : BitVec 32) : vecV ls (endV s.fr (ivN s.fr a)) = vecV ls a := by
 have h1 := h.vec hC (endV s.fr (ivN s.fr a))
 have h2 := h.vec hC a
 have h3 : ivN s.fr (endV s.fr (ivN s.fr a)) = ivN s.fr a := by
  have := atN_high h.rise (ivN_lt h.zero a)
  have e : ivN s.fr (endV s.fr (ivN s.fr a)) = atN s.fr (endV s.fr (ivN s.fr a)) - 1 := rfl
  omega
 simp only [h3] at h1
 rw [<- h1, h2]
theorem AtomsIt.at {ls : List (List Rul)} {l : List (BitVec 32)} {s : Ats} (h : AtomsIt ls l s) (hC : Cuts ls.flatten l) (a : BitVec 32) : ∃ j : Nat, s.wh[ivN s.fr a]? = some (j : Int) /\ s.vs[j]? = some (vecV ls a) := by
 obtain ⟨j, h1, h2⟩ := h.inv.place _ _ (List.getElem?_eq_getElem (ivN_lt h.zero a))
 exact ⟨j, h1, by rw [h2, h.vec hC a]⟩
def Ats.mapV (f : List Int -> List Int) (s : Ats) : Ats := ⟨s.fr, s.wh, s.vs.map f⟩
end Go.Proofs.YtdpmnldmbnpfpaaGreatDoor
