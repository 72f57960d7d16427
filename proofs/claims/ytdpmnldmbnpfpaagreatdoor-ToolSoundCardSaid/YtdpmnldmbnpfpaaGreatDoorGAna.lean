/- AnaP, AnaF, AnaRanks, AnaN, Shown21: these texts in one. Conditions: each part names its own. -/
import Derived.Test.YtdpmnldmbnpfpaaGreatDoorGAtC
import Derived.Test.YtdpmnldmbnpfpaaGreatDoorGCert
import Derived.Test.YtdpmnldmbnpfpaaGreatDoorGPl
import Derived.Test.YtdpmnldmbnpfpaaGreatDoorGCuts
import Derived.Test.YtdpmnldmbnpfpaaGreatDoorGGrQ
import Derived.Test.YtdpmnldmbnpfpaaGreatDoorGAtB
import Derived.Laws.ResultCell
import Derived.Test.YtdpmnldmbnpfpaaGreatDoorGFitC
import Derived.Test.YtdpmnldmbnpfpaaGreatDoorGGr
/- Plain laws of analyze: what a network's certificate is. Conditions: none. -/
namespace Go.Proofs.YtdpmnldmbnpfpaaGreatDoor
open Go Go.RowKit Go.Maps Go.Proofs

/-- A certificate of a loop: of the first atom that has one. -/
structure AnaLoop (ls : List (List Rul)) (fr : List (BitVec 32)) (i : Nat) (c : Crt) : Prop where
 dest : fr[i]? = some c.dest
 first : ∀ (j : Nat) (a : BitVec 32), j < i -> fr[j]? = some a -> ∀ x, ¬ OnL (vecV ls a) x
 loop : LoopIs (vecV ls c.dest) c.tr
 ne : c.tr ≠ []
 vd : c.vd = 2
 ps : c.ps = []
 rks : c.rks = []
/-- A certificate of no loop: of each atom its ends and its ranks. -/
structure AnaFree (ls : List (List Rul)) (fr : List (BitVec 32)) (c : Crt) : Prop where
 all : ∀ a ∈ fr, ∀ x, ¬ OnL (vecV ls a) x
 vd : c.vd = 1
 dest : c.dest = 0#32
 tr : c.tr = []
 len : c.ps.length = fr.length
 rln : c.rks.length = fr.length
 parts : ∀ (i : Nat) (a : BitVec 32), fr[i]? = some a -> ∃ p r, c.ps[i]? = some p /\ c.rks[i]? = some r /\ p.fr = a /\ p.up = endV fr i /\ RanksIs (vecV ls a) r
def AnaFr (ls : List (List Rul)) (fr : List (BitVec 32)) (c : Crt) : Prop := (∃ i, AnaLoop ls fr i c) \/ AnaFree ls fr c
/-- What analyze tells of a network that may be. -/
def AnaIs (ls : List (List Rul)) (c : Crt) : Prop := ∃ l, Cuts ls.flatten l /\ AnaFr ls (atomsL (vecV ls) l).fr c
/-- Certificates that say the same. -/
structure CrtEq (c d : Crt) : Prop where
 vd : c.vd = d.vd
 dest : c.dest = d.dest
 tr : c.tr = d.tr
 rks : c.rks = d.rks
 ps : c.ps.map (fun p => (p.fr, p.up)) = d.ps.map fun p => (p.fr, p.up)
theorem LoopIs.on {v l : List Int} (h : LoopIs v l) (hl : l ≠ []) : ∃ x, OnL v x := by
 obtain ⟨b, p, h1, h2, h3⟩ := h.cons hl
 exact ⟨b, h1.1⟩
theorem AnaFr.one {ls : List (List Rul)} {fr : List (BitVec 32)} {c d : Crt} (h : AnaFr ls fr c) (k : AnaFr ls fr d) : CrtEq c d := by
 rcases h with ⟨i, h⟩ | h
 · rcases k with ⟨j, k⟩ | k
   · obtain rfl : i = j := by
      rcases Nat.lt_trichotomy i j with g | g | g
      · obtain ⟨x, hx⟩ := h.loop.on h.ne
        exact absurd hx (k.first i _ g h.dest x)
      · exact g
      · obtain ⟨x, hx⟩ := k.loop.on k.ne
        exact absurd hx (h.first j _ g k.dest x)
     have hd : c.dest = d.dest := Option.some.inj (h.dest.symm.trans k.dest)
     have hl := h.loop
     rw [hd] at hl
     exact ⟨h.vd.trans k.vd.symm, hd, hl.one k.loop, h.rks.trans k.rks.symm, by rw [h.ps, k.ps]⟩
   · obtain ⟨x, hx⟩ := h.loop.on h.ne
     exact absurd hx (k.all _ (List.mem_of_getElem? h.dest) x)
 · rcases k with ⟨j, k⟩ | k
   · obtain ⟨x, hx⟩ := k.loop.on k.ne
     exact absurd hx (h.all _ (List.mem_of_getElem? k.dest) x)
   · refine ⟨h.vd.trans k.vd.symm, h.dest.trans k.dest.symm, h.tr.trans k.tr.symm, ?_, ?_⟩
     · refine List.ext_getElem? fun i => ?_
       cases hf : fr[i]? with
       | none =>
         have := List.getElem?_eq_none_iff.1 hf
         rw [List.getElem?_eq_none (by rw [h.rln]; exact this), List.getElem?_eq_none (by rw [k.rln]; exact this)]
       | some a =>
         obtain ⟨p, r, h1, h2, h3, h4, h5⟩ := h.parts i a hf
         obtain ⟨q, t, k1, k2, k3, k4, k5⟩ := k.parts i a hf
         rw [h2, k2, h5.one k5]
     · refine List.ext_getElem? fun i => ?_
       rw [List.getElem?_map, List.getElem?_map]
       cases hf : fr[i]? with
       | none =>
         have := List.getElem?_eq_none_iff.1 hf
         rw [List.getElem?_eq_none (by rw [h.len]; exact this), List.getElem?_eq_none (by rw [k.len]; exact this)]
       | some a =>
         obtain ⟨p, r, h1, h2, h3, h4, h5⟩ := h.parts i a hf
         obtain ⟨q, t, k1, k2, k3, k4, k5⟩ := k.parts i a hf
         rw [h1, k1]
         show some (p.fr, p.up) = some (q.fr, q.up)
         rw [h3, k3, h4, k4]
theorem AnaIs.at {ls : List (List Rul)} {l : List (BitVec 32)} {c : Crt} (h : AnaIs ls c) (hC : Cuts ls.flatten l) : AnaFr ls (atomsL (vecV ls) l).fr c := by
 obtain ⟨l', h1, h2⟩ := h
 rw [Cuts.at hC h1]; exact h2
theorem AnaIs.one {ls : List (List Rul)} {c d : Crt} (h : AnaIs ls c) (k : AnaIs ls d) : CrtEq c d := by
 obtain ⟨l, h1, h2⟩ := h
 exact h2.one (k.at h1)
/-- Each place up to the greatest one is there. -/
theorem wh_has {wh : List Int} (ho : ∀ (j : Nat) (x : Int), wh[j]? = some x -> x <= mxW (wh.take j) + 1) : ∀ (j : Nat) (k : Int), 0 <= k -> k <= mxW (wh.take j) -> ∃ i, i < j /\ wh[i]? = some k := by
 intro j
 induction j with
 | zero => intro k h0 h1; have : mxW (wh.take 0) = -1 := rfl; omega
 | succ j ih =>
   intro k h0 h1
   cases hj : wh[j]? with
   | none =>
     have := List.getElem?_eq_none_iff.1 hj
     rw [List.take_of_length_le (by omega), <- List.take_of_length_le (i := j) this] at h1
     obtain ⟨i, hi, hk⟩ := ih k h0 h1
     exact ⟨i, by omega, hk⟩
   | some x =>
     obtain ⟨hjl, hx⟩ := List.getElem?_eq_some_iff.1 hj
     rw [List.take_succ_eq_append_getElem hjl, mxW_snoc, hx] at h1
     by_cases g : k <= mxW (wh.take j)
     · obtain ⟨i, hi, hk⟩ := ih k h0 g
       exact ⟨i, by omega, hk⟩
     · have := ho j x hj
       exact ⟨j, Nat.lt_succ_self j, by rw [hj]; congr 1; omega⟩
/-- Where a vector comes first, and what is ahead of it. -/
theorem AtInv.first {vec : BitVec 32 -> List Int} {s : Ats} {l : List (BitVec 32)} (h : AtInv vec s l) {k : Nat} (hk : k < s.vs.length) :
 ∃ i, i < s.wh.length /\ s.wh.getD i 0 = (k : Int) /\ (∀ j, j < i -> s.wh.getD j 0 ≠ (k : Int)) /\ ∀ j x, j < i -> s.wh[j]? = some x -> 0 <= x /\ x < k := by
 have hm := h.mx
 obtain ⟨i0, hi0, hw0⟩ := wh_has h.ord s.wh.length (k : Int) (by omega) (by rw [List.take_length]; omega)
 obtain ⟨i, hi, hmin⟩ := least_nat (P := fun i => s.wh[i]? = some (k : Int)) ⟨i0, hw0⟩
 have hil := (List.getElem?_eq_some_iff.1 hi).1
 refine ⟨i, hil, by rw [List.getD_eq_getElem?_getD, hi]; rfl, fun j hj he => ?_, fun j x hj hx => ?_⟩
 · refine hmin j hj ?_
   rw [List.getD_eq_getElem?_getD, List.getElem?_eq_getElem (by omega)] at he
   rw [List.getElem?_eq_getElem (by omega)]
   exact congrArg some he
 · obtain ⟨hjl, hxe⟩ := List.getElem?_eq_some_iff.1 hx
   refine ⟨(h.ok.wh x (List.mem_of_getElem? hx)).1, Classical.byContradiction fun hc => ?_⟩
   have hle : (k : Int) <= mxW (s.wh.take (j + 1)) := by
    rw [List.take_succ_eq_append_getElem hjl, mxW_snoc, hxe]; omega
   obtain ⟨i', h1, h2⟩ := wh_has h.ord (j + 1) (k : Int) (by omega) hle
   exact hmin i' (by omega) h2
/-- Each vector is an atom's. -/
theorem AtInv.vec {vec : BitVec 32 -> List Int} {s : Ats} {l : List (BitVec 32)} (h : AtInv vec s l) {v : List Int} (hv : v ∈ s.vs) : ∃ a ∈ s.fr, v = vec a := by
 obtain ⟨k, hk⟩ := List.getElem?_of_mem hv
 obtain ⟨i, h1, h2, _⟩ := h.first (List.getElem?_eq_some_iff.1 hk).1
 have hl := h.ok.len
 obtain ⟨q, h3, h4⟩ := h.place i _ (List.getElem?_eq_getElem (by omega))
 rw [List.getD_eq_getElem?_getD, h3] at h2
 obtain rfl : q = k := by have h2' : (q : Int) = k := h2; omega
 exact ⟨_, List.getElem_mem _, Option.some.inj (hk.symm.trans h4)⟩
/-- The first vector with a loop is that of the first atom with one. -/
theorem AtomsIt.loop {ls : List (List Rul)} {l : List (BitVec 32)} {s : Ats} (h : AtomsIt ls l s) {k i : Nat} {v tr : List Int} (hk : s.vs[k]? = some v) (hi : s.wh[i]? = some (k : Int)) (hpre : ∀ j x, j < i -> s.wh[j]? = some x -> 0 <= x /\ x < k)
 (hno : ∀ j u, j < k -> s.vs[j]? = some u -> ∀ x, ¬ OnL u x) (ht : LoopIs v tr) (hne : tr ≠ []) : ∃ a, s.fr[i]? = some a /\ AnaLoop ls s.fr i ⟨2, [], [], a, tr⟩ := by
 have hl := h.inv.ok.len
 have hil := (List.getElem?_eq_some_iff.1 hi).1
 have hf : s.fr[i]? = some s.fr[i] := List.getElem?_eq_getElem (by omega)
 obtain ⟨q, h3, h4⟩ := h.inv.place i _ hf
 rw [hi] at h3
 obtain rfl : q = k := by have := Option.some.inj h3; omega
 rw [hk] at h4
 refine ⟨_, hf, hf, fun j a hj ha x hx => ?_, ?_, hne, rfl, rfl, rfl⟩
 · obtain ⟨q, h5, h6⟩ := h.inv.place j a ha
   obtain ⟨h7, h8⟩ := hpre j _ hj h5
   exact hno q _ (by omega) h6 x hx
 · show LoopIs (vecV ls s.fr[i]) tr
   rw [<- Option.some.inj h4]; exact ht
end Go.Proofs.YtdpmnldmbnpfpaaGreatDoor

/- Plain laws of analyze's certificates: how many parts, which ranks, how long a trace. Conditions: none. -/
namespace Go.Proofs.YtdpmnldmbnpfpaaGreatDoor
open Go Go.RowKit Go.Maps Go.Proofs

theorem fr_few {ls : List (List Rul)} {l : List (BitVec 32)} (hC : Cuts ls.flatten l) : (atomsL (vecV ls) l).fr.length <= 2 * sizeN ls + 1 := by
 have h1 := ats_few (vecV ls) l
 have h2 := hC.len
 rw [sizeN_flat] at h2
 omega
/-- What is so of a certificate that analyze makes. -/
structure AnaFacts (ls : List (List Rul)) (c : Crt) : Prop where
 few : c.ps.length <= 2 * sizeN ls + 1
 tr : c.tr.length <= ls.length
 rln : c.rks.length = c.ps.length
 rks : ∀ r ∈ c.rks, r.length = ls.length /\ ∀ x ∈ r, 0 <= x /\ x < ls.length
 trb : ∀ x ∈ c.tr, 0 <= x /\ x < ls.length
 which : (c.vd = 2 /\ c.ps = [] /\ 0 < c.tr.length) \/ (c.vd = 1 /\ 0 < c.ps.length /\ c.tr = [] /\ c.dest = 0#32)
theorem AnaIs.facts {ls : List (List Rul)} {c : Crt} (hm : netMayV ls = 0) (h : AnaIs ls c) : AnaFacts ls c := by
 obtain ⟨l, hC, h⟩ := h
 have hI := atomsIt hC
 have hf := fr_few hC
 rcases h with ⟨i, h⟩ | h
 · have hv := vec_ok hm c.dest
   obtain ⟨b, p, h1, h2, h3⟩ := h.loop.cons h.ne
   have h0 : 0 <= b := h1.1.1
   have hle := h2.le hv h0
   rw [vecV_len] at hle
   refine ⟨by rw [h.ps]; simp, by rw [h3, wayV_len]; exact hle, by rw [h.rks, h.ps]; rfl, fun r hr => (by rw [h.rks] at hr; cases hr), fun x hx => ?_, .inl ⟨h.vd, h.ps, List.length_pos_iff.2 h.ne⟩⟩
   rw [h3] at hx
   obtain ⟨j, _, rfl⟩ := wayV_mem.1 hx
   have := ((h1.1.it hv j).is hv)
   unfold isN at this
   rw [vecV_len] at this
   exact this
 · refine ⟨by rw [h.len]; exact hf, by rw [h.tr]; simp, by rw [h.rln, h.len], fun r hr => ?_, fun x hx => (by rw [h.tr] at hx; cases hx), .inr ⟨h.vd, ?_, h.tr, h.dest⟩⟩
   · obtain ⟨i, hi⟩ := List.getElem?_of_mem hr
     have hil : i < (atomsL (vecV ls) l).fr.length := by rw [<- h.rln]; exact (List.getElem?_eq_some_iff.1 hi).1
     obtain ⟨p, r', h1, h2, h3, h4, h5⟩ := h.parts i _ (List.getElem?_eq_getElem hil)
     rw [hi] at h2
     obtain rfl := Option.some.inj h2
     have hb := h5.bd (vec_ok hm _)
     rw [vecV_len] at hb
     exact ⟨by rw [h5.1, vecV_len], hb⟩
   · rw [h.len]; exact (List.getElem?_eq_some_iff.1 hI.zero).1
theorem AnaFacts.vd {ls : List (List Rul)} {c : Crt} (h : AnaFacts ls c) : c.vd = 1 \/ c.vd = 2 := h.which.elim (fun h => .inr h.1) fun h => .inl h.1
theorem AnaFacts.one {ls : List (List Rul)} {c : Crt} (h : AnaFacts ls c) : ((((c.ps.length : Nat) : Int) == 0) == (c.vd == 2)) = true /\ ((((c.tr.length : Nat) : Int) == 0) == (c.vd == 1)) = true := by
 rcases h.which with ⟨h1, h2, h3⟩ | ⟨h1, h2, h3, _⟩
 · rw [h1, h2]
   refine ⟨rfl, ?_⟩
   rw [beq_false_of_ne (by omega : ((c.tr.length : Nat) : Int) ≠ 0)]; rfl
 · rw [h1, h3]
   refine ⟨?_, rfl⟩
   rw [beq_false_of_ne (by omega : ((c.ps.length : Nat) : Int) ≠ 0)]; rfl
end Go.Proofs.YtdpmnldmbnpfpaaGreatDoor

/- analyze.Ranks and analyze.ends of atoms. Conditions: whole numbers are within 64 bits. -/
namespace Go.Proofs.YtdpmnldmbnpfpaaGreatDoor
open Go Go.RowKit Go.Maps Go.Proofs

theorem results_cellA {fn : Func} {p : Tmp} {ty : TypeId} (h : fn.results = #[.cell p ty]) (tmps : Array Value) (P : Program) (w : World) :
 (results fn tmps).run P w = ((asAddr (tmps.getD p undef)).run P w).andThen fun a w₁ => (loadVar ty a).run P w₁ := by
 simp only [results, h]
 simp [Sem.run_bind, Result.andThen]
/-- Rows of whole numbers, the call's own. -/
def OwnII (w : World) (B : Nat) (v : Value) (ls : List (List Int)) : Prop :=
 ∃ vs : List Value, w.ownsRow B 47 1 v ls.length vs /\ ∀ (i : Nat) (l : List Int), ls[i]? = some l -> ∃ u, vs[i]? = some u /\ OwnI w B u l
theorem OwnII.later {w w' : World} {B : Nat} {v : Value} {ls : List (List Int)} (h : OwnII w B v ls) (hx : Ext w w') : OwnII w' B v ls :=
 let ⟨vs, h1, h2⟩ := h
 ⟨vs, own_later h1 hx, fun i l hi => let ⟨u, g1, g2⟩ := h2 i l hi; ⟨u, g1, own_later g2 hx⟩⟩
theorem OwnII.low {w : World} {B B' : Nat} {v : Value} {ls : List (List Int)} (h : OwnII w B v ls) (hB : B' <= B) : OwnII w B' v ls :=
 let ⟨vs, h1, h2⟩ := h
 ⟨vs, own_low h1 hB, fun i l hi => let ⟨u, g1, g2⟩ := h2 i l hi; ⟨u, g1, own_low g2 hB⟩⟩
theorem OwnII.read {w : World} {B : Nat} {v : Value} {ls : List (List Int)} (h : OwnII w B v ls) : IssAt w v ls :=
 let ⟨vs, h1, h2⟩ := h
 ⟨vs, Reads.of_own h1, fun i l hi => let ⟨u, g1, g2⟩ := h2 i l hi; ⟨u, g1, g2.ints⟩⟩
theorem OwnII.app {w w' : World} {B : Nat} {v v' u : Value} {ls : List (List Int)} {l : List Int} {vs : List Value} (hown : w.ownsRow B 47 1 v ls.length vs)
 (hvs : ∀ (i : Nat) (l : List Int), ls[i]? = some l -> ∃ u, vs[i]? = some u /\ OwnI w B u l)
 (ho : w'.ownsRow B 47 1 v' (ls.length + 1) (vs ++ [u])) (hg : w.grownBy w' v.ownBlock) (hu : OwnI w B u l) : OwnII w' B v' (ls ++ [l]) := by
 have hlen : vs.length = ls.length := by have := hown.1; simpa using this
 refine ⟨vs ++ [u], by rw [List.length_append]; exact ho, fun i m hi => ?_⟩
 rcases snoc_get hi with hi | ⟨rfl, rfl⟩
 · obtain ⟨q, q1, q2⟩ := hvs i m hi
   have hil := (List.getElem?_eq_some_iff.1 hi).1
   exact ⟨q, by rw [List.getElem?_append_left (by omega)]; exact q1, own_apart q2 hown (by decide) hg⟩
 · exact ⟨u, by rw [List.getElem?_append_right (by omega), hlen]; simp, own_apart hu hown (by decide) hg⟩
/-- These are the ranks of the vectors. -/
def RksAre (vs rs : List (List Int)) : Prop := rs.length = vs.length /\ ∀ (i : Nat) (v r : List Int), vs[i]? = some v -> rs[i]? = some r -> RanksIs v r
/-- What analyze.Ranks tells. -/
def ARanksOut (vs : List (List Int)) (w : World) (e : Ending) (w' : World) : Prop :=
 (∃ (u : Value) (rs : List (List Int)), e = .returned (.tuple #[u, I 0]) /\ RksAre vs rs /\ OwnII w' w.heap.size u rs /\ Ext w w') \/ (e = .returned (.tuple #[.slice none 0 0, I 17]) /\ (∃ v ∈ vs, ∃ x, OnL v x) /\ Ext w w')
theorem rk_form {v : List Int} {w w' : World} {e : Ending} (h : (∃ (u : Value) (rs : List Int), e = .returned (.tuple #[u, I 0]) /\ RanksIs v rs /\ OwnI w' w.heap.size u rs /\ Ext w w') \/ (e = .returned (.tuple #[.slice none 0 0, I 17]) /\ (∃ x, OnL v x) /\ Ext w w')) :
 ∃ (a : Option Addr) (n c : Nat) (z : Int), e = .returned (.tuple #[.slice a n c, I z]) /\ Ext w w' /\ ((z = 0 /\ ∃ rs, RanksIs v rs /\ OwnI w' w.heap.size (.slice a n c) rs) \/ (z = 17 /\ ∃ x, OnL v x)) := by
 rcases h with ⟨u, rs, rfl, h1, h2, h3⟩ | ⟨rfl, h1, h2⟩
 · obtain ⟨a, c, rfl, -⟩ := h2.ints.form
   exact ⟨a, rs.length, c, 0, rfl, h3, .inl ⟨rfl, rs, h1, h2⟩⟩
 · exact ⟨none, 0, 0, 17, rfl, h2, .inr ⟨rfl, h1⟩⟩
set_option maxHeartbeats 4000000 in
set_option maxRecDepth 100000 in
theorem aRanks_any (fv hv vv : Value) (s : Ats) (w : World) (h : AtomsAt w fv hv vv s) (hok : ∀ v ∈ s.vs, VOk v /\ v.length <= 256) (hfew : s.vs.length <= 1000000) :
 Calls Tryz.prog 73 #[.agg #[fv, hv, vv]] w (ARanksOut s.vs w) := by
 have HOK := Lib.hid hok
 obtain ⟨va, vc, rfl, v1, v2, hvf⟩ := h.vs.form
 obtain ⟨fa, fc, rfl, -⟩ := h.fr.form
 obtain ⟨ha, hc, rfl, -⟩ := h.wh.form
 have HVF := Lib.hid hvf
 clear hvf h hok
 unfold maxLen at v2
 obtain ⟨i8, hi8, hz8, hs8, hb8⟩ := info_parts (infoInts' : (Tryz.prog.info? 47).map (fun i => (i.zero, i.size, i.bytes)) = some (some (.slice none 0 0), 1, 24))
 have HI8 := Lib.hid hi8
 have HZ8 := Lib.hid hz8
 have HS8 := Lib.hid hs8
 clear hi8 hz8 hs8
 go_enter Tryz.func73, Tryz.ntmps73
 go_upto_region 1 with fail
 refine hideW (Φ := fun W => Code.wp _ _ _ _ W) (fun W => Ext w W /\ Blk W w.heap.size [.slice fa s.fr.length fc, .slice ha s.wh.length hc, .slice va s.vs.length vc] 117)
  ⟨by (repeat with_reducible first | exact Ext.refl _ | assumption | refine Ext.alloc ?_ _ | refine Ext.drew ?_ | refine Ext.drewN ?_ _ | (refine Ext.setCellP ?_ ?_; focus (first | (simp; done) | (simp; omega) | omega))), Blk.new w [.slice fa s.fr.length fc, .slice ha s.wh.length hc, .slice va s.vs.length vc] 117⟩ (fun W1 hW1 => ?_)
 obtain ⟨hx1, hb1⟩ := hW1
 have HX1 := Lib.hid hx1
 have HB1 := Lib.hid hb1
 have hbc1 := hb1.cells
 have HW1 := Lib.hid (show w.heap.size <= W1.heap.size from hx1.size)
 clear hx1 hb1
 go_upto_region 2 with (at_make; go_loud (refine wpList_make_own _ rfl _ _ 115 rfl w.heap.size 47 i8 (.slice none 0 0) 1 Tryz.underlying115 HI8.out HZ8.out HS8.out .i64 .i64 _ s.vs.length rfl rfl (by omega) (by rw [hb8]; omega) (by unfold maxLen; omega) HW1.out ?_); intro w1 hown1 hgrow1; have HO1 := Lib.hid (show OwnII w1 w.heap.size _ [] from ⟨[], hown1, fun i l h => by cases h⟩); have HX2 := Lib.hid (show Ext w w1 from Below.grown HX1.out hgrow1 HX1.out.size (fun j hj => by cases hj)); have hbc2 := (blk_grown HB1.out (fun g e => by cases e) hgrow1).cells; clear hown1 hgrow1)
 clear hbc1
 go_wp2_with fail
 go_loopw [4, 16] (fun u i wr => ∃ (k : Nat) (rs : List (List Int)), k <= s.vs.length /\ i = I k /\ Hid (RksAre (s.vs.take k) rs) /\ Hid (OwnII wr w.heap.size u rs) /\ Hid (Ext w wr)) (fun _ i _ => s.vs.length - (intOf i).toNat)
 case atStart => exact ⟨0, [], Nat.zero_le _, rfl, ⟨rfl, fun i v r h => by cases h⟩, HO1.out, HX2.out⟩
 case round =>
  obtain ⟨k, rs, hk, rfl, HR, HO, HX⟩ := hrel
  clear hbc2
  have hrl : rs.length = k := by rw [HR.out.1, List.length_take]; omega
  have HRL := Lib.hid hrl
  clear hrl
  by_cases hlt : k < s.vs.length
  · have hkd : decide ((k : Int) < (s.vs.length : Int)) = true := decide_eq_true (by omega)
    have HLT := Lib.hid hlt
    obtain ⟨b, o, x, he, hc, hx⟩ := HVF.out k _ (List.getElem?_eq_getElem hlt)
    subst he
    replace hc := HX.out.cell hc
    obtain ⟨ya, yc, rfl, -⟩ := hx.form
    have HI := Lib.hid (hx.later HX.out)
    have HV := Lib.hid (HOK.out _ (List.getElem_mem hlt))
    have HTK := Lib.hid (List.take_succ_eq_append_getElem hlt)
    have HGK := Lib.hid (show s.vs[k]? = some s.vs[k] from List.getElem?_eq_getElem hlt)
    have HMM := Lib.hid (List.getElem_mem hlt)
    clear hx
    generalize s.vs[k] = v at *
    go_upto_region 6 with (first
     | (go_at_call 132; (with_reducible refine (gRanks_any _ v _ HI.out HV.out.1 HV.out.2).mono ?_); intro e w5 h5; obtain ⟨ra, rn, rc, z, he, hx5, hz⟩ := rk_form h5; subst he; have HX5 := Lib.hid (HX.out.trans hx5); have HXR := Lib.hid hx5; have HZ := Lib.hid hz; clear h5 hx5 hz))
    rcases HZ.out with ⟨rfl, r, hr, ho⟩ | ⟨rfl, ho⟩
    · have HRI := Lib.hid hr
      have HOR := Lib.hid ho
      clear hr ho HZ
      obtain ⟨vs, hvs, hvi⟩ := HO.out
      obtain ⟨ua, uc, rfl, ub1, ub2⟩ : ∃ a c, u4 = .slice a rs.length c /\ rs.length <= c /\ c <= maxLen := by
       obtain ⟨a, c, h1, h2, h3, -⟩ := HO.out.read.form
       exact ⟨a, c, h1, h2, h3⟩
      have HVS := Lib.hid hvs
      have HVI := Lib.hid hvi
      clear hvs hvi
      have HXA := Lib.hid (HX5.out.alloc (.cells #[.slice ra rn rc] 47))
      have HOA := Lib.hid (show (w5.alloc (.cells #[.slice ra rn rc] 47)).ownsRow w.heap.size 47 1 (.slice ua rs.length uc) rs.length vs from own_later HVS.out (HXR.out.alloc _))
      have HVA := Lib.hid (show ∀ (i : Nat) (l : List Int), rs[i]? = some l -> ∃ u, vs[i]? = some u /\ OwnI (w5.alloc (.cells #[.slice ra rn rc] 47)) w.heap.size u l from fun i l hi => let ⟨u, g1, g2⟩ := HVI.out i l hi; ⟨u, g1, own_later g2 (HXR.out.alloc _)⟩)
      have HUA := Lib.hid (show OwnI (w5.alloc (.cells #[.slice ra rn rc] 47)) w.heap.size (.slice ra rn rc) r from own_low (HOR.out.later ((Ext.refl w5).alloc _)) HX.out.size)
      have HSC := Lib.hid (show (w5.alloc (.cells #[.slice ra rn rc] 47)).cell? ⟨w5.heap.size, 0, none⟩ = some (.slice ra rn rc) from (Blk.new w5 [.slice ra rn rc] 47).cells 0)
      have hrb : rs.length <= 1000000 := by have := HRL.out; omega
      go_wp2_with (first
       | (at_builtin
          refine wpList_app1 rfl (.tmp 28) (.tmp 30) 115 rfl w.heap.size 47 (.slice none 0 0) 24 Tryz.underlying115 infoInts' rfl (by decide) _ _ _ rfl HOA.out w5.heap.size rfl (.slice ra rn rc) HSC.out rfl (by omega) HXA.out.size ?_
          intro v7 w7 ho7 hg7 hl7
          have HX7 := Lib.hid (Ext.grown HXA.out hg7 HOA.out (Nat.le_refl _))
          have HO7 := Lib.hid (OwnII.app HOA.out HVA.out ho7 hg7 HUA.out)
          clear ho7 hg7 hl7))
      go_roundw
      case rel =>
       refine ⟨k + 1, rs ++ [r], Nat.succ_le_of_lt HLT.out, by go_num, ⟨by rw [HTK.out, List.length_append, List.length_append, HR.out.1]; rfl, fun i x y hx hy => ?_⟩, HO7.out, HX7.out⟩
       rw [HTK.out] at hx
       rcases snoc_get hx with hx | ⟨rfl, rfl⟩
       · have hi := (List.getElem?_eq_some_iff.1 hx).1
         rw [List.getElem?_append_left (by rw [HR.out.1]; exact hi)] at hy
         exact HR.out.2 i x y hx hy
       · rw [List.getElem?_append_right (by rw [HR.out.1]; exact Nat.le_refl _), HR.out.1, Nat.sub_self] at hy
         simp at hy; subst hy
         exact HRI.out
      case measure => have := HLT.out; simp [intOf]; omega
    · have HON := Lib.hid ho
      clear ho HZ
      go_wp2_with fail
      go_ret2
      unfold ARanksOut
      exact .inr ⟨rfl, ⟨v, HMM.out, HON.out⟩, HX5.out⟩
  · have hkd : decide ((k : Int) < (s.vs.length : Int)) = false := decide_eq_false (by omega)
    obtain rfl : k = s.vs.length := by omega
    have HRE := Lib.hid (show RksAre s.vs rs by have h := HR.out; rw [List.take_length] at h; exact h)
    go_wp2_with fail
    go_ret2
    unfold ARanksOut
    exact .inl ⟨_, rs, rfl, HRE.out, HO.out, HX.out⟩
set_option maxHeartbeats 1000000 in
theorem aEnds_any (fv hv vv : Value) (s : Ats) (i : Nat) (w : World) (h : AtomsAt w fv hv vv s) (hi : i < s.fr.length) :
 Calls Tryz.prog 71 #[.agg #[fv, hv, vv], I i] w fun e w' => e = .returned (.agg #[U s.fr[i], U (endV s.fr i)]) /\ Ext w w' := by
 have HE := Lib.hid (show ∀ W, UsAt W fv s.fr -> Calls Tryz.prog 172 #[fv, I i] W fun e w' => e = .returned (.tuple #[U s.fr[i], U (endV s.fr i), .bool true]) /\ Ext W w' from fun W hW => (cutsEnds_any fv s.fr i W hW hi).mono fun e w' ⟨h1, h2⟩ => ⟨h1, h2 ▸ Ext.refl W⟩)
 have HA := Lib.hid h
 obtain ⟨fa, fc, ha, hc, va, vc, rfl, rfl, rfl⟩ := h.forms
 clear h
 generalize s.fr[i] = lo at *
 generalize endV s.fr i = hi at *
 go_enter Tryz.func71, Tryz.ntmps71
 go_upto_region 1 with fail
 refine hideW (Φ := fun W => Code.wp _ _ _ _ W) (fun W => Ext w W /\ Blk W w.heap.size [.slice fa s.fr.length fc, .slice ha s.wh.length hc, .slice va s.vs.length vc] 117 /\ Blk W (w.heap.size + 1) [U 0#32, U 0#32] 122)
  ⟨by (repeat with_reducible first | exact Ext.refl _ | assumption | refine Ext.alloc ?_ _ | refine Ext.drew ?_ | refine Ext.drewN ?_ _ | (refine Ext.setCellP ?_ ?_; focus (first | (simp; done) | (simp; omega) | omega))), (Blk.new w [.slice fa s.fr.length fc, .slice ha s.wh.length hc, .slice va s.vs.length vc] 117).old _, Blk.newAt [U 0#32, U 0#32] (by simp)⟩ (fun W1 hW1 => ?_)
 obtain ⟨hx1, hb1, hr1⟩ := hW1
 have HX1 := Lib.hid hx1
 have HR1 := Lib.hid hr1
 have hbc := hb1.cells
 have HRB := Lib.hid (show w.heap.size <= w.heap.size + 1 from Nat.le_succ _)
 clear hx1 hb1 hr1
 generalize w.heap.size + 1 = rb at *
 go_upto_region 2 with (first
  | (go_at_call 131; (with_reducible refine (atomsEnds_any _ _ _ s i _ (HA.out.later HX1.out) _ HE.out ⟨_, _, _, rfl⟩).mono ?_); rintro e w2 ⟨he, hx2⟩; subst he; have HX2 := Lib.hid (HX1.out.trans hx2); have HR2 := Lib.hid (HR1.out.later hx2); clear hx2))
 clear hbc
 have hrc := HR2.out.cells
 have hrf := HR2.out.frozen
 have HX3 := Lib.hid (show ∀ u v, Ext w ((w2.setCell ⟨rb, 0, none⟩ u).setCell ⟨rb, 1, none⟩ v) from fun u v => (HX2.out.setCell HRB.out u).setCell HRB.out v)
 go_wp2_with fail
 refine hideW (Φ := fun W => bodyPost _ _ _ _ _ W) (fun W => Ext w W /\ Blk W rb [U lo, U hi] 122)
  ⟨HX3.out _ _, (HR2.out.set 0 (U lo)).set 1 (U hi)⟩ (fun W3 hW3 => ?_)
 obtain ⟨hx3, hr3⟩ := hW3
 have hc3 := hr3.cells
 refine bodyPost_ret (v := .agg #[U lo, U hi]) (by rw [results_cellA rfl]; go_simp) rfl ?_
 exact ⟨rfl, hx3⟩
end Go.Proofs.YtdpmnldmbnpfpaaGreatDoor

/- analyze.Net of any network. Conditions: whole numbers are within 64 bits. -/
namespace Go.Proofs.YtdpmnldmbnpfpaaGreatDoor
open Go Go.RowKit Go.Maps Go.Proofs

def crt0 : Crt := ⟨0, [], [], 0#32, []⟩
/-- Blocks of which A holds stay as they were. -/
def RK (A : Nat -> Prop) : World -> World -> Prop := fun w w' => w.heap.size <= w'.heap.size /\ ∀ b, A b -> b < w.heap.size -> w'.heap[b]? = w.heap[b]?
theorem preRK (A : Nat -> Prop) : Pre (RK A) :=
 ⟨fun _ => ⟨Nat.le_refl _, fun _ _ _ => rfl⟩, fun h k => ⟨Nat.le_trans h.1 k.1, fun b hb hl => (k.2 b hb (Nat.lt_of_lt_of_le hl h.1)).trans (h.2 b hb hl)⟩⟩
theorem RK.ext {A : Nat -> Prop} {w w' : World} (h : Ext w w') : RK A w w' := ⟨h.size, fun b _ hl => Below.block h b hl⟩
theorem RK.grown {A : Nat -> Prop} {w w' : World} {r : Option Nat} (h : w.grownBy w' r) (hr : ∀ g, r = some g -> ¬ A g) : RK A w w' :=
 ⟨h.size, fun b hb hl => h.block b hl fun e => hr b e.symm hb⟩
theorem RK.keep {A : Nat -> Prop} {w : World} {p : Addr} {v : Value} (hp : A p.block) (h : w.cell? p = some v) : ∀ w', RK A w w' -> w'.cell? p = some v := fun w' hx => by
 have hl : p.block < w.heap.size := by
  rcases Nat.lt_or_ge p.block w.heap.size with g | g
  · exact g
  · simp [World.cell?, Array.getElem?_eq_none g] at h
 rw [World.cell?_of_block (hx.2 _ hp hl)]; exact h
/-- The certificate of no loop while it is made. -/
structure NtS (w5 w : World) (kb : Nat) (pv : Value) (ps : List Prt) (rks : List (List Int)) : Prop where
 ext : Ext w5 w
 box : Blk w kb [I 1, pv, U 0#32, sNil] 55
 own : OwnP w (kb + 1) pv ps
 len : rks.length = ps.length
 rk : ∀ (i : Nat) (p : Prt) (r : List Int), ps[i]? = some p -> rks[i]? = some r -> OwnI w (kb + 1) p.rk r
theorem NtS.later {w5 w w' : World} {kb : Nat} {pv : Value} {ps : List Prt} {rks : List (List Int)} (h : NtS w5 w kb pv ps rks) (hx : Ext w w') : NtS w5 w' kb pv ps rks :=
 ⟨h.ext.trans hx, h.box.later hx, h.own.later hx, h.len, fun i p r h1 h2 => (h.rk i p r h1 h2).later hx⟩
theorem NtS.add {w5 w w' : World} {kb : Nat} {pv v' : Value} {ps : List Prt} {rks : List (List Int)} {p : Prt} {r : List Int} (h : NtS w5 w kb pv ps rks) (hkb : w5.heap.size <= kb) (hr : OwnI w (kb + 1) p.rk r)
 (ho : w'.ownsRow (kb + 1) 59 3 v' (ps.length + 1) (pcells ps ++ p.cells)) (hg : w.grownBy w' pv.ownBlock) : NtS w5 (w'.setCell ⟨kb, 1, none⟩ v') kb v' (ps ++ [p]) (rks ++ [r]) := by
 have hne : ∀ g, pv.ownBlock = some g -> kb + 1 <= g := own_ge h.own
 refine ⟨(Below.grown h.ext hg h.ext.size fun g e => by have := hne g e; omega).setCell hkb _, (blk_grown h.box (fun g e => by have := hne g e; omega) hg).set 1 v', ?_, by simp [h.len], fun i q t h1 h2 => ?_⟩
 · refine own_set ?_ (Nat.lt_succ_self kb) v'
   unfold OwnP at *
   rw [List.length_append, pcells_app]
   have e : pcells [p] = p.cells := by unfold pcells; simp
   rw [e]; exact ho
 · refine own_set ?_ (Nat.lt_succ_self kb) v'
   rcases snoc_get h1 with h1 | ⟨rfl, rfl⟩
   · have hi := (List.getElem?_eq_some_iff.1 h1).1
     rw [List.getElem?_append_left (by rw [h.len]; exact hi)] at h2
     exact own_apart (h.rk i q t h1 h2) h.own (by decide) hg
   · rw [List.getElem?_append_right (by rw [h.len]; exact Nat.le_refl _), h.len, Nat.sub_self] at h2
     simp at h2; subst h2
     exact own_apart hr h.own (by decide) hg
theorem NtS.at {w5 w : World} {kb : Nat} {pv : Value} {ps : List Prt} {rks : List (List Int)} (h : NtS w5 w kb pv ps rks) : CertAt w pv sNil ⟨1, ps, rks, 0#32, []⟩ :=
 ⟨h.own.parts, h.len, fun i p r h1 h2 => (h.rk i p r h1 h2).ints, Reads.nil w 1⟩
theorem ranks_ok {vs : List (List Int)} {w w' : World} {e : Ending} (h : ARanksOut vs w e w') (hn : ∀ v ∈ vs, ∀ x, ¬ OnL v x) :
 ∃ (ua : Option Addr) (uc : Nat) (rs : List (List Int)), e = .returned (.tuple #[.slice ua rs.length uc, I 0]) /\ RksAre vs rs /\ OwnII w' w.heap.size (.slice ua rs.length uc) rs /\ Ext w w' := by
 rcases h with ⟨u, rs, he, h1, h2, h3⟩ | ⟨_, ⟨v, hv, x, hx⟩, _⟩
 · obtain ⟨a, c, rfl, -⟩ := h2.read.form
   exact ⟨a, c, rs, he, h1, h2, h3⟩
 · exact absurd hx (hn v hv x)
/-- What analyze.Net tells of a network that may be. -/
def ANetOut (ls : List (List Rul)) (w : World) (e : Ending) (w' : World) : Prop :=
 ∃ pv tv c, e = .returned (.tuple #[.agg #[I c.vd, pv, U c.dest, tv], I 0]) /\ CertAt w' pv tv c /\ AnaIs ls c /\ Ext w w'
set_option maxHeartbeats 4000000 in
set_option maxRecDepth 100000 in
theorem aNet_good (lv : Value) (ls : List (List Rul)) (w : World) (hl : TablesAt w lv ls) (hok : TablesOk ls) (hm : netMayV ls = 0) :
 Calls Tryz.prog 31 #[.agg #[lv]] w (ANetOut ls w) := by
 have HL := Lib.hid hl
 have HOK := Lib.hid hok
 have HM := Lib.hid hm
 have HNB := Lib.hid (netMay_tabs hm)
 obtain ⟨ad, cap, rfl, a1, a2, a3⟩ := hl.form
 clear a3 hl hm hok
 unfold maxLen at a2
 go_enter Tryz.func31, Tryz.ntmps31
 go_upto_region 1 with (fail)
 refine hideW (Φ := fun W => Code.wp _ _ _ _ W) (fun W => Ext w W /\ Blk W w.heap.size [.slice ad ls.length cap] 39 /\ Blk W (w.heap.size + 1) [I 0, sNil, U 0#32, sNil] 55)
  ⟨by (repeat with_reducible first | exact Ext.refl _ | assumption | refine Ext.alloc ?_ _ | refine Ext.drew ?_ | refine Ext.drewN ?_ _ | (refine Ext.setCellP ?_ ?_; focus (first | (simp; done) | (simp; omega) | omega))), (Blk.new w [.slice ad ls.length cap] 39).old _, Blk.newAt [I 0, sNil, U 0#32, sNil] (by simp)⟩ (fun W1 hW1 => ?_)
 obtain ⟨hx1, hb1, hr1⟩ := hW1
 have HX1 := Lib.hid hx1
 have hbc1 := hb1.cells
 have HR1 := Lib.hid hr1
 clear hr1 hx1 hb1
 have HRB := Lib.hid (show w.heap.size <= w.heap.size + 1 from Nat.le_succ _)
 generalize w.heap.size + 1 = rb at *
 go_upto_region 2 with (first
  | (go_at_call 69; (with_reducible refine (atomsOf_good _ ls _ (HL.out.later HX1.out) HOK.out HM.out).mono ?_); rintro e w2 ⟨fv, hv, vv, l, he, hC, hA, hx2⟩; subst he; have HC := Lib.hid hC; have HA2 := Lib.hid hA; obtain ⟨fa, fc, ha, hc, va, vc, hf1, hf2, hf3⟩ := hA.forms; subst hf1; subst hf2; subst hf3; have HX2 := Lib.hid (HX1.out.trans hx2); have HR2 := Lib.hid (HR1.out.later hx2); clear hx2 hC hA))
 clear hbc1
 have HIT := Lib.hid (atomsIt HC.out)
 have HFEW := Lib.hid (show (atomsL (vecV ls) l).fr.length <= 8193 from by
  have h1 := ats_few (vecV ls) l
  have h2 := HC.out.len
  rw [sizeN_flat] at h2
  have := HNB.out.2.1
  omega)
 generalize hse : atomsL (vecV ls) l = s at *
 have HSE := Lib.hid hse
 clear hse
 have HVK := Lib.hid (show ∀ v ∈ s.vs, VOk v /\ v.length <= 256 from fun v hv => by
  obtain ⟨a, _, rfl⟩ := HIT.out.inv.vec hv
  exact ⟨vec_ok HM.out a, by rw [vecV_len]; exact HNB.out.1⟩)
 refine hideW (Φ := fun W => Code.wp _ _ _ _ W) (fun W => Ext w W /\ Blk W rb [I 0, sNil, U 0#32, sNil] 55 /\ Blk W w2.heap.size [.slice fa s.fr.length fc, .slice ha s.wh.length hc, .slice va s.vs.length vc] 117 /\ AtomsAt W (.slice fa s.fr.length fc) (.slice ha s.wh.length hc) (.slice va s.vs.length vc) s)
  ⟨HX2.out.alloc _, HR2.out.old _, Blk.new w2 _ 117, HA2.out.later ((Ext.refl _).alloc _)⟩ (fun W3 hW3 => ?_)
 obtain ⟨hx3, hr3, hb3, ha3⟩ := hW3
 have HX3 := Lib.hid hx3
 have HR3 := Lib.hid hr3
 have HB3 := Lib.hid hb3
 have HA3 := Lib.hid ha3
 have hbc3 := hb3.cells
 clear hx3 hr3 hb3 ha3 HA2 HX2 HR2
 generalize w2.heap.size = xb at *
 have hvl : s.vs.length <= 8193 := by have h1 := HIT.out.inv.ok.short; have h2 := HIT.out.inv.ok.len; have h3 := HFEW.out; omega
 have HRX := Lib.hid (show rb < W3.heap.size from HR3.out.lt)
 go_upto_block 0 with fail
 go_cut [28] (fun _ wc => Hid (∀ v ∈ s.vs, ∀ x, ¬ OnL v x) /\ Hid (Blk wc rb [I 0, sNil, U 0#32, sNil] 55) /\ Hid (Ext W3 wc))
 case first =>
  go_wp2_with fail
  go_loopw [28] (fun i wr => ∃ k : Nat, k <= s.vs.length /\ i = I k /\ Hid (∀ j u, j < k -> s.vs[j]? = some u -> ∀ x, ¬ OnL u x) /\ Hid (Ext W3 wr)) (fun i _ => s.vs.length - (intOf i).toNat)
  case atStart => exact ⟨0, Nat.zero_le _, rfl, fun j u h => absurd h (Nat.not_lt_zero j), Ext.refl _⟩
  case round =>
   obtain ⟨k, hk, rfl, HN, HX⟩ := hrel
   clear hbc3
   by_cases hlt : k < s.vs.length
   · have hkd : decide ((k : Int) < (s.vs.length : Int)) = true := decide_eq_true (by omega)
     have HLT := Lib.hid hlt
     obtain ⟨va', vc', hve, -, -, hvf⟩ := HA3.out.vs.form
     obtain ⟨b1, o1, x1, he1, hc1, hi1⟩ := hvf k _ (List.getElem?_eq_getElem hlt)
     cases hve
     subst he1
     replace hc1 := HX.out.cell hc1
     obtain ⟨ya, yc, rfl, -⟩ := hi1.form
     have HI := Lib.hid (hi1.later HX.out)
     have HV := Lib.hid (HVK.out _ (List.getElem_mem hlt))
     have HGK := Lib.hid (show s.vs[k]? = some s.vs[k] from List.getElem?_eq_getElem hlt)
     clear hi1 hvf
     generalize s.vs[k] = v at *
     go_upto_region 10 with (first
      | (go_at_call 70; (with_reducible refine (gLoop_any _ v _ HI.out HV.out.1 HV.out.2).mono ?_); rintro e w5 ⟨u5, tr, he, hl5, ho5, hx5⟩; subst he; have HLI := Lib.hid hl5; have HO5 := Lib.hid ho5; obtain ⟨ta, tc, hte, -⟩ := ho5.ints.form; subst hte; have HX5 := Lib.hid (HX.out.trans hx5); have HXR := Lib.hid hx5; clear hl5 ho5 hx5))
     by_cases htr : tr = []
     · subst htr
       have HNO := Lib.hid (LoopIs.nil.1 HLI.out)
       clear HLI
       go_wp2_with fail
       go_roundw
       case rel =>
        refine ⟨k + 1, Nat.succ_le_of_lt HLT.out, by go_num, fun j u hj hu => ?_, HX5.out⟩
        rcases Nat.lt_or_ge j k with g | g
        · exact HN.out j u g hu
        · obtain rfl : j = k := by omega
          rw [HGK.out] at hu
          cases hu
          exact HNO.out
       case measure => have := HLT.out; simp [intOf]; omega
     · have htl : 0 < tr.length := List.length_pos_iff.2 htr
       have htd : decide ((0 : Int) < (tr.length : Int)) = true := decide_eq_true (by omega)
       have HTR := Lib.hid htr
       clear htr
       obtain ⟨i, i1, i2, i3, i4⟩ := HIT.out.inv.first HLT.out
       have hwl := HIT.out.inv.ok.len
       obtain ⟨a, hfa, hAL⟩ := HIT.out.loop HGK.out (by rw [List.getElem?_eq_getElem i1]; rw [List.getD_eq_getElem?_getD, List.getElem?_eq_getElem i1] at i2; exact congrArg some i2) i4 HN.out HLI.out HTR.out
       have HFA := Lib.hid hfa
       have HAL := Lib.hid hAL
       have HIF := Lib.hid (show i < s.fr.length by omega)
       obtain ⟨hb, ho, hhf⟩ : ∃ hb ho, ha = some ⟨hb, ho, none⟩ := by
        obtain ⟨ha', hc', hhe, -, -, hhf⟩ := HA3.out.wh.form
        obtain ⟨hb, ho, he, -⟩ := hhf i _ (List.getElem?_eq_getElem i1)
        cases hhe
        exact ⟨hb, ho, he⟩
       subst hhf
       have HWC := Lib.hid (show ∀ W, Ext W3 W -> ∀ j, j < s.wh.length -> W.cell? ⟨hb, ho + j, none⟩ = some (I (s.wh.getD j 0)) from fun W hW j hj => by
        obtain ⟨ha', hc', hhe, -, -, hhf⟩ := HA3.out.wh.form
        obtain ⟨hb', ho', he, hcell⟩ := hhf j _ (List.getElem?_eq_getElem hj)
        cases hhe
        cases he
        rw [List.getD_eq_getElem?_getD, List.getElem?_eq_getElem hj]
        exact hW.cell hcell)
       have HIX := Lib.hid (show ∀ W, Ext W3 W -> Calls Tryz.prog 72 #[.slice (some ⟨hb, ho, none⟩) s.wh.length hc, I (k : Int)] W fun e w' => e = .returned (I (i : Int)) /\ Ext W w' from fun W hW => by
        refine (Tryz.slices_Index_int hb ho s.wh.length hc s.wh (k : Int) W (Nat.le_refl _) (by have := HFEW.out; omega) (HWC.out W hW)).mono ?_
        rintro e w' ⟨rfl, rfl⟩
        refine ⟨?_, Ext.refl _⟩
        rw [Lib.idxOf_hit s.wh s.wh.length i (k : Int) i1 (Nat.le_refl _) i2 i3])
       have HEN := Lib.hid (show ∀ W, Ext W3 W -> Calls Tryz.prog 71 #[.agg #[.slice fa s.fr.length fc, .slice (some ⟨hb, ho, none⟩) s.wh.length hc, .slice (some ⟨b1, o1, none⟩) s.vs.length vc], I (i : Int)] W fun e w' => e = .returned (.agg #[U a, U (endV s.fr i)]) /\ Ext W w' from fun W hW => by
        refine (aEnds_any _ _ _ s i W (HA3.out.later hW) HIF.out).mono ?_
        rintro e w' ⟨he, hx⟩
        refine ⟨?_, hx⟩
        rw [he]
        have h2 := HFA.out
        rw [List.getElem?_eq_getElem HIF.out] at h2
        rw [Option.some.inj h2])
       clear i1 i2 i3 i4 hfa hAL hwl
       generalize endV s.fr i = eh at *
       go_upto_region 11 with fail
       have kB := (HB3.out.later HX5.out).keep
       refine wp_region_E 7 rfl (by kernel_rfl) (by kernel_rfl) ?_
       refine WEi_at 0 ?_
       iterate 6
        refine WEi_q rfl (by decide) (by kernel_rfl) rfl ?_; apply Exists.intro; refine ⟨fun w1 hx1 => ?_, ?_⟩
        · have hq1 := hx1.cells; go_simp; try go_bits
          first | with_reducible rfl | (first | (refine (HIX.out _ (HX5.out.trans hx1)).mono ?_; rintro e w' ⟨rfl, hx⟩; exact ⟨rfl, hx⟩) | (refine (HEN.out _ (HX5.out.trans hx1)).mono ?_; rintro e w' ⟨rfl, hx⟩; exact ⟨rfl, hx⟩))
        simp only [Act.put, List.setIfInBounds_toArray, List.set_cons_zero, List.set_cons_succ, Nat.reduceAdd]
       refine WEi_out ?_
       refine WE_do 6 rfl (by decide) (by kernel_rfl) rfl (fun wa hxa K hK => ?_)
       go_simp
       refine hK _ _ ((Ext.refl _).alloc _) ?_
       clear hK K
       refine WE_done (by kernel_rfl) (fun wb hxb => ?_)
       (try simp only [List.drop_succ_cons, List.drop_zero])
       have HSA := Lib.hid (show w5.heap.size <= wa.heap.size from hxa.size)
       have hx1b : Ext w5 wb := hxa.trans (((Ext.refl wa).alloc _).trans hxb)
       have cS : Blk wb wa.heap.size [.int .u32 0, .int .u32 0] 122 := Blk.later (by (repeat (first | with_reducible assumption | (with_reducible refine Blk.newAt _ ?_; focus (first | with_reducible rfl | (simp; done))) | with_reducible refine Blk.old ?_ _ | with_reducible refine Blk.drew ?_))) hxb
       have kS := cS.cells
       have kSf := cS.frozen
       clear hxa hxb kB
       go_upto_region 12 with fail
       refine hideW (Φ := fun W => Code.wp _ _ _ _ W) (fun W => Ext w5 W /\ Blk W wa.heap.size [U a, U eh] 122) ⟨?_, (cS.set 0 _).set 1 _⟩ (fun W4 hW4 => ?_)
       · exact Ext.setCellP HSA.out (Ext.setCellP HSA.out hx1b)
       clear cS kS kSf hx1b
       obtain ⟨hx4, cS4⟩ := hW4
       have HX4 := Lib.hid hx4
       have kS := cS4.cells
       have HR4 := Lib.hid ((HR3.out.later HX5.out).later hx4)
       have hrf := HR4.out.frozen
       have hrc := HR4.out.cells
       have HT4 := Lib.hid (HO5.out.later hx4)
       clear hx4 cS4
       generalize wa.heap.size = sb at *
       clear wa wb
       go_wp2_with fail
       refine hideW (Φ := fun W => bodyPost Tryz.prog Tryz.f31 (ANetOut ls w) _ _ W) (fun W => Ext w W /\ Blk W rb [I 2, sNil, U a, .slice ta tr.length tc] 55 /\ IntsAt W (.slice ta tr.length tc) tr)
        ⟨?_, ?_, ?_⟩ (fun W6 hW6 => ?_)
       · refine Ext.setCell (Ext.setCell (Ext.setCell (Ext.setCell (HX3.out.trans (HX5.out.trans HX4.out)) ?_ _) ?_ _) ?_ _) ?_ _ <;> exact HRB.out
       · exact (((HR4.out.set 0 (I 2)).set 1 sNil).set 2 (U a)).set 3 (.slice ta tr.length tc)
       · have h0 : rb < wr.heap.size := Nat.lt_of_lt_of_le HRX.out HX.out.size
         exact OwnI.ints (own_set (own_set (own_set (own_set HT4.out (p := ⟨rb, 0, none⟩) h0 _) (p := ⟨rb, 1, none⟩) h0 _) (p := ⟨rb, 2, none⟩) h0 _) (p := ⟨rb, 3, none⟩) h0 _)
       obtain ⟨hx6, hr6, ht6⟩ := hW6
       have hc6 := hr6.cells
       refine bodyPost_ret (v := .tuple #[.agg #[I 2, sNil, U a, .slice ta tr.length tc], I 0]) (by rw [results_cell_tmp rfl]; go_simp) rfl ?_
       refine ⟨sNil, .slice ta tr.length tc, ⟨2, [], [], a, tr⟩, rfl, ⟨parts_nil W6, rfl, fun i p r h1 h2 => (by cases h1), ht6⟩, ⟨l, HC.out, .inl ⟨i, ?_⟩⟩, hx6⟩
       rw [HSE.out]; exact HAL.out
   · have HKE := Lib.hid (show k = s.vs.length by omega)
     go_wp2_with fail
     go_meet
     case rel =>
      refine ⟨fun v hv x => ?_, HR3.out.later HX.out, HX.out⟩
      obtain ⟨j, hj⟩ := List.getElem?_of_mem hv
      exact HN.out j v (by rw [HKE.out]; exact (List.getElem?_eq_some_iff.1 hj).1) hj x
 case rest =>
  obtain ⟨HNO, HRC, HXC⟩ := hcut
  clear hbc3
  have hbc := (HB3.out.later HXC.out).cells
  go_upto_region 15 with (first
   | (go_at_call 73; (with_reducible refine (aRanks_any _ _ _ s _ (HA3.out.later HXC.out) HVK.out (Nat.le_trans hvl (by decide))).mono ?_); intro e w5 h5; obtain ⟨ua, uc, rks, he, hk5, ho5, hx5⟩ := ranks_ok h5 HNO.out; subst he; have HRK := Lib.hid hk5; have HO5 := Lib.hid ho5; have HX5 := Lib.hid (HXC.out.trans hx5); clear h5 hk5 ho5 hx5))
  clear hbc
  have hbc := (HB3.out.later HX5.out).cells
  go_upto_region 18 with fail
  refine hideW (Φ := fun W => Code.wp _ _ _ _ W) (fun W => Ext w5 W /\ Blk W w5.heap.size [I 1, sNil, U 0#32, sNil] 55)
   ⟨(Ext.refl _).alloc _, Blk.new w5 [I 1, sNil, U 0#32, sNil] 55⟩ (fun W6 hW6 => ?_)
  obtain ⟨hx6, hk6⟩ := hW6
  have HX6 := Lib.hid (HX5.out.trans hx6)
  have HRS := Lib.hid HO5.out.read
  have HT6 := Lib.hid (show NtS w5 W6 w5.heap.size sNil [] [] from ⟨hx6, hk6, ⟨rfl, .inl ⟨rfl, rfl⟩⟩, rfl, fun i p r h1 h2 => by cases h1⟩)
  have HKB := Lib.hid (show w5.heap.size <= w5.heap.size from Nat.le_refl _)
  clear hx6 hk6 hbc
  have hbc := (HB3.out.later HX6.out).cells
  generalize hkb : w5.heap.size = kb at HT6 ⊢
  have HKE := Lib.hid hkb
  clear hkb
  have hwl8 : s.wh.length <= 8193 := by have h2 := HIT.out.inv.ok.len; have h3 := HFEW.out; omega
  have HK5 := Lib.hid (show W3.heap.size <= kb from by rw [<- HKE.out]; exact HX5.out.size)
  go_wp2_with fail
  go_loopw [69] (fun i wr => ∃ (k : Nat) (pa : Option Addr) (pc : Nat) (ps : List Prt) (rs : List (List Int)), k <= s.wh.length /\ i = I k /\ ps.length = k /\ Hid (NtS w5 wr kb (.slice pa k pc) ps rs) /\
   Hid (∀ (j : Nat) (a : BitVec 32), j < k -> s.fr[j]? = some a -> ∃ p r, ps[j]? = some p /\ rs[j]? = some r /\ p.fr = a /\ p.up = endV s.fr j /\ RanksIs (vecV ls a) r)) (fun i _ => s.wh.length - (intOf i).toNat)
  case atStart => exact ⟨0, none, 0, [], [], Nat.zero_le _, rfl, rfl, HT6.out, fun j a h => absurd h (Nat.not_lt_zero j)⟩
  case round =>
   obtain ⟨k, pa, pc, ps, rs, hk, rfl, hpl, HT, HPR⟩ := hrel
   have HPL := Lib.hid hpl
   clear hbc hpl
   have HXT := Lib.hid (HX5.out.trans HT.out.ext)
   have hbc := (HB3.out.later HXT.out).cells
   have hkc := HT.out.box.cells
   have hkf := HT.out.box.frozen
   by_cases hlt : k < s.wh.length
   · have hkd : decide ((k : Int) < (s.wh.length : Int)) = true := decide_eq_true (by omega)
     have HLT := Lib.hid hlt
     have hfl : k < s.fr.length := by have h2 := HIT.out.inv.ok.len; omega
     have HFL := Lib.hid hfl
     obtain ⟨q, hq1, hq2⟩ := HIT.out.inv.place k _ (List.getElem?_eq_getElem hfl)
     obtain ⟨ha', hc', hhe, -, -, hhf⟩ := HA3.out.wh.form
     obtain ⟨b1, o1, he1, hc1⟩ := hhf k _ hq1
     cases hhe
     subst he1
     replace hc1 := HXT.out.cell hc1
     have hql := (List.getElem?_eq_some_iff.1 hq2).1
     have hrl : q < rks.length := by rw [HRK.out.1]; exact hql
     obtain ⟨ub, uo, ru, hue, hru, hri⟩ : ∃ b o u, ua = some ⟨b, o, none⟩ /\ w5.cell? ⟨b, o + q, none⟩ = some u /\ IntsAt w5 u rks[q] := by
      obtain ⟨ua', uc', he, -, -, hf⟩ := HRS.out.form
      obtain ⟨b, o, u, h1, h2, h3⟩ := hf q _ (List.getElem?_eq_getElem hrl)
      cases he
      exact ⟨b, o, u, h1, h2, h3⟩
     subst hue
     have HRI := Lib.hid (HRK.out.2 q _ rks[q] hq2 (List.getElem?_eq_getElem hrl))
     have HR7 := Lib.hid (hri.later HT.out.ext)
     obtain ⟨ra, rc, rfl, -⟩ := hri.form
     have HUB := Lib.hid (show ub < kb from by
      rw [<- HKE.out]
      rcases Nat.lt_or_ge ub w5.heap.size with g | g
      · exact g
      · simp [World.cell?, Array.getElem?_eq_none g] at hru)
     replace hru := HT.out.ext.cell hru
     have HRU := Lib.hid hru
     have HRN := Lib.hid (show rks[q].length <= 1000000 by rw [HRI.out.1, vecV_len]; have := HNB.out.1; omega)
     have HSF := Lib.hid (List.getElem?_eq_getElem hfl)
     have HAE := Lib.hid (aEnds_any _ _ _ s k _ (HA3.out.later HXT.out) hfl)
     clear hhf hq1 hq2 hri hru
     generalize rks[q] = r at *
     generalize s.fr[k] = a at *
     generalize hee : endV s.fr k = ee at *
     have HEE := Lib.hid hee
     clear hee
     go_upto_region 22 with (first
      | (go_at_call 71; refine HAE.out.mono ?_; rintro e w7 ⟨he, hx7⟩; subst he; have HT7 := Lib.hid (HT.out.later hx7); have HX7 := Lib.hid hx7; clear hx7))
     clear hkc hkf
     refine hideW (Φ := fun W => Code.wp _ _ _ _ W) (fun W => Ext w7 W /\ Blk W w7.heap.size [U a, U ee] 122)
      ⟨(Ext.refl _).alloc _, Blk.new w7 [U a, U ee] 122⟩ (fun W8 hW8 => ?_)
     obtain ⟨hx8, hb8⟩ := hW8
     have HT8 := Lib.hid (HT7.out.later hx8)
     have HX8 := Lib.hid (HX7.out.trans hx8)
     have HB8 := Lib.hid hb8
     have HAB := Lib.hid (show kb < w7.heap.size from HT7.out.box.lt)
     clear hx8 hb8 hbc HT7 HX7
     generalize w7.heap.size = ab at *
     refine wp_region_R (RK (fun b => b < kb + 1 \/ b = ab)) 15 rfl (by kernel_rfl) (by kernel_rfl) (fun w0 hx0 => ?_)
     have HX0 := Lib.hid (HX8.out.trans hx0)
     have HT0 := Lib.hid (HT8.out.later hx0)
     have HB0 := Lib.hid (HB8.out.later hx0)
     have q1 := RK.keep (A := fun b => b < kb + 1 \/ b = ab) (.inl (Nat.lt_succ_self kb)) (HT0.out.box.cells 1)
     have q2 := RK.keep (A := fun b => b < kb + 1 \/ b = ab) (.inr rfl) (HB0.out.cells 0)
     have q3 := RK.keep (A := fun b => b < kb + 1 \/ b = ab) (.inr rfl) (HB0.out.cells 1)
     have q4 := RK.keep (A := fun b => b < kb + 1 \/ b = ab) (.inl (Nat.lt_succ_of_lt HUB.out)) (HX0.out.cell HRU.out)
     refine WRi_at 0 ?_
     iterate 10
      refine WRi_q (preRK _) rfl (by decide) (by kernel_rfl) rfl ?_; apply Exists.intro; refine ⟨fun w1 hx1 => ?_, ?_⟩
      · go_simp; try go_bits
        first | with_reducible rfl | rfl
      simp only [Act.put, List.setIfInBounds_toArray, List.set_cons_zero, List.set_cons_succ, Nat.reduceAdd]
     refine WRi_out ?_
     clear q1 q2 q3 q4
     refine WR_one 10 rfl (by decide) (by kernel_rfl) rfl (fun K hK => ?_)
     go_simp
     (with_reducible refine (cloneI_any _ r _ (HR7.out.later HX0.out) HRN.out).mono ?_)
     rintro e wA ⟨uA, he, hoA, hxA⟩
     subst he
     have HOA := Lib.hid (own_low hoA (show kb + 1 <= w0.heap.size from HT0.out.box.lt))
     obtain ⟨ca, cc, hue, -⟩ := hoA.ints.form
     subst hue
     have HTA := Lib.hid (HT0.out.later hxA)
     refine hK _ _ (RK.ext hxA) ?_
     clear hK K hoA hxA
     refine WR_q (preRK _) 11 rfl (by decide) (by kernel_rfl) rfl ?_; apply Exists.intro; refine ⟨fun w1 hx1 => ?_, ?_⟩
     · go_simp; try go_bits
       first | with_reducible rfl | rfl
     simp only [Act.put, List.setIfInBounds_toArray, List.set_cons_zero, List.set_cons_succ]
     refine WR_one 12 rfl (by decide) (by kernel_rfl) rfl (fun K hK => ?_)
     go_simp
     refine hK _ _ (RK.ext ((Ext.refl _).alloc _)) ?_
     clear hK K
     have HXB := Lib.hid ((Ext.refl wA).alloc (.cells #[U a, U ee, .slice ca r.length cc] 59))
     have HTB := Lib.hid (HTA.out.later HXB.out)
     have HOB := Lib.hid (own_later HOA.out HXB.out)
     have HSB := Lib.hid (show Reads (wA.alloc (.cells #[U a, U ee, .slice ca r.length cc] 59)) 3 (.slice (some ⟨wA.heap.size, 0, none⟩) 1 1) 1 (Prt.cells ⟨a, ee, ca, r.length, cc⟩) from Reads.made wA 3 59 1 (Prt.cells ⟨a, ee, ca, r.length, cc⟩) rfl (by unfold maxLen; omega))
     have HPO := Lib.hid (show (wA.alloc (.cells #[U a, U ee, .slice ca r.length cc] 59)).ownsRow (kb + 1) 59 3 (.slice pa k pc) k (pcells ps) from by have h := HTB.out.own; unfold OwnP at h; rw [HPL.out] at h; exact h)
     have HBB := Lib.hid ((HB8.out.later hx0))
     have HNA := Lib.hid (show ∀ g, (Value.slice pa k pc).ownBlock = some g -> ¬ (g < kb + 1 \/ g = ab) from fun g hg ha => by
      have h1 := own_ge HPO.out g hg
      obtain ⟨_, _, cur, h2⟩ := own_cells HT0.out.own (g := g) hg
      rcases ha with ha | rfl
      · omega
      · have h3 := HB0.out
        unfold Blk at h3
        rw [h2] at h3
        have h4 := Option.some.inj h3
        injection h4 with _ h5 _
        exact absurd h5 (by decide))
     have HSZ := Lib.hid (show kb + 1 <= (wA.alloc (.cells #[U a, U ee, .slice ca r.length cc] 59)).heap.size from HTB.out.box.lt)
     refine WR_one 13 rfl (by decide) (by kernel_rfl) rfl (fun K hK => ?_)
     refine wp_of_list (ops := #[]) rfl ?_
     refine wpList_app_at rfl (.tmp 78) (.tmp 89) 53 rfl (kb + 1) 59 _ 3 32 Tryz.underlying53 infoPart rfl (by decide) (by decide) _ _ _ rfl HPO.out _ _ _ rfl HSB.out (fun q hq => pcells_one [⟨a, ee, ca, r.length, cc⟩] q (by simpa [pcells] using hq)) (by omega) HSZ.out ?_
     intro v8 w8 ho8 hg8 hl8
     refine ⟨rfl, hK _ _ (RK.grown hg8 HNA.out) ?_⟩
     clear hK K
     obtain ⟨ya, yc, hv8⟩ := own_form ho8
     subst hv8
     have HT9 := Lib.hid (HTB.out.add (p := ⟨a, ee, ca, r.length, cc⟩) (Nat.le_of_eq HKE.out) HOB.out (by rw [HPL.out]; exact ho8) hg8)
     have hb9 := blk_grown HTB.out.box (fun g e => by have := own_ge HPO.out g e; omega) hg8
     have hkc9 := hb9.cells
     have hkf9 := hb9.frozen
     clear ho8 hg8 hl8 hb9 hx0
     refine WR_q (preRK _) 14 rfl (by decide) (by kernel_rfl) rfl ?_; apply Exists.intro; refine ⟨fun w1 hx1 => ?_, ?_⟩
     · go_simp; try go_bits
       first | with_reducible rfl | rfl
     simp only [Act.put, List.setIfInBounds_toArray, List.set_cons_zero, List.set_cons_succ]
     refine WR_done (by kernel_rfl) ?_
     (try simp only [List.drop_succ_cons, List.drop_zero])
     go_wp2_with fail
     go_roundw
     case rel =>
      refine ⟨k + 1, ya, yc, ps ++ [(⟨a, ee, ca, r.length, cc⟩ : Prt)], rs ++ [r], Nat.succ_le_of_lt HLT.out, by go_num, by rw [List.length_append, HPL.out]; rfl, HT9.out, fun j b hj hb => ?_⟩
      have hrsl : rs.length = k := by rw [HT0.out.len, HPL.out]
      have hpsl := HPL.out
      rcases Nat.lt_or_ge j k with g | g
      · obtain ⟨p, t, h1, h2, h3, h4, h5⟩ := HPR.out j b g hb
        exact ⟨p, t, by rw [List.getElem?_append_left (by omega)]; exact h1, by rw [List.getElem?_append_left (by omega)]; exact h2, h3, h4, h5⟩
      · obtain rfl : j = k := by omega
        rw [HSF.out] at hb
        cases hb
        refine ⟨(⟨a, ee, ca, r.length, cc⟩ : Prt), r, ?_, ?_, rfl, HEE.out.symm, HRI.out⟩
        · rw [List.getElem?_append_right (by omega), hpsl, Nat.sub_self]; rfl
        · rw [List.getElem?_append_right (by omega), hrsl, Nat.sub_self]; rfl
     case measure => have := HLT.out; simp [intOf]; omega
   · have hkd : decide ((k : Int) < (s.wh.length : Int)) = false := decide_eq_false (by omega)
     have HKL := Lib.hid (show k = s.fr.length by have h2 := HIT.out.inv.ok.len; omega)
     have HRW := Lib.hid ((HR3.out.later HXT.out))
     have hrc := HRW.out.cells
     have hrf := HRW.out.frozen
     have HRK2 := Lib.hid (show rb < kb from Nat.lt_of_lt_of_le HRX.out HK5.out)
     clear hbc
     go_wp2_with fail
     refine hideW (Φ := fun W => bodyPost Tryz.prog Tryz.f31 (ANetOut ls w) _ _ W) (fun W => Ext w W /\ Blk W rb [I 1, .slice pa k pc, U 0#32, sNil] 55 /\ CertAt W (.slice pa k pc) sNil ⟨1, ps, rs, 0#32, []⟩)
      ⟨?_, ?_, ?_⟩ (fun W6 hW6 => ?_)
     · refine Ext.setCell (Ext.setCell (Ext.setCell (Ext.setCell (HX3.out.trans HXT.out) ?_ _) ?_ _) ?_ _) ?_ _ <;> exact HRB.out
     · exact (((HRW.out.set 0 (I 1)).set 1 (.slice pa k pc)).set 2 (U 0#32)).set 3 sNil
     · have h0 : rb < kb + 1 := Nat.lt_succ_of_lt HRK2.out
       have st : ∀ (W : World) (o : Nat) (x : Value), OwnP W (kb + 1) (.slice pa k pc) ps /\ (∀ (i : Nat) (p : Prt) (r : List Int), ps[i]? = some p -> rs[i]? = some r -> OwnI W (kb + 1) p.rk r) ->
        OwnP (W.setCell ⟨rb, o, none⟩ x) (kb + 1) (.slice pa k pc) ps /\ (∀ (i : Nat) (p : Prt) (r : List Int), ps[i]? = some p -> rs[i]? = some r -> OwnI (W.setCell ⟨rb, o, none⟩ x) (kb + 1) p.rk r) :=
        fun W o x h => ⟨own_set h.1 h0 x, fun i p r h1 h2 => own_set (h.2 i p r h1 h2) h0 x⟩
       obtain ⟨g1, g2⟩ := st _ 3 sNil (st _ 2 (U 0#32) (st _ 1 (.slice pa k pc) (st _ 0 (I 1) ⟨HT.out.own, HT.out.rk⟩)))
       exact ⟨g1.parts, HT.out.len, fun i p r h1 h2 => (g2 i p r h1 h2).ints, Reads.nil _ 1⟩
     obtain ⟨hx6, hr6, ht6⟩ := hW6
     have hc6 := hr6.cells
     refine bodyPost_ret (v := .tuple #[.agg #[I 1, .slice pa k pc, U 0#32, sNil], I 0]) (by rw [results_cell_tmp rfl]; go_simp) rfl ?_
     refine ⟨.slice pa k pc, sNil, ⟨1, ps, rs, 0#32, []⟩, rfl, ht6, ⟨l, HC.out, .inr ?_⟩, hx6⟩
     rw [HSE.out]
     refine ⟨fun a ha x hx => ?_, rfl, rfl, rfl, by rw [<- HKL.out]; exact HPL.out, by rw [<- HKL.out]; exact HT.out.len.trans HPL.out, fun i a ha => HPR.out i a (by rw [HKL.out]; exact (List.getElem?_eq_some_iff.1 ha).1) ha⟩
     obtain ⟨i, hi⟩ := List.getElem?_of_mem ha
     obtain ⟨q, h1, h2⟩ := HIT.out.inv.place i a hi
     exact HNO.out _ (List.mem_of_getElem? h2) x hx
end Go.Proofs.YtdpmnldmbnpfpaaGreatDoor

/- The statements' head of layer 21: of one node that steps to itself a loop is told. Conditions: none. -/
namespace Go.Proofs.YtdpmnldmbnpfpaaGreatDoor
open Go Go.RowKit Go.Maps Go.Proofs

def s21N : List (List Rul) := [[⟨0#32, 0, 1, 0⟩]]
end Go.Proofs.YtdpmnldmbnpfpaaGreatDoor
