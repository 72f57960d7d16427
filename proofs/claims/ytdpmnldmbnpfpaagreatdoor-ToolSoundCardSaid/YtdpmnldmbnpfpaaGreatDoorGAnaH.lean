/- TracesL, SoundL, AnaH: these texts in one. Conditions: each part names its own. -/
import Derived.Test.YtdpmnldmbnpfpaaGreatDoorGPl
import Derived.Test.YtdpmnldmbnpfpaaGreatDoorGAna
import Derived.Test.YtdpmnldmbnpfpaaGreatDoorGFitC
import Derived.Test.YtdpmnldmbnpfpaaGreatDoorGChk
/- Plain laws of traces: one that holds goes round, and a loop's nodes from any of them on are one. Conditions: none. -/
namespace Go.Proofs.YtdpmnldmbnpfpaaGreatDoor
open Go.RowKit

theorem trace_iff {ls : List (List Rul)} (hm : netMayV ls = 0) {a : BitVec 32} {tr : List Int} :
 traceV ls a tr = 0 ↔ 0 < tr.length /\ ∀ j, j < tr.length -> nxv (vecV ls a) (tr.getD j 0) = tr.getD ((j + 1) % tr.length) 0 /\ 0 <= tr.getD ((j + 1) % tr.length) 0 := by
 constructor
 · intro h
   have h0 : 0 < tr.length := by
    rcases Nat.eq_zero_or_pos tr.length with g | g
    · unfold traceV at h; rw [if_pos g] at h; cases h
    · exact g
   refine ⟨h0, fun j hj => ?_⟩
   cases hb : trOkV ls a tr j with
   | false => rw [traceV_no hj hb] at h; cases h
   | true =>
     unfold trOkV at hb
     have hs := of_decide_eq_true hb
     exact ⟨((step_nx hm).1 hs).1, (step_in hm hs).2.2.1⟩
 · rintro ⟨h0, h⟩
   refine traceV_yes h0 fun j hj => ?_
   unfold trOkV
   obtain ⟨h1, h2⟩ := h j hj
   exact decide_eq_true ((step_nx hm).2 ⟨h1, by omega⟩)
theorem trace_it {ls : List (List Rul)} (hm : netMayV ls = 0) {a : BitVec 32} {tr : List Int} (h : traceV ls a tr = 0) : ∀ j, itv (vecV ls a) j (tr.getD 0 0) = tr.getD (j % tr.length) 0
 | 0 => by rw [Nat.zero_mod]; rfl
 | j + 1 => by
   obtain ⟨h0, hn⟩ := (trace_iff hm).1 h
   rw [itv_out, trace_it hm h j, (hn _ (Nat.mod_lt _ h0)).1, Nat.mod_add_mod]
theorem trace_on {ls : List (List Rul)} (hm : netMayV ls = 0) {a : BitVec 32} {tr : List Int} (h : traceV ls a tr = 0) : 0 < tr.length /\ OnL (vecV ls a) (tr.getD 0 0) /\ itv (vecV ls a) tr.length (tr.getD 0 0) = tr.getD 0 0 := by
 obtain ⟨h0, hn⟩ := (trace_iff hm).1 h
 have hb : itv (vecV ls a) tr.length (tr.getD 0 0) = tr.getD 0 0 := by rw [trace_it hm h, Nat.mod_self]
 have hp := (hn (tr.length - 1) (by omega)).2
 rw [show tr.length - 1 + 1 = tr.length by omega, Nat.mod_self] at hp
 exact ⟨h0, ⟨hp, tr.length, h0, hb⟩, hb⟩
theorem wayV_getD {v : List Int} {x : Int} {m j : Nat} (h : j < m) : (wayV v x m).getD j 0 = itv v j x := by
 rw [List.getD_eq_getElem?_getD, wayV_get? h]; rfl
theorem trace_way {ls : List (List Rul)} (hm : netMayV ls = 0) {a : BitVec 32} {y : Int} (hy : OnL (vecV ls a) y) {m : Nat} (h0 : 0 < m) (hb : itv (vecV ls a) m y = y) : traceV ls a (wayV (vecV ls a) y m) = 0 := by
 refine (trace_iff hm).2 ⟨by rw [wayV_len]; exact h0, fun j hj => ?_⟩
 rw [wayV_len] at hj ⊢
 have e : (wayV (vecV ls a) y m).getD ((j + 1) % m) 0 = itv (vecV ls a) (j + 1) y := by
  rw [wayV_getD (Nat.mod_lt _ h0)]
  rcases Nat.lt_or_ge (j + 1) m with g | g
  · rw [Nat.mod_eq_of_lt g]
  · rw [show j + 1 = m by omega, Nat.mod_self, hb]; rfl
 rw [e, wayV_getD hj]
 exact ⟨(itv_out _ _ _).symm, (hy.it (vec_ok hm a) _).1⟩
theorem IsPer.it {v : List Int} {b : Int} {p : Nat} (h : IsPer v b p) (hb : 0 <= b) (i : Nat) : IsPer v (itv v i b) p := by
 refine ⟨h.pos, by rw [<- itv_add, Nat.add_comm, itv_add, h.back], fun j h0 hj he => ?_⟩
 obtain ⟨m, hm⟩ := (h.on hb).reach i
 refine h.first j h0 hj ?_
 conv => lhs; rw [<- hm]
 rw [<- itv_add, Nat.add_comm, itv_add, he, hm]
end Go.Proofs.YtdpmnldmbnpfpaaGreatDoor

/- Plain laws for the law CheckSound: what follows from what is told of a network and a certificate. Conditions: none. -/
namespace Go.Proofs.YtdpmnldmbnpfpaaGreatDoor
open Go.RowKit

theorem free_no {l : List (BitVec 32)} {ls : List (List Rul)} {c : Crt} (hm : netMayV ls = 0) (hC : Cuts ls.flatten l) (hlen : c.rks.length = c.ps.length) (hf : FreeOk ls.length c) (hz : partsZ l ls (c.ps.zip c.rks) = 0) (a : BitVec 32) : ∀ x, ¬ OnL (vecV ls a) x := by
 obtain ⟨rk, h⟩ := free_falls hC hlen hf.meet hz a
 refine falls_no (vec_ok hm a) (rk := fun x => rk.getD x.toNat 0) fun x hx hn => ?_
 have h1 := hx.1
 have h2 := hx.2
 rw [vecV_len] at h2
 have e : ((x.toNat : Nat) : Int) = x := Int.toNat_of_nonneg h1
 have hs : stepN ls a (x.toNat : Int) = some (nxv (vecV ls a) x) := by rw [e]; exact (step_nx hm).2 ⟨rfl, hn⟩
 exact (h x.toNat _ (by omega) hs).2.2
inductive SoundIs (ls : List (List Rul)) (c : Crt) : Int × Int -> Prop
 | no (z : Int) (hz : z ≠ 0) : SoundIs ls c (0, z)
 | free (hm : netMayV ls = 0) (hc : certMayV ls.length c = 0) (h : ∀ a x, ¬ OnL (vecV ls a) x) : SoundIs ls c (1, 0)
 | loop (hm : netMayV ls = 0) (hc : certMayV ls.length c = 0) (h0 : 0 < c.tr.length) (h1 : c.tr.length <= 256) (hon : OnL (vecV ls c.dest) (c.tr.getD 0 0)) (hb : itv (vecV ls c.dest) c.tr.length (c.tr.getD 0 0) = c.tr.getD 0 0) : SoundIs ls c (2, 0)
theorem ans_sound {l : List (BitVec 32)} {ls : List (List Rul)} {c : Crt} (hC : Cuts ls.flatten l) (hlen : c.rks.length = c.ps.length) : SoundIs ls c (ansV l ls c) := by
 by_cases hm : netMayV ls = 0
 · by_cases hc : certMayV ls.length c = 0
   · by_cases hv : c.vd = 1
     · have hf := free_ok hc hv
       rw [ans_free hm hf]
       by_cases hz : partsZ l ls (c.ps.zip c.rks) = 0
       · rw [if_neg (by rw [hz]; simp)]
         exact .free hm hc (free_no hm hC hlen hf hz)
       · rw [if_pos hz]
         exact .no _ hz
     · have hf := loop_ok hc hv
       rw [ans_loop hm hf]
       by_cases hz : traceV ls c.dest c.tr = 0
       · rw [if_neg (by rw [hz]; simp), hf.vd]
         obtain ⟨h0, hon, hb⟩ := trace_on hm hz
         refine .loop hm hc h0 ?_ hon hb
         have h1 := hf.few
         have h2 := (netMay_tabs hm).1
         omega
       · rw [if_pos hz]
         exact .no 17 (by decide)
   · unfold ansV
     rw [if_neg (by rw [hm]; simp), if_pos hc]
     exact .no _ hc
 · unfold ansV
   rw [if_pos hm]
   exact .no _ hm
end Go.Proofs.YtdpmnldmbnpfpaaGreatDoor

/- Plain laws for the law AnalyzeHolds: what analyze makes is accepted, and which cut is its address. Conditions: none. -/
namespace Go.Proofs.YtdpmnldmbnpfpaaGreatDoor
open Go Go.RowKit Go.Maps Go.Proofs

/-- The addresses of an atom have its vector. -/
theorem AtomsIt.within {ls : List (List Rul)} {l : List (BitVec 32)} {s : Ats} (h : AtomsIt ls l s) (hC : Cuts ls.flatten l) {i : Nat} (hi : i < s.fr.length) {a : BitVec 32} (h1 : uv s.fr[i] <= uv a) (h2 : uv a <= uv (endV s.fr i)) : vecV ls a = vecV ls s.fr[i] := by
 have h3 : ivN s.fr a = i := by
  unfold ivN
  rw [atN_eq h.rise hi h1 (fun hj => ?_)]
  · rfl
  · have := end_pos h.rise hj; omega
 have h4 := h.vec hC a
 simp only [h3] at h4
 exact h4.symm
theorem ranks_fall {ls : List (List Rul)} (hm : netMayV ls = 0) {a : BitVec 32} {r : List Int} (hr : RanksIs (vecV ls a) r) {v : Nat} (hv : v < ls.length) : badS ls r a v = false := by
 have h := holds_ok (l := []) hm hr
 rw [one_pt, fallV_zero] at h
 exact h a (List.mem_singleton.2 rfl) v hv
theorem ana_holds {ls : List (List Rul)} {l : List (BitVec 32)} {c : Crt} (hm : netMayV ls = 0) (hC : Cuts ls.flatten l) (h : AnaIs ls c) : certMayV ls.length c = 0 /\ ansV l ls c = (c.vd, 0) := by
 have hF := h.facts hm
 have hI := atomsIt hC
 have hsz := (netMay_tabs hm).2.1
 rcases h.at hC with ⟨i, h⟩ | h
 · obtain ⟨b, p, h1, h2, h3⟩ := h.loop.cons h.ne
   have h0 : 0 <= b := h1.1.1
   have hv := vec_ok hm c.dest
   have hL : LoopOk ls.length c := by
    refine ⟨h.vd, h.ps, List.length_pos_iff.2 h.ne, hF.tr, hF.trb, ?_⟩
    refine trG_no c.tr [] (by rw [List.nil_append, h3]; exact h2.nodup) fun x hx => ?_
    have hd : c.tr.headD 0 = b := by
     rw [h3]
     have := h2.pos
     obtain ⟨q, rfl⟩ : ∃ q, p = q + 1 := ⟨p - 1, by omega⟩
     unfold wayV
     rw [List.range_succ_eq_map, List.map_cons]; rfl
    rw [hd]
    rw [h3] at hx
    obtain ⟨j, _, rfl⟩ := wayV_mem.1 hx
    exact h1.2 _ (h1.1.it hv j)
   have ht : traceV ls c.dest c.tr = 0 := by rw [h3]; exact trace_way hm h1.1 h2.pos h2.back
   refine ⟨hL.may, ?_⟩
   rw [ans_loop hm hL, if_neg (by rw [ht]; simp)]
 · have hfew : c.ps.length <= 8193 := by have := hF.few; omega
   have hmeet : meetV c.ps = 0 := meet_cuts hI.rise hI.zero h.len fun i hi p hp => by
    obtain ⟨p', r, g1, _, g3, g4, _⟩ := h.parts i _ (List.getElem?_eq_getElem hi)
    rw [hp] at g1
    obtain rfl := Option.some.inj g1
    exact ⟨g3, g4⟩
   have hR : FreeOk ls.length c := ⟨h.vd, h.dest, h.tr, hfew, hmeet, rksV_zero _ _ fun r hr => ⟨by have := (hF.rks r hr).1; omega, (hF.rks r hr).2⟩⟩
   refine ⟨hR.may, ?_⟩
   rw [ans_free hm hR]
   have hz : partsZ l ls (c.ps.zip c.rks) = 0 := by
    refine partsZ_all fun q hq => ?_
    obtain ⟨i, hi⟩ := List.getElem?_of_mem hq
    rw [List.getElem?_zip_eq_some] at hi
    obtain ⟨hi1, hi2⟩ := hi
    have hil : i < (atomsL (vecV ls) l).fr.length := by rw [<- h.len]; exact (List.getElem?_eq_some_iff.1 hi1).1
    obtain ⟨p', r, g1, g2, g3, g4, g5⟩ := h.parts i _ (List.getElem?_eq_getElem hil)
    rw [hi1] at g1
    rw [hi2] at g2
    have e1 := Option.some.inj g1
    have e2 := Option.some.inj g2
    rw [e1, e2, partV_eq (by rw [g5.1, vecV_len]), g3, g4, fall_iff hC (end_ge hI.rise hil)]
    intro a ha1 ha2 v hv
    refine ranks_fall hm ?_ hv
    rw [hI.within hC hil ha1 ha2]
    exact g5
   rw [if_neg (by rw [hz]; simp), h.vd]
theorem ana_none {ls : List (List Rul)} {l : List (BitVec 32)} {c : Crt} (hC : Cuts ls.flatten l) (h : AnaFree ls (atomsL (vecV ls) l).fr c) (a : BitVec 32) : ∀ x, ¬ OnL (vecV ls a) x := by
 have hI := atomsIt hC
 rw [<- hI.vec hC a]
 exact h.all _ (List.getElem_mem _)
theorem ana_some {ls : List (List Rul)} {l : List (BitVec 32)} {c : Crt} {i : Nat} (hC : Cuts ls.flatten l) (h : AnaLoop ls (atomsL (vecV ls) l).fr i c) : ∃ k, ∃ hk : k < l.length, ∃ x, OnL (vecV ls l[k]) x := by
 have hI := atomsIt hC
 have hm : c.dest ∈ l := hI.inv.sub.subset (List.mem_of_getElem? h.dest)
 obtain ⟨m, hml, hme⟩ := List.getElem_of_mem hm
 obtain ⟨y, hy⟩ := h.loop.on h.ne
 exact ⟨m, hml, y, by rw [hme]; exact hy⟩
end Go.Proofs.YtdpmnldmbnpfpaaGreatDoor
