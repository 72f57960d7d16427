/- Plain laws for the law AnalyzeHolds: what analyze makes is accepted, and which cut is its address. Conditions: none. -/
import Derived.Test.YtfldjlibnjgdaaaGreatGAna
import Derived.Test.YtfldjlibnjgdaaaGreatGFitC
import Derived.Test.YtfldjlibnjgdaaaGreatTracesL
import Derived.Test.YtfldjlibnjgdaaaGreatGChk
namespace Go.Proofs.YtfldjlibnjgdaaaGreat
open Go Go.RowKit Go.Maps Go.Proofs

theorem cell_ltH {w : World} {p : Addr} {v : Value} (h : w.cell? p = some v) : p.block < w.heap.size := by
  rcases Nat.lt_or_ge p.block w.heap.size with g | g
  · exact g
  · simp [World.cell?, Array.getElem?_eq_none g] at h
/-- The addresses of an atom have its vector. -/
theorem AtomsIt.within {ls : List (List Rul)} {l : List (BitVec 32)} {s : Ats} (h : AtomsIt ls l s) (hC : Cuts ls.flatten l) {i : Nat} (hi : i < s.fr.length) {a : BitVec 32} (h1 : uv s.fr[i] ≤ uv a) (h2 : uv a ≤ uv (endV s.fr i)) : vecV ls a = vecV ls s.fr[i] := by
  have h3 : ivN s.fr a = i := by
    unfold ivN
    rw [atN_eq h.rise hi h1 (fun hj => ?_)]
    · rfl
    · have := end_pos h.rise hj; omega
  have h4 := h.vec hC a
  simp only [h3] at h4
  exact h4.symm
theorem ranks_fall {ls : List (List Rul)} (hm : netMayV ls = 0) {a : BitVec 32} {r : List Int} (hr : RanksIs (vecV ls a) r) {v : Nat} (hv : v < ls.length) : badS ls r a v = false := by
  have h := holds_ok (l := []) hm hr
  rw [one_pt, fallV_zero] at h
  exact h a (List.mem_singleton.2 rfl) v hv
theorem ana_holds {ls : List (List Rul)} {l : List (BitVec 32)} {c : Crt} (hm : netMayV ls = 0) (hC : Cuts ls.flatten l) (h : AnaIs ls c) : certMayV ls.length c = 0 ∧ ansV l ls c = (c.vd, 0) := by
  have hF := h.facts hm
  have hI := atomsIt hC
  have hsz := (netMay_tabs hm).2.1
  rcases h.at hC with ⟨i, h⟩ | h
  · obtain ⟨b, p, h1, h2, h3⟩ := h.loop.cons h.ne
    have h0 : 0 ≤ b := h1.1.1
    have hv := vec_ok hm c.dest
    have hL : LoopOk ls.length c := by
      refine ⟨h.vd, h.ps, List.length_pos_iff.2 h.ne, hF.tr, hF.trb, ?_⟩
      refine trG_no c.tr [] (by rw [List.nil_append, h3]; exact h2.nodup) fun x hx => ?_
      have hd : c.tr.headD 0 = b := by
        rw [h3]
        have := h2.pos
        obtain ⟨q, rfl⟩ : ∃ q, p = q + 1 := ⟨p - 1, by omega⟩
        unfold wayV
        rw [List.range_succ_eq_map, List.map_cons]; rfl
      rw [hd]
      rw [h3] at hx
      obtain ⟨j, _, rfl⟩ := wayV_mem.1 hx
      exact h1.2 _ (h1.1.it hv j)
    have ht : traceV ls c.dest c.tr = 0 := by rw [h3]; exact trace_way hm h1.1 h2.pos h2.back
    refine ⟨hL.may, ?_⟩
    rw [ans_loop hm hL, if_neg (by rw [ht]; simp)]
  · have hfew : c.ps.length ≤ 8193 := by have := hF.few; omega
    have hmeet : meetV c.ps = 0 := meet_cuts hI.rise hI.zero h.len fun i hi p hp => by
      obtain ⟨p', r, g1, _, g3, g4, _⟩ := h.parts i _ (List.getElem?_eq_getElem hi)
      rw [hp] at g1
      obtain rfl := Option.some.inj g1
      exact ⟨g3, g4⟩
    have hR : FreeOk ls.length c := ⟨h.vd, h.dest, h.tr, hfew, hmeet, rksV_zero _ _ fun r hr => ⟨by have := (hF.rks r hr).1; omega, (hF.rks r hr).2⟩⟩
    refine ⟨hR.may, ?_⟩
    rw [ans_free hm hR]
    have hz : partsZ l ls (c.ps.zip c.rks) = 0 := by
      refine partsZ_all fun q hq => ?_
      obtain ⟨i, hi⟩ := List.getElem?_of_mem hq
      rw [List.getElem?_zip_eq_some] at hi
      obtain ⟨hi1, hi2⟩ := hi
      have hil : i < (atomsL (vecV ls) l).fr.length := by rw [← h.len]; exact (List.getElem?_eq_some_iff.1 hi1).1
      obtain ⟨p', r, g1, g2, g3, g4, g5⟩ := h.parts i _ (List.getElem?_eq_getElem hil)
      rw [hi1] at g1
      rw [hi2] at g2
      have e1 := Option.some.inj g1
      have e2 := Option.some.inj g2
      rw [e1, e2, partV_eq (by rw [g5.1, vecV_len]), g3, g4, fall_iff hC (end_ge hI.rise hil)]
      intro a ha1 ha2 v hv
      refine ranks_fall hm ?_ hv
      rw [hI.within hC hil ha1 ha2]
      exact g5
    rw [if_neg (by rw [hz]; simp), h.vd]
/-- The first cut at which an address goes round is the certificate's. -/
theorem ana_first {ls : List (List Rul)} {l : List (BitVec 32)} {c : Crt} {i : Nat} (hC : Cuts ls.flatten l) (h : AnaLoop ls (atomsL (vecV ls) l).fr i c) {k : Nat} (hk : k < l.length) (hon : ∃ x, OnL (vecV ls l[k]) x) (hno : ∀ j (h : j < l.length), j < k → ∀ x, ¬ OnL (vecV ls l[j]) x) : l[k] = c.dest := by
  have hI := atomsIt hC
  obtain ⟨j, d, h1, h2, h3, h4⟩ := hI.inv.each l[k] (List.getElem_mem hk)
  have hij : i ≤ j := by
    rcases Nat.lt_or_ge j i with g | g
    · obtain ⟨x, hx⟩ := hon
      rw [← h3] at hx
      exact absurd hx (h.first j d g h1 x)
    · exact g
  obtain ⟨hjl, hje⟩ := List.getElem?_eq_some_iff.1 h1
  obtain ⟨hil, hie⟩ := List.getElem?_eq_some_iff.1 h.dest
  have h5 := hI.rise.le hij hjl
  rw [hie, hje] at h5
  have hm : c.dest ∈ l := hI.inv.sub.subset (List.mem_of_getElem? h.dest)
  obtain ⟨m, hml, hme⟩ := List.getElem_of_mem hm
  obtain ⟨y, hy⟩ := h.loop.on h.ne
  have hkm : k ≤ m := by
    rcases Nat.lt_or_ge m k with g | g
    · exact absurd (by rw [hme]; exact hy) (hno m hml g y)
    · exact g
  have h6 := hC.rise.le hkm hml
  rw [hme] at h6
  exact uv_inj (by omega)
theorem ana_none {ls : List (List Rul)} {l : List (BitVec 32)} {c : Crt} (hC : Cuts ls.flatten l) (h : AnaFree ls (atomsL (vecV ls) l).fr c) (a : BitVec 32) : ∀ x, ¬ OnL (vecV ls a) x := by
  have hI := atomsIt hC
  rw [← hI.vec hC a]
  exact h.all _ (List.getElem_mem _)
theorem ana_some {ls : List (List Rul)} {l : List (BitVec 32)} {c : Crt} {i : Nat} (hC : Cuts ls.flatten l) (h : AnaLoop ls (atomsL (vecV ls) l).fr i c) : ∃ k, ∃ hk : k < l.length, ∃ x, OnL (vecV ls l[k]) x := by
  have hI := atomsIt hC
  have hm : c.dest ∈ l := hI.inv.sub.subset (List.mem_of_getElem? h.dest)
  obtain ⟨m, hml, hme⟩ := List.getElem_of_mem hm
  obtain ⟨y, hy⟩ := h.loop.on h.ne
  exact ⟨m, hml, y, by rw [hme]; exact hy⟩
end Go.Proofs.YtfldjlibnjgdaaaGreat
