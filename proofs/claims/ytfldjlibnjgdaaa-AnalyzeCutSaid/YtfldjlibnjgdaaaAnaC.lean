/- Plain laws for the law AnalyzeCut: rules that send made rules that drop; a loop's first node without rules. Conditions: none. -/
import Derived.Test.YtfldjlibnjgdaaaGAna
namespace Go.Proofs.Ytfldjlibnjgdaaa
open Go Go.RowKit Go.Maps Go.Proofs

def endR (r : Rul) : Rul := if r.act = 1 then ⟨r.pa, r.pl, 3, 0⟩ else r
theorem endR_yes {r : Rul} (h : r.act = 1) : endR r = ⟨r.pa, r.pl, 3, 0⟩ := by unfold endR; rw [if_pos h]
theorem endR_no {r : Rul} (h : r.act ≠ 1) : endR r = r := by unfold endR; rw [if_neg h]
theorem endR_pa (r : Rul) : (endR r).pa = r.pa ∧ (endR r).pl = r.pl := by
  unfold endR; split <;> exact ⟨rfl, rfl⟩
theorem endR_act (r : Rul) : (endR r).act ≠ 1 := by
  unfold endR; split
  · show (3 : Int) ≠ 1; decide
  · assumption
theorem endR_may {r : Rul} {n : Int} (h : ruleMayV r n = 0) : ruleMayV (endR r) n = 0 := by
  by_cases ha : r.act = 1
  · rw [endR_yes ha]
    unfold ruleMayV at *
    by_cases h0 : mayV r.pa r.pl = 0
    · rw [if_neg (by simp [h0])]
      rfl
    · rw [if_pos h0] at h; exact absurd h h0
  · rw [endR_no ha]; exact h
theorem endR_ord (p : Option Rul) (r : Rul) : badOrd (p.map endR) (endR r) = badOrd p r := by
  cases p with
  | none => rfl
  | some q =>
    show (cmpV (endR r).pa (endR r).pl (endR q).pa (endR q).pl != 1) = (cmpV r.pa r.pl q.pa q.pl != 1)
    rw [(endR_pa r).1, (endR_pa r).2, (endR_pa q).1, (endR_pa q).2]
theorem endT_may {n : Int} : ∀ (l : List Rul) (p : Option Rul), tabG n p l = 0 → tabG n (p.map endR) (l.map endR) = 0
  | [], _, _ => rfl
  | r :: l, p, h => by
    unfold tabG at h
    by_cases hr : ruleMayV r n = 0
    · rw [if_neg (by simp [hr])] at h
      by_cases hb : badOrd p r = true
      · rw [if_pos hb] at h; cases h
      · rw [if_neg hb] at h
        show (if ruleMayV (endR r) n ≠ 0 then _ else if badOrd (p.map endR) (endR r) then 11 else tabG n (some (endR r)) (l.map endR)) = 0
        rw [if_neg (by simp [endR_may hr]), endR_ord, if_neg hb]
        exact endT_may l (some r) h
    · rw [if_pos hr] at h; exact absurd h hr
def endT (l : List Rul) : List Rul := l.map endR
def endsN (ls : List (List Rul)) : List (List Rul) := ls.map endT
theorem endsN_len (ls : List (List Rul)) : (endsN ls).length = ls.length := List.length_map _
theorem endsN_size (ls : List (List Rul)) : sizeN (endsN ls) = sizeN ls := by
  unfold sizeN endsN endT
  rw [List.map_map]
  congr 1
  refine List.map_congr_left fun l _ => ?_
  simp
theorem endR_ok {r : Rul} (h : r.Ok) : (endR r).Ok := by
  unfold endR
  split
  · obtain ⟨h1, _, _⟩ := h
    exact ⟨h1, by show In64 3; unfold In64; decide, by show In64 0; unfold In64; decide⟩
  · exact h
theorem endsN_ok {ls : List (List Rul)} (h : TablesOk ls) : TablesOk (endsN ls) := fun l hl r hr => by
  obtain ⟨t, ht, rfl⟩ := List.mem_map.1 hl
  obtain ⟨q, hq, rfl⟩ := List.mem_map.1 hr
  exact endR_ok (h t ht q hq)
theorem endsN_may {ls : List (List Rul)} (h : netMayV ls = 0) : netMayV (endsN ls) = 0 := by
  obtain ⟨h1, h2, h3⟩ := netMay_tabs h
  unfold netMayV
  rw [if_neg (by rw [endsN_len, endsN_size]; omega)]
  refine netG_zero fun l hl => ?_
  obtain ⟨t, ht, rfl⟩ := List.mem_map.1 hl
  rw [endsN_len]
  exact endT_may t none (h3 t ht)
theorem find_mem {L : List Rul} {a : BitVec 32} {r : Rul} (h : findL L a = some r) : r ∈ L := by
  unfold findL at h
  suffices g : ∀ (l : List Rul) (o : Option Rul), l.foldl (findStep a) o = some r → o = some r ∨ r ∈ l by
    rcases g L none h with g | g
    · cases g
    · exact g
  intro l
  induction l with
  | nil => intro o h; exact .inl h
  | cons x l ih =>
    intro o h
    rcases ih _ h with g | g
    · unfold findStep at g
      split at g
      · cases g; exact .inr (by simp)
      · exact .inl g
    · exact .inr (List.mem_cons_of_mem _ g)
theorem end_step (l : List Rul) (a : BitVec 32) : stepO (endT l) a = none := by
  unfold stepO
  cases h : findL (endT l) a with
  | none => rfl
  | some r =>
    have hm := find_mem h
    obtain ⟨q, _, rfl⟩ := List.mem_map.1 hm
    show (if (endR q).act = 1 then some (endR q).nx else none) = none
    rw [if_neg (endR_act q)]
theorem end_vec (ls : List (List Rul)) (a : BitVec 32) : vecV (endsN ls) a = List.replicate ls.length (-1) := by
  unfold vecV endsN
  rw [List.map_map]
  apply List.ext_getElem (by simp)
  intro i h1 h2
  simp [end_step]
theorem end_nx (n : Nat) (x : Int) : nxv (List.replicate n (-1)) x = -1 := by
  unfold nxv
  split
  · rfl
  · rw [List.getD_eq_getElem?_getD, List.getElem?_replicate]
    split <;> rfl
/-- What is told of a network in which no rule sends. -/
theorem ana_ends {ls : List (List Rul)} {d : Crt} (h : AnaIs (endsN ls) d) : d.vd = 1 ∧ d.ps.length = 1 ∧ d.rks = [List.replicate ls.length 0] := by
  obtain ⟨l, hC, h⟩ := h
  have hone := atoms_one (vec := vecV (endsN ls)) hC.zero (fun a _ => end_vec ls a)
  rw [hone] at h
  have hno : ∀ (a : BitVec 32) x, ¬ OnL (vecV (endsN ls) a) x := fun a x hx => by
    rw [end_vec] at hx
    refine hx.not_ends ⟨1, ?_⟩
    exact end_nx _ x
  rcases h with ⟨i, h⟩ | h
  · obtain ⟨x, hx⟩ := h.loop.on h.ne
    exact absurd hx (hno _ x)
  · refine ⟨h.vd, h.len, ?_⟩
    obtain ⟨p, r, h1, h2, _, _, h5⟩ := h.parts 0 0#32 rfl
    have hl : d.rks.length = 1 := h.rln
    match hd : d.rks, hl with
    | [r'], _ =>
      rw [hd] at h2
      obtain rfl : r' = r := Option.some.inj h2
      congr 1
      rw [end_vec] at h5
      apply List.ext_getElem (by rw [h5.1]; simp)
      intro i g1 g2
      rw [h5.1] at g1
      obtain ⟨m, e1, e2⟩ := h5.2 i g1
      have hr0 : RankIs (List.replicate ls.length (-1)) i 0 := rank_end ⟨by omega, by rw [List.length_replicate]; rw [List.length_replicate] at g1; omega⟩ (end_nx _ _)
      rw [e2.one hr0] at e1
      have e3 := (List.getElem?_eq_some_iff.1 e1).2
      rw [e3, List.getElem_replicate]; rfl
/-! ### A node without rules -/
theorem less_size (ls : List (List Rul)) (k : Nat) : sizeN (ls.set k []) ≤ sizeN ls := by
  unfold sizeN
  induction ls generalizing k with
  | nil => simp
  | cons l ls ih =>
    cases k with
    | zero => simp
    | succ k =>
      have := ih k
      simp only [List.set_cons_succ, List.map_cons, List.sum_cons]
      omega
theorem less_ok {ls : List (List Rul)} (h : TablesOk ls) (k : Nat) : TablesOk (ls.set k []) := fun l hl => by
  rcases List.mem_or_eq_of_mem_set hl with g | g
  · exact h l g
  · rw [g]; exact fun r h => by cases h
theorem less_may {ls : List (List Rul)} (h : netMayV ls = 0) (k : Nat) : netMayV (ls.set k []) = 0 := by
  obtain ⟨h1, h2, h3⟩ := netMay_tabs h
  have h4 := less_size ls k
  unfold netMayV
  rw [if_neg (by rw [List.length_set]; omega)]
  refine netG_zero fun l hl => ?_
  rw [List.length_set]
  rcases List.mem_or_eq_of_mem_set hl with g | g
  · exact h3 l g
  · rw [g]; rfl
theorem less_vec (ls : List (List Rul)) (k : Nat) (a : BitVec 32) : vecV (ls.set k []) a = (vecV ls a).set k (-1) := by
  unfold vecV
  rw [List.map_set]; rfl
theorem less_nx {v : List Int} {b : Nat} (hb : b < v.length) (x : Int) : nxv (v.set b (-1)) x = if x = b then -1 else nxv v x := by
  unfold nxv
  by_cases h : x < 0
  · rw [if_pos h, if_neg (by omega), if_pos h]
  · rw [if_neg h, if_neg h, List.getD_eq_getElem?_getD, List.getElem?_set]
    by_cases e : b = x.toNat
    · rw [if_pos e, if_pos (by omega), if_pos (by omega)]; rfl
    · rw [if_neg e, if_neg (by omega), List.getD_eq_getElem?_getD]
/-- No node of the loop is on another one, if its first node steps no more. -/
theorem less_apart {v : List Int} (hv : VOk v) {b p : Nat} (hb : b < v.length) (hp : IsPer v b p) {y : Int} (hy : OnL (v.set b (-1)) y) : y ∉ wayV v b p := by
  intro hm
  have hv' : VOk (v.set b (-1)) := fun x hx => by
    rw [List.length_set]
    rcases List.mem_or_eq_of_mem_set hx with g | g
    · exact hv x g
    · rw [g]; omega
  have hbn : ¬ OnL (v.set b (-1)) b := fun h => h.not_ends ⟨1, by rw [itv_out]; show nxv (v.set b (-1)) (b : Int) = -1; rw [less_nx hb, if_pos rfl]⟩
  have hsame : ∀ k, itv (v.set b (-1)) k y = itv v k y := by
    intro k
    induction k with
    | zero => rfl
    | succ k ih =>
      rw [itv_out, itv_out, less_nx hb, ih, if_neg]
      intro e
      rw [← ih] at e
      have h := hy.it hv' k
      rw [e] at h
      exact hbn h
  obtain ⟨j, hj, hje⟩ := wayV_mem.1 hm
  have h1 : itv v (p - j) y = b := by
    rw [← hje, ← itv_add, show p - j + j = p by omega]
    exact hp.back
  rw [← hsame] at h1
  have h := hy.it hv' (p - j)
  rw [h1] at h
  exact hbn h
theorem less_law {ls : List (List Rul)} (hm : netMayV ls = 0) {c : Crt} (h : AnaIs ls c) (hc : c.vd = 2) : ∃ b : Nat, c.tr[0]? = some (b : Int) ∧ b < ls.length ∧ ∀ l, LoopIs (vecV (ls.set b []) c.dest) l → ∀ y ∈ l, y ∉ c.tr := by
  obtain ⟨lc, hC, h⟩ := h
  rcases h with ⟨i, h⟩ | h
  · obtain ⟨b, p, h1, h2, h3⟩ := h.loop.cons h.ne
    have hv := vec_ok hm c.dest
    have hi := h1.1.is hv
    obtain ⟨bn, rfl⟩ : ∃ n : Nat, b = n := ⟨b.toNat, by have := hi.1; omega⟩
    have hbl : bn < (vecV ls c.dest).length := by have := hi.2; omega
    refine ⟨bn, ?_, by rw [vecV_len] at hbl; exact hbl, fun l hl y hy => ?_⟩
    · rw [h3, wayV_get? h2.pos]; rfl
    · rw [h3]
      rw [less_vec] at hl
      refine less_apart hv hbl h2 ?_
      rcases hl with ⟨rfl, _⟩ | ⟨b', p', g1, g2, rfl⟩
      · cases hy
      · obtain ⟨j, _, rfl⟩ := wayV_mem.1 hy
        refine g1.1.it (fun x hx => ?_) j
        rw [List.length_set]
        rcases List.mem_or_eq_of_mem_set hx with g | g
        · exact hv x g
        · rw [g]; omega
  · rw [h.vd] at hc; cases hc
end Go.Proofs.Ytfldjlibnjgdaaa
