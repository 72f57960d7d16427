/- Plain laws for the law AnalyzeWide: a node more that does nothing. Conditions: none. -/
import Derived.Test.YtfldjlibnjgdaaaGAna
namespace Go.Proofs.Ytfldjlibnjgdaaa
open Go Go.RowKit Go.Maps Go.Proofs

theorem nxv_wide (v : List Int) (x : Int) : nxv (v ++ [-1]) x = nxv v x := by
  unfold nxv
  split
  · rfl
  · rw [List.getD_eq_getElem?_getD, List.getD_eq_getElem?_getD]
    rcases Nat.lt_trichotomy x.toNat v.length with g | g | g
    · rw [List.getElem?_append_left g]
    · rw [List.getElem?_append_right (by omega), g, Nat.sub_self, List.getElem?_eq_none (Nat.le_refl _)]; rfl
    · rw [List.getElem?_eq_none (by rw [List.length_append]; simp; omega), List.getElem?_eq_none (by omega)]
theorem itv_wide (v : List Int) : ∀ (k : Nat) (x : Int), itv (v ++ [-1]) k x = itv v k x
  | 0, _ => rfl
  | k + 1, x => by rw [itv_out, itv_out, nxv_wide, itv_wide v k x]
theorem on_wide {v : List Int} {x : Int} : OnL (v ++ [-1]) x ↔ OnL v x := by
  unfold OnL; simp only [itv_wide]
theorem way_wide (v : List Int) (x : Int) (k : Nat) : wayV (v ++ [-1]) x k = wayV v x k := by
  unfold wayV; simp only [itv_wide]
theorem per_wide {v : List Int} {x : Int} {p : Nat} (h : IsPer v x p) : IsPer (v ++ [-1]) x p := ⟨h.pos, by rw [itv_wide]; exact h.back, fun j h1 h2 => by rw [itv_wide]; exact h.first j h1 h2⟩
theorem loop_wide {v l : List Int} (h : LoopIs v l) : LoopIs (v ++ [-1]) l := by
  rcases h with ⟨rfl, h⟩ | ⟨b, p, h1, h2, h3⟩
  · exact .inl ⟨rfl, fun x hx => h x (on_wide.1 hx)⟩
  · exact .inr ⟨b, p, ⟨on_wide.2 h1.1, fun x hx => h1.2 x (on_wide.1 hx)⟩, per_wide h2, by rw [way_wide]; exact h3⟩
theorem ranks_wide {v r : List Int} (h : RanksIs v r) : RanksIs (v ++ [-1]) (r ++ [0]) := by
  refine ⟨by rw [List.length_append, List.length_append, h.1]; rfl, fun k hk => ?_⟩
  rw [List.length_append] at hk
  rcases Nat.lt_or_ge k v.length with g | g
  · obtain ⟨m, h1, h2, h3⟩ := h.2 k g
    refine ⟨m, by rw [List.getElem?_append_left (by rw [h.1]; exact g)]; exact h1, ?_, by rw [itv_wide]; exact h3⟩
    rw [itv_wide]
    exact ⟨h2.1, by rw [List.length_append]; have := h2.2; simp; omega⟩
  · obtain rfl : k = v.length := by simp at hk; omega
    refine ⟨0, by rw [List.getElem?_append_right (by rw [h.1]; exact Nat.le_refl _), h.1, Nat.sub_self]; rfl, ⟨by show (0 : Int) ≤ (v.length : Int); omega, by show (v.length : Int) < ((v ++ [-1]).length : Int); rw [List.length_append]; simp; omega⟩, ?_⟩
    show nxv (v ++ [-1]) (v.length : Int) = -1
    rw [nxv_wide]
    unfold nxv
    rw [if_neg (by omega), Int.toNat_natCast, List.getD_eq_getElem?_getD, List.getElem?_eq_none (Nat.le_refl _)]; rfl
theorem vec_wide (ls : List (List Rul)) (a : BitVec 32) : vecV (ls ++ [[]]) a = vecV ls a ++ [-1] := by
  unfold vecV
  rw [List.map_append]; rfl
theorem flat_wide (ls : List (List Rul)) : (ls ++ [[]]).flatten = ls.flatten := by simp
theorem wide_size (ls : List (List Rul)) : sizeN (ls ++ [[]]) = sizeN ls := by rw [← sizeN_flat, ← sizeN_flat, flat_wide]
theorem wide_ok {ls : List (List Rul)} (h : TablesOk ls) : TablesOk (ls ++ [[]]) := fun l hl => by
  rcases List.mem_append.1 hl with g | g
  · exact h l g
  · rw [List.mem_singleton.1 g]; exact fun r h => by cases h
theorem wide_may {ls : List (List Rul)} (h : netMayV ls = 0) (h8 : ls.length ≤ 128) : netMayV (ls ++ [[]]) = 0 := by
  obtain ⟨h1, h2, h3⟩ := netMay_tabs h
  unfold netMayV
  rw [if_neg (by rw [List.length_append, wide_size]; simp; omega)]
  refine netG_zero fun l hl => ?_
  rcases List.mem_append.1 hl with g | g
  · exact tabG_mono (by rw [List.length_append]; simp; omega) l none (h3 l g)
  · rw [List.mem_singleton.1 g]; rfl
theorem fr_wide (ls : List (List Rul)) (l : List (BitVec 32)) : (atomsL (vecV (ls ++ [[]])) l).fr = (atomsL (vecV ls) l).fr := by
  have h := atoms_mapV (f := fun v : List Int => v ++ [-1]) (vec := vecV ls) (p := fun _ => True) (fun _ => trivial) (fun u v _ _ e => (List.append_inj' e rfl).1) l
  have e : vecV (ls ++ [[]]) = fun b => vecV ls b ++ [-1] := funext fun b => vec_wide ls b
  rw [e, h]; rfl
def wideC (c : Crt) : Crt := ⟨c.vd, c.ps, c.rks.map (· ++ [0]), c.dest, c.tr⟩
theorem ana_wide {ls : List (List Rul)} {c : Crt} (h : AnaIs ls c) : AnaIs (ls ++ [[]]) (wideC c) := by
  obtain ⟨l, hC, h⟩ := h
  refine ⟨l, by rw [flat_wide]; exact hC, ?_⟩
  rw [fr_wide]
  rcases h with ⟨i, h⟩ | h
  · exact .inl ⟨i, ⟨h.dest, fun j a hj ha x hx => by rw [vec_wide] at hx; exact h.first j a hj ha x (on_wide.1 hx), by rw [vec_wide]; exact loop_wide h.loop, h.ne, h.vd, h.ps, by show c.rks.map _ = []; rw [h.rks]; rfl⟩⟩
  · refine .inr ⟨fun a ha x hx => by rw [vec_wide] at hx; exact h.all a ha x (on_wide.1 hx), h.vd, h.dest, h.tr, h.len, by show (c.rks.map _).length = _; rw [List.length_map]; exact h.rln, fun i a ha => ?_⟩
    obtain ⟨p, r, h1, h2, h3, h4, h5⟩ := h.parts i a ha
    refine ⟨p, r ++ [0], h1, ?_, h3, h4, by rw [vec_wide]; exact ranks_wide h5⟩
    show (c.rks.map _)[i]? = _
    rw [List.getElem?_map, h2]; rfl
/-- What is told of the wide network. -/
theorem ana_wide_eq {ls : List (List Rul)} {c d : Crt} (h : AnaIs ls c) (k : AnaIs (ls ++ [[]]) d) : CrtEq d (wideC c) := k.one (ana_wide h)
end Go.Proofs.Ytfldjlibnjgdaaa
