/- Fall, CheckP, CheckN: these texts in one. Conditions: each part names its own. -/
import Derived.Test.YtfldjlibnjgdaaaGCert
import Derived.Test.YtfldjlibnjgdaaaGMeet
import Derived.WalkMore
import Derived.Laws.ResultCell
import Derived.Laws.EntriesVeiled
import Derived.Test.YtfldjlibnjgdaaaGIns
/- check.steps and its stepper's fall: whether ranks fall along each step at all points. Conditions: whole numbers are within 64 bits. -/
namespace Go.Proofs.Ytfldjlibnjgdaaa
open Go.RowKit

def badX (n : Nat) (rk : List Int) (v : Nat) (x : Int) : Bool := decide (x < 0) || (decide ((n : Int) ≤ x) || decide (rk.getD v 0 ≤ rk.getD x.toNat 0))
def badS (ls : List (List Rul)) (rk : List Int) (a : BitVec 32) (v : Nat) : Bool :=
  match stepN ls a v with
  | none => false
  | some x => badX ls.length rk v x
def fallB (ls : List (List Rul)) (pts : List (BitVec 32)) (rk : List Int) : Bool := pts.any fun a => (List.range ls.length).any (badS ls rk a)
def fallV (ls : List (List Rul)) (pts : List (BitVec 32)) (rk : List Int) : Int := if fallB ls pts rk then 16 else 0
theorem fallV_bad {ls : List (List Rul)} {pts : List (BitVec 32)} {rk : List Int} {k v : Nat} (hk : k < pts.length) (hv : v < ls.length) (h : badS ls rk pts[k] v = true) : fallV ls pts rk = 16 := by
  unfold fallV
  rw [if_pos]
  exact List.any_eq_true.2 ⟨_, List.getElem_mem hk, List.any_eq_true.2 ⟨v, List.mem_range.2 hv, h⟩⟩
theorem fallV_ok {ls : List (List Rul)} {pts : List (BitVec 32)} {rk : List Int} {k : Nat} (h : ∀ a ∈ pts.take k, ∀ v, v < ls.length → badS ls rk a v = false) (hk : pts.length ≤ k) : fallV ls pts rk = 0 := by
  unfold fallV
  rw [if_neg]
  intro hb
  obtain ⟨a, ha, hb⟩ := List.any_eq_true.1 hb
  obtain ⟨v, hv, hb⟩ := List.any_eq_true.1 hb
  rw [List.take_of_length_le hk] at h
  rw [h a ha v (List.mem_range.1 hv)] at hb
  cases hb
theorem pts_next {ls : List (List Rul)} {pts : List (BitVec 32)} {rk : List Int} {k : Nat} (hk : k < pts.length) (h : ∀ a ∈ pts.take k, ∀ v, v < ls.length → badS ls rk a v = false) (h1 : ∀ v, v < ls.length → badS ls rk pts[k] v = false) :
    ∀ a ∈ pts.take (k + 1), ∀ v, v < ls.length → badS ls rk a v = false := by
  rw [List.take_succ_eq_append_getElem hk]
  intro a ha
  rcases List.mem_append.1 ha with ha | ha
  · exact h a ha
  · simp only [List.mem_singleton] at ha; rw [ha]; exact h1
end Go.Proofs.Ytfldjlibnjgdaaa

/- check.steps, check.Part, check.parts. Conditions: whole numbers are within 64 bits. -/
namespace Go.Proofs.Ytfldjlibnjgdaaa
open Go.RowKit

theorem results_cell1 {fn : Func} {p : Tmp} {ty : TypeId} (h : fn.results = #[.cell p ty]) (tmps : Array Value) (P : Program) (w : World) :
    (results fn tmps).run P w = ((asAddr (tmps.getD p undef)).run P w).andThen fun a w₁ => (loadVar ty a).run P w₁ := by
  simp only [results, h]
  simp [Sem.run_bind, Result.andThen]
def partV (l : List (BitVec 32)) (ls : List (List Rul)) (p : Prt) (rk : List Int) : Int := if rk.length ≠ ls.length then 1 else fallV ls (insideV l p.fr p.up) rk
def partsZ (l : List (BitVec 32)) (ls : List (List Rul)) : List (Prt × List Int) → Int
  | [] => 0
  | q :: t => if partV l ls q.1 q.2 ≠ 0 then partV l ls q.1 q.2 else partsZ l ls t
theorem zip_drop {α β : Type} {ps : List α} {rks : List β} {k : Nat} (h1 : k < ps.length) (h2 : k < rks.length) : (ps.zip rks).drop k = (ps[k], rks[k]) :: (ps.zip rks).drop (k + 1) := by
  rw [List.drop_eq_getElem_cons (by simp; omega)]
  simp
theorem partsZ_step {l : List (BitVec 32)} {ls : List (List Rul)} {ps : List Prt} {rks : List (List Int)} {k : Nat} (h1 : k < ps.length) (h2 : k < rks.length) :
    partsZ l ls ((ps.zip rks).drop k) = if partV l ls ps[k] rks[k] ≠ 0 then partV l ls ps[k] rks[k] else partsZ l ls ((ps.zip rks).drop (k + 1)) := by
  rw [zip_drop h1 h2]; rfl
theorem partsZ_end {l : List (BitVec 32)} {ls : List (List Rul)} {ps : List Prt} {rks : List (List Int)} {k : Nat} (h1 : ps.length ≤ k) : partsZ l ls ((ps.zip rks).drop k) = 0 := by
  rw [List.drop_of_length_le (by simp; omega)]; rfl
theorem partV_three (l : List (BitVec 32)) (ls : List (List Rul)) (p : Prt) (rk : List Int) : partV l ls p rk = 0 ∨ partV l ls p rk = 1 ∨ partV l ls p rk = 16 := by
  unfold partV fallV
  split
  · simp
  · split <;> simp
end Go.Proofs.Ytfldjlibnjgdaaa

/- check.Trace, check.Net. Conditions: whole numbers are within 64 bits. -/
namespace Go.Proofs.Ytfldjlibnjgdaaa
open Go.RowKit

def trOkV (ls : List (List Rul)) (dest : BitVec 32) (tr : List Int) (i : Nat) : Bool := decide (stepN ls dest (tr.getD i 0) = some (tr.getD ((i + 1) % tr.length) 0))
def traceV (ls : List (List Rul)) (dest : BitVec 32) (tr : List Int) : Int := if tr.length = 0 then 17 else if (List.range tr.length).all (trOkV ls dest tr) then 0 else 17
theorem traceV_two (ls : List (List Rul)) (dest : BitVec 32) (tr : List Int) : traceV ls dest tr = 0 ∨ traceV ls dest tr = 17 := by
  unfold traceV
  split
  · simp
  · split <;> simp
theorem traceV_no {ls : List (List Rul)} {dest : BitVec 32} {tr : List Int} {i : Nat} (hi : i < tr.length) (h : trOkV ls dest tr i = false) : traceV ls dest tr = 17 := by
  unfold traceV
  rw [if_neg (by omega), if_neg]
  intro ha
  rw [List.all_eq_true] at ha
  rw [ha i (List.mem_range.2 hi)] at h
  cases h
theorem traceV_yes {ls : List (List Rul)} {dest : BitVec 32} {tr : List Int} (h0 : 0 < tr.length) (h : ∀ i, i < tr.length → trOkV ls dest tr i = true) : traceV ls dest tr = 0 := by
  unfold traceV
  rw [if_neg (by omega), if_pos]
  rw [List.all_eq_true]
  exact fun i hi => h i (List.mem_range.1 hi)
theorem cutsS_more : ∀ (xs : List (BitVec 32)) {S : List Int} {l : List (BitVec 32)}, CutsS S l → ∃ l', CutsS (S ++ xs.map uv) l'
  | [], S, l, h => ⟨l, by simpa using h⟩
  | x :: xs, S, l, h => by
    obtain ⟨l', h'⟩ := cutsS_more xs (h.put x)
    exact ⟨l', by simpa using h'⟩
theorem cuts_exist (rs : List Rul) : ∃ l, Cuts rs l := by
  obtain ⟨l, h⟩ := cutsS_more ((rs.flatMap rcut).map (BitVec.ofInt 32)) CutsS.start
  refine ⟨l, h.1, fun a => ?_⟩
  rw [h.2 a]
  have e : ((rs.flatMap rcut).map (BitVec.ofInt 32)).map uv = rs.flatMap rcut := by
    rw [List.map_map]
    conv => rhs; rw [← List.map_id (rs.flatMap rcut)]
    refine List.map_congr_left fun x hx => ?_
    obtain ⟨r, _, hr⟩ := List.mem_flatMap.1 hx
    have := rcut_bd r x hr
    exact uv_ofInt x this.1 this.2
  rw [e]
  unfold cutI
  simp
/-- What is told of a network and a certificate. -/
def ansV (l : List (BitVec 32)) (ls : List (List Rul)) (c : Crt) : Int × Int :=
  if netMayV ls ≠ 0 then (0, netMayV ls) else if certMayV ls.length c ≠ 0 then (0, certMayV ls.length c) else if c.vd = 1 then (if partsZ l ls (c.ps.zip c.rks) ≠ 0 then (0, partsZ l ls (c.ps.zip c.rks)) else (1, 0)) else if traceV ls c.dest c.tr ≠ 0 then (0, 17) else (c.vd, 0)
theorem certMay_vd {n : Int} {c : Crt} (h : certMayV n c = 0) : c.vd = 1 ∧ meetV c.ps = 0 ∧ c.ps.length ≤ 8193 ∨ c.vd = 2 := by
  unfold certMayV at h
  by_cases h1 : c.vd = 1
  · rw [if_pos h1] at h
    unfold freeV at h
    split at h
    · cases h
    · split at h
      · cases h
      · split at h
        · cases h
        · rename_i g1 g2 g3
          exact .inl ⟨h1, by simpa using g3, by omega⟩
  · rw [if_neg h1] at h
    by_cases h2 : c.vd = 2
    · exact .inr h2
    · rw [if_neg h2] at h; cases h
end Go.Proofs.Ytfldjlibnjgdaaa
