/- Rows of numbers that came in as an argument. Conditions: none. -/
import Derived.Test.YtilaljdokpdcoaaArgs
import Derived.Test.YtilaljdokpdcoaaArg
import Derived.Test.YtilaljdokpdcoaaU32s
namespace Go.Proofs.Ytilaljdokpdcoaa
open Go.ChangeShapes Go.WideShapes Go.ChangeAt Go.RowKit

set_option maxRecDepth 100000 in
theorem trod_nums {H : Type} {enc : TypeId × Value → H} {w : World} {held : Bool} {fuel : Nat} {cs : List Value} {x : DataW H × List MemPlace} {t e : TypeId} {k : IntKind} (ht : Try.prog.underlying t = some (.slice e)) (he : Try.prog.underlying e = some (.int k)) (hc : Try.prog.cellsOf e = 1)
    (hf : DataW.trod enc Try.prog w 0 (fun _ => true) held fuel t cs = some x) : ∃ (v : Value) (l : List Int), cs = [v] ∧ Reads w 1 v l.length (l.map (.int k)) ∧ ∀ x ∈ l, (Lit.int k x).wf = true := by
  rcases Go.Deep.open_slice1 ht hc hf with ⟨hcs, _⟩ | ⟨a, len, cap, m, n, V, D, Pl, hcs, hb, hl, hm, hmm, hx, hel⟩
  · exact ⟨_, [], hcs, Reads.nil w 1, fun r hr => by cases hr⟩
  · simp only [if_true] at hmm
    have hch : ∀ i, i < len → ∃ q : Int, w.cell? (a.add i) = some (.int k q) ∧ (Lit.int k q).wf = true := fun i hi => by
      obtain ⟨h1, h2⟩ := hel i (by omega)
      obtain ⟨q, e1, _, wq⟩ := DataW.trod_int he h2
      simp only [List.cons.injEq, and_true] at e1
      rw [e1] at h1
      exact ⟨q, h1, wq⟩
    obtain ⟨qs, hql, hqs⟩ := choose_row hch
    refine ⟨_, qs, hcs, ⟨by simp, some a, cap, by rw [hql], by omega, hm, fun h => (by cases h), fun b hb2 => ?_⟩, fun l hl => ?_⟩
    · cases hb2
      have hspot : qs = [] ∨ a.spot = none := by
        by_cases e : qs = []
        · exact .inl e
        · have hil : 0 < qs.length := List.length_pos_iff.2 e
          obtain ⟨h1, _⟩ := hqs 0 _ (List.getElem?_eq_getElem hil)
          exact .inr (by simpa [Addr.add] using World.cell?_spot h1)
      rcases hspot with hn | hspot
      · subst hn
        exact ⟨.inr rfl, fun j u hj => by simp at hj⟩
      refine ⟨.inl hspot, fun j u hj => ?_⟩
      rw [List.getElem?_map] at hj
      obtain ⟨q, hq, rfl⟩ := Option.map_eq_some_iff.1 hj
      obtain ⟨h1, _⟩ := hqs j q hq
      obtain ⟨ab, ao, asp⟩ := a
      simp only at hspot
      subst hspot
      rw [add_plain] at h1
      exact h1
    · obtain ⟨i, hi, rfl⟩ := List.mem_iff_getElem.1 hl
      exact (hqs i _ (List.getElem?_eq_getElem hi)).2
set_option maxRecDepth 100000 in
theorem open_ints1 {H : Type} {enc : TypeId × Value → H} {w : World} {held : Bool} {v : Value} {d : DataW H} {p : List MemPlace} {r : Reach} {b0 : Nat} (hval : Value.okWide Try.prog w r b0 34 v) (h : DataW.Trod enc Try.prog w 0 (fun _ => true) held 34 v d p) : ∃ l : List Int, IntsAt w v l ∧ ∀ x ∈ l, In64 x := by
  obtain ⟨a0, len, cap, rfl⟩ := okWide_slice Try.underlying34 hval
  obtain ⟨fuel, hf⟩ := h
  obtain ⟨u, l, hc, h1, h2⟩ := trod_nums Try.underlying34 Try.underlying3 (by kernel_rfl) hf
  simp [Value.cells] at hc
  subst hc
  exact ⟨l, h1, fun x hx => int_in64 (h2 x hx)⟩
set_option maxRecDepth 100000 in
theorem open_u32s {H : Type} {enc : TypeId × Value → H} {w : World} {held : Bool} {v : Value} {d : DataW H} {p : List MemPlace} {r : Reach} {b0 : Nat} (hval : Value.okWide Try.prog w r b0 48 v) (h : DataW.Trod enc Try.prog w 0 (fun _ => true) held 48 v d p) : ∃ l : List (BitVec 32), UsAt w v l := by
  obtain ⟨a0, len, cap, rfl⟩ := okWide_slice Try.underlying48 hval
  obtain ⟨fuel, hf⟩ := h
  obtain ⟨u, l, hc, h1, h2⟩ := trod_nums Try.underlying48 Try.underlying25 (by kernel_rfl) hf
  simp [Value.cells] at hc
  subst hc
  refine ⟨l.map (BitVec.ofInt 32), ?_⟩
  have e : ucells (l.map (BitVec.ofInt 32)) = l.map (.int .u32) := by
    unfold ucells
    rw [List.map_map]
    refine List.map_congr_left fun x hx => ?_
    obtain ⟨b, hb⟩ := u32_in (h2 x hx)
    subst hb
    simp
  unfold UsAt
  rw [e, List.length_map]
  exact h1
end Go.Proofs.Ytilaljdokpdcoaa
