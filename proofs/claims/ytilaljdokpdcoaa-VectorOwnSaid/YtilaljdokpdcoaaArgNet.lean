/- Networks that came in as an argument. Conditions: none. -/
import Derived.Test.YtilaljdokpdcoaaArg
import Derived.Test.YtilaljdokpdcoaaNet
namespace Go.Proofs.Ytilaljdokpdcoaa
open Go.ChangeShapes Go.WideShapes Go.ChangeAt Go.RowKit

theorem c1rules : Try.prog.cellsOf 39 = 1 := by kernel_rfl
theorem c1tables : Try.prog.cellsOf 22 = 1 := by kernel_rfl
theorem c1net : Try.prog.cellsOf 24 = 1 := by kernel_rfl
theorem fieldsNet : ∃ f0 : Field, Try.prog.underlying 24 = some (.struct #[f0]) ∧ f0.type = 22 ∧ f0.offset = 0 := ⟨_, Try.underlying24, rfl, rfl⟩
set_option maxRecDepth 100000 in
theorem trod_tables {H : Type} {enc : TypeId × Value → H} {w : World} {held : Bool} {fuel : Nat} {cs : List Value} {x : DataW H × List MemPlace} (hf : DataW.trod enc Try.prog w 0 (fun _ => true) held fuel 22 cs = some x) :
    ∃ (v : Value) (ls : List (List Rul)), cs = [v] ∧ TablesAt w v ls ∧ TablesOk ls := by
  rcases Go.Deep.open_slice1 Try.underlying22 c1rules hf with ⟨hcs, _⟩ | ⟨a, len, cap, m, n, V, D, Pl, hcs, hb, hl, hm, hmm, hx, hel⟩
  · exact ⟨_, [], hcs, TablesAt.nil w, fun r hr => by cases hr⟩
  · simp only [if_true] at hmm
    have hch : ∀ i, i < len → ∃ q : Value × List Rul, w.cell? (a.add i) = some q.1 ∧ RulesAt w q.1 q.2 ∧ RulesOk q.2 := fun i hi => by
      obtain ⟨h1, h2⟩ := hel i (by omega)
      obtain ⟨u, l, hc, h3, h4⟩ := trod_rules h2
      simp only [List.cons.injEq, and_true] at hc
      subst hc
      exact ⟨(V i, l), h1, h3, h4⟩
    obtain ⟨qs, hql, hqs⟩ := choose_row hch
    refine ⟨_, qs.map (·.2), hcs, ⟨qs.map (·.1), ⟨by simp, some a, cap, by rw [List.length_map, hql], by rw [List.length_map]; omega, hm, fun h => (by cases h), fun b hb2 => ?_⟩, fun i l hi => ?_⟩, fun l hl => ?_⟩
    · cases hb2
      have hspot : qs = [] ∨ a.spot = none := by
        by_cases e : qs = []
        · exact .inl e
        · have hil : 0 < qs.length := List.length_pos_iff.2 e
          obtain ⟨h1, _⟩ := hqs 0 _ (List.getElem?_eq_getElem hil)
          exact .inr (by simpa [Addr.add] using World.cell?_spot h1)
      rcases hspot with hn | hspot
      · subst hn
        exact ⟨.inr rfl, fun j u hj => by simp at hj⟩
      refine ⟨.inl hspot, fun j u hj => ?_⟩
      rw [List.getElem?_map] at hj
      obtain ⟨q, hq, rfl⟩ := Option.map_eq_some_iff.1 hj
      obtain ⟨h1, _⟩ := hqs j q hq
      obtain ⟨ab, ao, asp⟩ := a
      simp only at hspot
      subst hspot
      rw [add_plain] at h1
      exact h1
    · rw [List.getElem?_map] at hi
      obtain ⟨q, hq, rfl⟩ := Option.map_eq_some_iff.1 hi
      obtain ⟨_, h2, _⟩ := hqs i q hq
      exact ⟨q.1, by rw [List.getElem?_map, hq]; rfl, h2⟩
    · obtain ⟨q, hq, rfl⟩ := List.mem_map.1 hl
      obtain ⟨i, hi, rfl⟩ := List.mem_iff_getElem.1 hq
      exact (hqs i _ (List.getElem?_eq_getElem hi)).2.2
set_option maxRecDepth 100000 in
/-- An argument of type api.Net reads as a network. -/
theorem open_net {H : Type} {enc : TypeId × Value → H} {w : World} {held : Bool} {v : Value} {d : DataW H} {p : List MemPlace} {r : Reach} {b0 : Nat} (hval : Value.okWide Try.prog w r b0 24 v)
    (h : DataW.Trod enc Try.prog w 0 (fun _ => true) held 24 v d p) : ∃ (lv : Value) (ls : List (List Rul)), v = .agg #[lv] ∧ TablesAt w lv ls ∧ TablesOk ls := by
  obtain ⟨f0, hu, t0, o0⟩ := fieldsNet
  unfold Value.okWide at hval
  rw [hu] at hval
  obtain ⟨cs, rfl, hn, _⟩ := hval
  rw [c1net] at hn
  obtain ⟨l⟩ := cs
  match l, hn with
  | [c0], _ =>
    obtain ⟨fuel, hf⟩ := h
    obtain ⟨xs, n, _, hx, hl, hlen, hfs⟩ := DataW.trod_struct hu hf
    match xs, hlen with
    | [y0], _ =>
      have g0 := hfs 0 f0 rfl
      rw [t0, o0, c1tables] at g0
      obtain ⟨u, ls, hc, h1, h2⟩ := trod_tables (show DataW.trod enc Try.prog w 0 (fun _ => true) held n 22 [c0] = some y0 from g0)
      simp only [List.cons.injEq, and_true] at hc
      subst hc
      exact ⟨c0, ls, rfl, h1, h2⟩
end Go.Proofs.Ytilaljdokpdcoaa
