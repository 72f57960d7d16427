/- Args, Arg, ArgNet: these texts in one. Conditions: each part names its own. -/
import Derived.Test.YtdpmnldmbnpfpaaDoorGBase
import Derived.ProofKit
import Derived.OpenShut
import Derived.Test.YtdpmnldmbnpfpaaDoorGRule
import Derived.Deep.Slices
import Derived.Test.YtdpmnldmbnpfpaaDoorGNet
/- Arguments that came in: numbers, rows of two numbers. Conditions: none. -/
namespace Go.Proofs.YtdpmnldmbnpfpaaDoor
open Go.ChangeShapes Go.WideShapes Go.ChangeAt Go.RowKit

theorem ownTry : ownKnob Tryd.prog.godebug = none := by kernel_rfl
theorem laidTry : laidOutB Tryd.prog = true := by kernel_rfl
theorem shutTrue {H : Type} {enc : TypeId × Value → H} {W : World} {base : Nat} {sp : Nat → Bool} {held : Bool} : DataW.Trod enc Tryd.prog W base sp held 4 (.bool true) (.lit (.bool true)) [] := ⟨1, by simp [DataW.trod, Value.cells, Tryd.underlying4]⟩
theorem int_in64w {n : Int} (h : (Lit.int .i64 n).wf = true) : -9223372036854775808 ≤ n ∧ n ≤ 9223372036854775807 := by
  have h1 : IntKind.i64.min = -9223372036854775808 := rfl
  have h2 : IntKind.i64.max = 9223372036854775807 := rfl
  simp only [Lit.wf, Bool.and_eq_true, decide_eq_true_eq] at h
  omega
theorem u32_inw {n : Int} (h : (Lit.int .u32 n).wf = true) : ∃ a : BitVec 32, n = uv a := by
  have h1 : IntKind.u32.min = 0 := rfl
  have h2 : IntKind.u32.max = 4294967295 := rfl
  simp only [Lit.wf, Bool.and_eq_true, decide_eq_true_eq] at h
  exact ⟨BitVec.ofInt 32 n, (uv_ofInt n (by omega) (by omega)).symm⟩
theorem u8_inw {n : Int} (h : (Lit.int .u8 n).wf = true) : ∃ k : Nat, n = k ∧ k < 256 := by
  have h1 : IntKind.u8.min = 0 := rfl
  have h2 : IntKind.u8.max = 255 := rfl
  simp only [Lit.wf, Bool.and_eq_true, decide_eq_true_eq] at h
  exact ⟨n.toNat, by omega, by omega⟩
theorem u16_inw {n : Int} (h : (Lit.int .u16 n).wf = true) : ∃ k : Nat, n = k ∧ k < 65536 := by
  have h1 : IntKind.u16.min = 0 := rfl
  have h2 : IntKind.u16.max = 65535 := rfl
  simp only [Lit.wf, Bool.and_eq_true, decide_eq_true_eq] at h
  exact ⟨n.toNat, by omega, by omega⟩
set_option maxRecDepth 100000 in
/-- An array of two numbers. -/
theorem open_arr2 {H : Type} {enc : TypeId × Value → H} {w : World} {base : Nat} {sp : Nat → Bool} {held : Bool} {t e : TypeId} {k : IntKind} {v : Value} {d : DataW H} {p : List MemPlace} {r : Reach} {b0 : Nat}
    (ht : Tryd.prog.underlying t = some (.array 2 e)) (he : Tryd.prog.underlying e = some (.int k)) (hce : Tryd.prog.cellsOf e = 1) (hct : Tryd.prog.cellsOf t = 2)
    (hval : Value.okWide Tryd.prog w r b0 t v) (h : DataW.Trod enc Tryd.prog w base sp held t v d p) : ∃ x y : Int, v = .agg #[.int k x, .int k y] ∧ (Lit.int k x).wf = true ∧ (Lit.int k y).wf = true := by
  unfold Value.okWide at hval
  rw [ht] at hval
  obtain ⟨cs, rfl, hn, _⟩ := hval
  rw [hct] at hn
  obtain ⟨l⟩ := cs
  match l, hn with
  | [c0, c1], _ =>
    obtain ⟨fuel, hf⟩ := h
    obtain ⟨xs, m, _, _, _, hl, hel⟩ := DataW.trod_array ht hf
    match xs, hl with
    | [y0, y1], _ =>
      have g0 := hel 0 (by omega)
      have g1 := hel 1 (by omega)
      rw [hce] at g0 g1
      obtain ⟨n0, e0, _, w0⟩ := DataW.trod_int he (show DataW.trod enc Tryd.prog w base sp held m e [c0] = some y0 from g0)
      obtain ⟨n1, e1, _, w1⟩ := DataW.trod_int he (show DataW.trod enc Tryd.prog w base sp held m e [c1] = some y1 from g1)
      simp only [List.cons.injEq, and_true] at e0 e1
      subst e0 e1
      exact ⟨n0, n1, rfl, w0, w1⟩
end Go.Proofs.YtdpmnldmbnpfpaaDoor

/- Rules that came in as an argument: they read as rules. Conditions: none. -/
namespace Go.Proofs.YtdpmnldmbnpfpaaDoor
open Go.ChangeShapes Go.WideShapes Go.ChangeAt Go.RowKit

theorem c4rule : Tryd.prog.cellsOf 36 = 4 := by kernel_rfl
theorem c1int : Tryd.prog.cellsOf 3 = 1 := by kernel_rfl
theorem c1u32 : Tryd.prog.cellsOf 25 = 1 := by kernel_rfl
theorem fieldsRule : ∃ f0 f1 f2 f3 : Field, Tryd.prog.underlying 36 = some (.struct #[f0, f1, f2, f3]) ∧ f0.type = 25 ∧ f1.type = 3 ∧ f2.type = 3 ∧ f3.type = 3 ∧ f0.offset = 0 ∧ f1.offset = 1 ∧ f2.offset = 2 ∧ f3.offset = 3 :=
  ⟨_, _, _, _, Tryd.underlying36, rfl, rfl, rfl, rfl, rfl, rfl, rfl, rfl⟩
theorem int_in64 {n : Int} (h : (Lit.int .i64 n).wf = true) : In64 n := by
  have h1 : IntKind.i64.min = -9223372036854775808 := rfl
  have h2 : IntKind.i64.max = 9223372036854775807 := rfl
  simp only [Lit.wf, Bool.and_eq_true, decide_eq_true_eq] at h
  unfold In64; omega
theorem u32_in {n : Int} (h : (Lit.int .u32 n).wf = true) : ∃ a : BitVec 32, n = uv a := by
  have h1 : IntKind.u32.min = 0 := rfl
  have h2 : IntKind.u32.max = 4294967295 := rfl
  simp only [Lit.wf, Bool.and_eq_true, decide_eq_true_eq] at h
  exact ⟨BitVec.ofInt 32 n, (uv_ofInt n (by omega) (by omega)).symm⟩
set_option maxRecDepth 100000 in
theorem trod_rule {H : Type} {enc : TypeId × Value → H} {w : World} {base : Nat} {sp : Nat → Bool} {held : Bool} {fuel : Nat} {cs : List Value} {x : DataW H × List MemPlace} (h : DataW.trod enc Tryd.prog w base sp held fuel 36 cs = some x) :
    ∃ r : Rul, cs = r.cells ∧ r.Ok := by
  obtain ⟨f0, f1, f2, f3, hu, t0, t1, t2, t3, o0, o1, o2, o3⟩ := fieldsRule
  obtain ⟨xs, n, _, rfl, hl, hlen, hf⟩ := DataW.trod_struct hu h
  rw [c4rule] at hl
  have g0 := hf 0 f0 rfl
  have g1 := hf 1 f1 rfl
  have g2 := hf 2 f2 rfl
  have g3 := hf 3 f3 rfl
  rw [t0, o0, c1u32] at g0
  rw [t1, o1, c1int] at g1
  rw [t2, o2, c1int] at g2
  rw [t3, o3, c1int] at g3
  match cs, hl, xs, hlen with
  | [a0, a1, a2, a3], _, [y0, y1, y2, y3], _ =>
    obtain ⟨n0, e0, _, w0⟩ := DataW.trod_int Tryd.underlying25 (show DataW.trod enc Tryd.prog w base sp held n 25 [a0] = some y0 from g0)
    obtain ⟨n1, e1, _, w1⟩ := DataW.trod_int Tryd.underlying3 (show DataW.trod enc Tryd.prog w base sp held n 3 [a1] = some y1 from g1)
    obtain ⟨n2, e2, _, w2⟩ := DataW.trod_int Tryd.underlying3 (show DataW.trod enc Tryd.prog w base sp held n 3 [a2] = some y2 from g2)
    obtain ⟨n3, e3, _, w3⟩ := DataW.trod_int Tryd.underlying3 (show DataW.trod enc Tryd.prog w base sp held n 3 [a3] = some y3 from g3)
    obtain ⟨b, rfl⟩ := u32_in w0
    simp only [List.cons.injEq, and_true] at e0 e1 e2 e3
    subst e0 e1 e2 e3
    exact ⟨⟨b, n1, n2, n3⟩, rfl, int_in64 w1, int_in64 w2, int_in64 w3⟩
theorem choose_row {α : Type} {Q : Nat → α → Prop} : ∀ {m : Nat}, (∀ i, i < m → ∃ x, Q i x) → ∃ l : List α, l.length = m ∧ ∀ i x, l[i]? = some x → Q i x
  | 0, _ => ⟨[], rfl, fun i x h => by cases h⟩
  | m + 1, h => by
    obtain ⟨l, h1, h2⟩ := choose_row (m := m) fun i hi => h i (by omega)
    obtain ⟨y, hy⟩ := h m (by omega)
    refine ⟨l ++ [y], by simp [h1], fun i x hx => ?_⟩
    rcases Nat.lt_or_ge i l.length with g | g
    · rw [List.getElem?_append_left g] at hx; exact h2 i x hx
    · rw [List.getElem?_append_right g] at hx
      have : i - l.length = 0 := by
        have := (List.getElem?_eq_some_iff.1 hx).1
        simp at this; omega
      rw [this] at hx
      simp at hx; subst hx
      rw [show i = m by omega]; exact hy
set_option maxRecDepth 100000 in
/-- What reads as rules, in memory. -/
theorem trod_rules {H : Type} {enc : TypeId × Value → H} {w : World} {held : Bool} {fuel : Nat} {cs : List Value} {x : DataW H × List MemPlace} (hf : DataW.trod enc Tryd.prog w 0 (fun _ => true) held fuel 39 cs = some x) :
    ∃ (v : Value) (l : List Rul), cs = [v] ∧ RulesAt w v l ∧ RulesOk l := by
  rcases Go.Deep.open_slice Tryd.underlying39 hf with ⟨hcs, _⟩ | ⟨a, len, cap, m, n, D, Pl, hcs, hb, hl, hm, hmm, hx, hel⟩
  · exact ⟨_, [], hcs, Reads.nil w 4, fun r hr => by cases hr⟩
  · simp only [if_true] at hmm
    have hch : ∀ i, i < len → ∃ r : Rul, w.cells? 0 (a.add (i * 4)) 4 = some r.cells ∧ r.Ok := fun i hi => by
      obtain ⟨cs', h1, h2⟩ := hel i (by omega)
      rw [c4rule] at h1
      obtain ⟨r, rfl, hr⟩ := trod_rule h2
      exact ⟨r, h1, hr⟩
    obtain ⟨l, hll, hlq⟩ := choose_row hch
    refine ⟨_, l, hcs, ⟨rcells_len l, some a, cap, by rw [hll], by omega, hm, fun h => (by cases h), fun b hb2 => ?_⟩, fun r hr => ?_⟩
    · cases hb2
      have hspot : l = [] ∨ a.spot = none := by
        by_cases e : l = []
        · exact .inl e
        · have hil : 0 < l.length := List.length_pos_iff.2 e
          obtain ⟨h1, _⟩ := hlq 0 _ (List.getElem?_eq_getElem hil)
          obtain ⟨_, _, h2⟩ := World.cells?_some h1
          have h4 := h2 0 (by omega)
          have h5 : w.cell? a = some (U l[0].pa) := by simpa [Addr.add] using h4
          exact .inr (World.cell?_spot h5)
      rcases hspot with hn | hspot
      · subst hn
        exact ⟨.inr rfl, fun j u hj => by cases hj⟩
      refine ⟨.inl hspot, fun j u hj => ?_⟩
      have hjl : j < l.length * 4 := by rw [← rcells_len]; exact (List.getElem?_eq_some_iff.1 hj).1
      have hil : j / 4 < l.length := by omega
      have hli := List.getElem?_eq_getElem hil
      obtain ⟨h1, _⟩ := hlq (j / 4) _ hli
      obtain ⟨_, _, h2⟩ := World.cells?_some h1
      have h3 := flat_get Rul.cells 4 (fun _ => rfl) l (j / 4) (j % 4) _ hli (by omega)
      have h4 := h2 (j % 4) (by omega)
      rw [← h3] at h4
      have e : j / 4 * 4 + j % 4 = j := by omega
      rw [e] at h4
      rw [show (l.flatMap Rul.cells)[j]? = some u from hj] at h4
      rw [← h4]
      obtain ⟨ab, ao, asp⟩ := a
      simp only at hspot
      subst hspot
      rw [add_plain, add_plain]
      simp only
      rw [show ao + j / 4 * 4 + j % 4 = ao + j by omega]
    · obtain ⟨i, hi, rfl⟩ := List.mem_iff_getElem.1 hr
      exact (hlq i _ (List.getElem?_eq_getElem hi)).2
set_option maxRecDepth 100000 in
/-- An argument of type []api.Rule reads as rules. -/
theorem open_rules {H : Type} {enc : TypeId × Value → H} {w : World} {held : Bool} {v : Value} {d : DataW H} {p : List MemPlace} {r : Reach} {b0 : Nat} (hval : Value.okWide Tryd.prog w r b0 39 v)
    (h : DataW.Trod enc Tryd.prog w 0 (fun _ => true) held 39 v d p) : ∃ l : List Rul, RulesAt w v l ∧ RulesOk l := by
  obtain ⟨a0, len, cap, rfl⟩ := okWide_slice Tryd.underlying39 hval
  obtain ⟨fuel, hf⟩ := h
  obtain ⟨u, l, hc, h1, h2⟩ := trod_rules hf
  simp [Value.cells] at hc
  subst hc
  exact ⟨l, h1, h2⟩
end Go.Proofs.YtdpmnldmbnpfpaaDoor

/- Networks that came in as an argument. Conditions: none. -/
namespace Go.Proofs.YtdpmnldmbnpfpaaDoor
open Go.ChangeShapes Go.WideShapes Go.ChangeAt Go.RowKit

theorem c1rules : Tryd.prog.cellsOf 39 = 1 := by kernel_rfl
theorem c1tables : Tryd.prog.cellsOf 22 = 1 := by kernel_rfl
theorem c1net : Tryd.prog.cellsOf 24 = 1 := by kernel_rfl
theorem fieldsNet : ∃ f0 : Field, Tryd.prog.underlying 24 = some (.struct #[f0]) ∧ f0.type = 22 ∧ f0.offset = 0 := ⟨_, Tryd.underlying24, rfl, rfl⟩
set_option maxRecDepth 100000 in
theorem trod_tables {H : Type} {enc : TypeId × Value → H} {w : World} {held : Bool} {fuel : Nat} {cs : List Value} {x : DataW H × List MemPlace} (hf : DataW.trod enc Tryd.prog w 0 (fun _ => true) held fuel 22 cs = some x) :
    ∃ (v : Value) (ls : List (List Rul)), cs = [v] ∧ TablesAt w v ls ∧ TablesOk ls := by
  rcases Go.Deep.open_slice1 Tryd.underlying22 c1rules hf with ⟨hcs, _⟩ | ⟨a, len, cap, m, n, V, D, Pl, hcs, hb, hl, hm, hmm, hx, hel⟩
  · exact ⟨_, [], hcs, TablesAt.nil w, fun r hr => by cases hr⟩
  · simp only [if_true] at hmm
    have hch : ∀ i, i < len → ∃ q : Value × List Rul, w.cell? (a.add i) = some q.1 ∧ RulesAt w q.1 q.2 ∧ RulesOk q.2 := fun i hi => by
      obtain ⟨h1, h2⟩ := hel i (by omega)
      obtain ⟨u, l, hc, h3, h4⟩ := trod_rules h2
      simp only [List.cons.injEq, and_true] at hc
      subst hc
      exact ⟨(V i, l), h1, h3, h4⟩
    obtain ⟨qs, hql, hqs⟩ := choose_row hch
    refine ⟨_, qs.map (·.2), hcs, ⟨qs.map (·.1), ⟨by simp, some a, cap, by rw [List.length_map, hql], by rw [List.length_map]; omega, hm, fun h => (by cases h), fun b hb2 => ?_⟩, fun i l hi => ?_⟩, fun l hl => ?_⟩
    · cases hb2
      have hspot : qs = [] ∨ a.spot = none := by
        by_cases e : qs = []
        · exact .inl e
        · have hil : 0 < qs.length := List.length_pos_iff.2 e
          obtain ⟨h1, _⟩ := hqs 0 _ (List.getElem?_eq_getElem hil)
          exact .inr (by simpa [Addr.add] using World.cell?_spot h1)
      rcases hspot with hn | hspot
      · subst hn
        exact ⟨.inr rfl, fun j u hj => by simp at hj⟩
      refine ⟨.inl hspot, fun j u hj => ?_⟩
      rw [List.getElem?_map] at hj
      obtain ⟨q, hq, rfl⟩ := Option.map_eq_some_iff.1 hj
      obtain ⟨h1, _⟩ := hqs j q hq
      obtain ⟨ab, ao, asp⟩ := a
      simp only at hspot
      subst hspot
      rw [add_plain] at h1
      exact h1
    · rw [List.getElem?_map] at hi
      obtain ⟨q, hq, rfl⟩ := Option.map_eq_some_iff.1 hi
      obtain ⟨_, h2, _⟩ := hqs i q hq
      exact ⟨q.1, by rw [List.getElem?_map, hq]; rfl, h2⟩
    · obtain ⟨q, hq, rfl⟩ := List.mem_map.1 hl
      obtain ⟨i, hi, rfl⟩ := List.mem_iff_getElem.1 hq
      exact (hqs i _ (List.getElem?_eq_getElem hi)).2.2
set_option maxRecDepth 100000 in
/-- An argument of type api.Net reads as a network. -/
theorem open_net {H : Type} {enc : TypeId × Value → H} {w : World} {held : Bool} {v : Value} {d : DataW H} {p : List MemPlace} {r : Reach} {b0 : Nat} (hval : Value.okWide Tryd.prog w r b0 24 v)
    (h : DataW.Trod enc Tryd.prog w 0 (fun _ => true) held 24 v d p) : ∃ (lv : Value) (ls : List (List Rul)), v = .agg #[lv] ∧ TablesAt w lv ls ∧ TablesOk ls := by
  obtain ⟨f0, hu, t0, o0⟩ := fieldsNet
  unfold Value.okWide at hval
  rw [hu] at hval
  obtain ⟨cs, rfl, hn, _⟩ := hval
  rw [c1net] at hn
  obtain ⟨l⟩ := cs
  match l, hn with
  | [c0], _ =>
    obtain ⟨fuel, hf⟩ := h
    obtain ⟨xs, n, _, hx, hl, hlen, hfs⟩ := DataW.trod_struct hu hf
    match xs, hlen with
    | [y0], _ =>
      have g0 := hfs 0 f0 rfl
      rw [t0, o0, c1tables] at g0
      obtain ⟨u, ls, hc, h1, h2⟩ := trod_tables (show DataW.trod enc Tryd.prog w 0 (fun _ => true) held n 22 [c0] = some y0 from g0)
      simp only [List.cons.injEq, and_true] at hc
      subst hc
      exact ⟨c0, ls, rfl, h1, h2⟩
end Go.Proofs.YtdpmnldmbnpfpaaDoor
