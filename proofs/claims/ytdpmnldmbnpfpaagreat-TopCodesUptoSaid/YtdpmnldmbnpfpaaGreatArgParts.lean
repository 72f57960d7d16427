/- Parts that came in as an argument. Conditions: none. -/
import Derived.Test.YtdpmnldmbnpfpaaGreatGArg
import Derived.Test.YtdpmnldmbnpfpaaGreatGIns
namespace Go.Proofs.YtdpmnldmbnpfpaaGreat
open Go.ChangeShapes Go.WideShapes Go.ChangeAt Go.RowKit

theorem c3part : Tryz.prog.cellsOf 61 = 3 := by kernel_rfl
theorem c1ints : Tryz.prog.cellsOf 35 = 1 := by kernel_rfl
theorem fieldsPart : ∃ f0 f1 f2 : Field, Tryz.prog.underlying 61 = some (.struct #[f0, f1, f2]) /\ f0.type = 25 /\ f1.type = 25 /\ f2.type = 35 /\ f0.offset = 0 /\ f1.offset = 1 /\ f2.offset = 2 :=
 ⟨_, _, _, Tryz.underlying61, rfl, rfl, rfl, rfl, rfl, rfl⟩
/-- The ranks of a part in memory. -/
def RanksAt (w : World) (p : Prt) : Prop := ∃ r : List Int, IntsAt w p.rk r /\ ∀ x ∈ r, In64 x
set_option maxRecDepth 100000 in
theorem trod_part {H : Type} {enc : TypeId × Value -> H} {w : World} {held : Bool} {fuel : Nat} {cs : List Value} {x : DataW H × List MemPlace} (h : DataW.trod enc Tryz.prog w 0 (fun _ => true) held fuel 61 cs = some x) :
 ∃ r : Prt, cs = r.cells /\ RanksAt w r := by
 obtain ⟨f0, f1, f2, hu, t0, t1, t2, o0, o1, o2⟩ := fieldsPart
 obtain ⟨xs, n, _, rfl, hl, hlen, hf⟩ := DataW.trod_struct hu h
 rw [c3part] at hl
 have g0 := hf 0 f0 rfl
 have g1 := hf 1 f1 rfl
 have g2 := hf 2 f2 rfl
 rw [t0, o0, c1u32] at g0
 rw [t1, o1, c1u32] at g1
 rw [t2, o2, c1ints] at g2
 match cs, hl, xs, hlen with
 | [a0, a1, a2], _, [y0, y1, y2], _ =>
   obtain ⟨n0, e0, _, w0⟩ := DataW.trod_int Tryz.underlying25 (show DataW.trod enc Tryz.prog w 0 (fun _ => true) held n 25 [a0] = some y0 from g0)
   obtain ⟨n1, e1, _, w1⟩ := DataW.trod_int Tryz.underlying25 (show DataW.trod enc Tryz.prog w 0 (fun _ => true) held n 25 [a1] = some y1 from g1)
   obtain ⟨u, l, hc, h1, h2⟩ := trod_nums Tryz.underlying35 Tryz.underlying3 (by kernel_rfl) (show DataW.trod enc Tryz.prog w 0 (fun _ => true) held n 35 [a2] = some y2 from g2)
   obtain ⟨b0, rfl⟩ := u32_in w0
   obtain ⟨b1, rfl⟩ := u32_in w1
   simp only [List.cons.injEq, and_true] at e0 e1 hc
   subst e0 e1 hc
   have h1' := h1
   obtain ⟨_, ad, cap, rfl, _⟩ := h1'
   exact ⟨⟨b0, b1, ad, l.length, cap⟩, rfl, l, by unfold IntsAt; exact h1, fun x hx => int_in64 (h2 x hx)⟩
set_option maxRecDepth 100000 in
theorem trod_parts {H : Type} {enc : TypeId × Value -> H} {w : World} {held : Bool} {fuel : Nat} {cs : List Value} {x : DataW H × List MemPlace} (hf : DataW.trod enc Tryz.prog w 0 (fun _ => true) held fuel 34 cs = some x) :
 ∃ (v : Value) (l : List Prt), cs = [v] /\ PartsAt w v l /\ ∀ p ∈ l, RanksAt w p := by
 rcases Go.Deep.open_slice Tryz.underlying34 hf with ⟨hcs, _⟩ | ⟨a, len, cap, m, n, D, Pl, hcs, hb, hl, hm, hmm, hx, hel⟩
 · exact ⟨_, [], hcs, Reads.nil w 3, fun r hr => by cases hr⟩
 · simp only [if_true] at hmm
   have hch : ∀ i, i < len -> ∃ r : Prt, w.cells? 0 (a.add (i * 3)) 3 = some r.cells /\ RanksAt w r := fun i hi => by
    obtain ⟨cs', h1, h2⟩ := hel i (by omega)
    rw [c3part] at h1
    obtain ⟨r, rfl, hr⟩ := trod_part h2
    exact ⟨r, h1, hr⟩
   obtain ⟨l, hll, hlq⟩ := choose_row hch
   have hmem : ∀ r ∈ l, RanksAt w r := fun r hr => by
    obtain ⟨i, hi, rfl⟩ := List.mem_iff_getElem.1 hr
    exact (hlq i _ (List.getElem?_eq_getElem hi)).2
   refine ⟨_, l, hcs, ⟨pcells_len l, some a, cap, by rw [hll], by omega, hm, fun h => (by cases h), fun b hb2 => ?_⟩, hmem⟩
   cases hb2
   have hspot : l = [] \/ a.spot = none := by
    by_cases e : l = []
    · exact .inl e
    · have hil : 0 < l.length := List.length_pos_iff.2 e
      obtain ⟨h1, _⟩ := hlq 0 _ (List.getElem?_eq_getElem hil)
      obtain ⟨_, _, h2⟩ := World.cells?_some h1
      have h4 := h2 0 (by omega)
      have h5 : w.cell? a = some (U l[0].fr) := by simpa [Addr.add, Prt.cells] using h4
      exact .inr (World.cell?_spot h5)
   rcases hspot with hn | hspot
   · subst hn
     exact ⟨.inr rfl, fun j u hj => by cases hj⟩
   refine ⟨.inl hspot, fun j u hj => ?_⟩
   have hjl : j < l.length * 3 := by rw [<- pcells_len]; exact (List.getElem?_eq_some_iff.1 hj).1
   have hil : j / 3 < l.length := by omega
   have hli := List.getElem?_eq_getElem hil
   obtain ⟨h1, _⟩ := hlq (j / 3) _ hli
   obtain ⟨_, _, h2⟩ := World.cells?_some h1
   have h3 := flat_get Prt.cells 3 (fun _ => rfl) l (j / 3) (j % 3) _ hli (by omega)
   have h4 := h2 (j % 3) (by omega)
   rw [<- h3] at h4
   have e : j / 3 * 3 + j % 3 = j := by omega
   rw [e] at h4
   rw [show (l.flatMap Prt.cells)[j]? = some u from hj] at h4
   rw [<- h4]
   obtain ⟨ab, ao, asp⟩ := a
   simp only at hspot
   subst hspot
   rw [add_plain, add_plain]
   simp only
   rw [show ao + j / 3 * 3 + j % 3 = ao + j by omega]
end Go.Proofs.YtdpmnldmbnpfpaaGreat
