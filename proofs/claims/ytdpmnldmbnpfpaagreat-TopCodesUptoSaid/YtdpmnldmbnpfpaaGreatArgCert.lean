/- A certificate that came in as an argument. Conditions: none. -/
import Derived.Test.YtdpmnldmbnpfpaaGreatArgParts
import Derived.Test.YtdpmnldmbnpfpaaGreatGCert
namespace Go.Proofs.YtdpmnldmbnpfpaaGreat
open Go.ChangeShapes Go.WideShapes Go.ChangeAt Go.RowKit

theorem c4cert : Tryz.prog.cellsOf 37 = 4 := by kernel_rfl
theorem c1parts : Tryz.prog.cellsOf 34 = 1 := by kernel_rfl
theorem c1intF : Tryz.prog.cellsOf 3 = 1 := by kernel_rfl
theorem fieldsCert : ∃ f0 f1 f2 f3 : Field, Tryz.prog.underlying 37 = some (.struct #[f0, f1, f2, f3]) /\ f0.type = 3 /\ f1.type = 34 /\ f2.type = 25 /\ f3.type = 35 /\ f0.offset = 0 /\ f1.offset = 1 /\ f2.offset = 2 /\ f3.offset = 3 :=
 ⟨_, _, _, _, Tryz.underlying37, rfl, rfl, rfl, rfl, rfl, rfl, rfl, rfl⟩
theorem ranks_list {w : World} : ∀ ps : List Prt, (∀ p ∈ ps, RanksAt w p) -> ∃ rks : List (List Int), rks.length = ps.length /\ (∀ (i : Nat) (p : Prt) (r : List Int), ps[i]? = some p -> rks[i]? = some r -> IntsAt w p.rk r) /\ ∀ r ∈ rks, ∀ x ∈ r, In64 x
 | [], _ => ⟨[], rfl, (fun i p r h => by cases h), fun r h => by cases h⟩
 | p :: t, h => by
   obtain ⟨r0, h0, h1⟩ := h p (List.mem_cons_self ..)
   obtain ⟨rks, g1, g2, g3⟩ := ranks_list t fun q hq => h q (List.mem_cons_of_mem _ hq)
   refine ⟨r0 :: rks, by simp [g1], fun i q r hq hr => ?_, fun r hr => ?_⟩
   · cases i with
     | zero => simp at hq hr; subst hq hr; exact h0
     | succ i => exact g2 i q r (by simpa using hq) (by simpa using hr)
   · rcases List.mem_cons.1 hr with rfl | hr
     · exact h1
     · exact g3 r hr
set_option maxRecDepth 100000 in
/-- An argument of type api.Cert reads as a certificate. -/
theorem open_cert {H : Type} {enc : TypeId × Value -> H} {w : World} {held : Bool} {v : Value} {d : DataW H} {p : List MemPlace} {r : Reach} {b0 : Nat} (hval : Value.okWide Tryz.prog w r b0 37 v)
 (h : DataW.Trod enc Tryz.prog w 0 (fun _ => true) held 37 v d p) : ∃ (pv tv : Value) (c : Crt), v = .agg #[I c.vd, pv, U c.dest, tv] /\ CertAt w pv tv c /\ (∀ x ∈ c.tr, In64 x) /\ (∀ r ∈ c.rks, ∀ x ∈ r, In64 x) /\ In64 c.vd := by
 obtain ⟨f0, f1, f2, f3, hu, t0, t1, t2, t3, o0, o1, o2, o3⟩ := fieldsCert
 unfold Value.okWide at hval
 rw [hu] at hval
 obtain ⟨cs, rfl, hn, _⟩ := hval
 rw [c4cert] at hn
 obtain ⟨l⟩ := cs
 match l, hn with
 | [a0, a1, a2, a3], _ =>
   obtain ⟨fuel, hf⟩ := h
   obtain ⟨xs, n, _, hx, hl, hlen, hfs⟩ := DataW.trod_struct hu hf
   match xs, hlen with
   | [y0, y1, y2, y3], _ =>
     have g0 := hfs 0 f0 rfl
     have g1 := hfs 1 f1 rfl
     have g2 := hfs 2 f2 rfl
     have g3 := hfs 3 f3 rfl
     rw [t0, o0, c1intF] at g0
     rw [t1, o1, c1parts] at g1
     rw [t2, o2, c1u32] at g2
     rw [t3, o3, c1ints] at g3
     obtain ⟨n0, e0, _, w0⟩ := DataW.trod_int Tryz.underlying3 (show DataW.trod enc Tryz.prog w 0 (fun _ => true) held n 3 [a0] = some y0 from g0)
     obtain ⟨pv, ps, e1, hp1, hp2⟩ := trod_parts (show DataW.trod enc Tryz.prog w 0 (fun _ => true) held n 34 [a1] = some y1 from g1)
     obtain ⟨n2, e2, _, w2⟩ := DataW.trod_int Tryz.underlying25 (show DataW.trod enc Tryz.prog w 0 (fun _ => true) held n 25 [a2] = some y2 from g2)
     obtain ⟨u, l, e3, h1, h2⟩ := trod_nums Tryz.underlying35 Tryz.underlying3 (by kernel_rfl) (show DataW.trod enc Tryz.prog w 0 (fun _ => true) held n 35 [a3] = some y3 from g3)
     obtain ⟨b2, rfl⟩ := u32_in w2
     obtain ⟨rks, k1, k2, k3⟩ := ranks_list ps hp2
     simp only [List.cons.injEq, and_true] at e0 e1 e2 e3
     subst e0 e1 e2 e3
     exact ⟨_, _, ⟨n0, ps, rks, b2, l⟩, rfl, ⟨hp1, k1, k2, h1⟩, (fun x hx => int_in64 (h2 x hx)), k3, int_in64 w0⟩
end Go.Proofs.YtdpmnldmbnpfpaaGreat
