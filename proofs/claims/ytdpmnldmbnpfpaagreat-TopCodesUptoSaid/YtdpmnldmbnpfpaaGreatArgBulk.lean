/- How many ranks a certificate has that came in as an argument. Conditions: none. -/
import Derived.Test.YtdpmnldmbnpfpaaGreatArgCert
import Derived.Test.YtdpmnldmbnpfpaaGreatGCert
import Derived.Test.YtdpmnldmbnpfpaaGreatGFit17
import Derived.Test.YtdpmnldmbnpfpaaGreatRows
namespace Go.Proofs.YtdpmnldmbnpfpaaGreat
open Go.ChangeShapes Go.WideShapes Go.ChangeAt Go.RowKit

theorem bulk_one {H : Type} (d : DataW H) : 1 <= Rows.uptoBulk d := by
 cases d with
 | lit l => cases l <;> simp [Rows.uptoBulk]
 | nil => simp [Rows.uptoBulk]
 | ptr d => simp [Rows.uptoBulk]
 | slice elems spare => simp [Rows.uptoBulk]
 | agg parts => simp [Rows.uptoBulk]
 | iface t d => simp [Rows.uptoBulk]
 | map entries => simp [Rows.uptoBulk]
 | held h => simp [Rows.uptoBulk]
theorem bulk_part {H : Type} {d : DataW H} {l : List (DataW H)} (h : d ∈ l) : Rows.uptoBulk d <= Rows.uptoBulkAll l := by
 induction l with
 | nil => cases h
 | cons x r ih =>
   simp only [Rows.uptoBulkAll]
   cases List.mem_cons.1 h with
   | inl e => subst e; omega
   | inr e => have := ih e; omega
theorem bulk_len {H : Type} (l : List (DataW H)) : l.length <= Rows.uptoBulkAll l := by
 induction l with
 | nil => simp [Rows.uptoBulkAll]
 | cons x r ih => have := bulk_one x; simp only [Rows.uptoBulkAll, List.length_cons]; omega
theorem bulk_sum {H : Type} {f : Nat -> Nat} {D : Nat -> DataW H} : ∀ l : List Nat, (∀ i ∈ l, f i <= Rows.uptoBulk (D i)) -> (l.map f).sum <= Rows.uptoBulkAll (l.map D)
 | [], _ => by simp [Rows.uptoBulkAll]
 | i :: l, h => by
   have h1 := h i (List.mem_cons_self ..)
   have h2 := bulk_sum l fun j hj => h j (List.mem_cons_of_mem _ hj)
   rw [List.map_cons, List.map_cons, List.sum_cons]
   simp only [Rows.uptoBulkAll]
   omega
theorem trod_len {H : Type} {enc : TypeId × Value -> H} {w : World} {held : Bool} {fuel : Nat} {t e : TypeId} {a : Option Addr} {len cap : Nat} {x : DataW H × List MemPlace} (ht : Tryz.prog.underlying t = some (.slice e))
 (hf : DataW.trod enc Tryz.prog w 0 (fun _ => true) held fuel t [.slice a len cap] = some x) : len <= Rows.uptoBulk x.1 := by
 rcases Go.Deep.open_slice ht hf with ⟨hcs, _⟩ | ⟨a', len', cap', m, n, D, Pl, hcs, hb, hl, hm, hmm, hx, hel⟩
 · simp only [List.cons.injEq, Value.slice.injEq, and_true] at hcs
   omega
 · simp only [List.cons.injEq, Value.slice.injEq, and_true] at hcs
   obtain ⟨_, rfl, _⟩ := hcs
   rw [hx]
   have h1 := bulk_len ((List.range len).map D)
   rw [List.length_map, List.length_range] at h1
   simp only [Rows.uptoBulk]
   omega
set_option maxRecDepth 100000 in
theorem part_bulk {H : Type} {enc : TypeId × Value -> H} {w : World} {held : Bool} {fuel : Nat} {p : Prt} {x : DataW H × List MemPlace} (h : DataW.trod enc Tryz.prog w 0 (fun _ => true) held fuel 61 p.cells = some x) : p.rn <= Rows.uptoBulk x.1 := by
 obtain ⟨f0, f1, f2, hu, t0, t1, t2, o0, o1, o2⟩ := fieldsPart
 obtain ⟨xs, n, _, rfl, hl, hlen, hf⟩ := DataW.trod_struct hu h
 have g2 := hf 2 f2 rfl
 rw [t2, o2, c1ints] at g2
 match xs, hlen with
 | [y0, y1, y2], _ =>
   have h1 := trod_len (x := y2) Tryz.underlying35 (show DataW.trod enc Tryz.prog w 0 (fun _ => true) held n 35 [.slice p.ra p.rn p.rc] = some y2 from g2)
   refine Nat.le_trans h1 ?_
   simp only [List.map_cons, List.map_nil, Rows.uptoBulk, Rows.uptoBulkAll]
   omega
set_option maxRecDepth 100000 in
theorem parts_bulk {H : Type} {enc : TypeId × Value -> H} {w : World} {held : Bool} {fuel : Nat} {v : Value} {ps : List Prt} {x : DataW H × List MemPlace} (hp : PartsAt w v ps) (hf : DataW.trod enc Tryz.prog w 0 (fun _ => true) held fuel 34 [v] = some x) :
 (ps.map Prt.rn).sum <= Rows.uptoBulk x.1 := by
 obtain ⟨a', cap', rfl, -, -, hc⟩ := hp.form
 rcases Go.Deep.open_slice Tryz.underlying34 hf with ⟨hcs, _⟩ | ⟨a, len, cap, m, n, D, Pl, hcs, hb, hl, hm, hmm, hx, hel⟩
 · simp only [List.cons.injEq, Value.slice.injEq, and_true] at hcs
   have : ps = [] := List.eq_nil_of_length_eq_zero hcs.2.1
   subst this
   simp
 · simp only [List.cons.injEq, Value.slice.injEq, and_true] at hcs
   obtain ⟨rfl, rfl, rfl⟩ := hcs
   simp only [if_true] at hmm
   have key : ∀ i ∈ List.range ps.length, ((ps.map Prt.rn).getD i 0) <= Rows.uptoBulk (D i) := fun i hi => by
    have hil : i < ps.length := List.mem_range.1 hi
    obtain ⟨cs', h1, h2⟩ := hel i (by omega)
    rw [c3part] at h1
    obtain ⟨_, hlen, h3⟩ := World.cells?_some h1
    obtain ⟨b, off, hab, k0, k1, k2⟩ := hc i _ (List.getElem?_eq_getElem hil)
    simp only [Option.some.injEq] at hab
    subst hab
    rw [add_plain] at h3
    have e : cs' = ps[i].cells := by
     match cs', hlen with
     | [x0, x1, x2], _ =>
       have q0 := h3 0 (by omega)
       have q1 := h3 1 (by omega)
       have q2 := h3 2 (by omega)
       rw [add_plain] at q0 q1 q2
       simp only [Nat.add_zero, List.getElem?_cons_zero, List.getElem?_cons_succ] at q0 q1 q2
       rw [k0] at q0
       rw [k1] at q1
       rw [k2] at q2
       cases q0
       cases q1
       cases q2
       rfl
    rw [e] at h2
    have h4 := part_bulk h2
    rw [List.getD_eq_getElem?_getD, List.getElem?_map, List.getElem?_eq_getElem hil]
    exact h4
   have hsum := bulk_sum (f := fun i => (ps.map Prt.rn).getD i 0) (List.range ps.length) key
   have e : (List.range ps.length).map (fun i => (ps.map Prt.rn).getD i 0) = ps.map Prt.rn := by
    refine List.ext_getElem (by simp) fun i h1 h2 => ?_
    simp only [List.length_map, List.length_range] at h1
    simp [List.getD_eq_getElem?_getD, h1]
   rw [e] at hsum
   rw [hx]
   simp only [Rows.uptoBulk]
   omega
theorem sum_flat : ∀ (ps : List Prt) (rks : List (List Int)), rks.length = ps.length -> (∀ (i : Nat) (p : Prt) (r : List Int), ps[i]? = some p -> rks[i]? = some r -> p.rn = r.length) -> rks.flatten.length = (ps.map Prt.rn).sum
 | [], [], _, _ => rfl
 | [], r :: rks, h, _ => by cases h
 | p :: ps, [], h, _ => by cases h
 | p :: ps, r :: rks, h, k => by
   rw [List.flatten_cons, List.length_append, List.map_cons, List.sum_cons, k 0 p r rfl rfl, sum_flat ps rks (by simpa using h) fun i q s h1 h2 => k (i + 1) q s (by simpa using h1) (by simpa using h2)]
set_option maxRecDepth 100000 in
theorem cert_bulk {H : Type} {enc : TypeId × Value -> H} {w : World} {held : Bool} {d : DataW H} {p : List MemPlace} {pv tv : Value} {c : Crt} (hc : CertAt w pv tv c)
 (h : DataW.Trod enc Tryz.prog w 0 (fun _ => true) held 37 (.agg #[I c.vd, pv, U c.dest, tv]) d p) : (ranksF c.rks).length <= Rows.uptoBulk d := by
 obtain ⟨f0, f1, f2, f3, hu, t0, t1, t2, t3, o0, o1, o2, o3⟩ := fieldsCert
 obtain ⟨fuel, hf⟩ := h
 obtain ⟨xs, n, _, hx, hl, hlen, hfs⟩ := DataW.trod_struct hu hf
 match xs, hlen with
 | [y0, y1, y2, y3], _ =>
   have g1 := hfs 1 f1 rfl
   rw [t1, o1, c1parts] at g1
   have h1 := parts_bulk hc.parts (show DataW.trod enc Tryz.prog w 0 (fun _ => true) held n 34 [pv] = some y1 from g1)
   rw [<- sum_flat c.ps c.rks hc.len fun i p r k1 k2 => prt_form (hc.rk i p r k1 k2)] at h1
   have h2 := flat_take_le c.rks 12
   have h3 : d = .agg ([y0, y1, y2, y3].map (·.1)) := congrArg Prod.fst hx
   rw [h3]
   unfold ranksF
   simp only [List.map_cons, List.map_nil, Rows.uptoBulk, Rows.uptoBulkAll]
   omega
end Go.Proofs.YtdpmnldmbnpfpaaGreat
