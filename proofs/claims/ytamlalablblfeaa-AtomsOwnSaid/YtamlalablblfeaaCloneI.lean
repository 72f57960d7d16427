/- slices.Clone of whole numbers; Atoms.At. Conditions: whole numbers are within 64 bits. -/
import Derived.Test.YtamlalablblfeaaAtomsAt
import Derived.Lib.SliceRun
import Derived.Test.YtamlalablblfeaaGCuts
namespace Go.Proofs.Ytamlalablblfeaa
open Go Go.RowKit Go.Maps Go.Proofs

set_option maxHeartbeats 1000000 in
set_option maxRecDepth 100000 in
theorem cloneI_any (v : Value) (l : List Int) (w : World) (hv : IntsAt w v l) (hn : l.length ≤ 1000000) :
    Calls Try.prog 72 #[v] w fun e w' => ∃ u, e = .returned u ∧ OwnI w' w.heap.size u l ∧ Ext w w' := by
  obtain ⟨a, cap, rfl, a1, a2, a3⟩ := hv.form
  have HV := Lib.hid hv
  clear hv
  cases a with
  | none =>
    have h0 : l = [] := by
      cases l with
      | nil => rfl
      | cons x l => obtain ⟨_, _, h, _⟩ := a3 0 x rfl; cases h
    subst h0
    clear a3
    have hq := fun (W : World) (n : Nat) => Lib.run_eql_slice_nil (P := Try.prog) W 27 3 none n cap 0 0 Try.underlying27
    go_enter Try.func72, Try.ntmps72
    go_wp2
    go_ret
    exact ⟨_, rfl, ⟨rfl, .inl ⟨rfl, rfl⟩⟩, Ext.refl _⟩
  | some p =>
    clear a3
    have HA := Lib.hid (show Ext w (w.alloc (.cells #[] 3)) from (Ext.refl w).alloc _)
    have HOA := Lib.hid (show (w.alloc (.cells #[] 3)).ownsRow w.heap.size 3 1 (.slice (some ⟨w.heap.size, 0, none⟩) 0 0) 0 [] from own_made w 1 3 0 [] rfl (by unfold maxLen; omega))
    have HSRC := Lib.hid (HV.out.later HA.out)
    have hq := fun (W : World) (n : Nat) => Lib.run_eql_slice_nil (P := Try.prog) W 27 3 (some p) n cap 0 0 Try.underlying27
    go_enter Try.func72, Try.ntmps72
    go_wp2_with (first
      | (at_builtin; refine wpList_app rfl (.tmp 5) (.tmp 6) 27 rfl w.heap.size 3 _ 1 8 Try.underlying27 infoInt rfl (by decide) (by decide) _ _ _ rfl HOA.out _ _ _ rfl HSRC.out (icells_one _) (by omega) HA.out.size ?_; intro v9 w9 ho9 hg9; have HO9 := Lib.hid ho9; have HX9 := Lib.hid (Ext.grown HA.out hg9 HOA.out (Nat.le_refl _)); clear ho9 hg9))
    go_ret
    refine ⟨_, rfl, ?_, HX9.out⟩
    have h := HO9.out
    unfold OwnI
    rw [Nat.zero_add, List.nil_append] at h
    exact h
set_option maxHeartbeats 2000000 in
set_option maxRecDepth 100000 in
/-- An address's vector: a copy of its own. -/
theorem atomsAt_any (fv hv vv : Value) (s : Ats) (a : BitVec 32) (j : Nat) (u : List Int) (w : World) (h : AtomsAt w fv hv vv s) (h0 : s.fr[0]? = some 0#32) (hw : s.wh[ivN s.fr a]? = some (j : Int)) (hu : s.vs[j]? = some u) (hn : u.length ≤ 1000000) :
    Calls Try.prog 34 #[.agg #[fv, hv, vv], U a] w fun e w' => ∃ v, e = .returned (.tuple #[v, .bool true]) ∧ OwnI w' w.heap.size v u ∧ Ext w w' := by
  have HF := Lib.hid h.fr
  obtain ⟨fa, fc, hfe, _⟩ := h.fr.form
  obtain ⟨ha, hc, hhe, q1, q2, q3⟩ := h.wh.form
  obtain ⟨va, vc, hve, r1, r2, r3⟩ := h.vs.form
  subst hfe hhe hve
  obtain ⟨b1, o1, rfl, c1⟩ := q3 _ _ hw
  obtain ⟨b2, o2, y, rfl, c2, hy⟩ := r3 _ _ hu
  obtain ⟨ya, yc, hye, _⟩ := hy.form
  subst hye
  have HY := Lib.hid hy
  have hwl := (List.getElem?_eq_some_iff.1 hw).1
  have hul := (List.getElem?_eq_some_iff.1 hu).1
  have HAT := Lib.hid (show ∀ W, UsAt W (.slice fa s.fr.length fc) s.fr → Calls Try.prog 37 #[.slice fa s.fr.length fc, U a] W fun e w' => e = .returned (I ((ivN s.fr a : Nat) : Int)) ∧ w' = W from fun W hW =>
    (cutsAt_any _ s.fr a W hW).mono fun e w' ⟨h1, h2⟩ => ⟨by rw [h1]; have := atN_pos h0 a; unfold ivN; congr 2; omega, h2⟩)
  clear h hw hu q3 r3 hy
  unfold maxLen at q2 r2
  generalize ivN s.fr a = iv at *
  have HX := Lib.hid ((Ext.refl w).alloc (.cells #[.slice fa s.fr.length fc, .slice (some ⟨b1, o1, none⟩) s.wh.length hc, .slice (some ⟨b2, o2, none⟩) s.vs.length vc] 30))
  have d1 := HX.out.cell c1
  have d2 := HX.out.cell c2
  have HF1 := Lib.hid (HF.out.later HX.out)
  have HY1 := Lib.hid (HY.out.later HX.out)
  have hg1 : decide ((iv : Int) < 0) = false := decide_eq_false (by omega)
  have hg2 : decide ((s.wh.length : Int) ≤ (iv : Int)) = false := decide_eq_false (by omega)
  have hg3 : decide ((j : Int) < 0) = false := decide_eq_false (by omega)
  have hg4 : decide ((s.vs.length : Int) ≤ (j : Int)) = false := decide_eq_false (by omega)
  go_enter Try.func34, Try.ntmps34
  go_wp2_with (first
    | (go_at_call 37; (with_reducible refine (HAT.out _ HF1.out).mono ?_); rintro e w' ⟨rfl, hw⟩; obtain rfl := hw.symm)
    | (go_at_call 72; (with_reducible refine (cloneI_any _ u _ HY1.out hn).mono ?_); rintro e w2 ⟨v2, he, hO, hx2⟩; subst he; have HO2 := Lib.hid hO; have HX2 := Lib.hid hx2; clear hO hx2))
  go_ret2
  exact ⟨_, rfl, own_low HO2.out (by simp), HX.out.trans HX2.out⟩
end Go.Proofs.Ytamlalablblfeaa
