/- Atoms' Len and Ends. Conditions: whole numbers are within 64 bits. -/
import Derived.Test.YtamlalablblfeaaAtomsS
import Derived.Test.YtamlalablblfeaaGCuts
namespace Go.Proofs.Ytamlalablblfeaa
open Go Go.RowKit Go.Maps Go.Proofs

theorem AtomsAt.forms {w : World} {fv hv vv : Value} {s : Ats} (h : AtomsAt w fv hv vv s) : ∃ fa fc ha hc va vc, fv = .slice fa s.fr.length fc ∧ hv = .slice ha s.wh.length hc ∧ vv = .slice va s.vs.length vc := by
  obtain ⟨fa, fc, h1, _⟩ := h.fr.form
  obtain ⟨ha, hc, h2, _⟩ := h.wh.form
  obtain ⟨va, vc, h3, _⟩ := h.vs.form
  exact ⟨fa, fc, ha, hc, va, vc, h1, h2, h3⟩
set_option maxHeartbeats 1000000 in
theorem atomsLen_any (fv hv vv : Value) (s : Ats) (w : World) (h : AtomsAt w fv hv vv s) :
    Calls Try.prog 31 #[.agg #[fv, hv, vv]] w fun e w' => e = .returned (I s.fr.length) ∧ Ext w w' := by
  obtain ⟨fa, fc, ha, hc, va, vc, rfl, rfl, rfl⟩ := h.forms
  have HX := Lib.hid ((Ext.refl w).alloc (.cells #[.slice fa s.fr.length fc, .slice ha s.wh.length hc, .slice va s.vs.length vc] 30))
  clear h
  go_enter Try.func31, Try.ntmps31
  go_wp2
  go_ret
  exact ⟨rfl, HX.out⟩
set_option maxHeartbeats 1000000 in
theorem atomsEnds_any (fv hv vv : Value) (s : Ats) (i : Int) (w : World) (h : AtomsAt w fv hv vv s) (R : Value) (hE : ∀ W, UsAt W fv s.fr → Calls Try.prog 71 #[fv, I i] W fun e w' => e = .returned R ∧ Ext W w') (ht : ∃ a b c, R = .tuple #[a, b, c]) :
    Calls Try.prog 33 #[.agg #[fv, hv, vv], I i] w fun e w' => e = .returned R ∧ Ext w w' := by
  obtain ⟨ra, rb, rc, rfl⟩ := ht
  have HF := Lib.hid h.fr
  have HE := Lib.hid hE
  obtain ⟨fa, fc, ha, hc, va, vc, rfl, rfl, rfl⟩ := h.forms
  have HX := Lib.hid ((Ext.refl w).alloc (.cells #[.slice fa s.fr.length fc, .slice ha s.wh.length hc, .slice va s.vs.length vc] 30))
  clear h hE
  go_enter Try.func33, Try.ntmps33
  go_wp2_with (first
    | (go_at_call 71; refine (HE.out _ (HF.out.later HX.out)).mono ?_; rintro e w2 ⟨he, hx2⟩; subst he; have HX2 := Lib.hid (HX.out.trans hx2); clear hx2))
  go_ret3
  exact ⟨rfl, HX2.out⟩
end Go.Proofs.Ytamlalablblfeaa
