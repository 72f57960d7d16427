/- ShLW: these texts in one. Conditions: each part names its own. -/
import Derived.Test.YtdpmnldmbnpfpaaDoorGExp
import Derived.Test.YtdpmnldmbnpfpaaDoorGNPt
import Derived.Test.YtdpmnldmbnpfpaaDoorGNTk
/- The example at the head of the tool's statements, by the program. Conditions: the library's table of powers of ten, and the table of words, read as they are laid. -/
namespace Go.Proofs.YtdpmnldmbnpfpaaDoor
open Go Go.RowKit Go.Maps Go.Proofs

def sh1 : List (List Rul) := [[⟨167772160#32, 8, 1, 0⟩]]
def shT : List UInt8 := [49, 48, 46, 48, 46, 48, 46, 48, 47, 56, 32, 110, 101, 120, 116, 32, 48]
theorem sh1_may : netMayV sh1 = 0 := by decide +kernel
theorem sh1_expl : (sh1.map fun t => explT t 167772161#32) = [shT] := by decide +kernel
/-- What lies there ahead of the first call. -/
structure ShS (w : World) (rb tb : Nat) (W : World) : Prop where
  ext : Ext w W
  r0 : Blk W rb [U 167772160#32, I 8, I 1, I 0] 36
  ts : Blk W tb [.slice (some ⟨rb, 0, none⟩) 1 1] 39
theorem ShS.tabs {w W : World} {rb tb : Nat} (h : ShS w rb tb W) : TablesAt W (.slice (some ⟨tb, 0, none⟩) 1 1) sh1 := by
  have h0 : RulesAt W (.slice (some ⟨rb, 0, none⟩) 1 1) [⟨167772160#32, 8, 1, 0⟩] := reads_blk (n := 1) (s := 4) h.r0 (by simp) (Nat.le_refl _) (by unfold maxLen; omega)
  have ht := reads_blk (n := 1) (c := 1) (s := 1) h.ts (by simp) (Nat.le_refl _) (by unfold maxLen; omega)
  refine ⟨_, ht, fun i l hi => ?_⟩
  match i, hi with
  | 0, hi => cases hi; exact ⟨_, rfl, h0⟩
  | i + 1, hi => cases hi
theorem OwnS.one {w : World} {B : Nat} {v : Value} {T : List UInt8} (h : OwnS w B v [T]) : ∃ g c, v = .slice (some ⟨g, 0, none⟩) 1 c ∧ w.cell? ⟨g, 0, none⟩ = some (S T) := by
  unfold OwnS at h
  rcases h.2 with ⟨-, h2⟩ | ⟨g, cap, cur, hv, -⟩
  · simp at h2
  · have hc := World.ownsRow.cells h (g := g) (by rw [hv]; rfl) 0 (S T) rfl
    exact ⟨g, cap, hv, by simpa [Addr.add] using hc⟩
set_option maxHeartbeats 4000000 in
set_option maxRecDepth 100000 in
theorem shownTool_any (w : World) (ht : Tab10 w) (hw : Words w) : Calls Tryd.prog 4 #[] w fun e w' => e = .returned (.bool true) ∧ Ext w w' := by
  have HTT := Lib.hid ht
  have HWW := Lib.hid hw
  clear ht hw
  have HPN := Lib.hid (fun W (h : ShS w w.heap.size (w.heap.size + 1) W) => netfilePut_any _ sh1 W h.tabs (may_ok sh1_may) sh1_may)
  have HTN := Lib.hid (netTake_put sh1_may)
  have HLN := Lib.hid (netB_len sh1_may)
  generalize netPut sh1 = F at *
  have HEX := Lib.hid (fun V W (h : BsAt W V F) (h1 : Ext w W) => show Calls Tryd.prog 7 #[V, .int .u32 167772161] W (ExOut W F 167772161#32) from toolExplain_any V F 167772161#32 W h HLN.out (HTT.out.later h1) (HWW.out.later h1))
  go_enter Tryd.func4, Tryd.ntmps4
  go_upto_region 2 with (first
    | (go_at_call 6
       go_loud (
         (with_reducible refine (HPN.out _ ?_).mono ?_)
         (exact ⟨by (repeat with_reducible first | exact Ext.refl _ | assumption | refine Ext.alloc ?_ _ | refine Ext.drew ?_ | refine Ext.drewN ?_ _ | (refine Ext.setCellP ?_ ?_; focus (first | (simp; done) | (simp; omega) | omega))), (Blk.new w [U 167772160#32, I 8, I 1, I 0] 36).old _, Blk.newAt [.slice (some ⟨w.heap.size, 0, none⟩) 1 1] (by simp)⟩)
         rintro e w2 ⟨u2, he, ho, hx⟩
         obtain ⟨ua, uc, hue⟩ := ho.form
         subst hue
         subst he
         have HX2 := Lib.hid (show Ext w w2 from Ext.trans (by (repeat with_reducible first | exact Ext.refl _ | assumption | refine Ext.alloc ?_ _ | refine Ext.drew ?_ | refine Ext.drewN ?_ _ | (refine Ext.setCellP ?_ ?_; focus (first | (simp; done) | (simp; omega) | omega)))) hx)
         have HF2 := Lib.hid ho.bs
         clear hx ho)))
  go_upto_region 3 with (first
    | (go_at_call 7
       go_loud (
         (with_reducible refine (HEX.out _ _ HF2.out HX2.out).mono ?_)
         rintro e w3 ⟨h1, hx⟩
         rw [HTN.out] at h1
         obtain ⟨u3, he, ho⟩ := h1
         rw [sh1_expl] at ho
         obtain ⟨g, c, hue, hcl⟩ := ho.one
         subst hue
         subst he
         have HX3 := Lib.hid (HX2.out.trans hx)
         have HC3 := Lib.hid hcl
         clear hx ho hcl)))
  have hcl := HC3.out
  unfold shT at hcl
  go_wp2_with fail
  go_ret
  exact ⟨rfl, HX3.out⟩
end Go.Proofs.YtdpmnldmbnpfpaaDoor
