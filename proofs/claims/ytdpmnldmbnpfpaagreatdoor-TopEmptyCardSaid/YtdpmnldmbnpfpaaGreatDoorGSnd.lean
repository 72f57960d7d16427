/- SndL, SndW, FewYW, ShLW, ToolSnd: these texts in one. Conditions: each part names its own. -/
import Derived.Test.YtdpmnldmbnpfpaaGreatDoorGTool
import Derived.Test.YtdpmnldmbnpfpaaGreatDoorGAnaH
import Derived.Test.YtdpmnldmbnpfpaaGreatDoorGNetW
import Derived.Test.YtdpmnldmbnpfpaaGreatDoorOfOwn
import Derived.Test.YtdpmnldmbnpfpaaGreatDoorGRule
import Derived.Test.YtdpmnldmbnpfpaaGreatDoorGByt
import Derived.Test.YtdpmnldmbnpfpaaGreatDoorGExp
import Derived.Test.YtdpmnldmbnpfpaaGreatDoorGNPt
import Derived.Test.YtdpmnldmbnpfpaaGreatDoorGTop
/- Plain laws for the tool's statements: what is told of two rows of bytes is so; an error is never nought. Conditions: none. -/
namespace Go.Proofs.YtdpmnldmbnpfpaaGreatDoor
open Go Go.RowKit Go.Maps Go.Proofs

/-- An error is never nought. -/
def NZ {α : Type} (x : Except Int α) : Prop := ∀ z, x = .error z -> z ≠ 0
theorem NZ.ok {α : Type} (y : α) : NZ (.ok y : Except Int α) := fun z h => by cases h
inductive SndIs (f c : List Byt) : Int × Int -> Prop
 | no (z : Int) (hz : z ≠ 0) : SndIs f c (0, z)
 | free (ls : List (List Rul)) (q : Crt × Nat) (h : netTake f = .ok ls) (k : certTake c = .ok q) (hn : q.2 = ls.length) (hm : netMayV ls = 0) (ho : ∀ a x, ¬ OnL (vecV ls a) x) : SndIs f c (1, 0)
 | loop (ls : List (List Rul)) (q : Crt × Nat) (h : netTake f = .ok ls) (k : certTake c = .ok q) (hn : q.2 = ls.length) (hm : netMayV ls = 0) (h0 : 0 < q.1.tr.length) (h1 : q.1.tr.length <= 256) (hon : OnL (vecV ls q.1.dest) (q.1.tr.getD 0 0)) (hb : itv (vecV ls q.1.dest) q.1.tr.length (q.1.tr.getD 0 0) = q.1.tr.getD 0 0) : SndIs f c (2, 0)
end Go.Proofs.YtdpmnldmbnpfpaaGreatDoor

/- theseuslaw22's sound, and the law ToolSound, by the program. Conditions: a milliard bytes at most; the library's table of powers of ten, and the table of words, read as they are laid. -/
namespace Go.Proofs.YtdpmnldmbnpfpaaGreatDoor
open Go Go.RowKit Go.Maps Go.Proofs

end Go.Proofs.YtdpmnldmbnpfpaaGreatDoor

/- Rows of at most 500 bytes, and bytes as a string, by the program. Conditions: none. -/
namespace Go.Proofs.YtdpmnldmbnpfpaaGreatDoor
open Go Go.RowKit Go.Maps Go.Proofs

theorem min500 (n : Nat) : min (n : Int) 500 = ((min n 500 : Nat) : Int) := by omega
def fewY (l : List Byt) : List Byt := l.take (min l.length 500)
theorem fewY_len (l : List Byt) : (fewY l).length <= 500 := by unfold fewY; rw [List.length_take]; omega
theorem bs_to {w : World} {a : Option Addr} {n c k : Nat} {l : List Byt} (h : BsAt w (.slice a n c) l) (hk : k <= l.length) : BsAt w (.slice a k c) (l.take k) := by
 obtain ⟨h0, a', cap, h1, h2, h3, h4, h5⟩ := h
 cases h1
 have hkl : (l.take k).length = k := by rw [List.length_take]; omega
 refine ⟨by rw [ycells_len]; omega, a, c, by rw [hkl], by omega, h3, fun hn => ?_, fun b hb => ⟨?_, fun j u hj => (h5 b hb).2 j u ?_⟩⟩
 · have := h4 hn; exact ⟨by omega, this.2⟩
 · rcases (h5 b hb).1 with g | g
   · exact .inl g
   · have : l = [] := List.eq_nil_of_length_eq_zero (by rw [<- ycells_len, g]; rfl)
     subst this
     exact .inr (by simp [ycells])
 · unfold ycells at hj ⊢
   rw [List.map_take, List.getElem?_take] at hj
   split at hj
   · exact hj
   · cases hj
theorem slv_to1 (a : Option Addr) (n c k : Nat) : slv 1 (.slice a n c) 0 k = .slice a k c := by
 unfold slv sliced
 cases a with
 | none => simp
 | some b => simp [Addr.add]
set_option maxHeartbeats 4000000 in
set_option maxRecDepth 100000 in
theorem topFew_any (a : Option Addr) (c : Nat) (l : List Byt) (w : World) (h : BsAt w (.slice a l.length c) l) : Calls Tryz.prog 25 #[.slice a l.length c] w fun e w' => (e = .returned (.slice a (fewY l).length c) /\ BsAt w' (.slice a (fewY l).length c) (fewY l)) /\ Ext w w' := by
 have HE := Lib.hid (show (fewY l).length = min l.length 500 by unfold fewY; rw [List.length_take]; omega)
 have HH := Lib.hid h
 obtain ⟨a', c', he', c1, c2, -⟩ := h.form
 cases he'
 clear h
 unfold maxLen at c2
 have HC := Lib.hid (fun W (h : BsAt W (.slice a l.length c) l) => show BsAt W (.slice a (min l.length 500) c) (fewY l) from bs_to h (Nat.min_le_left _ _))
 have hmc : min l.length 500 <= c := by omega
 have hmn := min500 l.length
 go_enter Tryz.func25, Tryz.ntmps25
 go_wp2_with (first
  | (refine wpList_of_run rfl (run_slice_to (o := ⟨some 7, _, _, _, _, _⟩) rfl Tryz.underlying22 sizeU8 rfl rfl hmc) ?_; rw [slv_to1]))
 go_ret
 rw [HE.out]
 exact ⟨⟨rfl, HC.out _ HH.out⟩, Ext.refl _⟩
end Go.Proofs.YtdpmnldmbnpfpaaGreatDoor

/- The example at the head of the tool's statements, by the program. Conditions: the library's table of powers of ten, and the table of words, read as they are laid. -/
namespace Go.Proofs.YtdpmnldmbnpfpaaGreatDoor
open Go Go.RowKit Go.Maps Go.Proofs

def sh1 : List (List Rul) := [[⟨167772160#32, 8, 1, 0⟩]]
def shT : List UInt8 := [49, 48, 46, 48, 46, 48, 46, 48, 47, 56, 32, 110, 101, 120, 116, 32, 48]
theorem sh1_may : netMayV sh1 = 0 := by decide +kernel
theorem sh1_expl : (sh1.map fun t => explT t 167772161#32) = [shT] := by decide +kernel
/-- What lies there ahead of the first call. -/
structure ShS (w : World) (rb tb : Nat) (W : World) : Prop where
 ext : Ext w W
 r0 : Blk W rb [U 167772160#32, I 8, I 1, I 0] 62
 ts : Blk W tb [.slice (some ⟨rb, 0, none⟩) 1 1] 63
theorem ShS.tabs {w W : World} {rb tb : Nat} (h : ShS w rb tb W) : TablesAt W (.slice (some ⟨tb, 0, none⟩) 1 1) sh1 := by
 have h0 : RulesAt W (.slice (some ⟨rb, 0, none⟩) 1 1) [⟨167772160#32, 8, 1, 0⟩] := reads_blk (n := 1) (s := 4) h.r0 (by simp) (Nat.le_refl _) (by unfold maxLen; omega)
 have ht := reads_blk (n := 1) (c := 1) (s := 1) h.ts (by simp) (Nat.le_refl _) (by unfold maxLen; omega)
 refine ⟨_, ht, fun i l hi => ?_⟩
 match i, hi with
 | 0, hi => cases hi; exact ⟨_, rfl, h0⟩
 | i + 1, hi => cases hi
theorem OwnS.one {w : World} {B : Nat} {v : Value} {T : List UInt8} (h : OwnS w B v [T]) : ∃ g c, v = .slice (some ⟨g, 0, none⟩) 1 c /\ w.cell? ⟨g, 0, none⟩ = some (S T) := by
 unfold OwnS at h
 rcases h.2 with ⟨-, h2⟩ | ⟨g, cap, cur, hv, -⟩
 · simp at h2
 · have hc := World.ownsRow.cells h (g := g) (by rw [hv]; rfl) 0 (S T) rfl
   exact ⟨g, cap, hv, by simpa [Addr.add] using hc⟩
set_option maxHeartbeats 4000000 in
set_option maxRecDepth 100000 in
theorem shownTool_any (w : World) (ht : Tab10 w) (hw : Words w) : Calls Tryz.prog 9 #[] w fun e w' => e = .returned (.bool true) /\ Ext w w' := by
 have HTT := Lib.hid ht
 have HWW := Lib.hid hw
 clear ht hw
 have HPN := Lib.hid (fun W (h : ShS w w.heap.size (w.heap.size + 1) W) => netfilePut_any _ sh1 W h.tabs (may_ok sh1_may) sh1_may)
 have HTN := Lib.hid (netTake_put sh1_may)
 have HLN := Lib.hid (netB_len sh1_may)
 generalize netPut sh1 = F at *
 have HEX := Lib.hid (fun V W (h : BsAt W V F) (h1 : Ext w W) => show Calls Tryz.prog 15 #[V, .int .u32 167772161] W (ExOut W F 167772161#32) from toolExplain_any V F 167772161#32 W h HLN.out (HTT.out.later h1) (HWW.out.later h1))
 go_enter Tryz.func9, Tryz.ntmps9
 go_upto_region 2 with (first
  | (go_at_call 20
     go_loud (
      (with_reducible refine (HPN.out _ ?_).mono ?_)
      (exact ⟨by (repeat with_reducible first | exact Ext.refl _ | assumption | refine Ext.alloc ?_ _ | refine Ext.drew ?_ | refine Ext.drewN ?_ _ | (refine Ext.setCellP ?_ ?_; focus (first | (simp; done) | (simp; omega) | omega))), (Blk.new w [U 167772160#32, I 8, I 1, I 0] 62).old _, Blk.newAt [.slice (some ⟨w.heap.size, 0, none⟩) 1 1] (by simp)⟩)
      rintro e w2 ⟨u2, he, ho, hx⟩
      obtain ⟨ua, uc, hue⟩ := ho.form
      subst hue
      subst he
      have HX2 := Lib.hid (show Ext w w2 from Ext.trans (by (repeat with_reducible first | exact Ext.refl _ | assumption | refine Ext.alloc ?_ _ | refine Ext.drew ?_ | refine Ext.drewN ?_ _ | (refine Ext.setCellP ?_ ?_; focus (first | (simp; done) | (simp; omega) | omega)))) hx)
      have HF2 := Lib.hid ho.bs
      clear hx ho)))
 go_upto_region 3 with (first
  | (go_at_call 15
     go_loud (
      (with_reducible refine (HEX.out _ _ HF2.out HX2.out).mono ?_)
      rintro e w3 ⟨h1, hx⟩
      rw [HTN.out] at h1
      obtain ⟨u3, he, ho⟩ := h1
      rw [sh1_expl] at ho
      obtain ⟨g, c, hue, hcl⟩ := ho.one
      subst hue
      subst he
      have HX3 := Lib.hid (HX2.out.trans hx)
      have HC3 := Lib.hid hcl
      clear hx ho hcl)))
 have hcl := HC3.out
 unfold shT at hcl
 go_wp2_with fail
 go_ret
 exact ⟨rfl, HX3.out⟩
end Go.Proofs.YtdpmnldmbnpfpaaGreatDoor

/- The law ToolSound, by the program. Conditions: the library's table of powers of ten, and the table of words, read as they are laid. -/
namespace Go.Proofs.YtdpmnldmbnpfpaaGreatDoor
open Go Go.RowKit Go.Maps Go.Proofs

end Go.Proofs.YtdpmnldmbnpfpaaGreatDoor
