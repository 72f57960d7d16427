/- ShTopL, ShTopW: these texts in one. Conditions: each part names its own. -/
import Derived.Test.YtdpmnldmbnpfpaaGreatDoorGAnaH
import Derived.Test.YtdpmnldmbnpfpaaGreatDoorGTool
import Derived.Test.YtdpmnldmbnpfpaaGreatDoorGNPt
/- The example at the head of the statements through the layers: plain laws. Conditions: none. -/
namespace Go.Proofs.YtdpmnldmbnpfpaaGreatDoor
open Go Go.RowKit Go.Maps Go.Proofs

def stN : List (List Rul) := [[⟨0#32, 0, 1, 1⟩], [⟨0#32, 0, 1, 2⟩], [⟨0#32, 0, 2, 0⟩, ⟨2147483648#32, 1, 1, 0⟩]]
def stM : List (List Rul) := [[⟨0#32, 0, 1, 1⟩], [⟨0#32, 0, 1, 2⟩], [⟨0#32, 0, 2, 0⟩]]
end Go.Proofs.YtdpmnldmbnpfpaaGreatDoor

/- The example at the head of the statements through the layers, by the program. Conditions: none. -/
namespace Go.Proofs.YtdpmnldmbnpfpaaGreatDoor
open Go Go.RowKit Go.Maps Go.Proofs

theorem reads_blk {w : World} {b n c s : Nat} {cs : List Value} {T : TypeId} (h : Blk w b cs T) (hl : n * s <= cs.length) (hc : n <= c) (hm : c <= maxLen) : Reads w s (.slice (some ⟨b, 0, none⟩) n c) n (cs.take (n * s)) := by
 refine ⟨by rw [List.length_take]; omega, _, _, rfl, hc, hm, fun e => (by cases e), fun x hx => ?_⟩
 cases hx
 refine ⟨.inl rfl, fun j y hj => ?_⟩
 rw [h.cells, Nat.zero_add]
 rw [List.getElem?_take] at hj
 split at hj
 · exact hj
 · cases hj
/-- What lies there behind the first statement. -/
structure StS (w : World) (b0 b1 b2 tb nb n2 : Nat) (W : World) : Prop where
 ext : Ext w W
 r0 : Blk W b0 [U 0#32, I 0, I 1, I 1] 62
 r1 : Blk W b1 [U 0#32, I 0, I 1, I 2] 62
 r2 : Blk W b2 [U 0#32, I 0, I 2, I 0, U 2147483648#32, I 1, I 1, I 0] 62
 ts : Blk W tb [.slice (some ⟨b0, 0, none⟩) 1 1, .slice (some ⟨b1, 0, none⟩) 1 1, .slice (some ⟨b2, 0, none⟩) n2 2] 63
 nt : Blk W nb [.slice (some ⟨tb, 0, none⟩) 3 3] 39
theorem StS.later {w W W' : World} {b0 b1 b2 tb nb n2 : Nat} (h : StS w b0 b1 b2 tb nb n2 W) (hx : Ext W W') : StS w b0 b1 b2 tb nb n2 W' :=
 ⟨h.ext.trans hx, h.r0.later hx, h.r1.later hx, h.r2.later hx, h.ts.later hx, h.nt.later hx⟩
theorem StS.cut {w W : World} {b0 b1 b2 tb nb : Nat} (h : StS w b0 b1 b2 tb nb 2 W) (hd : tb ≠ b0 /\ tb ≠ b1 /\ tb ≠ b2 /\ tb ≠ nb) (hl : b0 <= tb) (hb : w.heap.size = b0) : StS w b0 b1 b2 tb nb 1 (W.setCell ⟨tb, 2, none⟩ (.slice (some ⟨b2, 0, none⟩) 1 2)) :=
 ⟨h.ext.setCell (show w.heap.size <= tb by omega) _, h.r0.other hd.1 _, h.r1.other hd.2.1 _, h.r2.other hd.2.2.1 _, h.ts.set 2 _, h.nt.other hd.2.2.2 _⟩
theorem StS.tabs {w W : World} {b0 b1 b2 tb nb n2 : Nat} (h : StS w b0 b1 b2 tb nb n2 W) {ls : List (List Rul)} (hn : n2 = 1 /\ ls = stM \/ n2 = 2 /\ ls = stN) : TablesAt W (.slice (some ⟨tb, 0, none⟩) 3 3) ls := by
 have h0 : RulesAt W (.slice (some ⟨b0, 0, none⟩) 1 1) [⟨0#32, 0, 1, 1⟩] := reads_blk (n := 1) (s := 4) h.r0 (by simp) (Nat.le_refl _) (by unfold maxLen; omega)
 have h1 : RulesAt W (.slice (some ⟨b1, 0, none⟩) 1 1) [⟨0#32, 0, 1, 2⟩] := reads_blk (n := 1) (s := 4) h.r1 (by simp) (Nat.le_refl _) (by unfold maxLen; omega)
 have ht := reads_blk (n := 3) (c := 3) (s := 1) h.ts (by simp) (Nat.le_refl _) (by unfold maxLen; omega)
 rcases hn with ⟨rfl, rfl⟩ | ⟨rfl, rfl⟩
 · have h2 : RulesAt W (.slice (some ⟨b2, 0, none⟩) 1 2) [⟨0#32, 0, 2, 0⟩] := reads_blk (n := 1) (c := 2) (s := 4) h.r2 (by simp) (by omega) (by unfold maxLen; omega)
   refine ⟨_, ht, fun i l hi => ?_⟩
   match i, hi with
   | 0, hi => cases hi; exact ⟨_, rfl, h0⟩
   | 1, hi => cases hi; exact ⟨_, rfl, h1⟩
   | 2, hi => cases hi; exact ⟨_, rfl, h2⟩
   | i + 3, hi => cases hi
 · have h2 : RulesAt W (.slice (some ⟨b2, 0, none⟩) 2 2) [⟨0#32, 0, 2, 0⟩, ⟨2147483648#32, 1, 1, 0⟩] := reads_blk (n := 2) (c := 2) (s := 4) h.r2 (by simp) (by omega) (by unfold maxLen; omega)
   refine ⟨_, ht, fun i l hi => ?_⟩
   match i, hi with
   | 0, hi => cases hi; exact ⟨_, rfl, h0⟩
   | 1, hi => cases hi; exact ⟨_, rfl, h1⟩
   | 2, hi => cases hi; exact ⟨_, rfl, h2⟩
   | i + 3, hi => cases hi
theorem netB_len {ls : List (List Rul)} (h : netMayV ls = 0) : (netPut ls).length <= 1000000000 := by
 have hb := net_rulB h
 have hl := (netMay_tabs h).1
 have key : ∀ (m : List (List Rul)), (∀ l ∈ m, l.length <= 4096) -> (m.flatMap nodeB).length <= m.length * 40000 := by
  intro m
  induction m with
  | nil => intro _; simp
  | cons l m ih =>
    intro hm
    have h1 := ih fun x hx => hm x (List.mem_cons_of_mem _ hx)
    have h2 := hm l (List.mem_cons_self ..)
    have h3 : (nodeB l).length <= 40000 := by
     unfold nodeB sectB
     have g1 := (gsize_bd l.length).2
     have g2 := (gsize_bd (gput l.length ++ l.flatMap ruleB).length).2
     rw [List.length_cons, List.length_append, gput_len, List.length_append, gput_len, flat8]
     rw [List.length_append, gput_len, flat8] at g2
     omega
    rw [List.flatMap_cons, List.length_append, List.length_cons]
    omega
 have h1 := key ls fun l hl => (hb l hl).2
 have h2 := (gsize_bd ls.length).2
 unfold netPut
 rw [fput_len]
 unfold netB
 rw [List.length_append, gput_len]
 omega
theorem certP_len {n : Nat} {c : Crt} (hn : n <= 256) (hlen : c.rks.length = c.ps.length) (hm : certMayV n c = 0) : (certPut c n).length <= 100000000 := by
 unfold certPut
 rw [fput_len]
 have h1 := (gsize_bd n).2
 have h2 := (gsize_bd c.ps.length).2
 have h3 := (gsize_bd c.tr.length).2
 unfold certB
 rw [List.length_append, beN_len, List.length_append, gput_len]
 by_cases hv : c.vd = 1
 · have hf := free_ok hm hv
   have h4 := partsB_len hn (c.ps.zip c.rks) fun q hq => by
    have := (rksV_all hf.rks q.2 (List.of_mem_zip hq).2).1
    omega
   have h5 := hf.few
   rw [List.length_zip] at h4
   rw [if_pos hv, List.length_append, gput_len]
   omega
 · have hL := loop_ok hm hv
   have h4 := groupsB_len c.tr
   have h5 := hL.few
   rw [if_neg hv, List.length_append, be4_len, List.length_append, gput_len]
   omega
@[go_sem high] theorem field_answer0 (w : World) (x y : Int) : (Instr.field 35 (.agg #[I x, I y]) 0).run Tryz.prog w = .ok (I x) w := by kernel_rfl
end Go.Proofs.YtdpmnldmbnpfpaaGreatDoor
