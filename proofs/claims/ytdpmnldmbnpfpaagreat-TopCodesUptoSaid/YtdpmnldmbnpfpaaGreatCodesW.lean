/- Parts of the law TopCodes, by the program: networks that are the same, rows of 500 bytes, a certificate that may not be put, bytes as a string. Conditions: none. -/
import Derived.Test.YtdpmnldmbnpfpaaGreatCSameW
import Derived.Test.YtdpmnldmbnpfpaaGreatGRule
import Derived.Test.YtdpmnldmbnpfpaaGreatGNPt
import Derived.Test.YtdpmnldmbnpfpaaGreatGAna
import Derived.Test.YtdpmnldmbnpfpaaGreatGCert
namespace Go.Proofs.YtdpmnldmbnpfpaaGreat
open Go Go.RowKit Go.Maps Go.Proofs

theorem bs_convert {w : World} {a : Option Addr} {cap : Nat} {l : List Byt} (h : BsAt w (.slice a l.length cap) l) : (convert 29 9 (.slice a l.length cap)).run Tryz.prog w = .ok (.string (strOfNums (l.map yv))) w :=
 h.bytesIn.convert (by simp) cap 29 5 9 Tryz.underlying29 Tryz.underlying5 Tryz.underlying9
theorem min500 (n : Nat) : min (n : Int) 500 = ((min n 500 : Nat) : Int) := by omega
def fewY (l : List Byt) : List Byt := l.take (min l.length 500)
theorem fewY_len (l : List Byt) : (fewY l).length <= 500 := by unfold fewY; rw [List.length_take]; omega
theorem bs_to {w : World} {a : Option Addr} {n c k : Nat} {l : List Byt} (h : BsAt w (.slice a n c) l) (hk : k <= l.length) : BsAt w (.slice a k c) (l.take k) := by
 obtain ⟨h0, a', cap, h1, h2, h3, h4, h5⟩ := h
 cases h1
 have hkl : (l.take k).length = k := by rw [List.length_take]; omega
 refine ⟨by rw [ycells_len]; omega, a, c, by rw [hkl], by omega, h3, fun hn => ?_, fun b hb => ⟨?_, fun j u hj => (h5 b hb).2 j u ?_⟩⟩
 · have := h4 hn; exact ⟨by omega, this.2⟩
 · rcases (h5 b hb).1 with g | g
   · exact .inl g
   · have : l = [] := List.eq_nil_of_length_eq_zero (by rw [<- ycells_len, g]; rfl)
     subst this
     exact .inr (by simp [ycells])
 · unfold ycells at hj ⊢
   rw [List.map_take, List.getElem?_take] at hj
   split at hj
   · exact hj
   · cases hj
theorem slv_to1 (a : Option Addr) (n c k : Nat) : slv 1 (.slice a n c) 0 k = .slice a k c := by
 unfold slv sliced
 cases a with
 | none => simp
 | some b => simp [Addr.add]
set_option maxHeartbeats 4000000 in
set_option maxRecDepth 100000 in
theorem topFew_any (a : Option Addr) (c : Nat) (l : List Byt) (w : World) (h : BsAt w (.slice a l.length c) l) : Calls Tryz.prog 21 #[.slice a l.length c] w fun e w' => (e = .returned (.slice a (fewY l).length c) /\ BsAt w' (.slice a (fewY l).length c) (fewY l)) /\ Ext w w' := by
 have HE := Lib.hid (show (fewY l).length = min l.length 500 by unfold fewY; rw [List.length_take]; omega)
 have HH := Lib.hid h
 obtain ⟨a', c', he', c1, c2, -⟩ := h.form
 cases he'
 clear h
 unfold maxLen at c2
 have HC := Lib.hid (fun W (h : BsAt W (.slice a l.length c) l) => show BsAt W (.slice a (min l.length 500) c) (fewY l) from bs_to h (Nat.min_le_left _ _))
 have hmc : min l.length 500 <= c := by omega
 have hmn := min500 l.length
 go_enter Tryz.func21, Tryz.ntmps21
 go_wp2_with (first
  | (refine wpList_of_run rfl (run_slice_to (o := ⟨some 7, _, _, _, _, _⟩) rfl Tryz.underlying29 sizeU8 rfl rfl hmc) ?_; rw [slv_to1]))
 go_ret
 rw [HE.out]
 exact ⟨⟨rfl, HC.out _ HH.out⟩, Ext.refl _⟩
set_option maxHeartbeats 2000000 in
set_option maxRecDepth 100000 in
theorem r09Same_any (lv lv' : Value) (ls : List (List Rul)) (w : World) (hl : TablesAt w lv ls) (hl' : TablesAt w lv' ls) :
 Calls Tryz.prog 20 #[.agg #[lv], .agg #[lv']] w fun e w' => e = .returned (.bool true) /\ Ext w w' := by
 have HL := Lib.hid hl
 have HL' := Lib.hid hl'
 obtain ⟨a, c, rfl, a1, a2, a3⟩ := hl.form
 obtain ⟨b, d, rfl, b1, b2, b3⟩ := hl'.form
 have A3 := Lib.hid a3
 have B3 := Lib.hid b3
 clear hl hl' a3 b3
 unfold maxLen at a2 b2
 go_enter Tryz.func20, Tryz.ntmps20
 go_upto_region 1 with fail
 refine hideW (Φ := fun W => Code.wp _ _ _ _ W) (fun W => Ext w W /\ Blk W w.heap.size [.slice a ls.length c] 24 /\ Blk W (w.heap.size + 1) [.slice b ls.length d] 24) ⟨by (repeat with_reducible first | exact Ext.refl _ | assumption | refine Ext.alloc ?_ _ | refine Ext.drew ?_ | refine Ext.drewN ?_ _ | (refine Ext.setCellP ?_ ?_; focus (first | (simp; done) | (simp; omega) | omega))), (Blk.new w [.slice a ls.length c] 24).old _, Blk.newAt [.slice b ls.length d] (by simp)⟩ (fun W1 hW1 => ?_)
 obtain ⟨hx1, hb1, hb2⟩ := hW1
 have HX1 := Lib.hid hx1
 have HB1 := Lib.hid hb1
 have HB2 := Lib.hid hb2
 have hbc := hb1.cells
 have hbd := hb2.cells
 clear hx1 hb1 hb2
 generalize w.heap.size + 1 = nc at *
 generalize w.heap.size = nb at *
 go_wp2_with fail
 go_loopw [5] (fun i wr => ∃ k : Nat, k <= ls.length /\ i = I k /\ Hid (Ext W1 wr)) (fun i _ => ls.length - (intOf i).toNat)
 case atStart => exact ⟨0, Nat.zero_le _, rfl, Lib.hid (Ext.refl _)⟩
 case round =>
  obtain ⟨k, hk, rfl, HX⟩ := hrel
  clear hbc hbd
  have hbc := (HB1.out.later HX.out).keep
  have hbd := (HB2.out.later HX.out).keep
  have hx0 := Ext.refl wr
  by_cases hlt : k < ls.length
  · have HLT := Lib.hid hlt
    obtain ⟨b0, o0, u0, rfl, q0, r0⟩ := A3.out k _ (List.getElem?_eq_getElem hlt)
    obtain ⟨b1, o1, u1, rfl, q1, r1⟩ := B3.out k _ (List.getElem?_eq_getElem hlt)
    have hq0 := Ext.keep ((HX1.out.trans HX.out).cell q0)
    have hq1 := Ext.keep ((HX1.out.trans HX.out).cell q1)
    have HR := Lib.hid (fun W (h : Ext wr W) => (r08Same_any _ _ _ _ W (r0.later (HX1.out.trans (HX.out.trans h))) (r1.later (HX1.out.trans (HX.out.trans h)))).mono (R' := fun e w' => e = .returned (.bool true) /\ Ext W w') (by
     rintro e w' ⟨he, hx⟩
     rw [decide_eq_true rfl] at he
     exact ⟨he, hx⟩))
    clear q0 q1 r0 r1
    generalize ls[k] = l at *
    go_upto_region 6 with fail
    refine wp_region_E 11 rfl (by kernel_rfl) (by kernel_rfl) ?_
    refine WEi_at 0 ?_
    iterate 10
     refine WEi_q rfl (by decide) (by kernel_rfl) rfl ?_; apply Exists.intro; refine ⟨fun w1 hx1 => ?_, ?_⟩
     · have hq1 := hx1.cells; go_simp; try go_bits
       first | with_reducible rfl
     simp only [Act.put, List.setIfInBounds_toArray, List.set_cons_zero, List.set_cons_succ, Nat.reduceAdd]
    refine WEi_out ?_
    refine WE_q 10 rfl (by decide) (by kernel_rfl) rfl ?_; apply Exists.intro; refine ⟨fun w1 hx1 => ?_, ?_⟩
    · have hq1 := hx1.cells; go_simp; try go_bits
      first | with_reducible rfl | ((refine (HR.out _ hx1).mono ?_; rintro e w' ⟨rfl, hx⟩; exact ⟨rfl, hx⟩))
    simp only [Act.put, List.setIfInBounds_toArray, List.set_cons_zero, List.set_cons_succ]
    refine WE_done (by kernel_rfl) (fun w2 hx2 => ?_)
    (try simp only [List.drop_succ_cons, List.drop_zero])
    have HX2 := Lib.hid (HX.out.trans hx2)
    clear hbc hbd hq0 hq1 hx0 hx2
    go_wp2_with fail
    go_roundw
    case rel => exact ⟨k + 1, Nat.succ_le_of_lt HLT.out, by go_num, HX2⟩
    case measure => have := HLT.out; simp [intOf]; omega
  · go_wp2_with fail
    go_ret
    exact ⟨rfl, HX1.out.trans HX.out⟩
set_option maxHeartbeats 2000000 in
set_option maxRecDepth 100000 in
theorem certfilePut_zero (w : World) : Calls Tryz.prog 18 #[.agg #[I 0, .slice none 0 0, U 0#32, .slice none 0 0], .int .i64 0] w fun e w' => e = .returned (.tuple #[.slice none 0 0, I 9]) /\ Ext w w' := by
 have HM := Lib.hid (fun W => show Calls Tryz.prog 43 #[.agg #[I 0, .slice none 0 0, U 0#32, .slice none 0 0], .int .i64 0] W fun e w' => e = .returned (I 9) /\ Ext W w' from certMay_any _ _ crt0 0 W (crt0_at W) (fun x hx => by cases hx))
 go_enter Tryz.func18, Tryz.ntmps18
 go_upto_region 1 with fail
 refine hideW (Φ := fun W => Code.wp _ _ _ _ W) (fun W => Ext w W /\ Blk W w.heap.size [I 0, .slice none 0 0, U 0#32, .slice none 0 0] 37) ⟨by (repeat with_reducible first | exact Ext.refl _ | assumption | refine Ext.alloc ?_ _ | refine Ext.drew ?_ | refine Ext.drewN ?_ _ | (refine Ext.setCellP ?_ ?_; focus (first | (simp; done) | (simp; omega) | omega))), Blk.new w [I 0, .slice none 0 0, U 0#32, .slice none 0 0] 37⟩ (fun W1 hW1 => ?_)
 obtain ⟨hx1, hb1⟩ := hW1
 have HX1 := Lib.hid hx1
 have hbc := hb1.cells
 clear hx1 hb1
 generalize w.heap.size = cb at *
 go_wp2_with (first
  | (go_at_call 43; (with_reducible refine (HM.out _).mono ?_); rintro e w2 ⟨he, hx⟩; subst he; have HX2 := Lib.hid (HX1.out.trans hx); clear hx))
 go_ret2
 exact ⟨rfl, HX2.out⟩
end Go.Proofs.YtdpmnldmbnpfpaaGreat
