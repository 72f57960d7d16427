/- network.Walk: the node that so many steps lead to. Conditions: whole numbers are within 64 bits. -/
import Derived.Test.YtpfkfboohblgoaaNetSteps
namespace Go.Proofs.Ytpfkfboohblgoaa
open Go.RowKit Go.Shelf
attribute [local go_sem] Oper.semAt_some

theorem calls_of_marks {P : Program} {f : FuncId} {fn : Func} {c : Code} {args : Array Value} {w : World} {R : Ending → World → Prop} (hf : P.funcs[f]? = some fn) (hb : fn.body = some c)
    (h : c.wp P (bodyPostM Fence.wide 9 P fn R) { tmps := args ++ Array.replicate (fn.ntmps - args.size) undef, defers := [] } w) : Calls P f args w R :=
  (callsIn_wide (n := 9)).1 (callsIn_of_wp_marks hf hb trivial (wpIn_wide.2 h) rfl)
set_option maxHeartbeats 1000000 in
theorem steps_any1 (lv : Value) (a : BitVec 32) (x : Int) (w : World) :
    Calls Try.prog 99 #[.agg #[lv], U a, I x] w fun e w' => e = .returned (.func (.func 117) #[] #[.pointer (some ⟨w.heap.size, 0, none⟩), .pointer (some ⟨w.heap.size + 1, 0, none⟩), .pointer (some ⟨w.heap.size + 1 + 1, 0, none⟩)]) ∧
      Blk w' w.heap.size [lv] 24 ∧ Blk w' (w.heap.size + 1) [U a] 26 ∧ Blk w' (w.heap.size + 1 + 1) [I x] 3 ∧ Ext w w' := by
  go_enter Try.func99, Try.ntmps99
  go_wp2_with fail
  go_ret
  exact ⟨rfl, ((Blk.new w [lv] 24).old _).old _, (Blk.newAt [U a] (by simp)).old _, Blk.newAt [I x] (by simp), by (repeat (first | with_reducible exact Ext.refl _ | with_reducible assumption | with_reducible refine Ext.alloc ?_ _ | with_reducible refine Ext.drew ?_ | with_reducible refine Ext.drewN ?_ _ | (with_reducible refine Ext.setCellP ?_ ?_; focus (first | (simp; done) | (simp; omega) | omega))))⟩
set_option maxHeartbeats 4000000 in
set_option maxRecDepth 100000 in
theorem netWalk_any (lv : Value) (ls : List (List Rul)) (a : BitVec 32) (x : Int) (k : Nat) (w : World) (hl : TablesAt w lv ls) (hok : TablesOk ls) (hm : netMayV ls = 0) (hk : 1 ≤ k ∧ k ≤ 256) (hx : ∀ j, j ≤ k → isN (vecV ls a) (itv (vecV ls a) j x)) :
    Calls Try.prog 63 #[.agg #[lv], U a, I x, I k] w fun e w' => e = .returned (.tuple #[I (itv (vecV ls a) k x), .bool true]) ∧ Ext w w' := by
  have HL := Lib.hid hl
  have HOK := Lib.hid hok
  have HM := Lib.hid hm
  have HX := Lib.hid hx
  have h0 := hx 0 (by omega)
  have hx0 : 0 ≤ x := h0.1
  have hx1 : x < ls.length := by have := h0.2; rw [vecV_len] at this; exact this
  obtain ⟨ad, cap, rfl, a1, a2, a3⟩ := hl.form
  clear a3 hl hok hm hx h0
  unfold maxLen at a2
  refine calls_of_marks Try.func63 rfl ?_
  simp only [Try.ntmps63, List.size_toArray, List.length_cons, List.length_nil, Nat.reduceAdd, Nat.reduceSub, Array.replicate_succ, Array.replicate_zero, List.push_toArray, List.append_toArray, List.nil_append, List.cons_append]
  go_upto_region 1 with fail
  refine hideW (Φ := fun W => Code.wp _ _ _ _ W) (fun W => Ext w W ∧ Blk W w.heap.size [.slice ad ls.length cap] 24 ∧ Blk W (w.heap.size + 1) [I k] 3 ∧ Blk W (w.heap.size + 1 + 1) [I 0] 3 ∧ Blk W (w.heap.size + 1 + 1 + 1) [.bool false] 4)
    ⟨by (repeat (first | with_reducible exact Ext.refl _ | with_reducible assumption | with_reducible refine Ext.alloc ?_ _ | with_reducible refine Ext.drew ?_ | with_reducible refine Ext.drewN ?_ _ | (with_reducible refine Ext.setCellP ?_ ?_; focus (first | (simp; done) | (simp; omega) | omega)))), (((Blk.new w [.slice ad ls.length cap] 24).old _).old _).old _, ((Blk.newAt [I k] (by simp)).old _).old _, (Blk.newAt [I 0] (by simp)).old _, Blk.newAt [.bool false] (by simp)⟩ (fun W1 hW1 => ?_)
  obtain ⟨hx1', hb1, hk1, hr1, hs1⟩ := hW1
  have HX1 := Lib.hid hx1'
  have HB1 := Lib.hid hb1
  have HK1 := Lib.hid hk1
  have HR1 := Lib.hid hr1
  have HS1 := Lib.hid hs1
  have HRS := Lib.hid (fun (A : World) (u : Value) (h : Ext w A) => h.setCell (p := ⟨w.heap.size + 1 + 1, 0, none⟩) (by show w.heap.size ≤ w.heap.size + 1 + 1; omega) u)
  have HSS := Lib.hid (fun (A : World) (u : Value) (h : Ext w A) => h.setCell (p := ⟨w.heap.size + 1 + 1 + 1, 0, none⟩) (by show w.heap.size ≤ w.heap.size + 1 + 1 + 1; omega) u)
  clear hx1' hb1 hk1 hr1 hs1
  generalize hsb : w.heap.size + 1 + 1 + 1 = sb at *
  generalize hrb : w.heap.size + 1 + 1 = rb at *
  generalize hkb : w.heap.size + 1 = kb at *
  generalize w.heap.size = nb at *
  have HSB := Lib.hid (show nb ≤ rb ∧ rb ≠ sb ∧ nb ≤ sb ∧ kb ≠ rb ∧ kb ≠ sb by omega)
  clear hsb hrb hkb
  have hbc := HB1.out.keep
  have hkc := HK1.out.keep
  have hxr := Ext.refl W1
  have hd0 : decide (0 ≤ x) = true := decide_eq_true hx0
  have hd1 : decide (x < (ls.length : Int)) = true := decide_eq_true hx1
  have hk0 : decide ((k : Int) < 0) = false := decide_eq_false (by omega)
  have hk1 : decide (256 < (k : Int)) = false := decide_eq_false (by omega)
  go_upto_region 3 with (first
    | (go_at_call 56; (with_reducible refine (netIs_any _ ls x _ (HL.out.later HX1.out)).mono ?_); rintro e w2 ⟨he, hx2⟩; subst he; have HX2 := Lib.hid hx2; have HXT := Lib.hid (HX1.out.trans hx2); clear hx2))
  clear hbc hkc hxr
  have hkc := (HK1.out.later HX2.out).cells
  have hke : ((k : Int) == 0) = false := beq_false_of_ne (by omega)
  go_upto_region 6 with fail
  refine hideW (Φ := fun W => Code.wp _ _ _ _ W) (fun W => Ext w2 W ∧ Blk W w2.heap.size [I 0] 3)
    ⟨by (repeat (first | with_reducible exact Ext.refl _ | with_reducible assumption | with_reducible refine Ext.alloc ?_ _ | with_reducible refine Ext.drew ?_ | with_reducible refine Ext.drewN ?_ _ | (with_reducible refine Ext.setCellP ?_ ?_; focus (first | (simp; done) | (simp; omega) | omega)))), Blk.new w2 [I 0] 3⟩ (fun W3 hW3 => ?_)
  obtain ⟨hx3, hd3⟩ := hW3
  have HX3 := Lib.hid (HX2.out.trans hx3)
  have HD3 := Lib.hid hd3
  have HDB := Lib.hid (show sb < w2.heap.size ∧ rb < w2.heap.size ∧ kb < w2.heap.size from ⟨(HS1.out.later HX2.out).lt, (HR1.out.later HX2.out).lt, (HK1.out.later HX2.out).lt⟩)
  clear hx3 hd3 hkc
  have HDS := Lib.hid (fun (A : World) (u : Value) (h : Ext w A) => h.setCell (p := ⟨w2.heap.size, 0, none⟩) HXT.out.size u)
  generalize w2.heap.size = db at *
  have hbc := (HB1.out.later HX3.out).cells
  go_wp2_with (first
    | (go_at_call 99; (with_reducible refine (steps_any1 _ a x _).mono ?_); rintro e w4 ⟨he, g1, g2, g3, hx4⟩; subst he; have HX4 := Lib.hid (HX3.out.trans hx4); have HX34 := Lib.hid hx4; have HG := Lib.hid (show StepBox w4 W3.heap.size (W3.heap.size + 1) (W3.heap.size + 1 + 1) (.slice ad ls.length cap) ls a x from ⟨g1, g2, g3, HL.out.later (HX1.out.trans (HX3.out.trans hx4))⟩); clear g1 g2 g3 hx4))
  have HLT := Lib.hid (show db < W3.heap.size ∧ W3.heap.size + 1 + 1 < w4.heap.size from ⟨HD3.out.lt, HG.out.node.lt⟩)
  have hw4 : w.heap.size ≤ w4.heap.size := (HX1.out.trans HX4.out).size
  have HZ4 := Lib.hid (show db + 1 ≤ W3.heap.size from HD3.out.lt)
  clear hbc
  refine wp_range_to (gf := 117) rfl (enters_of Try.func117 (by kernel_rfl) rfl) (S := fun j => itv (vecV ls a) (j + 1) x = -1)
    (I := fun j W => (j < k) ∧ Ext w W ∧ Blk W db [I (j : Int)] 3 ∧ Blk W kb [I k] 3 ∧ Blk W rb [I 0] 3 ∧ Blk W sb [.bool false] 4 ∧ Blk W W3.heap.size [.slice ad ls.length cap] 24 ∧ Blk W (W3.heap.size + 1) [U a] 26 ∧ Blk W (W3.heap.size + 1 + 1) [I x] 3) rfl
    (steps_to (.slice ad ls.length cap) ls a x W3.heap.size (W3.heap.size + 1) (W3.heap.size + 1 + 1) k HOK.out HM.out _ fun j A h => ⟨h.1, h.2.2.2.2.2.2.1, h.2.2.2.2.2.2.2.1, h.2.2.2.2.2.2.2.2, HL.out.later h.2.1⟩)
    (fun c W => c = .ret ∧ Ext w W ∧ Blk W rb [I (itv (vecV ls a) k x)] 3 ∧ Blk W sb [.bool true] 4) (fun j => ?_) (fun c => ?_) ?_ ?round ?done ?stop
  · (repeat (first | with_reducible exact bears_blk _ _ _ _ | with_reducible exact bears_own _ _ _ _ _ _ _ | with_reducible exact bears_ext (by assumption) | with_reducible exact Bears.pure _ _ | with_reducible refine Bears.and ?_ ?_))
  · (repeat (first | with_reducible exact bears_blk _ _ _ _ | with_reducible exact bears_own _ _ _ _ _ _ _ | with_reducible exact bears_ext (by assumption) | with_reducible exact Bears.pure _ _ | with_reducible refine Bears.and ?_ ?_))
  · exact ⟨hk.1, HX1.out.trans HX4.out, HD3.out.later HX34.out, HK1.out.later HX4.out, HR1.out.later HX4.out, HS1.out.later HX4.out, HG.out.net, HG.out.addr, HG.out.node⟩
  case round =>
    apply Exists.intro
    refine ⟨fun l j A K hK => ?_, fun l j A hsz hI hS => ?_⟩
    · gi_wp2
      exact hK
    · obtain ⟨hj, hxA, hd, hkk, hr, hs, g1, g2, g3⟩ := hI
      have HXA := Lib.hid hxA
      have HDA := Lib.hid hd
      have HKA := Lib.hid hkk
      have HRA := Lib.hid hr
      have HSA := Lib.hid hs
      have hdc := hd.cells
      have hdf := hd.frozen
      have hkc := (hkk.other (p := ⟨db, 0, none⟩) (by show db ≠ kb; have := HDB.out; omega) (I ((j : Int) + 1))).cells
      have hw5 : db < w4.heap.size := by have := HLT.out; omega
      have hne : db ≠ w4.heap.size ∧ db ≠ w4.heap.size + 1 := by omega
      have HNE := Lib.hid hne
      clear hxA hd hkk hr hs hne
      have hji : IntKind.i64.wrap ((j : Int) + 1) = (j : Int) + 1 := by rw [IntKind.wrap_i64]; omega
      by_cases hjk : j + 1 = k
      · have hb : ((j : Int) + 1 == (k : Int)) = true := by rw [← hjk]; simp
        have h1 : db ≠ rb := by have := HDB.out; omega
        have h2 : db ≠ sb := by have := HDB.out; omega
        have h3 : rb ≠ sb := HSB.out.2.1
        have HR2 := Lib.hid (HRA.out.other (p := ⟨db, 0, none⟩) h1 (I ((j : Int) + 1)))
        have HS2 := Lib.hid ((HSA.out.other (p := ⟨db, 0, none⟩) h2 (I ((j : Int) + 1))).other (p := ⟨rb, 0, none⟩) h3 (I (itv (vecV ls a) k x)))
        have hrc := HR2.out.cells
        have hrf := HR2.out.frozen
        have hsc := HS2.out.cells
        have hsf := HS2.out.frozen
        have HH := Lib.hid (show rb < w4.heap.size ∧ sb < w4.heap.size by have := HDB.out; omega)
        clear h1 h2 h3 hw5
        gi_wp2
        refine ⟨⟨?_, ?_⟩, rfl, HSS.out _ _ (HRS.out _ _ (HDS.out _ _ HXA.out)), (HR2.out.set 0 _).other HSB.out.2.1.symm _, HS2.out.set 0 _⟩
        · rw [heap_setB (by show sb ≠ _; have := HH.out; omega), heap_setB (by show rb ≠ _; have := HH.out; omega), heap_setB HNE.out.1]
        · rw [heap_setB (by show sb ≠ _; have := HH.out; omega), heap_setB (by show rb ≠ _; have := HH.out; omega), heap_setB HNE.out.2]
      · have hb : ((j : Int) + 1 == (k : Int)) = false := beq_false_of_ne (by omega)
        have HJ := Lib.hid (show j + 1 < k by omega)
        have h1 : db ≠ rb := by have := HDB.out; omega
        have h2 : db ≠ sb := by have := HDB.out; omega
        have h3 : db ≠ kb := by have := HDB.out; omega
        have HN := Lib.hid (And.intro h1 (And.intro h2 h3))
        clear h1 h2 h3 hw5 hjk
        gi_wp2
        exact ⟨⟨heap_setB HNE.out.1, heap_setB HNE.out.2⟩, HJ.out, HDS.out _ _ HXA.out, HDA.out.set 0 _, HKA.out.other HN.out.2.2 _, HRA.out.other HN.out.1 _, HSA.out.other HN.out.2.1 _,
          g1.other (by show db ≠ _; have := HLT.out; omega) _, g2.other (by show db ≠ _; have := HLT.out; omega) _, g3.other (by show db ≠ _; have := HLT.out; omega) _⟩
  case done => exact fun j A hS hI _ => absurd hS (by have := (HX.out (j + 1) (by have := hI.1; omega)).1; omega)
  case stop =>
    rintro c A ⟨rfl, hxA, hr, hs⟩ hD
    go_wp2_with fail
    have hrB := (bears_blk w4.heap.size rb [I (itv (vecV ls a) k x)] 3).put A w4.heap.size _ (.deferred none) hr (Nat.le_refl _) hD rfl
    have hsB := (bears_blk w4.heap.size sb [.bool true] 4).put A w4.heap.size _ (.deferred none) hs (Nat.le_refl _) hD rfl
    have hxB := hxA.putObj hw4 (.deferred none)
    refine ⟨by simp, .inl ⟨_, _, rfl, run_takeDeferred hD, ?_⟩⟩
    generalize A.putObj w4.heap.size (.deferred none) = B at *
    have hrc := hrB.cells
    have hsc := hsB.cells
    exact ⟨.tuple #[I (itv (vecV ls a) k x), .bool true], by simp [results, Try.results63, go_sem, hrc, hsc], rfl, hxB⟩
end Go.Proofs.Ytpfkfboohblgoaa
