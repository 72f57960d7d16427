/- network.round: the nodes of a loop, from one of them on. Conditions: whole numbers are within 64 bits. -/
import Derived.Test.YtpfkfboohblgoaaNetWalk
import Derived.Maps.OwnIn
import Derived.Maps.AppendAt
namespace Go.Proofs.Ytpfkfboohblgoaa
open Go.RowKit Go.Shelf
attribute [local go_sem] Oper.semAt_some

theorem blk_grownN {w w' : World} {b : Nat} {cs : List Value} {T : TypeId} {r : Option Nat} (h : Blk w b cs T) (hr : r ≠ some b) (hg : w.grownBy w' r) : Blk w' b cs T := by
  have hb := hg.block b h.lt (fun e => hr e.symm)
  unfold Blk
  rw [hb]; exact h
theorem own_setB {W : World} {B : Nat} {e : TypeId} {s : Nat} {v : Value} {n : Nat} {xs : List Value} (h : W.ownsRow B e s v n xs) {b : Nat} {cs : List Value} {T : TypeId} (hb : Blk W b cs T) (hT : T ≠ e) (i : Nat) (u : Value) : (W.setCell ⟨b, i, none⟩ u).ownsRow B e s v n xs := by
  obtain ⟨h0, h1⟩ := h
  refine ⟨h0, ?_⟩
  rcases h1 with h1 | ⟨g, cap, cur, h1, h2, h3, h4⟩
  · exact .inl h1
  · refine .inr ⟨g, cap, cur, h1, h2, ?_, h4⟩
    rw [heap_setB (by
      intro e'
      unfold Blk at hb
      have e2 : b = g := e'
      rw [e2, h3] at hb
      cases hb
      exact hT rfl)]
    exact h3
set_option maxHeartbeats 4000000 in
set_option maxRecDepth 100000 in
theorem netRound_any (lv : Value) (ls : List (List Rul)) (a : BitVec 32) (x : Int) (p : Nat) (w : World) (hl : TablesAt w lv ls) (hok : TablesOk ls) (hm : netMayV ls = 0) (hx : 0 ≤ x) (hp : IsPer (vecV ls a) x p) :
    Calls Try.prog 62 #[.agg #[lv], U a, I x] w fun e w' => ∃ u, e = .returned u ∧ OwnI w' w.heap.size u (wayV (vecV ls a) x p) ∧ Ext w w' := by
  have HL := Lib.hid hl
  have HOK := Lib.hid hok
  have HM := Lib.hid hm
  have HP := Lib.hid hp
  have HON := Lib.hid (hp.on hx)
  have hple : p ≤ 256 := by
    have h1 := hp.le (vec_ok hm a) hx
    have h2 := (netMay_tabs hm).1
    rw [vecV_len] at h1
    omega
  have hpp := hp.pos
  obtain ⟨ad, cap, rfl, a1, a2, a3⟩ := hl.form
  clear a3 hl hok hm hp
  unfold maxLen at a2
  refine calls_of_marks Try.func62 rfl ?_
  simp only [Try.ntmps62, List.size_toArray, List.length_cons, List.length_nil, Nat.reduceAdd, Nat.reduceSub, Array.replicate_succ, Array.replicate_zero, List.push_toArray, List.append_toArray, List.nil_append, List.cons_append]
  go_upto_region 1 with fail
  refine hideW (Φ := fun W => Code.wp _ _ _ _ W) (fun W => Ext w W ∧ Blk W w.heap.size [.slice ad ls.length cap] 24 ∧ Blk W (w.heap.size + 1) [I x] 3)
    ⟨by (repeat (first | with_reducible exact Ext.refl _ | with_reducible assumption | with_reducible refine Ext.alloc ?_ _ | with_reducible refine Ext.drew ?_ | with_reducible refine Ext.drewN ?_ _ | (with_reducible refine Ext.setCellP ?_ ?_; focus (first | (simp; done) | (simp; omega) | omega)))), (Blk.new w [.slice ad ls.length cap] 24).old _, Blk.newAt [I x] (by simp)⟩ (fun W1 hW1 => ?_)
  obtain ⟨hx1, hb1, hv1⟩ := hW1
  have HX1 := Lib.hid hx1
  have HB1 := Lib.hid hb1
  have HV1 := Lib.hid hv1
  clear hx1 hb1 hv1
  generalize hB0 : w.heap.size = B at *
  have HB0 := Lib.hid hB0
  clear hB0
  have hvc := HV1.out.cells
  go_upto_region 2 with fail
  refine hideW (Φ := fun W => Code.wp _ _ _ _ W) (fun W => Ext W1 W ∧ Blk W (W1.heap.size + 1) [.slice (some ⟨W1.heap.size, 0, none⟩) 1 1] 27 ∧ OwnI W W1.heap.size (.slice (some ⟨W1.heap.size, 0, none⟩) 1 1) [x])
    ⟨by (repeat (first | with_reducible exact Ext.refl _ | with_reducible assumption | with_reducible refine Ext.alloc ?_ _ | with_reducible refine Ext.drew ?_ | with_reducible refine Ext.drewN ?_ _ | (with_reducible refine Ext.setCellP ?_ ?_; focus (first | (simp; done) | (simp; omega) | omega)))), Blk.newAt [.slice (some ⟨W1.heap.size, 0, none⟩) 1 1] (by simp), own_later (own_made W1 1 3 1 [I x] rfl (by unfold maxLen; omega)) ((Ext.refl _).alloc _)⟩ (fun W2 hW2 => ?_)
  obtain ⟨hx2, hl2, ho2⟩ := hW2
  have HX2 := Lib.hid (HX1.out.trans hx2)
  have HL2 := Lib.hid hl2
  have HV2 := Lib.hid (HV1.out.later hx2)
  have HO2 := Lib.hid (own_low ho2 (show B ≤ W1.heap.size by have := HX1.out.size; rw [HB0.out] at this; exact this))
  have HLB := Lib.hid (show B + 1 < W1.heap.size + 1 by have := HV1.out.lt; omega)
  have hbc := (HB1.out.later hx2).cells
  have hvc := HV2.out.cells
  clear hx2 hl2 ho2
  have HN0 := Lib.hid (show B + 1 < W1.heap.size from HV1.out.lt)
  have HN2 := Lib.hid (show W1.heap.size + 1 < W2.heap.size from HL2.out.lt)
  generalize hr0 : W1.heap.size = r0 at HN0 HN2 HO2 HL2 HLB ⊢
  clear hr0
  have HN1 := Lib.hid (show (Value.slice (some ⟨r0, 0, none⟩) 1 1).ownBlock ≠ some (B + 1) ∧ (Value.slice (some ⟨r0, 0, none⟩) 1 1).ownBlock ≠ some (W2.heap.size + 1 + 1) from by
    have h1 := HN0.out
    have h2 := HN2.out
    constructor <;> (simp [Value.ownBlock]; omega))
  generalize r0 + 1 = lb at *
  go_wp2_with (first
    | (go_at_call 99; (with_reducible refine (steps_any1 _ a x _).mono ?_); rintro e w4 ⟨he, g1, g2, g3, hx4⟩; subst he; have HX4 := Lib.hid (HX2.out.trans hx4); have HX24 := Lib.hid hx4; have HG := Lib.hid (show StepBox w4 W2.heap.size (W2.heap.size + 1) (W2.heap.size + 1 + 1) (.slice ad ls.length cap) ls a x from ⟨g1, g2, g3, HL.out.later (HX2.out.trans hx4)⟩); clear g1 g2 g3 hx4))
  clear hbc hvc
  have HLT := Lib.hid (show lb < W2.heap.size ∧ W2.heap.size + 1 + 1 < w4.heap.size from ⟨HL2.out.lt, HG.out.node.lt⟩)
  have hw4 : w.heap.size ≤ w4.heap.size := HX4.out.size
  refine wp_range_to (gf := 117) rfl (enters_of Try.func117 (by kernel_rfl) rfl) (S := fun j => itv (vecV ls a) (j + 1) x = -1)
    (I := fun j W => (j < p) ∧ Ext w W ∧ (∃ u, Blk W lb [u] 27 ∧ W.ownsRow B 3 1 u (wayV (vecV ls a) x (j + 1)).length (icells (wayV (vecV ls a) x (j + 1))) ∧ u.ownBlock ≠ some (B + 1) ∧ u.ownBlock ≠ some (W2.heap.size + 1 + 1)) ∧ Blk W (B + 1) [I x] 3 ∧ Blk W W2.heap.size [.slice ad ls.length cap] 24 ∧ Blk W (W2.heap.size + 1) [U a] 26 ∧ Blk W (W2.heap.size + 1 + 1) [I x] 3) rfl
    (steps_to (.slice ad ls.length cap) ls a x W2.heap.size (W2.heap.size + 1) (W2.heap.size + 1 + 1) p HOK.out HM.out _ fun j A h => ⟨h.1, h.2.2.2.2.1, h.2.2.2.2.2.1, h.2.2.2.2.2.2, HL.out.later h.2.1⟩)
    (fun c W => c = .exit 0 ∧ Ext w W ∧ ∃ u, Blk W lb [u] 27 ∧ W.ownsRow B 3 1 u (wayV (vecV ls a) x p).length (icells (wayV (vecV ls a) x p))) (fun j => ?_) (fun c => ?_) ?_ ?round ?done ?stop
  · refine Bears.and (Bears.pure _ _) (Bears.and (bears_ext hw4) (Bears.and (Bears.ex fun u => ?_) ?_))
    · (repeat (first | with_reducible exact bears_blk _ _ _ _ | with_reducible exact bears_own _ _ _ _ _ _ _ | with_reducible exact bears_ext (by assumption) | with_reducible exact Bears.pure _ _ | with_reducible refine Bears.and ?_ ?_))
    · (repeat (first | with_reducible exact bears_blk _ _ _ _ | with_reducible exact bears_own _ _ _ _ _ _ _ | with_reducible exact bears_ext (by assumption) | with_reducible exact Bears.pure _ _ | with_reducible refine Bears.and ?_ ?_))
  · refine Bears.and (Bears.pure _ _) (Bears.and (bears_ext hw4) (Bears.ex fun u => ?_))
    (repeat (first | with_reducible exact bears_blk _ _ _ _ | with_reducible exact bears_own _ _ _ _ _ _ _ | with_reducible exact bears_ext (by assumption) | with_reducible exact Bears.pure _ _ | with_reducible refine Bears.and ?_ ?_))
  · exact ⟨hpp, HX4.out, ⟨_, HL2.out.later HX24.out, own_later HO2.out HX24.out, HN1.out.1, HN1.out.2⟩, HV2.out.later HX24.out, HG.out.net, HG.out.addr, HG.out.node⟩
  case round =>
    apply Exists.intro
    refine ⟨fun l j A K hK => ?_, fun l j A hsz hI hS => ?_⟩
    · gi_wp2
      exact hK
    · obtain ⟨hj, hxA, ⟨u, hlb, ho, hn1, hn2⟩, hv, g1, g2, g3⟩ := hI
      have HXA := Lib.hid hxA
      have HLA := Lib.hid hlb
      have HVA := Lib.hid hv
      obtain ⟨ua, uc, rfl⟩ := own_form ho
      have HOA := Lib.hid ho
      have HNA := Lib.hid (And.intro hn1 hn2)
      have hvc := hv.cells
      have hlc := hlb.cells
      clear hxA hlb hv ho hn1 hn2
      by_cases hjp : j + 1 = p
      · have HE := Lib.hid (show itv (vecV ls a) (j + 1) x = x by rw [hjp]; exact HP.out.back)
        have HJP := Lib.hid hjp
        rw [HE.out]
        clear hjp
        gi_wp2
        exact ⟨⟨rfl, rfl⟩, rfl, HXA.out, _, HLA.out, by rw [← HJP.out]; exact HOA.out⟩
      · have hb : (itv (vecV ls a) (j + 1) x == x) = false := beq_false_of_ne (HP.out.first (j + 1) (by omega) (by omega))
        have HJ := Lib.hid (show j + 1 < p by omega)
        clear hjp
        have HWS := Lib.hid (wayV_step (vecV ls a) x (j + 1))
        have HWL := Lib.hid (wayV_len (vecV ls a) x (j + 1))
        generalize itv (vecV ls a) (j + 1) x = y at *
        obtain ⟨i0, hi, hz0, hz1, hz2⟩ := info_parts infoInt
        have HOB := Lib.hid (own_later HOA.out ((Ext.refl A).alloc (.cells #[I y] 3)))
        have HLB2 := Lib.hid (HLA.out.old (.cells #[I y] 3))
        have HHB := Lib.hid (hsz.of_eq (hsz.later ((Ext.refl A).alloc (.cells #[I y] 3))))
        have HHA := Lib.hid (hsz.later ((Ext.refl A).alloc (.cells #[I y] 3)))
        have HBZ := Lib.hid (show B ≤ (A.alloc (.cells #[I y] 3)).heap.size by have := HXA.out.size; rw [HB0.out] at this; simp; omega)
        have HXB := Lib.hid (show Ext w (A.alloc (.cells #[I y] 3)) from HXA.out.alloc _)
        have HG3 := Lib.hid (And.intro (HVA.out.old (.cells #[I y] 3)) (And.intro (g1.old (.cells #[I y] 3)) (And.intro (g2.old (.cells #[I y] 3)) (g3.old (.cells #[I y] 3)))))
        gi_wp2_with (gi_at_builtin; refine wpListIn_append_own_at _ rfl (.tmp 19) (.tmp 21) 27 rfl B 3 i0 (I 0) 1 8 Try.underlying27 hi hz0 hz1 hz2 rfl (by decide) _ _ _ rfl HOB.out ⟨A.heap.size, 0, none⟩ 1 1 [I y] rfl rfl (cell_one_new _ _ _) (by intro q hq; simp at hq; subst hq; rfl) (by rw [HWL.out]; unfold maxLen; omega) (by rw [HWL.out]; omega) HBZ.out ?_
                     intro v' w1 ho hg hnil hat
                     have HC := Lib.hid (blk_grownT HLB2.out HOB.out (by decide) hg)
                     have HXC := Lib.hid (Ext.grown HXB.out hg HOB.out (Nat.le_of_eq HB0.out))
                     have HHC := Lib.hid (HHB.out.grown HOB.out hg)
                     have HOC := Lib.hid ho
                     have HV5 := Lib.hid (blk_grownN HG3.out.1 HNA.out.1 hg)
                     have HN5 := Lib.hid (blk_grownT HG3.out.2.1 HOB.out (by decide) hg)
                     have HA5 := Lib.hid (blk_grownT HG3.out.2.2.1 HOB.out (by decide) hg)
                     have HX5 := Lib.hid (blk_grownN HG3.out.2.2.2 HNA.out.2 hg)
                     have HNC := Lib.hid (show v'.ownBlock ≠ some (B + 1) ∧ v'.ownBlock ≠ some (W2.heap.size + 1 + 1) from by
                       rcases hat with h | h
                       · rw [h]; exact HNA.out
                       · rw [h]
                         have h1 := HLT.out.2
                         have h2 := HN0.out
                         have h3 := HN2.out
                         have h4 := HVA.out.lt
                         have h5 := g3.lt
                         constructor <;> (simp; omega))
                     obtain ⟨xa, xc, rfl⟩ := own_form ho
                     have hlc := HC.out.cells
                     have hlf := HC.out.frozen
                     clear ho hg hnil hat)
        have HQ := Lib.hid (HHC.out)
        refine ⟨⟨((HHB.out.of_eq HHC.out).set HC.out 0 _).1.trans (HHC.out.1.trans HHA.out.1), ((HHB.out.of_eq HHC.out).set HC.out 0 _).2.trans (HHC.out.2.trans HHA.out.2)⟩, HJ.out, HXC.out.setCell (by show w.heap.size ≤ lb; rw [HB0.out]; have := HLB.out; omega) _, ⟨_, HC.out.set 0 _, ?_, HNC.out.1, HNC.out.2⟩, ?_, ?_, ?_, ?_⟩
        · have h := own_setB HOC.out HC.out (by decide) 0 (.slice xa ((wayV (vecV ls a) x (j + 1)).length + 1) xc)
          rw [HWS.out, List.length_append, icells_app]
          exact h
        · exact HV5.out.other (by show lb ≠ B + 1; have := HLB.out; omega) _
        · exact HN5.out.other (by show lb ≠ _; have := HLT.out; omega) _
        · exact HA5.out.other (by show lb ≠ _; have := HLT.out; omega) _
        · exact HX5.out.other (by show lb ≠ _; have := HLT.out; omega) _
  case done => exact fun j A hS hI _ => absurd hS (by have := (HON.out.it (vec_ok HM.out a) (j + 1)).1; omega)
  case stop =>
    rintro c A ⟨rfl, hxA, u, hr, hs⟩ hD
    have hrc := hr.cells
    go_wp2_with fail
    have hoB := (bears_own w4.heap.size B 3 1 u (wayV (vecV ls a) x p).length (icells (wayV (vecV ls a) x p))).put A w4.heap.size _ (.deferred none) hs (Nat.le_refl _) hD rfl
    have hxB := hxA.putObj hw4 (.deferred none)
    refine ⟨by simp, .inl ⟨_, _, rfl, run_takeDeferred hD, ?_⟩⟩
    exact ⟨_, results_tmp rfl _ _ _, u, rfl, by rw [HB0.out]; exact hoB, hxB⟩
end Go.Proofs.Ytpfkfboohblgoaa
