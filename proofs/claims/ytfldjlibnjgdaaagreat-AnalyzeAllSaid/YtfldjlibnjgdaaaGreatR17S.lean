/- theseusref17.Same of certificates that say the same. Conditions: whole numbers are within 64 bits. -/
import Derived.Test.YtfldjlibnjgdaaaGreatGAna
import Derived.Test.YtfldjlibnjgdaaaGreatGNetP
import Derived.Test.YtfldjlibnjgdaaaGreatGAtC
namespace Go.Proofs.YtfldjlibnjgdaaaGreat
open Go Go.RowKit Go.Maps Go.Proofs

set_option maxHeartbeats 4000000 in
set_option maxRecDepth 100000 in
theorem r17Same_yes (pv tv pv' tv' : Value) (c d : Crt) (w : World) (h : CrtEq c d) (hc : CertAt w pv tv c) (hd : CertAt w pv' tv' d) :
    Calls Tryz.prog 10 #[.agg #[I c.vd, pv, U c.dest, tv], .agg #[I d.vd, pv', U d.dest, tv']] w fun e w' => e = .returned (.bool true) ∧ Ext w w' := by
  obtain ⟨vd, ps, rks, de, tr⟩ := c
  obtain ⟨vd', qs, rks', de', tr'⟩ := d
  obtain ⟨h1, h2, h3, h4, h5⟩ := h
  simp only at h1 h2 h3 h4 h5
  subst h1; subst h2; subst h3; subst h4
  have HC := Lib.hid hc
  have HD := Lib.hid hd
  have HL := Lib.hid (show qs.length = ps.length by have := congrArg List.length h5; simpa using this.symm)
  have HE := Lib.hid (show ∀ (i : Nat) (p q : Prt), ps[i]? = some p → qs[i]? = some q → q.fr = p.fr ∧ q.up = p.up from fun i p q hp hq => by
    have h6 := congrArg (fun l => l[i]?) h5
    simp only [List.getElem?_map, hp, hq, Option.map_some, Option.some.injEq, Prod.mk.injEq] at h6
    exact ⟨h6.1.symm, h6.2.symm⟩)
  obtain ⟨pa, pc, rfl, p1, p2, hpf⟩ := hc.parts.form
  obtain ⟨qa, qc, rfl, q1, q2, hqf⟩ := hd.parts.form
  obtain ⟨ta, tc, rfl, t1, t2, -⟩ := hc.tr.form
  obtain ⟨ta', tc', rfl, t1', t2', -⟩ := hd.tr.form
  have HPF := Lib.hid hpf
  have HQF := Lib.hid hqf
  have HRL := Lib.hid (show rks.length = ps.length from hc.len)
  clear hpf hqf hc hd h5
  show Calls _ _ #[.agg #[I vd, .slice pa ps.length pc, U de, .slice ta tr.length tc], .agg #[I vd, .slice qa qs.length qc, U de, .slice ta' tr.length tc']] _ _
  rw [HL.out]
  unfold maxLen at p2 t2
  have hvv : (vd != vd) = false := bne_self_eq_false' _
  go_enter Tryz.func10, Tryz.ntmps10
  go_upto_region 1 with fail
  refine hideW (Φ := fun W => Code.wp _ _ _ _ W) (fun W => Ext w W ∧ Blk W w.heap.size [I vd, .slice pa ps.length pc, U de, .slice ta tr.length tc] 30 ∧ Blk W (w.heap.size + 1) [I vd, .slice qa ps.length qc, U de, .slice ta' tr.length tc'] 30)
    ⟨by (repeat (first | with_reducible exact Ext.refl _ | with_reducible assumption | with_reducible refine Ext.alloc ?_ _ | with_reducible refine Ext.drew ?_ | with_reducible refine Ext.drewN ?_ _ | (with_reducible refine Ext.setCellP ?_ ?_; focus (first | (simp; done) | (simp; omega) | omega)))), (Blk.new w [I vd, .slice pa ps.length pc, U de, .slice ta tr.length tc] 30).old _, Blk.newAt [I vd, .slice qa ps.length qc, U de, .slice ta' tr.length tc'] (by simp)⟩ (fun W1 hW1 => ?_)
  obtain ⟨hx1, hk1, hj1⟩ := hW1
  have HX1 := Lib.hid hx1
  have HK1 := Lib.hid hk1
  have HJ1 := Lib.hid hj1
  have hkc := hk1.cells
  have hjc := hj1.cells
  clear hx1 hk1 hj1
  generalize w.heap.size = kb at *
  go_upto_region 3 with (first
    | (go_at_call 15; (with_reducible refine (r09Row_any _ _ tr tr _ (HC.out.tr.later HX1.out) (HD.out.tr.later HX1.out)).mono ?_); rintro e w2 ⟨he, hx2⟩; replace he := he.trans (congrArg (fun b => Ending.returned (.bool b)) (decide_eq_true rfl)); subst he; have HX2 := Lib.hid (HX1.out.trans hx2); have HK2 := Lib.hid (HK1.out.later hx2); have HJ2 := Lib.hid (HJ1.out.later hx2); clear hx2))
  clear hkc hjc
  go_wp2_with fail
  go_loopw [5] (fun i wr => ∃ k : Nat, k ≤ ps.length ∧ i = I k ∧ Hid (Ext w2 wr)) (fun i _ => ps.length - (intOf i).toNat)
  case atStart => exact ⟨0, Nat.zero_le _, rfl, Ext.refl _⟩
  case round =>
    obtain ⟨k, hk, rfl, HX⟩ := hrel
    have hkc := (HK2.out.later HX.out).cells
    have hjc := (HJ2.out.later HX.out).cells
    have HXW := Lib.hid (HX2.out.trans HX.out)
    by_cases hlt : k < ps.length
    · have hkd : decide ((k : Int) < (ps.length : Int)) = true := decide_eq_true (by omega)
      have HLT := Lib.hid hlt
      have hlq : k < qs.length := by rw [HL.out]; exact hlt
      have hlr : k < rks.length := by rw [HRL.out]; exact hlt
      obtain ⟨b0, o0, he0, x0, x1, x2⟩ := HPF.out k _ (List.getElem?_eq_getElem hlt)
      obtain ⟨b1, o1, he1, y0, y1, y2⟩ := HQF.out k _ (List.getElem?_eq_getElem hlq)
      subst he0
      subst he1
      obtain ⟨e1, e2⟩ := HE.out k _ _ (List.getElem?_eq_getElem hlt) (List.getElem?_eq_getElem hlq)
      have hr1 : IntsAt w ps[k].rk rks[k] := HC.out.rk k _ _ (List.getElem?_eq_getElem hlt) (List.getElem?_eq_getElem hlr)
      have hr2 : IntsAt w qs[k].rk rks[k] := HD.out.rk k _ _ (List.getElem?_eq_getElem hlq) (List.getElem?_eq_getElem hlr)
      rw [e1] at y0
      rw [e2] at y1
      obtain ⟨ra, rc, hre, -⟩ := hr1.form
      obtain ⟨sa, sc, hse, -⟩ := hr2.form
      replace x2 := x2.trans (congrArg some hre)
      replace y2 := y2.trans (congrArg some hse)
      have HR1 := Lib.hid (show IntsAt w (.slice ra rks[k].length rc) rks[k] from hre ▸ hr1)
      have HR2 := Lib.hid (show IntsAt w (.slice sa rks[k].length sc) rks[k] from hse ▸ hr2)
      clear e1 e2 hr1 hr2 hre hse
      generalize rks[k] = r at *
      generalize ps[k].fr = lo at *
      generalize ps[k].up = hi at *
      have HY0 := Lib.hid y0
      have HY1 := Lib.hid y1
      have HY2 := Lib.hid y2
      replace x0 := HXW.out.cell x0
      replace x1 := HXW.out.cell x1
      replace x2 := HXW.out.cell x2
      clear y0 y1 y2
      go_upto_region 7 with fail
      refine hideW (Φ := fun W => Code.wp _ _ _ _ W) (fun W => Ext wr W ∧ Blk W wr.heap.size [U lo, U hi, .slice ra r.length rc] 64)
        ⟨(Ext.refl _).alloc _, Blk.new wr [U lo, U hi, .slice ra r.length rc] 64⟩ (fun W3 hW3 => ?_)
      obtain ⟨hx3, hb3⟩ := hW3
      have HX3 := Lib.hid hx3
      have HB3 := Lib.hid hb3
      have HXW3 := Lib.hid (HXW.out.trans hx3)
      clear hx3 hb3 x0 x1 x2 hkc hjc
      have hjc := ((HJ2.out.later HX.out).later HX3.out).cells
      have y0 := HXW3.out.cell HY0.out
      have y1 := HXW3.out.cell HY1.out
      have y2 := HXW3.out.cell HY2.out
      generalize wr.heap.size = xb at *
      go_upto_region 8 with fail
      refine hideW (Φ := fun W => Code.wp _ _ _ _ W) (fun W => Ext W3 W ∧ Blk W W3.heap.size [U lo, U hi, .slice sa r.length sc] 64)
        ⟨(Ext.refl _).alloc _, Blk.new W3 [U lo, U hi, .slice sa r.length sc] 64⟩ (fun W4 hW4 => ?_)
      obtain ⟨hx4, hb4⟩ := hW4
      have HX4 := Lib.hid (HX3.out.trans hx4)
      have hyc := hb4.cells
      have hxc := (HB3.out.later hx4).cells
      have HXW4 := Lib.hid (HXW3.out.trans hx4)
      clear hx4 hb4 y0 y1 y2 hjc
      generalize W3.heap.size = yb at *
      go_wp2_with (first
        | (go_at_call 15; (with_reducible refine (r09Row_any _ _ r r _ (HR1.out.later HXW4.out) (HR2.out.later HXW4.out)).mono ?_); rintro e w5 ⟨he, hx5⟩; replace he := he.trans (congrArg (fun b => Ending.returned (.bool b)) (decide_eq_true rfl)); subst he; have HX5 := Lib.hid (HX.out.trans (HX4.out.trans hx5)); clear hx5))
      go_roundw
      case rel => exact ⟨k + 1, Nat.succ_le_of_lt HLT.out, by go_num, HX5.out⟩
      case measure => have := HLT.out; simp [intOf]; omega
    · have hkd : decide ((k : Int) < (ps.length : Int)) = false := decide_eq_false (by omega)
      go_wp2_with fail
      go_ret
      exact ⟨rfl, HXW.out⟩
end Go.Proofs.YtfldjlibnjgdaaaGreat
