/- cert.Same, by the program. Conditions: none. -/
import Derived.Test.YtdpmnldmbnpfpaaGreatGAna
import Derived.Test.YtdpmnldmbnpfpaaGreatGCert
import Derived.Test.YtdpmnldmbnpfpaaGreatGTop
import Derived.Test.YtdpmnldmbnpfpaaGreatShelf
namespace Go.Proofs.YtdpmnldmbnpfpaaGreat
open Go Go.RowKit Go.Maps Go.Proofs

theorem intsEqual_any (u v : Value) (x y : List Int) (w : World) (hx : IntsAt w u x) (hy : IntsAt w v y) : Calls Tryz.prog 44 #[u, v] w fun e w' => e = .returned (.bool (decide (x = y))) /\ Ext w w' := by
 obtain ⟨a, c, rfl, c1, c2, hc⟩ := hx.form
 obtain ⟨b, d, rfl, d1, d2, hd⟩ := hy.form
 unfold maxLen at c2 d2
 by_cases hl : x.length = y.length
 · by_cases h0 : x.length = 0
   · obtain rfl : x = [] := List.eq_nil_of_length_eq_zero h0
     obtain rfl : y = [] := List.eq_nil_of_length_eq_zero (by rw [<- hl]; rfl)
     refine (Tryz.slices_Equal_int_empty a b c 0 d w (by omega)).mono ?_
     rintro e w' ⟨he, rfl⟩
     exact ⟨he, Ext.refl _⟩
   · obtain ⟨b1, o1, rfl, -⟩ := hc 0 _ (List.getElem?_eq_getElem (by omega))
     obtain ⟨b2, o2, rfl, -⟩ := hd 0 _ (List.getElem?_eq_getElem (by omega))
     refine (Tryz.slices_Equal_int b1 o1 x.length c b2 o2 y.length d x y w (Nat.le_refl _) (Nat.le_refl _) (by omega) (by omega) (fun j hj => ?_) (fun j hj => ?_)).mono ?_
     · obtain ⟨b', o', e, h⟩ := hc j _ (List.getElem?_eq_getElem hj)
       cases e
       rw [h, List.getD_eq_getElem?_getD, List.getElem?_eq_getElem hj]; rfl
     · obtain ⟨b', o', e, h⟩ := hd j _ (List.getElem?_eq_getElem hj)
       cases e
       rw [h, List.getD_eq_getElem?_getD, List.getElem?_eq_getElem hj]; rfl
     · rintro e w' ⟨he, q, rfl⟩
       rw [List.take_length, List.take_length] at he
       refine ⟨?_, (Ext.refl _).drewN q⟩
       rw [he]
       by_cases hxy : x = y
       · subst hxy; simp
       · rw [decide_eq_false hxy, beq_false_of_ne hxy]
 · refine (Tryz.slices_Equal_int_lens a b x.length c y.length d w hl).mono ?_
   rintro e w' ⟨he, rfl⟩
   refine ⟨?_, Ext.refl _⟩
   rw [he, decide_eq_false (fun e => hl (by rw [e]))]
set_option maxHeartbeats 2000000 in
theorem certSame1_any (p q : Prt) (r s : List Int) (w : World) (hp : IntsAt w p.rk r) (hq : IntsAt w q.rk s) :
 Calls Tryz.prog 46 #[p.val, q.val] w fun e w' => (∃ b, e = .returned (.bool b) /\ (b = true ↔ (p.fr, p.up) = (q.fr, q.up) /\ r = s)) /\ Ext w w' := by
 have HE := Lib.hid (fun W (hx : Ext w W) => intsEqual_any _ _ r s W (hp.later hx) (hq.later hx))
 clear hp hq
 obtain ⟨pf, pu, pa, pn, pc⟩ := p
 obtain ⟨qf, qu, qa, qn, qc⟩ := q
 go_enter Tryz.func46, Tryz.ntmps46
 go_upto_region 1 with fail
 refine hideW (Φ := fun W => Code.wp _ _ _ _ W) (fun W => Ext w W /\ Blk W w.heap.size [U pf, U pu, .slice pa pn pc] 61 /\ Blk W (w.heap.size + 1) [U qf, U qu, .slice qa qn qc] 61)
  ⟨by (repeat with_reducible first | exact Ext.refl _ | assumption | refine Ext.alloc ?_ _ | refine Ext.drew ?_ | refine Ext.drewN ?_ _ | (refine Ext.setCellP ?_ ?_; focus (first | (simp; done) | (simp; omega) | omega))), (Blk.new w [U pf, U pu, .slice pa pn pc] 61).old _, Blk.newAt [U qf, U qu, .slice qa qn qc] (by simp)⟩ (fun W1 hW1 => ?_)
 obtain ⟨hx1, hb1, hb2⟩ := hW1
 have HX1 := Lib.hid hx1
 have hc1 := hb1.cells
 have hc2 := hb2.cells
 clear hx1 hb1 hb2
 generalize w.heap.size + 1 = qb at *
 generalize w.heap.size = pb at *
 by_cases h1 : pf = qf
 · have hb : (uv pf == uv qf) = true := by rw [h1]; simp
   by_cases h2 : pu = qu
   · have hb2 : (uv pu == uv qu) = true := by rw [h2]; simp
     have HQ := Lib.hid (show (⟨pf, pu⟩ : BitVec 32 × BitVec 32) = (qf, qu) by rw [h1, h2])
     clear h1 h2
     go_wp2_with (first
      | (go_at_call 44; (with_reducible refine (HE.out _ HX1.out).mono ?_); rintro e w2 ⟨he, hx⟩; subst he; have HX2 := Lib.hid (HX1.out.trans hx); clear hx))
     go_ret
     refine ⟨⟨_, rfl, ?_⟩, HX2.out⟩
     rw [decide_eq_true_iff]
     exact ⟨fun h => ⟨HQ.out, h⟩, fun h => h.2⟩
   · have hb2 : (uv pu == uv qu) = false := beq_false_of_ne fun e => h2 (uv_inj e)
     have HQ := Lib.hid h2
     clear h1 h2
     go_wp2_with fail
     go_ret
     refine ⟨⟨_, rfl, ?_⟩, HX1.out⟩
     exact ⟨fun h => (by cases h), fun h => absurd (Prod.mk.inj h.1).2 HQ.out⟩
 · have hb : (uv pf == uv qf) = false := beq_false_of_ne fun e => h1 (uv_inj e)
   have HQ := Lib.hid h1
   clear h1
   go_wp2_with fail
   go_ret
   refine ⟨⟨_, rfl, ?_⟩, HX1.out⟩
   exact ⟨fun h => (by cases h), fun h => absurd (Prod.mk.inj h.1).1 HQ.out⟩
def pe (p : Prt) : BitVec 32 × BitVec 32 := (p.fr, p.up)
theorem pe_step {ps qs : List Prt} {rs ss : List (List Int)} {k : Nat} (h : (ps.take k).map pe = (qs.take k).map pe /\ rs.take k = ss.take k) (h1 : k < ps.length) (h2 : k < qs.length) (h3 : k < rs.length) (h4 : k < ss.length) (e : pe ps[k] = pe qs[k] /\ rs[k] = ss[k]) :
 (ps.take (k + 1)).map pe = (qs.take (k + 1)).map pe /\ rs.take (k + 1) = ss.take (k + 1) := by
 rw [List.take_succ_eq_append_getElem h1, List.take_succ_eq_append_getElem h2, List.take_succ_eq_append_getElem h3, List.take_succ_eq_append_getElem h4, List.map_append, List.map_append, h.1, h.2, e.2]
 simp [e.1]
theorem pe_no {ps qs : List Prt} {rs ss : List (List Int)} {k : Nat} (h : ps.map pe = qs.map pe /\ rs = ss) (h1 : k < ps.length) (h2 : k < qs.length) (h3 : k < rs.length) (h4 : k < ss.length) : pe ps[k] = pe qs[k] /\ rs[k] = ss[k] := by
 have e := congrArg (fun l => l[k]?) h.1
 simp only [List.getElem?_map, List.getElem?_eq_getElem h1, List.getElem?_eq_getElem h2, Option.map_some, Option.some.injEq] at e
 refine ⟨e, ?_⟩
 obtain ⟨_, rfl⟩ := h
 rfl
set_option maxHeartbeats 4000000 in
set_option maxRecDepth 100000 in
theorem partsEqual_any (u v : Value) (ps qs : List Prt) (rs ss : List (List Int)) (w : World) (hp : PartsAt w u ps) (hq : PartsAt w v qs) (hrl : rs.length = ps.length) (hsl : ss.length = qs.length)
 (hr : ∀ (i : Nat) (p : Prt) (r : List Int), ps[i]? = some p -> rs[i]? = some r -> IntsAt w p.rk r) (hs : ∀ (i : Nat) (p : Prt) (r : List Int), qs[i]? = some p -> ss[i]? = some r -> IntsAt w p.rk r) :
 Calls Tryz.prog 45 #[u, v, fnV 46] w fun e w' => (∃ b, e = .returned (.bool b) /\ (b = true ↔ ps.map pe = qs.map pe /\ rs = ss)) /\ Ext w w' := by
 obtain ⟨a, c, rfl, c1, c2, hc⟩ := hp.form
 obtain ⟨a', d, rfl, d1, d2, hd⟩ := hq.form
 have HC := Lib.hid hc
 have HD := Lib.hid hd
 have HR := Lib.hid hr
 have HS := Lib.hid hs
 have HRL := Lib.hid hrl
 have HSL := Lib.hid hsl
 clear hp hq hc hd hr hs hrl hsl
 unfold maxLen at c2 d2
 by_cases hl : ps.length = qs.length
 · have hlb : ((ps.length : Int) != (qs.length : Int)) = false := by simp [hl]
   have HLE := Lib.hid hl
   clear hl
   go_enter Tryz.func45, Tryz.ntmps45
   go_wp2_with fail
   go_loopw [17] (fun i wr => ∃ k : Nat, k <= ps.length /\ i = I k /\ Hid ((ps.take k).map pe = (qs.take k).map pe /\ rs.take k = ss.take k) /\ Hid (Ext w wr)) (fun i _ => ps.length - (intOf i).toNat)
   case atStart => exact ⟨0, Nat.zero_le _, rfl, Lib.hid ⟨rfl, rfl⟩, Lib.hid (Ext.refl _)⟩
   case round =>
    obtain ⟨k, hk, rfl, HI, HX⟩ := hrel
    by_cases hlt : k < ps.length
    · have hlq : k < qs.length := by rw [<- HLE.out]; exact hlt
      have hlr : k < rs.length := by rw [HRL.out]; exact hlt
      have hls : k < ss.length := by rw [HSL.out]; exact hlq
      obtain ⟨b0, o0, rfl, p0, p1, p2⟩ := HC.out k _ (List.getElem?_eq_getElem hlt)
      obtain ⟨b1, o1, rfl, q0, q1, q2⟩ := HD.out k _ (List.getElem?_eq_getElem hlq)
      have HIR := Lib.hid ((HR.out k _ _ (List.getElem?_eq_getElem hlt) (List.getElem?_eq_getElem hlr)).later HX.out)
      have HIS := Lib.hid ((HS.out k _ _ (List.getElem?_eq_getElem hlq) (List.getElem?_eq_getElem hls)).later HX.out)
      have HST := Lib.hid (pe_step HI.out hlt hlq hlr hls)
      have HNO := Lib.hid (fun h => pe_no (ps := ps) (qs := qs) (rs := rs) (ss := ss) h hlt hlq hlr hls)
      replace p0 := HX.out.cell p0
      replace p1 := HX.out.cell p1
      replace p2 := HX.out.cell p2
      have HQ0 := Lib.hid (HX.out.cell q0)
      have HQ1 := Lib.hid (HX.out.cell q1)
      have HQ2 := Lib.hid (HX.out.cell q2)
      clear q0 q1 q2
      generalize ps[k] = p at *
      generalize qs[k] = q at *
      generalize rs[k] = r at *
      generalize ss[k] = s at *
      clear hlr hls
      go_upto_region 6 with fail
      refine hideW (Φ := fun W => Code.wp _ _ _ _ W) (fun W => Ext wr W /\ Blk W wr.heap.size [U p.fr, U p.up, p.rk] 61) ⟨by (repeat with_reducible first | exact Ext.refl _ | assumption | refine Ext.alloc ?_ _ | refine Ext.drew ?_ | refine Ext.drewN ?_ _ | (refine Ext.setCellP ?_ ?_; focus (first | (simp; done) | (simp; omega) | omega))), Blk.new wr [U p.fr, U p.up, p.rk] 61⟩ (fun W3 hW3 => ?_)
      obtain ⟨hx3, hb3⟩ := hW3
      have HX3 := Lib.hid hx3
      have HB3 := Lib.hid hb3
      have q0 := hx3.cell HQ0.out
      have q1 := hx3.cell HQ1.out
      have q2 := hx3.cell HQ2.out
      clear hx3 hb3 p0 p1 p2
      generalize wr.heap.size = xb at *
      go_upto_region 7 with fail
      refine hideW (Φ := fun W => Code.wp _ _ _ _ W) (fun W => Ext W3 W /\ Blk W W3.heap.size [U q.fr, U q.up, q.rk] 61) ⟨by (repeat with_reducible first | exact Ext.refl _ | assumption | refine Ext.alloc ?_ _ | refine Ext.drew ?_ | refine Ext.drewN ?_ _ | (refine Ext.setCellP ?_ ?_; focus (first | (simp; done) | (simp; omega) | omega))), Blk.new W3 [U q.fr, U q.up, q.rk] 61⟩ (fun W4 hW4 => ?_)
      obtain ⟨hx4, hb4⟩ := hW4
      have HX4 := Lib.hid (HX3.out.trans hx4)
      have hxc := (HB3.out.later hx4).cells
      have hyc := hb4.cells
      clear hx4 hb4 q0 q1 q2
      generalize W3.heap.size = yb at *
      have HCS := Lib.hid (certSame1_any p q r s W4 (HIR.out.later HX4.out) (HIS.out.later HX4.out))
      go_upto_if 30 with (first
       | (go_at_call 46; (with_reducible refine HCS.out.mono ?_); rintro e w5 ⟨⟨b, he, hb⟩, hx⟩; subst he; have HX5 := Lib.hid (HX.out.trans (HX4.out.trans hx)); have HBE := Lib.hid hb; clear hx hb hxc hyc))
      cases b
      · have HF := Lib.hid (show ¬ (ps.map pe = qs.map pe /\ rs = ss) from fun h => by have := HBE.out.2 (HNO.out h); cases this)
        go_wp2_with fail
        go_ret
        exact ⟨⟨false, rfl, fun h => (by cases h), fun h => absurd h HF.out⟩, HX5.out⟩
      · have HF := Lib.hid (HST.out (HBE.out.1 rfl))
        go_wp2_with fail
        go_roundw
        case rel => exact ⟨k + 1, by omega, by go_num, HF, HX5⟩
        case measure => simp [intOf]; omega
    · obtain rfl : k = ps.length := by omega
      have HE := Lib.hid (show ps.map pe = qs.map pe /\ rs = ss by
       have h := HI.out
       rw [List.take_length, List.take_of_length_le (by rw [HLE.out]; exact Nat.le_refl _), List.take_of_length_le (by rw [HRL.out]; exact Nat.le_refl _), List.take_of_length_le (by rw [HSL.out, HLE.out]; exact Nat.le_refl _)] at h
       exact h)
      go_wp2_with fail
      go_ret
      exact ⟨⟨true, rfl, fun _ => HE.out, fun _ => rfl⟩, HX.out⟩
 · have hlb : ((ps.length : Int) != (qs.length : Int)) = true := by simp; omega
   have HLE := Lib.hid hl
   clear hl
   go_enter Tryz.func45, Tryz.ntmps45
   go_wp2_with fail
   go_ret
   exact ⟨⟨false, rfl, fun h => (by cases h), fun h => absurd (by have := congrArg List.length h.1; simpa using this) HLE.out⟩, Ext.refl _⟩
set_option maxHeartbeats 4000000 in
set_option maxRecDepth 100000 in
theorem certSame_any (pv tv pv' tv' : Value) (c d : Crt) (w : World) (hc : CertAt w pv tv c) (hd : CertAt w pv' tv' d) :
 Calls Tryz.prog 13 #[.agg #[I c.vd, pv, U c.dest, tv], .agg #[I d.vd, pv', U d.dest, tv']] w fun e w' => (∃ b, e = .returned (.bool b) /\ (b = true ↔ CrtEq c d)) /\ Ext w w' := by
 have HE := Lib.hid (fun W (hx : Ext w W) => intsEqual_any _ _ c.tr d.tr W (hc.tr.later hx) (hd.tr.later hx))
 have HP := Lib.hid (fun W (hx : Ext w W) => partsEqual_any _ _ c.ps d.ps c.rks d.rks W (hc.parts.later hx) (hd.parts.later hx) hc.len hd.len (fun i p r h1 h2 => (hc.rk i p r h1 h2).later hx) (fun i p r h1 h2 => (hd.rk i p r h1 h2).later hx))
 obtain ⟨pa, pc, rfl, -⟩ := hc.parts.form
 obtain ⟨ta, tc, rfl, -⟩ := hc.tr.form
 obtain ⟨qa, qc, rfl, -⟩ := hd.parts.form
 obtain ⟨sa, sc, rfl, -⟩ := hd.tr.form
 clear hc hd
 go_enter Tryz.func13, Tryz.ntmps13
 go_upto_region 1 with fail
 refine hideW (Φ := fun W => Code.wp _ _ _ _ W) (fun W => Ext w W /\ Blk W w.heap.size [I c.vd, .slice pa c.ps.length pc, U c.dest, .slice ta c.tr.length tc] 37 /\ Blk W (w.heap.size + 1) [I d.vd, .slice qa d.ps.length qc, U d.dest, .slice sa d.tr.length sc] 37)
  ⟨by (repeat with_reducible first | exact Ext.refl _ | assumption | refine Ext.alloc ?_ _ | refine Ext.drew ?_ | refine Ext.drewN ?_ _ | (refine Ext.setCellP ?_ ?_; focus (first | (simp; done) | (simp; omega) | omega))), (Blk.new w [I c.vd, .slice pa c.ps.length pc, U c.dest, .slice ta c.tr.length tc] 37).old _, Blk.newAt [I d.vd, .slice qa d.ps.length qc, U d.dest, .slice sa d.tr.length sc] (by simp)⟩ (fun W1 hW1 => ?_)
 obtain ⟨hx1, hb1, hb2⟩ := hW1
 have HX1 := Lib.hid hx1
 have HB1 := Lib.hid hb1
 have HB2 := Lib.hid hb2
 have hc1 := hb1.cells
 have hc2 := hb2.cells
 clear hx1 hb1 hb2
 generalize w.heap.size + 1 = qb at *
 generalize w.heap.size = pb at *
 by_cases h1 : c.vd = d.vd
 · have hb : (c.vd != d.vd) = false := by simp [h1]
   have H1 := Lib.hid h1
   clear h1
   by_cases h2 : c.dest = d.dest
   · have hb2 : (uv c.dest != uv d.dest) = false := by rw [h2]; simp
     have H2 := Lib.hid h2
     clear h2
     by_cases h3 : c.tr = d.tr
     · have H3 := Lib.hid h3
       have HE1 := Lib.hid (HE.out W1 HX1.out)
       rw [decide_eq_true h3] at HE1
       clear h3
       go_upto_region 3 with (first
        | (go_at_call 44; (with_reducible refine HE1.out.mono ?_); rintro e w2 ⟨he, hx⟩; subst he; have HX2 := Lib.hid (HX1.out.trans hx); clear hc1 hc2; have hc1 := (HB1.out.later hx).cells; have hc2 := (HB2.out.later hx).cells; clear hx))
       go_wp2_with (first
        | (go_at_call 45; (with_reducible refine (HP.out _ HX2.out).mono ?_); rintro e w3 ⟨⟨b, he, hb⟩, hx⟩; subst he; have HX3 := Lib.hid (HX2.out.trans hx); have HBE := Lib.hid hb; clear hb hx))
       go_ret
       refine ⟨⟨_, rfl, ?_⟩, HX3.out⟩
       exact ⟨fun h => ⟨H1.out, H2.out, H3.out, (HBE.out.1 h).2, (HBE.out.1 h).1⟩, fun h => HBE.out.2 ⟨h.ps, h.rks⟩⟩
     · have H3 := Lib.hid h3
       have HE1 := Lib.hid (HE.out W1 HX1.out)
       rw [decide_eq_false h3] at HE1
       clear h3
       go_wp2_with (first
        | (go_at_call 44; (with_reducible refine HE1.out.mono ?_); rintro e w2 ⟨he, hx⟩; subst he; have HX2 := Lib.hid (HX1.out.trans hx); clear hc1 hc2; have hc1 := (HB1.out.later hx).cells; have hc2 := (HB2.out.later hx).cells; clear hx))
       go_ret
       exact ⟨⟨false, rfl, fun h => (by cases h), fun h => absurd h.tr H3.out⟩, HX2.out⟩
   · have hb2 : (uv c.dest != uv d.dest) = true := by rw [bne_iff_ne]; exact fun e => h2 (uv_inj e)
     have H2 := Lib.hid h2
     clear h2
     go_wp2_with fail
     go_ret
     exact ⟨⟨false, rfl, fun h => (by cases h), fun h => absurd h.dest H2.out⟩, HX1.out⟩
 · have hb : (c.vd != d.vd) = true := by simp [h1]
   have H1 := Lib.hid h1
   clear h1
   go_wp2_with fail
   go_ret
   exact ⟨⟨false, rfl, fun h => (by cases h), fun h => absurd h.vd H1.out⟩, HX1.out⟩
end Go.Proofs.YtdpmnldmbnpfpaaGreat
