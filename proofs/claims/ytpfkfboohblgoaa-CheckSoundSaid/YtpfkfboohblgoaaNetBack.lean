/- network.back: a walk that marks the nodes that it comes by. Conditions: whole numbers are within 64 bits. -/
import Derived.Test.YtpfkfboohblgoaaNetRound
import Derived.Test.YtpfkfboohblgoaaMarksL
import Derived.Test.YtpfkfboohblgoaaRoundR
namespace Go.Proofs.Ytpfkfboohblgoaa
open Go.RowKit Go.Shelf
attribute [local go_sem] Oper.semAt_some

/-- What a walk tells, and what it leaves. -/
def BackIs (v : List Int) (u : Nat) (s s' : List Int) (k : Nat) (y : Int) (ok : Bool) : Prop :=
  Wlk v u s s' k ∧ 0 < k ∧ ((itv v k u = -1 ∧ y = 0 ∧ ok = false) ∨ (y = itv v k u ∧ isN v y ∧ mkv s' y ≠ 0 ∧ ok = (mkv s' y == (u : Int) + 1)))
set_option maxHeartbeats 4000000 in
set_option maxRecDepth 100000 in
theorem netBack_any (w0 : World) (lv : Value) (ls : List (List Rul)) (a : BitVec 32) (u : Nat) (s : List Int) (sb nb : Nat) (cs : List Value) (T : TypeId) (w : World) (hl : TablesAt w0 lv ls) (hok : TablesOk ls) (hm : netMayV ls = 0)
    (hx : Ext w0 w) (hs : Blk w sb (icells s) 3) (hsb : w0.heap.size ≤ sb) (hnb : Blk w nb cs T) (hne : nb ≠ sb) (hsl : s.length = ls.length) (hu : u < ls.length) (h0 : mkv s u = 0) :
    Calls Try.prog 60 #[.agg #[lv], U a, I u, .slice (some ⟨sb, 0, none⟩) ls.length ls.length] w fun e w' => ∃ (s' : List Int) (k : Nat) (y : Int) (ok : Bool), e = .returned (.tuple #[I y, .bool ok]) ∧ BackIs (vecV ls a) u s s' k y ok ∧
      Blk w' sb (icells s') 3 ∧ Blk w' nb cs T ∧ Ext w0 w' := by
  have HL := Lib.hid hl
  have HOK := Lib.hid hok
  have HM := Lib.hid hm
  have HVN := Lib.hid (vecV_len ls a)
  have HVOK := Lib.hid (vec_ok hm a)
  have hle : ls.length ≤ 256 := (netMay_tabs hm).1
  have HW1 := Lib.hid ((Wlk.start (u := u) (by rw [hsl, vecV_len] : s.length = (vecV ls a).length)).step ⟨by show (0 : Int) ≤ (u : Int); omega, by rw [vecV_len]; show (u : Int) < _; omega⟩ h0)
  have e0 : (itv (vecV ls a) 0 (u : Int)).toNat = u := by show ((u : Int)).toNat = u; omega
  rw [e0] at HW1
  obtain ⟨ad, cap, rfl, a1, a2, a3⟩ := hl.form
  have HX := Lib.hid hx
  have HS := Lib.hid hs
  have HSB := Lib.hid hsb
  have HNB := Lib.hid hnb
  have HNE := Lib.hid hne
  have HLT := Lib.hid (And.intro hs.lt hnb.lt)
  have HU := Lib.hid hu
  have HSL := Lib.hid hsl
  clear a3 hl hok hm e0 hx hs hsb hnb hne h0 hsl
  unfold maxLen at a2
  refine calls_of_marks Try.func60 rfl ?_
  simp only [Try.ntmps60, List.size_toArray, List.length_cons, List.length_nil, Nat.reduceAdd, Nat.reduceSub, Array.replicate_succ, Array.replicate_zero, List.push_toArray, List.append_toArray, List.nil_append, List.cons_append]
  go_upto_region 1 with fail
  refine hideW (Φ := fun W => Code.wp _ _ _ _ W) (fun W => Ext w W ∧ Blk W w.heap.size [.slice ad ls.length cap] 24 ∧ Blk W (w.heap.size + 1) [I u] 3 ∧ Blk W (w.heap.size + 1 + 1) [.slice (some ⟨sb, 0, none⟩) ls.length ls.length] 27 ∧ Blk W (w.heap.size + 1 + 1 + 1) [I 0] 3 ∧ Blk W (w.heap.size + 1 + 1 + 1 + 1) [.bool false] 4)
    ⟨by (repeat (first | with_reducible exact Ext.refl _ | with_reducible assumption | with_reducible refine Ext.alloc ?_ _ | with_reducible refine Ext.drew ?_ | with_reducible refine Ext.drewN ?_ _ | (with_reducible refine Ext.setCellP ?_ ?_; focus (first | (simp; done) | (simp; omega) | omega)))), ((((Blk.new w [.slice ad ls.length cap] 24).old _).old _).old _).old _, (((Blk.newAt [I u] (by simp)).old _).old _).old _, ((Blk.newAt [.slice (some ⟨sb, 0, none⟩) ls.length ls.length] (by simp)).old _).old _, (Blk.newAt [I 0] (by simp)).old _, Blk.newAt [.bool false] (by simp)⟩ (fun W1 hW1 => ?_)
  obtain ⟨hx1, hb1, hv1, hs1, hr1, ho1⟩ := hW1
  have HX1 := Lib.hid hx1
  have HB1 := Lib.hid hb1
  have HV1 := Lib.hid hv1
  have HS1 := Lib.hid hs1
  have HR1 := Lib.hid hr1
  have HO1 := Lib.hid ho1
  clear hx1 hb1 hv1 hs1 hr1 ho1
  have HRS := Lib.hid (fun (A : World) (u : Value) (h : Ext w0 A) => h.setCell (p := ⟨w.heap.size + 1 + 1 + 1, 0, none⟩) (by show w0.heap.size ≤ w.heap.size + 1 + 1 + 1; have := HX.out.size; omega) u)
  have HOS := Lib.hid (fun (A : World) (u : Value) (h : Ext w0 A) => h.setCell (p := ⟨w.heap.size + 1 + 1 + 1 + 1, 0, none⟩) (by show w0.heap.size ≤ w.heap.size + 1 + 1 + 1 + 1; have := HX.out.size; omega) u)
  have HSS := Lib.hid (fun (A : World) (o : Nat) (u : Value) (h : Ext w0 A) => h.setCell (p := ⟨sb, o, none⟩) HSB.out u)
  generalize hob : w.heap.size + 1 + 1 + 1 + 1 = ob at *
  generalize hrb : w.heap.size + 1 + 1 + 1 = rb at *
  generalize htb : w.heap.size + 1 + 1 = tb at *
  generalize hvb : w.heap.size + 1 = vb at *
  generalize hbb : w.heap.size = bb at *
  have HNN := Lib.hid (show sb < bb ∧ nb < bb ∧ vb = bb + 1 ∧ tb = bb + 2 ∧ rb = bb + 3 ∧ ob = bb + 4 by have := HLT.out; omega)
  clear hob hrb htb hvb hbb
  have hvc := HV1.out.cells
  have htc := HS1.out.cells
  have HSC := Lib.hid (HS.out.later HX1.out)
  have hsc : W1.cell? ⟨sb, u, none⟩ = some (I (s.getD u 0)) := by rw [HSC.out.cells]; exact icell_get (by rw [HSL.out]; exact hu)
  have hsf := HSC.out.frozen
  go_upto_region 2 with fail
  refine hideW (Φ := fun W => Code.wp _ _ _ _ W) (fun W => Ext w0 W ∧ Blk W nb cs T ∧ Blk W sb (icells (s.set u ((u : Int) + 1))) 3 ∧ Blk W bb [.slice ad ls.length cap] 24 ∧ Blk W vb [I u] 3 ∧ Blk W tb [.slice (some ⟨sb, 0, none⟩) ls.length ls.length] 27 ∧ Blk W rb [I 0] 3 ∧ Blk W ob [.bool false] 4)
    ⟨HSS.out _ _ _ (HX.out.trans HX1.out), (HNB.out.later HX1.out).other (Ne.symm HNE.out) _, by have h := HSC.out.set u (I ((u : Int) + 1)); unfold icells at *; rw [List.map_set]; exact h,
      HB1.out.other (by show sb ≠ bb; have := HNN.out; omega) _, HV1.out.other (by show sb ≠ vb; have := HNN.out; omega) _, HS1.out.other (by show sb ≠ tb; have := HNN.out; omega) _, HR1.out.other (by show sb ≠ rb; have := HNN.out; omega) _, HO1.out.other (by show sb ≠ ob; have := HNN.out; omega) _⟩ (fun W2 hW2 => ?_)
  obtain ⟨hx2, hn2, hs2, hb2, hv2, ht2, hr2, ho2⟩ := hW2
  have HX2 := Lib.hid hx2
  have HN2 := Lib.hid hn2
  have HS2 := Lib.hid hs2
  have HV2 := Lib.hid hv2
  have HT2 := Lib.hid ht2
  have HR2 := Lib.hid hr2
  have HO2 := Lib.hid ho2
  have HB2 := Lib.hid hb2
  have hbc := hb2.cells
  have hvc2 := hv2.cells
  clear hvc htc hsc hsf hx2 hn2 hs2 hb2 hv2 ht2 hr2 ho2 HX1 HB1 HV1 HS1 HR1 HO1 HSC HNB
  generalize s.set u ((u : Int) + 1) = s1 at *
  go_wp2_with (first
    | (go_at_call 99; (with_reducible refine (steps_any1 _ a u _).mono ?_); rintro e w4 ⟨he, g1, g2, g3, hx4⟩; subst he; have HX4 := Lib.hid (HX2.out.trans hx4); have HX24 := Lib.hid hx4; have HG := Lib.hid (show StepBox w4 W2.heap.size (W2.heap.size + 1) (W2.heap.size + 1 + 1) (.slice ad ls.length cap) ls a u from ⟨g1, g2, g3, HL.out.later (HX2.out.trans hx4)⟩); clear g1 g2 g3 hx4))
  clear hbc hvc2
  have HLT2 := Lib.hid (show ob < W2.heap.size from HO2.out.lt)
  have hw4 : w0.heap.size ≤ w4.heap.size := HX4.out.size
  refine wp_range_to (gf := 117) rfl (enters_of Try.func117 (by kernel_rfl) rfl) (S := fun j => itv (vecV ls a) (j + 1) u = -1)
    (I := fun j W => (j < ls.length) ∧ Ext w0 W ∧ (∃ s', Wlk (vecV ls a) u s s' (j + 1) ∧ Blk W sb (icells s') 3) ∧ Blk W nb cs T ∧ Blk W vb [I u] 3 ∧ Blk W tb [.slice (some ⟨sb, 0, none⟩) ls.length ls.length] 27 ∧ Blk W rb [I 0] 3 ∧ Blk W ob [.bool false] 4 ∧ Blk W bb [.slice ad ls.length cap] 24 ∧ Blk W W2.heap.size [.slice ad ls.length cap] 24 ∧ Blk W (W2.heap.size + 1) [U a] 26 ∧ Blk W (W2.heap.size + 1 + 1) [I u] 3) rfl
    (steps_to (.slice ad ls.length cap) ls a u W2.heap.size (W2.heap.size + 1) (W2.heap.size + 1 + 1) ls.length HOK.out HM.out _ fun j A h => ⟨h.1, h.2.2.2.2.2.2.2.2.2.1, h.2.2.2.2.2.2.2.2.2.2.1, h.2.2.2.2.2.2.2.2.2.2.2, HL.out.later h.2.1⟩)
    (fun c W => c = .ret ∧ Ext w0 W ∧ ∃ s' k y ok, BackIs (vecV ls a) u s s' k y ok ∧ Blk W sb (icells s') 3 ∧ Blk W nb cs T ∧ Blk W rb [I y] 3 ∧ Blk W ob [.bool ok] 4) (fun j => ?_) (fun c => ?_) ?_ ?round ?done ?stop
  · refine Bears.and (Bears.pure _ _) (Bears.and (bears_ext hw4) (Bears.and (Bears.ex fun s' => ?_) ?_))
    · (repeat (first | with_reducible exact bears_blk _ _ _ _ | with_reducible exact bears_own _ _ _ _ _ _ _ | with_reducible exact bears_ext (by assumption) | with_reducible exact Bears.pure _ _ | with_reducible refine Bears.and ?_ ?_))
    · (repeat (first | with_reducible exact bears_blk _ _ _ _ | with_reducible exact bears_own _ _ _ _ _ _ _ | with_reducible exact bears_ext (by assumption) | with_reducible exact Bears.pure _ _ | with_reducible refine Bears.and ?_ ?_))
  · refine Bears.and (Bears.pure _ _) (Bears.and (bears_ext hw4) (Bears.ex fun s' => Bears.ex fun k => Bears.ex fun y => Bears.ex fun ok => ?_))
    (repeat (first | with_reducible exact bears_blk _ _ _ _ | with_reducible exact bears_own _ _ _ _ _ _ _ | with_reducible exact bears_ext (by assumption) | with_reducible exact Bears.pure _ _ | with_reducible refine Bears.and ?_ ?_))
  · exact ⟨by have := HU.out; omega, HX4.out, ⟨s1, HW1.out, HS2.out.later HX24.out⟩, HN2.out.later HX24.out, HV2.out.later HX24.out, HT2.out.later HX24.out, HR2.out.later HX24.out, HO2.out.later HX24.out, HB2.out.later HX24.out, HG.out.net, HG.out.addr, HG.out.node⟩
  case round =>
    apply Exists.intro
    refine ⟨fun l j A K hK => ?_, fun l j A hsz hI hS => ?_⟩
    · gi_wp2
      exact hK
    · obtain ⟨hj, hxA, ⟨s', hwk, hsB⟩, hn, hv, ht, hr, ho, hbN, g1, g2, g3⟩ := hI
      have hy := (itv_ok HVOK.out (x := (u : Int)) ⟨by omega, by rw [HVN.out]; have := HU.out; omega⟩ (j + 1)).resolve_left hS
      obtain ⟨q, hq⟩ : ∃ q : Nat, itv (vecV ls a) (j + 1) u = q := ⟨(itv (vecV ls a) (j + 1) u).toNat, by have := hy.1; omega⟩
      have hql : q < ls.length := by have := hy.2; rw [hq, HVN.out] at this; omega
      have hsl : s'.length = ls.length := by rw [hwk.len, HVN.out]
      have HXA := Lib.hid hxA
      have HSA := Lib.hid hsB
      have HNA := Lib.hid hn
      have HVA := Lib.hid hv
      have HTA := Lib.hid ht
      have HRA := Lib.hid hr
      have HOA := Lib.hid ho
      have HBA := Lib.hid hbN
      have HGA := Lib.hid (And.intro g1 (And.intro g2 g3))
      have HWK := Lib.hid hwk
      have HQ := Lib.hid (And.intro hq hy)
      have HGT := Lib.hid (icell_get (q := s') (k := q) (by rw [hsl]; exact hql))
      have hbc := hbN.cells
      have hd0 : decide ((0 : Int) ≤ (q : Int)) = true := decide_eq_true (by omega)
      have hd1 : decide ((q : Int) < (ls.length : Int)) = true := decide_eq_true (by omega)
      have HMK := Lib.hid (show mkv s' (itv (vecV ls a) (j + 1) u) = s'.getD q 0 by rw [hq]; unfold mkv; rw [Int.toNat_natCast])
      rw [hq]
      clear hxA hsB hn hv ht hr ho hbN g1 g2 g3 hwk hq hy hS
      generalize hz : s'.getD q 0 = z at HGT HMK
      clear hz
      by_cases hz : z = 0
      · have hzb : (z != 0) = false := by simp [hz]
        have HZ := Lib.hid hz
        clear hz
        gi_wp2_with (refine ⟨trivial, ?_⟩; gi_at_call 56; refine (CallsIn.inRound l (callsIn_wide.2 (netIs_any _ ls q _ (HL.out.later HXA.out)))).mono ?_; rintro e w5 ⟨he, hx5⟩; subst he; have HX5 := Lib.hid hx5; have htc := (HTA.out.later hx5).cells; have hsc := (HSA.out.later hx5).cells q; rw [HGT.out] at hsc; have hsf := (HSA.out.later hx5).frozen; have hvc := (HVA.out.later hx5).cells; clear hx5 hbc)
        have HL5 := Lib.hid (hsz.later HX5.out)
        have hh := (hsz.of_eq HL5.out).set (HSA.out.later HX5.out) q (I ((u : Int) + 1))
        have hw2 := HWK.out.step HQ.out.2 (by rw [HMK.out]; exact HZ.out)
        rw [show (itv (vecV ls a) (j + 1) (u : Int)).toNat = q by rw [HQ.out.1]; exact Int.toNat_natCast q] at hw2
        refine ⟨⟨hh.1.trans HL5.out.1, hh.2.trans HL5.out.2⟩, by have := hw2.few; rw [HVN.out] at this; omega, HSS.out _ _ _ (HXA.out.trans HX5.out), ⟨_, hw2, by have h := (HSA.out.later HX5.out).set q (I ((u : Int) + 1)); unfold icells at *; rw [List.map_set]; exact h⟩,
          (HNA.out.later HX5.out).other (Ne.symm HNE.out) _, (HVA.out.later HX5.out).other (by show sb ≠ vb; have := HNN.out; omega) _, (HTA.out.later HX5.out).other (by show sb ≠ tb; have := HNN.out; omega) _, (HRA.out.later HX5.out).other (by show sb ≠ rb; have := HNN.out; omega) _,
          (HOA.out.later HX5.out).other (by show sb ≠ ob; have := HNN.out; omega) _, (HBA.out.later HX5.out).other (by show sb ≠ bb; have := HNN.out; omega) _, (HGA.out.1.later HX5.out).other (by show sb ≠ W2.heap.size; have := HNN.out; have := HLT2.out; omega) _,
          (HGA.out.2.1.later HX5.out).other (by show sb ≠ W2.heap.size + 1; have := HNN.out; have := HLT2.out; omega) _, (HGA.out.2.2.later HX5.out).other (by show sb ≠ W2.heap.size + 1 + 1; have := HNN.out; have := HLT2.out; omega) _⟩
      · have hzb : (z != 0) = true := by simp [hz]
        have HZ := Lib.hid hz
        clear hz
        gi_wp2_with (refine ⟨trivial, ?_⟩; gi_at_call 56; refine (CallsIn.inRound l (callsIn_wide.2 (netIs_any _ ls q _ (HL.out.later HXA.out)))).mono ?_; rintro e w5 ⟨he, hx5⟩; subst he; have HX5 := Lib.hid hx5; have htc := (HTA.out.later hx5).cells; have hsc := (HSA.out.later hx5).cells q; rw [HGT.out] at hsc; have hvc := (HVA.out.later hx5).cells; have hrc := (HRA.out.later hx5).cells; have hrf := (HRA.out.later hx5).frozen; have hoc := (HOA.out.later hx5).cells; have hof := (HOA.out.later hx5).frozen; clear hx5 hbc)
        clear htc hsc hvc hrc hrf hoc hof
        have HRB := Lib.hid (show rb ≤ w5.heap.size by have := (HRA.out.later HX5.out).lt; omega)
        refine wp_region_RI (RB rb) 9 rfl (by kernel_rfl) (by kernel_rfl) (by kernel_rfl) (fun w6 hx6 => ?_)
        have HX6 := Lib.hid (HX5.out.trans hx6)
        have HB6 := Lib.hid (Nat.le_trans HRB.out hx6.size)
        have k1 := RB.keep HB6.out (p := ⟨tb, 0, none⟩) (show tb < rb by have := HNN.out; omega) ((HTA.out.later HX6.out).cells 0)
        have k2 := RB.keep HB6.out (p := ⟨sb, q, none⟩) (show sb < rb by have := HNN.out; omega) (((HSA.out.later HX6.out).cells q).trans HGT.out)
        have k3 := RB.keep HB6.out (p := ⟨vb, 0, none⟩) (show vb < rb by have := HNN.out; omega) ((HVA.out.later HX6.out).cells 0)
        clear hx6
        refine WRi_at 0 ?_
        iterate 8
          refine WRi_q (preRB _) rfl (by decide) (by kernel_rfl) rfl ?_; apply Exists.intro; refine ⟨fun w1 hx1 => ?_, ?_⟩
          · go_simp; try go_bits
            first | with_reducible rfl | rfl
          simp only [Act.put, List.setIfInBounds_toArray, List.set_cons_zero, List.set_cons_succ, Nat.reduceAdd]
        refine WRi_out ?_
        clear k1 k2 k3
        have hrc := (HRA.out.later HX6.out).cells
        have hrf := (HRA.out.later HX6.out).frozen
        refine WR_one 8 rfl (by decide) (by kernel_rfl) rfl (fun K hK => ?_)
        go_simp
        refine hK _ _ (RB.below HB6.out ((Below.refl _ _).setCell (by simp) _)) ?_
        clear hK K hrc hrf
        have HO7 := Lib.hid ((HOA.out.later HX6.out).other (p := ⟨rb, 0, none⟩) (by show rb ≠ ob; have := HNN.out; omega) (I q))
        have hoc := HO7.out.cells
        have hof := HO7.out.frozen
        refine WR_done (by kernel_rfl) ?_
        (try simp only [List.drop_succ_cons, List.drop_zero])
        go_simp
        refine .inl ?_
        go_simp
        refine ⟨rfl, ?_⟩
        clear hoc hof
        gi_wp2
        have HL6 := Lib.hid (hsz.later HX6.out)
        have hh := (hsz.of_eq HL6.out).set (HRA.out.later HX6.out) 0 (I q)
        have hh2 := ((hsz.of_eq HL6.out).of_eq hh).set HO7.out 0 (.bool (z == (u : Int) + 1))
        refine ⟨⟨hh2.1.trans (hh.1.trans HL6.out.1), hh2.2.trans (hh.2.trans HL6.out.2)⟩, rfl, HOS.out _ _ (HRS.out _ _ (HXA.out.trans HX6.out)), s', j + 1, q, (z == (u : Int) + 1), ⟨HWK.out, Nat.succ_pos _, .inr ⟨HQ.out.1.symm, by rw [← HQ.out.1]; exact HQ.out.2, by rw [← HQ.out.1, HMK.out]; exact HZ.out, by rw [← HQ.out.1, HMK.out]⟩⟩,
          ((HSA.out.later HX6.out).other (by show rb ≠ sb; have := HNN.out; omega) _).other (by show ob ≠ sb; have := HNN.out; omega) _, ((HNA.out.later HX6.out).other (by show rb ≠ nb; have := HNN.out; omega) _).other (by show ob ≠ nb; have := HNN.out; omega) _,
          ((HRA.out.later HX6.out).set 0 _).other (by show ob ≠ rb; have := HNN.out; omega) _, HO7.out.set 0 _⟩
  case done =>
    intro j A hS hI hD
    obtain ⟨hj, hxA, ⟨s', hwk, hsB⟩, hn, hv, ht, hr, ho, hbN, g1, g2, g3⟩ := hI
    have HXA := Lib.hid hxA
    have HRA := Lib.hid hr
    have HOA := Lib.hid (ho.other (p := ⟨rb, 0, none⟩) (by show rb ≠ ob; have := HNN.out; omega) (I 0))
    have HSA := Lib.hid hsB
    have HNA := Lib.hid hn
    have HWK := Lib.hid (And.intro hS hwk)
    have hrc := hr.cells
    have hrf := hr.frozen
    have hoc := HOA.out.cells
    have hof := HOA.out.frozen
    clear hxA hsB hn hv ht hr ho hbN g1 g2 g3 hwk hS
    go_wp2_with fail
    have hlt : ob < w4.heap.size := Nat.lt_of_lt_of_le HLT2.out HX24.out.size
    have hrC : Blk ((A.setCell ⟨rb, 0, none⟩ (I 0)).setCell ⟨ob, 0, none⟩ (.bool false)) rb [I 0] 3 := (HRA.out.set 0 _).other (by show ob ≠ rb; have := HNN.out; omega) _
    have hoC := HOA.out.set 0 (.bool false)
    have hsC := (HSA.out.other (p := ⟨rb, 0, none⟩) (by show rb ≠ sb; have := HNN.out; omega) (I 0)).other (p := ⟨ob, 0, none⟩) (by show ob ≠ sb; have := HNN.out; omega) (.bool false)
    have hnC := (HNA.out.other (p := ⟨rb, 0, none⟩) (by show rb ≠ nb; have := HNN.out; omega) (I 0)).other (p := ⟨ob, 0, none⟩) (by show ob ≠ nb; have := HNN.out; omega) (.bool false)
    have hxC := HOS.out _ (.bool false) (HRS.out _ (I 0) HXA.out)
    have hDC : ((A.setCell ⟨rb, 0, none⟩ (I 0)).setCell ⟨ob, 0, none⟩ (.bool false)).heap[w4.heap.size]? = some (.deferred (some [])) := by
      rw [heap_setB (by show ob ≠ _; omega), heap_setB (by show rb ≠ _; have := HNN.out; omega)]; exact hD
    have hBI : BackIs (vecV ls a) u s s' (j + 1) 0 false := ⟨HWK.out.2, Nat.succ_pos _, .inl ⟨HWK.out.1, rfl, rfl⟩⟩
    clear hrc hrf hoc hof hD
    simp only [List.set_cons_zero] at hrC hoC
    change bodyPostM _ _ _ _ _ _ _ ((A.setCell ⟨rb, 0, none⟩ (I 0)).setCell ⟨ob, 0, none⟩ (.bool false))
    generalize (A.setCell ⟨rb, 0, none⟩ (I 0)).setCell ⟨ob, 0, none⟩ (.bool false) = C at *
    have hrB := (bears_blk w4.heap.size rb [I 0] 3).put C w4.heap.size _ (.deferred none) hrC (Nat.le_refl _) hDC rfl
    have hoB := (bears_blk w4.heap.size ob [.bool false] 4).put C w4.heap.size _ (.deferred none) hoC (Nat.le_refl _) hDC rfl
    have hsB := (bears_blk w4.heap.size sb (icells s') 3).put C w4.heap.size _ (.deferred none) hsC (Nat.le_refl _) hDC rfl
    have hnB := (bears_blk w4.heap.size nb cs T).put C w4.heap.size _ (.deferred none) hnC (Nat.le_refl _) hDC rfl
    have hxB := hxC.putObj hw4 (.deferred none)
    refine ⟨by simp, .inl ⟨_, _, rfl, run_takeDeferred hDC, ?_⟩⟩
    generalize C.putObj w4.heap.size (.deferred none) = B at *
    have hrc := hrB.cells
    have hsc := hoB.cells
    exact ⟨.tuple #[I 0, .bool false], by simp [results, Try.results60, go_sem, hrc, hsc], s', j + 1, 0, false, rfl, hBI, hsB, hnB, hxB⟩
  case stop =>
    rintro c A ⟨rfl, hxA, s', k, y, ok, hB, hs, hn, hr, ho⟩ hD
    go_wp2_with fail
    have hrB := (bears_blk w4.heap.size rb [I y] 3).put A w4.heap.size _ (.deferred none) hr (Nat.le_refl _) hD rfl
    have hoB := (bears_blk w4.heap.size ob [.bool ok] 4).put A w4.heap.size _ (.deferred none) ho (Nat.le_refl _) hD rfl
    have hsB := (bears_blk w4.heap.size sb (icells s') 3).put A w4.heap.size _ (.deferred none) hs (Nat.le_refl _) hD rfl
    have hnB := (bears_blk w4.heap.size nb cs T).put A w4.heap.size _ (.deferred none) hn (Nat.le_refl _) hD rfl
    have hxB := hxA.putObj hw4 (.deferred none)
    refine ⟨by simp, .inl ⟨_, _, rfl, run_takeDeferred hD, ?_⟩⟩
    generalize A.putObj w4.heap.size (.deferred none) = B at *
    have hrc := hrB.cells
    have hsc := hoB.cells
    exact ⟨.tuple #[I y, .bool ok], by simp [results, Try.results60, go_sem, hrc, hsc], s', k, y, ok, rfl, hB, hsB, hnB, hxB⟩
end Go.Proofs.Ytpfkfboohblgoaa
