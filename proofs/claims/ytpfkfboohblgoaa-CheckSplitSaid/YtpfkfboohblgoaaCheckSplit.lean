/- The law CheckSplit: a part holds just if both parts that it is cut into do. Conditions: whole numbers are within 64 bits. -/
import Derived.Test.YtpfkfboohblgoaaGShort
import Derived.Test.YtpfkfboohblgoaaGFitC
import Derived.Test.YtpfkfboohblgoaaFallL
import Derived.Test.YtpfkfboohblgoaaGNetP
namespace Go.Proofs.Ytpfkfboohblgoaa
open Go Go.RowKit Go.Maps Go.Proofs

set_option maxHeartbeats 4000000 in
set_option maxRecDepth 100000 in
theorem checkSplit_any (lv pv tv : Value) (ls : List (List Rul)) (c : Crt) (x y z : BitVec 32) (w : World) (hl : TablesAt w lv ls) (hok : TablesOk ls) (hc : CertAt w pv tv c) (htr : ∀ x ∈ c.tr, In64 x) (hrk : ∀ r ∈ c.rks, ∀ x ∈ r, In64 x) :
    Calls Try.prog 8 #[.agg #[lv], .agg #[I c.vd, pv, U c.dest, tv], .agg #[U x, U y, U z]] w fun e w' => e = .returned (.bool true) ∧ Ext w w' := by
  have HC := Lib.hid hc
  have HTR := Lib.hid htr
  have HRK := Lib.hid hrk
  clear hc htr hrk
  have HL := Lib.hid hl
  have HOK := Lib.hid hok
  obtain ⟨ad, cap, hlv, a1, a2, a3⟩ := hl.form
  subst hlv
  clear a3 hl hok
  unfold maxLen at a2
  go_enter Try.func8, Try.ntmps8
  go_upto_region 1 with (fail)
  refine hideW (Φ := fun W => Code.wp _ _ _ _ W) (fun W => Ext w W ∧ Blk W w.heap.size [.slice ad ls.length cap] 24 ∧ Blk W (w.heap.size + 1) [I c.vd, pv, U c.dest, tv] 29 ∧ Blk W (w.heap.size + 1 + 1) [U x, U y, U z] 58)
    ⟨by (repeat (first | with_reducible exact Ext.refl _ | with_reducible assumption | with_reducible refine Ext.alloc ?_ _ | with_reducible refine Ext.drew ?_ | with_reducible refine Ext.drewN ?_ _ | (with_reducible refine Ext.setCellP ?_ ?_; focus (first | (simp; done) | (simp; omega) | omega)))), (((Blk.new w [.slice ad ls.length cap] 24).old _).old _), ((Blk.newAt [I c.vd, pv, U c.dest, tv] (by simp)).old _), (Blk.newAt [U x, U y, U z] (by simp))⟩ (fun W1 hW1 => ?_)
  obtain ⟨hx1, hb1, hk0, hk1⟩ := hW1
  have HX1 := Lib.hid hx1
  have HB1 := Lib.hid hb1
  have HK1_0 := Lib.hid hk0
  have HK1_1 := Lib.hid hk1
  clear hx1 hb1 hk0 hk1
  generalize w.heap.size + 1 + 1 = kb1 at *
  generalize w.heap.size + 1 = kb0 at *
  generalize w.heap.size = nb at *
  go_upto_region 2 with (first
    | (go_at_call 15; (with_reducible refine (shown20_any _).mono ?_); rintro e w2 ⟨rfl, hx2⟩; have HX2 := Lib.hid (HX1.out.trans hx2); have HB2 := Lib.hid (HB1.out.later hx2); have HK2_0 := Lib.hid (HK1_0.out.later hx2); have HK2_1 := Lib.hid (HK1_1.out.later hx2); clear hx2))
  have hbc2 := HB2.out.cells
  have HNM := Lib.hid (fitN_may ls)
  have HNS := Lib.hid (fitN_size ls)
  have HNO := Lib.hid (fitN_ok ls)
  have HN20 := Lib.hid (@fitN_short ls)
  have hN := fitN_bd ls
  go_upto_region 3 with (first
    | (go_at_call 16; (with_reducible refine (r09Fit_any _ ls _ (HL.out.later HX2.out) HOK.out).mono ?_); rintro e w3 ⟨v3, he, hF, hx3⟩; subst he; have HF3 := Lib.hid hF.tables; obtain ⟨va, vcap, hv3, q1, q2, q3⟩ := HF3.out.form; subst hv3; clear q3; have HX3 := Lib.hid (HX2.out.trans hx3); have HK3_0 := Lib.hid (HK2_0.out.later hx3); have HK3_1 := Lib.hid (HK2_1.out.later hx3); clear hF hx3))
  generalize fitN ls = N at *
  clear hbc2 HB2 HB1 HK1_0 HK2_0 HK1_1 HK2_1
  unfold maxLen at q2
  refine hideW (Φ := fun W => Code.wp _ _ _ _ W) (fun W => Ext w3 W ∧ Blk W w3.heap.size [.slice va N.length vcap] 24)
    ⟨by (repeat (first | with_reducible exact Ext.refl _ | with_reducible assumption | with_reducible refine Ext.alloc ?_ _ | with_reducible refine Ext.drew ?_ | with_reducible refine Ext.drewN ?_ _ | (with_reducible refine Ext.setCellP ?_ ?_; focus (first | (simp; done) | (simp; omega) | omega)))), Blk.new w3 [.slice va N.length vcap] 24⟩ (fun W4 hW4 => ?_)
  obtain ⟨hx4, hb4⟩ := hW4
  have HX4 := Lib.hid (HX3.out.trans hx4)
  have HF4 := Lib.hid (HF3.out.later hx4)
  have HB4 := Lib.hid hb4
  have HK4_0 := Lib.hid (HK3_0.out.later hx4)
  have HK4_1 := Lib.hid (HK3_1.out.later hx4)
  have hbc4 := hb4.cells
  clear hx4 hb4 HF3 HX3 HX1 HX2 HK3_0 HK3_1
  generalize w3.heap.size = fb at *
  have hkc4 := HK4_0.out.cells
  go_upto_region 4 with (first
    | (go_at_call 18; (with_reducible refine (short20_any _ _ c _ (HC.out.later HX4.out)).mono ?_); rintro e w5 ⟨pv5, tv5, c5, he, hC5, hS5, hx5⟩; subst he; obtain ⟨pa, pc, hpv, -, -, -⟩ := hC5.parts.form; obtain ⟨ta, tc, htv, -, -, -⟩ := hC5.tr.form; subst hpv htv; have HC5 := Lib.hid hC5; have HS5 := Lib.hid hS5; have HX5 := Lib.hid (HX4.out.trans hx5); have HB5 := Lib.hid (HB4.out.later hx5); have HF5 := Lib.hid (HF4.out.later hx5); have HK5 := Lib.hid (HK4_1.out.later hx5); clear hC5 hS5 hx5))
  clear hkc4 hbc4
  refine hideW (Φ := fun W => Code.wp _ _ _ _ W) (fun W => Ext w5 W ∧ Blk W w5.heap.size [I c5.vd, .slice pa c5.ps.length pc, U c5.dest, .slice ta c5.tr.length tc] 29)
    ⟨by (repeat (first | with_reducible exact Ext.refl _ | with_reducible assumption | with_reducible refine Ext.alloc ?_ _ | with_reducible refine Ext.drew ?_ | with_reducible refine Ext.drewN ?_ _ | (with_reducible refine Ext.setCellP ?_ ?_; focus (first | (simp; done) | (simp; omega) | omega)))), Blk.new w5 [I c5.vd, .slice pa c5.ps.length pc, U c5.dest, .slice ta c5.tr.length tc] 29⟩ (fun W6 hW6 => ?_)
  obtain ⟨hx6, hb6⟩ := hW6
  have HX6 := Lib.hid (HX5.out.trans hx6)
  have HY6 := Lib.hid hx6
  have HF6 := Lib.hid (HF5.out.later hx6)
  have HB6 := Lib.hid (HB5.out.later hx6)
  have HK6 := Lib.hid (HK5.out.later hx6)
  have HC6 := Lib.hid (HC5.out.later hx6)
  have HQ6 := Lib.hid hb6
  have HLE := Lib.hid (fun (o : Nat) (A : World) (u : Value) (h : Ext w5 A) => h.setCell (p := ⟨w5.heap.size, o, none⟩) (Nat.le_refl _) u)
  have hqc := hb6.cells
  have hqf := hb6.frozen
  clear hx6 hb6 HX4 HF4 HB4 HK4_0 HK4_1
  generalize hxc : w5.heap.size = xc at HLE HQ6 hqc hqf ⊢
  clear hxc
  go_upto_region 5 with fail
  refine hideW (Φ := fun W => Code.wp _ _ _ _ W) (fun W => Ext w5 W ∧ Blk W xc [I 1, .slice pa c5.ps.length pc, U c5.dest, .slice ta c5.tr.length tc] 29)
    ⟨HLE.out _ _ _ HY6.out, HQ6.out.set 0 _⟩ (fun W7 hW7 => ?_)
  obtain ⟨hx7, hb7⟩ := hW7
  have HX7 := Lib.hid (HX5.out.trans hx7)
  have HF7 := Lib.hid (HF5.out.later hx7)
  have HB7 := Lib.hid (HB5.out.later hx7)
  have HK7 := Lib.hid (HK5.out.later hx7)
  have HC7 := Lib.hid (show CertAt W7 (.slice pa c5.ps.length pc) (.slice ta c5.tr.length tc) ⟨1, c5.ps, c5.rks, c5.dest, c5.tr⟩ from ⟨(HC5.out.later hx7).parts, (HC5.out.later hx7).len, (HC5.out.later hx7).rk, (HC5.out.later hx7).tr⟩)
  have HQ7 := Lib.hid hb7
  have HY7 := Lib.hid hx7
  clear hx7 hb7 hqc hqf HX6 HY6 HF6 HB6 HK6 HC6 HQ6 HC5
  have hqc := HQ7.out.cells
  have hqf := HQ7.out.frozen
  have hbc := HB7.out.cells
  go_upto_region 6 with (first
    | (go_at_call 17; (with_reducible refine (r17Fit_any _ _ ⟨1, c5.ps, c5.rks, c5.dest, c5.tr⟩ N.length _ HC7.out (HS5.out.in_tr HTR.out) (HS5.out.in_ranks HRK.out) HS5.out.cap ⟨hN.1, Nat.le_trans hN.2 (by decide)⟩).mono ?_); rintro e w8 ⟨pv8, tv8, c8, he, hO, hm, hI, hv, hx8⟩; subst he; have HO8 := Lib.hid hO; have HM8 := Lib.hid (free_ok hm (hv.2 (show (bits .and .i64 1 1 == 0) = false by decide))); have HX8 := Lib.hid (HX7.out.trans hx8); have HZ8 := Lib.hid hx8; have HF8 := Lib.hid (HF7.out.later hx8); have HB8 := Lib.hid (HB7.out.later hx8); have HK8 := Lib.hid (HK7.out.later hx8); have HQ8 := Lib.hid (HQ7.out.later hx8); have hqc := HQ8.out.cells; have hqf := HQ8.out.frozen; obtain ⟨pb, pbc, hpv, -, -, -⟩ := hO.at.parts.form; obtain ⟨tb, tbc, htv, -, -, -⟩ := hO.at.tr.form; subst hpv htv; clear hO hm hI hv hx8))
  clear hbc
  have HXC := Lib.hid (show xc < W7.heap.size from HQ7.out.lt)
  refine hideW (Φ := fun W => Code.wp _ _ _ _ W) (fun W => Ext w5 W ∧ Blk W xc [I c8.vd, .slice pb c8.ps.length pbc, U c8.dest, .slice tb c8.tr.length tbc] 29 ∧ CertOwn W W7.heap.size (.slice pb c8.ps.length pbc) (.slice tb c8.tr.length tbc) c8)
    ⟨HLE.out _ _ _ (HLE.out _ _ _ (HLE.out _ _ _ (HLE.out _ _ _ (HY7.out.trans HZ8.out)))), (((HQ8.out.set 0 _).set 1 _).set 2 _).set 3 _, (((HO8.out.setCell HXC.out _).setCell HXC.out _).setCell HXC.out _).setCell HXC.out _⟩ (fun W9 hW9 => ?_)
  obtain ⟨hx9, hb9, ho9⟩ := hW9
  have HX9 := Lib.hid (HX5.out.trans hx9)
  have HF9 := Lib.hid (HF5.out.later hx9)
  have HB9 := Lib.hid (HB5.out.later hx9)
  have HK9 := Lib.hid (HK5.out.later hx9)
  have HQ9 := Lib.hid hb9
  have HC9 := Lib.hid ho9.at
  clear hx9 hb9 ho9 hqc hqf HX7 HF7 HB7 HK7 HQ7 HY7 HX8 HZ8 HF8 HB8 HK8 HQ8 HO8 HX5 HF5 HB5 HK5 HLE HXC
  have hpl := meetV_pos HM8.out.meet
  have hrl : 0 < c8.rks.length := by rw [HC9.out.len]; exact hpl
  have HRL := Lib.hid (show c8.rks[0].length = N.length by have := (rksV_all HM8.out.rks _ (List.getElem_mem hrl)).1; omega)
  obtain ⟨_, _, hpe, _, hpm, P3⟩ := HC9.out.parts.form
  obtain ⟨b0, o0, he0, q0, q1, q2⟩ := P3 0 _ (List.getElem?_eq_getElem hpl)
  simp only [Value.slice.injEq, true_and] at hpe
  obtain ⟨rfl, rfl⟩ := hpe
  subst he0
  clear P3
  unfold maxLen at hpm
  have HR := Lib.hid (HC9.out.rk 0 _ _ (List.getElem?_eq_getElem hpl) (List.getElem?_eq_getElem hrl))
  generalize c8.ps[0] = p0 at *
  generalize c8.rks[0] = rk at *
  have hqc := HQ9.out.cells
  have hkc := HK9.out.cells
  simp only [Nat.zero_mul, Nat.add_zero] at q0 q1 q2
  obtain ⟨lo, hi, md, hlo, hhi, hmd, ho1, ho2⟩ := three_order x y z
  go_upto_region 10 with (fail)
  have HO1 := Lib.hid ho1
  have HO2 := Lib.hid ho2
  clear hlo hhi hmd hkc hqc ho1 ho2 q0 q1 q2
  have hbc9 := HB9.out.cells
  obtain ⟨l, hcl⟩ := cuts_exist N.flatten
  have HCU := Lib.hid hcl
  have HPA := Lib.hid (show ∀ (a b : BitVec 32) (W : World), Ext W9 W → Calls Try.prog 23 #[.agg #[.slice va N.length vcap], .agg #[U a, U b, p0.rk]] W fun e w' => e = .returned (I (fallV N (insideV l a b) rk)) ∧ Ext W w' from fun a b W hW => by
    have h1 := checkPart_any _ N ⟨a, b, p0.ra, p0.rn, p0.rc⟩ rk l W (HF9.out.later hW) HNO.out (Nat.le_trans HNS.out (by decide)) hcl (HR.out.later hW)
    rw [partV_eq HRL.out] at h1
    exact h1)
  clear hcl
  have HT1 := Lib.hid (fallV_two N (insideV l lo hi) rk)
  have HP1 := Lib.hid (HPA.out lo hi)
  by_cases hml : md = lo
  · have hd : (md == lo) = true := by rw [beq_iff_eq]; exact hml
    clear hml
    generalize fallV N (insideV l lo hi) rk = z1 at *
    rcases HT1.out with rfl | rfl
    all_goals
      go_wp2_with (first
        | (go_at_call 23; (with_reducible refine (HP1.out _ ?_).mono ?_); (· exact Ext.refl _); rintro e w7 ⟨he, hx7⟩; subst he; have HX7 := Lib.hid hx7; clear hx7))
      go_ret
      exact ⟨rfl, HX9.out.trans HX7.out⟩
  · have hd : (md == lo) = false := by rw [beq_eq_false_iff_ne]; exact hml
    have HLT := Lib.hid (show uv lo < uv md by have h1 := HO1.out; have h2 : uv md ≠ uv lo := fun e => hml (uv_inj e); omega)
    clear hml
    have HSP := Lib.hid (fall_split HCU.out HLT.out HO2.out rk)
    have HT2 := Lib.hid (fallV_two N (insideV l lo (md - 1#32)) rk)
    have HT3 := Lib.hid (fallV_two N (insideV l md hi) rk)
    have HP2 := Lib.hid (HPA.out lo (md - 1#32))
    have HP3 := Lib.hid (HPA.out md hi)
    generalize fallV N (insideV l lo hi) rk = z1 at *
    generalize fallV N (insideV l lo (md - 1#32)) rk = z2 at *
    generalize fallV N (insideV l md hi) rk = z3 at *
    go_upto_region 13 with (first
      | (go_at_call 23; (with_reducible refine (HP1.out _ ?_).mono ?_); (· exact Ext.refl _); rintro e w10 ⟨he, hx⟩; subst he; have HXA := Lib.hid hx; clear hx))
    clear hbc9
    have hbcA := (HB9.out.later HXA.out).cells
    go_upto_region 14 with (first
      | (go_at_call 23; (with_reducible refine (HP2.out _ ?_).mono ?_); (· exact HXA.out); rintro e w11 ⟨he, hx⟩; subst he; have HXB := Lib.hid (HXA.out.trans hx); clear hx))
    clear hbcA
    have hbcB := (HB9.out.later HXB.out).cells
    go_upto_region 15 with (first
      | (go_at_call 23; (with_reducible refine (HP3.out _ ?_).mono ?_); (· exact HXB.out); rintro e w12 ⟨he, hx⟩; subst he; have HXD := Lib.hid (HXB.out.trans hx); clear hx))
    clear hbcB
    rcases HT1.out with rfl | rfl <;> rcases HT2.out with rfl | rfl <;> rcases HT3.out with rfl | rfl
    all_goals first
      | (exfalso; have h := HSP.out; simp at h; done)
      | (go_wp2_with fail; go_ret; exact ⟨rfl, HX9.out.trans HXD.out⟩)
end Go.Proofs.Ytpfkfboohblgoaa
