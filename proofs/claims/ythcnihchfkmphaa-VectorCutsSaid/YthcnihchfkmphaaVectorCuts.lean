/- The law VectorCuts: where two addresses have unlike vectors a cut lies between them. Conditions: whole numbers are within 64 bits. -/
import Derived.Test.YthcnihchfkmphaaVecCuts
import Derived.Test.YthcnihchfkmphaaGCuts
import Derived.Test.YthcnihchfkmphaaGVec
import Derived.Test.YthcnihchfkmphaaGNetP
namespace Go.Proofs.Ythcnihchfkmphaa
open Go.RowKit

set_option maxHeartbeats 4000000 in
set_option maxRecDepth 100000 in
theorem vectorCuts_any (lv : Value) (ls : List (List Rul)) (a b : BitVec 32) (w : World) (hl : TablesAt w lv ls) (hok : TablesOk ls) :
    Calls Try.prog 11 #[.agg #[lv], U a, U b] w fun e w' => e = .returned (.bool true) ∧ Ext w w' := by
  have HL := Lib.hid hl
  have HOK := Lib.hid hok
  obtain ⟨ad, cap, hlv, a1, a2, a3⟩ := hl.form
  subst hlv
  clear a3 hl hok
  unfold maxLen at a2
  go_enter Try.func11, Try.ntmps11
  go_upto_region 1 with (fail)
  refine hideW (Φ := fun W => Code.wp _ _ _ _ W) (fun W => Ext w W ∧ Blk W w.heap.size [.slice ad ls.length cap] 24)
    ⟨by (repeat (first | with_reducible exact Ext.refl _ | with_reducible assumption | with_reducible refine Ext.alloc ?_ _ | with_reducible refine Ext.drew ?_ | with_reducible refine Ext.drewN ?_ _ | (with_reducible refine Ext.setCellP ?_ ?_; focus (first | (simp; done) | (simp; omega) | omega)))), (Blk.new w [.slice ad ls.length cap] 24)⟩ (fun W1 hW1 => ?_)
  obtain ⟨hx1, hb1⟩ := hW1
  have HX1 := Lib.hid hx1
  have HB1 := Lib.hid hb1
  clear hx1 hb1
  generalize w.heap.size = nb at *
  go_upto_region 2 with (first
    | (go_at_call 39; (with_reducible refine (shown13_any _).mono ?_); rintro e w2 ⟨rfl, hx2⟩; have HX2 := Lib.hid (HX1.out.trans hx2); have HB2 := Lib.hid (HB1.out.later hx2); clear hx2))
  have hbc2 := HB2.out.cells
  have HNM := Lib.hid (fitN_may ls)
  have HNS := Lib.hid (fitN_size ls)
  have HNO := Lib.hid (fitN_ok ls)
  have HN20 := Lib.hid (@fitN_short ls)
  have hN := fitN_bd ls
  go_upto_region 3 with (first
    | (go_at_call 20; (with_reducible refine (r09Fit_any _ ls _ (HL.out.later HX2.out) HOK.out).mono ?_); rintro e w3 ⟨v3, he, hF, hx3⟩; subst he; have HF3 := Lib.hid hF.tables; obtain ⟨va, vcap, hv3, q1, q2, q3⟩ := HF3.out.form; subst hv3; clear q3; have HX3 := Lib.hid (HX2.out.trans hx3); clear hF hx3))
  generalize fitN ls = N at *
  clear hbc2 HB2 HB1
  unfold maxLen at q2
  refine hideW (Φ := fun W => Code.wp _ _ _ _ W) (fun W => Ext w3 W ∧ Blk W w3.heap.size [.slice va N.length vcap] 24)
    ⟨by (repeat (first | with_reducible exact Ext.refl _ | with_reducible assumption | with_reducible refine Ext.alloc ?_ _ | with_reducible refine Ext.drew ?_ | with_reducible refine Ext.drewN ?_ _ | (with_reducible refine Ext.setCellP ?_ ?_; focus (first | (simp; done) | (simp; omega) | omega)))), Blk.new w3 [.slice va N.length vcap] 24⟩ (fun W4 hW4 => ?_)
  obtain ⟨hx4, hb4⟩ := hW4
  have HX4 := Lib.hid (HX3.out.trans hx4)
  have HF4 := Lib.hid (HF3.out.later hx4)
  have HB4 := Lib.hid hb4
  have hbc4 := hb4.cells
  clear hx4 hb4 HF3 HX3 HX1 HX2
  generalize w3.heap.size = fb at *
  go_upto_region 6 with (first
    | (go_at_call 40; (with_reducible refine (vecNew_good _ N _ HF4.out HNO.out HNM.out (Nat.le_trans HNS.out (by decide))).mono ?_); rintro e w5 ⟨mb, he, hM, hx5⟩; subst he; have HM5 := Lib.hid hM; have HX5 := Lib.hid (HX4.out.trans hx5); have HF5 := Lib.hid (HF4.out.later hx5); have HB5 := Lib.hid (HB4.out.later hx5); clear hM hx5))
  clear hbc4 HF4 HB4 HX4
  obtain ⟨lo, hi, hlo, hhi, hle, hor⟩ := two_order a b
  have HLE := Lib.hid hle
  have HOR := Lib.hid hor
  clear hle hor
  go_upto_region 8 with (fail)
  clear hlo hhi
  have hbc5 := HB5.out.cells
  have HS := Lib.hid (Nat.le_trans HNS.out (by decide : 160 ≤ 10000000))
  go_upto_region 9 with (first
    | (go_at_call 21; (with_reducible refine (cutsOf_any _ N _ HF5.out HNO.out (cap_of HS.out)).mono ?_); rintro e w6 ⟨v6, l, he, hO, hC, hx6⟩; subst he; have HU6 := Lib.hid hO.us; have HC := Lib.hid hC; have HX6 := Lib.hid hx6
       have HLN := Lib.hid (show l.length ≤ 100000 by have h1 := hC.len; rw [sizeN_flat] at h1; have := HNS.out; omega)
       clear hO hC hx6)
    | (go_at_call 41; (with_reducible refine (cutsInside_any _ l lo hi _ HU6.out (Nat.le_trans HLN.out (by decide))).mono ?_); rintro e w7 ⟨v7, he, hO, hx7⟩; subst he; have HI7 := Lib.hid hO.us; have HX7 := Lib.hid (HX6.out.trans hx7); have HM7 := Lib.hid (HM5.out.later (HX6.out.trans hx7)); clear hO hx7))
  clear hbc5 HX6 HU6
  have HV1 := Lib.hid (vecV_len N a)
  have hN6 : N.length ≤ 1000000 := by omega
  go_upto_region 10 with (first
    | (go_at_call 43; (with_reducible refine (vecOf_any _ mb N a _ HM7.out (netMay_tab HNM.out) hN6).mono ?_); rintro e w8 ⟨v8, he, hV, hx8⟩; subst he; have HV8 := Lib.hid hV.ints; have HX8 := Lib.hid (HX7.out.trans hx8); have HM8 := Lib.hid (HM7.out.later hx8); have HI8 := Lib.hid (HI7.out.later hx8); clear hV hx8)
    | (go_at_call 43; (with_reducible refine (vecOf_any _ mb N b _ HM8.out (netMay_tab HNM.out) hN6).mono ?_); rintro e w9 ⟨v9, he, hV, hx9⟩; subst he; have HV9 := Lib.hid hV.ints; have HV89 := Lib.hid (HV8.out.later hx9); have HX9 := Lib.hid (HX8.out.trans hx9); have HM9 := Lib.hid (HM8.out.later hx9); have HI9 := Lib.hid (HI8.out.later hx9); clear hV hx9)
    | (go_at_call 42; (with_reducible refine (vecCompare_any _ _ (vecV N a) (vecV N b) _ HV89.out HV9.out).mono ?_); rintro e w10 ⟨he, hx10⟩; subst he; have HX10 := Lib.hid (HX9.out.trans hx10); have HM10 := Lib.hid (HM9.out.later hx10); have HI10 := Lib.hid (HI9.out.later hx10); clear hx10))
  clear HM7 HM8 HM9 HI7 HI8 HI9 HV8 HV9 HV89 HX7 HX8 HX9
  have HF10 := Lib.hid (HF5.out.later HX10.out)
  have hbc10 := (HB5.out.later HX10.out).cells
  have HXX := Lib.hid (HX5.out.trans HX10.out)
  clear HF5 HB5 HX10 HM5 HX5
  have HIN := Lib.hid (show cmpL (vecV N a) (vecV N b) ≠ 0 → 1 < (insideV l lo hi).length from fun h => by
    rcases Nat.lt_or_ge 1 (insideV l lo hi).length with g | g
    · exact g
    · have hv := vec_between HC.out HLE.out g
      rcases HOR.out with ⟨h1, h2⟩ | ⟨h1, h2⟩
      · rw [h1, h2] at hv; exact absurd (cmpL_zero.2 hv) h
      · rw [h1, h2] at hv; exact absurd (cmpL_zero.2 hv.symm) h)
  have HNG := Lib.hid (cmpL_neg (vecV N a) (vecV N b))
  have HEQ := Lib.hid (show a = b → cmpL (vecV N a) (vecV N b) = 0 from fun h => by rw [h]; exact cmpL_self _)
  have hcb := cmpL_bd (vecV N a) (vecV N b)
  have HCV := Lib.hid (show ∀ W va vb, IntsAt W va (vecV N b) → IntsAt W vb (vecV N a) → Calls Try.prog 42 #[va, vb] W fun e w' => e = .returned (I (-(cmpL (vecV N a) (vecV N b)))) ∧ Ext W w' from fun W va vb h1 h2 => by
    rw [← HNG.out]; exact vecCompare_any va vb _ _ W h1 h2)
  obtain ⟨ia, icap, hiv, i1, i2, i3⟩ := HI10.out.form
  have hiv' : v7 = .slice ia (insideV l lo hi).length icap := hiv
  subst hiv'
  clear i3 hiv
  unfold maxLen at i2
  generalize cmpL (vecV N a) (vecV N b) = c at *
  have HCI := Lib.hid (show ∀ W va, UsAt W va l → Calls Try.prog 44 #[va, U lo, U hi] W fun e w' => ∃ v, e = .returned v ∧ UsAt w' v (insideV l lo hi) ∧ Ext W w' from fun W va h =>
    (r12Inside_any va l lo hi W h (Nat.le_trans HLN.out (by decide))).mono fun e w' ⟨v, h1, h2, h3⟩ => ⟨v, h1, h2.us, h3⟩)
  generalize insideV l lo hi = Z at *
  have H3 : (c = 0 ∧ (a != b) = false) ∨ (c = 0 ∧ (a != b) = true) ∨ (c ≠ 0 ∧ (a != b) = true) := by
    by_cases hab : a = b
    · exact .inl ⟨HEQ.out hab, by rw [bne_eq_false_iff_eq]; exact hab⟩
    · have hn : (a != b) = true := by rw [bne_iff_ne]; exact hab
      by_cases hc : c = 0
      · exact .inr (.inl ⟨hc, hn⟩)
      · exact .inr (.inr ⟨hc, hn⟩)
  rcases H3 with ⟨hc, hn⟩ | ⟨hc, hn⟩ | ⟨hc, hn⟩
  case' inl =>
    subst hc
    have hc0 : ((0 : Int) == 0) = true := rfl
  case' inr.inl =>
    subst hc
    have hc0 : ((0 : Int) == 0) = true := rfl
  case' inr.inr =>
    have hc0 : (c == 0) = false := beq_false_of_ne hc
    have hz : decide ((1 : Int) < (Z.length : Int)) = true := decide_eq_true (by have := HIN.out hc; omega)
    have hz2 : decide (1 < Z.length) = true := decide_eq_true (HIN.out hc)
    clear hc
  all_goals
    go_wp2_with (first
        | (go_at_call 45; (with_reducible refine (r12Of_any _ N _ HF10.out HNO.out HS.out).mono ?_); rintro e w11 ⟨v11, l2, he, hU, hC2, hx11⟩; subst he; obtain rfl := Cuts.at HC.out hC2; have HU11 := Lib.hid hU; have HX11 := Lib.hid hx11; clear hU hC2 hx11)
        | (go_at_call 44; (with_reducible refine (HCI.out _ _ HU11.out).mono ?_); rintro e w12 ⟨v12, he, hU, hx12⟩; subst he; have HU12 := Lib.hid hU; have HX12 := Lib.hid (HX11.out.trans hx12); clear hU hx12)
        | (go_at_call 26; (with_reducible refine (r12Same_any _ _ Z Z _ (HI10.out.later HX12.out) HU12.out).mono ?_); rintro e w13 ⟨he, hx13⟩; replace he := he.trans (congrArg (fun b => Ending.returned (.bool b)) (decide_eq_true rfl)); subst he; have HX13 := Lib.hid (HX12.out.trans hx13); have HM13 := Lib.hid (HM10.out.later (HX12.out.trans hx13)); clear hx13)
        | (go_at_call 43; (with_reducible refine (vecOf_any _ mb N b _ HM13.out (netMay_tab HNM.out) hN6).mono ?_); rintro e w14 ⟨v14, he, hV, hx14⟩; subst he; have HV14 := Lib.hid hV.ints; have HX14 := Lib.hid (HX13.out.trans hx14); have HM14 := Lib.hid (HM13.out.later hx14); clear hV hx14)
        | (go_at_call 43; (with_reducible refine (vecOf_any _ mb N a _ HM14.out (netMay_tab HNM.out) hN6).mono ?_); rintro e w15 ⟨v15, he, hV, hx15⟩; subst he; have HV15 := Lib.hid hV.ints; have HX15 := Lib.hid (HX14.out.trans hx15); have HV145 := Lib.hid (HV14.out.later hx15); clear hV hx15)
        | (go_at_call 42; (with_reducible refine (HCV.out _ _ _ HV145.out HV15.out).mono ?_); rintro e w16 ⟨he, hx16⟩; subst he; have HX16 := Lib.hid (HX15.out.trans hx16); clear hx16))
  all_goals
    go_ret
    exact ⟨rfl, HXX.out.trans HX16.out⟩
end Go.Proofs.Ythcnihchfkmphaa
