/- The law VectorOrder: the walk. Conditions: whole numbers are within 64 bits. -/
import Derived.Test.YtilaljdokpdcoaaVecFit
import Derived.Test.YtilaljdokpdcoaaShown13
namespace Go.Proofs.Ytilaljdokpdcoaa
open Go.RowKit

set_option maxHeartbeats 4000000 in
set_option maxRecDepth 100000 in
theorem vectorOrder_any (va vb vc : Value) (la lb lc : List Int) (w : World) (ha : IntsAt w va la) (hb : IntsAt w vb lb) (hc : IntsAt w vc lc) (hok : ∀ x ∈ la, In64 x) :
    Calls Try.prog 6 #[va, vb, vc] w fun e w' => e = .returned (.bool true) ∧ Ext w w' := by
  have HA := Lib.hid ha
  have HB := Lib.hid hb
  have HC := Lib.hid hc
  have HOK := Lib.hid hok
  clear ha hb hc hok
  go_enter Try.func6, Try.ntmps6
  go_upto_region 5 with (first
    | (go_at_call 15; (with_reducible refine (shown13_any _).mono ?_); rintro e w1 ⟨rfl, hx1⟩; have HX1 := Lib.hid hx1; clear hx1)
    | (go_at_call 23; (with_reducible refine (short13_any _ la _ (HA.out.later HX1.out)).mono ?_); rintro e w2 ⟨v2, he, hV, hx2⟩; subst he; have HV2 := Lib.hid hV; have HX2 := Lib.hid (HX1.out.trans hx2); clear hV hx2)
    | (go_at_call 23; (with_reducible refine (short13_any _ lb _ (HB.out.later HX2.out)).mono ?_); rintro e w3 ⟨v3, he, hV, hx3⟩; subst he; have HV3 := Lib.hid hV; have HX3 := Lib.hid (HX2.out.trans hx3); have HV23 := Lib.hid (HV2.out.later hx3); clear hV hx3)
    | (go_at_call 23; (with_reducible refine (short13_any _ lc _ (HC.out.later HX3.out)).mono ?_); rintro e w4 ⟨v4, he, hV, hx4⟩; subst he; have HV44 := Lib.hid hV; have HX4 := Lib.hid (HX3.out.trans hx4); have HV24 := Lib.hid (HV23.out.later hx4); have HV34 := Lib.hid (HV3.out.later hx4); clear hV hx4))
  clear HV2 HV23 HV3
  go_upto_region 8 with (first
    | (go_at_call 24; (with_reducible refine (vecCompare_any _ _ (la.take 30) (lb.take 30) _ HV24.out HV34.out).mono ?_); rintro e w5 ⟨rfl, hx5⟩; have HX5 := Lib.hid hx5; clear hx5)
    | (go_at_call 24; (with_reducible refine (vecCompare_any _ _ (lb.take 30) (lc.take 30) _ (HV34.out.later HX5.out) (HV44.out.later HX5.out)).mono ?_); rintro e w6 ⟨rfl, hx6⟩; have HX6 := Lib.hid (HX5.out.trans hx6); clear hx6)
    | (go_at_call 24; (with_reducible refine (vecCompare_any _ _ (la.take 30) (lc.take 30) _ (HV24.out.later HX6.out) (HV44.out.later HX6.out)).mono ?_); rintro e w7 ⟨rfl, hx7⟩; have HX7 := Lib.hid (HX6.out.trans hx7); clear hx7))
  have ht1 := @cmpL_trans (la.take 30) (lb.take 30) (lc.take 30)
  have ht2 := @cmpL_trans' (la.take 30) (lb.take 30) (lc.take 30)
  have hb1 := cmpL_bd (la.take 30) (lb.take 30)
  have hb2 := cmpL_bd (lb.take 30) (lc.take 30)
  have hb3 := cmpL_bd (la.take 30) (lc.take 30)
  have HN := Lib.hid (cmpL_neg (la.take 30) (lb.take 30))
  have HS := Lib.hid (cmpL_self (la.take 30))
  have HP := Lib.hid (rfl : cmpL (la.take 30) (lb.take 30) = cmpL (la.take 30) (lb.take 30))
  have HFV := Lib.hid (fitVec_may la)
  generalize hp : cmpL (la.take 30) (lb.take 30) = p at *
  generalize cmpL (lb.take 30) (lc.take 30) = q at *
  generalize cmpL (la.take 30) (lc.take 30) = r at *
  have HPP := Lib.hid hp
  clear hp HP
  have HV27 := Lib.hid (HV24.out.later HX7.out)
  have HV37 := Lib.hid (HV34.out.later HX7.out)
  have HX := Lib.hid (HX4.out.trans HX7.out)
  have HA7 := Lib.hid (HA.out.later HX.out)
  clear HV24 HV34 HV44 HX5 HX6 HX7 HX1 HX2 HX3 HX4 HA HB HC
  obtain ⟨p, rfl⟩ : ∃ p' : Int, p' = p := ⟨_, rfl⟩
  have hpc : p = -1 ∨ p = 0 ∨ p = 1 := by omega
  have hqc : q = -1 ∨ q = 0 ∨ q = 1 := by omega
  have hrc : r = -1 ∨ r = 0 ∨ r = 1 := by omega
  rcases hpc with rfl | rfl | rfl <;> rcases hqc with rfl | rfl | rfl <;> rcases hrc with rfl | rfl | rfl <;> (try (exfalso; omega))
  all_goals
    clear hb1 hb2 hb3 ht1 ht2
    go_wp2_with (first
      | (go_at_call 25; (with_reducible refine (vecMay_any _ (la.take 30) _ HV27.out).mono ?_); rintro e w8 ⟨rfl, hx8⟩; have HX8 := Lib.hid hx8; clear hx8)
      | (go_at_call 26; (with_reducible refine (r13May_any _ (la.take 30) _ (HV27.out.later HX8.out)).mono ?_); rintro e w9 ⟨rfl, hx9⟩; have HX9 := Lib.hid (HX8.out.trans hx9); clear hx9)
      | (go_at_call 27; (with_reducible refine (r13Fit_any _ la _ (HA7.out.later HX9.out) HOK.out).mono ?_); rintro e w10 ⟨v10, he, hO, hx10⟩; subst he; have HO10 := Lib.hid hO.ints; have HX10 := Lib.hid (HX9.out.trans hx10); clear hO hx10)
      | (go_at_call 25; (with_reducible refine (vecMay_any _ (fitVec la) _ HO10.out).mono ?_); rintro e w11 ⟨he, hx11⟩; rw [HFV.out] at he; subst he; have HX11 := Lib.hid (HX10.out.trans hx11); clear hx11)
      | (go_at_call 28; (with_reducible refine (r13Compare_any _ _ (la.take 30) (lb.take 30) _ (HV27.out.later HX11.out) (HV37.out.later HX11.out)).mono ?_); rintro e w12 ⟨he, hx12⟩; rw [HPP.out] at he; subst he; have HX12 := Lib.hid (HX11.out.trans hx12); clear hx12)
      | (go_at_call 24; (with_reducible refine (vecCompare_any _ _ (lb.take 30) (la.take 30) _ (HV37.out.later HX12.out) (HV27.out.later HX12.out)).mono ?_); rintro e w13 ⟨he, hx13⟩; rw [HN.out] at he; subst he; have HX13 := Lib.hid (HX12.out.trans hx13); clear hx13)
      | (go_at_call 24; (with_reducible refine (vecCompare_any _ _ (la.take 30) (la.take 30) _ (HV27.out.later HX13.out) (HV27.out.later HX13.out)).mono ?_); rintro e w14 ⟨he, hx14⟩; rw [HS.out] at he; subst he; have HX14 := Lib.hid (HX13.out.trans hx14); clear hx14))
    go_ret
    exact ⟨rfl, HX.out.trans HX14.out⟩
end Go.Proofs.Ytilaljdokpdcoaa
