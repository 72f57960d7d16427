/- The law VectorSteps: each node's number is the step of it. Conditions: whole numbers are within 64 bits. -/
import Derived.Test.YthcnihchfkmphaaVecCuts
import Derived.Test.YthcnihchfkmphaaGCuts
import Derived.Test.YthcnihchfkmphaaGVec
import Derived.Test.YthcnihchfkmphaaGNetP
namespace Go.Proofs.Ythcnihchfkmphaa
open Go.RowKit

theorem foldS_mem {a : BitVec 32} {r : Rul} : ∀ (t : List Rul) (o : Option Rul), t.foldl (findStep a) o = some r → o = some r ∨ r ∈ t
  | [], _, h => .inl h
  | x :: t, o, h => by
    rcases foldS_mem t _ h with g | g
    · unfold findStep at g
      split at g
      · cases g; exact .inr (by simp)
      · exact .inl g
    · exact .inr (List.mem_cons_of_mem _ g)
theorem findL_mem {t : List Rul} {a : BitVec 32} {r : Rul} (h : findL t a = some r) : r ∈ t := (foldS_mem t none h).resolve_left (by simp)
theorem step_bd {ls : List (List Rul)} (h : netMayV ls = 0) {t : List Rul} (ht : t ∈ ls) (a : BitVec 32) {x : Int} (hs : stepO t a = some x) : 0 ≤ x ∧ x < ls.length := by
  have hm := (netMay_tabs h).2.2 t ht
  have hr := (tabG_spec ls.length t none hm).1
  unfold stepO at hs
  split at hs
  · rename_i r hf
    split at hs
    · rename_i ha
      cases hs
      have hmem : r ∈ t := findL_mem hf
      have h2 := hr r hmem
      unfold ruleMayV at h2
      split at h2
      · rename_i h3; exact absurd h2 h3
      · (try rw [if_pos ha] at h2)
        split at h2
        · cases h2
        · omega
    · cases hs
  · cases hs
theorem vec_may {ls : List (List Rul)} (h : netMayV ls = 0) (a : BitVec 32) : vmayV (vecV ls a) = 0 := by
  refine mayG_zero fun x hx => ?_
  rw [vecV_len]
  unfold vecV at hx
  obtain ⟨t, ht, rfl⟩ := List.mem_map.1 hx
  cases hs : stepO t a with
  | none => simp; omega
  | some y => have := step_bd h ht a hs; simp; omega
set_option maxHeartbeats 4000000 in
set_option maxRecDepth 100000 in
theorem vectorSteps_any (lv : Value) (ls : List (List Rul)) (a : BitVec 32) (w : World) (hl : TablesAt w lv ls) (hok : TablesOk ls) :
    Calls Try.prog 14 #[.agg #[lv], U a] w fun e w' => e = .returned (.bool true) ∧ Ext w w' := by
  have HL := Lib.hid hl
  have HOK := Lib.hid hok
  obtain ⟨ad, cap, hlv, a1, a2, a3⟩ := hl.form
  subst hlv
  clear a3 hl hok
  unfold maxLen at a2
  go_enter Try.func14, Try.ntmps14
  go_upto_region 1 with (fail)
  refine hideW (Φ := fun W => Code.wp _ _ _ _ W) (fun W => Ext w W ∧ Blk W w.heap.size [.slice ad ls.length cap] 24)
    ⟨by (repeat (first | with_reducible exact Ext.refl _ | with_reducible assumption | with_reducible refine Ext.alloc ?_ _ | with_reducible refine Ext.drew ?_ | with_reducible refine Ext.drewN ?_ _ | (with_reducible refine Ext.setCellP ?_ ?_; focus (first | (simp; done) | (simp; omega) | omega)))), (Blk.new w [.slice ad ls.length cap] 24)⟩ (fun W1 hW1 => ?_)
  obtain ⟨hx1, hb1⟩ := hW1
  have HX1 := Lib.hid hx1
  have HB1 := Lib.hid hb1
  clear hx1 hb1
  generalize w.heap.size = nb at *
  go_upto_region 2 with (first
    | (go_at_call 39; (with_reducible refine (shown13_any _).mono ?_); rintro e w2 ⟨rfl, hx2⟩; have HX2 := Lib.hid (HX1.out.trans hx2); have HB2 := Lib.hid (HB1.out.later hx2); clear hx2))
  have hbc2 := HB2.out.cells
  have HNM := Lib.hid (fitN_may ls)
  have HNS := Lib.hid (fitN_size ls)
  have HNO := Lib.hid (fitN_ok ls)
  have HN20 := Lib.hid (@fitN_short ls)
  have hN := fitN_bd ls
  go_upto_region 3 with (first
    | (go_at_call 20; (with_reducible refine (r09Fit_any _ ls _ (HL.out.later HX2.out) HOK.out).mono ?_); rintro e w3 ⟨v3, he, hF, hx3⟩; subst he; have HF3 := Lib.hid hF.tables; obtain ⟨va, vcap, hv3, q1, q2, q3⟩ := HF3.out.form; subst hv3; clear q3; have HX3 := Lib.hid (HX2.out.trans hx3); clear hF hx3))
  generalize fitN ls = N at *
  clear hbc2 HB2 HB1
  unfold maxLen at q2
  refine hideW (Φ := fun W => Code.wp _ _ _ _ W) (fun W => Ext w3 W ∧ Blk W w3.heap.size [.slice va N.length vcap] 24)
    ⟨by (repeat (first | with_reducible exact Ext.refl _ | with_reducible assumption | with_reducible refine Ext.alloc ?_ _ | with_reducible refine Ext.drew ?_ | with_reducible refine Ext.drewN ?_ _ | (with_reducible refine Ext.setCellP ?_ ?_; focus (first | (simp; done) | (simp; omega) | omega)))), Blk.new w3 [.slice va N.length vcap] 24⟩ (fun W4 hW4 => ?_)
  obtain ⟨hx4, hb4⟩ := hW4
  have HX4 := Lib.hid (HX3.out.trans hx4)
  have HF4 := Lib.hid (HF3.out.later hx4)
  have HB4 := Lib.hid hb4
  have hbc4 := hb4.cells
  clear hx4 hb4 HF3 HX3 HX1 HX2
  generalize w3.heap.size = fb at *
  go_upto_region 6 with (first
    | (go_at_call 40; (with_reducible refine (vecNew_good _ N _ HF4.out HNO.out HNM.out (Nat.le_trans HNS.out (by decide))).mono ?_); rintro e w5 ⟨mb, he, hM, hx5⟩; subst he; have HM5 := Lib.hid hM; have HX5 := Lib.hid (HX4.out.trans hx5); have HF5 := Lib.hid (HF4.out.later hx5); have HB5 := Lib.hid (HB4.out.later hx5); clear hM hx5))
  clear hbc4 HF4 HB4 HX4
  have hN6 : N.length ≤ 1000000 := by omega
  go_upto_region 7 with (first
    | (go_at_call 43; (with_reducible refine (vecOf_any _ mb N a _ HM5.out (netMay_tab HNM.out) hN6).mono ?_); rintro e w6 ⟨v6, he, hV, hx6⟩; subst he; have HV6 := Lib.hid hV.ints; have HX6 := Lib.hid (HX5.out.trans hx6); have HM6 := Lib.hid (HM5.out.later hx6); have HF6 := Lib.hid (HF5.out.later hx6); have HB6 := Lib.hid (HB5.out.later hx6); clear hV hx6))
  have hbc6 := HB6.out.cells
  have HS := Lib.hid (Nat.le_trans HNS.out (by decide : 160 ≤ 10000000))
  go_upto_region 8 with (first
    | (go_at_call 21; (with_reducible refine (cutsOf_any _ N _ HF6.out HNO.out (cap_of HS.out)).mono ?_); rintro e w7 ⟨v7, l, he, hO, hC, hx7⟩; subst he; have HU7 := Lib.hid hO.us; have HC := Lib.hid hC; have HX7 := Lib.hid (HX6.out.trans hx7); have HM7 := Lib.hid (HM6.out.later hx7); have HF7 := Lib.hid (HF6.out.later hx7); have HB7 := Lib.hid (HB6.out.later hx7); have HV7 := Lib.hid (HV6.out.later hx7); clear hO hC hx7))
  clear hbc6 HM5 HM6 HF5 HF6 HB5 HB6 HV6 HX5 HX6
  have HZ := Lib.hid HC.out.zero
  have HLT := Lib.hid (ivN_lt HZ.out a)
  have HLO := Lib.hid (vec_low HC.out a)
  have HC3 := Lib.hid (show ∀ W, UsAt W v7 l → Calls Try.prog 27 #[v7, I (ivN l a : Nat)] W fun e w' => e = .returned (.tuple #[U (l[ivN l a]'(ivN_lt HZ.out a)), U (endV l (ivN l a)), .bool true]) ∧ w' = W from fun W hW => cutsEnds_any _ l _ W hW HLT.out)
  have HLO' := Lib.hid (show vecV N (l[ivN l a]'(ivN_lt HZ.out a)) = vecV N a from HLO.out)
  clear HLO
  generalize (l[ivN l a]'(ivN_lt HZ.out a)) = lo at *
  generalize endV l (ivN l a) = hi at *
  obtain ⟨ca, ccap, hcv, c1, c2, c3⟩ := HU7.out.form
  have hcv' : v7 = .slice ca l.length ccap := hcv
  subst hcv'
  clear c3 hcv
  unfold maxLen at c2
  go_upto_region 9 with (first
    | (go_at_call 23; (with_reducible refine (cutsAt_any _ l a _ HU7.out).mono ?_); rintro e w' ⟨he, hw⟩; obtain rfl := hw.symm; rw [ivN_int HZ.out a] at he; subst he)
    | (go_at_call 27; (with_reducible refine (HC3.out _ HU7.out).mono ?_); rintro e w' ⟨rfl, hw⟩; obtain rfl := hw.symm))
  obtain ⟨xa, xcap, hxv, x1, x2, x3⟩ := HV7.out.form
  have hxv' : v6 = .slice xa N.length xcap := by rw [← vecV_len N a]; exact hxv
  subst hxv'
  rw [vecV_len] at x1
  have X3 := Lib.hid x3
  clear x3 hxv
  unfold maxLen at x2
  have hbc7 := HB7.out.cells
  have HMAY := Lib.hid (vec_may HNM.out a)
  have HSELF := Lib.hid (cmpL_self (vecV N a))
  have hlen : ((N.length : Int) != (N.length : Int)) = false := by simp
  go_upto_region 11 with (first
    | (go_at_call 51; (with_reducible refine (vecMay_any _ (vecV N a) _ HV7.out).mono ?_); rintro e w8 ⟨he, hx8⟩; rw [HMAY.out] at he; subst he; have HX8 := Lib.hid hx8; have HM8 := Lib.hid (HM7.out.later hx8); have HV8 := Lib.hid (HV7.out.later hx8); clear hx8)
    | (go_at_call 43; (with_reducible refine (vecOf_any _ mb N lo _ HM8.out (netMay_tab HNM.out) hN6).mono ?_); rintro e w9 ⟨v9, he, hV, hx9⟩; rw [HLO'.out] at hV; subst he; have HV9 := Lib.hid hV.ints; have HX9 := Lib.hid (HX8.out.trans hx9); have HV89 := Lib.hid (HV8.out.later hx9); clear hV hx9)
    | (go_at_call 42; (with_reducible refine (vecCompare_any _ _ (vecV N a) (vecV N a) _ HV89.out HV9.out).mono ?_); rintro e w10 ⟨he, hx10⟩; rw [HSELF.out] at he; subst he; have HX10 := Lib.hid (HX9.out.trans hx10); clear hx10))
  clear hbc7 HM7 HM8 HV8 HV9 HV89 HX8 HX9
  go_wp2_with fail
  go_loopw [14] (fun i wr => ∃ k : Nat, k ≤ N.length ∧ i = I k ∧ Hid (Ext w7 wr)) (fun i _ => N.length - (intOf i).toNat)
  case atStart => exact ⟨0, by omega, rfl, HX10.out⟩
  case round =>
    obtain ⟨k, hk, rfl, HX⟩ := hrel
    by_cases hlt : k < N.length
    · have HFk := Lib.hid (HF7.out.later HX.out)
      have hbck := (HB7.out.later HX.out).cells
      obtain ⟨b1, o1, rfl, p1⟩ := X3.out k _ (vecV_get (a := a) hlt)
      have HP := Lib.hid p1
      have HST := Lib.hid (stepN_in (a := a) hlt)
      cases hso : stepO N[k] a
      case' none =>
        rw [hso] at HST HP
      case' some =>
        rename_i u
        rw [hso] at HST HP
        have hun : (u != u) = false := by simp
      all_goals
        clear p1
        have p1 := HP.out
        simp only [Option.getD_none, Option.getD_some] at p1
        clear hso
        go_wp2_with (first
          | (go_at_call 52; (with_reducible refine (netStep_any _ N a _ _ HFk.out HNO.out).mono ?_); rintro e w11 ⟨he, hx11⟩; rw [HST.out] at he; subst he; have HX11 := Lib.hid (HX.out.trans hx11); replace p1 := HX11.out.cell p1; clear hx11))
        go_roundw
        case rel => exact ⟨k + 1, by omega, by go_num, HX11.out⟩
        case measure => simp [intOf]; omega
    · have hkd : decide ((k : Int) < (N.length : Int)) = false := decide_eq_false (by omega)
      have hkn : decide (k < N.length) = false := decide_eq_false hlt
      go_wp2_with fail
      go_ret
      exact ⟨rfl, HX7.out.trans HX.out⟩
end Go.Proofs.Ythcnihchfkmphaa
