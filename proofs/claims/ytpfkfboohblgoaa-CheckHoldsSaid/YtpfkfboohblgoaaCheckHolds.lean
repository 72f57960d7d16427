/- The law CheckHolds: a part of one address whose ranks are how far each node is from its end holds. Conditions: whole numbers are within 64 bits. -/
import Derived.Test.YtpfkfboohblgoaaGShort
import Derived.Test.YtpfkfboohblgoaaR15
import Derived.Test.YtpfkfboohblgoaaHoldsL
import Derived.Test.YtpfkfboohblgoaaGIns
import Derived.Test.YtpfkfboohblgoaaGNetP
import Derived.Test.YtpfkfboohblgoaaGReg
namespace Go.Proofs.Ytpfkfboohblgoaa
open Go Go.RowKit Go.Maps Go.Proofs

set_option maxHeartbeats 4000000 in
set_option maxRecDepth 100000 in
theorem checkHolds_any (lv : Value) (ls : List (List Rul)) (a : BitVec 32) (z : Nat) (w : World) (hl : TablesAt w lv ls) (hok : TablesOk ls) (hz : z < 256) :
    Calls Try.prog 7 #[.agg #[lv], U a, .int .u8 (z : Int)] w fun e w' => e = .returned (.bool true) ∧ Ext w w' := by
  have HL := Lib.hid hl
  have HOK := Lib.hid hok
  obtain ⟨ad, cap, hlv, a1, a2, a3⟩ := hl.form
  subst hlv
  clear a3 hl hok
  unfold maxLen at a2
  go_enter Try.func7, Try.ntmps7
  go_upto_region 1 with (fail)
  refine hideW (Φ := fun W => Code.wp _ _ _ _ W) (fun W => Ext w W ∧ Blk W w.heap.size [.slice ad ls.length cap] 24)
    ⟨by (repeat (first | with_reducible exact Ext.refl _ | with_reducible assumption | with_reducible refine Ext.alloc ?_ _ | with_reducible refine Ext.drew ?_ | with_reducible refine Ext.drewN ?_ _ | (with_reducible refine Ext.setCellP ?_ ?_; focus (first | (simp; done) | (simp; omega) | omega)))), (Blk.new w [.slice ad ls.length cap] 24)⟩ (fun W1 hW1 => ?_)
  obtain ⟨hx1, hb1⟩ := hW1
  have HX1 := Lib.hid hx1
  have HB1 := Lib.hid hb1
  clear hx1 hb1
  generalize w.heap.size = nb at *
  go_upto_region 2 with (first
    | (go_at_call 15; (with_reducible refine (shown20_any _).mono ?_); rintro e w2 ⟨rfl, hx2⟩; have HX2 := Lib.hid (HX1.out.trans hx2); have HB2 := Lib.hid (HB1.out.later hx2); clear hx2))
  have hbc2 := HB2.out.cells
  have HNM := Lib.hid (fitN_may ls)
  have HNS := Lib.hid (fitN_size ls)
  have HNO := Lib.hid (fitN_ok ls)
  have HN20 := Lib.hid (@fitN_short ls)
  have hN := fitN_bd ls
  go_upto_region 3 with (first
    | (go_at_call 16; (with_reducible refine (r09Fit_any _ ls _ (HL.out.later HX2.out) HOK.out).mono ?_); rintro e w3 ⟨v3, he, hF, hx3⟩; subst he; have HF3 := Lib.hid hF.tables; obtain ⟨va, vcap, hv3, q1, q2, q3⟩ := HF3.out.form; subst hv3; clear q3; have HX3 := Lib.hid (HX2.out.trans hx3); clear hF hx3))
  generalize fitN ls = N at *
  clear hbc2 HB2 HB1
  unfold maxLen at q2
  refine hideW (Φ := fun W => Code.wp _ _ _ _ W) (fun W => Ext w3 W ∧ Blk W w3.heap.size [.slice va N.length vcap] 24)
    ⟨by (repeat (first | with_reducible exact Ext.refl _ | with_reducible assumption | with_reducible refine Ext.alloc ?_ _ | with_reducible refine Ext.drew ?_ | with_reducible refine Ext.drewN ?_ _ | (with_reducible refine Ext.setCellP ?_ ?_; focus (first | (simp; done) | (simp; omega) | omega)))), Blk.new w3 [.slice va N.length vcap] 24⟩ (fun W4 hW4 => ?_)
  obtain ⟨hx4, hb4⟩ := hW4
  have HX4 := Lib.hid (HX3.out.trans hx4)
  have HF4 := Lib.hid (HF3.out.later hx4)
  have HB4 := Lib.hid hb4
  have hbc4 := hb4.cells
  clear hx4 hb4 HF3 HX3 HX1 HX2
  generalize w3.heap.size = fb at *
  have hVN := vecV_len N a
  go_upto_region 4 with fail
  refine hideW (Φ := fun W => Code.wp _ _ _ _ W) (fun W => Ext W4 W ∧ W.ownsRow W4.heap.size 3 1 (.slice (some ⟨W4.heap.size, 0, none⟩) 0 0) 0 [])
    ⟨by (repeat (first | with_reducible exact Ext.refl _ | with_reducible assumption | with_reducible refine Ext.alloc ?_ _ | with_reducible refine Ext.drew ?_ | with_reducible refine Ext.drewN ?_ _ | (with_reducible refine Ext.setCellP ?_ ?_; focus (first | (simp; done) | (simp; omega) | omega)))), own_made W4 1 3 0 [] rfl (by unfold maxLen; omega)⟩ (fun W5 hW5 => ?_)
  obtain ⟨hx5, ho5⟩ := hW5
  have HX5 := Lib.hid hx5
  have HO5 := Lib.hid ho5
  have HVN := Lib.hid hVN
  clear hx5 ho5 hbc4 hVN
  generalize hB : W4.heap.size = B at HO5 ⊢
  have HB := Lib.hid hB
  clear hB
  go_wp2_with fail
  go_loopw [9, 10] (fun v i wr => ∃ (k : Nat) (u : Value), k ≤ N.length ∧ i = I k ∧ v = u ∧ Hid (OwnI wr B u ((vecV N a).take k)) ∧ Hid (Ext W4 wr)) (fun _ i _ => N.length - (intOf i).toNat)
  case atStart => exact ⟨0, _, by omega, rfl, rfl, HO5.out, HX5.out⟩
  case round =>
    obtain ⟨k, u, hk, rfl, rfl, HO, HX⟩ := hrel
    have HLU := Lib.hid (show ((vecV N a).take k).length = k by rw [List.length_take, HVN.out]; omega)
    obtain ⟨ua, ucap, hu, ub1, ub2, -⟩ := HO.out.ints.form
    rw [HLU.out] at hu ub1
    subst hu
    unfold maxLen at ub2
    have hbc := (HB4.out.later HX.out).cells
    by_cases hlt : k < N.length
    · have hkd : decide ((k : Int) < (N.length : Int)) = true := decide_eq_true (by omega)
      have HLT := Lib.hid hlt
      have HRS := Lib.hid (show (vecV N a).take (k + 1) = (vecV N a).take k ++ [(stepN N a k).getD (-1)] by
        rw [List.take_succ_eq_append_getElem (by rw [HVN.out]; exact hlt), vec_at hlt])

      rcases hs : stepN N a k with _ | x
      case' none =>
        rw [hs] at HRS
        simp only [Option.getD_none] at HRS
        have HS := Lib.hid hs
        clear hs
        go_upto_region 10 with (first
          | (go_at_call 28; (with_reducible refine (netStep_any _ N a k _ (HF4.out.later HX.out) HNO.out).mono ?_); rintro e w7 ⟨he, hx7⟩; rw [HS.out] at he; subst he; have HX7 := Lib.hid (HX.out.trans hx7); have HO7 := Lib.hid (HO.out.later hx7); clear hx7))
        refine hideW (Φ := fun W => Code.wp _ _ _ _ W) (fun W => Ext w7 W) (by (repeat (first | with_reducible exact Ext.refl _ | with_reducible assumption | with_reducible refine Ext.alloc ?_ _ | with_reducible refine Ext.drew ?_ | with_reducible refine Ext.drewN ?_ _ | (with_reducible refine Ext.setCellP ?_ ?_; focus (first | (simp; done) | (simp; omega) | omega))))) (fun W8 hW8 => ?_)
        have HXA := Lib.hid (show Ext W4 (W8.alloc (.cells #[I (-1)] 3)) from (HX7.out.trans hW8).alloc _)
        have HOA := Lib.hid (show (W8.alloc (.cells #[I (-1)] 3)).ownsRow B 3 1 (.slice ua k ucap) k (icells ((vecV N a).take k)) from by have h := HO7.out.later (hW8.alloc (.cells #[I (-1)] 3)); unfold OwnI at h; rw [HLU.out] at h; exact h)
        have HSRC := Lib.hid (Reads.made W8 1 3 1 [I (-1)] rfl (by unfold maxLen; omega))
        have HSZ := Lib.hid (show B ≤ (W8.alloc (.cells #[I (-1)] 3)).heap.size from by have := HXA.out.size; rw [HB.out] at this; exact this)
        clear hW8 hbc
        go_wp2_with (first
          | (at_builtin
             go_loud (
               refine wpList_app rfl (.tmp 39) (.tmp 41) 27 rfl B 3 _ 1 8 Try.underlying27 infoInt rfl (by decide) (by decide) _ _ _ rfl HOA.out _ _ _ rfl HSRC.out (by intro q hq; simp at hq; subst hq; rfl) (by omega) HSZ.out ?_
               intro v7 w9 ho7 hg7
               have HXG := Lib.hid (Ext.grown HXA.out hg7 HOA.out (Nat.le_of_eq HB.out))
               have HO9 := Lib.hid (show OwnI w9 B v7 ((vecV N a).take (k + 1)) from by
                 unfold OwnI
                 rw [HRS.out, List.length_append, HLU.out, icells_app]
                 exact ho7)
               clear ho7 hg7)))
        go_roundw
        case rel => exact ⟨k + 1, _, Nat.succ_le_of_lt HLT.out, by go_num, rfl, HO9.out, HXG.out⟩
        case measure => have := HLT.out; simp [intOf]; omega
      case' some =>
        rw [hs] at HRS
        simp only [Option.getD_some] at HRS
        have HS := Lib.hid hs
        clear hs
        go_upto_region 10 with (first
          | (go_at_call 28; (with_reducible refine (netStep_any _ N a k _ (HF4.out.later HX.out) HNO.out).mono ?_); rintro e w7 ⟨he, hx7⟩; rw [HS.out] at he; subst he; have HX7 := Lib.hid (HX.out.trans hx7); have HO7 := Lib.hid (HO.out.later hx7); clear hx7))
        refine hideW (Φ := fun W => Code.wp _ _ _ _ W) (fun W => Ext w7 W) (by (repeat (first | with_reducible exact Ext.refl _ | with_reducible assumption | with_reducible refine Ext.alloc ?_ _ | with_reducible refine Ext.drew ?_ | with_reducible refine Ext.drewN ?_ _ | (with_reducible refine Ext.setCellP ?_ ?_; focus (first | (simp; done) | (simp; omega) | omega))))) (fun W8 hW8 => ?_)
        have HXA := Lib.hid (show Ext W4 (W8.alloc (.cells #[I x] 3)) from (HX7.out.trans hW8).alloc _)
        have HOA := Lib.hid (show (W8.alloc (.cells #[I x] 3)).ownsRow B 3 1 (.slice ua k ucap) k (icells ((vecV N a).take k)) from by have h := HO7.out.later (hW8.alloc (.cells #[I x] 3)); unfold OwnI at h; rw [HLU.out] at h; exact h)
        have HSRC := Lib.hid (Reads.made W8 1 3 1 [I x] rfl (by unfold maxLen; omega))
        have HSZ := Lib.hid (show B ≤ (W8.alloc (.cells #[I x] 3)).heap.size from by have := HXA.out.size; rw [HB.out] at this; exact this)
        clear hW8 hbc
        go_wp2_with (first
          | (at_builtin
             go_loud (
               refine wpList_app rfl (.tmp 39) (.tmp 41) 27 rfl B 3 _ 1 8 Try.underlying27 infoInt rfl (by decide) (by decide) _ _ _ rfl HOA.out _ _ _ rfl HSRC.out (by intro q hq; simp at hq; subst hq; rfl) (by omega) HSZ.out ?_
               intro v7 w9 ho7 hg7
               have HXG := Lib.hid (Ext.grown HXA.out hg7 HOA.out (Nat.le_of_eq HB.out))
               have HO9 := Lib.hid (show OwnI w9 B v7 ((vecV N a).take (k + 1)) from by
                 unfold OwnI
                 rw [HRS.out, List.length_append, HLU.out, icells_app]
                 exact ho7)
               clear ho7 hg7)))
        go_roundw
        case rel => exact ⟨k + 1, _, Nat.succ_le_of_lt HLT.out, by go_num, rfl, HO9.out, HXG.out⟩
        case measure => have := HLT.out; simp [intOf]; omega
    · obtain rfl : k = N.length := by omega
      have hkd : decide ((N.length : Int) < (N.length : Int)) = false := decide_eq_false (by omega)
      have ho := HO.out
      rw [show (vecV N a).take N.length = vecV N a from List.take_of_length_le (by rw [HVN.out]; exact Nat.le_refl _)] at ho
      have HV := Lib.hid ho
      have HVOK := Lib.hid (vec_ok HNM.out a)
      have HNV := Lib.hid (show (vecV N a).length ≤ 256 by rw [HVN.out]; omega)
      have HXT := Lib.hid (HX4.out.trans HX.out)
      have HR := Lib.hid (r15Ranks_any _ (vecV N a) wr HV.out.ints HVOK.out HNV.out)
      obtain ⟨l, hcl⟩ := cuts_exist N.flatten
      have HCU := Lib.hid hcl
      have HS7 := Lib.hid (Nat.le_trans HNS.out (by decide : 160 ≤ 10000000))
      have HPA := Lib.hid (show ∀ (p : Prt) (rk : List Int) (W : World), Ext wr W → IntsAt W p.rk rk → Calls Try.prog 23 #[.agg #[.slice va N.length vcap], .agg #[U p.fr, U p.up, p.rk]] W fun e w' => e = .returned (I (partV l N p rk)) ∧ Ext W w' from fun p rk W hW hr =>
        checkPart_any _ N p rk l W (HF4.out.later (HX.out.trans hW)) HNO.out HS7.out hcl hr)
      clear ho HO hcl
      by_cases hon : ∃ x, OnL (vecV N a) x
      · have HR2 := Lib.hid (HR.out.mono (R' := fun e w' => e = .returned (.tuple #[.slice none 0 0, I 17]) ∧ Ext wr w') (by
          rintro e w' (⟨u, rs, _, h2, _, _⟩ | ⟨rfl, _, hx⟩)
          · exact absurd hon (fun ⟨x, hx⟩ => h2.no HVOK.out x hx)
          · exact ⟨rfl, hx⟩))
        have HZ := Lib.hid (fun n => holds_zero HNM.out (l := l) hon n)
        clear hon
        go_upto_region 12 with (first
          | (go_at_call 29; (with_reducible refine HR2.out.mono ?_); rintro e w7 ⟨rfl, hx⟩; have HX7 := Lib.hid hx; clear hx))
        clear hbc
        refine hideW (Φ := fun W => Code.wp _ _ _ _ W) (fun W => Ext w7 W) (by (repeat (first | with_reducible exact Ext.refl _ | with_reducible assumption | with_reducible refine Ext.alloc ?_ _ | with_reducible refine Ext.drew ?_ | with_reducible refine Ext.drewN ?_ _ | (with_reducible refine Ext.setCellP ?_ ?_; focus (first | (simp; done) | (simp; omega) | omega))))) (fun W7 hW7 => ?_)
        have HX8 := Lib.hid (HX7.out.trans hW7)
        clear hW7
        go_upto_region 13 with fail
        refine hideW (Φ := fun W => Code.wp _ _ _ _ W) (fun W => Ext W7 W ∧ Blk W W7.heap.size [U a, U a, .slice none 0 0] 35)
          ⟨by (repeat (first | with_reducible exact Ext.refl _ | with_reducible assumption | with_reducible refine Ext.alloc ?_ _ | with_reducible refine Ext.drew ?_ | with_reducible refine Ext.drewN ?_ _ | (with_reducible refine Ext.setCellP ?_ ?_; focus (first | (simp; done) | (simp; omega) | omega)))), Blk.new W7 [U a, U a, .slice none 0 0] 35⟩ (fun W8 hW8 => ?_)
        obtain ⟨hx9, hb9⟩ := hW8
        have HB9 := Lib.hid hb9
        have HX9 := Lib.hid hx9
        clear hx9 hb9
        have hmk := fun w => run_make_row' (P := Try.prog) 27 3 (I 0) 8 Try.underlying27 infoInt rfl .i64 .i64 N.length (by omega) (by omega) w
        generalize hpb : W7.heap.size = pb at HB9 ⊢
        have HPB := Lib.hid hpb
        clear hpb
        have hpc := (HB9.out.old (.cells (madeCells #[I 0] N.length) 3)).cells
        have hpf := (HB9.out.old (.cells (madeCells #[I 0] N.length) 3)).frozen
        go_upto_region 15 with fail
        have eI : (madeCells #[I 0] N.length) = (List.replicate N.length (I 0)).toArray := by rw [← Array.toList_inj, toList_madeCells_one]
        rw [eI]
        refine hideW (Φ := fun W => Code.wp _ _ _ _ W) (fun W => Ext W7 W ∧ Blk W pb [U a, U a, .slice (some ⟨W8.heap.size, 0, none⟩) N.length N.length] 35 ∧ IntsAt W (.slice (some ⟨W8.heap.size, 0, none⟩) N.length N.length) (List.replicate N.length 0))
          ⟨(HX9.out.alloc _).setCell (Nat.le_of_eq HPB.out) _, ((HB9.out.old _).set 2 _), ?_⟩ (fun W10 hW10 => ?_)
        case refine_1 =>
          have h := own_made W8 1 3 N.length (List.replicate N.length (I 0)) (by simp) (by unfold maxLen; omega)
          have h2 := own_set h (p := ⟨pb, 2, none⟩) (by rw [← HPB.out]; exact Nat.lt_of_lt_of_le HB9.out.lt (Nat.le_refl _) |> fun g => by rw [HPB.out]; exact g) (.slice (some ⟨W8.heap.size, 0, none⟩) N.length N.length)
          have h3 := Reads.of_own h2
          unfold IntsAt
          rw [List.length_replicate]
          unfold icells
          rw [List.map_replicate]
          exact h3
        obtain ⟨hx10, hb10, hi10⟩ := hW10
        have HX10 := Lib.hid (HX8.out.trans hx10)
        have HB10 := Lib.hid hb10
        have HI10 := Lib.hid hi10
        clear hx10 hb10 hi10 hpc hpf hmk eI
        generalize W8.heap.size = rb at *
        have hpc := HB10.out.cells
        have hbc := (HB4.out.later (HX.out.trans HX10.out)).cells
        have hpv : partV l N ⟨a, a, some ⟨rb, 0, none⟩, N.length, N.length⟩ (List.replicate N.length 0) = 16 := by
          rw [partV_eq (by simp)]; exact HZ.out N.length
        have HCP := Lib.hid (HPA.out ⟨a, a, some ⟨rb, 0, none⟩, N.length, N.length⟩ (List.replicate N.length 0) W10 HX10.out HI10.out)
        rw [hpv] at HCP
        clear hpv
        go_wp2_with (first
          | (go_at_call 23; (with_reducible refine HCP.out.mono ?_); rintro e w11 ⟨rfl, hx⟩; have HX11 := Lib.hid hx; clear hx))
        go_ret
        exact ⟨rfl, HXT.out.trans (HX10.out.trans HX11.out)⟩
      · have HNO2 := Lib.hid (fun x hx => hon ⟨x, hx⟩ : ∀ x, ¬ OnL (vecV N a) x)
        have HR2 := Lib.hid (HR.out.mono (R' := fun e w' => ∃ (u : Value) (rs : List Int), e = .returned (.tuple #[u, I 0]) ∧ RanksIs (vecV N a) rs ∧ OwnI w' wr.heap.size u rs ∧ Ext wr w') (by
          rintro e w' (h | ⟨_, h, _⟩)
          · exact h
          · exact absurd h hon))
        clear hon
        go_upto_region 12 with (first
          | (go_at_call 29; (with_reducible refine HR2.out.mono ?_); rintro e w7 ⟨u, rs, rfl, hr, ho, hx⟩; have HX7 := Lib.hid hx; have HRS := Lib.hid hr; have HO7 := Lib.hid ho; clear hr ho hx))
        clear hbc
        have HRL := Lib.hid (show rs.length = N.length by rw [HRS.out.1, HVN.out])
        have hpo := own_put HO7.out (i := 0) (by rw [HRL.out]; omega)
        rw [HRL.out] at hpo
        obtain ⟨rg, rc, rfl, -, -, hrc1, hrc2, hrcell, -, -⟩ := hpo
        unfold maxLen at hrc2
        have HRC := Lib.hid (fun (k : Nat) (h : k < N.length) => hrcell k (I (rs.getD k 0)) (by unfold icells; rw [List.getElem?_map, List.getElem?_eq_getElem (by rw [HRL.out]; exact h), List.getD_eq_getElem?_getD, List.getElem?_eq_getElem (by rw [HRL.out]; exact h)]; rfl))
        clear hrcell
        go_upto_region 13 with fail
        refine hideW (Φ := fun W => Code.wp _ _ _ _ W) (fun W => Ext w7 W ∧ Blk W w7.heap.size [U a, U a, .slice (some ⟨rg, 0, none⟩) N.length rc] 35)
          ⟨by (repeat (first | with_reducible exact Ext.refl _ | with_reducible assumption | with_reducible refine Ext.alloc ?_ _ | with_reducible refine Ext.drew ?_ | with_reducible refine Ext.drewN ?_ _ | (with_reducible refine Ext.setCellP ?_ ?_; focus (first | (simp; done) | (simp; omega) | omega)))), Blk.new w7 [U a, U a, .slice (some ⟨rg, 0, none⟩) N.length rc] 35⟩ (fun W8 hW8 => ?_)
        obtain ⟨hx8, hb8⟩ := hW8
        have HX8 := Lib.hid (HX7.out.trans hx8)
        have HX78 := Lib.hid hx8
        have HB8 := Lib.hid hb8
        have HI8 := Lib.hid (HO7.out.ints.later hx8)
        clear hx8 hb8
        generalize w7.heap.size = pb at *
        have hpc := HB8.out.cells
        have hbc := (HB4.out.later (HX.out.trans HX8.out)).cells
        have hpv : partV l N ⟨a, a, some ⟨rg, 0, none⟩, N.length, rc⟩ rs = 0 := by
          rw [partV_eq HRL.out]; exact holds_ok HNM.out HRS.out
        have HCP := Lib.hid (HPA.out ⟨a, a, some ⟨rg, 0, none⟩, N.length, rc⟩ rs W8 HX8.out HI8.out)
        rw [hpv] at HCP
        clear hpv
        have hbk := (HB4.out.later (HX.out.trans HX8.out)).keep
        have hpk := HB8.out.keep
        have hxr := Ext.refl W8
        clear hbc hpc
        go_upto_region 18 with (first
          | (go_at_call 23; (with_reducible refine HCP.out.mono ?_); rintro e w11 ⟨rfl, hx⟩; have HX11 := Lib.hid hx; clear HCP)
          | (go_at_call 30; (with_reducible refine (coverPoints_any _ ⟨a, a, some ⟨rg, 0, none⟩, N.length, rc⟩ N _ (HF4.out.later (HX.out.trans (HX8.out.trans HX11.out))) HNO.out HS7.out).mono ?_); rintro e w12 ⟨v12, l12, he, -, hU, hx12⟩; subst he; obtain ⟨xa, xc, hxv, -, -, -⟩ := hU.form; rw [one_pt] at hxv; subst hxv; have HX12 := Lib.hid (HX8.out.trans (HX11.out.trans hx12)); have HZ12 := Lib.hid (HX11.out.trans hx12); clear hU hx12))
        clear hbk hpk hxr hx
        refine hideW (Φ := fun W => Code.wp _ _ _ _ W) (fun W => Ext w12 W) (by (repeat (first | with_reducible exact Ext.refl _ | with_reducible assumption | with_reducible refine Ext.alloc ?_ _ | with_reducible refine Ext.drew ?_ | with_reducible refine Ext.drewN ?_ _ | (with_reducible refine Ext.setCellP ?_ ?_; focus (first | (simp; done) | (simp; omega) | omega))))) (fun W13 hW13 => ?_)
        have HX13 := Lib.hid (HX12.out.trans hW13)
        have HZ13 := Lib.hid (HZ12.out.trans hW13)
        clear hW13
        have hT : z % N.length < N.length := Nat.mod_lt _ (by omega)
        have e2 : (z : Int) % (N.length : Int) = ((z % N.length : Nat) : Int) := by simp
        generalize z % N.length = T at hT e2
        have hTV : T < (vecV N a).length := by rw [HVN.out]; exact hT
        obtain ⟨_, _, hve, -, -, V3⟩ := HV.out.ints.form
        simp only [Value.slice.injEq] at hve
        obtain ⟨rfl, -, rfl⟩ := hve
        obtain ⟨vb, vo, hva, hvc⟩ := V3 T _ (List.getElem?_eq_getElem hTV)
        subst hva
        have hvc13 := HX13.out.cell hvc
        have HNX := Lib.hid (show nxv (vecV N a) T = (vecV N a)[T] from nxv_at hTV)
        have hvb := HVOK.out _ (List.getElem_mem hTV)
        have HVC := Lib.hid hvc
        rw [HVN.out] at hvb
        have hrT : T < rs.length := by rw [HRL.out]; exact hT
        clear V3 hvc
        generalize (vecV N a)[T] = y at *
        clear hTV
        go_upto_region 19 with fail
        rw [e2]
        by_cases hy : y < 0
        · have hyd : decide (y < 0) = true := decide_eq_true hy
          clear hvb
          go_wp2_with fail
          go_ret
          exact ⟨rfl, HXT.out.trans HX13.out⟩
        · have hyd : decide (y < 0) = false := decide_eq_false hy
          obtain ⟨j, rfl⟩ : ∃ j : Nat, y = j := ⟨y.toNat, by omega⟩
          have hj : j < N.length := by omega
          clear hvb hy
          obtain ⟨HO1, HO2⟩ := holds_odd HNM.out (l := l) HRS.out hT HNX.out
          replace HO1 := Lib.hid HO1
          replace HO2 := Lib.hid HO2
          have HPT := Lib.hid (HRC.out T hT)
          have HPJ := Lib.hid (HRC.out j hj)
          have HIT := Lib.hid (icell_get hrT)
          generalize rs.getD T 0 = rT at HPT HIT HO2
          generalize rs.getD j 0 = rj at HPJ HO2
          clear HRC
          go_upto_region 21 with fail
          refine hideW (Φ := fun W => Code.wp _ _ _ _ W) (fun W => Ext W13 W) (by (repeat (first | with_reducible exact Ext.refl _ | with_reducible assumption | with_reducible refine Ext.alloc ?_ _ | with_reducible refine Ext.drew ?_ | with_reducible refine Ext.drewN ?_ _ | (with_reducible refine Ext.setCellP ?_ ?_; focus (first | (simp; done) | (simp; omega) | omega))))) (fun W14 hW14 => ?_)
          have HX14 := Lib.hid (HX13.out.trans hW14)
          have HZ14 := Lib.hid (HZ13.out.trans hW14)
          clear hW14 hvc13 e2
          have HS0 := Lib.hid (show (W14.alloc (.cells #[] 3)).ownsRow W14.heap.size 3 1 (.slice (some ⟨W14.heap.size, 0, none⟩) 0 0) 0 [] from own_made W14 1 3 0 [] rfl (by unfold maxLen; omega))
          have HXA := Lib.hid ((Ext.refl W14).alloc (.cells #[] 3))
          have HZA := Lib.hid (show W14.heap.size ≤ (W14.alloc (.cells #[] 3)).heap.size by simp)
          have HRI := Lib.hid (show ∀ W, Ext W8 W → Reads W 1 (.slice (some ⟨rg, 0, none⟩) N.length rc) N.length (icells rs) from fun W hW => by have h := HI8.out.later hW; unfold IntsAt at h; rw [HRL.out] at h; exact h)
          go_upto_region 22 with (first
            | (at_builtin
               go_loud (
                 refine wpList_app rfl (.tmp 90) (.tmp 91) 27 rfl W14.heap.size 3 _ 1 8 Try.underlying27 infoInt rfl (by decide) (by decide) _ _ _ rfl HS0.out _ _ _ rfl (HRI.out _ (HZ14.out.trans HXA.out)) (icells_one rs) (by omega) HZA.out ?_
                 intro v15 w15 ho7 hg7
                 have HX15 := Lib.hid (Ext.grown HXA.out hg7 HS0.out (Nat.le_refl _))
                 have ho7' : w15.ownsRow W14.heap.size 3 1 v15 N.length (icells rs) := (by simpa using ho7)
                 have HO15 := Lib.hid ho7'
                 obtain ⟨g15, c15, rfl, hbg, hgl, hc1, hc2, hcell, hfro, hset⟩ := own_put ho7' hT
                 clear ho7 ho7' hg7)))
          have p0 := hcell T (I rT) HIT.out
          have HSET := Lib.hid (hset (I 0))
          have HBG := Lib.hid hbg
          unfold maxLen at hc2
          clear hcell hset hbg hgl
          go_upto_region 23 with fail
          have es : ∀ (q : List Int) (k : Nat) (x : Int), (icells q).set k (I x) = icells (q.set k x) := fun q k x => by unfold icells; rw [List.map_set]
          refine hideW (Φ := fun W => Code.wp _ _ _ _ W) (fun W => Ext W14 W ∧ W.ownsRow W14.heap.size 3 1 (.slice (some ⟨g15, 0, none⟩) N.length c15) N.length (icells (rs.set T 0)))
            ⟨HX15.out.setCell HBG.out _, by rw [← es]; exact HSET.out⟩ (fun W16 hW16 => ?_)
          obtain ⟨hx16, ho16⟩ := hW16
          have HX16 := Lib.hid hx16
          have HO16 := Lib.hid ho16
          clear hx16 ho16 p0 hfro HSET HBG HO15 HX15 HS0 HXA HZA
          have HS0 := Lib.hid (show (W16.alloc (.cells #[] 3)).ownsRow W16.heap.size 3 1 (.slice (some ⟨W16.heap.size, 0, none⟩) 0 0) 0 [] from own_made W16 1 3 0 [] rfl (by unfold maxLen; omega))
          have HXA := Lib.hid ((Ext.refl W16).alloc (.cells #[] 3))
          have HZA := Lib.hid (show W16.heap.size ≤ (W16.alloc (.cells #[] 3)).heap.size by simp)
          go_upto_region 24 with (first
            | (at_builtin
               go_loud (
                 refine wpList_app rfl (.tmp 96) (.tmp 97) 27 rfl W16.heap.size 3 _ 1 8 Try.underlying27 infoInt rfl (by decide) (by decide) _ _ _ rfl HS0.out _ _ _ rfl (HRI.out _ (HZ14.out.trans (HX16.out.trans HXA.out))) (icells_one rs) (by omega) HZA.out ?_
                 intro v15 w17 ho7 hg7
                 have HX17 := Lib.hid (Ext.grown HXA.out hg7 HS0.out (Nat.le_refl _))
                 have ho7' : w17.ownsRow W16.heap.size 3 1 v15 N.length (icells rs) := (by simpa using ho7)
                 obtain ⟨g17, c17, rfl, hbg, hgl, hd1, hd2, hcell, hfro, hset⟩ := own_put ho7' hT
                 clear ho7 ho7' hg7)))
          have p0 := hcell T (I rT) HIT.out
          have HSET := Lib.hid (hset (I (rj)))
          have HBG := Lib.hid hbg
          unfold maxLen at hd2
          clear hcell hset hbg hgl
          have HV17 := Lib.hid (HX14.out.trans (HX16.out.trans HX17.out))
          have HR17 := Lib.hid (HX78.out.trans (HZ14.out.trans (HX16.out.trans HX17.out)))
          have p1 := HV17.out.cell HVC.out
          have p2 := HR17.out.cell HPJ.out
          go_upto_region 25 with fail
          refine hideW (Φ := fun W => Code.wp _ _ _ _ W) (fun W => Ext W16 W ∧ W.ownsRow W16.heap.size 3 1 (.slice (some ⟨g17, 0, none⟩) N.length c17) N.length (icells (rs.set T (rj))))
            ⟨HX17.out.setCell HBG.out _, by rw [← es]; exact HSET.out⟩ (fun W18 hW18 => ?_)
          obtain ⟨hx18, ho18⟩ := hW18
          have HX18 := Lib.hid hx18
          have HO18 := Lib.hid ho18
          have HV18 := Lib.hid (HX14.out.trans (HX16.out.trans HX18.out))
          have HR18 := Lib.hid (HX78.out.trans (HZ14.out.trans (HX16.out.trans HX18.out)))
          clear hx18 ho18 p0 p1 p2 HSET HS0 HXA HZA hfro HBG
          have k1 := Ext.keep (HV18.out.cell HVC.out)
          have k2 := Ext.keep (HR18.out.cell HPT.out)
          refine wp_region_E 9 rfl (by kernel_rfl) (by kernel_rfl) ?_
          refine WEi_at 0 ?_
          iterate 9
            refine WEi_q rfl (by decide) (by kernel_rfl) rfl ?_; apply Exists.intro; refine ⟨fun w1 hx1 => ?_, ?_⟩
            · have hq1 := hx1.cells; go_simp; try go_bits
              first | with_reducible rfl
            simp only [Act.put, List.setIfInBounds_toArray, List.set_cons_zero, List.set_cons_succ, Nat.reduceAdd]
          refine WEi_out ?_
          refine WE_done (by kernel_rfl) (fun w19 hx19 => ?_)
          (try simp only [List.drop_succ_cons, List.drop_zero])
          clear k1 k2
          obtain ⟨g18, c18, hgc, hbg, hgl, -, -, hcell, hfro, hset⟩ := own_put (own_later HO18.out hx19) hj
          simp only [Value.slice.injEq, Option.some.injEq, Addr.mk.injEq, and_true, true_and] at hgc
          obtain ⟨rfl, rfl⟩ := hgc
          obtain ⟨qj, hqj⟩ : ∃ qj, (icells (rs.set T rj))[j]? = some qj := ⟨_, List.getElem?_eq_getElem (by rw [icells_len, List.length_set, HRL.out]; exact hj)⟩
          have p0 := hcell j qj hqj
          have HSET := Lib.hid (hset (I (rT)))
          have HBG := Lib.hid hbg
          have HX19 := Lib.hid (HX18.out.trans hx19)
          clear hcell hset hbg hgl hx19
          go_upto_region 26 with fail
          refine hideW (Φ := fun W => Code.wp _ _ _ _ W) (fun W => Ext W16 W ∧ W.ownsRow W16.heap.size 3 1 (.slice (some ⟨g17, 0, none⟩) N.length c17) N.length (icells ((rs.set T (rj)).set j (rT))))
            ⟨HX19.out.setCell HBG.out _, by rw [← es]; exact HSET.out⟩ (fun W20 hW20 => ?_)
          obtain ⟨hx20, ho20⟩ := hW20
          have HX20 := Lib.hid hx20
          have HO20 := Lib.hid ho20
          clear hx20 ho20 p0 hfro HSET HBG es
          have HXW := Lib.hid (HX14.out.trans (HX16.out.trans HX20.out))
          have HW1 := Lib.hid (show ∀ W, Ext W20 W → Calls Try.prog 23 #[.agg #[.slice va N.length vcap], .agg #[U a, U a, .slice (some ⟨g15, 0, none⟩) N.length c15]] W fun e w' => e = .returned (I 16) ∧ Ext W w' from fun W hW => by
            have h := HPA.out ⟨a, a, some ⟨g15, 0, none⟩, N.length, c15⟩ (rs.set T 0) W (HXW.out.trans hW) (by
              unfold IntsAt
              rw [List.length_set, HRL.out]
              exact Reads.of_own (own_later HO16.out (HX20.out.trans hW)))
            rw [partV_eq (by rw [List.length_set]; exact HRL.out), HO1.out] at h
            exact h)
          have HW2 := Lib.hid (show ∀ W, Ext W20 W → Calls Try.prog 23 #[.agg #[.slice va N.length vcap], .agg #[U a, U a, .slice (some ⟨g17, 0, none⟩) N.length c17]] W fun e w' => e = .returned (I 16) ∧ Ext W w' from fun W hW => by
            have h := HPA.out ⟨a, a, some ⟨g17, 0, none⟩, N.length, c17⟩ ((rs.set T (rj)).set j (rT)) W (HXW.out.trans hW) (by
              unfold IntsAt
              rw [List.length_set, List.length_set, HRL.out]
              exact Reads.of_own (own_later HO20.out hW))
            rw [partV_eq (by rw [List.length_set, List.length_set]; exact HRL.out), HO2.out] at h
            exact h)
          have hpc2 := ints_tail (HI8.out.later (HZ14.out.trans (HX16.out.trans HX20.out))) (by omega)
          have HL1 := Lib.hid (show (rs.drop 1).length = N.length - 1 by rw [List.length_drop, HRL.out])
          obtain ⟨xa2, xc2, hxv2, -, -, -⟩ := hpc2.form
          rw [HL1.out] at hxv2
          have HSL := Lib.hid hxv2
          rw [hxv2] at hpc2
          have HI20 := Lib.hid hpc2
          clear hpc2 hxv2
          have HW3 := Lib.hid (show ∀ W, Ext W20 W → Calls Try.prog 23 #[.agg #[.slice va N.length vcap], .agg #[U a, U a, .slice xa2 (N.length - 1) xc2]] W fun e w' => e = .returned (I 1) ∧ Ext W w' from fun W hW => by
            have h := HPA.out ⟨a, a, xa2, N.length - 1, xc2⟩ (rs.drop 1) W (HXW.out.trans hW) (HI20.out.later hW)
            rw [show partV l N ⟨a, a, xa2, N.length - 1, xc2⟩ (rs.drop 1) = 1 by unfold partV; rw [if_pos (by rw [HL1.out]; omega)]] at h
            exact h)
          have hbk := (HB4.out.later (HX.out.trans HXW.out)).keep
          refine wp_region_E 26 rfl (by kernel_rfl) (by kernel_rfl) ?_
          refine WEi_at 0 ?_
          iterate 5
            refine WEi_q rfl (by decide) (by kernel_rfl) rfl ?_; apply Exists.intro; refine ⟨fun w1 hx1 => ?_, ?_⟩
            · have hq1 := hx1.cells; go_simp; try go_bits
              first | with_reducible rfl
            simp only [Act.put, List.setIfInBounds_toArray, List.set_cons_zero, List.set_cons_succ, Nat.reduceAdd]
          refine WEi_out ?_
          refine WE_q 5 rfl (by decide) (by kernel_rfl) rfl ?_; apply Exists.intro; refine ⟨fun w1 hx1 => ?_, ?_⟩
          · have hq1 := hx1.cells; go_simp; try go_bits
            first | with_reducible rfl | ((refine (HW1.out _ hx1).mono ?_; rintro e w' ⟨rfl, hx⟩; exact ⟨rfl, hx⟩))
          simp only [Act.put, List.setIfInBounds_toArray, List.set_cons_zero, List.set_cons_succ]
          refine WEi_at 6 ?_
          iterate 7
            refine WEi_q rfl (by decide) (by kernel_rfl) rfl ?_; apply Exists.intro; refine ⟨fun w1 hx1 => ?_, ?_⟩
            · have hq1 := hx1.cells; go_simp; try go_bits
              first | with_reducible rfl
            simp only [Act.put, List.setIfInBounds_toArray, List.set_cons_zero, List.set_cons_succ, Nat.reduceAdd]
          refine WEi_out ?_
          refine WE_q 13 rfl (by decide) (by kernel_rfl) rfl ?_; apply Exists.intro; refine ⟨fun w1 hx1 => ?_, ?_⟩
          · have hq1 := hx1.cells; go_simp; try go_bits
            first | with_reducible rfl | ((refine (HW2.out _ hx1).mono ?_; rintro e w' ⟨rfl, hx⟩; exact ⟨rfl, hx⟩))
          simp only [Act.put, List.setIfInBounds_toArray, List.set_cons_zero, List.set_cons_succ]
          refine WEi_at 14 ?_
          iterate 7
            refine WEi_q rfl (by decide) (by kernel_rfl) rfl ?_; apply Exists.intro; refine ⟨fun w1 hx1 => ?_, ?_⟩
            · have hq1 := hx1.cells; go_simp; try go_bits
              first | with_reducible rfl
            simp only [Act.put, List.setIfInBounds_toArray, List.set_cons_zero, List.set_cons_succ, Nat.reduceAdd]
          refine WEi_out ?_
          refine WE_q 21 rfl (by decide) (by kernel_rfl) rfl ⟨.slice xa2 (N.length - 1) xc2, fun w1 hx1 => ?_, ?_⟩
          · rw [← HSL.out, HRL.out]
            exact quietE_of_run (run_slice_from rfl Try.underlying27 sizeInt rfl rfl (by omega))
          simp only [Act.put, List.setIfInBounds_toArray, List.set_cons_zero, List.set_cons_succ]
          refine WE_q 22 rfl (by decide) (by kernel_rfl) rfl ?_; apply Exists.intro; refine ⟨fun w1 hx1 => ?_, ?_⟩
          · have hq1 := hx1.cells; go_simp; try go_bits
            first | with_reducible rfl
          simp only [Act.put, List.setIfInBounds_toArray, List.set_cons_zero, List.set_cons_succ]
          refine WE_q 23 rfl (by decide) (by kernel_rfl) rfl ?_; apply Exists.intro; refine ⟨fun w1 hx1 => ?_, ?_⟩
          · have hq1 := hx1.cells; go_simp; try go_bits
            first | with_reducible rfl | ((refine (HW3.out _ hx1).mono ?_; rintro e w' ⟨rfl, hx⟩; exact ⟨rfl, hx⟩))
          simp only [Act.put, List.setIfInBounds_toArray, List.set_cons_zero, List.set_cons_succ]
          refine WEi_at 24 ?_
          iterate 2
            refine WEi_q rfl (by decide) (by kernel_rfl) rfl ?_; apply Exists.intro; refine ⟨fun w1 hx1 => ?_, ?_⟩
            · have hq1 := hx1.cells; go_simp; try go_bits
              first | with_reducible rfl
            simp only [Act.put, List.setIfInBounds_toArray, List.set_cons_zero, List.set_cons_succ, Nat.reduceAdd]
          refine WEi_out ?_
          refine WE_done (by kernel_rfl) (fun w21 hx21 => ?_)
          (try simp only [List.drop_succ_cons, List.drop_zero])
          have HX21 := Lib.hid (HXW.out.trans hx21)
          go_wp2_with fail
          go_ret
          exact ⟨rfl, HXT.out.trans HX21.out⟩
end Go.Proofs.Ytpfkfboohblgoaa
