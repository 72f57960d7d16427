/- The law CoverSplit: a part cut in two has the points of both. Conditions: whole numbers are within 64 bits. -/
import Derived.Test.YthcnihchfkmphaaShown19
import Derived.Test.YthcnihchfkmphaaInsideL
import Derived.Test.YthcnihchfkmphaaGNetP
namespace Go.Proofs.Ythcnihchfkmphaa
open Go.RowKit

set_option maxHeartbeats 4000000 in
set_option maxRecDepth 100000 in
theorem coverSplit_any (lv : Value) (ls : List (List Rul)) (x y z : BitVec 32) (w : World) (hl : TablesAt w lv ls) (hok : TablesOk ls) :
    Calls Try.prog 4 #[.agg #[lv], .agg #[U x, U y, U z]] w fun e w' => e = .returned (.bool true) ∧ Ext w w' := by
  have HL := Lib.hid hl
  have HOK := Lib.hid hok
  obtain ⟨ad, cap, hlv, a1, a2, a3⟩ := hl.form
  subst hlv
  clear a3 hl hok
  unfold maxLen at a2
  go_enter Try.func4, Try.ntmps4
  go_upto_region 1 with (fail)
  refine hideW (Φ := fun W => Code.wp _ _ _ _ W) (fun W => Ext w W ∧ Blk W w.heap.size [.slice ad ls.length cap] 24 ∧ Blk W (w.heap.size + 1) [U x, U y, U z] 38)
    ⟨by (repeat (first | with_reducible exact Ext.refl _ | with_reducible assumption | with_reducible refine Ext.alloc ?_ _ | with_reducible refine Ext.drew ?_ | with_reducible refine Ext.drewN ?_ _ | (with_reducible refine Ext.setCellP ?_ ?_; focus (first | (simp; done) | (simp; omega) | omega)))), (Blk.new w [.slice ad ls.length cap] 24).old _, Blk.newAt [U x, U y, U z] (by simp)⟩ (fun W1 hW1 => ?_)
  obtain ⟨hx1, hb1, hk1⟩ := hW1
  have HX1 := Lib.hid hx1
  have HB1 := Lib.hid hb1
  have HK1 := Lib.hid hk1
  clear hx1 hb1 hk1
  generalize w.heap.size = nb at *
  go_upto_region 2 with (first
    | (go_at_call 24; (with_reducible refine (shown19_any _).mono ?_); rintro e w2 ⟨rfl, hx2⟩; have HX2 := Lib.hid (HX1.out.trans hx2); have HB2 := Lib.hid (HB1.out.later hx2); have HK2 := Lib.hid (HK1.out.later hx2); clear hx2))
  have hbc2 := HB2.out.cells
  have HNS := Lib.hid (fitN_size ls)
  have HNO := Lib.hid (fitN_ok ls)
  have hN := fitN_bd ls
  go_upto_region 3 with (first
    | (go_at_call 20; (with_reducible refine (r09Fit_any _ ls _ (HL.out.later HX2.out) HOK.out).mono ?_); rintro e w3 ⟨v3, he, hF, hx3⟩; subst he; have HF3 := Lib.hid hF.tables; obtain ⟨va, vcap, hv3, q1, q2, q3⟩ := HF3.out.form; subst hv3; clear q3; have HX3 := Lib.hid (HX2.out.trans hx3); have HK3 := Lib.hid (HK2.out.later hx3); clear hF hx3))
  generalize fitN ls = N at *
  clear hbc2 HB2 HB1 HK2 HK1
  unfold maxLen at q2
  refine hideW (Φ := fun W => Code.wp _ _ _ _ W) (fun W => Ext w3 W ∧ Blk W w3.heap.size [.slice va N.length vcap] 24)
    ⟨by (repeat (first | with_reducible exact Ext.refl _ | with_reducible assumption | with_reducible refine Ext.alloc ?_ _ | with_reducible refine Ext.drew ?_ | with_reducible refine Ext.drewN ?_ _ | (with_reducible refine Ext.setCellP ?_ ?_; focus (first | (simp; done) | (simp; omega) | omega)))), Blk.new w3 [.slice va N.length vcap] 24⟩ (fun W4 hW4 => ?_)
  obtain ⟨hx4, hb4⟩ := hW4
  have HX4 := Lib.hid (HX3.out.trans hx4)
  have HF4 := Lib.hid (HF3.out.later hx4)
  have HB4 := Lib.hid hb4
  have hkc4 := (HK3.out.later hx4).cells
  clear hx4 hb4 HF3 HX3 HK3 HX1 HX2
  generalize w3.heap.size = fb at *
  obtain ⟨lo, hi, md, hlo, hhi, hmd, ho1, ho2⟩ := three_order x y z
  go_upto_region 6 with (fail)
  have HO1 := Lib.hid ho1
  have HO2 := Lib.hid ho2
  clear hlo hhi hmd hkc4 ho1 ho2
  have hbc4 := HB4.out.cells
  by_cases hml : md = lo
  · have hd : (md == lo) = true := by rw [beq_iff_eq]; exact hml
    clear hml
    go_wp2_with fail
    go_ret
    exact ⟨rfl, HX4.out⟩
  · have hd : (md == lo) = false := by rw [beq_eq_false_iff_ne]; exact hml
    have HLT := Lib.hid (show uv lo < uv md by have h1 := HO1.out; have h2 : uv md ≠ uv lo := fun e => hml (uv_inj e); omega)
    clear hml
    have HNS' := Lib.hid (Nat.le_trans HNS.out (by decide : 160 ≤ 10000000))
    go_upto_region 9 with (first
      | (go_at_call 25; (with_reducible refine (coverPoints_any _ ⟨lo, hi, none, 0, 0⟩ N _ HF4.out HNO.out HNS'.out).mono ?_); rintro e w5 ⟨v5, l, he, hC, hU, hx5⟩; subst he; have HC := Lib.hid hC; have HU5 := Lib.hid hU; have HX5 := Lib.hid hx5; have HF5 := Lib.hid (HF4.out.later hx5); have HB5 := Lib.hid (HB4.out.later hx5); clear hC hU hx5))
    have hbc5 := HB5.out.cells
    clear hbc4
    go_upto_region 10 with (first
      | (go_at_call 25; (with_reducible refine (coverPoints_any _ ⟨lo, md - 1#32, none, 0, 0⟩ N _ HF5.out HNO.out HNS'.out).mono ?_); rintro e w6 ⟨v6, l6, he, hC, hU, hx6⟩; subst he; obtain rfl := Cuts.at HC.out hC; have HU6 := Lib.hid hU; have HX6 := Lib.hid (HX5.out.trans hx6); have HF6 := Lib.hid (HF5.out.later hx6); have HB6 := Lib.hid (HB5.out.later hx6); have HU56 := Lib.hid (HU5.out.later hx6); clear hC hU hx6))
    have hbc6 := HB6.out.cells
    clear hbc5
    go_upto_region 11 with (first
      | (go_at_call 25; (with_reducible refine (coverPoints_any _ ⟨md, hi, none, 0, 0⟩ N _ HF6.out HNO.out HNS'.out).mono ?_); rintro e w7 ⟨v7, l7, he, hC, hU, hx7⟩; subst he; obtain rfl := Cuts.at HC.out hC; have HU7 := Lib.hid hU; have HX7 := Lib.hid (HX6.out.trans hx7); have HU57 := Lib.hid (HU56.out.later hx7); have HU67 := Lib.hid (HU6.out.later hx7); clear hC hU hx7))
    clear hbc6 HF5 HB5 HF6 HB6 HU5 HU6 HU56 HX5 HX6
    have HSP := Lib.hid (inside_split HC.out.rise HLT.out HO2.out)
    have HLA := Lib.hid (show (insideV l lo hi).length ≤ 100000 ∧ (insideV l lo (md - 1#32)).length ≤ 100000 ∧ (insideV l md hi).length ≤ 100000 by
      have h1 := HC.out.len
      have h2 := HNS.out
      rw [sizeN_flat] at h1
      have h3 := insideV_len l lo hi
      have h4 := insideV_len l lo (md - 1#32)
      have h5 := insideV_len l md hi
      omega)
    have HMD := Lib.hid (show (insideV l md hi)[0]? = some md from rfl)
    have hCp : 1 ≤ (insideV l md hi).length := by unfold insideV; rw [List.length_cons]; omega
    generalize hA : insideV l lo hi = A at *
    generalize hB : insideV l lo (md - 1#32) = B at *
    generalize hCC : insideV l md hi = C at *
    clear hA hB hCC
    obtain ⟨ca, ccap, hcv, c1, c2, c3⟩ := HU7.out.form
    have hcv' : v7 = .slice ca C.length ccap := hcv
    subst hcv'
    obtain ⟨cb, co, hca, pz⟩ := c3 0 _ HMD.out
    subst hca
    rw [Nat.add_zero] at pz
    obtain ⟨ba, bcap, hbv, b1, b2, b3⟩ := HU67.out.form
    have hbv' : v6 = .slice ba B.length bcap := hbv
    subst hbv'
    clear c3 b3 hcv hbv
    unfold maxLen at c2 b2
    have hmm : (md != md) = false := by simp
    have hl0 : ((C.length : Int) == 0) = false := beq_false_of_ne (by omega)
    have hl1 : (C.length == 0) = false := beq_false_of_ne (by omega)
    go_upto_region 13 with (fail)
    have HAX := Lib.hid (show Ext w7 (w7.alloc (.cells #[] 29)) from (Ext.refl _).alloc _)
    have HOA := Lib.hid (show (w7.alloc (.cells #[] 29)).ownsRow w7.heap.size 29 1 (.slice (some ⟨w7.heap.size, 0, none⟩) 0 0) 0 [] from own_made w7 1 29 0 [] rfl (by unfold maxLen; omega))
    have HRB := Lib.hid (HU67.out.later HAX.out)
    have hla := HLA.out
    go_upto_region 14 with (first
      | (at_builtin; refine wpList_app rfl (.tmp 76) (.tmp 77) 27 rfl w7.heap.size 29 _ 1 4 Try.underlying27 infoU32 rfl (by decide) (by decide) _ _ _ rfl HOA.out _ _ _ rfl HRB.out (ucells_one _) (by omega) HAX.out.size ?_; intro v8 w8 ho8 hg8
         have HO8 := Lib.hid ho8
         have HX8 := Lib.hid (Ext.grown HAX.out hg8 HOA.out (Nat.le_refl _))
         have HRC8 := Lib.hid (HU7.out.later HX8.out)
         clear ho8 hg8)
      | (at_builtin; refine wpList_app rfl (.tmp 78) (.tmp 79) 27 rfl w7.heap.size 29 _ 1 4 Try.underlying27 infoU32 rfl (by decide) (by decide) _ _ _ rfl HO8.out _ _ _ rfl HRC8.out (ucells_one _) (by omega) HX8.out.size ?_; intro v9 w9 ho9 hg9
         have HX9 := Lib.hid (Ext.grown HX8.out hg9 HO8.out (Nat.le_refl _))
         have HU9 := Lib.hid (show UsAt w9 v9 (B ++ C) from by
           have := Reads.of_own ho9
           unfold UsAt
           rw [List.length_append, ucells_app]
           simpa using this)
         clear ho9 hg9))
    clear HOA HRB HO8 HRC8 HAX
    have HTC := Lib.hid (show UsAt w9 (slv 1 (.slice (some ⟨cb, co, none⟩) C.length ccap) 1 C.length) C.tail from by
      have := (HU7.out.later HX9.out).piece hCp (Nat.le_refl _)
      rwa [List.take_of_length_le (Nat.le_refl _), List.drop_one] at this)
    have HTL := Lib.hid (show C.tail.length ≤ 100000 by rw [List.length_tail]; omega)
    have htl := HTL.out
    go_wp2_with fail
    refine wp_region_R (RB (w9.heap.size)) 5 rfl (by kernel_rfl) (by kernel_rfl) (fun w0 hx0 => ?_)
    refine WR_q (preRB _) 1 rfl (by decide) (by kernel_rfl) rfl ?_; apply Exists.intro; refine ⟨fun w1 hx1 => ?_, ?_⟩
    · go_simp; try go_bits
      first | with_reducible rfl | rfl
    simp only [Act.put, List.setIfInBounds_toArray, List.set_cons_zero, List.set_cons_succ]
    refine WR_q (preRB _) 3 rfl (by decide) (by kernel_rfl) rfl ?_; apply Exists.intro; refine ⟨fun w1 hx1 => ?_, ?_⟩
    · go_simp; try go_bits
      first | with_reducible rfl | rfl
    simp only [Act.put, List.setIfInBounds_toArray, List.set_cons_zero, List.set_cons_succ]
    refine WR_q (preRB _) 4 rfl (by decide) (by kernel_rfl) rfl ⟨_, fun w1 hx1 => run_slice_from rfl Try.underlying27 sizeU32 rfl rfl hCp, ?_⟩
    simp only [Act.put, List.setIfInBounds_toArray, List.set_cons_zero, List.set_cons_succ]
    refine WR_one 0 rfl (by decide) (by kernel_rfl) rfl (fun K hK => ?_)
    go_simp
    refine hK _ _ (RB.ext ((Ext.refl _).alloc _)) ?_
    clear hK K
    have HAX9 := Lib.hid (show Ext w9 (w0.alloc (.cells #[] 29)) from hx0.alloc _)
    have HOA9 := Lib.hid (show (w0.alloc (.cells #[] 29)).ownsRow w9.heap.size 29 1 (.slice (some ⟨w0.heap.size, 0, none⟩) 0 0) 0 [] from own_low (own_made w0 1 29 0 [] rfl (by unfold maxLen; omega)) hx0.size)
    have HRB9 := Lib.hid (HU67.out.later (HX9.out.trans HAX9.out))
    refine WR_one 2 rfl (by decide) (by kernel_rfl) rfl (fun K hK => ?_)
    refine wp_of_list (ops := #[]) rfl ?_
    refine wpList_app rfl (.tmp 81) (.tmp 82) 27 rfl w9.heap.size 29 _ 1 4 Try.underlying27 infoU32 rfl (by decide) (by decide) _ _ _ rfl HOA9.out _ _ _ rfl HRB9.out (ucells_one _) (by omega) HAX9.out.size ?_
    intro v10 w10 ho10 hg10
    have HO10 := Lib.hid ho10
    have HX10 := Lib.hid (Ext.grown HAX9.out hg10 HOA9.out (Nat.le_refl _))
    have HTC10 := Lib.hid (HTC.out.later HX10.out)
    refine ⟨rfl, hK _ _ (RB.below HAX9.out.size (Below.grown (Below.refl _ _) hg10 HAX9.out.size fun q hq => (HOA9.out.lt q hq).1)) ?_⟩
    clear hK K ho10 hg10
    simp only [Act.put, List.setIfInBounds_toArray, List.set_cons_zero, List.set_cons_succ]
    refine WR_done (by kernel_rfl) ?_
    (try simp only [List.drop_succ_cons, List.drop_zero])
    go_upto_region 15 with (first
      | (at_builtin; refine wpList_app rfl (.tmp 83) (.tmp 85) 27 rfl w9.heap.size 29 _ 1 4 Try.underlying27 infoU32 rfl (by decide) (by decide) _ _ _ rfl HO10.out _ _ _ rfl HTC10.out (ucells_one _) (by omega) HX10.out.size ?_; intro v11 w11 ho11 hg11
         have HX11 := Lib.hid (Ext.grown HX10.out hg11 HO10.out (Nat.le_refl _))
         have HU11 := Lib.hid (show UsAt w11 v11 (B ++ C.tail) from by
           have := Reads.of_own ho11
           unfold UsAt
           rw [List.length_append, ucells_app]
           simpa using this)
         clear ho11 hg11))
    have HX12 := Lib.hid (HX9.out.trans HX11.out)
    have HUA := Lib.hid (HU57.out.later HX12.out)
    have HUJ := Lib.hid (HU9.out.later HX11.out)
    have HXX := Lib.hid (HX4.out.trans (HX7.out.trans HX12.out))
    obtain ⟨s1, s2⟩ := HSP.out
    by_cases hin : md ∈ l
    · have HD := Lib.hid (decide_eq_true (s1 hin))
      clear s1 s2 hin HOA9 HRB9 HTC HTL htl hCp hl0 hl1 HSP
      go_wp2_with (first
        | (go_at_call 26; (with_reducible refine (r12Same_any _ _ A (B ++ C) _ HUA.out HUJ.out).mono ?_); rintro e w13 ⟨he, hx13⟩; rw [HD.out] at he; subst he; have HX13 := Lib.hid hx13; clear hx13))
      go_ret
      exact ⟨rfl, HXX.out.trans HX13.out⟩
    · have HD2 := Lib.hid (decide_eq_true (s2 hin))
      have HD := Lib.hid (show decide (A = B ++ C) = false from decide_eq_false fun e => by
        have h1 := s2 hin
        rw [e] at h1
        have h2 := congrArg List.length h1
        rw [List.length_append, List.length_append, List.length_tail] at h2
        omega)
      clear s1 s2 hin HOA9 HRB9 HTC HTL htl hCp hl0 hl1 HSP
      go_wp2_with (first
        | (go_at_call 26; (with_reducible refine (r12Same_any _ _ A (B ++ C) _ HUA.out HUJ.out).mono ?_); rintro e w13 ⟨he, hx13⟩; rw [HD.out] at he; subst he; have HX13 := Lib.hid hx13; clear hx13)
        | (go_at_call 26; (with_reducible refine (r12Same_any _ _ A (B ++ C.tail) _ (HUA.out.later HX13.out) (HU11.out.later HX13.out)).mono ?_); rintro e w14 ⟨he, hx14⟩; rw [HD2.out] at he; subst he; have HX14 := Lib.hid hx14; clear hx14))
      go_ret
      exact ⟨rfl, HXX.out.trans (HX13.out.trans HX14.out)⟩
end Go.Proofs.Ythcnihchfkmphaa
