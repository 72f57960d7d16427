/- r12.put, r12.Of: the row that they return is new memory. Conditions: whole numbers are within 64 bits. -/
import Derived.Test.YtdpmnldmbnpfpaaGreatDoorGIns
namespace Go.Proofs.YtdpmnldmbnpfpaaGreatDoor
open Go.RowKit

set_option maxHeartbeats 2000000 in
set_option maxRecDepth 100000 in
theorem r12PutO_any (lv : Value) (l : List (BitVec 32)) (a : BitVec 32) (w : World) (B : Nat) (hl : OwnU w B lv l) (hB : B <= w.heap.size) (hlen : l.length <= 100000000) :
 Calls Tryz.prog 54 #[lv, U a] w fun e w' => ∃ v, e = .returned v /\ OwnU w' B v (putC l a) /\ Ext w w' := by
 have HO := Lib.hid hl
 have HB := Lib.hid hB
 have HL := Lib.hid hl.us
 obtain ⟨ad, cap, rfl, a1, a2, a3⟩ := hl.us.form
 have A3 := Lib.hid a3
 clear a3 hl hB
 unfold maxLen at a2
 have hle := putK_le l a
 go_enter Tryz.func54, Tryz.ntmps54
 go_wp2_with fail
 go_loopw [5] (fun i wr => ∃ k : Nat, k <= putK l a /\ i = I k /\ wr = w) (fun i _ => l.length - (intOf i).toNat)
 case atStart => exact ⟨0, by omega, rfl, rfl⟩
 case round =>
  obtain ⟨k, hk, rfl, rfl⟩ := hrel
  rcases Nat.lt_or_ge k (putK l a) with hkk | hkk
  · have hlt : k < l.length := by omega
    obtain ⟨b0, o0, rfl, p0⟩ := A3.out k l[k] (List.getElem?_eq_getElem hlt)
    have hd : decide (uv l[k] < uv a) = true := decide_eq_true (putK_lt hkk hlt)
    go_wp2_with fail
    go_roundw
    case rel => exact ⟨k + 1, by omega, by go_num, by trivial⟩
    case measure => simp [intOf]; omega
  · have hke : k = putK l a := by omega
    subst hke
    by_cases he : l[putK l a]? = some a
    · obtain ⟨hlt, he2⟩ := List.getElem?_eq_some_iff.1 he
      obtain ⟨b0, o0, rfl, p0⟩ := A3.out (putK l a) a he
      have HP := Lib.hid (show putC l a = l by unfold putC; rw [if_pos he])
      have hd : decide (uv a < uv a) = false := decide_eq_false (by omega)
      generalize putK l a = k at *
      go_wp2_with fail
      go_ret
      exact ⟨_, rfl, by rw [HP.out]; exact HO.out, Ext.refl _⟩
    · have HP := Lib.hid (show putC l a = l.take (putK l a) ++ a :: l.drop (putK l a) by unfold putC; rw [if_neg he])
      have hst : (∃ (x : BitVec 32), putK l a < l.length /\ l[putK l a]? = some x /\ ¬ uv x < uv a /\ x ≠ a) \/ ¬ putK l a < l.length := by
       rcases Nat.lt_or_ge (putK l a) l.length with h | h
       · exact .inl ⟨_, h, List.getElem?_eq_getElem h, putK_end h, fun e => he (by rw [List.getElem?_eq_getElem h, e])⟩
       · exact .inr (by omega)
      have HPC := Lib.hid (putK_le l a)
      clear he
      generalize putK l a = k at *
      have hxw : Ext wr wr := Ext.refl _
      rcases hst with ⟨x, hlt, hx, hn, hne⟩ | hlt
      · obtain ⟨b0, o0, rfl, p0⟩ := A3.out k x hx
        have hd : decide (uv x < uv a) = false := decide_eq_false hn
        have hd2 : (x == a) = false := by rw [beq_eq_false_iff_ne]; exact hne
        clear hx hn hne
        have ho5 := own_made wr 1 23 1 [U a] rfl (by unfold maxLen; omega)
        have hr5 : UsAt (wr.alloc (.cells #[U a] 23)) (slv 1 (.slice (some ⟨b0, o0, none⟩) l.length cap) k l.length) (l.drop k) := by
         have := (HL.out.piece HPC.out (Nat.le_refl _)).later ((Ext.refl wr).alloc (.cells #[U a] 23))
         rwa [List.take_of_length_le (Nat.le_refl _)] at this
        have hld : (l.drop k).length = l.length - k := List.length_drop
        have hz5 : wr.heap.size <= (wr.alloc (.cells #[U a] 23)).heap.size := ((Ext.refl wr).alloc _).size
        go_upto_region 7 with (first
         | (refine wpList_of_run rfl (run_slice_from (o := ⟨some 38, _, _, _, _, _⟩) rfl Tryz.underlying50 sizeU32 rfl rfl HPC.out) ?_)
         | (at_builtin; refine wpList_app rfl (.tmp 35) (.tmp 38) 50 rfl wr.heap.size 23 _ 1 4 Tryz.underlying50 infoU32 rfl (by decide) (by decide) _ _ _ rfl ho5 _ _ _ rfl hr5 (ucells_one _) (by rw [hld]; have := HPC.out; omega) hz5 ?_; intro v6 w6 ho6 hg6))
        have hx6 : Ext wr w6 := Ext.grown ((Ext.refl wr).alloc _) hg6 ho5 (Nat.le_refl _)
        have hr6 : UsAt w6 v6 (a :: l.drop k) := by
         have := Reads.of_own ho6
         rwa [show [U a] ++ ucells (l.drop k) = ucells (a :: l.drop k) from rfl, Nat.add_comm] at this
        have hv6 := HL.out.later hx6
        have hq6 : UsAt (w6.alloc (.cells #[] 23)) (slv 1 (.slice (some ⟨b0, o0, none⟩) l.length cap) 0 k) (l.take k) := (hv6.piece (Nat.zero_le _) HPC.out).later ((Ext.refl _).alloc _)
        have ho7 := own_made w6 1 23 0 [] rfl (by unfold maxLen; omega)
        have hlt6 : k <= cap := by omega
        have HL6 := Lib.hid (show (l.take k).length = k by rw [List.length_take]; omega)
        clear ho5 hr5 hz5 ho6 hg6 hv6
        go_wp2_with (first
         | (refine wpList_of_run rfl (run_slice_to (o := ⟨some 43, _, _, _, _, _⟩) rfl Tryz.underlying50 sizeU32 rfl rfl hlt6) ?_)
         | (at_builtin; refine wpList_app rfl (.tmp 40) (.tmp 43) 50 rfl w6.heap.size 23 _ 1 4 Tryz.underlying50 infoU32 rfl (by decide) (by decide) _ _ _ rfl ho7 _ _ _ rfl hq6 (ucells_one _) (by rw [HL6.out]; omega) ((Ext.refl w6).alloc _).size ?_; intro v7 w7 ho8 hg7
            have hx7 : Ext w6 w7 := Ext.grown ((Ext.refl w6).alloc _) hg7 ho7 (Nat.le_refl _)
            have hr7 := hr6.later hx7)
         | (at_builtin; refine wpList_app rfl (.tmp 44) (.tmp 45) 50 rfl w6.heap.size 23 _ 1 4 Tryz.underlying50 infoU32 rfl (by decide) (by decide) _ _ _ rfl ho8 _ _ _ rfl hr7 (ucells_one _) (by rw [HL6.out, List.length_cons, hld]; omega) hx7.size ?_; intro v8 w8 ho9 hg8))
        go_ret
        have hx8 : Ext w6 w8 := Ext.grown hx7 hg8 ho8 (Nat.le_refl _)
        refine ⟨v8, rfl, ?_, hx6.trans hx8⟩
        have := own_low ho9 (Nat.le_trans HB.out hx6.size)
        unfold OwnU
        rw [HP.out, List.length_append, ucells_app]
        simpa using this
      · have ho5 := own_made wr 1 23 1 [U a] rfl (by unfold maxLen; omega)
        have hr5 : UsAt (wr.alloc (.cells #[U a] 23)) (slv 1 (.slice ad l.length cap) k l.length) (l.drop k) := by
         have := (HL.out.piece HPC.out (Nat.le_refl _)).later ((Ext.refl wr).alloc (.cells #[U a] 23))
         rwa [List.take_of_length_le (Nat.le_refl _)] at this
        have hld : (l.drop k).length = l.length - k := List.length_drop
        have hz5 : wr.heap.size <= (wr.alloc (.cells #[U a] 23)).heap.size := ((Ext.refl wr).alloc _).size
        go_upto_region 7 with (first
         | (refine wpList_of_run rfl (run_slice_from (o := ⟨some 38, _, _, _, _, _⟩) rfl Tryz.underlying50 sizeU32 rfl rfl HPC.out) ?_)
         | (at_builtin; refine wpList_app rfl (.tmp 35) (.tmp 38) 50 rfl wr.heap.size 23 _ 1 4 Tryz.underlying50 infoU32 rfl (by decide) (by decide) _ _ _ rfl ho5 _ _ _ rfl hr5 (ucells_one _) (by rw [hld]; have := HPC.out; omega) hz5 ?_; intro v6 w6 ho6 hg6))
        have hx6 : Ext wr w6 := Ext.grown ((Ext.refl wr).alloc _) hg6 ho5 (Nat.le_refl _)
        have hr6 : UsAt w6 v6 (a :: l.drop k) := by
         have := Reads.of_own ho6
         rwa [show [U a] ++ ucells (l.drop k) = ucells (a :: l.drop k) from rfl, Nat.add_comm] at this
        have hv6 := HL.out.later hx6
        have hq6 : UsAt (w6.alloc (.cells #[] 23)) (slv 1 (.slice ad l.length cap) 0 k) (l.take k) := (hv6.piece (Nat.zero_le _) HPC.out).later ((Ext.refl _).alloc _)
        have ho7 := own_made w6 1 23 0 [] rfl (by unfold maxLen; omega)
        have hlt6 : k <= cap := by omega
        have HL6 := Lib.hid (show (l.take k).length = k by rw [List.length_take]; omega)
        clear ho5 hr5 hz5 ho6 hg6 hv6
        go_wp2_with (first
         | (refine wpList_of_run rfl (run_slice_to (o := ⟨some 43, _, _, _, _, _⟩) rfl Tryz.underlying50 sizeU32 rfl rfl hlt6) ?_)
         | (at_builtin; refine wpList_app rfl (.tmp 40) (.tmp 43) 50 rfl w6.heap.size 23 _ 1 4 Tryz.underlying50 infoU32 rfl (by decide) (by decide) _ _ _ rfl ho7 _ _ _ rfl hq6 (ucells_one _) (by rw [HL6.out]; omega) ((Ext.refl w6).alloc _).size ?_; intro v7 w7 ho8 hg7
            have hx7 : Ext w6 w7 := Ext.grown ((Ext.refl w6).alloc _) hg7 ho7 (Nat.le_refl _)
            have hr7 := hr6.later hx7)
         | (at_builtin; refine wpList_app rfl (.tmp 44) (.tmp 45) 50 rfl w6.heap.size 23 _ 1 4 Tryz.underlying50 infoU32 rfl (by decide) (by decide) _ _ _ rfl ho8 _ _ _ rfl hr7 (ucells_one _) (by rw [HL6.out, List.length_cons, hld]; omega) hx7.size ?_; intro v8 w8 ho9 hg8))
        go_ret
        have hx8 : Ext w6 w8 := Ext.grown hx7 hg8 ho8 (Nat.le_refl _)
        refine ⟨v8, rfl, ?_, hx6.trans hx8⟩
        have := own_low ho9 (Nat.le_trans HB.out hx6.size)
        unfold OwnU
        rw [HP.out, List.length_append, ucells_app]
        simpa using this
set_option maxHeartbeats 4000000 in
set_option maxRecDepth 100000 in
theorem r12OfO_any (lv : Value) (ls : List (List Rul)) (w : World) (hl : TablesAt w lv ls) (hok : TablesOk ls) (hs : sizeN ls <= 10000000) :
 Calls Tryz.prog 23 #[.agg #[lv]] w fun e w' => ∃ v l, e = .returned v /\ OwnU w' w.heap.size v l /\ Cuts ls.flatten l /\ Ext w w' := by
 have HLT := Lib.hid (show (cutI ls.flatten).length <= 20000001 by have := cutI_len ls.flatten; rw [sizeN_flat] at this; omega)
 have HOK := Lib.hid hok
 obtain ⟨ad, cap, rfl, a1, a2, a3⟩ := hl.form
 have A3 := Lib.hid a3
 clear a3 hok hl
 unfold maxLen at a2
 have HU0 := Lib.hid (show OwnU ((w.alloc (.cells #[.slice ad ls.length cap] 39)).alloc (.cells #[.int .u32 0] 23)) w.heap.size (.slice (some ⟨w.heap.size + 1, 0, none⟩) 1 1) [0#32] from by
  have h := own_low (own_made (w.alloc (.cells #[.slice ad ls.length cap] 39)) 1 23 1 [U 0#32] rfl (by unfold maxLen; omega)) (show w.heap.size <= _ by simp)
  have e : (w.alloc (.cells #[.slice ad ls.length cap] 39)).heap.size = w.heap.size + 1 := by simp
  rw [e] at h
  exact h)
 go_enter Tryz.func23, Tryz.ntmps23
 go_upto_region 2 with (fail)
 refine hideW (Φ := fun W => Code.wp _ _ _ _ W) (fun W => Ext w W /\ Blk W w.heap.size [.slice ad ls.length cap] 39 /\ OwnU W w.heap.size (.slice (some ⟨w.heap.size + 1, 0, none⟩) 1 1) [0#32])
  ⟨by (repeat with_reducible first | exact Ext.refl _ | assumption | refine Ext.alloc ?_ _ | refine Ext.drew ?_ | refine Ext.drewN ?_ _ | (refine Ext.setCellP ?_ ?_; focus (first | (simp; done) | (simp; omega) | omega))), (Blk.new w [.slice ad ls.length cap] 39).old _, HU0.out⟩ (fun W1 hW1 => ?_)
 obtain ⟨hx1, hb1, hu1⟩ := hW1
 have HX1 := Lib.hid hx1
 have HB1 := Lib.hid hb1
 have HU1 := Lib.hid hu1
 clear hx1 hb1 hu1 HU0
 generalize hnb : w.heap.size = nb at *
 have HNB := Lib.hid hnb
 clear hnb
 go_wp2_with fail
 go_loopw [3, 4] (fun v i wr => ∃ (k : Nat) (l : List (BitVec 32)), k <= ls.length /\ i = I k /\ Hid (OwnU wr nb v l) /\ Hid (CutsS (cutI (ls.take k).flatten) l) /\ Hid (Ext W1 wr)) (fun _ i _ => ls.length - (intOf i).toNat)
 case atStart => exact ⟨0, [0#32], by omega, rfl, HU1.out, CutsS.start, Ext.refl _⟩
 case round =>
  obtain ⟨k, l, hk, rfl, HU, HC, HX⟩ := hrel
  have hbc := (HB1.out.later HX.out).cells
  by_cases hlt : k < ls.length
  · obtain ⟨b0, o0, u, rfl, p0, hru⟩ := A3.out k ls[k] (List.getElem?_eq_getElem hlt)
    obtain ⟨ra, rcap, rfl, r1, r2, r3⟩ := hru.form
    have R3 := Lib.hid r3
    have HP := Lib.hid p0
    have HO1 := Lib.hid (HOK.out.at hlt)
    clear r3 hru p0
    unfold maxLen at r2
    obtain ⟨wo, rfl⟩ : ∃ wo : World, wo = wr := ⟨_, rfl⟩
    go_wp2_with fail
    go_loopw [3, 5] (fun v i wq => ∃ (j : Nat) (l : List (BitVec 32)), j <= ls[k].length /\ i = I j /\ Hid (OwnU wq nb v l) /\ Hid (CutsS (cutI ((ls.take k).flatten ++ ls[k].take j)) l) /\ Hid (Ext W1 wq)) (fun _ i _ => ls[k].length - (intOf i).toNat)
    case atStart => exact ⟨0, l, by omega, rfl, HU.out, Lib.hid (by simpa using HC.out), HX.out⟩
    case round =>
     obtain ⟨j, z, hj, rfl, HUj, HCj, HXj⟩ := hrel
     have hbcj := (HB1.out.later HXj.out).cells
     have hp0 := (HX1.out.trans HXj.out).cell HP.out
     by_cases hjl : j < ls[k].length
     · have HLEN := Lib.hid (cutI_part hlt hjl)
       have HZL := Lib.hid HCj.out.len
       obtain ⟨b1, o1, rfl, q0, q1, q2, q3⟩ := R3.out j ls[k][j] (List.getElem?_eq_getElem hjl)
       have kb := (HB1.out.later HXj.out).keep
       replace hp0 := Ext.keep hp0
       replace q0 := Ext.keep ((HX1.out.trans HXj.out).cell q0)
       replace q1 := Ext.keep ((HX1.out.trans HXj.out).cell q1)
       clear q2 q3 hbcj hbc
       have HOK1 := Lib.hid (HO1.out ls[k][j] (List.getElem_mem hjl)).pl
       have HST := Lib.hid (show cutI ((ls.take k).flatten ++ ls[k].take (j + 1)) = cutI ((ls.take k).flatten ++ ls[k].take j) ++ rcut ls[k][j] by rw [List.take_succ_eq_append_getElem hjl, <- List.append_assoc, cutI_app])
       have HRC := Lib.hid (show rcut ls[k][j] = uv (lowV ls[k][j].pa ls[k][j].pl) :: (if uv (highV ls[k][j].pa ls[k][j].pl) = 4294967295 then [] else [uv (highV ls[k][j].pa ls[k][j].pl) + 1]) from rfl)
       have HEC := Lib.hid (show ∀ W, Calls Tryz.prog 53 #[U ls[k][j].pa, I ls[k][j].pl] W fun e w' => e = .returned (.tuple #[U (lowV ls[k][j].pa ls[k][j].pl), U (highV ls[k][j].pa ls[k][j].pl)]) /\ W = w' from fun W => r06Ends_any _ _ _ HOK1.out)
       go_wp2_with fail
       refine wp_region_E 23 rfl (by kernel_rfl) (by kernel_rfl) ?_
       refine WEi_at 0 ?_
       iterate 23
        refine WEi_q rfl (by decide) (by kernel_rfl) rfl ?_; apply Exists.intro; refine ⟨fun w1 hx1 => ?_, ?_⟩
        · have hq1 := hx1.cells; go_simp; try go_bits
          first | with_reducible rfl | (refine (HEC.out _).mono ?_; rintro e w' ⟨rfl, rfl⟩; exact ⟨rfl, Ext.refl _⟩)
        simp only [Act.put, List.setIfInBounds_toArray, List.set_cons_zero, List.set_cons_succ, Nat.reduceAdd]
       refine WEi_out ?_
       refine WE_done (by kernel_rfl) (fun w8 hx8 => ?_)
       (try simp only [List.drop_succ_cons, List.drop_zero])
       clear kb hp0 q0 q1
       have HX8 := Lib.hid (HXj.out.trans hx8)
       have HU8 := Lib.hid (HUj.out.later hx8)
       have HLE8 := Lib.hid (show nb <= w8.heap.size from Nat.le_of_lt (HB1.out.later HX8.out).lt)
       clear hx8
       have HLT2 := Lib.hid (show z.length + (rcut ls[k][j]).length <= 20000001 by have h1 := HLEN.out; have h2 := HZL.out; have h3 := HLT.out; omega)
       clear HLEN HZL
       generalize hS : cutI ((ls.take k).flatten ++ ls[k].take j) = S at *
       clear hS
       generalize rcut ls[k][j] = rc at *
       generalize lowV ls[k][j].pa ls[k][j].pl = lo at *
       generalize highV ls[k][j].pa ls[k][j].pl = hi at *
       have HN1 := Lib.hid (show z.length <= 100000000 by have := HLT2.out; omega)
       have HN2 := Lib.hid (show (putC z lo).length <= 100000000 by have h1 := HLT2.out; have h2 := putC_len z lo; omega)
       have HP1 := Lib.hid (HCj.out.put lo)
       by_cases ht : uv hi = 4294967295
       · have ht1 : (hi != 4294967295#32) = false := by rw [bne_eq_false_iff_eq]; exact uv_inj (by rw [ht]; rfl)
         have ht2 : (uv hi != 4294967295) = false := by simpa using ht
         have HRC' := Lib.hid (show rc = [uv lo] by rw [HRC.out, if_pos ht])
         clear ht
         go_wp2_with (first
          | (go_at_call 54; (with_reducible refine (r12PutO_any _ z lo _ nb HU8.out HLE8.out HN1.out).mono ?_); rintro e w9 ⟨v9, rfl, hu9, hx9⟩; have HU9 := Lib.hid hu9; have HX9 := Lib.hid (HX8.out.trans hx9); have HLE9 := Lib.hid (Nat.le_trans HLE8.out hx9.size); clear hu9 hx9))
         go_roundw
         case rel =>
          refine ⟨j + 1, putC z lo, by omega, by go_num, HU9.out, ?_, HX9.out⟩
          show CutsS _ _
          rw [HST.out, HRC'.out]
          exact HP1.out
         case measure => simp [intOf]; omega
       · have ht1 : (hi != 4294967295#32) = true := by rw [bne_iff_ne]; intro e; exact ht (by rw [e]; rfl)
         have ht2 : (uv hi != 4294967295) = true := by simpa using ht
         have HRC' := Lib.hid (show rc = [uv lo, uv hi + 1] by rw [HRC.out, if_neg ht])
         have HP2 := Lib.hid (HP1.out.put (hi + 1#32))
         have HI := Lib.hid (uv_inc ht)
         clear ht
         go_wp2_with (first
          | (go_at_call 54; (with_reducible refine (r12PutO_any _ z lo _ nb HU8.out HLE8.out HN1.out).mono ?_); rintro e w9 ⟨v9, rfl, hu9, hx9⟩; have HU9 := Lib.hid hu9; have HX9 := Lib.hid (HX8.out.trans hx9); have HLE9 := Lib.hid (Nat.le_trans HLE8.out hx9.size); clear hu9 hx9)
          | (go_at_call 54; (with_reducible refine (r12PutO_any _ (putC z lo) (hi + 1#32) _ nb HU9.out HLE9.out HN2.out).mono ?_); rintro e w10 ⟨v10, rfl, hu10, hx10⟩; have HU10 := Lib.hid hu10; have HX10 := Lib.hid (HX9.out.trans hx10); clear hu10 hx10))
         go_roundw
         case rel =>
          refine ⟨j + 1, putC (putC z lo) (hi + 1#32), by omega, by go_num, HU10.out, ?_, HX10.out⟩
          show CutsS _ _
          have := HP2.out
          rw [HI.out, List.append_assoc] at this
          rw [HST.out, HRC'.out]
          exact this
         case measure => simp [intOf]; omega
     · have hje : j = ls[k].length := by omega
       have HE := Lib.hid (show (ls.take k).flatten ++ ls[k].take j = (ls.take (k + 1)).flatten by rw [hje, flat_step hlt, List.take_of_length_le (Nat.le_refl _)])
       have hjd : decide ((j : Int) < (ls[k].length : Int)) = false := decide_eq_false (by omega)
       have hjn : decide (j < ls[k].length) = false := decide_eq_false hjl
       clear hje
       go_wp2_with fail
       go_roundw
       case rel => exact ⟨k + 1, z, by omega, by go_num, HUj.out, by show CutsS _ _; rw [<- HE.out]; exact HCj.out, HXj.out⟩
       case measure => simp [intOf]; omega
  · have HE := Lib.hid (show ls.take k = ls by rw [List.take_of_length_le (by omega)])
    have hkd : decide ((k : Int) < (ls.length : Int)) = false := decide_eq_false (by omega)
    have hkn : decide (k < ls.length) = false := decide_eq_false hlt
    go_wp2_with fail
    go_ret
    refine ⟨_, l, rfl, by rw [HNB.out]; exact HU.out, ?_, HX1.out.trans HX.out⟩
    have := HC.out
    rw [HE.out] at this
    exact this
end Go.Proofs.YtdpmnldmbnpfpaaGreatDoor
