/- theseustop.sorted: numbers in order, each once, and 0, by the program. Conditions: a million numbers at most. -/
import Derived.Test.YtdpmnldmbnpfpaaGreatSortedL
import Derived.Test.YtdpmnldmbnpfpaaGreatOfOwn
namespace Go.Proofs.YtdpmnldmbnpfpaaGreat
open Go Go.RowKit Go.Maps Go.Proofs

theorem Sto.put {l A : List (BitVec 32)} (h : Sto l A) (x : BitVec 32) : Sto (l ++ [x]) (putC A x) := by
 unfold putC
 split
 · rename_i he
   exact h.old (List.mem_of_getElem? he)
 · rename_i he
   exact h.ins (fun j hj hk => putK_lt hk hj) (putK_le A x) (fun hk => by
    have h1 := putK_end hk
    have h2 : A[putK A x] ≠ x := fun e => he (by rw [List.getElem?_eq_getElem hk, e])
    have h3 : uv A[putK A x] ≠ uv x := fun e => h2 (uv_inj e)
    omega)
theorem cell_ltB {w : World} {p : Addr} {v : Value} (h : w.cell? p = some v) : p.block < w.heap.size := by
 rcases Nat.lt_or_ge p.block w.heap.size with g | g
 · exact g
 · simp [World.cell?, Array.getElem?_eq_none g] at h
set_option maxHeartbeats 8000000 in
set_option maxRecDepth 100000 in
theorem topSorted_any (v : Value) (l : List (BitVec 32)) (w : World) (hl : UsAt w v l) (hlen : l.length ≤ 1000000) :
 Calls Tryz.prog 23 #[v] w fun e w' => ∃ u A, e = .returned u ∧ OwnU w' w.heap.size u A ∧ Sto l A ∧ Ext w w' := by
 obtain ⟨ad, cap, rfl, a1, a2, a3⟩ := hl.form
 have A3 := Lib.hid a3
 clear a3 hl
 unfold maxLen at a2
 go_enter Tryz.func23, Tryz.ntmps23
 go_upto_region 2 with fail
 have HO0 := Lib.hid (show OwnU (w.alloc (.cells #[U 0#32] 25)) w.heap.size (.slice (some ⟨w.heap.size, 0, none⟩) 1 1) [0#32] from own_made w 1 25 1 [U 0#32] rfl (by unfold maxLen; omega))
 have HX0 := Lib.hid ((Ext.refl w).alloc (.cells #[U 0#32] 25))
 go_wp2_with fail
 go_loopw [3, 4] (fun v i wr => ∃ (k : Nat) (A : List (BitVec 32)), k ≤ l.length ∧ i = I k ∧ Hid (Sto (l.take k) A) ∧ Hid (OwnU wr w.heap.size v A) ∧ Hid (Ext w wr)) (fun _ i _ => l.length - (intOf i).toNat)
 case atStart => exact ⟨0, [0#32], Nat.zero_le _, rfl, Lib.hid (by rw [List.take_zero]; exact Sto.start), HO0, HX0⟩
 case round =>
  obtain ⟨k, A, hk, rfl, HS, HO, HX⟩ := hrel
  obtain ⟨oa, oc, rfl, b1, b2, b3⟩ := HO.out.us.form
  have B3 := Lib.hid b3
  clear b3
  unfold maxLen at b2
  have hal : A.length ≤ k + 1 := by have := HS.out.few; rw [List.length_take] at this; omega
  by_cases hlt : k < l.length
  · have HLT := Lib.hid hlt
    obtain ⟨xb, xo, rfl, p0⟩ := A3.out k l[k] (List.getElem?_eq_getElem hlt)
    replace p0 := HX.out.cell p0
    have HP0 := Lib.hid p0
    have HSN := Lib.hid (show Sto (l.take (k + 1)) (putC A l[k]) by rw [List.take_succ_eq_append_getElem hlt]; exact HS.out.put _)
    generalize l[k] = x at *
    clear p0
    have hle := putK_le A x
    obtain ⟨wo, rfl⟩ : ∃ wo : World, wo = wr := ⟨_, rfl⟩
    go_upto_block 2 with fail
    go_cut [5] (fun s wc => s = I (putK A x) ∧ Hid (Ext wo wc))
    case first =>
     go_wp2_with fail
     go_loopw [5] (fun i wq => ∃ j : Nat, j ≤ putK A x ∧ i = I j ∧ Hid (Ext wo wq)) (fun i _ => A.length - (intOf i).toNat)
     case atStart => exact ⟨0, Nat.zero_le _, rfl, Lib.hid (Ext.refl _)⟩
     case round =>
      obtain ⟨j, hj, rfl, HY⟩ := hrel
      have hpx := Ext.keep (HY.out.cell HP0.out)
      rcases Nat.lt_or_ge j (putK A x) with hjk | hjk
      · have hjl : j < A.length := by omega
        obtain ⟨b0, o0, rfl, q0⟩ := B3.out j A[j] (List.getElem?_eq_getElem hjl)
        have hd : decide (uv A[j] < uv x) = true := decide_eq_true (putK_lt hjk hjl)
        have hqx := Ext.keep (HY.out.cell q0)
        generalize A[j] = y at *
        clear q0
        go_upto_region 6 with fail
        refine wp_region_E 14 rfl (by kernel_rfl) (by kernel_rfl) ?_
        refine WEi_at 0 ?_
        iterate 14
         refine WEi_q rfl (by decide) (by kernel_rfl) rfl ?_; apply Exists.intro; refine ⟨fun w1 hx1 => ?_, ?_⟩
         · have hq1 := hx1.cells; go_simp; try go_bits
           first | with_reducible rfl | (rw [if_pos (by omega)]; exact ⟨Ext.refl _, rfl⟩)
         simp only [Act.put, List.setIfInBounds_toArray, List.set_cons_zero, List.set_cons_succ, Nat.reduceAdd]
        refine WEi_out ?_
        refine WE_done (by kernel_rfl) (fun w2 hx2 => ?_)
        (try simp only [List.drop_succ_cons, List.drop_zero])
        have HZ := Lib.hid (HY.out.trans hx2)
        clear hpx hqx hx2
        go_wp2_with fail
        go_roundw
        case rel => exact ⟨j + 1, by omega, by go_num, HZ⟩
        case measure => simp [intOf]; omega
      · have hje : j = putK A x := by omega
        subst hje
        by_cases hjl : putK A x < A.length
        · obtain ⟨b0, o0, rfl, q0⟩ := B3.out _ _ (List.getElem?_eq_getElem hjl)
          have hd : decide (uv A[putK A x] < uv x) = false := decide_eq_false (putK_end hjl)
          have hqx := Ext.keep (HY.out.cell q0)
          generalize A[putK A x] = y at *
          generalize putK A x = j at *
          clear q0
          go_upto_region 6 with fail
          refine wp_region_E 14 rfl (by kernel_rfl) (by kernel_rfl) ?_
          refine WEi_at 0 ?_
          iterate 14
           refine WEi_q rfl (by decide) (by kernel_rfl) rfl ?_; apply Exists.intro; refine ⟨fun w1 hx1 => ?_, ?_⟩
           · have hq1 := hx1.cells; go_simp; try go_bits
             first | with_reducible rfl | (rw [if_pos (by omega)]; exact ⟨Ext.refl _, rfl⟩)
           simp only [Act.put, List.setIfInBounds_toArray, List.set_cons_zero, List.set_cons_succ, Nat.reduceAdd]
          refine WEi_out ?_
          refine WE_done (by kernel_rfl) (fun w2 hx2 => ?_)
          (try simp only [List.drop_succ_cons, List.drop_zero])
          have HZ := Lib.hid (HY.out.trans hx2)
          clear hpx hqx hx2
          go_wp2_with fail
          go_meet
          case rel => exact ⟨rfl, HZ⟩
        · have hd : decide ((putK A x : Int) < (A.length : Int)) = false := decide_eq_false (by omega)
          have hdn : decide (putK A x < A.length) = false := decide_eq_false hjl
          generalize putK A x = j at *
          go_upto_region 6 with fail
          refine wp_region_E 14 rfl (by kernel_rfl) (by kernel_rfl) ?_
          refine WEi_at 0 ?_
          iterate 5
           refine WEi_q rfl (by decide) (by kernel_rfl) rfl ?_; apply Exists.intro; refine ⟨fun w1 hx1 => ?_, ?_⟩
           · have hq1 := hx1.cells; go_simp; try go_bits
             first | with_reducible rfl
           simp only [Act.put, List.setIfInBounds_toArray, List.set_cons_zero, List.set_cons_succ, Nat.reduceAdd]
          refine WEi_out ?_
          refine WEi_at 5 ?_
          iterate 9
           refine WEi_s rfl (by decide) (by kernel_rfl) rfl ?_
           simp only [Act.put, List.setIfInBounds_toArray, List.set_cons_zero, List.set_cons_succ, Nat.reduceAdd]
          refine WEi_out ?_
          refine WE_done (by kernel_rfl) (fun w2 hx2 => ?_)
          (try simp only [List.drop_succ_cons, List.drop_zero])
          have HZ := Lib.hid (HY.out.trans hx2)
          clear hpx hx2
          go_wp2_with fail
          go_meet
          case rel => exact ⟨rfl, HZ⟩
    case rest =>
     obtain ⟨rfl, HY⟩ := hcut
     have HOC := Lib.hid (HO.out.later HY.out)
     have HXC := Lib.hid (HX.out.trans HY.out)
     have hpx := Ext.keep (HY.out.cell HP0.out)
     by_cases he : A[putK A x]? = some x
     · obtain ⟨hjl, he2⟩ := List.getElem?_eq_some_iff.1 he
       obtain ⟨b0, o0, rfl, q0⟩ := B3.out _ _ he
       have hqx := Ext.keep (HY.out.cell q0)
       have HP := Lib.hid (show putC A x = A by unfold putC; rw [if_pos he])
       have hd : ((putK A x : Int) == (A.length : Int)) = false := beq_false_of_ne (by omega)
       rw [HP.out] at HSN
       clear he he2 q0 HP
       generalize putK A x = j at *
       go_upto_region 8 with fail
       refine wp_region_E 14 rfl (by kernel_rfl) (by kernel_rfl) ?_
       refine WEi_at 0 ?_
       iterate 14
        refine WEi_q rfl (by decide) (by kernel_rfl) rfl ?_; apply Exists.intro; refine ⟨fun w1 hx1 => ?_, ?_⟩
        · have hq1 := hx1.cells; go_simp; try go_bits
          first | with_reducible rfl | (rw [if_pos (by omega)]; exact ⟨Ext.refl _, rfl⟩)
        simp only [Act.put, List.setIfInBounds_toArray, List.set_cons_zero, List.set_cons_succ, Nat.reduceAdd]
       refine WEi_out ?_
       refine WE_done (by kernel_rfl) (fun w2 hx2 => ?_)
       (try simp only [List.drop_succ_cons, List.drop_zero])
       have HO2 := Lib.hid (HOC.out.later hx2)
       have HX2 := Lib.hid (HXC.out.trans hx2)
       clear hpx hqx hx2
       go_wp2_with fail
       go_roundw
       case rel => exact ⟨k + 1, A, by omega, by go_num, HSN, HO2, HX2⟩
       case measure => simp [intOf]; omega
     · have HP := Lib.hid (show putC A x = A.take (putK A x) ++ x :: A.drop (putK A x) by unfold putC; rw [if_neg he])
       have hst : (∃ y : BitVec 32, putK A x < A.length ∧ A[putK A x]? = some y ∧ y ≠ x) ∨ ¬ putK A x < A.length := by
        rcases Nat.lt_or_ge (putK A x) A.length with h | h
        · exact .inl ⟨_, h, List.getElem?_eq_getElem h, fun e => he (by rw [List.getElem?_eq_getElem h, e])⟩
        · exact .inr (by omega)
       have HPC := Lib.hid (putK_le A x)
       clear he
       generalize putK A x = j at *
       have HJC := Lib.hid (show j ≤ oc by omega)
       rcases hst with ⟨y, hjl, hy, hne⟩ | hjl
       case' inl =>
        obtain ⟨b0, o0, he0, q0⟩ := B3.out _ _ hy
        have hqx := Ext.keep (HY.out.cell q0)
        have hd : ((j : Int) == (A.length : Int)) = false := beq_false_of_ne (by omega)
        have hnb : (uv y != uv x) = true := by rw [bne_iff_ne]; exact fun e => hne (uv_inj e)
        rw [he0] at HO HOC B3 ⊢
        clear hy hne q0 he0
        go_upto_region 8 with fail
        refine wp_region_E 14 rfl (by kernel_rfl) (by kernel_rfl) ?_
        refine WEi_at 0 ?_
        iterate 14
         refine WEi_q rfl (by decide) (by kernel_rfl) rfl ?_; apply Exists.intro; refine ⟨fun w1 hx1 => ?_, ?_⟩
         · have hq1 := hx1.cells; go_simp; try go_bits
           first | with_reducible rfl | (rw [if_pos (by omega)]; exact ⟨Ext.refl _, rfl⟩)
         simp only [Act.put, List.setIfInBounds_toArray, List.set_cons_zero, List.set_cons_succ, Nat.reduceAdd]
        refine WEi_out ?_
        refine WE_done (by kernel_rfl) (fun w2 hx2 => ?_)
        (try simp only [List.drop_succ_cons, List.drop_zero])
        clear hqx
        generalize (some ⟨b0, o0, none⟩ : Option Addr) = oa at *
       case' inr =>
        have hd : ((j : Int) == (A.length : Int)) = true := by simp; omega
        have hjn : (j == A.length) = true := by simp; omega
        go_upto_region 8 with fail
        refine wp_region_E 14 rfl (by kernel_rfl) (by kernel_rfl) ?_
        refine WEi_at 0 ?_
        iterate 5
         refine WEi_q rfl (by decide) (by kernel_rfl) rfl ?_; apply Exists.intro; refine ⟨fun w1 hx1 => ?_, ?_⟩
         · have hq1 := hx1.cells; go_simp; try go_bits
           first | with_reducible rfl
         simp only [Act.put, List.setIfInBounds_toArray, List.set_cons_zero, List.set_cons_succ, Nat.reduceAdd]
        refine WEi_out ?_
        refine WEi_at 5 ?_
        iterate 9
         refine WEi_s rfl (by decide) (by kernel_rfl) rfl ?_
         simp only [Act.put, List.setIfInBounds_toArray, List.set_cons_zero, List.set_cons_succ, Nat.reduceAdd]
        refine WEi_out ?_
        refine WE_done (by kernel_rfl) (fun w2 hx2 => ?_)
        (try simp only [List.drop_succ_cons, List.drop_zero])
       all_goals
        have HO2 := Lib.hid (HOC.out.later hx2)
        have HX2 := Lib.hid (HXC.out.trans hx2)
        have HQ2 := Lib.hid (hx2.cell (HY.out.cell HP0.out))
        clear hpx hx2
        go_upto_region 9 with fail
        refine wp_region_R (RB (w2.heap.size)) 9 rfl (by kernel_rfl) (by kernel_rfl) (fun wz hxz => ?_)
        have HZ := Lib.hid hxz
        have g0 := RB.keep hxz.size (cell_ltB HQ2.out) (hxz.cell HQ2.out)
        clear hxz
        refine WRi_at 0 ?_
        iterate 4
         refine WRi_q (preRB _) rfl (by decide) (by kernel_rfl) rfl ?_; apply Exists.intro; refine ⟨fun w1 hx1 => ?_, ?_⟩
         · go_simp; try go_bits
           first | with_reducible rfl | rfl
         simp only [Act.put, List.setIfInBounds_toArray, List.set_cons_zero, List.set_cons_succ, Nat.reduceAdd]
        refine WRi_out ?_
        refine WRi_at 5 ?_
        iterate 2
         refine WRi_q (preRB _) rfl (by decide) (by kernel_rfl) rfl ?_; apply Exists.intro; refine ⟨fun w1 hx1 => ?_, ?_⟩
         · go_simp; try go_bits
           first | with_reducible rfl | rfl
         simp only [Act.put, List.setIfInBounds_toArray, List.set_cons_zero, List.set_cons_succ, Nat.reduceAdd]
        refine WRi_out ?_
        refine WR_q (preRB _) 7 rfl (by decide) (by kernel_rfl) rfl ⟨_, fun w1 hx1 => run_slice_from rfl Tryz.underlying47 sizeU32 rfl rfl HPC.out, ?_⟩
        simp only [Act.put, List.setIfInBounds_toArray, List.set_cons_zero, List.set_cons_succ]
        clear g0
        refine WR_one 4 rfl (by decide) (by kernel_rfl) rfl (fun K hK => ?_)
        go_simp
        refine hK _ _ (RB.ext ((Ext.refl _).alloc _)) ?_
        have HA5 := Lib.hid (show Ext w2 (wz.alloc (.cells #[U x] 25)) from HZ.out.alloc _)
        have HO5 := Lib.hid (show OwnU (wz.alloc (.cells #[U x] 25)) w2.heap.size (.slice (some ⟨wz.heap.size, 0, none⟩) 1 1) [x] from own_low (own_made wz 1 25 1 [U x] rfl (by unfold maxLen; omega)) HZ.out.size)
        have HR5 := Lib.hid (show UsAt (wz.alloc (.cells #[U x] 25)) (slv 1 (.slice oa A.length oc) j A.length) (A.drop j) from by
         have h := (HO2.out.us.piece HPC.out (Nat.le_refl _)).later HA5.out
         rwa [List.take_of_length_le (Nat.le_refl _)] at h)
        have HLD := Lib.hid (show (A.drop j).length = A.length - j from List.length_drop)
        clear hK K
        refine WR_one 8 rfl (by decide) (by kernel_rfl) rfl (fun K hK => ?_)
        refine wp_of_list (ops := #[]) rfl ?_
        refine wpList_app rfl (.tmp 50) (.tmp 53) 47 rfl w2.heap.size 25 _ 1 4 Tryz.underlying47 infoU32 rfl (by decide) (by decide) _ _ _ rfl HO5.out _ _ _ rfl HR5.out (ucells_one _) (by rw [HLD.out, List.length_singleton]; omega) HA5.out.size ?_
        intro v6 w6 ho6 hg6
        refine ⟨rfl, hK _ _ (RB.below HA5.out.size (Below.grown (Below.refl _ _) hg6 HA5.out.size fun q hq => (HO5.out.lt q hq).1)) ?_⟩
        have HX6 := Lib.hid (Ext.grown HA5.out hg6 HO5.out (Nat.le_refl _))
        have HR6 := Lib.hid (show UsAt w6 v6 (x :: A.drop j) from by
         have h := Reads.of_own ho6
         rwa [show ucells [x] ++ ucells (A.drop j) = ucells (x :: A.drop j) from rfl, show [x].length + (A.drop j).length = (x :: A.drop j).length from by simp; omega] at h)
        clear hK K ho6 hg6 HO5 HR5 HA5
        simp only [Act.put, List.setIfInBounds_toArray, List.set_cons_zero, List.set_cons_succ]
        refine WR_done (by kernel_rfl) ?_
        (try simp only [List.drop_succ_cons, List.drop_zero])
        have HQ6 := Lib.hid (show UsAt (w6.alloc (.cells #[] 25)) (slv 1 (.slice oa A.length oc) 0 j) (A.take j) from (((HO2.out.us.later HX6.out).piece (Nat.zero_le _) HPC.out).later ((Ext.refl _).alloc _)))
        have HO7 := Lib.hid (own_made w6 1 25 0 [] rfl (by unfold maxLen; omega))
        have HL6 := Lib.hid (show (A.take j).length = j by rw [List.length_take]; omega)
        go_wp2_with (first
         | (refine wpList_of_run rfl (run_slice_to (o := ⟨some 58, _, _, _, _, _⟩) rfl Tryz.underlying47 sizeU32 rfl rfl HJC.out) ?_)
         | (at_builtin; refine wpList_app rfl (.tmp 55) (.tmp 58) 47 rfl w6.heap.size 25 _ 1 4 Tryz.underlying47 infoU32 rfl (by decide) (by decide) _ _ _ rfl HO7.out _ _ _ rfl HQ6.out (ucells_one _) (by rw [HL6.out]; omega) ((Ext.refl w6).alloc _).size ?_; intro v7 w7 ho8 hg7
            have HX7 := Lib.hid (show Ext w6 w7 from Ext.grown ((Ext.refl w6).alloc _) hg7 HO7.out (Nat.le_refl _))
            have HR7 := Lib.hid (HR6.out.later HX7.out)
            have HO8 := Lib.hid ho8
            clear ho8 hg7)
         | (at_builtin; refine wpList_app rfl (.tmp 59) (.tmp 60) 47 rfl w6.heap.size 25 _ 1 4 Tryz.underlying47 infoU32 rfl (by decide) (by decide) _ _ _ rfl HO8.out _ _ _ rfl HR7.out (ucells_one _) (by rw [HL6.out, List.length_cons, HLD.out]; omega) HX7.out.size ?_; intro v8 w8 ho9 hg8
            have HX8 := Lib.hid (show Ext w6 w8 from Ext.grown HX7.out hg8 HO8.out (Nat.le_refl _))
            have HO9 := Lib.hid (show OwnU w8 w.heap.size v8 (putC A x) from by
             have h := own_low ho9 (Nat.le_trans HX2.out.size HX6.out.size)
             unfold OwnU
             rw [HP.out, List.length_append, ucells_app]
             simpa using h)
            clear ho9 hg8))
        go_roundw
        case rel => exact ⟨k + 1, _, by omega, by go_num, HSN, HO9, Lib.hid (HX2.out.trans (HX6.out.trans HX8.out))⟩
        case measure => simp [intOf]; omega
  · obtain rfl : k = l.length := by omega
    have HE := Lib.hid (show Sto l A by have h := HS.out; rw [List.take_length] at h; exact h)
    go_wp2_with fail
    go_ret
    exact ⟨_, A, rfl, HO.out, HE.out, HX.out⟩
set_option maxHeartbeats 1000000 in
theorem r12EndsS_any (lv : Value) (l : List (BitVec 32)) (k : Nat) (w : World) (hl : UsAt w lv l) (hk : k < l.length) :
 Calls Tryz.prog 24 #[lv, I k] w fun e w' => e = .returned (.tuple #[U l[k], U (endV l k), .bool true]) ∧ Ext w w' := by
 obtain ⟨ad, cap, rfl, a1, a2, a3⟩ := hl.form
 have A3 := Lib.hid a3
 clear a3
 unfold maxLen at a2
 obtain ⟨b0, o0, rfl, p0⟩ := A3.out k l[k] (List.getElem?_eq_getElem hk)
 by_cases hk1 : k + 1 < l.length
 · obtain ⟨b1, o1, he, p1⟩ := A3.out (k + 1) l[k + 1] (List.getElem?_eq_getElem hk1)
   simp only [Option.some.injEq, Addr.mk.injEq, and_true] at he
   obtain ⟨rfl, rfl⟩ := he
   have HE := Lib.hid (show endV l k = l[k + 1] - 1#32 by unfold endV; rw [dif_pos hk1])
   have hd : ((k : Int) == (l.length : Int) - 1) = false := beq_false_of_ne (by omega)
   replace p0 := Ext.keep p0
   replace p1 := Ext.keep p1
   go_enter Tryz.func24, Tryz.ntmps24
   go_wp2_with fail
   refine wp_region_E 12 rfl (by kernel_rfl) (by kernel_rfl) ?_
   refine WEi_at 0 ?_
   iterate 12
    refine WEi_q rfl (by decide) (by kernel_rfl) rfl ?_; apply Exists.intro; refine ⟨fun w1 hx1 => ?_, ?_⟩
    · have hq1 := hx1.cells; go_simp; try go_bits
      first | with_reducible rfl | (rw [if_pos (by omega)]; exact ⟨Ext.refl _, rfl⟩)
    simp only [Act.put, List.setIfInBounds_toArray, List.set_cons_zero, List.set_cons_succ, Nat.reduceAdd]
   refine WEi_out ?_
   refine WE_done (by kernel_rfl) (fun w2 hx2 => ?_)
   (try simp only [List.drop_succ_cons, List.drop_zero])
   go_wp2_with fail
   go_ret3
   exact ⟨by rw [HE.out]; rfl, hx2⟩
 · have HE := Lib.hid (show endV l k = 4294967295#32 by unfold endV; rw [dif_neg hk1])
   have hd : ((k : Int) == (l.length : Int) - 1) = true := by simp; omega
   go_enter Tryz.func24, Tryz.ntmps24
   go_wp2_with fail
   go_ret3
   exact ⟨by rw [HE.out]; rfl, by (repeat (first | with_reducible exact Ext.refl _ | with_reducible assumption | with_reducible refine Ext.alloc ?_ _ | with_reducible refine Ext.drew ?_ | with_reducible refine Ext.drewN ?_ _ | (with_reducible refine Ext.setCellP ?_ ?_; focus (first | (simp; done) | (simp; omega) | omega))))⟩
end Go.Proofs.YtdpmnldmbnpfpaaGreat
