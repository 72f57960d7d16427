/- The law CheckTraces: a trace holds just if each node steps to the next one. Conditions: whole numbers are within 64 bits. -/
import Derived.Test.YtpfkfboohblgoaaGShort
import Derived.Test.YtpfkfboohblgoaaTracesL
import Derived.Test.YtpfkfboohblgoaaNetLoop
import Derived.Test.YtpfkfboohblgoaaGNetP
namespace Go.Proofs.Ytpfkfboohblgoaa
open Go Go.RowKit Go.Maps Go.Proofs

theorem ints_from {w : World} {v : Value} {l : List Int} {k : Nat} (h : IntsAt w v l) (hk : k ≤ l.length) : IntsAt w (slv 1 v k l.length) (l.drop k) := by
  have h1 := Reads.piece h hk (Nat.le_refl _)
  unfold IntsAt
  rw [List.length_drop]
  have e : icells (l.drop k) = ((icells l).take (l.length * 1)).drop (k * 1) := by
    rw [List.take_of_length_le (by rw [icells_len]; omega), Nat.mul_one]
    unfold icells
    rw [List.map_drop]
  rw [e]
  exact h1
set_option maxHeartbeats 4000000 in
set_option maxRecDepth 100000 in
theorem checkTraces_any (lv tv : Value) (ls : List (List Rul)) (a : BitVec 32) (tr : List Int) (w : World) (hl : TablesAt w lv ls) (hok : TablesOk ls) (ht : IntsAt w tv tr) :
    Calls Try.prog 9 #[.agg #[lv], U a, tv] w fun e w' => e = .returned (.bool true) ∧ Ext w w' := by
  have HTR := Lib.hid ht
  obtain ⟨ta, tc, htv, t1, t2, t3⟩ := ht.form
  subst htv
  clear t3 ht
  unfold maxLen at t2
  have HL := Lib.hid hl
  have HOK := Lib.hid hok
  obtain ⟨ad, cap, hlv, a1, a2, a3⟩ := hl.form
  subst hlv
  clear a3 hl hok
  unfold maxLen at a2
  go_enter Try.func9, Try.ntmps9
  go_upto_region 1 with (fail)
  refine hideW (Φ := fun W => Code.wp _ _ _ _ W) (fun W => Ext w W ∧ Blk W w.heap.size [.slice ad ls.length cap] 24)
    ⟨by (repeat (first | with_reducible exact Ext.refl _ | with_reducible assumption | with_reducible refine Ext.alloc ?_ _ | with_reducible refine Ext.drew ?_ | with_reducible refine Ext.drewN ?_ _ | (with_reducible refine Ext.setCellP ?_ ?_; focus (first | (simp; done) | (simp; omega) | omega)))), (Blk.new w [.slice ad ls.length cap] 24)⟩ (fun W1 hW1 => ?_)
  obtain ⟨hx1, hb1⟩ := hW1
  have HX1 := Lib.hid hx1
  have HB1 := Lib.hid hb1
  clear hx1 hb1
  generalize w.heap.size = nb at *
  go_upto_region 2 with (first
    | (go_at_call 15; (with_reducible refine (shown20_any _).mono ?_); rintro e w2 ⟨rfl, hx2⟩; have HX2 := Lib.hid (HX1.out.trans hx2); have HB2 := Lib.hid (HB1.out.later hx2); clear hx2))
  have hbc2 := HB2.out.cells
  have HNM := Lib.hid (fitN_may ls)
  have HNS := Lib.hid (fitN_size ls)
  have HNO := Lib.hid (fitN_ok ls)
  have HN20 := Lib.hid (@fitN_short ls)
  have hN := fitN_bd ls
  go_upto_region 3 with (first
    | (go_at_call 16; (with_reducible refine (r09Fit_any _ ls _ (HL.out.later HX2.out) HOK.out).mono ?_); rintro e w3 ⟨v3, he, hF, hx3⟩; subst he; have HF3 := Lib.hid hF.tables; obtain ⟨va, vcap, hv3, q1, q2, q3⟩ := HF3.out.form; subst hv3; clear q3; have HX3 := Lib.hid (HX2.out.trans hx3); clear hF hx3))
  generalize fitN ls = N at *
  clear hbc2 HB2 HB1
  unfold maxLen at q2
  refine hideW (Φ := fun W => Code.wp _ _ _ _ W) (fun W => Ext w3 W ∧ Blk W w3.heap.size [.slice va N.length vcap] 24)
    ⟨by (repeat (first | with_reducible exact Ext.refl _ | with_reducible assumption | with_reducible refine Ext.alloc ?_ _ | with_reducible refine Ext.drew ?_ | with_reducible refine Ext.drewN ?_ _ | (with_reducible refine Ext.setCellP ?_ ?_; focus (first | (simp; done) | (simp; omega) | omega)))), Blk.new w3 [.slice va N.length vcap] 24⟩ (fun W4 hW4 => ?_)
  obtain ⟨hx4, hb4⟩ := hW4
  have HX4 := Lib.hid (HX3.out.trans hx4)
  have HF4 := Lib.hid (HF3.out.later hx4)
  have HB4 := Lib.hid hb4
  have hbc4 := hb4.cells
  clear hx4 hb4 HF3 HX3 HX1 HX2
  generalize w3.heap.size = fb at *
  have hbk := HB4.out.keep
  have HTR4 := Lib.hid (HTR.out.later HX4.out)
  obtain ⟨mt, hmt, hmt2⟩ : ∃ mt : Nat, min (tr.length : Int) 20 = (mt : Int) ∧ mt = min tr.length 20 := ⟨min tr.length 20, by omega, rfl⟩
  have hmc : mt ≤ tc := by omega
  have hml : mt ≤ tr.length := by omega
  have HMT := Lib.hid hmt2
  clear hmt2
  go_upto_region 4 with (first
    | (go_at_call 31; (with_reducible refine (netLoop_any _ N a _ HF4.out HNO.out HNM.out).mono ?_); rintro e w5 ⟨u, c, b, he, hC, hbc, hO, hx5⟩; subst he; have HX5 := Lib.hid hx5; have HC := Lib.hid hC; have HBC := Lib.hid hbc; have HO := Lib.hid hO; clear hx5 hC hbc hO))
  have HTM := Lib.hid (ints_take (k := mt) HTR4.out hml)
  obtain ⟨sa, sc, hsv, -⟩ := HTM.out.form
  have HTL := Lib.hid (show (tr.take mt).length = mt by rw [List.length_take]; omega)
  rw [HTL.out] at hsv
  have HSV := Lib.hid hsv
  rw [hsv] at HTM
  clear hsv
  have hse := HSV.out
  go_upto_region 5 with (first
    | (refine wpList_of_run rfl (run_slice_to (o := ⟨some 28, _, _, _, _, _⟩) rfl Try.underlying27 sizeInt rfl rfl hmc) ?_; rw [hse]))
  have HTE := Lib.hid (fun h => trace_loop HNM.out HC.out (raw := tr.take mt) h)
  have HCT := Lib.hid (fun (W : World) (v : Value) (l : List Int) (h : Ext w5 W) (hi : IntsAt W v l) => checkTrace_any (.slice va N.length vcap) v N a l W (HF4.out.later (HX5.out.trans h)) HNO.out hi)
  have HI := Lib.hid HO.out.ints
  obtain ⟨ca, cc, hcv, c1, c2, c3⟩ := HI.out.form
  subst hcv
  have C3 := Lib.hid c3
  clear c3 hse hbk hmc hml
  unfold maxLen at c2
  have HB5 := Lib.hid (HB4.out.later HX5.out)
  have HXT := Lib.hid (HX4.out.trans HX5.out)
  have hbk := HB5.out.keep
  have hx0 := Ext.refl w5
  have HTX := Lib.hid (HTM.out.later HX5.out)
  have HCL := Lib.hid (show c.length ≤ 256 by
    rcases HC.out with ⟨e, _⟩ | ⟨x, p, hx, hp, e⟩
    · rw [e]; exact Nat.zero_le _
    · rw [e, wayV_len]
      have h1 := hp.le (vec_ok HNM.out a) hx.1.1
      have h2 := (netMay_tabs HNM.out).1
      rw [vecV_len] at h1
      omega)
  cases b with
  | false =>
    have hcn : c = [] := Classical.byContradiction fun h => (by cases HBC.out.2 h)
    subst hcn
    have hte : traceV N a (tr.take mt) = 17 := (traceV_two _ _ _).resolve_left fun h => (HTE.out h).1 rfl
    have HTZ := Lib.hid hte
    have H17 := Lib.hid (trace_nil N a)
    have HI0 := Lib.hid (show IntsAt w5 (.slice ca 0 cc) [] from HI.out)
    clear hte
    go_wp2_with (first
      | (go_at_call 25; (with_reducible refine (HCT.out _ _ _ (Ext.refl _) HTX.out).mono ?_); rintro e w6 ⟨he, hx6⟩; rw [HTZ.out] at he; subst he; have HX6 := Lib.hid hx6; have hx0 := hx6; clear hx6)
      | (go_at_call 25; (with_reducible refine (HCT.out _ _ _ HX6.out (HI0.out.later HX6.out)).mono ?_); rintro e w7 ⟨he, hx7⟩; rw [H17.out] at he; subst he; have HX7 := Lib.hid hx7; clear hx7))
    go_ret
    exact ⟨rfl, HXT.out.trans (HX6.out.trans HX7.out)⟩
  | true =>
    have hcn := HBC.out.1 rfl
    have hc0 : 0 < c.length := List.length_pos_iff.2 hcn
    obtain ⟨cb, co, hca, -⟩ := C3.out 0 _ (List.getElem?_eq_getElem hc0)
    subst hca
    clear HBC hcn C3
    have hc1 : decide (0 < (c.length : Int)) = true := decide_eq_true (by omega)
    have HC0 := Lib.hid hc0
    have H17 := Lib.hid (trace_nil N a)
    clear hc0
    by_cases htz : traceV N a (tr.take mt) = 0
    · obtain ⟨-, hrl⟩ := HTE.out htz
      rw [HTL.out] at hrl
      have hml0 : ((mt : Int) == 0) = false := beq_false_of_ne (by omega)
      have HTZ := Lib.hid htz
      clear htz hrl
      go_wp2_with (first
        | (go_at_call 25; (with_reducible refine (HCT.out _ _ _ (Ext.refl _) HTX.out).mono ?_); rintro e w6 ⟨he, hx6⟩; rw [HTZ.out] at he; subst he; have HX6 := Lib.hid hx6; clear hx6))
      have hcl := HCL.out
      have HNIL := Lib.hid (fun W => (show IntsAt W (.slice none 0 0) [] from Reads.nil W 1))
      go_loopw [12] (fun i wr => ∃ k : Nat, k ≤ c.length ∧ i = I k ∧ Hid (Ext w5 wr)) (fun i _ => c.length - (intOf i).toNat)
      case atStart => exact ⟨0, Nat.zero_le _, rfl, HX6.out⟩
      case round =>
        obtain ⟨k, hk, rfl, HX⟩ := hrel
        by_cases hlt : k < c.length
        · have hkd : decide ((k : Int) < (c.length : Int)) = true := decide_eq_true (by omega)
          have HLT := Lib.hid hlt
          have HPA := Lib.hid (ints_from (k := k) (HI.out.later HX.out) (Nat.le_of_lt hlt))
          have HPB := Lib.hid (ints_take (k := k) (HI.out.later HX.out) (Nat.le_of_lt hlt))
          have hkc : k ≤ cc := by omega
          clear hbk hx0
          go_upto_region 12 with fail
          refine wp_region_R (RB (wr.heap.size)) 9 rfl (by kernel_rfl) (by kernel_rfl) (fun w0 hx0 => ?_)
          refine WRi_at 1 ?_
          iterate 2
            refine WRi_q (preRB _) rfl (by decide) (by kernel_rfl) rfl ?_; apply Exists.intro; refine ⟨fun w1 hx1 => ?_, ?_⟩
            · go_simp; try go_bits
              first | with_reducible rfl | rfl
            simp only [Act.put, List.setIfInBounds_toArray, List.set_cons_zero, List.set_cons_succ, Nat.reduceAdd]
          refine WRi_out ?_
          refine WR_q (preRB _) 3 rfl (by decide) (by kernel_rfl) rfl ⟨_, fun w1 hx1 => run_slice_from rfl Try.underlying27 sizeInt rfl rfl hk, ?_⟩
          simp only [Act.put, List.setIfInBounds_toArray, List.set_cons_zero, List.set_cons_succ]
          refine WRi_at 5 ?_
          iterate 2
            refine WRi_q (preRB _) rfl (by decide) (by kernel_rfl) rfl ?_; apply Exists.intro; refine ⟨fun w1 hx1 => ?_, ?_⟩
            · go_simp; try go_bits
              first | with_reducible rfl | rfl
            simp only [Act.put, List.setIfInBounds_toArray, List.set_cons_zero, List.set_cons_succ, Nat.reduceAdd]
          refine WRi_out ?_
          refine WR_q (preRB _) 7 rfl (by decide) (by kernel_rfl) rfl ⟨_, fun w1 hx1 => run_slice_to rfl Try.underlying27 sizeInt rfl rfl hkc, ?_⟩
          simp only [Act.put, List.setIfInBounds_toArray, List.set_cons_zero, List.set_cons_succ]
          refine WR_one 0 rfl (by decide) (by kernel_rfl) rfl (fun K hK => ?_)
          go_simp
          refine hK _ _ (RB.ext ((Ext.refl _).alloc _)) ?_
          clear hK K
          have HXA := Lib.hid (show Ext wr (w0.alloc (.cells #[] 3)) from hx0.alloc _)
          have HOA := Lib.hid (own_low (own_made w0 1 3 0 [] rfl (by unfold maxLen; omega)) hx0.size)
          refine WR_one 4 rfl (by decide) (by kernel_rfl) rfl (fun K hK => ?_)
          refine wp_of_list (ops := #[]) rfl ?_
          refine wpList_app rfl (.tmp 59) (.tmp 62) 27 rfl wr.heap.size 3 _ 1 8 Try.underlying27 infoInt rfl (by decide) (by decide) _ _ _ rfl HOA.out _ _ _ rfl (HPA.out.later HXA.out) (icells_one _) (by have := HCL.out; rw [List.length_drop]; omega) HXA.out.size ?_
          intro v7 w7 ho7 hg7
          have HX7 := Lib.hid (Ext.grown HXA.out hg7 HOA.out (Nat.le_refl _))
          refine ⟨rfl, hK _ _ (RB.below HXA.out.size (Below.grown (Below.refl _ _) hg7 HXA.out.size fun q hq => (HOA.out.lt q hq).1)) ?_⟩
          clear hK K hx0
          have HO7 := Lib.hid ho7
          clear ho7 hg7
          refine WR_one 8 rfl (by decide) (by kernel_rfl) rfl (fun K hK => ?_)
          refine wp_of_list (ops := #[]) rfl ?_
          refine wpList_app rfl (.tmp 63) (.tmp 66) 27 rfl wr.heap.size 3 _ 1 8 Try.underlying27 infoInt rfl (by decide) (by decide) _ _ _ rfl HO7.out _ _ _ rfl (HPB.out.later HX7.out) (icells_one _) (by have := HCL.out; rw [List.length_drop, List.length_take]; omega) HX7.out.size ?_
          intro v8 w8 ho8 hg8
          have HX8 := Lib.hid (Ext.grown HX7.out hg8 HO7.out (Nat.le_refl _))
          refine ⟨rfl, hK _ _ (RB.below HX7.out.size (Below.grown (Below.refl _ _) hg8 HX7.out.size fun q hq => (HO7.out.lt q hq).1)) ?_⟩
          clear hK K
          have HO8 := Lib.hid (show OwnI w8 wr.heap.size v8 (c.drop k ++ c.take k) from by
            unfold OwnI
            rw [icells_app, List.length_append]
            simpa using ho8)
          have HTT := Lib.hid (loop_traces HNM.out HC.out hlt)
          have HTN := Lib.hid (show (c.drop k ++ c.take k).length = c.length by rw [List.length_append, List.length_drop, List.length_take]; omega)
          clear ho8 hg8 hlt
          generalize c.drop k ++ c.take k = T at *
          obtain ⟨xa, xc, hxv, x1, x2, -⟩ := HO8.out.ints.form
          rw [HTN.out] at hxv x1
          subst hxv
          unfold maxLen at x2
          refine WR_done (by kernel_rfl) ?_
          (try simp only [List.drop_succ_cons, List.drop_zero])
          go_upto_region 13 with fail
          refine hideW (Φ := fun W => Code.wp _ _ _ _ W) (fun W => Ext wr W ∧ OwnI W wr.heap.size (.slice xa c.length xc) T) ⟨HX8.out, HO8.out⟩ (fun W9 hW9 => ?_)
          obtain ⟨hx9, ho9⟩ := hW9
          have HX9 := Lib.hid hx9
          have HI9 := Lib.hid ho9.ints
          clear hx9 ho9
          have HXB := Lib.hid ((Ext.refl W9).alloc (.cells #[] 3))
          have HOB := Lib.hid (own_made W9 1 3 0 [] rfl (by unfold maxLen; omega))
          go_upto_region 14 with (first
            | (at_builtin
               refine wpList_app rfl (.tmp 70) (.tmp 71) 27 rfl W9.heap.size 3 _ 1 8 Try.underlying27 infoInt rfl (by decide) (by decide) _ _ _ rfl HO10.out _ _ _ rfl (HI9.out.later HX10.out) (icells_one _) (by have := HCL.out; rw [HTN.out]; omega) HX10.out.size ?_
               intro v11 w11 ho11 hg11
               have HX11 := Lib.hid (Ext.grown HX10.out hg11 HO10.out (Nat.le_refl _))
               have HO11 := Lib.hid (show OwnI w11 W9.heap.size v11 (T ++ T) from by
                 unfold OwnI
                 rw [icells_app, List.length_append]
                 simpa using ho11)
               obtain ⟨ya, yc, hyv, -, -, -⟩ := HO11.out.ints.form
               generalize hn2 : (T ++ T).length = n2 at hyv
               subst hyv
               clear ho11 hg11 hn2)
            | (at_builtin
               refine wpList_app rfl (.tmp 68) (.tmp 69) 27 rfl W9.heap.size 3 _ 1 8 Try.underlying27 infoInt rfl (by decide) (by decide) _ _ _ rfl HOB.out _ _ _ rfl (HI9.out.later HXB.out) (icells_one _) (by have := HCL.out; rw [HTN.out]; omega) HXB.out.size ?_
               intro v10 w10 ho10 hg10
               have HX10 := Lib.hid (Ext.grown HXB.out hg10 HOB.out (Nat.le_refl _))
               have HO10 := Lib.hid ho10
               clear ho10 hg10))
          have HX5W := Lib.hid (HX.out.trans (HX9.out.trans HX11.out))
          have HV1 := Lib.hid (HI9.out.later HX11.out)
          have HV2 := Lib.hid HO11.out.ints
          have HV3 := Lib.hid (ints_from (k := 1) HV1.out (by rw [HTN.out]; have := HC0.out; omega))
          rw [HTN.out] at HV3
          have HW1 := Lib.hid (fun (W : World) (h : Ext w11 W) => HCT.out W _ T (HX5W.out.trans h) (HV1.out.later h))
          have HW2 := Lib.hid (fun (W : World) (h : Ext w11 W) => HCT.out W _ (T ++ T) (HX5W.out.trans h) (HV2.out.later h))
          have HW3 := Lib.hid (fun (W : World) (h : Ext w11 W) => HCT.out W _ (T.drop 1) (HX5W.out.trans h) (HV3.out.later h))
          rw [HTT.out.1] at HW1
          rw [HTT.out.2.1] at HW2
          have hbk2 := (HB5.out.later HX5W.out).keep
          by_cases h1c : 1 < c.length
          · have hcd : decide (1 < (c.length : Int)) = true := decide_eq_true (by omega)
            rw [HTT.out.2.2 h1c] at HW3
            have h1k : 1 ≤ c.length := by omega
            clear h1c
            refine wp_region_E 24 rfl (by kernel_rfl) (by kernel_rfl) ?_
            refine WEi_at 0 ?_
            iterate 3
              refine WEi_q rfl (by decide) (by kernel_rfl) rfl ?_; apply Exists.intro; refine ⟨fun w1 hx1 => ?_, ?_⟩
              · have hq1 := hx1.cells; go_simp; try go_bits
                first | with_reducible rfl
              simp only [Act.put, List.setIfInBounds_toArray, List.set_cons_zero, List.set_cons_succ, Nat.reduceAdd]
            refine WEi_out ?_
            refine WE_q 3 rfl (by decide) (by kernel_rfl) rfl ?_; apply Exists.intro; refine ⟨fun w1 hx1 => ?_, ?_⟩
            · have hq1 := hx1.cells; go_simp; try go_bits
              first | with_reducible rfl | ((refine (HW1.out _ hx1).mono ?_; rintro e w' ⟨rfl, hx⟩; exact ⟨rfl, hx⟩))
            simp only [Act.put, List.setIfInBounds_toArray, List.set_cons_zero, List.set_cons_succ]
            refine WEi_at 4 ?_
            iterate 5
              refine WEi_q rfl (by decide) (by kernel_rfl) rfl ?_; apply Exists.intro; refine ⟨fun w1 hx1 => ?_, ?_⟩
              · have hq1 := hx1.cells; go_simp; try go_bits
                first | with_reducible rfl
              simp only [Act.put, List.setIfInBounds_toArray, List.set_cons_zero, List.set_cons_succ, Nat.reduceAdd]
            refine WEi_out ?_
            refine WE_q 9 rfl (by decide) (by kernel_rfl) rfl ?_; apply Exists.intro; refine ⟨fun w1 hx1 => ?_, ?_⟩
            · have hq1 := hx1.cells; go_simp; try go_bits
              first | with_reducible rfl | ((refine (HW2.out _ hx1).mono ?_; rintro e w' ⟨rfl, hx⟩; exact ⟨rfl, hx⟩))
            simp only [Act.put, List.setIfInBounds_toArray, List.set_cons_zero, List.set_cons_succ]
            refine WEi_at 10 ?_
            iterate 10
              refine WEi_q rfl (by decide) (by kernel_rfl) rfl ?_; apply Exists.intro; refine ⟨fun w1 hx1 => ?_, ?_⟩
              · have hq1 := hx1.cells; go_simp; try go_bits
                first | with_reducible rfl
              simp only [Act.put, List.setIfInBounds_toArray, List.set_cons_zero, List.set_cons_succ, Nat.reduceAdd]
            refine WEi_out ?_
            refine WE_q 20 rfl (by decide) (by kernel_rfl) rfl ⟨_, fun w1 hx1 => quietE_of_run (run_slice_from rfl Try.underlying27 sizeInt rfl rfl h1k), ?_⟩
            simp only [Act.put, List.setIfInBounds_toArray, List.set_cons_zero, List.set_cons_succ]
            refine WE_q 21 rfl (by decide) (by kernel_rfl) rfl ?_; apply Exists.intro; refine ⟨fun w1 hx1 => ?_, ?_⟩
            · have hq1 := hx1.cells; go_simp; try go_bits
              first | with_reducible rfl | ((refine (HW3.out _ hx1).mono ?_; rintro e w' ⟨rfl, hx⟩; exact ⟨rfl, hx⟩))
            simp only [Act.put, List.setIfInBounds_toArray, List.set_cons_zero, List.set_cons_succ]
            refine WEi_at 22 ?_
            iterate 2
              refine WEi_q rfl (by decide) (by kernel_rfl) rfl ?_; apply Exists.intro; refine ⟨fun w1 hx1 => ?_, ?_⟩
              · have hq1 := hx1.cells; go_simp; try go_bits
                first | with_reducible rfl
              simp only [Act.put, List.setIfInBounds_toArray, List.set_cons_zero, List.set_cons_succ, Nat.reduceAdd]
            refine WEi_out ?_
            refine WE_done (by kernel_rfl) (fun w13 hx13 => ?_)
            (try simp only [List.drop_succ_cons, List.drop_zero])
            have HX13 := Lib.hid (HX5W.out.trans hx13)
            go_wp2_with fail
            go_roundw
            case rel => exact ⟨k + 1, Nat.succ_le_of_lt HLT.out, by go_num, HX13.out⟩
            case measure => have := HLT.out; simp [intOf]; omega
          · have hcd : decide (1 < (c.length : Int)) = false := decide_eq_false (by omega)
            clear h1c
            refine wp_region_E 24 rfl (by kernel_rfl) (by kernel_rfl) ?_
            refine WEi_at 0 ?_
            iterate 3
              refine WEi_q rfl (by decide) (by kernel_rfl) rfl ?_; apply Exists.intro; refine ⟨fun w1 hx1 => ?_, ?_⟩
              · have hq1 := hx1.cells; go_simp; try go_bits
                first | with_reducible rfl
              simp only [Act.put, List.setIfInBounds_toArray, List.set_cons_zero, List.set_cons_succ, Nat.reduceAdd]
            refine WEi_out ?_
            refine WE_q 3 rfl (by decide) (by kernel_rfl) rfl ?_; apply Exists.intro; refine ⟨fun w1 hx1 => ?_, ?_⟩
            · have hq1 := hx1.cells; go_simp; try go_bits
              first | with_reducible rfl | ((refine (HW1.out _ hx1).mono ?_; rintro e w' ⟨rfl, hx⟩; exact ⟨rfl, hx⟩))
            simp only [Act.put, List.setIfInBounds_toArray, List.set_cons_zero, List.set_cons_succ]
            refine WEi_at 4 ?_
            iterate 5
              refine WEi_q rfl (by decide) (by kernel_rfl) rfl ?_; apply Exists.intro; refine ⟨fun w1 hx1 => ?_, ?_⟩
              · have hq1 := hx1.cells; go_simp; try go_bits
                first | with_reducible rfl
              simp only [Act.put, List.setIfInBounds_toArray, List.set_cons_zero, List.set_cons_succ, Nat.reduceAdd]
            refine WEi_out ?_
            refine WE_q 9 rfl (by decide) (by kernel_rfl) rfl ?_; apply Exists.intro; refine ⟨fun w1 hx1 => ?_, ?_⟩
            · have hq1 := hx1.cells; go_simp; try go_bits
              first | with_reducible rfl | ((refine (HW2.out _ hx1).mono ?_; rintro e w' ⟨rfl, hx⟩; exact ⟨rfl, hx⟩))
            simp only [Act.put, List.setIfInBounds_toArray, List.set_cons_zero, List.set_cons_succ]
            refine WEi_at 10 ?_
            iterate 7
              refine WEi_q rfl (by decide) (by kernel_rfl) rfl ?_; apply Exists.intro; refine ⟨fun w1 hx1 => ?_, ?_⟩
              · have hq1 := hx1.cells; go_simp; try go_bits
                first | with_reducible rfl
              simp only [Act.put, List.setIfInBounds_toArray, List.set_cons_zero, List.set_cons_succ, Nat.reduceAdd]
            refine WEi_out ?_
            refine WEi_at 17 ?_
            iterate 6
              refine WEi_s rfl (by decide) (by kernel_rfl) rfl ?_
              simp only [Act.put, List.setIfInBounds_toArray, List.set_cons_zero, List.set_cons_succ, Nat.reduceAdd]
            refine WEi_out ?_
            refine WE_q 23 rfl (by decide) (by kernel_rfl) rfl ?_; apply Exists.intro; refine ⟨fun w1 hx1 => ?_, ?_⟩
            · have hq1 := hx1.cells; go_simp; try go_bits
              first | with_reducible rfl
            simp only [Act.put, List.setIfInBounds_toArray, List.set_cons_zero, List.set_cons_succ]
            refine WE_done (by kernel_rfl) (fun w13 hx13 => ?_)
            (try simp only [List.drop_succ_cons, List.drop_zero])
            have HX13 := Lib.hid (HX5W.out.trans hx13)
            go_wp2_with fail
            go_roundw
            case rel => exact ⟨k + 1, Nat.succ_le_of_lt HLT.out, by go_num, HX13.out⟩
            case measure => have := HLT.out; simp [intOf]; omega
        · have hx0 := HX.out
          go_wp2_with (first
            | (go_at_call 25; (with_reducible refine (HCT.out _ _ _ HX.out (HNIL.out _)).mono ?_); rintro e w7 ⟨he, hx7⟩; rw [H17.out] at he; subst he; have HX7 := Lib.hid hx7; clear hx7))
          go_ret
          exact ⟨rfl, HXT.out.trans (HX.out.trans HX7.out)⟩
    · have hte : traceV N a (tr.take mt) = 17 := (traceV_two _ _ _).resolve_left htz
      have HTZ := Lib.hid hte
      clear hte htz
      go_wp2_with (first
        | (go_at_call 25; (with_reducible refine (HCT.out _ _ _ (Ext.refl _) HTX.out).mono ?_); rintro e w6 ⟨he, hx6⟩; rw [HTZ.out] at he; subst he; have HX6 := Lib.hid hx6; clear hx6))
      have hcl := HCL.out
      have HNIL := Lib.hid (fun W => (show IntsAt W (.slice none 0 0) [] from Reads.nil W 1))
      go_loopw [12] (fun i wr => ∃ k : Nat, k ≤ c.length ∧ i = I k ∧ Hid (Ext w5 wr)) (fun i _ => c.length - (intOf i).toNat)
      case atStart => exact ⟨0, Nat.zero_le _, rfl, HX6.out⟩
      case round =>
        obtain ⟨k, hk, rfl, HX⟩ := hrel
        by_cases hlt : k < c.length
        · have hkd : decide ((k : Int) < (c.length : Int)) = true := decide_eq_true (by omega)
          have HLT := Lib.hid hlt
          have HPA := Lib.hid (ints_from (k := k) (HI.out.later HX.out) (Nat.le_of_lt hlt))
          have HPB := Lib.hid (ints_take (k := k) (HI.out.later HX.out) (Nat.le_of_lt hlt))
          have hkc : k ≤ cc := by omega
          clear hbk hx0
          go_upto_region 12 with fail
          refine wp_region_R (RB (wr.heap.size)) 9 rfl (by kernel_rfl) (by kernel_rfl) (fun w0 hx0 => ?_)
          refine WRi_at 1 ?_
          iterate 2
            refine WRi_q (preRB _) rfl (by decide) (by kernel_rfl) rfl ?_; apply Exists.intro; refine ⟨fun w1 hx1 => ?_, ?_⟩
            · go_simp; try go_bits
              first | with_reducible rfl | rfl
            simp only [Act.put, List.setIfInBounds_toArray, List.set_cons_zero, List.set_cons_succ, Nat.reduceAdd]
          refine WRi_out ?_
          refine WR_q (preRB _) 3 rfl (by decide) (by kernel_rfl) rfl ⟨_, fun w1 hx1 => run_slice_from rfl Try.underlying27 sizeInt rfl rfl hk, ?_⟩
          simp only [Act.put, List.setIfInBounds_toArray, List.set_cons_zero, List.set_cons_succ]
          refine WRi_at 5 ?_
          iterate 2
            refine WRi_q (preRB _) rfl (by decide) (by kernel_rfl) rfl ?_; apply Exists.intro; refine ⟨fun w1 hx1 => ?_, ?_⟩
            · go_simp; try go_bits
              first | with_reducible rfl | rfl
            simp only [Act.put, List.setIfInBounds_toArray, List.set_cons_zero, List.set_cons_succ, Nat.reduceAdd]
          refine WRi_out ?_
          refine WR_q (preRB _) 7 rfl (by decide) (by kernel_rfl) rfl ⟨_, fun w1 hx1 => run_slice_to rfl Try.underlying27 sizeInt rfl rfl hkc, ?_⟩
          simp only [Act.put, List.setIfInBounds_toArray, List.set_cons_zero, List.set_cons_succ]
          refine WR_one 0 rfl (by decide) (by kernel_rfl) rfl (fun K hK => ?_)
          go_simp
          refine hK _ _ (RB.ext ((Ext.refl _).alloc _)) ?_
          clear hK K
          have HXA := Lib.hid (show Ext wr (w0.alloc (.cells #[] 3)) from hx0.alloc _)
          have HOA := Lib.hid (own_low (own_made w0 1 3 0 [] rfl (by unfold maxLen; omega)) hx0.size)
          refine WR_one 4 rfl (by decide) (by kernel_rfl) rfl (fun K hK => ?_)
          refine wp_of_list (ops := #[]) rfl ?_
          refine wpList_app rfl (.tmp 59) (.tmp 62) 27 rfl wr.heap.size 3 _ 1 8 Try.underlying27 infoInt rfl (by decide) (by decide) _ _ _ rfl HOA.out _ _ _ rfl (HPA.out.later HXA.out) (icells_one _) (by have := HCL.out; rw [List.length_drop]; omega) HXA.out.size ?_
          intro v7 w7 ho7 hg7
          have HX7 := Lib.hid (Ext.grown HXA.out hg7 HOA.out (Nat.le_refl _))
          refine ⟨rfl, hK _ _ (RB.below HXA.out.size (Below.grown (Below.refl _ _) hg7 HXA.out.size fun q hq => (HOA.out.lt q hq).1)) ?_⟩
          clear hK K hx0
          have HO7 := Lib.hid ho7
          clear ho7 hg7
          refine WR_one 8 rfl (by decide) (by kernel_rfl) rfl (fun K hK => ?_)
          refine wp_of_list (ops := #[]) rfl ?_
          refine wpList_app rfl (.tmp 63) (.tmp 66) 27 rfl wr.heap.size 3 _ 1 8 Try.underlying27 infoInt rfl (by decide) (by decide) _ _ _ rfl HO7.out _ _ _ rfl (HPB.out.later HX7.out) (icells_one _) (by have := HCL.out; rw [List.length_drop, List.length_take]; omega) HX7.out.size ?_
          intro v8 w8 ho8 hg8
          have HX8 := Lib.hid (Ext.grown HX7.out hg8 HO7.out (Nat.le_refl _))
          refine ⟨rfl, hK _ _ (RB.below HX7.out.size (Below.grown (Below.refl _ _) hg8 HX7.out.size fun q hq => (HO7.out.lt q hq).1)) ?_⟩
          clear hK K
          have HO8 := Lib.hid (show OwnI w8 wr.heap.size v8 (c.drop k ++ c.take k) from by
            unfold OwnI
            rw [icells_app, List.length_append]
            simpa using ho8)
          have HTT := Lib.hid (loop_traces HNM.out HC.out hlt)
          have HTN := Lib.hid (show (c.drop k ++ c.take k).length = c.length by rw [List.length_append, List.length_drop, List.length_take]; omega)
          clear ho8 hg8 hlt
          generalize c.drop k ++ c.take k = T at *
          obtain ⟨xa, xc, hxv, x1, x2, -⟩ := HO8.out.ints.form
          rw [HTN.out] at hxv x1
          subst hxv
          unfold maxLen at x2
          refine WR_done (by kernel_rfl) ?_
          (try simp only [List.drop_succ_cons, List.drop_zero])
          go_upto_region 13 with fail
          refine hideW (Φ := fun W => Code.wp _ _ _ _ W) (fun W => Ext wr W ∧ OwnI W wr.heap.size (.slice xa c.length xc) T) ⟨HX8.out, HO8.out⟩ (fun W9 hW9 => ?_)
          obtain ⟨hx9, ho9⟩ := hW9
          have HX9 := Lib.hid hx9
          have HI9 := Lib.hid ho9.ints
          clear hx9 ho9
          have HXB := Lib.hid ((Ext.refl W9).alloc (.cells #[] 3))
          have HOB := Lib.hid (own_made W9 1 3 0 [] rfl (by unfold maxLen; omega))
          go_upto_region 14 with (first
            | (at_builtin
               refine wpList_app rfl (.tmp 70) (.tmp 71) 27 rfl W9.heap.size 3 _ 1 8 Try.underlying27 infoInt rfl (by decide) (by decide) _ _ _ rfl HO10.out _ _ _ rfl (HI9.out.later HX10.out) (icells_one _) (by have := HCL.out; rw [HTN.out]; omega) HX10.out.size ?_
               intro v11 w11 ho11 hg11
               have HX11 := Lib.hid (Ext.grown HX10.out hg11 HO10.out (Nat.le_refl _))
               have HO11 := Lib.hid (show OwnI w11 W9.heap.size v11 (T ++ T) from by
                 unfold OwnI
                 rw [icells_app, List.length_append]
                 simpa using ho11)
               obtain ⟨ya, yc, hyv, -, -, -⟩ := HO11.out.ints.form
               generalize hn2 : (T ++ T).length = n2 at hyv
               subst hyv
               clear ho11 hg11 hn2)
            | (at_builtin
               refine wpList_app rfl (.tmp 68) (.tmp 69) 27 rfl W9.heap.size 3 _ 1 8 Try.underlying27 infoInt rfl (by decide) (by decide) _ _ _ rfl HOB.out _ _ _ rfl (HI9.out.later HXB.out) (icells_one _) (by have := HCL.out; rw [HTN.out]; omega) HXB.out.size ?_
               intro v10 w10 ho10 hg10
               have HX10 := Lib.hid (Ext.grown HXB.out hg10 HOB.out (Nat.le_refl _))
               have HO10 := Lib.hid ho10
               clear ho10 hg10))
          have HX5W := Lib.hid (HX.out.trans (HX9.out.trans HX11.out))
          have HV1 := Lib.hid (HI9.out.later HX11.out)
          have HV2 := Lib.hid HO11.out.ints
          have HV3 := Lib.hid (ints_from (k := 1) HV1.out (by rw [HTN.out]; have := HC0.out; omega))
          rw [HTN.out] at HV3
          have HW1 := Lib.hid (fun (W : World) (h : Ext w11 W) => HCT.out W _ T (HX5W.out.trans h) (HV1.out.later h))
          have HW2 := Lib.hid (fun (W : World) (h : Ext w11 W) => HCT.out W _ (T ++ T) (HX5W.out.trans h) (HV2.out.later h))
          have HW3 := Lib.hid (fun (W : World) (h : Ext w11 W) => HCT.out W _ (T.drop 1) (HX5W.out.trans h) (HV3.out.later h))
          rw [HTT.out.1] at HW1
          rw [HTT.out.2.1] at HW2
          have hbk2 := (HB5.out.later HX5W.out).keep
          by_cases h1c : 1 < c.length
          · have hcd : decide (1 < (c.length : Int)) = true := decide_eq_true (by omega)
            rw [HTT.out.2.2 h1c] at HW3
            have h1k : 1 ≤ c.length := by omega
            clear h1c
            refine wp_region_E 24 rfl (by kernel_rfl) (by kernel_rfl) ?_
            refine WEi_at 0 ?_
            iterate 3
              refine WEi_q rfl (by decide) (by kernel_rfl) rfl ?_; apply Exists.intro; refine ⟨fun w1 hx1 => ?_, ?_⟩
              · have hq1 := hx1.cells; go_simp; try go_bits
                first | with_reducible rfl
              simp only [Act.put, List.setIfInBounds_toArray, List.set_cons_zero, List.set_cons_succ, Nat.reduceAdd]
            refine WEi_out ?_
            refine WE_q 3 rfl (by decide) (by kernel_rfl) rfl ?_; apply Exists.intro; refine ⟨fun w1 hx1 => ?_, ?_⟩
            · have hq1 := hx1.cells; go_simp; try go_bits
              first | with_reducible rfl | ((refine (HW1.out _ hx1).mono ?_; rintro e w' ⟨rfl, hx⟩; exact ⟨rfl, hx⟩))
            simp only [Act.put, List.setIfInBounds_toArray, List.set_cons_zero, List.set_cons_succ]
            refine WEi_at 4 ?_
            iterate 5
              refine WEi_q rfl (by decide) (by kernel_rfl) rfl ?_; apply Exists.intro; refine ⟨fun w1 hx1 => ?_, ?_⟩
              · have hq1 := hx1.cells; go_simp; try go_bits
                first | with_reducible rfl
              simp only [Act.put, List.setIfInBounds_toArray, List.set_cons_zero, List.set_cons_succ, Nat.reduceAdd]
            refine WEi_out ?_
            refine WE_q 9 rfl (by decide) (by kernel_rfl) rfl ?_; apply Exists.intro; refine ⟨fun w1 hx1 => ?_, ?_⟩
            · have hq1 := hx1.cells; go_simp; try go_bits
              first | with_reducible rfl | ((refine (HW2.out _ hx1).mono ?_; rintro e w' ⟨rfl, hx⟩; exact ⟨rfl, hx⟩))
            simp only [Act.put, List.setIfInBounds_toArray, List.set_cons_zero, List.set_cons_succ]
            refine WEi_at 10 ?_
            iterate 10
              refine WEi_q rfl (by decide) (by kernel_rfl) rfl ?_; apply Exists.intro; refine ⟨fun w1 hx1 => ?_, ?_⟩
              · have hq1 := hx1.cells; go_simp; try go_bits
                first | with_reducible rfl
              simp only [Act.put, List.setIfInBounds_toArray, List.set_cons_zero, List.set_cons_succ, Nat.reduceAdd]
            refine WEi_out ?_
            refine WE_q 20 rfl (by decide) (by kernel_rfl) rfl ⟨_, fun w1 hx1 => quietE_of_run (run_slice_from rfl Try.underlying27 sizeInt rfl rfl h1k), ?_⟩
            simp only [Act.put, List.setIfInBounds_toArray, List.set_cons_zero, List.set_cons_succ]
            refine WE_q 21 rfl (by decide) (by kernel_rfl) rfl ?_; apply Exists.intro; refine ⟨fun w1 hx1 => ?_, ?_⟩
            · have hq1 := hx1.cells; go_simp; try go_bits
              first | with_reducible rfl | ((refine (HW3.out _ hx1).mono ?_; rintro e w' ⟨rfl, hx⟩; exact ⟨rfl, hx⟩))
            simp only [Act.put, List.setIfInBounds_toArray, List.set_cons_zero, List.set_cons_succ]
            refine WEi_at 22 ?_
            iterate 2
              refine WEi_q rfl (by decide) (by kernel_rfl) rfl ?_; apply Exists.intro; refine ⟨fun w1 hx1 => ?_, ?_⟩
              · have hq1 := hx1.cells; go_simp; try go_bits
                first | with_reducible rfl
              simp only [Act.put, List.setIfInBounds_toArray, List.set_cons_zero, List.set_cons_succ, Nat.reduceAdd]
            refine WEi_out ?_
            refine WE_done (by kernel_rfl) (fun w13 hx13 => ?_)
            (try simp only [List.drop_succ_cons, List.drop_zero])
            have HX13 := Lib.hid (HX5W.out.trans hx13)
            go_wp2_with fail
            go_roundw
            case rel => exact ⟨k + 1, Nat.succ_le_of_lt HLT.out, by go_num, HX13.out⟩
            case measure => have := HLT.out; simp [intOf]; omega
          · have hcd : decide (1 < (c.length : Int)) = false := decide_eq_false (by omega)
            clear h1c
            refine wp_region_E 24 rfl (by kernel_rfl) (by kernel_rfl) ?_
            refine WEi_at 0 ?_
            iterate 3
              refine WEi_q rfl (by decide) (by kernel_rfl) rfl ?_; apply Exists.intro; refine ⟨fun w1 hx1 => ?_, ?_⟩
              · have hq1 := hx1.cells; go_simp; try go_bits
                first | with_reducible rfl
              simp only [Act.put, List.setIfInBounds_toArray, List.set_cons_zero, List.set_cons_succ, Nat.reduceAdd]
            refine WEi_out ?_
            refine WE_q 3 rfl (by decide) (by kernel_rfl) rfl ?_; apply Exists.intro; refine ⟨fun w1 hx1 => ?_, ?_⟩
            · have hq1 := hx1.cells; go_simp; try go_bits
              first | with_reducible rfl | ((refine (HW1.out _ hx1).mono ?_; rintro e w' ⟨rfl, hx⟩; exact ⟨rfl, hx⟩))
            simp only [Act.put, List.setIfInBounds_toArray, List.set_cons_zero, List.set_cons_succ]
            refine WEi_at 4 ?_
            iterate 5
              refine WEi_q rfl (by decide) (by kernel_rfl) rfl ?_; apply Exists.intro; refine ⟨fun w1 hx1 => ?_, ?_⟩
              · have hq1 := hx1.cells; go_simp; try go_bits
                first | with_reducible rfl
              simp only [Act.put, List.setIfInBounds_toArray, List.set_cons_zero, List.set_cons_succ, Nat.reduceAdd]
            refine WEi_out ?_
            refine WE_q 9 rfl (by decide) (by kernel_rfl) rfl ?_; apply Exists.intro; refine ⟨fun w1 hx1 => ?_, ?_⟩
            · have hq1 := hx1.cells; go_simp; try go_bits
              first | with_reducible rfl | ((refine (HW2.out _ hx1).mono ?_; rintro e w' ⟨rfl, hx⟩; exact ⟨rfl, hx⟩))
            simp only [Act.put, List.setIfInBounds_toArray, List.set_cons_zero, List.set_cons_succ]
            refine WEi_at 10 ?_
            iterate 7
              refine WEi_q rfl (by decide) (by kernel_rfl) rfl ?_; apply Exists.intro; refine ⟨fun w1 hx1 => ?_, ?_⟩
              · have hq1 := hx1.cells; go_simp; try go_bits
                first | with_reducible rfl
              simp only [Act.put, List.setIfInBounds_toArray, List.set_cons_zero, List.set_cons_succ, Nat.reduceAdd]
            refine WEi_out ?_
            refine WEi_at 17 ?_
            iterate 6
              refine WEi_s rfl (by decide) (by kernel_rfl) rfl ?_
              simp only [Act.put, List.setIfInBounds_toArray, List.set_cons_zero, List.set_cons_succ, Nat.reduceAdd]
            refine WEi_out ?_
            refine WE_q 23 rfl (by decide) (by kernel_rfl) rfl ?_; apply Exists.intro; refine ⟨fun w1 hx1 => ?_, ?_⟩
            · have hq1 := hx1.cells; go_simp; try go_bits
              first | with_reducible rfl
            simp only [Act.put, List.setIfInBounds_toArray, List.set_cons_zero, List.set_cons_succ]
            refine WE_done (by kernel_rfl) (fun w13 hx13 => ?_)
            (try simp only [List.drop_succ_cons, List.drop_zero])
            have HX13 := Lib.hid (HX5W.out.trans hx13)
            go_wp2_with fail
            go_roundw
            case rel => exact ⟨k + 1, Nat.succ_le_of_lt HLT.out, by go_num, HX13.out⟩
            case measure => have := HLT.out; simp [intOf]; omega
        · have hx0 := HX.out
          go_wp2_with (first
            | (go_at_call 25; (with_reducible refine (HCT.out _ _ _ HX.out (HNIL.out _)).mono ?_); rintro e w7 ⟨he, hx7⟩; rw [H17.out] at he; subst he; have HX7 := Lib.hid hx7; clear hx7))
          go_ret
          exact ⟨rfl, HXT.out.trans (HX.out.trans HX7.out)⟩
end Go.Proofs.Ytpfkfboohblgoaa
