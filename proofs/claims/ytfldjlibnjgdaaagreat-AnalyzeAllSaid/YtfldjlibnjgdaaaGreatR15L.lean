/- theseusref15.Loop of a vector that may be. Conditions: whole numbers are within 64 bits. -/
import Derived.Test.YtfldjlibnjgdaaaGreatGR15
import Derived.Test.YtfldjlibnjgdaaaGreatGGr
namespace Go.Proofs.YtfldjlibnjgdaaaGreat
open Go.RowKit

theorem loop_at {v : List Int} (hv : VOk v) {k m : Nat} (hno : ∀ j : Nat, j < k → ¬ OnL v j) (h0 : 0 < m) (hb : itv v m k = k) (hf : ∀ j, 0 < j → j < m → itv v j k ≠ k) : LoopIs v (wayV v k m) := by
  refine .inr ⟨k, m, ⟨⟨by omega, m, h0, hb⟩, fun x hx => ?_⟩, ⟨h0, hb, hf⟩, rfl⟩
  have hi := hx.is hv
  refine Classical.byContradiction fun hc => ?_
  refine hno x.toNat (by have := hi.1; omega) ?_
  rw [Int.toNat_of_nonneg hi.1]; exact hx
theorem no_loop_end {v : List Int} {k m : Nat} (hy : itv v m k = -1) : ¬ OnL v k := fun h => h.not_ends ⟨m, hy⟩
theorem no_loop_far {v : List Int} (hv : VOk v) {k m : Nat} (hm : v.length ≤ m) (hy : itv v m k ≠ k) (hf : ∀ j, 0 < j → j < m → itv v j k ≠ k) : ¬ OnL v k := fun h => by
  obtain ⟨p, hp⟩ := h.per
  have hle := hp.le hv h.1
  rcases Nat.lt_or_ge p m with g | g
  · exact hf p hp.pos g hp.back
  · obtain rfl : p = m := by omega
    exact hy hp.back
set_option maxHeartbeats 4000000 in
set_option maxRecDepth 100000 in
theorem r15Loop_any (va : Value) (v : List Int) (w : World) (hv : IntsAt w va v) (hok : VOk v) (hl : v.length ≤ 256) :
    Calls Tryz.prog 23 #[va] w (GLoopOut v w) := by
  have HV := Lib.hid hv
  have HOK := Lib.hid hok
  obtain ⟨a, cap, rfl, a1, a2, a3⟩ := hv.form
  have A3 := Lib.hid a3
  clear a3 hv
  unfold maxLen at a2
  go_enter Tryz.func23, Tryz.ntmps23
  go_upto_region 4 with (first
    | (go_at_call 49; (with_reducible refine (r15May_any _ v _ HV.out hok hl).mono ?_); rintro e w2 ⟨rfl, hx2⟩; have HX2 := Lib.hid hx2; clear hx2))
  clear hok
  go_wp2_with fail
  go_loopw [5] (fun i wr => ∃ k : Nat, k ≤ v.length ∧ i = I k ∧ Hid (∀ j : Nat, j < k → ¬ OnL v j) ∧ Hid (Ext w wr)) (fun i _ => v.length - (intOf i).toNat)
  case atStart => exact ⟨0, Nat.zero_le _, rfl, fun j h => absurd h (Nat.not_lt_zero j), HX2.out⟩
  case round =>
    obtain ⟨k, hk, rfl, HN, HX⟩ := hrel
    by_cases hlt : k < v.length
    · have hkd : decide ((k : Int) < (v.length : Int)) = true := decide_eq_true (by omega)
      have HLT := Lib.hid hlt
      go_upto_region 8 with fail
      refine hideW (Φ := fun W => Code.wp _ _ _ _ W) (fun W => Ext wr W ∧ OwnI W w.heap.size (.slice (some ⟨wr.heap.size, 0, none⟩) 1 1) (wayV v k 1))
        ⟨by (repeat (first | with_reducible exact Ext.refl _ | with_reducible assumption | with_reducible refine Ext.alloc ?_ _ | with_reducible refine Ext.drew ?_ | with_reducible refine Ext.drewN ?_ _ | (with_reducible refine Ext.setCellP ?_ ?_; focus (first | (simp; done) | (simp; omega) | omega)))), own_low (own_made wr 1 3 1 [I k] rfl (by unfold maxLen; omega)) HX.out.size⟩ (fun W3 hW3 => ?_)
      obtain ⟨hx3, ho3⟩ := hW3
      have HX3 := Lib.hid (HX.out.trans hx3)
      have HO3 := Lib.hid ho3
      clear hx3 ho3
      generalize wr.heap.size = gb at *
      obtain ⟨b0, o0, he0, hc0⟩ := A3.out k _ (List.getElem?_eq_getElem hlt)
      subst he0
      have HC0 := Lib.hid hc0
      replace hc0 := HX3.out.cell hc0
      have HY0 := Lib.hid (show itv v 1 k = v[k] from nxv_at hlt)
      generalize v[k] = y0 at *
      go_wp2_with fail
      go_loopw [6, 7, 8] (fun o y n wq => ∃ (m : Nat) (u : Value) (yv : Int), 1 ≤ m ∧ m ≤ v.length ∧ n = I m ∧ y = I yv ∧ o = u ∧ Hid (itv v m k = yv) ∧ Hid (OwnI wq w.heap.size u (wayV v k m)) ∧ Hid (∀ j, 0 < j → j < m → itv v j k ≠ (k : Int)) ∧ Hid (Ext w wq)) (fun _ _ n _ => v.length - (intOf n).toNat)
      case atStart => exact ⟨1, _, y0, Nat.le_refl _, by omega, rfl, rfl, rfl, HY0.out, HO3.out, fun j h1 h2 => by omega, HX3.out⟩
      case round =>
        obtain ⟨m, u, y, hm1, hm, rfl, rfl, rfl, HY, HO, HF, HXq⟩ := hrel
        have HM1 := Lib.hid hm1
        have HWL := Lib.hid (wayV_len v k m)
        obtain ⟨ua, ucap, hu, ub1, ub2, -⟩ := HO.out.ints.form
        rw [HWL.out] at hu ub1
        subst hu
        unfold maxLen at ub2
        have HYB := Lib.hid (itv_ok HOK.out (x := (k : Int)) ⟨by omega, by omega⟩ m)
        clear hc0
        by_cases hyk : y = (k : Int)
        · have HYK := Lib.hid hyk
          have hy0 : decide (0 ≤ y) = true := decide_eq_true (by omega)
          have hyb : (y == (k : Int)) = true := by rw [hyk]; exact beq_self_eq_true _
          have hyn : (y != (k : Int)) = false := by rw [hyk]; exact bne_self_eq_false' _
          have HLI := Lib.hid (loop_at HOK.out HN.out HM1.out (by rw [HY.out, HYK.out]) HF.out)
          clear hyk
          by_cases hmn : m < v.length
          · have hmd : decide ((m : Int) < (v.length : Int)) = true := decide_eq_true (by omega)
            go_wp2_with fail
            go_ret2
            unfold GLoopOut
            exact ⟨_, _, rfl, HLI.out, HO.out, HXq.out⟩
          · have hmd : decide ((m : Int) < (v.length : Int)) = false := decide_eq_false (by omega)
            go_wp2_with fail
            go_ret2
            unfold GLoopOut
            exact ⟨_, _, rfl, HLI.out, HO.out, HXq.out⟩
        · have hyb : (y == (k : Int)) = false := beq_false_of_ne hyk
          have hyn : (y != (k : Int)) = true := bne_iff_ne.2 hyk
          have HYK := Lib.hid hyk
          clear hyk
          by_cases hy0 : 0 ≤ y
          · have hyd : decide (0 ≤ y) = true := decide_eq_true hy0
            obtain ⟨z, rfl⟩ : ∃ z : Nat, y = z := ⟨y.toNat, by omega⟩
            by_cases hmn : m < v.length
            · have hmd : decide ((m : Int) < (v.length : Int)) = true := decide_eq_true (by omega)
              have HMN := Lib.hid hmn
              have hzl : z < v.length := by
                have h := HYB.out
                rw [HY.out] at h
                rcases h with h | h
                · omega
                · have := h.2; omega
              obtain ⟨b1, o1, he1, hc1⟩ := A3.out z _ (List.getElem?_eq_getElem hzl)
              cases he1
              have HC1 := Lib.hid hc1
              have HNX := Lib.hid (show itv v (m + 1) k = v[z] by rw [itv_out, HY.out, nxv_at hzl])
              have HST := Lib.hid (show wayV v k (m + 1) = wayV v k m ++ [(z : Int)] by rw [wayV_step, HY.out])
              generalize v[z] = y2 at *
              have HXA := Lib.hid ((Ext.refl wr).alloc (.cells #[I (z : Int)] 3))
              have HOA := Lib.hid (show (wr.alloc (.cells #[I (z : Int)] 3)).ownsRow w.heap.size 3 1 (.slice ua m ucap) m (icells (wayV v k m)) from by have h := HO.out.later HXA.out; unfold OwnI at h; rw [HWL.out] at h; exact h)
              have HSRC := Lib.hid (Reads.made wr 1 3 1 [I (z : Int)] rfl (by unfold maxLen; omega))
              have HSZ := Lib.hid (show w.heap.size ≤ (wr.alloc (.cells #[I (z : Int)] 3)).heap.size from (HXq.out.trans HXA.out).size)
              clear hc1
              go_upto_region 13 with (first
                | (at_builtin
                   go_loud (
                     refine wpList_app rfl (.tmp 41) (.tmp 43) 28 rfl w.heap.size 3 _ 1 8 Tryz.underlying28 infoInt rfl (by decide) (by decide) _ _ _ rfl HOA.out _ _ _ rfl HSRC.out (by intro q hq; simp at hq; subst hq; rfl) (by omega) HSZ.out ?_
                     intro v7 w7 ho7 hg7
                     have HXG := Lib.hid (Ext.grown (HXq.out.trans HXA.out) hg7 HOA.out (Nat.le_refl _))
                     have HO7 := Lib.hid (show OwnI w7 w.heap.size v7 (wayV v k (m + 1)) from by
                       unfold OwnI
                       rw [HST.out, List.length_append, HWL.out, icells_app]
                       exact ho7)
                     clear ho7 hg7)))
              have hc1 := HXG.out.cell HC1.out
              go_wp2_with fail
              go_roundw
              case rel =>
                refine ⟨m + 1, _, y2, Nat.succ_le_succ (Nat.zero_le _), Nat.succ_le_of_lt HMN.out, by go_num, rfl, rfl, HNX.out, HO7.out, fun j h1 h2 => ?_, HXG.out⟩
                rcases Nat.lt_or_ge j m with g | g
                · exact HF.out j h1 g
                · obtain rfl : j = m := by omega
                  rw [HY.out]; exact HYK.out
              case measure => have := HMN.out; simp [intOf]; omega
            · have hmd : decide ((m : Int) < (v.length : Int)) = false := decide_eq_false (by omega)
              have HNL := Lib.hid (no_loop_far HOK.out (k := k) (m := m) (by omega) (by rw [HY.out]; exact HYK.out) HF.out)
              go_wp2_with fail
              go_roundw
              case rel =>
                refine ⟨k + 1, Nat.succ_le_of_lt HLT.out, by go_num, fun j hj => ?_, HXq.out⟩
                rcases Nat.lt_or_ge j k with g | g
                · exact HN.out j g
                · obtain rfl : j = k := by omega
                  exact HNL.out
              case measure => have := HLT.out; simp [intOf]; omega
          · have hyd : decide (0 ≤ y) = false := decide_eq_false hy0
            have HNL := Lib.hid (no_loop_end (k := k) (m := m) (show itv v m k = -1 from by
              rcases HYB.out with h | h
              · exact h
              · rw [HY.out] at h; exact absurd h.1 hy0))
            by_cases hmn : m < v.length
            · have hmd : decide ((m : Int) < (v.length : Int)) = true := decide_eq_true (by omega)
              go_wp2_with fail
              go_roundw
              case rel =>
                refine ⟨k + 1, Nat.succ_le_of_lt HLT.out, by go_num, fun j hj => ?_, HXq.out⟩
                rcases Nat.lt_or_ge j k with g | g
                · exact HN.out j g
                · obtain rfl : j = k := by omega
                  exact HNL.out
              case measure => have := HLT.out; simp [intOf]; omega
            · have hmd : decide ((m : Int) < (v.length : Int)) = false := decide_eq_false (by omega)
              go_wp2_with fail
              go_roundw
              case rel =>
                refine ⟨k + 1, Nat.succ_le_of_lt HLT.out, by go_num, fun j hj => ?_, HXq.out⟩
                rcases Nat.lt_or_ge j k with g | g
                · exact HN.out j g
                · obtain rfl : j = k := by omega
                  exact HNL.out
              case measure => have := HLT.out; simp [intOf]; omega
    · have hkd : decide ((k : Int) < (v.length : Int)) = false := decide_eq_false (by omega)
      have HNL := Lib.hid (show ∀ x, ¬ OnL v x from fun x hx => by
        have hi := hx.is HOK.out
        refine HN.out x.toNat (by have h1 := hi.1; have h2 := hi.2; omega) ?_
        rw [Int.toNat_of_nonneg hi.1]; exact hx)
      go_wp2_with fail
      go_ret2
      unfold GLoopOut
      exact ⟨.slice none 0 0, [], rfl, .inl ⟨rfl, HNL.out⟩, ⟨rfl, .inl ⟨rfl, rfl⟩⟩, HX.out⟩
end Go.Proofs.YtfldjlibnjgdaaaGreat
