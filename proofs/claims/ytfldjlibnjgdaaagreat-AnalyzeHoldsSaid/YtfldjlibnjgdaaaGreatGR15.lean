/- Vec13Cmp, R15: these texts in one. Conditions: each part names its own. -/
import Derived.Test.YtfldjlibnjgdaaaGreatGVec
import Derived.Test.YtfldjlibnjgdaaaGreatGRule
import Derived.Test.YtfldjlibnjgdaaaGreatGPl
/- How vectors stand, and which may be, by the reference; and numbers made a vector that may be. Conditions: whole numbers are within 64 bits. -/
namespace Go.Proofs.YtfldjlibnjgdaaaGreat
open Go.RowKit

set_option maxHeartbeats 1000000 in
theorem r13May_any (va : Value) (la : List Int) (w : World) (ha : IntsAt w va la) :
    Calls Tryz.prog 78 #[va] w fun e w' => e = .returned (I (vmayV la)) ∧ Ext w w' := by
  obtain ⟨a, cap, rfl, a1, a2, a3⟩ := ha.form
  have A3 := Lib.hid a3
  clear a3
  unfold maxLen at a2
  go_enter Tryz.func78, Tryz.ntmps78
  go_wp2_with fail
  go_loopw [3] (fun i wr => ∃ k : Nat, k ≤ la.length ∧ i = I k ∧ Hid (mayG la.length (la.drop k) = vmayV la) ∧ Ext w wr) (fun i _ => la.length - (intOf i).toNat)
  case atStart => exact ⟨0, by omega, rfl, rfl, Ext.refl w⟩
  case round =>
    obtain ⟨k, hk, rfl, HG, hx⟩ := hrel
    by_cases hlt : k < la.length
    · obtain ⟨b0, o0, rfl, p0⟩ := A3.out k la[k] (List.getElem?_eq_getElem hlt)
      replace p0 := hx.cell p0
      have HS := Lib.hid (mayG_step (n := la.length) hlt)
      rw [HG.out] at HS
      clear HG
      by_cases h1 : la[k] < -1
      · have hd : decide (la[k] < -1) = true := decide_eq_true h1
        have HS2 := Lib.hid (HS.out.trans (if_pos (.inl h1)))
        clear HS h1
        go_wp2_with fail
        go_ret
        exact ⟨ret_int HS2.out.symm, hx⟩
      · have hd : decide (la[k] < -1) = false := decide_eq_false h1
        by_cases h2 : (la.length : Int) ≤ la[k]
        · have hd2 : decide ((la.length : Int) ≤ la[k]) = true := decide_eq_true h2
          have HS2 := Lib.hid (HS.out.trans (if_pos (.inr h2)))
          clear HS h1 h2
          go_wp2_with fail
          go_ret
          exact ⟨ret_int HS2.out.symm, hx⟩
        · have hd2 : decide ((la.length : Int) ≤ la[k]) = false := decide_eq_false h2
          have HS2 := Lib.hid (HS.out.trans (if_neg (by omega)))
          clear HS h1 h2
          go_wp2_with fail
          go_roundw
          case rel => exact ⟨k + 1, by omega, by go_num, HS2.out.symm, hx⟩
          case measure => simp [intOf]; omega
    · have HE := Lib.hid (HG.out.symm.trans (mayG_end (n := la.length) (v := la) (k := k) (by omega)))
      go_wp2_with fail
      go_ret
      exact ⟨ret_int HE.out.symm, hx⟩
end Go.Proofs.YtfldjlibnjgdaaaGreat

/- theseusref15: May and Ranks. Conditions: whole numbers are within 64 bits. -/
namespace Go.Proofs.YtfldjlibnjgdaaaGreat
open Go.RowKit

theorem vok_may {v : List Int} (h : VOk v) : vmayV v = 0 := mayG_zero h
set_option maxHeartbeats 1000000 in
theorem r15May_any (va : Value) (v : List Int) (w : World) (hv : IntsAt w va v) (hok : VOk v) (hl : v.length ≤ 256) :
    Calls Tryz.prog 49 #[va] w fun e w' => e = .returned (I 0) ∧ Ext w w' := by
  have HV := Lib.hid hv
  obtain ⟨a, cap, rfl, a1, a2, a3⟩ := hv.form
  clear a3 hv
  unfold maxLen at a2
  have HM := Lib.hid (vok_may hok)
  go_enter Tryz.func49, Tryz.ntmps49
  go_wp2_with (first
    | (go_at_call 78; (with_reducible refine (r13May_any _ v _ HV.out).mono ?_); rintro e w2 ⟨he, hx2⟩; rw [HM.out] at he; subst he; have HX2 := Lib.hid hx2; clear hx2))
  go_ret
  exact ⟨rfl, HX2.out⟩
set_option maxHeartbeats 4000000 in
set_option maxRecDepth 100000 in
theorem r15Ranks_any (va : Value) (v : List Int) (w : World) (hv : IntsAt w va v) (hok : VOk v) (hl : v.length ≤ 256) :
    Calls Tryz.prog 25 #[va] w fun e w' => (∃ (u : Value) (rs : List Int), e = .returned (.tuple #[u, I 0]) ∧ RanksIs v rs ∧ OwnI w' w.heap.size u rs ∧ Ext w w') ∨ (e = .returned (.tuple #[.slice none 0 0, I 17]) ∧ (∃ x, OnL v x) ∧ Ext w w') := by
  have HV := Lib.hid hv
  have HOK := Lib.hid hok
  obtain ⟨a, cap, rfl, a1, a2, a3⟩ := hv.form
  have A3 := Lib.hid a3
  clear a3 hv
  unfold maxLen at a2
  go_enter Tryz.func25, Tryz.ntmps25
  go_upto_region 4 with (first
    | (go_at_call 49; (with_reducible refine (r15May_any _ v _ HV.out hok hl).mono ?_); rintro e w2 ⟨rfl, hx2⟩; have HX2 := Lib.hid hx2; clear hx2))
  clear hok
  go_upto_region 5 with fail
  refine hideW (Φ := fun W => Code.wp _ _ _ _ W) (fun W => Ext w2 W ∧ W.ownsRow w2.heap.size 3 1 (.slice (some ⟨w2.heap.size, 0, none⟩) 0 0) 0 [])
    ⟨by (repeat (first | with_reducible exact Ext.refl _ | with_reducible assumption | with_reducible refine Ext.alloc ?_ _ | with_reducible refine Ext.drew ?_ | with_reducible refine Ext.drewN ?_ _ | (with_reducible refine Ext.setCellP ?_ ?_; focus (first | (simp; done) | (simp; omega) | omega)))), own_made w2 1 3 0 [] rfl (by unfold maxLen; omega)⟩ (fun W3 hW3 => ?_)
  obtain ⟨hx3, ho3⟩ := hW3
  have HX3 := Lib.hid (HX2.out.trans hx3)
  have HO3 := Lib.hid (own_low ho3 HX2.out.size)
  clear hx3 ho3
  go_wp2_with fail
  go_loopw [5, 6] (fun o i wr => ∃ (k : Nat) (u : Value) (rs : List Int), k ≤ v.length ∧ i = I k ∧ o = u ∧ Hid (OwnI wr w.heap.size u rs) ∧ Hid (rs.length = k ∧ ∀ j, j < k → ∃ m : Nat, rs[j]? = some (m : Int) ∧ RankIs v j m) ∧ Hid (Ext w wr)) (fun _ i _ => v.length - (intOf i).toNat)
  case atStart => exact ⟨0, _, [], by omega, rfl, rfl, HO3.out, ⟨rfl, fun j h => absurd h (Nat.not_lt_zero j)⟩, HX3.out⟩
  case round =>
    obtain ⟨k, u, rs, hk, rfl, rfl, HO, HR, HX⟩ := hrel
    obtain ⟨ua, ucap, hu, ub1, ub2, -⟩ := HO.out.ints.form
    rw [HR.out.1] at hu ub1
    subst hu
    unfold maxLen at ub2
    by_cases hlt : k < v.length
    · have hkd : decide ((k : Int) < (v.length : Int)) = true := decide_eq_true (by omega)
      have HLT := Lib.hid hlt
      obtain ⟨wo, rfl⟩ : ∃ wo : World, wo = wr := ⟨_, rfl⟩
      go_wp2_with fail
      go_loopw [7, 8] (fun n x wq => ∃ m q : Nat, m ≤ v.length ∧ n = I m ∧ x = I q ∧ q < v.length ∧ Hid (itv v m k = (q : Int)) ∧ wq = wo) (fun n _ _ => v.length + 1 - (intOf n).toNat)
      case atStart => exact ⟨0, k, by omega, rfl, rfl, hlt, rfl, rfl⟩
      case round =>
        obtain ⟨m, q, hm, rfl, rfl, hq, HQ, hwq⟩ := hrel
        obtain rfl := hwq.symm
        obtain ⟨b, o, he, hc⟩ := A3.out q _ (List.getElem?_eq_getElem hq)
        subst he
        replace hc := HX.out.cell hc
        have HNX := Lib.hid (show itv v (m + 1) k = v[q] by rw [itv_out, HQ.out, nxv_at hq])
        have hvb := HOK.out _ (List.getElem_mem hq)
        have HVB := Lib.hid hvb
        generalize v[q] = y at *
        by_cases hy : 0 ≤ y
        · have hyd : decide (0 ≤ y) = true := decide_eq_true hy
          obtain ⟨z, rfl⟩ : ∃ z : Nat, y = z := ⟨y.toNat, by omega⟩
          by_cases hml : m < v.length
          · have hmd : decide ((v.length : Int) < (m : Int) + 1) = false := decide_eq_false (by omega)
            have hmn : decide (v.length < m + 1) = false := decide_eq_false (by omega)
            have HML := Lib.hid hml
            clear hvb
            go_wp2_with fail
            go_roundw
            case rel => exact ⟨m + 1, z, Nat.succ_le_of_lt HML.out, by go_num, rfl, by have := HVB.out; omega, HNX.out, trivial⟩
            case measure => have := HML.out; simp [intOf]; omega
          · have hmd : decide ((v.length : Int) < (m : Int) + 1) = true := decide_eq_true (by omega)
            have hmn : decide (v.length < m + 1) = true := decide_eq_true (by omega)
            have HON := Lib.hid (show ∃ x, OnL v x from on_of_no_end HOK.out (x := (k : Int)) ⟨by omega, by omega⟩ (k := m + 1) (by omega) (by rw [HNX.out]; omega))
            clear hvb
            go_wp2_with fail
            go_ret2
            exact .inr ⟨rfl, HON.out, HX.out⟩
        · have hyd : decide (0 ≤ y) = false := decide_eq_false hy
          have HRK := Lib.hid (show RankIs v k m from ⟨by rw [HQ.out]; exact ⟨by omega, by omega⟩, by rw [HNX.out]; omega⟩)
          have HXA := Lib.hid ((Ext.refl wo).alloc (.cells #[I (m : Int)] 3))
          have HOA := Lib.hid (show (wo.alloc (.cells #[I (m : Int)] 3)).ownsRow w.heap.size 3 1 (.slice ua k ucap) k (icells rs) from by have h := HO.out.later HXA.out; unfold OwnI at h; rw [HR.out.1] at h; exact h)
          have HSRC := Lib.hid (Reads.made wo 1 3 1 [I (m : Int)] rfl (by unfold maxLen; omega))
          have HSZ := Lib.hid (show w.heap.size ≤ (wo.alloc (.cells #[I (m : Int)] 3)).heap.size from (HX.out.trans HXA.out).size)
          clear hvb
          go_wp2_with (first
            | (at_builtin
               go_loud (
                 refine wpList_app rfl (.tmp 37) (.tmp 39) 28 rfl w.heap.size 3 _ 1 8 Tryz.underlying28 infoInt rfl (by decide) (by decide) _ _ _ rfl HOA.out _ _ _ rfl HSRC.out (by intro q hq; simp at hq; subst hq; rfl) (by omega) HSZ.out ?_
                 intro v7 w7 ho7 hg7
                 have HXG := Lib.hid (Ext.grown (HX.out.trans HXA.out) hg7 HOA.out (Nat.le_refl _))
                 have HO7 := Lib.hid (show OwnI w7 w.heap.size v7 (rs ++ [(m : Int)]) from by
                   unfold OwnI
                   rw [List.length_append, HR.out.1, icells_app]
                   exact ho7)
                 clear ho7 hg7)))
          go_roundw
          case rel =>
            refine ⟨k + 1, _, rs ++ [(m : Int)], Nat.succ_le_of_lt HLT.out, by go_num, rfl, HO7.out, ⟨by rw [List.length_append, HR.out.1]; rfl, fun j hj => ?_⟩, HXG.out⟩
            rcases Nat.lt_or_ge j k with g | g
            · obtain ⟨n, h1, h2⟩ := HR.out.2 j g
              exact ⟨n, by rw [List.getElem?_append_left (by rw [HR.out.1]; exact g)]; exact h1, h2⟩
            · obtain rfl : j = k := by omega
              exact ⟨m, by rw [List.getElem?_append_right (by rw [HR.out.1]; exact Nat.le_refl _), HR.out.1, Nat.sub_self]; rfl, HRK.out⟩
          case measure => have := HLT.out; simp [intOf]; omega
    · have hkd : decide ((k : Int) < (v.length : Int)) = false := decide_eq_false (by omega)
      obtain rfl : k = v.length := by omega
      go_wp2_with fail
      go_ret2
      exact .inl ⟨_, rs, rfl, HR.out, HO.out, HX.out⟩
end Go.Proofs.YtfldjlibnjgdaaaGreat
