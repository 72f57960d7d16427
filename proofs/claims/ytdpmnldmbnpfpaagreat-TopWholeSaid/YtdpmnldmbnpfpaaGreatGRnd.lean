/- RoundL, RoundW: these texts in one. Conditions: each part names its own. -/
import Derived.Test.YtdpmnldmbnpfpaaGreatGPl
import Derived.Test.YtdpmnldmbnpfpaaGreatGNetP
import Derived.Test.YtdpmnldmbnpfpaaGreatGAnaH
/- Whether an address goes round, by steps alone: plain laws. Conditions: none. -/
namespace Go.Proofs.YtdpmnldmbnpfpaaGreat
open Go.RowKit

/-- What a round of the inner loop keeps: so many steps, and none of them led back. -/
structure RdI (v : List Int) (u : Nat) (k : Nat) : Prop where
 on : isN v (itv v k u)
 no : ∀ j, 0 < j → j ≤ k → itv v j u ≠ u
theorem RdI.start {v : List Int} {u : Nat} (h : u < v.length) : RdI v u 0 :=
 ⟨⟨by show (0 : Int) ≤ (u : Int); omega, by show (u : Int) < v.length; omega⟩, fun j h1 h2 => by omega⟩
theorem RdI.next {v : List Int} {u k : Nat} (h : RdI v u k) (hn : isN v (itv v (k + 1) u)) (hne : itv v (k + 1) u ≠ u) : RdI v u (k + 1) :=
 ⟨hn, fun j h1 h2 => by
   rcases Nat.lt_or_ge k j with g | g
   · rw [show j = k + 1 by omega]; exact hne
   · exact h.no j h1 g⟩
theorem RdI.stop {v : List Int} {u k : Nat} (hn : itv v (k + 1) u = -1) : ¬ OnL v (u : Int) := fun h => h.not_ends ⟨k + 1, hn⟩
theorem RdI.done {v : List Int} (hv : VOk v) {u k : Nat} (h : RdI v u k) (hk : v.length ≤ k) : ¬ OnL v (u : Int) := fun ho => by
 obtain ⟨p, hp⟩ := ho.per
 exact h.no p hp.pos (Nat.le_trans (hp.le hv (by omega)) hk) hp.back
theorem RdI.met {v : List Int} {u k : Nat} (hn : itv v (k + 1) u = u) : ∃ x, OnL v x := ⟨u, by omega, k + 1, by omega, hn⟩
/-- What a round of the outer loop keeps. -/
def RdO (v : List Int) (k : Nat) : Prop := ∀ u, u < k → ¬ OnL v (u : Int)
theorem RdO.next {v : List Int} {k : Nat} (h : RdO v k) (hn : ¬ OnL v (k : Int)) : RdO v (k + 1) := fun u hu => by
 rcases Nat.lt_or_ge u k with g | g
 · exact h u g
 · rw [show u = k by omega]; exact hn
theorem RdO.done {v : List Int} (hv : VOk v) {k : Nat} (h : RdO v k) (hk : v.length ≤ k) : ¬ ∃ x, OnL v x := fun ⟨x, hx⟩ => by
 have hi := hx.is hv
 have h0 := hi.1
 have h1 := hi.2
 have := h x.toNat (by omega)
 rw [Int.toNat_of_nonneg h0] at this
 exact this hx
end Go.Proofs.YtdpmnldmbnpfpaaGreat

/- theseustop.round: whether an address goes round, by steps alone, by the program. Conditions: a network that may be. -/
namespace Go.Proofs.YtdpmnldmbnpfpaaGreat
open Go Go.RowKit Go.Maps Go.Proofs

set_option maxHeartbeats 4000000 in
set_option maxRecDepth 100000 in
theorem topRound_any (lv : Value) (ls : List (List Rul)) (a : BitVec 32) (w : World) (hl : TablesAt w lv ls) (hok : TablesOk ls) (hm : netMayV ls = 0) :
 Calls Tryz.prog 16 #[.agg #[lv], U a] w fun e w' => (∃ b, e = .returned (.bool b) ∧ (b = true ↔ ∃ x, OnL (vecV ls a) x)) ∧ Ext w w' := by
 have HL := Lib.hid hl
 have HOK := Lib.hid hok
 have HM := Lib.hid hm
 have HVK := Lib.hid (vec_ok hm a)
 have HVL := Lib.hid (vecV_len ls a)
 have hlen := (netMay_tabs hm).1
 obtain ⟨ad, cap, rfl, a1, a2, -⟩ := hl.form
 clear hl hok hm
 unfold maxLen at a2
 have HSN := Lib.hid (fun x y => step_nx (ls := ls) HM.out (a := a) (x := x) (y := y))
 have HSO := Lib.hid (fun x => step_no (ls := ls) HM.out (a := a) (x := x))
 have HST := Lib.hid (fun x W (h : TablesAt W (.slice ad ls.length cap) ls) => netStep_any _ ls a x W h HOK.out)
 generalize vecV ls a = v at *
 go_enter Tryz.func16, Tryz.ntmps16
 go_upto_region 1 with fail
 refine hideW (Φ := fun W => Code.wp _ _ _ _ W) (fun W => Ext w W ∧ Blk W w.heap.size [.slice ad ls.length cap] 24) ⟨by (repeat (first | with_reducible exact Ext.refl _ | with_reducible assumption | with_reducible refine Ext.alloc ?_ _ | with_reducible refine Ext.drew ?_ | with_reducible refine Ext.drewN ?_ _ | (with_reducible refine Ext.setCellP ?_ ?_; focus (first | (simp; done) | (simp; omega) | omega)))), Blk.new w [.slice ad ls.length cap] 24⟩ (fun W1 hW1 => ?_)
 obtain ⟨hx1, hb1⟩ := hW1
 have HX1 := Lib.hid hx1
 have HB1 := Lib.hid hb1
 have HL1 := Lib.hid (HL.out.later hx1)
 clear hx1 hb1
 generalize w.heap.size = nb at *
 go_wp2_with fail
 go_loopw [5] (fun i wr => ∃ k : Nat, k ≤ ls.length ∧ i = I k ∧ Hid (RdO v k) ∧ Hid (Ext W1 wr)) (fun i _ => ls.length - (intOf i).toNat)
 case atStart => exact ⟨0, Nat.zero_le _, rfl, Lib.hid (fun u hu => absurd hu (Nat.not_lt_zero u)), Lib.hid (Ext.refl _)⟩
 case round =>
  obtain ⟨k, hk, rfl, HR, HX⟩ := hrel
  have hbc := (HB1.out.later HX.out).cells
  by_cases hlt : k < ls.length
  · have HLT := Lib.hid hlt
    have HRS := Lib.hid (RdI.start (v := v) (u := k) (by rw [HVL.out]; exact hlt))
    obtain ⟨wo, rfl⟩ : ∃ wo : World, wo = wr := ⟨_, rfl⟩
    go_upto_block 1 with fail
    clear hbc
    go_cut [] (fun wc => Hid (¬ OnL v (k : Int)) ∧ Hid (Ext W1 wc))
    case first =>
     go_wp2_with fail
     go_loopw [6, 7] (fun x i wq => ∃ j : Nat, j ≤ ls.length ∧ i = I j ∧ x = I (itv v j k) ∧ Hid (RdI v k j) ∧ Hid (Ext W1 wq)) (fun _ i _ => ls.length - (intOf i).toNat)
     case atStart => exact ⟨0, Nat.zero_le _, rfl, rfl, HRS, HX⟩
     case round =>
      obtain ⟨j, hj, rfl, rfl, HI, HY⟩ := hrel
      have hbc := (HB1.out.later HY.out).cells
      by_cases hjl : j < ls.length
      · have HIT := Lib.hid (itv_out v j k)
        have HTT := Lib.hid (HST.out (itv v j k) wr (HL1.out.later HY.out))
        have HAN := Lib.hid (HSN.out (itv v j k))
        have HAO := Lib.hid (HSO.out (itv v j k))
        generalize itv v j k = x at *
        cases hs : stepN ls a x with
        | none =>
          rw [hs] at HTT
          have HNO := Lib.hid (RdI.stop (v := v) (u := k) (k := j) (by rw [HIT.out]; exact HAO.out.1 hs))
          clear hs
          go_wp2_with (first
           | (go_at_call 51; (with_reducible refine HTT.out.mono ?_); rintro e w5 ⟨he, hx⟩; subst he; have HY5 := Lib.hid (HY.out.trans hx); clear hx hbc))
          go_meet
          case rel => exact ⟨HNO, HY5⟩
        | some y =>
          rw [hs] at HTT
          have HIY := Lib.hid (show itv v (j + 1) k = y by rw [HIT.out]; exact ((HAN.out y).1 hs).1)
          have HYN := Lib.hid ((HAN.out y).1 hs).2
          have HYO := Lib.hid (itv_ok HVK.out (show isN v (k : Int) from HRS.out.on) (j + 1))
          clear hs
          by_cases hy : y = (k : Int)
          · have hyb : (y == (k : Int)) = true := by simp [hy]
            have HME := Lib.hid (RdI.met (v := v) (u := k) (k := j) (by rw [HIY.out]; exact hy))
            clear hy
            go_wp2_with (first
             | (go_at_call 51; (with_reducible refine HTT.out.mono ?_); rintro e w5 ⟨he, hx⟩; subst he; have HY5 := Lib.hid (HY.out.trans hx); clear hx hbc))
            go_ret
            exact ⟨⟨true, rfl, fun _ => HME.out, fun _ => rfl⟩, HX1.out.trans HY5.out⟩
          · have hyb : (y == (k : Int)) = false := by simp [hy]
            have HNE := Lib.hid (RdI.next HI.out (by
             rcases HYO.out with g | g
             · rw [HIY.out] at g; exact absurd g HYN.out
             · exact g) (by rw [HIY.out]; exact hy))
            clear hy
            go_wp2_with (first
             | (go_at_call 51; (with_reducible refine HTT.out.mono ?_); rintro e w5 ⟨he, hx⟩; subst he; have HY5 := Lib.hid (HY.out.trans hx); clear hx hbc))
            go_roundw
            case rel => exact ⟨j + 1, by omega, by go_num, by rw [HIY.out], HNE, HY5⟩
            case measure => simp [intOf]; omega
      · have HDN := Lib.hid (RdI.done HVK.out HI.out (by rw [HVL.out]; omega))
        go_wp2_with fail
        go_meet
        case rel => exact ⟨HDN, HY⟩
    case rest =>
     obtain ⟨HN, HXC⟩ := hcut
     go_wp2_with fail
     go_roundw
     case rel => exact ⟨k + 1, Nat.succ_le_of_lt HLT.out, by go_num, Lib.hid (RdO.next HR.out HN.out), HXC⟩
     case measure => have := HLT.out; simp [intOf]; omega
  · have HDN := Lib.hid (RdO.done HVK.out HR.out (by rw [HVL.out]; omega))
    go_wp2_with fail
    go_ret
    exact ⟨⟨false, rfl, fun h => (by cases h), fun h => absurd h HDN.out⟩, HX1.out.trans HX.out⟩
end Go.Proofs.YtdpmnldmbnpfpaaGreat
