/- What makes vectors: made, and what it makes. Conditions: whole numbers are within 64 bits. -/
import Derived.Test.YtilaljdokpdcoaaMaker
import Derived.Test.YtilaljdokpdcoaaVec13
namespace Go.Proofs.Ytilaljdokpdcoaa
open Go.RowKit

theorem infoFind : (Try.prog.info? 80).map (fun i => (i.zero, i.size, i.bytes)) = some (some .nilFunc, 1, 8) := by kernel_rfl
theorem len_size {ls : List (List Rul)} {k : Nat} (h : k < ls.length) : ls[k].length ≤ sizeN ls := by
  have h1 := sizeN_step h
  have h2 := sizeN_take ls (k + 1)
  omega
set_option maxHeartbeats 2000000 in
theorem vecNew_bad (lv : Value) (ls : List (List Rul)) (w : World) (hl : TablesAt w lv ls) (hok : TablesOk ls) (hs : sizeN ls ≤ 100000000) (hm : netMayV ls ≠ 0) :
    Calls Try.prog 16 #[.agg #[lv]] w fun e w' => e = .returned (.tuple #[.pointer none, I (netMayV ls)]) ∧ Ext w w' := by
  have HL := Lib.hid hl
  obtain ⟨ad, cap, rfl, a1, a2, a3⟩ := hl.form
  have HX := Lib.hid ((Ext.refl w).alloc (.cells #[Value.slice ad ls.length cap] 24))
  have hmd : (netMayV ls != 0) = true := by simpa using hm
  clear a3 hl hm
  go_enter Try.func16, Try.ntmps16
  go_wp2_with (first
    | (go_at_call 46; (with_reducible refine (netMay_any _ ls _ (HL.out.later HX.out) hok hs).mono ?_); rintro e w2 ⟨rfl, hx2⟩; have HX2 := Lib.hid hx2; clear hx2))
  go_ret2
  exact ⟨rfl, HX.out.trans HX2.out⟩
set_option maxHeartbeats 2000000 in
set_option maxRecDepth 100000 in
theorem vecNew_good (lv : Value) (ls : List (List Rul)) (w : World) (hl : TablesAt w lv ls) (hok : TablesOk ls) (hm : netMayV ls = 0) (hs : sizeN ls ≤ 4096) :
    Calls Try.prog 16 #[.agg #[lv]] w fun e w' => ∃ mb, e = .returned (.tuple #[.pointer (some ⟨mb, 0, none⟩), I 0]) ∧ MakerAt w' w.heap.size mb ls ∧ Ext w w' := by
  have HL := Lib.hid hl
  obtain ⟨ad, cap, rfl, a1, a2, a3⟩ := hl.form
  have A3 := Lib.hid a3
  have HM := Lib.hid hm
  have HOK := Lib.hid hok
  have hlen := (netMay_tabs hm).1
  clear a3 hl hm hok
  unfold maxLen at a2
  go_enter Try.func16, Try.ntmps16
  go_upto_region 1 with (fail)
  refine hideW (Φ := fun W => Code.wp _ _ _ _ W) (fun W => Ext w W ∧ Blk W w.heap.size [.slice ad ls.length cap] 24)
    ⟨by (repeat (first | with_reducible exact Ext.refl _ | with_reducible assumption | with_reducible refine Ext.alloc ?_ _ | with_reducible refine Ext.drew ?_ | with_reducible refine Ext.drewN ?_ _ | (with_reducible refine Ext.setCellP ?_ ?_; focus (first | (simp; done) | (simp; omega) | omega)))), Blk.new w [.slice ad ls.length cap] 24⟩ (fun W1 hW1 => ?_)
  obtain ⟨hx1, hb1⟩ := hW1
  have HB := Lib.hid hb1
  have HX1 := Lib.hid hx1
  have hbc := hb1.cells
  clear hb1 hx1
  generalize hnb : w.heap.size = nb at *
  go_upto_region 4 with (first
    | (go_at_call 46; (with_reducible refine (netMay_any _ ls _ (HL.out.later HX1.out) HOK.out (by omega)).mono ?_); rintro e w2 ⟨he, hx2⟩; rw [HM.out] at he; subst he; have HX2 := Lib.hid hx2; clear hx2))
  go_upto_region 5 with (fail)
  refine hideW (Φ := fun W => Code.wp _ _ _ _ W) (fun W => Ext w2 W ∧ Blk W w2.heap.size [.slice none 0 0] 77)
    ⟨by (repeat (first | with_reducible exact Ext.refl _ | with_reducible assumption | with_reducible refine Ext.alloc ?_ _ | with_reducible refine Ext.drew ?_ | with_reducible refine Ext.drewN ?_ _ | (with_reducible refine Ext.setCellP ?_ ?_; focus (first | (simp; done) | (simp; omega) | omega)))), Blk.new w2 [.slice none 0 0] 77⟩ (fun W3 hW3 => ?_)
  obtain ⟨hx3, hm3⟩ := hW3
  have HX3 := Lib.hid hx3
  have HM3 := Lib.hid hm3
  have HXB := Lib.hid (HX1.out.trans HX2.out)
  have hbc3 := (HB.out.later (HX2.out.trans hx3)).cells
  have hnm : nb ≤ w2.heap.size := hnb ▸ HXB.out.size
  clear hx3 hm3 hbc
  generalize hmb : w2.heap.size = mb at *
  have HMB := Lib.hid (show w2.heap.size ≤ mb from Nat.le_of_eq hmb)
  have HNB := Lib.hid (show w.heap.size ≤ nb from Nat.le_of_eq hnb)
  clear hmb hnb
  go_wp2_with fail
  go_loopw [7, 8, 19] (fun _ _ i wr => ∃ (k : Nat) (v : Value), k ≤ ls.length ∧ i = I k ∧ Hid (Blk wr mb [v] 77) ∧ Hid (FindsAt wr (mb + 1) v (ls.take k)) ∧ Hid (Ext w2 wr)) (fun _ _ i _ => ls.length - (intOf i).toNat)
  case atStart => exact ⟨0, .slice none 0 0, by omega, rfl, HM3.out, FindsAt.nil _ _, HX3.out⟩
  case round =>
    obtain ⟨k, v, hk, rfl, HMK, HF, HX⟩ := hrel
    by_cases hlt : k < ls.length
    · obtain ⟨b0, o0, u, rfl, p0, hru⟩ := A3.out k ls[k] (List.getElem?_eq_getElem hlt)
      have HXW := Lib.hid (HXB.out.trans HX.out)
      have p1 := HXW.out.cell p0
      have HRU := Lib.hid (hru.later HXW.out)
      have HOKK := Lib.hid (HOK.out.at hlt)
      have hll := len_size hlt
      have HLK := Lib.hid (show (ls.take k).length = k by rw [List.length_take]; omega)
      clear p0 hru
      obtain ⟨va, vcap, hv, v1, v2⟩ := HF.out.form
      rw [HLK.out] at hv v1
      subst hv
      go_upto_region 9 with (first
        | (go_at_call 47; (with_reducible refine (trieBuild_any _ ls[k] _ HRU.out HOKK.out (by omega)).mono ?_); rintro e w4 ⟨tb, tv, tbs, he, hT, hx4⟩; subst he; have HT := Lib.hid hT; have HX4 := Lib.hid hx4; clear hT hx4))
      have HTK := Lib.hid (show ls.take (k + 1) = ls.take k ++ [ls[k]] from List.take_succ_eq_append_getElem hlt)
      have HMK4 := Lib.hid (HMK.out.later HX4.out)
      have hmc := HMK4.out.cells
      have HA := Lib.hid (HX4.out.alloc (.cells #[findF tb] 80))
      have HMK5 := Lib.hid (HMK4.out.later ((Ext.refl w4).alloc (.cells #[findF tb] 80)))
      have hmc5 := HMK5.out.cells
      have hmf5 := HMK5.out.frozen
      have HT5 := Lib.hid ((HT.out.later ((Ext.refl w4).alloc (.cells #[findF tb] 80))).lower (B' := mb + 1) HMK.out.lt)
      have HS := Lib.hid (show (w4.alloc (.cells #[findF tb] 80)).cell? ⟨w4.heap.size, 0, none⟩ = some (findF tb) from (Blk.new w4 [findF tb] 80).cells 0)
      have HZ := Lib.hid (show mb + 1 ≤ (w4.alloc (.cells #[findF tb] 80)).heap.size from HMK5.out.lt)
      have HF5 := HF.out.later HA.out
      unfold FindsAt at HF5
      rw [HLK.out] at HF5
      obtain ⟨fs, hown, hfs⟩ := HF5
      have HOWN := Lib.hid hown
      have HFS := Lib.hid hfs
      clear hown hfs
      go_wp2_with (first
        | (at_builtin; refine wpList_app1 rfl (.tmp 29) (.tmp 32) 75 rfl (mb + 1) 80 _ 8 Try.underlying75 infoFind rfl (by decide) _ _ _ rfl HOWN.out _ rfl _ HS.out rfl (by omega) HZ.out ?_; intro v7 w7 ho7 hg7 hloc7
           have HB7 := Lib.hid (show Below (mb + 1) (w4.alloc (.cells #[findF tb] 80)) w7 from Below.grown (Below.refl _ _) hg7 HZ.out fun q hq => (HOWN.out.lt q hq).1)
           have HF7 := Lib.hid (show FindsAt w7 (mb + 1) v7 (ls.take (k + 1)) by
             have e := HLK.out
             rw [HTK.out]
             exact FindsAt.app (by rw [e]; exact HOWN.out) HFS.out (by rw [e]; exact ho7) hg7 HT5.out)
           have HMK7 := Lib.hid (show Blk w7 mb [.slice va k vcap] 77 from blk_below HMK5.out (Nat.lt_succ_self _) HB7.out)
           have HX7 := Lib.hid (show Ext w2 w7 from Ext.grown (HX.out.trans HA.out) hg7 HOWN.out (Nat.le_trans HMB.out (Nat.le_succ _)))
           have HLK7 := Lib.hid (show (ls.take (k + 1)).length = k + 1 by rw [List.length_take]; omega)
           obtain ⟨va7, vcap7, hv7, q1, q2⟩ := HF7.out.form
           rw [HLK7.out] at hv7 q1
           subst hv7
           clear ho7 hg7 hloc7
           have hc7 := HMK7.out.cells
           have hf7 := HMK7.out.frozen))
      go_roundw
      case rel =>
        exact ⟨k + 1, _, by omega, by go_num, HMK7.out.set 0 _, HF7.out.setCell (Nat.lt_succ_self _) _, HX7.out.setCell HMB.out _⟩
      case measure => simp [intOf]; omega
    · have HE := Lib.hid (show ls.take k = ls by rw [List.take_of_length_le (by omega)])
      go_wp2_with fail
      go_ret2
      refine ⟨mb, rfl, ⟨by have := HNB.out; omega, v, HMK.out, ?_⟩, HXB.out.trans HX.out⟩
      have := HF.out
      rw [HE.out] at this
      exact this.lower (by have := HXB.out.size; have := HMB.out; omega)
end Go.Proofs.Ytilaljdokpdcoaa
