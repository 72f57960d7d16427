/- The points of all parts, by the program and by the reference. Conditions: whole numbers are within 64 bits; no more rules and parts than the proved part takes. -/
import Derived.Test.YtpfkfboohblgoaaPoints
import Derived.Test.YtpfkfboohblgoaaMeet
namespace Go.Proofs.Ytpfkfboohblgoaa
open Go.RowKit

set_option maxHeartbeats 2000000 in
theorem coverAll_no (lv pv : Value) (ls : List (List Rul)) (ps : List Prt) (w : World) (hl : TablesAt w lv ls) (hp : PartsAt w pv ps) (hm : meetV ps = 15) :
    Calls Try.prog 88 #[.agg #[lv], pv] w fun e w' => e = .returned (.tuple #[.slice none 0 0, I 15]) ∧ Ext w w' := by
  have HP := Lib.hid hp
  have HM := Lib.hid hm
  obtain ⟨ad, cap, rfl, a1, a2, a3⟩ := hl.form
  obtain ⟨pd, pcap, hpv, p1, p2, p3⟩ := hp.form
  subst hpv
  clear a3 p3 hl hp hm
  unfold maxLen at a2 p2
  have HX := Lib.hid (show Ext w (w.alloc (.cells #[.slice ad ls.length cap] 24)) by (repeat (first | with_reducible exact Ext.refl _ | with_reducible assumption | with_reducible refine Ext.alloc ?_ _ | with_reducible refine Ext.drew ?_ | with_reducible refine Ext.drewN ?_ _ | (with_reducible refine Ext.setCellP ?_ ?_; focus (first | (simp; done) | (simp; omega) | omega)))))
  go_enter Try.func88, Try.ntmps88
  go_wp2_with (first
    | (go_at_call 86; (with_reducible refine (certMeet_any _ ps _ (HP.out.later HX.out)).mono ?_); rintro e w2 ⟨he, hx2⟩; rw [HM.out] at he; subst he; have HX2 := Lib.hid (HX.out.trans hx2); clear hx2))
  go_ret2
  exact ⟨rfl, HX2.out⟩
set_option maxHeartbeats 2000000 in
theorem coverAll_yes (lv pv : Value) (ls : List (List Rul)) (ps : List Prt) (w : World) (hl : TablesAt w lv ls) (hok : TablesOk ls) (hs : sizeN ls ≤ 10000000) (hp : PartsAt w pv ps) (hn : ps.length ≤ 1000000) (hm : meetV ps = 0) :
    Calls Try.prog 88 #[.agg #[lv], pv] w fun e w' => ∃ v l, e = .returned (.tuple #[v, I 0]) ∧ Cuts ls.flatten l ∧ OwnUU w' w.heap.size v (pointsL l ps) ∧ Ext w w' := by
  have HL := Lib.hid hl
  have HOK := Lib.hid hok
  have HS := Lib.hid hs
  have HN := Lib.hid hn
  have HP := Lib.hid hp
  have HM := Lib.hid hm
  obtain ⟨ad, cap, rfl, a1, a2, a3⟩ := hl.form
  obtain ⟨pd, pcap, hpv, p1, p2, p3⟩ := hp.form
  subst hpv
  clear a3 p3 hl hp hm hs hok
  unfold maxLen at a2 p2
  go_enter Try.func88, Try.ntmps88
  go_upto_region 1 with (fail)
  refine hideW (Φ := fun W => Code.wp _ _ _ _ W) (fun W => Ext w W ∧ Blk W w.heap.size [.slice ad ls.length cap] 24)
    ⟨by (repeat (first | with_reducible exact Ext.refl _ | with_reducible assumption | with_reducible refine Ext.alloc ?_ _ | with_reducible refine Ext.drew ?_ | with_reducible refine Ext.drewN ?_ _ | (with_reducible refine Ext.setCellP ?_ ?_; focus (first | (simp; done) | (simp; omega) | omega)))), Blk.new w [.slice ad ls.length cap] 24⟩ (fun W1 hW1 => ?_)
  obtain ⟨hx1, hb1⟩ := hW1
  have HX1 := Lib.hid hx1
  have HB1 := Lib.hid hb1
  clear hx1 hb1
  generalize hnb : w.heap.size = nb at *
  have HNB := Lib.hid hnb
  clear hnb
  go_wp2_with (first
    | (go_at_call 86; (with_reducible refine (certMeet_any _ ps _ (HP.out.later HX1.out)).mono ?_); rintro e w2 ⟨he, hx2⟩; rw [HM.out] at he; subst he; have HX2 := Lib.hid (HX1.out.trans hx2); have hbc := (HB1.out.later hx2).cells; clear hx2)
    | (go_at_call 59; (with_reducible refine (coverPointsAll_any _ _ ls ps _ (HL.out.later HX2.out) HOK.out HS.out (HP.out.later HX2.out) HN.out).mono ?_); rintro e w3 ⟨v3, l, he, hC, hO, hx3⟩; subst he; have HC := Lib.hid hC; have HX3 := Lib.hid (HX2.out.trans hx3); have HO := Lib.hid (hO.low HX2.out.size); obtain ⟨va, vcap, hv3, q1, q2, q3⟩ := HO.out.read.form; have hv3' : v3 = .slice va (pointsL l ps).length vcap := hv3; subst hv3'; clear q1 q2 q3 hv3 hC hO hx3))
  go_ret2
  exact ⟨_, l, rfl, HC.out, by rw [← HNB.out]; exact HO.out, HX3.out⟩
set_option maxHeartbeats 2000000 in
set_option maxRecDepth 100000 in
theorem r19Points_any (lv : Value) (p : Prt) (ls : List (List Rul)) (w : World) (hl : TablesAt w lv ls) (hok : TablesOk ls) (hs : sizeN ls ≤ 10000000) :
    Calls Try.prog 52 #[.agg #[lv], p.val] w fun e w' => ∃ v l, e = .returned v ∧ Cuts ls.flatten l ∧ OwnU w' w.heap.size v (insideV l p.fr p.up) ∧ Ext w w' := by
  have HL := Lib.hid hl
  have HOK := Lib.hid hok
  have HS := Lib.hid hs
  obtain ⟨ad, cap, rfl, a1, a2, a3⟩ := hl.form
  clear a3 hl hok
  unfold maxLen at a2
  go_enter Try.func52, Try.ntmps52
  go_upto_region 1 with (fail)
  refine hideW (Φ := fun W => Code.wp _ _ _ _ W) (fun W => Ext w W ∧ Blk W w.heap.size [.slice ad ls.length cap] 24 ∧ Blk W (w.heap.size + 1) [U p.fr, U p.up, p.rk] 35)
    ⟨by (repeat (first | with_reducible exact Ext.refl _ | with_reducible assumption | with_reducible refine Ext.alloc ?_ _ | with_reducible refine Ext.drew ?_ | with_reducible refine Ext.drewN ?_ _ | (with_reducible refine Ext.setCellP ?_ ?_; focus (first | (simp; done) | (simp; omega) | omega)))), (Blk.new w [.slice ad ls.length cap] 24).old _, Blk.newAt [U p.fr, U p.up, p.rk] (by simp)⟩ (fun W1 hW1 => ?_)
  obtain ⟨hx1, hb1, hk1⟩ := hW1
  have HX1 := Lib.hid hx1
  have HL1 := Lib.hid (HL.out.later hx1)
  have HB1 := Lib.hid hb1
  have HK1 := Lib.hid hk1
  clear hx1 hb1 hk1
  generalize hnb : w.heap.size = nb at *
  have HNB := Lib.hid hnb
  clear hnb
  go_wp2_with fail
  refine wp_region_R (RB (W1.heap.size)) 6 rfl (by kernel_rfl) (by kernel_rfl) (fun w0 hx0 => ?_)
  have hsz : W1.heap.size ≤ w0.heap.size := hx0.size
  have hb0 := RB.keep (p := ⟨nb, 0, none⟩) hsz HB1.out.lt ((HB1.out.later hx0).cells 0)
  have hk0 := RB.keep (p := ⟨nb + 1, 0, none⟩) hsz HK1.out.lt ((HK1.out.later hx0).cells 0)
  have hk1 := RB.keep (p := ⟨nb + 1, 1, none⟩) hsz HK1.out.lt ((HK1.out.later hx0).cells 1)
  refine WR_q (preRB _) 0 rfl (by decide) (by kernel_rfl) rfl ?_; apply Exists.intro; refine ⟨fun w1 hx1 => ?_, ?_⟩
  · go_simp; try go_bits
    first | with_reducible rfl | rfl
  simp only [Act.put, List.setIfInBounds_toArray, List.set_cons_zero, List.set_cons_succ]
  refine WR_q (preRB _) 2 rfl (by decide) (by kernel_rfl) rfl ?_; apply Exists.intro; refine ⟨fun w1 hx1 => ?_, ?_⟩
  · go_simp; try go_bits
    first | with_reducible rfl | rfl
  simp only [Act.put, List.setIfInBounds_toArray, List.set_cons_zero, List.set_cons_succ]
  refine WR_q (preRB _) 3 rfl (by decide) (by kernel_rfl) rfl ?_; apply Exists.intro; refine ⟨fun w1 hx1 => ?_, ?_⟩
  · go_simp; try go_bits
    first | with_reducible rfl | rfl
  simp only [Act.put, List.setIfInBounds_toArray, List.set_cons_zero, List.set_cons_succ]
  refine WR_q (preRB _) 4 rfl (by decide) (by kernel_rfl) rfl ?_; apply Exists.intro; refine ⟨fun w1 hx1 => ?_, ?_⟩
  · go_simp; try go_bits
    first | with_reducible rfl | rfl
  simp only [Act.put, List.setIfInBounds_toArray, List.set_cons_zero, List.set_cons_succ]
  refine WR_q (preRB _) 5 rfl (by decide) (by kernel_rfl) rfl ?_; apply Exists.intro; refine ⟨fun w1 hx1 => ?_, ?_⟩
  · go_simp; try go_bits
    first | with_reducible rfl | rfl
  simp only [Act.put, List.setIfInBounds_toArray, List.set_cons_zero, List.set_cons_succ]
  refine WR_one 1 rfl (by decide) (by kernel_rfl) rfl (fun K hK => ?_)
  go_simp
  refine (r12Of_any _ ls _ (HL1.out.later hx0) HOK.out HS.out).mono ?_
  rintro e w2 ⟨v2, l, he, hU, hC, hx2⟩
  subst he
  refine hK _ _ (RB.ext hx2) ?_
  clear hK K hb0 hk0 hk1 hsz
  have HU2 := Lib.hid hU
  have HC := Lib.hid hC
  have HX2 := Lib.hid (hx0.trans hx2)
  have HLN := Lib.hid (show l.length ≤ 100000000 by have h1 := hC.len; rw [sizeN_flat] at h1; have := HS.out; omega)
  obtain ⟨la, lcap, hlv, l1, l2, l3⟩ := hU.form
  have hlv' : v2 = .slice la l.length lcap := hlv
  subst hlv'
  clear hU hC hx2 hx0 l3 hlv
  refine WR_done (by kernel_rfl) ?_
  (try simp only [List.drop_succ_cons, List.drop_zero])
  go_wp2_with (first
    | (go_at_call 90; (with_reducible refine (r12Inside_any _ l p.fr p.up _ HU2.out HLN.out).mono ?_); rintro e w3 ⟨v3, he, hO, hx3⟩; subst he; have HO3 := Lib.hid hO; have HX3 := Lib.hid (HX2.out.trans hx3); have HS3 := Lib.hid HX2.out.size
       obtain ⟨va, vcap, hv3, -⟩ := HO3.out.us.form; have hv3' : v3 = .slice va (insideV l p.fr p.up).length vcap := hv3; subst hv3'; clear hv3 hO hx3))
  go_ret
  exact ⟨_, l, rfl, HC.out, own_low HO3.out (Nat.le_trans HX1.out.size HS3.out), HX1.out.trans HX3.out⟩
end Go.Proofs.Ytpfkfboohblgoaa
