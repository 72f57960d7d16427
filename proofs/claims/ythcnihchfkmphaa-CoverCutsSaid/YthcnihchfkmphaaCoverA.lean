/- The points of all parts, by the program and by the reference. Conditions: whole numbers are within 64 bits; no more rules and parts than the proved part takes. -/
import Derived.Test.YthcnihchfkmphaaPoints
import Derived.Test.YthcnihchfkmphaaMeet
namespace Go.Proofs.Ythcnihchfkmphaa
open Go.RowKit

set_option maxHeartbeats 2000000 in
theorem coverAll_no (lv pv : Value) (ls : List (List Rul)) (ps : List Prt) (w : World) (hl : TablesAt w lv ls) (hp : PartsAt w pv ps) (hm : meetV ps = 15) :
    Calls Try.prog 32 #[.agg #[lv], pv] w fun e w' => e = .returned (.tuple #[.slice none 0 0, I 15]) ∧ Ext w w' := by
  have HP := Lib.hid hp
  have HM := Lib.hid hm
  obtain ⟨ad, cap, rfl, a1, a2, a3⟩ := hl.form
  obtain ⟨pd, pcap, hpv, p1, p2, p3⟩ := hp.form
  subst hpv
  clear a3 p3 hl hp hm
  unfold maxLen at a2 p2
  have HX := Lib.hid (show Ext w (w.alloc (.cells #[.slice ad ls.length cap] 24)) by (repeat (first | with_reducible exact Ext.refl _ | with_reducible assumption | with_reducible refine Ext.alloc ?_ _ | with_reducible refine Ext.drew ?_ | with_reducible refine Ext.drewN ?_ _ | (with_reducible refine Ext.setCellP ?_ ?_; focus (first | (simp; done) | (simp; omega) | omega)))))
  go_enter Try.func32, Try.ntmps32
  go_wp2_with (first
    | (go_at_call 38; (with_reducible refine (certMeet_any _ ps _ (HP.out.later HX.out)).mono ?_); rintro e w2 ⟨he, hx2⟩; rw [HM.out] at he; subst he; have HX2 := Lib.hid (HX.out.trans hx2); clear hx2))
  go_ret2
  exact ⟨rfl, HX2.out⟩
set_option maxHeartbeats 2000000 in
theorem coverAll_yes (lv pv : Value) (ls : List (List Rul)) (ps : List Prt) (w : World) (hl : TablesAt w lv ls) (hok : TablesOk ls) (hs : sizeN ls ≤ 10000000) (hp : PartsAt w pv ps) (hn : ps.length ≤ 1000000) (hm : meetV ps = 0) :
    Calls Try.prog 32 #[.agg #[lv], pv] w fun e w' => ∃ v l, e = .returned (.tuple #[v, I 0]) ∧ Cuts ls.flatten l ∧ OwnUU w' w.heap.size v (pointsL l ps) ∧ Ext w w' := by
  have HL := Lib.hid hl
  have HOK := Lib.hid hok
  have HS := Lib.hid hs
  have HN := Lib.hid hn
  have HP := Lib.hid hp
  have HM := Lib.hid hm
  obtain ⟨ad, cap, rfl, a1, a2, a3⟩ := hl.form
  obtain ⟨pd, pcap, hpv, p1, p2, p3⟩ := hp.form
  subst hpv
  clear a3 p3 hl hp hm hs hok
  unfold maxLen at a2 p2
  go_enter Try.func32, Try.ntmps32
  go_upto_region 1 with (fail)
  refine hideW (Φ := fun W => Code.wp _ _ _ _ W) (fun W => Ext w W ∧ Blk W w.heap.size [.slice ad ls.length cap] 24)
    ⟨by (repeat (first | with_reducible exact Ext.refl _ | with_reducible assumption | with_reducible refine Ext.alloc ?_ _ | with_reducible refine Ext.drew ?_ | with_reducible refine Ext.drewN ?_ _ | (with_reducible refine Ext.setCellP ?_ ?_; focus (first | (simp; done) | (simp; omega) | omega)))), Blk.new w [.slice ad ls.length cap] 24⟩ (fun W1 hW1 => ?_)
  obtain ⟨hx1, hb1⟩ := hW1
  have HX1 := Lib.hid hx1
  have HB1 := Lib.hid hb1
  clear hx1 hb1
  generalize hnb : w.heap.size = nb at *
  have HNB := Lib.hid hnb
  clear hnb
  go_wp2_with (first
    | (go_at_call 38; (with_reducible refine (certMeet_any _ ps _ (HP.out.later HX1.out)).mono ?_); rintro e w2 ⟨he, hx2⟩; rw [HM.out] at he; subst he; have HX2 := Lib.hid (HX1.out.trans hx2); have hbc := (HB1.out.later hx2).cells; clear hx2)
    | (go_at_call 61; (with_reducible refine (coverPointsAll_any _ _ ls ps _ (HL.out.later HX2.out) HOK.out HS.out (HP.out.later HX2.out) HN.out).mono ?_); rintro e w3 ⟨v3, l, he, hC, hO, hx3⟩; subst he; have HC := Lib.hid hC; have HX3 := Lib.hid (HX2.out.trans hx3); have HO := Lib.hid (hO.low HX2.out.size); obtain ⟨va, vcap, hv3, q1, q2, q3⟩ := HO.out.read.form; have hv3' : v3 = .slice va (pointsL l ps).length vcap := hv3; subst hv3'; clear q1 q2 q3 hv3 hC hO hx3))
  go_ret2
  exact ⟨_, l, rfl, HC.out, by rw [← HNB.out]; exact HO.out, HX3.out⟩
set_option maxHeartbeats 2000000 in
set_option maxRecDepth 100000 in
theorem r19Points_any (lv : Value) (p : Prt) (ls : List (List Rul)) (w : World) (hl : TablesAt w lv ls) (hok : TablesOk ls) (hs : sizeN ls ≤ 10000000) :
    Calls Try.prog 37 #[.agg #[lv], p.val] w fun e w' => ∃ v l, e = .returned v ∧ Cuts ls.flatten l ∧ OwnU w' w.heap.size v (insideV l p.fr p.up) ∧ Ext w w' := by
  have HL := Lib.hid hl
  have HOK := Lib.hid hok
  have HS := Lib.hid hs
  obtain ⟨ad, cap, rfl, a1, a2, a3⟩ := hl.form
  clear a3 hl hok
  unfold maxLen at a2
  go_enter Try.func37, Try.ntmps37
  go_upto_region 1 with (fail)
  refine hideW (Φ := fun W => Code.wp _ _ _ _ W) (fun W => Ext w W ∧ Blk W w.heap.size [.slice ad ls.length cap] 24 ∧ Blk W (w.heap.size + 1) [U p.fr, U p.up, p.rk] 42)
    ⟨by (repeat (first | with_reducible exact Ext.refl _ | with_reducible assumption | with_reducible refine Ext.alloc ?_ _ | with_reducible refine Ext.drew ?_ | with_reducible refine Ext.drewN ?_ _ | (with_reducible refine Ext.setCellP ?_ ?_; focus (first | (simp; done) | (simp; omega) | omega)))), (Blk.new w [.slice ad ls.length cap] 24).old _, Blk.newAt [U p.fr, U p.up, p.rk] (by simp)⟩ (fun W1 hW1 => ?_)
  obtain ⟨hx1, hb1, hk1⟩ := hW1
  have HX1 := Lib.hid hx1
  have HL1 := Lib.hid (HL.out.later hx1)
  have HB1 := Lib.hid hb1
  have HK1 := Lib.hid hk1
  clear hx1 hb1 hk1
  generalize hnb : w.heap.size = nb at *
  have HNB := Lib.hid hnb
  clear hnb
  go_wp2_with fail
  refine wp_region_R (RB (W1.heap.size)) 6 rfl (by kernel_rfl) (by kernel_rfl) (fun w0 hx0 => ?_)
  have hsz : W1.heap.size ≤ w0.heap.size := hx0.size
  have hb0 := RB.keep (p := ⟨nb, 0, none⟩) hsz HB1.out.lt ((HB1.out.later hx0).cells 0)
  have hk0 := RB.keep (p := ⟨nb + 1, 0, none⟩) hsz HK1.out.lt ((HK1.out.later hx0).cells 0)
  have hk1 := RB.keep (p := ⟨nb + 1, 1, none⟩) hsz HK1.out.lt ((HK1.out.later hx0).cells 1)
  refine WR_q (preRB _) 0 rfl (by decide) (by kernel_rfl) rfl ?_; apply Exists.intro; refine ⟨fun w1 hx1 => ?_, ?_⟩
  · go_simp; try go_bits
    first | with_reducible rfl | rfl
  simp only [Act.put, List.setIfInBounds_toArray, List.set_cons_zero, List.set_cons_succ]
  refine WR_q (preRB _) 2 rfl (by decide) (by kernel_rfl) rfl ?_; apply Exists.intro; refine ⟨fun w1 hx1 => ?_, ?_⟩
  · go_simp; try go_bits
    first | with_reducible rfl | rfl
  simp only [Act.put, List.setIfInBounds_toArray, List.set_cons_zero, List.set_cons_succ]
  refine WR_q (preRB _) 3 rfl (by decide) (by kernel_rfl) rfl ?_; apply Exists.intro; refine ⟨fun w1 hx1 => ?_, ?_⟩
  · go_simp; try go_bits
    first | with_reducible rfl | rfl
  simp only [Act.put, List.setIfInBounds_toArray, List.set_cons_zero, List.set_cons_succ]
  refine WR_q (preRB _) 4 rfl (by decide) (by kernel_rfl) rfl ?_; apply Exists.intro; refine ⟨fun w1 hx1 => ?_, ?_⟩
  · go_simp; try go_bits
    first | with_reducible rfl | rfl
  simp only [Act.put, List.setIfInBounds_toArray, List.set_cons_zero, List.set_cons_succ]
  refine WR_q (preRB _) 5 rfl (by decide) (by kernel_rfl) rfl ?_; apply Exists.intro; refine ⟨fun w1 hx1 => ?_, ?_⟩
  · go_simp; try go_bits
    first | with_reducible rfl | rfl
  simp only [Act.put, List.setIfInBounds_toArray, List.set_cons_zero, List.set_cons_succ]
  refine WR_one 1 rfl (by decide) (by kernel_rfl) rfl (fun K hK => ?_)
  go_simp
  refine (r12Of_any _ ls _ (HL1.out.later hx0) HOK.out HS.out).mono ?_
  rintro e w2 ⟨v2, l, he, hU, hC, hx2⟩
  subst he
  refine hK _ _ (RB.ext hx2) ?_
  clear hK K hb0 hk0 hk1 hsz
  have HU2 := Lib.hid hU
  have HC := Lib.hid hC
  have HX2 := Lib.hid (hx0.trans hx2)
  have HLN := Lib.hid (show l.length ≤ 100000000 by have h1 := hC.len; rw [sizeN_flat] at h1; have := HS.out; omega)
  obtain ⟨la, lcap, hlv, l1, l2, l3⟩ := hU.form
  have hlv' : v2 = .slice la l.length lcap := hlv
  subst hlv'
  clear hU hC hx2 hx0 l3 hlv
  refine WR_done (by kernel_rfl) ?_
  (try simp only [List.drop_succ_cons, List.drop_zero])
  go_wp2_with (first
    | (go_at_call 44; (with_reducible refine (r12Inside_any _ l p.fr p.up _ HU2.out HLN.out).mono ?_); rintro e w3 ⟨v3, he, hO, hx3⟩; subst he; have HO3 := Lib.hid hO; have HX3 := Lib.hid (HX2.out.trans hx3); have HS3 := Lib.hid HX2.out.size
       obtain ⟨va, vcap, hv3, -⟩ := HO3.out.us.form; have hv3' : v3 = .slice va (insideV l p.fr p.up).length vcap := hv3; subst hv3'; clear hv3 hO hx3))
  go_ret
  exact ⟨_, l, rfl, HC.out, own_low HO3.out (Nat.le_trans HX1.out.size HS3.out), HX1.out.trans HX3.out⟩
set_option maxHeartbeats 4000000 in
set_option maxRecDepth 100000 in
theorem r19All_yes (lv pv : Value) (ls : List (List Rul)) (ps : List Prt) (w : World) (hl : TablesAt w lv ls) (hok : TablesOk ls) (hs : sizeN ls ≤ 10000000) (hp : PartsAt w pv ps) (hn : ps.length ≤ 1000000) (hm : meetV ps = 0) :
    Calls Try.prog 34 #[.agg #[lv], pv] w fun e w' => ∃ v l, e = .returned (.tuple #[v, I 0]) ∧ Cuts ls.flatten l ∧ UUsAt w' v (pointsL l ps) ∧ Ext w w' := by
  have HL := Lib.hid hl
  have HOK := Lib.hid hok
  have HS := Lib.hid hs
  have HP := Lib.hid hp
  have HM := Lib.hid hm
  obtain ⟨ad, cap, rfl, a1, a2, a3⟩ := hl.form
  obtain ⟨pd, pcap, hpv, p1, p2, p3⟩ := hp.form
  subst hpv
  have P3 := Lib.hid p3
  clear a3 p3 hl hp hm hs hok
  unfold maxLen at a2 p2
  go_enter Try.func34, Try.ntmps34
  go_upto_region 1 with (fail)
  refine hideW (Φ := fun W => Code.wp _ _ _ _ W) (fun W => Ext w W ∧ Blk W w.heap.size [.slice ad ls.length cap] 24)
    ⟨by (repeat (first | with_reducible exact Ext.refl _ | with_reducible assumption | with_reducible refine Ext.alloc ?_ _ | with_reducible refine Ext.drew ?_ | with_reducible refine Ext.drewN ?_ _ | (with_reducible refine Ext.setCellP ?_ ?_; focus (first | (simp; done) | (simp; omega) | omega)))), Blk.new w [.slice ad ls.length cap] 24⟩ (fun W1 hW1 => ?_)
  obtain ⟨hx1, hb1⟩ := hW1
  have HX1 := Lib.hid hx1
  have HB1 := Lib.hid hb1
  clear hx1 hb1
  generalize w.heap.size = nb at *
  go_upto_region 5 with (first
    | (go_at_call 65; (with_reducible refine (r17Meet_any _ ps _ (HP.out.later HX1.out)).mono ?_); rintro e w2 ⟨he, hx2⟩; rw [HM.out] at he; subst he; have HX2 := Lib.hid (HX1.out.trans hx2); have HB2 := Lib.hid (HB1.out.later hx2); clear hx2))
  have HXA := Lib.hid (show Ext w2 (w2.alloc (.cells #[] 27)) from (Ext.refl _).alloc _)
  have HO := Lib.hid (show OwnUU (w2.alloc (.cells #[] 27)) w2.heap.size (.slice (some ⟨w2.heap.size, 0, none⟩) 0 0) [] from ⟨[], own_made w2 1 27 0 [] rfl (by unfold maxLen; omega), fun i l h => by cases h⟩)
  go_wp2_with fail
  go_loopw [7, 8] (fun v i wr => ∃ (k : Nat) (z : Option (List (BitVec 32))), k ≤ ps.length ∧ i = I k ∧ (k = 0 ∨ ∃ l, z = some l) ∧ Hid (∀ l, z = some l → Cuts ls.flatten l) ∧ Hid (OwnUU wr w2.heap.size v (pointsL (z.getD []) (ps.take k))) ∧ Hid (Ext w2 wr)) (fun _ i _ => ps.length - (intOf i).toNat)
  case atStart => exact ⟨0, none, by omega, rfl, .inl rfl, (fun l h => by cases h), HO.out, HXA.out⟩
  case round =>
    obtain ⟨k, z, hk, rfl, hz, HZ, HOk, HX⟩ := hrel
    by_cases hlt : k < ps.length
    · obtain ⟨b0, o0, rfl, q0, q1, q2⟩ := P3.out k ps[k] (List.getElem?_eq_getElem hlt)
      have HZ2 := Lib.hid hz
      clear hz
      obtain ⟨va, vcap, hv, v1, v2, -⟩ := HOk.out.read.form
      rw [pointsL_len, List.length_take, Nat.min_eq_left hk] at hv v1
      subst hv
      have HXX := Lib.hid (HX2.out.trans HX.out)
      have HPL := Lib.hid (show ∀ l, (pointsL l (ps.take k)).length = k from fun l => by rw [pointsL_len, List.length_take]; omega)
      have HST := Lib.hid (fun l => pointsL_step (l := l) hlt)
      go_wp2_with fail
      refine wp_region_R (RB (wr.heap.size)) 8 rfl (by kernel_rfl) (by kernel_rfl) (fun w0 hx0 => ?_)
      have hsz : wr.heap.size ≤ w0.heap.size := hx0.size
      have HB := Lib.hid (HB2.out.later HX.out)
      have hlo : b0 < wr.heap.size := by
        have h1 := HXX.out.size
        have h2 : b0 < w.heap.size := by
          rcases Nat.lt_or_ge b0 w.heap.size with h' | h'
          · exact h'
          · simp [World.cell?, Array.getElem?_eq_none h'] at q0
        omega
      have hb0 := RB.keep (p := ⟨nb, 0, none⟩) hsz HB.out.lt ((HB.out.later hx0).cells 0)
      have r0 := RB.keep (p := ⟨b0, o0 + k * 3, none⟩) hsz hlo ((HXX.out.trans hx0).cell q0)
      have r1 := RB.keep (p := ⟨b0, o0 + k * 3 + 1, none⟩) hsz hlo ((HXX.out.trans hx0).cell q1)
      have r2 := RB.keep (p := ⟨b0, o0 + k * 3 + 2, none⟩) hsz hlo ((HXX.out.trans hx0).cell q2)
      generalize ps[k] = p at *
      refine WR_q (preRB _) 0 rfl (by decide) (by kernel_rfl) rfl ?_; apply Exists.intro; refine ⟨fun w1 hx1 => ?_, ?_⟩
      · go_simp; try go_bits
        first | with_reducible rfl | rfl
      simp only [Act.put, List.setIfInBounds_toArray, List.set_cons_zero, List.set_cons_succ]
      refine WR_q (preRB _) 1 rfl (by decide) (by kernel_rfl) rfl ?_; apply Exists.intro; refine ⟨fun w1 hx1 => ?_, ?_⟩
      · go_simp; try go_bits
        first | with_reducible rfl | rfl
      simp only [Act.put, List.setIfInBounds_toArray, List.set_cons_zero, List.set_cons_succ]
      refine WR_q (preRB _) 2 rfl (by decide) (by kernel_rfl) rfl ?_; apply Exists.intro; refine ⟨fun w1 hx1 => ?_, ?_⟩
      · go_simp; try go_bits
        first | with_reducible rfl | rfl
      simp only [Act.put, List.setIfInBounds_toArray, List.set_cons_zero, List.set_cons_succ]
      refine WR_q (preRB _) 3 rfl (by decide) (by kernel_rfl) rfl ?_; apply Exists.intro; refine ⟨fun w1 hx1 => ?_, ?_⟩
      · go_simp; try go_bits
        first | with_reducible rfl | rfl
      simp only [Act.put, List.setIfInBounds_toArray, List.set_cons_zero, List.set_cons_succ]
      refine WR_q (preRB _) 4 rfl (by decide) (by kernel_rfl) rfl ?_; apply Exists.intro; refine ⟨fun w1 hx1 => ?_, ?_⟩
      · go_simp; try go_bits
        first | with_reducible rfl | rfl
      simp only [Act.put, List.setIfInBounds_toArray, List.set_cons_zero, List.set_cons_succ]
      refine WR_q (preRB _) 5 rfl (by decide) (by kernel_rfl) rfl ?_; apply Exists.intro; refine ⟨fun w1 hx1 => ?_, ?_⟩
      · go_simp; try go_bits
        first | with_reducible rfl | rfl
      simp only [Act.put, List.setIfInBounds_toArray, List.set_cons_zero, List.set_cons_succ]
      refine WR_one 6 rfl (by decide) (by kernel_rfl) rfl (fun K hK => ?_)
      go_simp
      refine (r19Points_any _ p ls _ (HL.out.later (HXX.out.trans hx0)) HOK.out HS.out).mono ?_
      rintro e w3 ⟨v3, l, he, hC, hO, hx3⟩
      subst he
      refine hK _ _ (RB.ext hx3) ?_
      clear hK K hb0 r0 r1 r2 q0 q1 q2 hlo
      have HC := Lib.hid hC
      have HX3 := Lib.hid (HX.out.trans (hx0.trans hx3))
      obtain ⟨ra, rcap, hrv⟩ := usAt_slice hO.us
      subst hrv
      have HI := Lib.hid (own_low hO (show w2.heap.size ≤ w0.heap.size from Nat.le_trans HX.out.size hsz))
      have HOl := Lib.hid (show OwnUU w3 w2.heap.size (.slice va k vcap) (pointsL l (ps.take k)) by
        have h := HOk.out.later (hx0.trans hx3)
        rcases HZ2.out with h0 | ⟨l', rfl⟩
        · subst h0; simpa [pointsL] using h
        · have := Cuts.at (HZ.out l' rfl) hC
          subst this; exact h)
      clear hC hO hsz
      refine WR_one 7 rfl (by decide) (by kernel_rfl) rfl (fun K hK => ?_)
      go_simp
      refine hK _ _ (RB.ext ((Ext.refl _).alloc _)) ?_
      clear hK K
      have HX6 := Lib.hid (HX3.out.alloc (.cells #[.slice ra (insideV l p.fr p.up).length rcap] 27))
      have HA := Lib.hid ((Ext.refl w3).alloc (.cells #[.slice ra (insideV l p.fr p.up).length rcap] 27))
      obtain ⟨vs, hown, hvs⟩ := HOl.out
      have HOWN := Lib.hid (own_later hown HA.out)
      have HVS := Lib.hid (fun i m h => let ⟨u, g1, g2⟩ := hvs i m h; (⟨u, g1, own_later g2 HA.out⟩ : ∃ u, vs[i]? = some u ∧ OwnU _ _ u m))
      have HI6 := Lib.hid (own_later HI.out HA.out)
      have HSRC := Lib.hid (Reads.made w3 1 27 1 [.slice ra (insideV l p.fr p.up).length rcap] rfl (by unfold maxLen; omega))
      rw [HPL.out] at HOWN
      clear hown hvs hx3 hx0
      refine WR_done (by kernel_rfl) ?_
      (try simp only [List.drop_succ_cons, List.drop_zero])
      go_wp2_with (first
        | (at_builtin; refine wpList_app rfl (.tmp 21) (.tmp 28) 57 rfl w2.heap.size 27 _ 1 24 Try.underlying57 infoU32s rfl (by decide) (by decide) _ _ _ rfl HOWN.out _ _ _ rfl HSRC.out (by intro u hu; simp at hu; subst hu; rfl) (by omega) HX6.out.size ?_; intro v9 w9 ho9 hg9
           have HO9 := Lib.hid (OwnUU.app (by rw [HPL.out]; exact HOWN.out) HVS.out (by rw [HPL.out]; exact ho9) hg9 HI6.out)
           have HX9 := Lib.hid (Ext.grown HX6.out hg9 HOWN.out (Nat.le_refl _))
           clear ho9 hg9))
      go_roundw
      case rel => exact ⟨k + 1, some l, by omega, by go_num, .inr ⟨l, rfl⟩, Lib.hid (fun l' h => by cases h; exact HC.out), by show OwnUU _ _ _ _; rw [Option.getD_some, HST.out]; exact HO9.out, HX9.out⟩
      case measure => simp [intOf]; omega
    · have HE := Lib.hid (show ps.take k = ps by rw [List.take_of_length_le (by omega)])
      have hpos : ps.length ≠ 0 := fun h0 => by
        have := HM.out
        rw [List.eq_nil_of_length_eq_zero h0] at this
        cases this
      obtain ⟨l, rfl⟩ := hz.resolve_left (by omega)
      have HC := Lib.hid (HZ.out l rfl)
      have hO2 := HOk.out.read
      rw [HE.out, Option.getD_some] at hO2
      have HO2 := Lib.hid hO2
      clear hO2 HOk
      obtain ⟨va, vcap, hv, -⟩ := HO2.out.form
      subst hv
      have hkd : decide ((k : Int) < (ps.length : Int)) = false := decide_eq_false (by omega)
      have hkn : decide (k < ps.length) = false := decide_eq_false hlt
      go_wp2_with fail
      go_ret2
      exact ⟨_, l, rfl, HC.out, HO2.out, HX2.out.trans HX.out⟩
set_option maxHeartbeats 2000000 in
theorem r19All_no (lv pv : Value) (ls : List (List Rul)) (ps : List Prt) (w : World) (hl : TablesAt w lv ls) (hp : PartsAt w pv ps) (hm : meetV ps = 15) :
    Calls Try.prog 34 #[.agg #[lv], pv] w fun e w' => e = .returned (.tuple #[.slice none 0 0, I 15]) ∧ Ext w w' := by
  have HP := Lib.hid hp
  have HM := Lib.hid hm
  obtain ⟨ad, cap, rfl, a1, a2, a3⟩ := hl.form
  obtain ⟨pd, pcap, hpv, p1, p2, p3⟩ := hp.form
  subst hpv
  clear a3 p3 hl hp hm
  unfold maxLen at a2 p2
  have HX := Lib.hid (show Ext w (w.alloc (.cells #[.slice ad ls.length cap] 24)) by (repeat (first | with_reducible exact Ext.refl _ | with_reducible assumption | with_reducible refine Ext.alloc ?_ _ | with_reducible refine Ext.drew ?_ | with_reducible refine Ext.drewN ?_ _ | (with_reducible refine Ext.setCellP ?_ ?_; focus (first | (simp; done) | (simp; omega) | omega)))))
  go_enter Try.func34, Try.ntmps34
  go_wp2_with (first
    | (go_at_call 65; (with_reducible refine (r17Meet_any _ ps _ (HP.out.later HX.out)).mono ?_); rintro e w2 ⟨he, hx2⟩; rw [HM.out] at he; subst he; have HX2 := Lib.hid (HX.out.trans hx2); clear hx2))
  go_ret2
  exact ⟨rfl, HX2.out⟩
end Go.Proofs.Ythcnihchfkmphaa
