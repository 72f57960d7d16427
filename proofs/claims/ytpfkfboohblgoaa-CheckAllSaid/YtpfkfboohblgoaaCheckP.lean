/- check.steps, check.Part, check.parts. Conditions: whole numbers are within 64 bits. -/
import Derived.Test.YtpfkfboohblgoaaFall
import Derived.Laws.ResultCell
import Derived.Laws.EntriesVeiled
namespace Go.Proofs.Ytpfkfboohblgoaa
open Go.RowKit

theorem results_cell1 {fn : Func} {p : Tmp} {ty : TypeId} (h : fn.results = #[.cell p ty]) (tmps : Array Value) (P : Program) (w : World) :
    (results fn tmps).run P w = ((asAddr (tmps.getD p undef)).run P w).andThen fun a w₁ => (loadVar ty a).run P w₁ := by
  simp only [results, h]
  simp [Sem.run_bind, Result.andThen]
set_option maxHeartbeats 1000000 in
theorem steps_any (lv : Value) (ls : List (List Rul)) (w : World) (hl : TablesAt w lv ls) :
    Calls Try.prog 50 #[.agg #[lv]] w fun e w' => ∃ nb, e = .returned (.agg #[I ls.length, stepF nb]) ∧ Blk w' nb [lv] 24 ∧ Ext w w' := by
  obtain ⟨ad, cap, rfl, a1, a2, a3⟩ := hl.form
  clear a3 hl
  go_enter Try.func50, Try.ntmps50
  go_wp2_with fail
  refine hideW (Φ := fun W => bodyPost _ _ _ _ _ W) (fun W => Ext w W ∧ Blk W w.heap.size [.slice ad ls.length cap] 24 ∧ Blk W (w.heap.size + 1) [I ls.length, stepF w.heap.size] 89)
    ⟨by (repeat (first | with_reducible exact Ext.refl _ | with_reducible assumption | with_reducible refine Ext.alloc ?_ _ | with_reducible refine Ext.drew ?_ | with_reducible refine Ext.drewN ?_ _ | (with_reducible refine Ext.setCellP ?_ ?_; focus (first | (simp; done) | (simp; omega) | omega)))), (Blk.new w [.slice ad ls.length cap] 24).old _, Blk.newAt [I ls.length, stepF w.heap.size] (by simp)⟩ (fun W1 hW1 => ?_)
  obtain ⟨hx1, hb1, hs1⟩ := hW1
  have hsc := hs1.cells
  refine bodyPost_ret (v := .agg #[I ls.length, stepF w.heap.size]) (by rw [results_cell1 rfl]; go_simp) rfl ?_
  exact ⟨_, rfl, hb1, hx1⟩
def partV (l : List (BitVec 32)) (ls : List (List Rul)) (p : Prt) (rk : List Int) : Int := if rk.length ≠ ls.length then 1 else fallV ls (insideV l p.fr p.up) rk
set_option maxHeartbeats 2000000 in
set_option maxRecDepth 100000 in
theorem checkPart_any (lv : Value) (ls : List (List Rul)) (p : Prt) (rk : List Int) (l : List (BitVec 32)) (w : World) (hl : TablesAt w lv ls) (hok : TablesOk ls) (hs : sizeN ls ≤ 10000000) (hC : Cuts ls.flatten l) (hr : IntsAt w p.rk rk) :
    Calls Try.prog 23 #[.agg #[lv], p.val] w fun e w' => e = .returned (I (partV l ls p rk)) ∧ Ext w w' := by
  have HL := Lib.hid hl
  have HOK := Lib.hid hok
  have HS := Lib.hid hs
  have HR := Lib.hid hr
  have HC := Lib.hid hC
  have HRN := Lib.hid (prt_form hr)
  obtain ⟨ad, cap, rfl, a1, a2, a3⟩ := hl.form
  clear a3 hl hok hs hr hC
  unfold maxLen at a2
  go_enter Try.func23, Try.ntmps23
  go_upto_region 1 with (fail)
  refine hideW (Φ := fun W => Code.wp _ _ _ _ W) (fun W => Ext w W ∧ Blk W w.heap.size [.slice ad ls.length cap] 24 ∧ Blk W (w.heap.size + 1) [U p.fr, U p.up, p.rk] 35)
    ⟨by (repeat (first | with_reducible exact Ext.refl _ | with_reducible assumption | with_reducible refine Ext.alloc ?_ _ | with_reducible refine Ext.drew ?_ | with_reducible refine Ext.drewN ?_ _ | (with_reducible refine Ext.setCellP ?_ ?_; focus (first | (simp; done) | (simp; omega) | omega)))), (Blk.new w [.slice ad ls.length cap] 24).old _, Blk.newAt [U p.fr, U p.up, p.rk] (by simp)⟩ (fun W1 hW1 => ?_)
  obtain ⟨hx1, hb1, hk1⟩ := hW1
  have HX1 := Lib.hid hx1
  have HB1 := Lib.hid hb1
  have HK1 := Lib.hid hk1
  clear hx1 hb1 hk1
  generalize w.heap.size + 1 = pb at *
  generalize w.heap.size = nb at *
  have hbc := HB1.out.cells
  have hkc := HK1.out.cells
  by_cases hn : p.rn = ls.length
  · have hnb : ((p.rn : Int) != (ls.length : Int)) = false := by simp [hn]
    have HV := Lib.hid (show partV l ls p rk = fallV ls (insideV l p.fr p.up) rk by unfold partV; rw [if_neg (by rw [← HRN.out]; simp [hn])])
    have HRL := Lib.hid (show rk.length = ls.length by rw [← HRN.out]; exact hn)
    clear hn
    go_upto_region 3 with (fail)
    clear hbc hkc
    refine wp_region_R (RB (W1.heap.size)) 8 rfl (by kernel_rfl) (by kernel_rfl) (fun w0 hx0 => ?_)
    have HX0 := Lib.hid hx0
    have q1 := RB.keep hx0.size HB1.out.lt ((HB1.out.later hx0).cells 0)
    have q2 := RB.keep hx0.size HK1.out.lt ((HK1.out.later hx0).cells 0)
    have q3 := RB.keep hx0.size HK1.out.lt ((HK1.out.later hx0).cells 1)
    have q4 := RB.keep hx0.size HK1.out.lt ((HK1.out.later hx0).cells 2)
    clear hx0
    refine WR_q (preRB _) 0 rfl (by decide) (by kernel_rfl) rfl ?_; apply Exists.intro; refine ⟨fun w1 hx1 => ?_, ?_⟩
    · go_simp; try go_bits
      first | with_reducible rfl | rfl
    simp only [Act.put, List.setIfInBounds_toArray, List.set_cons_zero, List.set_cons_succ]
    refine WR_q (preRB _) 2 rfl (by decide) (by kernel_rfl) rfl ?_; apply Exists.intro; refine ⟨fun w1 hx1 => ?_, ?_⟩
    · go_simp; try go_bits
      first | with_reducible rfl | rfl
    simp only [Act.put, List.setIfInBounds_toArray, List.set_cons_zero, List.set_cons_succ]
    refine WR_q (preRB _) 3 rfl (by decide) (by kernel_rfl) rfl ?_; apply Exists.intro; refine ⟨fun w1 hx1 => ?_, ?_⟩
    · go_simp; try go_bits
      first | with_reducible rfl | rfl
    simp only [Act.put, List.setIfInBounds_toArray, List.set_cons_zero, List.set_cons_succ]
    refine WR_q (preRB _) 5 rfl (by decide) (by kernel_rfl) rfl ?_; apply Exists.intro; refine ⟨fun w1 hx1 => ?_, ?_⟩
    · go_simp; try go_bits
      first | with_reducible rfl | rfl
    simp only [Act.put, List.setIfInBounds_toArray, List.set_cons_zero, List.set_cons_succ]
    refine WR_q (preRB _) 6 rfl (by decide) (by kernel_rfl) rfl ?_; apply Exists.intro; refine ⟨fun w1 hx1 => ?_, ?_⟩
    · go_simp; try go_bits
      first | with_reducible rfl | rfl
    simp only [Act.put, List.setIfInBounds_toArray, List.set_cons_zero, List.set_cons_succ]
    clear q1 q2 q3 q4
    refine WR_one 1 rfl (by decide) (by kernel_rfl) rfl (fun K hK => ?_)
    go_simp
    (with_reducible refine (steps_any _ ls _ (HL.out.later (HX1.out.trans HX0.out))).mono ?_)
    rintro e wA ⟨sb, he, hbA, hxA⟩
    subst he
    have HBA := Lib.hid hbA
    have HXA := Lib.hid (HX0.out.trans hxA)
    refine hK _ _ (RB.ext hxA) ?_
    clear hK K hbA hxA
    refine WR_one 4 rfl (by decide) (by kernel_rfl) rfl (fun K hK => ?_)
    go_simp
    (with_reducible refine (coverPoints_any _ p ls _ (HL.out.later (HX1.out.trans HXA.out)) HOK.out HS.out).mono ?_)
    rintro e wB ⟨vB, l2, he, hC2, hU, hxB⟩
    subst he
    obtain rfl := Cuts.at HC.out hC2
    have HUB := Lib.hid hU
    have HBB := Lib.hid (HBA.out.later hxB)
    have HXB := Lib.hid (HXA.out.trans hxB)
    refine hK _ _ (RB.ext hxB) ?_
    clear hK K hC2 hU hxB
    refine WR_one 7 rfl (by decide) (by kernel_rfl) rfl (fun K hK => ?_)
    go_simp
    (with_reducible refine (fall_any _ _ _ ls (insideV l p.fr p.up) rk sb _ HBB.out (HL.out.later (HX1.out.trans HXB.out)) HOK.out HUB.out (HR.out.later (HX1.out.trans HXB.out)) HRL.out).mono ?_)
    rintro e wC ⟨he, hxC⟩
    subst he
    have HXC := Lib.hid (HXB.out.trans hxC)
    refine hK _ _ (RB.ext hxC) ?_
    clear hK K hxC
    refine WR_done (by kernel_rfl) ?_
    (try simp only [List.drop_succ_cons, List.drop_zero])
    go_wp2_with fail
    go_ret
    exact ⟨by rw [HV.out]; rfl, HX1.out.trans HXC.out⟩
  · have hnb : ((p.rn : Int) != (ls.length : Int)) = true := by simp; omega
    have HV := Lib.hid (show partV l ls p rk = 1 by unfold partV; rw [if_pos (by rw [← HRN.out]; exact hn)])
    clear hn
    go_wp2_with fail
    go_ret
    exact ⟨by rw [HV.out]; rfl, HX1.out⟩
def partsZ (l : List (BitVec 32)) (ls : List (List Rul)) : List (Prt × List Int) → Int
  | [] => 0
  | q :: t => if partV l ls q.1 q.2 ≠ 0 then partV l ls q.1 q.2 else partsZ l ls t
theorem zip_drop {α β : Type} {ps : List α} {rks : List β} {k : Nat} (h1 : k < ps.length) (h2 : k < rks.length) : (ps.zip rks).drop k = (ps[k], rks[k]) :: (ps.zip rks).drop (k + 1) := by
  rw [List.drop_eq_getElem_cons (by simp; omega)]
  simp
theorem partsZ_step {l : List (BitVec 32)} {ls : List (List Rul)} {ps : List Prt} {rks : List (List Int)} {k : Nat} (h1 : k < ps.length) (h2 : k < rks.length) :
    partsZ l ls ((ps.zip rks).drop k) = if partV l ls ps[k] rks[k] ≠ 0 then partV l ls ps[k] rks[k] else partsZ l ls ((ps.zip rks).drop (k + 1)) := by
  rw [zip_drop h1 h2]; rfl
theorem partsZ_end {l : List (BitVec 32)} {ls : List (List Rul)} {ps : List Prt} {rks : List (List Int)} {k : Nat} (h1 : ps.length ≤ k) : partsZ l ls ((ps.zip rks).drop k) = 0 := by
  rw [List.drop_of_length_le (by simp; omega)]; rfl
theorem partV_three (l : List (BitVec 32)) (ls : List (List Rul)) (p : Prt) (rk : List Int) : partV l ls p rk = 0 ∨ partV l ls p rk = 1 ∨ partV l ls p rk = 16 := by
  unfold partV fallV
  split
  · simp
  · split <;> simp
set_option maxHeartbeats 4000000 in
set_option maxRecDepth 100000 in
theorem checkParts_any (lv pv : Value) (ls : List (List Rul)) (ps : List Prt) (rks : List (List Int)) (l : List (BitVec 32)) (w : World) (hl : TablesAt w lv ls) (hok : TablesOk ls) (hs : sizeN ls ≤ 10000000) (hC : Cuts ls.flatten l)
    (hp : PartsAt w pv ps) (hn : ps.length ≤ 1000000) (hm : meetV ps = 0) (hrl : rks.length = ps.length) (hr : ∀ (i : Nat) (p : Prt) (r : List Int), ps[i]? = some p → rks[i]? = some r → IntsAt w p.rk r) :
    Calls Try.prog 49 #[.agg #[lv], pv] w fun e w' => e = .returned (I (partsZ l ls (ps.zip rks))) ∧ Ext w w' := by
  have HL := Lib.hid hl
  have HOK := Lib.hid hok
  have HS := Lib.hid hs
  have HR := Lib.hid hr
  have HRL := Lib.hid hrl
  have HC := Lib.hid hC
  have HP := Lib.hid hp
  have HM := Lib.hid hm
  obtain ⟨ad, cap, rfl, a1, a2, a3⟩ := hl.form
  obtain ⟨pa, pc, rfl, p1, p2, p3⟩ := hp.form
  have P3 := Lib.hid p3
  clear a3 p3 hl hok hs hr hC hp hm hrl
  unfold maxLen at a2 p2
  go_enter Try.func49, Try.ntmps49
  go_upto_region 1 with (fail)
  refine hideW (Φ := fun W => Code.wp _ _ _ _ W) (fun W => Ext w W ∧ Blk W w.heap.size [.slice ad ls.length cap] 24)
    ⟨by (repeat (first | with_reducible exact Ext.refl _ | with_reducible assumption | with_reducible refine Ext.alloc ?_ _ | with_reducible refine Ext.drew ?_ | with_reducible refine Ext.drewN ?_ _ | (with_reducible refine Ext.setCellP ?_ ?_; focus (first | (simp; done) | (simp; omega) | omega)))), Blk.new w [.slice ad ls.length cap] 24⟩ (fun W1 hW1 => ?_)
  obtain ⟨hx1, hb1⟩ := hW1
  have HX1 := Lib.hid hx1
  have HB1 := Lib.hid hb1
  clear hx1 hb1
  generalize w.heap.size = nb at *
  have hbc := HB1.out.cells
  go_upto_region 4 with (first
    | (go_at_call 88; (with_reducible refine (coverAll_yes _ _ ls ps _ (HL.out.later HX1.out) HOK.out HS.out (HP.out.later HX1.out) hn HM.out).mono ?_); rintro e w2 ⟨v2, l2, he, hC2, hO, hx2⟩; subst he; obtain rfl := Cuts.at HC.out hC2; have HU2 := Lib.hid hO.read; have HX2 := Lib.hid (HX1.out.trans hx2); have HB2 := Lib.hid (HB1.out.later hx2); clear hC2 hO hx2))
  clear hbc
  have hbc2 := HB2.out.cells
  go_upto_region 5 with (first
    | (go_at_call 50; (with_reducible refine (steps_any _ ls _ (HL.out.later HX2.out)).mono ?_); rintro e w3 ⟨sb, he, hb3, hx3⟩; subst he; have HS3 := Lib.hid hb3; have HX3 := Lib.hid (HX2.out.trans hx3); have HU3 := Lib.hid (HU2.out.later hx3); clear hb3 hx3))
  refine hideW (Φ := fun W => Code.wp _ _ _ _ W) (fun W => Ext w3 W ∧ Blk W w3.heap.size [I ls.length, stepF sb] 89)
    ⟨by (repeat (first | with_reducible exact Ext.refl _ | with_reducible assumption | with_reducible refine Ext.alloc ?_ _ | with_reducible refine Ext.drew ?_ | with_reducible refine Ext.drewN ?_ _ | (with_reducible refine Ext.setCellP ?_ ?_; focus (first | (simp; done) | (simp; omega) | omega)))), Blk.new w3 [I ls.length, stepF sb] 89⟩ (fun W4 hW4 => ?_)
  obtain ⟨hx4, hb4⟩ := hW4
  have HX4 := Lib.hid (HX3.out.trans hx4)
  have HS4 := Lib.hid (HS3.out.later hx4)
  have HU4 := Lib.hid (HU3.out.later hx4)
  have HT4 := Lib.hid hb4
  clear hx4 hb4 hbc2 HS3 HU3 HU2 HB2 HB1 HX1 HX2 HX3
  generalize w3.heap.size = tb at *
  obtain ⟨ua, uc, hue, u1, u2, u3⟩ := HU4.out.form
  have HPL := Lib.hid (pointsL_len l ps)
  rw [HPL.out] at hue u1
  subst hue
  have U3 := Lib.hid u3
  unfold maxLen at u2
  clear u3
  go_wp2_with fail
  go_loopw [24] (fun i wr => ∃ k : Nat, k ≤ ps.length ∧ i = I k ∧ Hid (partsZ l ls (ps.zip rks) = partsZ l ls ((ps.zip rks).drop k)) ∧ Hid (Ext W4 wr)) (fun i _ => ps.length - (intOf i).toNat)
  case atStart => exact ⟨0, by omega, rfl, rfl, Ext.refl _⟩
  case round =>
    obtain ⟨k, hk, rfl, HG, HX⟩ := hrel
    have HTr := Lib.hid (HT4.out.later HX.out)
    have htc := HTr.out.cells
    by_cases hlt : k < ps.length
    · have hkr : k < rks.length := by rw [HRL.out]; exact hlt
      have HXE := Lib.hid (HX4.out.trans HX.out)
      obtain ⟨b0, o0, he0, q0, q1, q2⟩ := P3.out k _ (List.getElem?_eq_getElem hlt)
      subst he0
      replace q0 := HXE.out.cell q0
      replace q1 := HXE.out.cell q1
      replace q2 := HXE.out.cell q2
      have hik := HR.out k _ _ (List.getElem?_eq_getElem hlt) (List.getElem?_eq_getElem hkr)
      have HRN := Lib.hid (prt_form hik)
      have HIK := Lib.hid (hik.later HXE.out)
      have HST := Lib.hid (partsZ_step (l := l) (ls := ls) hlt hkr)
      obtain ⟨b1, o1, u, he1, c1, hu⟩ := U3.out k (insideV l ps[k].fr ps[k].up) (by unfold pointsL; rw [List.getElem?_map, List.getElem?_eq_getElem hlt]; rfl)
      subst he1
      have HUK := Lib.hid (hu.later HX.out)
      have HC1 := Lib.hid (HX.out.cell c1)
      obtain ⟨va, vc, hve⟩ := usAt_slice hu
      subst hve
      clear hik hu c1
      generalize ps[k] = p at *
      generalize rks[k] = r at *
      have HPV := Lib.hid (show partV l ls p r = if r.length ≠ ls.length then 1 else fallV ls (insideV l p.fr p.up) r from rfl)
      go_upto_region 8 with (fail)
      refine hideW (Φ := fun W => Code.wp _ _ _ _ W) (fun W => Ext wr W ∧ Blk W wr.heap.size [U p.fr, U p.up, p.rk] 35)
        ⟨by (repeat (first | with_reducible exact Ext.refl _ | with_reducible assumption | with_reducible refine Ext.alloc ?_ _ | with_reducible refine Ext.drew ?_ | with_reducible refine Ext.drewN ?_ _ | (with_reducible refine Ext.setCellP ?_ ?_; focus (first | (simp; done) | (simp; omega) | omega)))), Blk.new wr [U p.fr, U p.up, p.rk] 35⟩ (fun W5 hW5 => ?_)
      obtain ⟨hx5, hb5⟩ := hW5
      have HX5 := Lib.hid (HX.out.trans hx5)
      have HY5 := Lib.hid hx5
      have HQ5 := Lib.hid hb5
      have HT5 := Lib.hid (HTr.out.later hx5)
      clear hx5 hb5 htc q0 q1 q2
      generalize wr.heap.size = qb at *
      have hqc := HQ5.out.cells
      have htc := HT5.out.cells
      by_cases hn2 : p.rn = ls.length
      · have hnb : ((p.rn : Int) != (ls.length : Int)) = false := by simp [hn2]
        have HRL2 := Lib.hid (show r.length = ls.length by rw [← HRN.out]; exact hn2)
        have HV := Lib.hid (show partV l ls p r = fallV ls (insideV l p.fr p.up) r by rw [HPV.out, if_neg (by rw [HRL2.out]; simp)])
        clear hn2
        go_upto_region 10 with (fail)
        refine wp_region_E 7 rfl (by kernel_rfl) (by kernel_rfl) ?_
        have k1 := HT5.out.keep
        have k2 := HQ5.out.keep
        have k3 := Ext.keep (HY5.out.cell HC1.out)
        refine WE_q 0 rfl (by decide) (by kernel_rfl) rfl ?_; apply Exists.intro; refine ⟨fun w1 hx1 => ?_, ?_⟩
        · have hq1 := hx1.cells; go_simp; try go_bits
          first | with_reducible rfl
        simp only [Act.put, List.setIfInBounds_toArray, List.set_cons_zero, List.set_cons_succ]
        refine WE_q 1 rfl (by decide) (by kernel_rfl) rfl ?_; apply Exists.intro; refine ⟨fun w1 hx1 => ?_, ?_⟩
        · have hq1 := hx1.cells; go_simp; try go_bits
          first | with_reducible rfl
        simp only [Act.put, List.setIfInBounds_toArray, List.set_cons_zero, List.set_cons_succ]
        refine WE_q 2 rfl (by decide) (by kernel_rfl) rfl ?_; apply Exists.intro; refine ⟨fun w1 hx1 => ?_, ?_⟩
        · have hq1 := hx1.cells; go_simp; try go_bits
          first | with_reducible rfl
        simp only [Act.put, List.setIfInBounds_toArray, List.set_cons_zero, List.set_cons_succ]
        refine WE_q 3 rfl (by decide) (by kernel_rfl) rfl ?_; apply Exists.intro; refine ⟨fun w1 hx1 => ?_, ?_⟩
        · have hq1 := hx1.cells; go_simp; try go_bits
          first | with_reducible rfl
        simp only [Act.put, List.setIfInBounds_toArray, List.set_cons_zero, List.set_cons_succ]
        refine WE_q 4 rfl (by decide) (by kernel_rfl) rfl ?_; apply Exists.intro; refine ⟨fun w1 hx1 => ?_, ?_⟩
        · have hq1 := hx1.cells; go_simp; try go_bits
          first | with_reducible rfl
        simp only [Act.put, List.setIfInBounds_toArray, List.set_cons_zero, List.set_cons_succ]
        refine WE_q 5 rfl (by decide) (by kernel_rfl) rfl ?_; apply Exists.intro; refine ⟨fun w1 hx1 => ?_, ?_⟩
        · have hq1 := hx1.cells; go_simp; try go_bits
          first | with_reducible rfl
        simp only [Act.put, List.setIfInBounds_toArray, List.set_cons_zero, List.set_cons_succ]
        refine WE_q 6 rfl (by decide) (by kernel_rfl) rfl ?_; apply Exists.intro; refine ⟨fun w1 hx1 => ?_, ?_⟩
        · have hq1 := hx1.cells; go_simp; try go_bits
          first | with_reducible rfl
        simp only [Act.put, List.setIfInBounds_toArray, List.set_cons_zero, List.set_cons_succ]
        refine WE_done (by kernel_rfl) (fun w6 hx6 => ?_)
        (try simp only [List.drop_succ_cons, List.drop_zero])
        clear k1 k2 k3 hqc htc
        have HX6 := Lib.hid (HX5.out.trans hx6)
        have HZ6 := Lib.hid (HY5.out.trans hx6)
        clear hx6
        have HFA := Lib.hid (fall_any (.slice ad ls.length cap) (.slice va (insideV l p.fr p.up).length vc) p.rk ls (insideV l p.fr p.up) r sb w6 (HS4.out.later HX6.out) (HL.out.later (HX4.out.trans HX6.out)) HOK.out (HUK.out.later HZ6.out) (HIK.out.later HZ6.out) HRL2.out)
        rcases partV_three l ls p r with h | h | h
        case' inl =>
          have HN := Lib.hid (show fallV ls (insideV l p.fr p.up) r = 0 by rw [← HV.out]; exact h)
          have HR2 := Lib.hid (show partsZ l ls (ps.zip rks) = partsZ l ls ((ps.zip rks).drop (k + 1)) by rw [HG.out, HST.out, if_neg (by rw [h]; simp)])
        case' inr.inl =>
          exfalso
          rw [HV.out] at h
          unfold fallV at h
          split at h <;> cases h
        case' inr.inr =>
          have HN := Lib.hid (show fallV ls (insideV l p.fr p.up) r = 16 by rw [← HV.out]; exact h)
          have HR2 := Lib.hid (show partsZ l ls (ps.zip rks) = 16 by rw [HG.out, HST.out, if_pos (by rw [h]; simp), h])
        case' inl =>
          clear h
          go_wp2_with (first
            | (go_at_call 51; refine HFA.out.mono ?_; rintro e w7 ⟨he, hx7⟩; rw [HN.out] at he; subst he; have HX7 := Lib.hid (HX6.out.trans hx7); clear hx7))
          go_roundw
          case rel => exact ⟨k + 1, by omega, by go_num, HR2.out, HX7.out⟩
          case measure => simp [intOf]; omega
        case' inr.inr =>
          clear h
          go_wp2_with (first
            | (go_at_call 51; refine HFA.out.mono ?_; rintro e w7 ⟨he, hx7⟩; rw [HN.out] at he; subst he; have HX7 := Lib.hid (HX6.out.trans hx7); clear hx7))
          go_ret
          exact ⟨by rw [HR2.out]; rfl, HX4.out.trans HX7.out⟩
      · have hnb : ((p.rn : Int) != (ls.length : Int)) = true := by simp; omega
        have HV := Lib.hid (show partsZ l ls (ps.zip rks) = 1 by
          have h1 : partV l ls p r = 1 := by rw [HPV.out, if_pos (by rw [← HRN.out]; exact hn2)]
          rw [HG.out, HST.out, if_pos (by rw [h1]; simp), h1])
        clear hn2
        go_wp2_with fail
        go_ret
        exact ⟨by rw [HV.out]; rfl, HX4.out.trans HX5.out⟩
    · have HE := Lib.hid (show partsZ l ls (ps.zip rks) = 0 by rw [HG.out, partsZ_end (by omega)])
      go_wp2_with fail
      go_ret
      exact ⟨by rw [HE.out]; rfl, HX4.out.trans HX.out⟩
end Go.Proofs.Ytpfkfboohblgoaa
