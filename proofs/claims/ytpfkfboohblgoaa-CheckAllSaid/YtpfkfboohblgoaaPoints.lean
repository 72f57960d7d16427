/- The points of parts, by the program. Conditions: whole numbers are within 64 bits; no more rules and parts than the proved part takes. -/
import Derived.Test.YtpfkfboohblgoaaPart
import Derived.Test.YtpfkfboohblgoaaInside
import Derived.Test.YtpfkfboohblgoaaGCuts
import Derived.Laws.OwnMore
namespace Go.Proofs.Ytpfkfboohblgoaa
open Go.RowKit

def pointsL (l : List (BitVec 32)) (ps : List Prt) : List (List (BitVec 32)) := ps.map fun p => insideV l p.fr p.up
theorem pointsL_len (l : List (BitVec 32)) (ps : List Prt) : (pointsL l ps).length = ps.length := List.length_map _
theorem pointsL_step {l : List (BitVec 32)} {ps : List Prt} {k : Nat} (h : k < ps.length) : pointsL l (ps.take (k + 1)) = pointsL l (ps.take k) ++ [insideV l ps[k].fr ps[k].up] := by
  unfold pointsL
  rw [List.take_succ_eq_append_getElem h, List.map_append]
  rfl
set_option maxHeartbeats 4000000 in
set_option maxRecDepth 100000 in
theorem coverPointsAll_any (lv pv : Value) (ls : List (List Rul)) (ps : List Prt) (w : World) (hl : TablesAt w lv ls) (hok : TablesOk ls) (hs : sizeN ls ≤ 10000000) (hp : PartsAt w pv ps) (hn : ps.length ≤ 1000000) :
    Calls Try.prog 59 #[.agg #[lv], pv] w fun e w' => ∃ v l, e = .returned v ∧ Cuts ls.flatten l ∧ OwnUU w' w.heap.size v (pointsL l ps) ∧ Ext w w' := by
  have HL := Lib.hid hl
  have HOK := Lib.hid hok
  have HS := Lib.hid hs
  obtain ⟨ad, cap, rfl, a1, a2, a3⟩ := hl.form
  obtain ⟨pd, pcap, rfl, p1, p2, p3⟩ := hp.form
  have P3 := Lib.hid p3
  clear a3 p3 hok hl hp
  unfold maxLen at a2 p2
  obtain ⟨i32s, hi0, hi1, hi2, hi3⟩ := info_parts infoU32s
  go_enter Try.func59, Try.ntmps59
  go_upto_region 1 with (fail)
  refine hideW (Φ := fun W => Code.wp _ _ _ _ W) (fun W => Ext w W ∧ Blk W w.heap.size [.slice ad ls.length cap] 24)
    ⟨by (repeat (first | with_reducible exact Ext.refl _ | with_reducible assumption | with_reducible refine Ext.alloc ?_ _ | with_reducible refine Ext.drew ?_ | with_reducible refine Ext.drewN ?_ _ | (with_reducible refine Ext.setCellP ?_ ?_; focus (first | (simp; done) | (simp; omega) | omega)))), Blk.new w [.slice ad ls.length cap] 24⟩ (fun W1 hW1 => ?_)
  obtain ⟨hx1, hb1⟩ := hW1
  have HX1 := Lib.hid hx1
  have HL1 := Lib.hid (HL.out.later hx1)
  have hbc := hb1.cells
  clear hx1 hb1
  generalize hnb : w.heap.size = nb at *
  have HNB := Lib.hid hnb
  clear hnb
  go_upto_region 2 with (first
    | (go_at_call 70; (with_reducible refine (cutsOf_any _ ls _ HL1.out HOK.out (cap_of HS.out)).mono ?_); rintro e w2 ⟨v2, l, he, hO, hC, hx2⟩; subst he; have HU2 := Lib.hid hO.us; have HC := Lib.hid hC; have HX2 := Lib.hid (HX1.out.trans hx2); clear hO hC hx2))
  have HLEN := Lib.hid (show l.length ≤ 100000000 by have h1 := HC.out.len; rw [sizeN_flat] at h1; have := HS.out; omega)
  clear hbc HL1 HX1
  go_upto_region 3 with (first
    | (at_make; refine wpList_make_own _ rfl _ _ 95 rfl w2.heap.size 55 i32s _ 1 Try.underlying95 hi0 hi1 hi2 .i64 .i64 _ ps.length rfl rfl rfl (by rw [hi3]; omega) (by unfold maxLen; omega) (Nat.le_refl _) ?_; intro w3 ho3 hg3))
  have HX3 := Lib.hid (show Ext w2 w3 from Below.grown (Below.refl _ _) hg3 (Nat.le_refl _) (fun k hk => by cases hk))
  have HO3 := Lib.hid (show OwnUU w3 w2.heap.size (.slice (some ⟨w2.heap.size, 0, none⟩) 0 ps.length) (pointsL l (ps.take 0)) from ⟨[], by simpa [pointsL] using ho3, fun i l h => by simp [pointsL] at h⟩)
  clear ho3 hg3 hi0 hi1 hi2 hi3
  go_wp2_with fail
  go_loopw [6, 16] (fun v i wr => ∃ k : Nat, k ≤ ps.length ∧ i = I k ∧ Hid (OwnUU wr w2.heap.size v (pointsL l (ps.take k))) ∧ Hid (Ext w2 wr)) (fun _ i _ => ps.length - (intOf i).toNat)
  case atStart => exact ⟨0, by omega, rfl, HO3.out, HX3.out⟩
  case round =>
    obtain ⟨k, hk, rfl, HO, HX⟩ := hrel
    by_cases hlt : k < ps.length
    · obtain ⟨b0, o0, rfl, q0, q1, q2⟩ := P3.out k ps[k] (List.getElem?_eq_getElem hlt)
      have HXX := Lib.hid (HX2.out.trans HX.out)
      replace q0 := HXX.out.cell q0
      replace q1 := HXX.out.cell q1
      replace q2 := HXX.out.cell q2
      have HST := Lib.hid (pointsL_step (l := l) hlt)
      have HPL := Lib.hid (show (pointsL l (ps.take k)).length = k by rw [pointsL_len, List.length_take]; omega)
      generalize ps[k] = p at *
      go_upto_region 6 with (fail)
      refine hideW (Φ := fun W => Code.wp _ _ _ _ W) (fun W => Ext wr W ∧ Blk W wr.heap.size [U p.fr, U p.up, p.rk] 35)
        ⟨by (repeat (first | with_reducible exact Ext.refl _ | with_reducible assumption | with_reducible refine Ext.alloc ?_ _ | with_reducible refine Ext.drew ?_ | with_reducible refine Ext.drewN ?_ _ | (with_reducible refine Ext.setCellP ?_ ?_; focus (first | (simp; done) | (simp; omega) | omega)))), Blk.new wr [U p.fr, U p.up, p.rk] 35⟩ (fun W4 hW4 => ?_)
      obtain ⟨hx4, hb4⟩ := hW4
      have HX4 := Lib.hid (HX.out.trans hx4)
      have HO4 := Lib.hid (HO.out.later hx4)
      have hpc := hb4.cells
      clear hx4 hb4 HO HX q0 q1 q2 HXX
      generalize wr.heap.size = kb at *
      go_wp2_with (first
        | (go_at_call 98; (with_reducible refine (cutsInside_any _ l _ _ _ (HU2.out.later HX4.out) HLEN.out).mono ?_); rintro e w5 ⟨v5, he, hO, hx5⟩; subst he; obtain ⟨u5, c5, hv5⟩ := usAt_slice hO.us; subst hv5
           have HX5 := Lib.hid (HX4.out.trans hx5)
           have HI5 := Lib.hid (own_low hO HX4.out.size)
           have HO5 := HO4.out.later hx5
           obtain ⟨vs, hown, hvs⟩ := HO5
           have HX6 := Lib.hid (HX5.out.alloc (.cells #[.slice u5 (insideV l p.fr p.up).length c5] 55))
           have HA := Lib.hid ((Ext.refl w5).alloc (.cells #[.slice u5 (insideV l p.fr p.up).length c5] 55))
           have HOWN := Lib.hid (own_later hown HA.out)
           have HVS := Lib.hid (fun i l h => let ⟨u, g1, g2⟩ := hvs i l h; (⟨u, g1, own_later g2 HA.out⟩ : ∃ u, vs[i]? = some u ∧ OwnU _ _ u l))
           have HI6 := Lib.hid (own_later HI5.out HA.out)
           have HSRC := Lib.hid (Reads.made w5 1 55 1 [.slice u5 (insideV l p.fr p.up).length c5] rfl (by unfold maxLen; omega))
           clear hown hvs hO hx5 HI5)
        | (at_builtin; refine wpList_app rfl (.tmp 20) (.tmp 27) 95 rfl w2.heap.size 55 _ 1 24 Try.underlying95 infoU32s rfl (by decide) (by decide) _ _ _ rfl HOWN.out _ _ _ rfl HSRC.out (by intro u hu; simp at hu; subst hu; rfl) (by rw [HPL.out]; omega) HX6.out.size ?_; intro v9 w9 ho9 hg9
           have HO9 := Lib.hid (OwnUU.app HOWN.out HVS.out ho9 hg9 HI6.out)
           have HX9 := Lib.hid (Ext.grown HX6.out hg9 HOWN.out (Nat.le_refl _))
           clear ho9 hg9))
      go_roundw
      case rel => exact ⟨k + 1, by omega, by go_num, by show OwnUU _ _ _ _; rw [HST.out]; exact HO9.out, HX9.out⟩
      case measure => simp [intOf]; omega
    · have HE := Lib.hid (show ps.take k = ps by rw [List.take_of_length_le (by omega)])
      go_wp2_with fail
      go_ret
      refine ⟨_, l, rfl, HC.out, ?_, HX2.out.trans HX.out⟩
      have := HO.out
      rw [HE.out] at this
      exact this.low HX2.out.size
set_option maxHeartbeats 4000000 in
set_option maxRecDepth 100000 in
theorem coverPoints_any (lv : Value) (p : Prt) (ls : List (List Rul)) (w : World) (hl : TablesAt w lv ls) (hok : TablesOk ls) (hs : sizeN ls ≤ 10000000) :
    Calls Try.prog 30 #[.agg #[lv], p.val] w fun e w' => ∃ v l, e = .returned v ∧ Cuts ls.flatten l ∧ UsAt w' v (insideV l p.fr p.up) ∧ Ext w w' := by
  have HL := Lib.hid hl
  have HOK := Lib.hid hok
  have HS := Lib.hid hs
  obtain ⟨ad, cap, rfl, a1, a2, a3⟩ := hl.form
  clear a3 hok hl
  unfold maxLen at a2
  have HP := Lib.hid (show PartsAt (((w.alloc (.cells #[.slice ad ls.length cap] 24)).alloc (.cells #[U p.fr, U p.up, p.rk] 35)).alloc (.cells #[U p.fr, U p.up, p.rk] 35)) (.slice (some ⟨w.heap.size + 1 + 1, 0, none⟩) 1 1) [p] from by
    have h := parts_one ((w.alloc (.cells #[.slice ad ls.length cap] 24)).alloc (.cells #[U p.fr, U p.up, p.rk] 35)) p
    have e : ((w.alloc (.cells #[.slice ad ls.length cap] 24)).alloc (.cells #[U p.fr, U p.up, p.rk] 35)).heap.size = w.heap.size + 1 + 1 := by simp
    rw [e] at h
    exact h)
  have HX := Lib.hid (show Ext w (((w.alloc (.cells #[.slice ad ls.length cap] 24)).alloc (.cells #[U p.fr, U p.up, p.rk] 35)).alloc (.cells #[U p.fr, U p.up, p.rk] 35)) by (repeat (first | with_reducible exact Ext.refl _ | with_reducible assumption | with_reducible refine Ext.alloc ?_ _ | with_reducible refine Ext.drew ?_ | with_reducible refine Ext.drewN ?_ _ | (with_reducible refine Ext.setCellP ?_ ?_; focus (first | (simp; done) | (simp; omega) | omega)))))
  go_enter Try.func30, Try.ntmps30
  go_wp2_with (first
    | (go_at_call 59; (with_reducible refine (coverPointsAll_any _ _ ls [p] _ (HL.out.later HX.out) HOK.out HS.out HP.out (by simp)).mono ?_); rintro e w2 ⟨v2, l, he, hC, hO, hx2⟩; subst he; have HC := Lib.hid hC; have HX2 := Lib.hid (HX.out.trans hx2); obtain ⟨va, vcap, hv2, q1, q2, q3⟩ := hO.read.form
       rw [pointsL_len] at hv2 q1
       have hv3 : v2 = .slice va 1 vcap := hv2
       have q4 : 1 ≤ vcap := q1
       subst hv3
       unfold maxLen at q2
       obtain ⟨b0, o0, u0, e0, c0, g2⟩ := q3 0 (insideV l p.fr p.up) rfl
       subst e0
       rw [Nat.add_zero] at c0
       have HU := Lib.hid g2
       clear q1 q3 hv2 g2 hC hO hx2))
  go_ret
  exact ⟨_, l, rfl, HC.out, HU.out, HX2.out⟩
end Go.Proofs.Ytpfkfboohblgoaa
