/- theseuslaw20's sound: whether what is told of a network and a certificate is so. Conditions: whole numbers are within 64 bits. -/
import Derived.Test.YtpfkfboohblgoaaSoundL
import Derived.Test.YtpfkfboohblgoaaNetLoop
import Derived.Test.YtpfkfboohblgoaaOfOwn
namespace Go.Proofs.Ytpfkfboohblgoaa
open Go.RowKit

theorem cell_ltS {w : World} {p : Addr} {v : Value} (h : w.cell? p = some v) : p.block < w.heap.size := by
  cases hh : w.heap[p.block]? with
  | none => simp [World.cell?, hh] at h
  | some o => exact (Array.getElem?_eq_some_iff.1 hh).1
set_option maxHeartbeats 4000000 in
set_option maxRecDepth 100000 in
theorem sound_any (lv pv tv : Value) (ls : List (List Rul)) (c : Crt) (a : BitVec 32) (w : World) (hl : TablesAt w lv ls) (hok : TablesOk ls) (hs : sizeN ls ≤ 10000000) (hc : CertAt w pv tv c) (htr : ∀ x ∈ c.tr, In64 x) :
    Calls Try.prog 32 #[.agg #[lv], .agg #[I c.vd, pv, U c.dest, tv], U a] w fun e w' => e = .returned (.bool true) ∧ Ext w w' := by
  have HL := Lib.hid hl
  have HOK := Lib.hid hok
  have HS := Lib.hid hs
  have HC := Lib.hid hc
  have HTR := Lib.hid htr
  obtain ⟨ad, cap, hlv, a1, a2, a3⟩ := hl.form
  obtain ⟨pa, pc, hpv, p1, p2, p3⟩ := hc.parts.form
  obtain ⟨ta, tc, htv, t1, t2, t3⟩ := hc.tr.form
  subst hlv hpv htv
  have T3 := Lib.hid t3
  obtain ⟨cl, hcl⟩ := cuts_exist ls.flatten
  have HSI := ans_sound hcl hc.len
  have HNET := Lib.hid (fun (W : World) (h : Ext w W) => checkNet_any (.slice ad ls.length cap) (.slice pa c.ps.length pc) (.slice ta c.tr.length tc) ls c cl W (hl.later h) hok hs hcl (hc.later h) htr)
  have HMAY := Lib.hid (fun (W : World) (h : Ext w W) => netMay_any (.slice ad ls.length cap) ls W (hl.later h) hok (by omega))
  have HCMAY := Lib.hid (fun (W : World) (h : Ext w W) => certMay_any (.slice pa c.ps.length pc) (.slice ta c.tr.length tc) c ls.length W (hc.later h) htr)
  clear a3 p3 t3 hl hok hs hc htr hcl
  unfold maxLen at a2 p2 t2
  go_enter Try.func32, Try.ntmps32
  go_upto_region 1 with fail
  refine hideW (Φ := fun W => Code.wp _ _ _ _ W) (fun W => Ext w W ∧ Blk W w.heap.size [.slice ad ls.length cap] 24 ∧ Blk W (w.heap.size + 1) [I c.vd, .slice pa c.ps.length pc, U c.dest, .slice ta c.tr.length tc] 29)
    ⟨by (repeat (first | with_reducible exact Ext.refl _ | with_reducible assumption | with_reducible refine Ext.alloc ?_ _ | with_reducible refine Ext.drew ?_ | with_reducible refine Ext.drewN ?_ _ | (with_reducible refine Ext.setCellP ?_ ?_; focus (first | (simp; done) | (simp; omega) | omega)))), (Blk.new w [.slice ad ls.length cap] 24).old _, Blk.newAt [I c.vd, .slice pa c.ps.length pc, U c.dest, .slice ta c.tr.length tc] (by simp)⟩ (fun W1 hW1 => ?_)
  obtain ⟨hx1, hb1, hk1⟩ := hW1
  have HX1 := Lib.hid hx1
  have HB1 := Lib.hid hb1
  have HK1 := Lib.hid hk1
  have hbc := hb1.cells
  have hkc := hk1.cells
  clear hx1 hb1 hk1
  generalize w.heap.size + 1 = cb at *
  generalize w.heap.size = nb at *
  generalize ansV cl ls c = P at *
  cases HSI with
  | no z hz =>
    have hz1 : (z != 0) = true := by simp [hz]
    clear hz
    go_wp2_with (first
      | (go_at_call 21; (with_reducible refine (HNET.out _ HX1.out).mono ?_); rintro e w5 ⟨he, hx5⟩; dsimp only at he; subst he; have HX5 := Lib.hid hx5; clear hx5))
    go_ret
    have hxt := HX1.out.trans HX5.out
    exact ⟨rfl, by (repeat (first | with_reducible exact Ext.refl _ | with_reducible assumption | with_reducible refine Ext.alloc ?_ _ | with_reducible refine Ext.drew ?_ | with_reducible refine Ext.drewN ?_ _ | (with_reducible refine Ext.setCellP ?_ ?_; focus (first | (simp; done) | (simp; omega) | omega))))⟩
  | loop hm hcm h0 h1 hon hb =>
    have hl0 : ((c.tr.length : Int) == 0) = false := beq_false_of_ne (by omega)
    have h0i : (0 : Int) < (c.tr.length : Int) := by omega
    obtain ⟨x, hx⟩ : ∃ x, x = c.tr[0] := ⟨_, rfl⟩
    have hg0 : c.tr.getD 0 0 = x := by rw [List.getD_eq_getElem?_getD, List.getElem?_eq_getElem h0, hx]; rfl
    rw [hg0] at hon hb
    obtain ⟨tb, tf, hta, htc⟩ := T3.out 0 x (by rw [List.getElem?_eq_getElem h0, hx])
    subst hta
    rw [Nat.add_zero] at htc
    have HTC := Lib.hid htc
    have HX := Lib.hid hx
    have HON := Lib.hid hon
    have HWALK := Lib.hid (fun (W : World) (h : Ext w W) => (show Calls Try.prog 63 #[.agg #[.slice ad ls.length cap], U c.dest, I x, I c.tr.length] W fun e w' => e = .returned (.tuple #[I x, .bool true]) ∧ Ext W w' from by
      have := netWalk_any _ ls c.dest x c.tr.length W (HL.out.later h) HOK.out hm ⟨h0, h1⟩ fun j _ => (hon.it (vec_ok hm _) j).is (vec_ok hm _)
      rwa [hb] at this))
    clear hx hg0 hb hon htc h1
    go_upto_region 2 with (first
      | (go_at_call 21; (with_reducible refine (HNET.out _ HX1.out).mono ?_); rintro e w5 ⟨he, hx5⟩; dsimp only at he; subst he; have HX5 := Lib.hid hx5; clear hx5))
    refine hideW (Φ := fun W => Code.wp _ _ _ _ W) (fun W => Ext w5 W ∧ Blk W w5.heap.size [I 2, I 0] 40)
      ⟨by (repeat (first | with_reducible exact Ext.refl _ | with_reducible assumption | with_reducible refine Ext.alloc ?_ _ | with_reducible refine Ext.drew ?_ | with_reducible refine Ext.drewN ?_ _ | (with_reducible refine Ext.setCellP ?_ ?_; focus (first | (simp; done) | (simp; omega) | omega)))), Blk.new w5 [I 2, I 0] 40⟩ (fun W6 hW6 => ?_)
    obtain ⟨hx6, hb6⟩ := hW6
    have HX6 := Lib.hid (HX5.out.trans hx6)
    have HA6 := Lib.hid hb6
    clear hbc hkc hx6 hb6
    have HXT := Lib.hid (HX1.out.trans HX6.out)
    have HM := Lib.hid hm
    have HCM := Lib.hid hcm
    have hbk := (HB1.out.later HX6.out).keep
    have hkk := (HK1.out.later HX6.out).keep
    have hak := HA6.out.keep
    have hx0 := Ext.refl W6
    clear hm hcm
    have htk := Ext.keep (HXT.out.cell HTC.out)
    go_upto_region 9 with (first
      | (go_at_call 19; (with_reducible refine (HMAY.out _ HXT.out).mono ?_); rintro e w7 ⟨he, hx7⟩; rw [HM.out] at he; subst he; have HX7 := Lib.hid hx7; have hx0 := hx7; clear hx7)
      | (go_at_call 20; (with_reducible refine (HCMAY.out _ (HXT.out.trans HX7.out)).mono ?_); rintro e w8 ⟨he, hx8⟩; rw [HCM.out] at he; subst he; have HX8 := Lib.hid (HX7.out.trans hx8); have hx0 := HX8.out; clear hx8))
    clear hbk hkk hak htk
    have hbk := (HB1.out.later (HX6.out.trans HX8.out)).keep
    have hkk := (HK1.out.later (HX6.out.trans HX8.out)).keep
    have htk := Ext.keep ((HXT.out.trans HX8.out).cell HTC.out)
    refine wp_region_E 15 rfl (by kernel_rfl) (by kernel_rfl) ?_
    refine WEi_at 0 ?_
    iterate 10
      refine WEi_q rfl (by decide) (by kernel_rfl) rfl ?_; apply Exists.intro; refine ⟨fun w1 hx1 => ?_, ?_⟩
      · have hq1 := hx1.cells; go_simp; try go_bits
        first | with_reducible rfl
      simp only [Act.put, List.setIfInBounds_toArray, List.set_cons_zero, List.set_cons_succ, Nat.reduceAdd]
    refine WEi_out ?_
    refine WE_q 10 rfl (by decide) (by kernel_rfl) rfl ?_; apply Exists.intro; refine ⟨fun w1 hx1 => ?_, ?_⟩
    · have hq1 := hx1.cells; go_simp; try go_bits
      first | with_reducible rfl | ((refine (HWALK.out _ (HXT.out.trans (HX8.out.trans hx1))).mono ?_; rintro e w' ⟨rfl, hx⟩; exact ⟨rfl, hx⟩))
    simp only [Act.put, List.setIfInBounds_toArray, List.set_cons_zero, List.set_cons_succ]
    refine WEi_at 11 ?_
    iterate 4
      refine WEi_q rfl (by decide) (by kernel_rfl) rfl ?_; apply Exists.intro; refine ⟨fun w1 hx1 => ?_, ?_⟩
      · have hq1 := hx1.cells; go_simp; try go_bits
        first | with_reducible rfl
      simp only [Act.put, List.setIfInBounds_toArray, List.set_cons_zero, List.set_cons_succ, Nat.reduceAdd]
    refine WEi_out ?_
    refine WE_done (by kernel_rfl) (fun w9 hx9 => ?_)
    (try simp only [List.drop_succ_cons, List.drop_zero])
    have HX9 := Lib.hid (HX8.out.trans hx9)
    have HX89 := Lib.hid hx9
    have hx0 := hx9
    go_upto_region 11 with (first
      | (go_at_call 31; (with_reducible refine (netLoop_any _ ls c.dest _ (HL.out.later (HXT.out.trans HX9.out)) HOK.out HM.out).mono ?_); rintro e w10 ⟨u, l2, b, he, hLI, hbl, hO, hx10⟩; subst he; have HX10 := Lib.hid (HX9.out.trans hx10); have HX810 := Lib.hid (HX89.out.trans hx10); have HLI := Lib.hid hLI; have HBL := Lib.hid hbl; obtain ⟨ua, uc, rfl, -, -, -⟩ := hO.ints.form; clear hLI hbl hO hx10))
    have hl2 : l2 ≠ [] := fun e => by
      have h := HLI.out
      rw [e] at h
      exact LoopIs.nil.1 h _ HON.out
    obtain rfl := HBL.out.2 hl2
    have hl20 : 0 < l2.length := List.length_pos_iff.2 hl2
    have hl2d : decide (0 < (l2.length : Int)) = true := decide_eq_true (by omega)
    have hl2n : decide (0 < l2.length) = true := decide_eq_true hl20
    have hx0 := HX810.out
    clear HBL hl2 hl20
    go_wp2_with fail
    go_ret
    exact ⟨rfl, HXT.out.trans HX10.out⟩
  | free hm hcm h =>
    have HNO := Lib.hid h
    clear h
    go_upto_region 2 with (first
      | (go_at_call 21; (with_reducible refine (HNET.out _ HX1.out).mono ?_); rintro e w5 ⟨he, hx5⟩; dsimp only at he; subst he; have HX5 := Lib.hid hx5; clear hx5))
    refine hideW (Φ := fun W => Code.wp _ _ _ _ W) (fun W => Ext w5 W ∧ Blk W w5.heap.size [I 1, I 0] 40)
      ⟨by (repeat (first | with_reducible exact Ext.refl _ | with_reducible assumption | with_reducible refine Ext.alloc ?_ _ | with_reducible refine Ext.drew ?_ | with_reducible refine Ext.drewN ?_ _ | (with_reducible refine Ext.setCellP ?_ ?_; focus (first | (simp; done) | (simp; omega) | omega)))), Blk.new w5 [I 1, I 0] 40⟩ (fun W6 hW6 => ?_)
    obtain ⟨hx6, hb6⟩ := hW6
    have HX6 := Lib.hid (HX5.out.trans hx6)
    have HA6 := Lib.hid hb6
    clear hbc hkc hx6 hb6
    have HXT := Lib.hid (HX1.out.trans HX6.out)
    have HM := Lib.hid hm
    have HCM := Lib.hid hcm
    have hbk := (HB1.out.later HX6.out).keep
    have hkk := (HK1.out.later HX6.out).keep
    have hak := HA6.out.keep
    have hx0 := Ext.refl W6
    clear hm hcm
    go_upto_region 12 with (first
      | (go_at_call 19; (with_reducible refine (HMAY.out _ HXT.out).mono ?_); rintro e w7 ⟨he, hx7⟩; rw [HM.out] at he; subst he; have HX7 := Lib.hid hx7; have hx0 := hx7; clear hx7)
      | (go_at_call 20; (with_reducible refine (HCMAY.out _ (HXT.out.trans HX7.out)).mono ?_); rintro e w8 ⟨he, hx8⟩; rw [HCM.out] at he; subst he; have HX8 := Lib.hid (HX7.out.trans hx8); have hx0 := HX8.out; clear hx8))
    go_upto_region 13 with (first
      | (go_at_call 64; (with_reducible refine (r12OfO_any _ ls _ (HL.out.later (HXT.out.trans HX8.out)) HOK.out HS.out).mono ?_); rintro e w9 ⟨v9, l9, he, hO, hC9, hx9⟩; subst he; have HX9 := Lib.hid hx9; have HXA := Lib.hid (hx9.alloc (.cells #[U a] 26)); have HOA := Lib.hid (hO.later ((Ext.refl w9).alloc (.cells #[U a] 26))); have HSRC := Lib.hid (Reads.made w9 1 26 1 [U a] rfl (by unfold maxLen; omega)); have HLEN := Lib.hid (show l9.length ≤ 20000001 by have h1 := hC9.len; have h2 := HS.out; rw [sizeN_flat] at h1; omega); clear hO hC9 hx9)
      | (at_builtin
         refine wpList_app rfl (.tmp 87) (.tmp 89) 55 rfl w8.heap.size 26 _ 1 4 Try.underlying55 infoU32 rfl (by decide) (by decide) _ _ _ rfl HOA.out _ _ _ rfl HSRC.out (by intro q hq; simp at hq; subst hq; rfl) (by have := HLEN.out; omega) HXA.out.size ?_
         intro v10 w10 ho10 hg10
         have HX10 := Lib.hid (Ext.grown HXA.out hg10 HOA.out (Nat.le_refl _))
         have HO10 := Lib.hid (show OwnU w10 w8.heap.size v10 (l9 ++ [a]) from by
           unfold OwnU
           rw [ucells_app, List.length_append]
           exact ho10)
         clear ho10 hg10))
    have HL0 := Lib.hid (show 0 < (l9 ++ [a]).length by simp)
    have HLB := Lib.hid (show (l9 ++ [a]).length ≤ 20000002 by rw [List.length_append]; have := HLEN.out; simp; omega)
    clear HOA HSRC
    generalize l9 ++ [a] = L at *
    obtain ⟨xa, xc, hxv, x1, x2, x3⟩ := HO10.out.us.form
    subst hxv
    unfold maxLen at x2
    obtain ⟨xb, xo, hxa, -⟩ := x3 0 _ (List.getElem?_eq_getElem HL0.out)
    subst hxa
    have X3 := Lib.hid x3
    have HXU := Lib.hid (HXT.out.trans (HX8.out.trans HX10.out))
    have hlb := HLB.out
    clear x3
    go_wp2_with fail
    go_loopw [13] (fun i wr => ∃ k : Nat, k ≤ L.length ∧ i = I k ∧ Hid (Ext w10 wr)) (fun i _ => L.length - (intOf i).toNat)
    case atStart => exact ⟨0, Nat.zero_le _, rfl, Ext.refl _⟩
    case round =>
      obtain ⟨k, hk, rfl, HX⟩ := hrel
      have HXR := Lib.hid (HX8.out.trans (HX10.out.trans HX.out))
      by_cases hlt : k < L.length
      · have hkd : decide ((k : Int) < (L.length : Int)) = true := decide_eq_true (by omega)
        have HLT := Lib.hid hlt
        obtain ⟨b1, o1, he1, hc1⟩ := X3.out k L[k] (List.getElem?_eq_getElem hlt)
        cases he1
        have HC1 := Lib.hid hc1
        have HY := Lib.hid (HNO.out L[k])
        generalize L[k] = y at *
        clear hc1 hbk hak hkk hx0
        go_upto_region 16 with fail
        refine wp_region_R (RB (wr.heap.size)) 10 rfl (by kernel_rfl) (by kernel_rfl) (fun wz hxz => ?_)
        have hsz : wr.heap.size ≤ wz.heap.size := hxz.size
        have HZ := Lib.hid hxz
        have g0 := RB.keep hsz (HB1.out.later (HX6.out.trans HXR.out)).lt (((HB1.out.later (HX6.out.trans HXR.out)).later hxz).cells 0)
        have g1 := RB.keep hsz (cell_ltS (HX.out.cell HC1.out)) (hxz.cell (HX.out.cell HC1.out))
        clear hxz
        refine WRi_at 0 ?_
        iterate 5
          refine WRi_q (preRB _) rfl (by decide) (by kernel_rfl) rfl ?_; apply Exists.intro; refine ⟨fun w1 hx1 => ?_, ?_⟩
          · go_simp; try go_bits
            first | with_reducible rfl | rfl
          simp only [Act.put, List.setIfInBounds_toArray, List.set_cons_zero, List.set_cons_succ, Nat.reduceAdd]
        refine WRi_out ?_
        clear g0 g1
        refine WR_one 5 rfl (by decide) (by kernel_rfl) rfl (fun K hK => ?_)
        go_simp
        (with_reducible refine (netLoop_any _ ls y _ (HL.out.later (HXT.out.trans (HXR.out.trans HZ.out))) HOK.out HM.out).mono ?_)
        rintro e w11 ⟨u, l2, b, he, hLI, hbl, hO, hx11⟩
        subst he
        have hl2 : l2 = [] := LoopIs.one hLI (LoopIs.nil.2 HY.out)
        cases b with
        | true => exact absurd hl2 (hbl.1 rfl)
        | false =>
        refine hK _ _ (RB.ext hx11) ?_
        have HX11 := Lib.hid (HX.out.trans (HZ.out.trans hx11))
        clear hK K hLI hbl hO hx11 hl2
        refine WRi_at 6 ?_
        iterate 4
          refine WRi_q (preRB _) rfl (by decide) (by kernel_rfl) rfl ?_; apply Exists.intro; refine ⟨fun w1 hx1 => ?_, ?_⟩
          · go_simp; try go_bits
            first | with_reducible rfl | rfl
          simp only [Act.put, List.setIfInBounds_toArray, List.set_cons_zero, List.set_cons_succ, Nat.reduceAdd]
        refine WRi_out ?_
        refine WR_done (by kernel_rfl) ?_
        (try simp only [List.drop_succ_cons, List.drop_zero])
        go_wp2_with fail
        go_roundw
        case rel => exact ⟨k + 1, Nat.succ_le_of_lt HLT.out, by go_num, HX11.out⟩
        case measure => have := HLT.out; simp [intOf]; omega
      · have hx0 := HXR.out
        go_wp2_with fail
        go_ret
        exact ⟨rfl, HXT.out.trans HXR.out⟩
end Go.Proofs.Ytpfkfboohblgoaa
