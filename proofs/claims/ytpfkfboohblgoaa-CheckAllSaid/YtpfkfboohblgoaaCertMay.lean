/- cert.May: whether a certificate may be. Conditions: whole numbers are within 64 bits. -/
import Derived.Test.YtpfkfboohblgoaaCertF
import Derived.Test.YtpfkfboohblgoaaSetI
import Derived.Test.YtpfkfboohblgoaaAtomsOf
namespace Go.Proofs.Ytpfkfboohblgoaa
open Go Go.RowKit Go.Maps Go.Proofs

theorem prt_form {w : World} {p : Prt} {r : List Int} (h : IntsAt w p.rk r) : p.rn = r.length := by
  obtain ⟨a, cap, h1, _⟩ := h.form
  simp only [Value.slice.injEq] at h1
  exact h1.2.1
set_option maxHeartbeats 4000000 in
set_option maxRecDepth 100000 in
theorem certFree_any (pv tv : Value) (c : Crt) (n : Int) (nb : Nat) (w : World) (h : CertAt w pv tv c) (hb : w.cell? ⟨nb, 0, none⟩ = some (I n)) :
    Calls Try.prog 47 #[.agg #[I c.vd, pv, U c.dest, tv], I n, outF nb] w fun e w' => e = .returned (I (freeV n c)) ∧ Ext w w' := by
  have HC := Lib.hid h
  have HB := Lib.hid hb
  obtain ⟨pa, pc, hpe, p1, p2, p3⟩ := h.parts.form
  obtain ⟨ta, tc, hte, t1, t2, t3⟩ := h.tr.form
  subst hpe hte
  have P3 := Lib.hid p3
  clear p3 t3 h hb
  unfold maxLen at p2 t2
  go_enter Try.func47, Try.ntmps47
  go_upto_region 1 with (fail)
  refine hideW (Φ := fun W => Code.wp _ _ _ _ W) (fun W => Ext w W ∧ Blk W w.heap.size [I c.vd, .slice pa c.ps.length pc, U c.dest, .slice ta c.tr.length tc] 29)
    ⟨by (repeat (first | with_reducible exact Ext.refl _ | with_reducible assumption | with_reducible refine Ext.alloc ?_ _ | with_reducible refine Ext.drew ?_ | with_reducible refine Ext.drewN ?_ _ | (with_reducible refine Ext.setCellP ?_ ?_; focus (first | (simp; done) | (simp; omega) | omega)))), Blk.new w [I c.vd, .slice pa c.ps.length pc, U c.dest, .slice ta c.tr.length tc] 29⟩ (fun W1 hW1 => ?_)
  obtain ⟨hx1, hk1⟩ := hW1
  have HX1 := Lib.hid hx1
  have HK1 := Lib.hid hk1
  clear hx1 hk1
  generalize w.heap.size = xb at *
  have hkc := HK1.out.cells
  by_cases hd : c.dest = 0#32 ∧ c.tr.length = 0
  · have hd1 : (c.dest != 0#32) = false := by simp [hd.1]
    have hd2 : decide ((0 : Int) < (c.tr.length : Int)) = false := decide_eq_false (by omega)
    have hd2n : decide (0 < c.tr.length) = false := decide_eq_false (by omega)
    have HF1 := Lib.hid (show freeV n c = if 8193 < c.ps.length then 12 else if meetV c.ps ≠ 0 then 15 else rksV n c.rks by unfold freeV; rw [if_neg (by rintro (g | g); exact g hd.1; omega)])
    clear hd
    by_cases hm : 8193 < c.ps.length
    · have hm1 : decide ((8193 : Int) < (c.ps.length : Int)) = true := decide_eq_true (by omega)
      have HF2 := Lib.hid (HF1.out.trans (if_pos hm))
      go_wp2_with fail
      go_ret
      exact ⟨by rw [HF2.out]; rfl, HX1.out⟩
    · have hm1 : decide ((8193 : Int) < (c.ps.length : Int)) = false := decide_eq_false (by omega)
      have hm1n : decide (8193 < c.ps.length) = false := decide_eq_false hm
      have HF2 := Lib.hid (HF1.out.trans (if_neg hm))
      rcases meetV_two c.ps with hq | hq
      · have HQ := Lib.hid hq
        have HF3 := Lib.hid (show freeV n c = rksV n c.rks by rw [HF2.out, if_neg (by rw [hq]; simp)])
        clear hq
        go_upto_region 9 with (first
          | (go_at_call 86; (with_reducible refine (certMeet_any _ c.ps _ (HC.out.parts.later HX1.out)).mono ?_); rintro e w2 ⟨he, hx2⟩; rw [HQ.out] at he; subst he; have HX2 := Lib.hid (HX1.out.trans hx2); have hkc2 := (HK1.out.later hx2).cells; clear hx2))
        have HRL := Lib.hid HC.out.len
        go_wp2_with fail
        go_loopw [32] (fun i wr => ∃ k : Nat, k ≤ c.ps.length ∧ i = I k ∧ Hid (rksV n c.rks = rksV n (c.rks.drop k)) ∧ Hid (Ext w wr)) (fun i _ => c.ps.length - (intOf i).toNat)
        case atStart => exact ⟨0, by omega, rfl, rfl, HX2.out⟩
        case round =>
          obtain ⟨k, hk, rfl, HG, HX⟩ := hrel
          by_cases hlt : k < c.ps.length
          · have hkr : k < c.rks.length := by rw [HRL.out]; exact hlt
            obtain ⟨b0, o0, he0, q0, q1, q2⟩ := P3.out k _ (List.getElem?_eq_getElem hlt)
            subst he0
            replace q0 := HX.out.cell q0
            replace q1 := HX.out.cell q1
            replace q2 := HX.out.cell q2
            have hik := HC.out.rk k _ _ (List.getElem?_eq_getElem hlt) (List.getElem?_eq_getElem hkr)
            have HRN := Lib.hid (prt_form hik)
            have HIK := Lib.hid (hik.later HX.out)
            have HST := Lib.hid (rksV_step n hkr)
            clear hik
            generalize c.ps[k] = p at *
            generalize c.rks[k] = r at *
            by_cases hl : (p.rn : Int) = n
            · have hl1 : ((p.rn : Int) != n) = false := by simp [hl]
              have HNB := Lib.hid (HX.out.cell HB.out)
              cases ho : r.any (outB n) with
              | true =>
                have HO := Lib.hid ho
                have HR := Lib.hid (show freeV n c = 16 by rw [HF3.out, HG.out, HST.out, if_neg (by rw [← HRN.out]; simp [hl]), if_pos ho])
                clear ho hl
                have HA := Lib.hid (show Ext wr (wr.alloc (.cells #[U p.fr, U p.up, p.rk] 35)) from (Ext.refl wr).alloc _)
                go_wp2_with (first
                  | (go_at_call 87; (with_reducible refine (containsFunc_any _ r n nb _ (HIK.out.later HA.out) (HA.out.cell HNB.out)).mono ?_); rintro e w' ⟨he, hw⟩; rw [HO.out] at he; subst he; obtain rfl := hw.symm))
                go_ret
                exact ⟨by rw [HR.out]; rfl, HX.out.trans HA.out⟩
              | false =>
                have HO := Lib.hid ho
                have HR := Lib.hid (show rksV n c.rks = rksV n (c.rks.drop (k + 1)) by rw [HG.out, HST.out, if_neg (by rw [← HRN.out]; simp [hl]), ho]; rfl)
                clear ho hl
                have HA := Lib.hid (show Ext wr (wr.alloc (.cells #[U p.fr, U p.up, p.rk] 35)) from (Ext.refl wr).alloc _)
                go_wp2_with (first
                  | (go_at_call 87; (with_reducible refine (containsFunc_any _ r n nb _ (HIK.out.later HA.out) (HA.out.cell HNB.out)).mono ?_); rintro e w' ⟨he, hw⟩; rw [HO.out] at he; subst he; obtain rfl := hw.symm))
                go_roundw
                case rel => exact ⟨k + 1, by omega, by go_num, HR.out, HX.out.trans HA.out⟩
                case measure => simp [intOf]; omega
            · have hl1 : ((p.rn : Int) != n) = true := by simp [hl]
              have HR := Lib.hid (show freeV n c = 1 by rw [HF3.out, HG.out, HST.out, if_pos (by rw [← HRN.out]; exact hl)])
              clear hl
              have HA := Lib.hid (show Ext wr (wr.alloc (.cells #[U p.fr, U p.up, p.rk] 35)) from (Ext.refl wr).alloc _)
              go_wp2_with fail
              go_ret
              exact ⟨by rw [HR.out]; rfl, HX.out.trans HA.out⟩
          · have HE := Lib.hid (show freeV n c = 0 by rw [HF3.out, HG.out, rksV_end n (by have := HRL.out; omega)])
            go_wp2_with fail
            go_ret
            exact ⟨by rw [HE.out]; rfl, HX.out⟩
      · have HQ := Lib.hid hq
        have HF3 := Lib.hid (show freeV n c = 15 by rw [HF2.out, if_pos (by rw [hq]; simp)])
        clear hq
        go_wp2_with (first
          | (go_at_call 86; (with_reducible refine (certMeet_any _ c.ps _ (HC.out.parts.later HX1.out)).mono ?_); rintro e w2 ⟨he, hx2⟩; rw [HQ.out] at he; subst he; have HX2 := Lib.hid (HX1.out.trans hx2); clear hx2))
        go_ret
        exact ⟨by rw [HF3.out]; rfl, HX2.out⟩
  · have HF1 := Lib.hid (show freeV n c = 3 by unfold freeV; rw [if_pos (by by_cases g : c.dest = 0#32; exact .inr (by rcases Nat.eq_zero_or_pos c.tr.length with g2 | g2; exact absurd ⟨g, g2⟩ hd; exact g2); exact .inl g)])
    by_cases g : c.dest = 0#32
    · have hd1 : (c.dest != 0#32) = false := by simp [g]
      have hd2 : decide ((0 : Int) < (c.tr.length : Int)) = true := decide_eq_true (by
        rcases Nat.eq_zero_or_pos c.tr.length with g2 | g2
        · exact absurd ⟨g, g2⟩ hd
        · omega)
      have hd2n : decide (0 < c.tr.length) = true := decide_eq_true (by
        rcases Nat.eq_zero_or_pos c.tr.length with g2 | g2
        · exact absurd ⟨g, g2⟩ hd
        · exact g2)
      clear hd g
      go_wp2_with fail
      go_ret
      exact ⟨by rw [HF1.out]; rfl, HX1.out⟩
    · have hd1 : (c.dest != 0#32) = true := by simp [g]
      clear hd g
      go_wp2_with fail
      go_ret
      exact ⟨by rw [HF1.out]; rfl, HX1.out⟩
set_option maxHeartbeats 4000000 in
set_option maxRecDepth 100000 in
theorem certLoops_any (pv tv : Value) (c : Crt) (n : Int) (nb : Nat) (w : World) (h : CertAt w pv tv c) (hok : ∀ x ∈ c.tr, In64 x) (hb : w.cell? ⟨nb, 0, none⟩ = some (I n)) :
    Calls Try.prog 48 #[.agg #[I c.vd, pv, U c.dest, tv], I n, outF nb] w fun e w' => e = .returned (I (loopsV n c)) ∧ Ext w w' := by
  have HC := Lib.hid h
  have HB := Lib.hid hb
  have HOK := Lib.hid hok
  obtain ⟨pa, pc, hpe, p1, p2, p3⟩ := h.parts.form
  obtain ⟨ta, tc, hte, t1, t2, t3⟩ := h.tr.form
  subst hpe hte
  have T3 := Lib.hid t3
  clear p3 t3 h hb hok
  unfold maxLen at p2 t2
  have hmm := @run_makeMap Try.prog
  go_enter Try.func48, Try.ntmps48
  go_upto_region 1 with (fail)
  refine hideW (Φ := fun W => Code.wp _ _ _ _ W) (fun W => Ext w W ∧ Blk W w.heap.size [I c.vd, .slice pa c.ps.length pc, U c.dest, .slice ta c.tr.length tc] 29)
    ⟨by (repeat (first | with_reducible exact Ext.refl _ | with_reducible assumption | with_reducible refine Ext.alloc ?_ _ | with_reducible refine Ext.drew ?_ | with_reducible refine Ext.drewN ?_ _ | (with_reducible refine Ext.setCellP ?_ ?_; focus (first | (simp; done) | (simp; omega) | omega)))), Blk.new w [I c.vd, .slice pa c.ps.length pc, U c.dest, .slice ta c.tr.length tc] 29⟩ (fun W1 hW1 => ?_)
  obtain ⟨hx1, hk1⟩ := hW1
  have HX1 := Lib.hid hx1
  have HK1 := Lib.hid hk1
  clear hx1 hk1
  have HXL := Lib.hid HK1.out.lt
  generalize hxb : w.heap.size = xb at *
  have HXB := Lib.hid hxb
  clear hxb
  have hkc := HK1.out.cells
  by_cases hp : 0 < c.ps.length
  · have h1 : decide ((0 : Int) < (c.ps.length : Int)) = true := decide_eq_true (by omega)
    have h1n : decide (0 < c.ps.length) = true := decide_eq_true hp
    have HF := Lib.hid (show loopsV n c = 3 by unfold loopsV; rw [if_pos hp])
    clear hp
    go_wp2_with fail
    go_ret
    exact ⟨by rw [HF.out]; rfl, HX1.out⟩
  have h1 : decide ((0 : Int) < (c.ps.length : Int)) = false := decide_eq_false (by omega)
  have h1n : decide (0 < c.ps.length) = false := decide_eq_false hp
  have HF1 := Lib.hid (show loopsV n c = if c.tr.length = 0 ∨ n < (c.tr.length : Int) then 12 else if c.tr.any (outB n) then 10 else if trG (c.tr.headD 0) [] c.tr then 17 else 0 by unfold loopsV; rw [if_neg hp])
  clear hp
  by_cases h0 : c.tr.length = 0
  · have h2 : ((c.tr.length : Int) == 0) = true := by simp [h0]
    have HF := Lib.hid (HF1.out.trans (if_pos (.inl h0)))
    clear h0
    go_wp2_with fail
    go_ret
    exact ⟨by rw [HF.out]; rfl, HX1.out⟩
  have h2 : ((c.tr.length : Int) == 0) = false := beq_false_of_ne (by omega)
  by_cases hn : n < (c.tr.length : Int)
  · have h3 : decide (n < (c.tr.length : Int)) = true := decide_eq_true hn
    have HF := Lib.hid (HF1.out.trans (if_pos (.inr hn)))
    clear h0 hn
    go_wp2_with fail
    go_ret
    exact ⟨by rw [HF.out]; rfl, HX1.out⟩
  have h3 : decide (n < (c.tr.length : Int)) = false := decide_eq_false hn
  have HF2 := Lib.hid (HF1.out.trans (if_neg (by rintro (g | g); exact h0 g; exact hn g)))
  have HNB := Lib.hid (HX1.out.cell HB.out)
  have HT1 := Lib.hid (HC.out.tr.later HX1.out)
  cases ho : c.tr.any (outB n) with
  | true =>
    have HO := Lib.hid ho
    have HF := Lib.hid (HF2.out.trans (if_pos ho))
    clear ho h0 hn
    go_wp2_with (first
      | (go_at_call 87; (with_reducible refine (containsFunc_any _ c.tr n nb _ HT1.out HNB.out).mono ?_); rintro e w' ⟨he, hw⟩; rw [HO.out] at he; subst he; obtain rfl := hw.symm))
    go_ret
    exact ⟨by rw [HF.out]; rfl, HX1.out⟩
  | false =>
    have HO := Lib.hid ho
    have HF := Lib.hid (HF2.out.trans (if_neg (by rw [ho]; simp)))
    have hlp : 0 < c.tr.length := by omega
    obtain ⟨f, hf⟩ : ∃ f, c.tr[0]? = some f := ⟨c.tr[0], List.getElem?_eq_getElem hlp⟩
    have HHD := Lib.hid (show c.tr.headD 0 = f by cases ht : c.tr with | nil => rw [ht] at hlp; simp at hlp | cons y t => rw [ht] at hf; simpa using hf)
    rw [HHD.out] at HF
    clear ho h0 hn HF1 HF2
    obtain ⟨bf, of, hef, qf⟩ := T3.out 0 f hf
    subst hef
    have HQF := Lib.hid qf
    clear qf hf
    go_upto_region 8 with (first
      | (go_at_call 87; (with_reducible refine (containsFunc_any _ c.tr n nb _ HT1.out HNB.out).mono ?_); rintro e w' ⟨he, hw⟩; rw [HO.out] at he; subst he; obtain rfl := hw.symm))
    refine hideW (Φ := fun W => Code.wp _ _ _ _ W) (fun W => Ext w W ∧ Ext W1 W ∧ SetI W W1.heap.size [])
      ⟨HX1.out.alloc _, by (repeat (first | with_reducible exact Ext.refl _ | with_reducible assumption | with_reducible refine Ext.alloc ?_ _ | with_reducible refine Ext.drew ?_ | with_reducible refine Ext.drewN ?_ _ | (with_reducible refine Ext.setCellP ?_ ?_; focus (first | (simp; done) | (simp; omega) | omega)))), SetI.start W1⟩ (fun W2 hW2 => ?_)
    obtain ⟨hx2, hy2, hs2⟩ := hW2
    have HX2 := Lib.hid hx2
    have HK2 := Lib.hid (HK1.out.later hy2)
    have HS2 := Lib.hid hs2
    have HMB := Lib.hid (show w.heap.size ≤ W1.heap.size from HX1.out.size)
    have HXM := Lib.hid (show xb < W1.heap.size from HXL.out)
    clear hx2 hs2 hy2 hmm hkc
    generalize W1.heap.size = mb at *
    have hkc2 := HK2.out.cells
    go_wp2_with fail
    clear hkc2
    go_loopw [33] (fun i wr => ∃ k : Nat, k ≤ c.tr.length ∧ i = I k ∧ Hid (SetI wr mb (c.tr.take k)) ∧ Hid (trG f [] c.tr = trG f (c.tr.take k) (c.tr.drop k)) ∧ Hid (Ext w wr) ∧ Hid (Blk wr xb [I c.vd, .slice pa c.ps.length pc, U c.dest, .slice (some ⟨bf, of, none⟩) c.tr.length tc] 29)) (fun i _ => c.tr.length - (intOf i).toNat)
    case atStart => exact ⟨0, by omega, rfl, HS2.out, rfl, HX2.out, HK2.out⟩
    case round =>
      obtain ⟨k, hk, rfl, HS, HG, HX, HK⟩ := hrel
      have hkr := HK.out.cells
      by_cases hlt : k < c.tr.length
      · obtain ⟨b0, o0, he0, q0⟩ := T3.out k _ (List.getElem?_eq_getElem hlt)
        simp only [Option.some.injEq, Addr.mk.injEq, and_true] at he0
        obtain ⟨rfl, rfl⟩ := he0
        replace q0 := HX.out.cell q0
        have qf := HX.out.cell HQF.out
        simp only [Nat.add_zero] at qf
        have HIN := Lib.hid (HOK.out _ (List.getElem_mem hlt))
        have HST := Lib.hid (trG_step f hlt)
        have hlk := HS.out.look HIN.out
        have HTK := Lib.hid (show c.tr.take (k + 1) = c.tr.take k ++ [c.tr[k]] from List.take_succ_eq_append_getElem hlt)
        have HTL := Lib.hid (show (c.tr.take k).length < maxLen by rw [List.length_take]; unfold maxLen; omega)
        generalize c.tr[k] = x at *
        by_cases hm : x ∈ c.tr.take k
        · have hmd : decide (x ∈ c.tr.take k) = true := decide_eq_true hm
          rw [hmd] at hlk
          have HR := Lib.hid (show loopsV n c = 17 by rw [HF.out, HG.out, HST.out, hmd]; rfl)
          clear hm hmd
          go_wp2_with fail
          go_ret
          exact ⟨by rw [HR.out]; rfl, HX.out⟩
        · have hmd : decide (x ∈ c.tr.take k) = false := decide_eq_false hm
          rw [hmd] at hlk
          by_cases hlf : x < f
          · have hfd : decide (x < f) = true := decide_eq_true hlf
            have HR := Lib.hid (show loopsV n c = 17 by rw [HF.out, HG.out, HST.out, hmd, hfd]; rfl)
            clear hm hmd hlf
            go_wp2_with fail
            go_ret
            exact ⟨by rw [HR.out]; rfl, HX.out⟩
          · have hfd : decide (x < f) = false := decide_eq_false hlf
            have HR := Lib.hid (show trG f [] c.tr = trG f (c.tr.take (k + 1)) (c.tr.drop (k + 1)) by rw [HG.out, HST.out, hmd, hfd]; rfl)
            obtain ⟨nn, D, hown, hnn, hh⟩ := HS.out
            have HOWN := Lib.hid hown
            have HNN := Lib.hid hnn
            have HH := Lib.hid hh
            have HLT := Lib.hid (Nat.lt_of_le_of_lt hnn HTL.out)
            have HKEY := Lib.hid (keyI HIN.out)
            clear hm hmd hlf hown hnn hh
            go_wp2_with (first
              | (at_mapUpdate; refine wpList_mapUpdate_own _ rfl _ _ _ 126 rfl 3 4 lawI Try.underlying126 _ mb nn D rfl HOWN.out HLT.out _ _ _ rfl rfl HKEY.out _ [] (plainElem_bool Try.underlying4 true) ?_; intro w7 hown7 hgrow7
                 have HS7 := Lib.hid (SetI.put HOWN.out HNN.out HH.out hown7)
                 have HX7 := Lib.hid (show Ext w w7 from Below.grown HX.out hgrow7 HX.out.size (fun g e => by cases e; exact HMB.out))
                 have HK7 := Lib.hid (blk_grown HK.out (fun g e => by cases e; have := HXM.out; omega) hgrow7)
                 clear hown7 hgrow7))
            go_roundw
            case rel => exact ⟨k + 1, by omega, by go_num, by show SetI _ _ _; rw [HTK.out]; exact HS7.out, HR.out, HX7.out, HK7.out⟩
            case measure => simp [intOf]; omega
      · have HE := Lib.hid (show loopsV n c = 0 by rw [HF.out, HG.out, trG_end f (by omega)]; rfl)
        go_wp2_with fail
        go_ret
        exact ⟨by rw [HE.out]; rfl, HX.out⟩
set_option maxHeartbeats 2000000 in
set_option maxRecDepth 100000 in
theorem certMay_any (pv tv : Value) (c : Crt) (n : Int) (w : World) (h : CertAt w pv tv c) (hok : ∀ x ∈ c.tr, In64 x) :
    Calls Try.prog 20 #[.agg #[I c.vd, pv, U c.dest, tv], I n] w fun e w' => e = .returned (I (certMayV n c)) ∧ Ext w w' := by
  have HC := Lib.hid h
  have HOK := Lib.hid hok
  obtain ⟨pa, pc, hpe, p1, p2, p3⟩ := h.parts.form
  obtain ⟨ta, tc, hte, t1, t2, t3⟩ := h.tr.form
  subst hpe hte
  clear p3 t3 h hok
  unfold maxLen at p2 t2
  go_enter Try.func20, Try.ntmps20
  go_upto_region 1 with (fail)
  refine hideW (Φ := fun W => Code.wp _ _ _ _ W) (fun W => Ext w W ∧ Blk W w.heap.size [I c.vd, .slice pa c.ps.length pc, U c.dest, .slice ta c.tr.length tc] 29 ∧ Blk W (w.heap.size + 1) [I n] 3)
    ⟨by (repeat (first | with_reducible exact Ext.refl _ | with_reducible assumption | with_reducible refine Ext.alloc ?_ _ | with_reducible refine Ext.drew ?_ | with_reducible refine Ext.drewN ?_ _ | (with_reducible refine Ext.setCellP ?_ ?_; focus (first | (simp; done) | (simp; omega) | omega)))), (Blk.new w [I c.vd, .slice pa c.ps.length pc, U c.dest, .slice ta c.tr.length tc] 29).old _, Blk.newAt [I n] (by simp)⟩ (fun W1 hW1 => ?_)
  obtain ⟨hx1, hk1, hb1⟩ := hW1
  have HX1 := Lib.hid hx1
  have HC1 := Lib.hid (HC.out.later hx1)
  have HB1 := Lib.hid (show W1.cell? ⟨w.heap.size + 1, 0, none⟩ = some (I n) from hb1.cells 0)
  have hkc := hk1.cells
  have hbc := hb1.cells
  clear hx1 hk1 hb1
  generalize w.heap.size + 1 = nb at *
  generalize w.heap.size = xb at *
  by_cases h1 : c.vd = 1
  · have h1b : (c.vd == 1) = true := by simp [h1]
    have HR := Lib.hid (show certMayV n c = freeV n c by unfold certMayV; rw [if_pos h1])
    clear h1
    go_wp2_with (first
      | (go_at_call 47; (with_reducible refine (certFree_any _ _ c n nb _ HC1.out HB1.out).mono ?_); rintro e w2 ⟨he, hx2⟩; subst he; have HX2 := Lib.hid (HX1.out.trans hx2); clear hx2))
    go_ret
    exact ⟨by rw [HR.out]; rfl, HX2.out⟩
  · have h1b : (c.vd == 1) = false := beq_false_of_ne h1
    by_cases h2 : c.vd = 2
    · have h2b : (c.vd == 2) = true := by simp [h2]
      have HR := Lib.hid (show certMayV n c = loopsV n c by unfold certMayV; rw [if_neg h1, if_pos h2])
      clear h1 h2
      go_wp2_with (first
        | (go_at_call 48; (with_reducible refine (certLoops_any _ _ c n nb _ HC1.out HOK.out HB1.out).mono ?_); rintro e w2 ⟨he, hx2⟩; subst he; have HX2 := Lib.hid (HX1.out.trans hx2); clear hx2))
      go_ret
      exact ⟨by rw [HR.out]; rfl, HX2.out⟩
    · have h2b : (c.vd == 2) = false := beq_false_of_ne h2
      have HR := Lib.hid (show certMayV n c = 9 by unfold certMayV; rw [if_neg h1, if_neg h2])
      clear h1 h2
      go_wp2_with fail
      go_ret
      exact ⟨by rw [HR.out]; rfl, HX1.out⟩
end Go.Proofs.Ytpfkfboohblgoaa
