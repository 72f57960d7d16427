/- theseusref17.May: whether a certificate may be. Conditions: none. -/
import Derived.Test.YtpfkfboohblgoaaCertMay
namespace Go.Proofs.Ytpfkfboohblgoaa
open Go Go.RowKit Go.Maps Go.Proofs

set_option maxHeartbeats 2000000 in
theorem r17In_any (v : Value) (l : List Int) (n : Int) (w : World) (hv : IntsAt w v l) :
    Calls Try.prog 95 #[v, I n] w fun e w' => e = .returned (.bool (!l.any (outB n))) ∧ w' = w := by
  obtain ⟨a, cap, rfl, a1, a2, a3⟩ := hv.form
  have A3 := Lib.hid a3
  clear a3 hv
  unfold maxLen at a2
  go_enter Try.func95, Try.ntmps95
  go_wp2_with fail
  go_loopw [5] (fun i wr => ∃ k : Nat, k ≤ l.length ∧ i = I k ∧ Hid (∀ x ∈ l.take k, outB n x = false) ∧ wr = w) (fun i _ => l.length - (intOf i).toNat)
  case atStart => exact ⟨0, by omega, rfl, fun x hx => by simp at hx, rfl⟩
  case round =>
    obtain ⟨k, hk, rfl, HN, rfl⟩ := hrel
    by_cases hlt : k < l.length
    · obtain ⟨b0, o0, rfl, p0⟩ := A3.out k l[k] (List.getElem?_eq_getElem hlt)
      by_cases h1 : l[k] < 0
      · have hd1 : decide (l[k] < 0) = true := decide_eq_true h1
        have HA := Lib.hid (any_at hlt (show outB n l[k] = true by unfold outB; rw [hd1]; rfl))
        clear h1
        generalize l[k] = x at *
        go_wp2_with fail
        go_ret
        exact ⟨by rw [HA.out]; rfl, by first | trivial | rfl⟩
      · have hd1 : decide (l[k] < 0) = false := decide_eq_false h1
        by_cases h2 : n ≤ l[k]
        · have hd2 : decide (n ≤ l[k]) = true := decide_eq_true h2
          have HA := Lib.hid (any_at hlt (show outB n l[k] = true by unfold outB; rw [hd1, hd2]; rfl))
          clear h1 h2
          generalize l[k] = x at *
          go_wp2_with fail
          go_ret
          exact ⟨by rw [HA.out]; rfl, by first | trivial | rfl⟩
        · have hd2 : decide (n ≤ l[k]) = false := decide_eq_false h2
          have HT := Lib.hid (take_no hlt HN.out (show outB n l[k] = false by unfold outB; rw [hd1, hd2]; rfl))
          clear h1 h2
          generalize l[k] = x at *
          go_wp2_with fail
          go_roundw
          case rel => exact ⟨k + 1, by omega, by go_num, HT.out, by first | trivial | rfl⟩
          case measure => simp [intOf]; omega
    · have HA := Lib.hid (any_no HN.out (show l.length ≤ k by omega))
      go_wp2_with fail
      go_ret
      exact ⟨by rw [HA.out]; rfl, by first | trivial | rfl⟩
set_option maxHeartbeats 4000000 in
set_option maxRecDepth 100000 in
theorem r17Free_any (pv tv : Value) (c : Crt) (n : Int) (w : World) (h : CertAt w pv tv c) :
    Calls Try.prog 94 #[.agg #[I c.vd, pv, U c.dest, tv], I n] w fun e w' => e = .returned (I (freeV n c)) ∧ Ext w w' := by
  have HC := Lib.hid h
  obtain ⟨pa, pc, hpe, p1, p2, p3⟩ := h.parts.form
  obtain ⟨ta, tc, hte, t1, t2, t3⟩ := h.tr.form
  subst hpe hte
  have P3 := Lib.hid p3
  clear p3 t3 h
  unfold maxLen at p2 t2
  go_enter Try.func94, Try.ntmps94
  go_upto_region 1 with (fail)
  refine hideW (Φ := fun W => Code.wp _ _ _ _ W) (fun W => Ext w W ∧ Blk W w.heap.size [I c.vd, .slice pa c.ps.length pc, U c.dest, .slice ta c.tr.length tc] 29)
    ⟨by (repeat (first | with_reducible exact Ext.refl _ | with_reducible assumption | with_reducible refine Ext.alloc ?_ _ | with_reducible refine Ext.drew ?_ | with_reducible refine Ext.drewN ?_ _ | (with_reducible refine Ext.setCellP ?_ ?_; focus (first | (simp; done) | (simp; omega) | omega)))), Blk.new w [I c.vd, .slice pa c.ps.length pc, U c.dest, .slice ta c.tr.length tc] 29⟩ (fun W1 hW1 => ?_)
  obtain ⟨hx1, hk1⟩ := hW1
  have HX1 := Lib.hid hx1
  have HK1 := Lib.hid hk1
  clear hx1 hk1
  generalize w.heap.size = xb at *
  have hkc := HK1.out.cells
  by_cases hd : c.dest = 0#32 ∧ c.tr.length = 0
  · have hd1 : (c.dest != 0#32) = false := by simp [hd.1]
    have hd2 : decide ((0 : Int) < (c.tr.length : Int)) = false := decide_eq_false (by omega)
    have hd2n : decide (0 < c.tr.length) = false := decide_eq_false (by omega)
    have HF1 := Lib.hid (show freeV n c = if 8193 < c.ps.length then 12 else if meetV c.ps ≠ 0 then 15 else rksV n c.rks by unfold freeV; rw [if_neg (by rintro (g | g); exact g hd.1; omega)])
    clear hd
    by_cases hm : 8193 < c.ps.length
    · have hm1 : decide ((8193 : Int) < (c.ps.length : Int)) = true := decide_eq_true (by omega)
      have HF2 := Lib.hid (HF1.out.trans (if_pos hm))
      go_wp2_with fail
      go_ret
      exact ⟨by rw [HF2.out]; rfl, HX1.out⟩
    · have hm1 : decide ((8193 : Int) < (c.ps.length : Int)) = false := decide_eq_false (by omega)
      have hm1n : decide (8193 < c.ps.length) = false := decide_eq_false hm
      have HF2 := Lib.hid (HF1.out.trans (if_neg hm))
      rcases meetV_two c.ps with hq | hq
      · have HQ := Lib.hid hq
        have HF3 := Lib.hid (show freeV n c = rksV n c.rks by rw [HF2.out, if_neg (by rw [hq]; simp)])
        clear hq
        have HRL := Lib.hid HC.out.len
        go_wp2_with (first
          | (go_at_call 115; (with_reducible refine (r17Meet_any _ c.ps _ (HC.out.parts.later HX1.out)).mono ?_); rintro e w2 ⟨he, hx2⟩; rw [HQ.out] at he; subst he; have HX2 := Lib.hid (HX1.out.trans hx2); have HK2 := Lib.hid (HK1.out.later hx2); clear hx2))
        clear hkc
        go_loopw [5] (fun i wr => ∃ k : Nat, k ≤ c.ps.length ∧ i = I k ∧ Hid (rksV n c.rks = rksV n (c.rks.drop k)) ∧ Hid (Ext w2 wr)) (fun i _ => c.ps.length - (intOf i).toNat)
        case atStart => exact ⟨0, by omega, rfl, rfl, Ext.refl _⟩
        case round =>
          obtain ⟨k, hk, rfl, HG, HXX⟩ := hrel
          have HX := Lib.hid (HX2.out.trans HXX.out)
          have hkr2 := (HK2.out.later HXX.out).cells
          by_cases hlt : k < c.ps.length
          · have hkr : k < c.rks.length := by rw [HRL.out]; exact hlt
            obtain ⟨b0, o0, he0, q0, q1, q2⟩ := P3.out k _ (List.getElem?_eq_getElem hlt)
            subst he0
            replace q0 := HX.out.cell q0
            replace q1 := HX.out.cell q1
            replace q2 := HX.out.cell q2
            have hik := HC.out.rk k _ _ (List.getElem?_eq_getElem hlt) (List.getElem?_eq_getElem hkr)
            have HRN := Lib.hid (prt_form hik)
            have HIK := Lib.hid (hik.later HX.out)
            have HST := Lib.hid (rksV_step n hkr)
            clear hik
            generalize c.ps[k] = p at *
            generalize c.rks[k] = r at *
            by_cases hl : (p.rn : Int) = n
            · have hl1 : ((p.rn : Int) != n) = false := by simp [hl]
              cases ho : r.any (outB n) with
              | true =>
                have HO := Lib.hid (show (!r.any (outB n)) = false by rw [ho]; rfl)
                have HR := Lib.hid (show freeV n c = 16 by rw [HF3.out, HG.out, HST.out, if_neg (by rw [← HRN.out]; simp [hl]), if_pos ho])
                clear ho hl
                go_wp2_with (first
                  | (go_at_call 95; (with_reducible refine (r17In_any _ r n _ HIK.out).mono ?_); rintro e w' ⟨he, hw⟩; rw [HO.out] at he; subst he; obtain rfl := hw.symm))
                go_ret
                exact ⟨by rw [HR.out]; rfl, HX.out⟩
              | false =>
                have HO := Lib.hid (show (!r.any (outB n)) = true by rw [ho]; rfl)
                have HR := Lib.hid (show rksV n c.rks = rksV n (c.rks.drop (k + 1)) by rw [HG.out, HST.out, if_neg (by rw [← HRN.out]; simp [hl]), ho]; rfl)
                clear ho hl
                go_wp2_with (first
                  | (go_at_call 95; (with_reducible refine (r17In_any _ r n _ HIK.out).mono ?_); rintro e w' ⟨he, hw⟩; rw [HO.out] at he; subst he; obtain rfl := hw.symm))
                go_roundw
                case rel => exact ⟨k + 1, by omega, by go_num, HR.out, HXX.out⟩
                case measure => simp [intOf]; omega
            · have hl1 : ((p.rn : Int) != n) = true := by simp [hl]
              have HR := Lib.hid (show freeV n c = 1 by rw [HF3.out, HG.out, HST.out, if_pos (by rw [← HRN.out]; exact hl)])
              clear hl
              go_wp2_with fail
              go_ret
              exact ⟨by rw [HR.out]; rfl, HX.out⟩
          · have HE := Lib.hid (show freeV n c = 0 by rw [HF3.out, HG.out, rksV_end n (by have := HRL.out; omega)])
            have hkd : decide ((k : Int) < (c.ps.length : Int)) = false := decide_eq_false (by omega)
            go_wp2_with fail
            go_ret
            exact ⟨by rw [HE.out]; rfl, HX.out⟩
      · have HQ := Lib.hid hq
        have HF3 := Lib.hid (show freeV n c = 15 by rw [HF2.out, if_pos (by rw [hq]; simp)])
        clear hq
        go_wp2_with (first
          | (go_at_call 115; (with_reducible refine (r17Meet_any _ c.ps _ (HC.out.parts.later HX1.out)).mono ?_); rintro e w2 ⟨he, hx2⟩; rw [HQ.out] at he; subst he; have HX2 := Lib.hid (HX1.out.trans hx2); clear hx2))
        go_ret
        exact ⟨by rw [HF3.out]; rfl, HX2.out⟩
  · have HF1 := Lib.hid (show freeV n c = 3 by unfold freeV; rw [if_pos (by by_cases g : c.dest = 0#32; exact .inr (by rcases Nat.eq_zero_or_pos c.tr.length with g2 | g2; exact absurd ⟨g, g2⟩ hd; exact g2); exact .inl g)])
    by_cases g : c.dest = 0#32
    · have hd1 : (c.dest != 0#32) = false := by simp [g]
      have hd2 : decide ((0 : Int) < (c.tr.length : Int)) = true := decide_eq_true (by
        rcases Nat.eq_zero_or_pos c.tr.length with g2 | g2
        · exact absurd ⟨g, g2⟩ hd
        · omega)
      have hd2n : decide (0 < c.tr.length) = true := decide_eq_true (by
        rcases Nat.eq_zero_or_pos c.tr.length with g2 | g2
        · exact absurd ⟨g, g2⟩ hd
        · exact g2)
      clear hd g
      go_wp2_with fail
      go_ret
      exact ⟨by rw [HF1.out]; rfl, HX1.out⟩
    · have hd1 : (c.dest != 0#32) = true := by simp [g]
      clear hd g
      go_wp2_with fail
      go_ret
      exact ⟨by rw [HF1.out]; rfl, HX1.out⟩
set_option maxHeartbeats 4000000 in
set_option maxRecDepth 100000 in
theorem r17May_any (pv tv : Value) (c : Crt) (n : Int) (w : World) (h : CertAt w pv tv c) :
    Calls Try.prog 55 #[.agg #[I c.vd, pv, U c.dest, tv], I n] w fun e w' => e = .returned (I (certMayV n c)) ∧ Ext w w' := by
  have HC := Lib.hid h
  obtain ⟨pa, pc, hpe, p1, p2, p3⟩ := h.parts.form
  obtain ⟨ta, tc, hte, t1, t2, t3⟩ := h.tr.form
  subst hpe hte
  have T3 := Lib.hid t3
  clear p3 t3 h
  unfold maxLen at p2 t2
  go_enter Try.func55, Try.ntmps55
  go_upto_region 1 with (fail)
  refine hideW (Φ := fun W => Code.wp _ _ _ _ W) (fun W => Ext w W ∧ Blk W w.heap.size [I c.vd, .slice pa c.ps.length pc, U c.dest, .slice ta c.tr.length tc] 29)
    ⟨by (repeat (first | with_reducible exact Ext.refl _ | with_reducible assumption | with_reducible refine Ext.alloc ?_ _ | with_reducible refine Ext.drew ?_ | with_reducible refine Ext.drewN ?_ _ | (with_reducible refine Ext.setCellP ?_ ?_; focus (first | (simp; done) | (simp; omega) | omega)))), Blk.new w [I c.vd, .slice pa c.ps.length pc, U c.dest, .slice ta c.tr.length tc] 29⟩ (fun W1 hW1 => ?_)
  obtain ⟨hx1, hk1⟩ := hW1
  have HX1 := Lib.hid hx1
  have HK1 := Lib.hid hk1
  have HC1 := Lib.hid (HC.out.later hx1)
  clear hx1 hk1
  generalize w.heap.size = xb at *
  have hkc := HK1.out.cells
  by_cases h1 : c.vd = 1
  · have h1b : (c.vd == 1) = true := by simp [h1]
    have HR := Lib.hid (show certMayV n c = freeV n c by unfold certMayV; rw [if_pos h1])
    clear h1
    go_wp2_with (first
      | (go_at_call 94; (with_reducible refine (r17Free_any _ _ c n _ HC1.out).mono ?_); rintro e w2 ⟨he, hx2⟩; subst he; have HX2 := Lib.hid (HX1.out.trans hx2); clear hx2))
    go_ret
    exact ⟨by rw [HR.out]; rfl, HX2.out⟩
  have h1b : (c.vd == 1) = false := beq_false_of_ne h1
  by_cases h2' : c.vd ≠ 2
  · have h2 := h2'
    have h2b : (c.vd != 2) = true := by simp [h2]
    have HR := Lib.hid (show certMayV n c = 9 by unfold certMayV; rw [if_neg h1, if_neg h2])
    clear h1 h2 h2'
    go_wp2_with fail
    go_ret
    exact ⟨by rw [HR.out]; rfl, HX1.out⟩
  have h2 : c.vd = 2 := by omega
  clear h2'
  have h2b : (c.vd != 2) = false := by simp [h2]
  have HR0 := Lib.hid (show certMayV n c = loopsV n c by unfold certMayV; rw [if_neg h1, if_pos h2])
  clear h1 h2
  by_cases hp : 0 < c.ps.length
  · have g1 : decide ((0 : Int) < (c.ps.length : Int)) = true := decide_eq_true (by omega)
    have g1n : decide (0 < c.ps.length) = true := decide_eq_true hp
    have HF := Lib.hid (show loopsV n c = 3 by unfold loopsV; rw [if_pos hp])
    clear hp
    go_wp2_with fail
    go_ret
    exact ⟨by rw [HR0.out, HF.out]; rfl, HX1.out⟩
  have g1 : decide ((0 : Int) < (c.ps.length : Int)) = false := decide_eq_false (by omega)
  have g1n : decide (0 < c.ps.length) = false := decide_eq_false hp
  have HF1 := Lib.hid (show loopsV n c = if c.tr.length = 0 ∨ n < (c.tr.length : Int) then 12 else if c.tr.any (outB n) then 10 else if trG (c.tr.headD 0) [] c.tr then 17 else 0 by unfold loopsV; rw [if_neg hp])
  clear hp
  by_cases h0 : c.tr.length = 0
  · have g2 : ((c.tr.length : Int) == 0) = true := by simp [h0]
    have HF := Lib.hid (HF1.out.trans (if_pos (.inl h0)))
    clear h0
    go_wp2_with fail
    go_ret
    exact ⟨by rw [HR0.out, HF.out]; rfl, HX1.out⟩
  have g2 : ((c.tr.length : Int) == 0) = false := beq_false_of_ne (by omega)
  by_cases hn : n < (c.tr.length : Int)
  · have g3 : decide (n < (c.tr.length : Int)) = true := decide_eq_true hn
    have HF := Lib.hid (HF1.out.trans (if_pos (.inr hn)))
    clear h0 hn
    go_wp2_with fail
    go_ret
    exact ⟨by rw [HR0.out, HF.out]; rfl, HX1.out⟩
  have g3 : decide (n < (c.tr.length : Int)) = false := decide_eq_false hn
  have HF2 := Lib.hid (HF1.out.trans (if_neg (by rintro (g | g); exact h0 g; exact hn g)))
  have HT1 := Lib.hid (HC.out.tr.later HX1.out)
  cases ho : c.tr.any (outB n) with
  | true =>
    have HO := Lib.hid (show (!c.tr.any (outB n)) = false by rw [ho]; rfl)
    have HF := Lib.hid (HF2.out.trans (if_pos ho))
    clear ho h0 hn
    go_wp2_with (first
      | (go_at_call 95; (with_reducible refine (r17In_any _ c.tr n _ HT1.out).mono ?_); rintro e w' ⟨he, hw⟩; rw [HO.out] at he; subst he; obtain rfl := hw.symm))
    go_ret
    exact ⟨by rw [HR0.out, HF.out]; rfl, HX1.out⟩
  | false =>
    have HO := Lib.hid (show (!c.tr.any (outB n)) = true by rw [ho]; rfl)
    have HF := Lib.hid (HF2.out.trans (if_neg (by rw [ho]; simp)))
    have hlp : 0 < c.tr.length := by omega
    obtain ⟨f, hf⟩ : ∃ f, c.tr[0]? = some f := ⟨c.tr[0], List.getElem?_eq_getElem hlp⟩
    have HHD := Lib.hid (show c.tr.headD 0 = f by cases ht : c.tr with | nil => rw [ht] at hlp; simp at hlp | cons y t => rw [ht] at hf; simpa using hf)
    rw [HHD.out] at HF
    clear ho h0 hn HF1 HF2
    obtain ⟨bf, of, hef, qf⟩ := T3.out 0 f hf
    subst hef
    have HQF := Lib.hid (HX1.out.cell qf)
    have HF0 := Lib.hid hf
    clear qf hf
    go_wp2_with (first
      | (go_at_call 95; (with_reducible refine (r17In_any _ c.tr n _ HT1.out).mono ?_); rintro e w' ⟨he, hw⟩; rw [HO.out] at he; subst he; obtain rfl := hw.symm))
    clear hkc
    go_loopw [5] (fun i wr => ∃ k : Nat, k ≤ c.tr.length ∧ i = I k ∧ Hid (trG f [] c.tr = trG f (c.tr.take k) (c.tr.drop k)) ∧ Hid (Ext W1 wr)) (fun i _ => c.tr.length - (intOf i).toNat)
    case atStart => exact ⟨0, by omega, rfl, rfl, Ext.refl _⟩
    case round =>
      obtain ⟨k, hk, rfl, HG, HX⟩ := hrel
      have HKr := Lib.hid (HK1.out.later HX.out)
      have hkr := HKr.out.cells
      by_cases hlt : k < c.tr.length
      · have hkd : decide ((k : Int) < (c.tr.length : Int)) = true := decide_eq_true (by omega)
        obtain ⟨b0, o0, he0, q0⟩ := T3.out k _ (List.getElem?_eq_getElem hlt)
        simp only [Option.some.injEq, Addr.mk.injEq, and_true] at he0
        obtain ⟨rfl, rfl⟩ := he0
        have HQ0 := Lib.hid (HX1.out.cell q0)
        have HST := Lib.hid (trG_step f hlt)
        have HK0 := Lib.hid (show k = 0 → c.tr[k] = f from fun e => by subst e; have h := HF0.out; rw [List.getElem?_eq_getElem hlt] at h; exact Option.some.inj h)
        clear q0
        generalize hx : c.tr[k] = x at *
        clear hx
        go_wp2_with fail
        go_loopw [6] (fun q wr => ∃ j : Nat, j ≤ k ∧ q = I j ∧ Hid (x ∉ c.tr.take j) ∧ Hid (0 < j → f ≤ x) ∧ Hid (Ext W1 wr)) (fun q _ => k - (intOf q).toNat)
        case atStart => exact ⟨0, by omega, rfl, fun h => by simp at h, fun h => by omega, HX.out⟩
        case round =>
          obtain ⟨j, hj, rfl, HN, HL, HXJ⟩ := hrel
          have HKj := Lib.hid (HK1.out.later HXJ.out)
          have hkj := HKj.out.cells
          by_cases hjl : j < k
          · have hjd : decide ((j : Int) < (k : Int)) = true := decide_eq_true (by omega)
            have hjt : j < c.tr.length := by omega
            obtain ⟨b1, o1, he1, r1⟩ := T3.out j _ (List.getElem?_eq_getElem hjt)
            simp only [Option.some.injEq, Addr.mk.injEq, and_true] at he1
            obtain ⟨rfl, rfl⟩ := he1
            have P0 := Lib.hid (HXJ.out.cell HQ0.out)
            have P1 := Lib.hid (HXJ.out.cell (HX1.out.cell r1))
            have P2 := Lib.hid (show wr.cell? ⟨bf, of, none⟩ = some (I f) from by have := HXJ.out.cell HQF.out; simpa using this)
            have HJT := Lib.hid (show c.tr.take (j + 1) = c.tr.take j ++ [c.tr[j]] from List.take_succ_eq_append_getElem hjt)
            have HMEM := Lib.hid (show c.tr[j] ∈ c.tr.take k from by
              rw [List.mem_iff_getElem]
              exact ⟨j, by rw [List.length_take]; omega, by rw [List.getElem_take]⟩)
            clear r1
            generalize c.tr[j] = y at *
            by_cases hyx : y = x
            · have hb1 : (y == x) = true := by simp [hyx]
              have HR := Lib.hid (show loopsV n c = 17 by rw [HF.out, HG.out, HST.out, decide_eq_true (by rw [← hyx]; exact HMEM.out)]; rfl)
              clear hyx
              go_wp2_with fail
              refine wp_region_E 22 rfl (by kernel_rfl) (by kernel_rfl) ?_
              have k1 := HKj.out.keep
              have k2 := Ext.keep P0.out
              have k3 := Ext.keep P1.out
              refine WE_q 0 rfl (by decide) (by kernel_rfl) rfl ?_; apply Exists.intro; refine ⟨fun w1 hx1 => ?_, ?_⟩
              · have hq1 := hx1.cells; go_simp; try go_bits
                first | with_reducible rfl
              simp only [Act.put, List.setIfInBounds_toArray, List.set_cons_zero, List.set_cons_succ]
              refine WE_q 1 rfl (by decide) (by kernel_rfl) rfl ?_; apply Exists.intro; refine ⟨fun w1 hx1 => ?_, ?_⟩
              · have hq1 := hx1.cells; go_simp; try go_bits
                first | with_reducible rfl
              simp only [Act.put, List.setIfInBounds_toArray, List.set_cons_zero, List.set_cons_succ]
              refine WE_q 2 rfl (by decide) (by kernel_rfl) rfl ?_; apply Exists.intro; refine ⟨fun w1 hx1 => ?_, ?_⟩
              · have hq1 := hx1.cells; go_simp; try go_bits
                first | with_reducible rfl
              simp only [Act.put, List.setIfInBounds_toArray, List.set_cons_zero, List.set_cons_succ]
              refine WE_q 3 rfl (by decide) (by kernel_rfl) rfl ?_; apply Exists.intro; refine ⟨fun w1 hx1 => ?_, ?_⟩
              · have hq1 := hx1.cells; go_simp; try go_bits
                first | with_reducible rfl
              simp only [Act.put, List.setIfInBounds_toArray, List.set_cons_zero, List.set_cons_succ]
              refine WE_q 4 rfl (by decide) (by kernel_rfl) rfl ?_; apply Exists.intro; refine ⟨fun w1 hx1 => ?_, ?_⟩
              · have hq1 := hx1.cells; go_simp; try go_bits
                first | with_reducible rfl
              simp only [Act.put, List.setIfInBounds_toArray, List.set_cons_zero, List.set_cons_succ]
              refine WE_q 5 rfl (by decide) (by kernel_rfl) rfl ?_; apply Exists.intro; refine ⟨fun w1 hx1 => ?_, ?_⟩
              · have hq1 := hx1.cells; go_simp; try go_bits
                first | with_reducible rfl
              simp only [Act.put, List.setIfInBounds_toArray, List.set_cons_zero, List.set_cons_succ]
              refine WE_q 6 rfl (by decide) (by kernel_rfl) rfl ?_; apply Exists.intro; refine ⟨fun w1 hx1 => ?_, ?_⟩
              · have hq1 := hx1.cells; go_simp; try go_bits
                first | with_reducible rfl
              simp only [Act.put, List.setIfInBounds_toArray, List.set_cons_zero, List.set_cons_succ]
              refine WE_q 7 rfl (by decide) (by kernel_rfl) rfl ?_; apply Exists.intro; refine ⟨fun w1 hx1 => ?_, ?_⟩
              · have hq1 := hx1.cells; go_simp; try go_bits
                first | with_reducible rfl
              simp only [Act.put, List.setIfInBounds_toArray, List.set_cons_zero, List.set_cons_succ]
              refine WE_q 8 rfl (by decide) (by kernel_rfl) rfl ?_; apply Exists.intro; refine ⟨fun w1 hx1 => ?_, ?_⟩
              · have hq1 := hx1.cells; go_simp; try go_bits
                first | with_reducible rfl
              simp only [Act.put, List.setIfInBounds_toArray, List.set_cons_zero, List.set_cons_succ]
              refine WE_q 9 rfl (by decide) (by kernel_rfl) rfl ?_; apply Exists.intro; refine ⟨fun w1 hx1 => ?_, ?_⟩
              · have hq1 := hx1.cells; go_simp; try go_bits
                first | with_reducible rfl
              simp only [Act.put, List.setIfInBounds_toArray, List.set_cons_zero, List.set_cons_succ]
              refine WE_q 10 rfl (by decide) (by kernel_rfl) rfl ?_; apply Exists.intro; refine ⟨fun w1 hx1 => ?_, ?_⟩
              · have hq1 := hx1.cells; go_simp; try go_bits
                first | with_reducible rfl
              simp only [Act.put, List.setIfInBounds_toArray, List.set_cons_zero, List.set_cons_succ]
              refine WE_q 11 rfl (by decide) (by kernel_rfl) rfl ?_; apply Exists.intro; refine ⟨fun w1 hx1 => ?_, ?_⟩
              · have hq1 := hx1.cells; go_simp; try go_bits
                first | with_reducible rfl
              simp only [Act.put, List.setIfInBounds_toArray, List.set_cons_zero, List.set_cons_succ]
              refine WE_s 12 rfl (by decide) (by kernel_rfl) rfl ?_
              simp only [Act.put, List.setIfInBounds_toArray, List.set_cons_zero, List.set_cons_succ]
              refine WE_s 13 rfl (by decide) (by kernel_rfl) rfl ?_
              simp only [Act.put, List.setIfInBounds_toArray, List.set_cons_zero, List.set_cons_succ]
              refine WE_s 14 rfl (by decide) (by kernel_rfl) rfl ?_
              simp only [Act.put, List.setIfInBounds_toArray, List.set_cons_zero, List.set_cons_succ]
              refine WE_s 15 rfl (by decide) (by kernel_rfl) rfl ?_
              simp only [Act.put, List.setIfInBounds_toArray, List.set_cons_zero, List.set_cons_succ]
              refine WE_s 16 rfl (by decide) (by kernel_rfl) rfl ?_
              simp only [Act.put, List.setIfInBounds_toArray, List.set_cons_zero, List.set_cons_succ]
              refine WE_s 17 rfl (by decide) (by kernel_rfl) rfl ?_
              simp only [Act.put, List.setIfInBounds_toArray, List.set_cons_zero, List.set_cons_succ]
              refine WE_s 18 rfl (by decide) (by kernel_rfl) rfl ?_
              simp only [Act.put, List.setIfInBounds_toArray, List.set_cons_zero, List.set_cons_succ]
              refine WE_s 19 rfl (by decide) (by kernel_rfl) rfl ?_
              simp only [Act.put, List.setIfInBounds_toArray, List.set_cons_zero, List.set_cons_succ]
              refine WE_s 20 rfl (by decide) (by kernel_rfl) rfl ?_
              simp only [Act.put, List.setIfInBounds_toArray, List.set_cons_zero, List.set_cons_succ]
              refine WE_s 21 rfl (by decide) (by kernel_rfl) rfl ?_
              simp only [Act.put, List.setIfInBounds_toArray, List.set_cons_zero, List.set_cons_succ]
              refine WE_done (by kernel_rfl) (fun w9 hx9 => ?_)
              (try simp only [List.drop_succ_cons, List.drop_zero])
              clear k1 k2 k3
              go_wp2_with fail
              go_ret
              exact ⟨by rw [HR0.out, HR.out]; rfl, HX1.out.trans (HXJ.out.trans hx9)⟩
            · have hb1 : (y == x) = false := beq_false_of_ne hyx
              by_cases hxf : x < f
              · have hb2 : decide (x < f) = true := decide_eq_true hxf
                have HR := Lib.hid (show loopsV n c = 17 by rw [HF.out, HG.out, HST.out, hb2]; simp)
                clear hyx hxf
                go_wp2_with fail
                refine wp_region_E 22 rfl (by kernel_rfl) (by kernel_rfl) ?_
                have k1 := HKj.out.keep
                have k2 := Ext.keep P0.out
                have k3 := Ext.keep P1.out
                have k4 := Ext.keep P2.out
                refine WE_q 0 rfl (by decide) (by kernel_rfl) rfl ?_; apply Exists.intro; refine ⟨fun w1 hx1 => ?_, ?_⟩
                · have hq1 := hx1.cells; go_simp; try go_bits
                  first | with_reducible rfl
                simp only [Act.put, List.setIfInBounds_toArray, List.set_cons_zero, List.set_cons_succ]
                refine WE_q 1 rfl (by decide) (by kernel_rfl) rfl ?_; apply Exists.intro; refine ⟨fun w1 hx1 => ?_, ?_⟩
                · have hq1 := hx1.cells; go_simp; try go_bits
                  first | with_reducible rfl
                simp only [Act.put, List.setIfInBounds_toArray, List.set_cons_zero, List.set_cons_succ]
                refine WE_q 2 rfl (by decide) (by kernel_rfl) rfl ?_; apply Exists.intro; refine ⟨fun w1 hx1 => ?_, ?_⟩
                · have hq1 := hx1.cells; go_simp; try go_bits
                  first | with_reducible rfl
                simp only [Act.put, List.setIfInBounds_toArray, List.set_cons_zero, List.set_cons_succ]
                refine WE_q 3 rfl (by decide) (by kernel_rfl) rfl ?_; apply Exists.intro; refine ⟨fun w1 hx1 => ?_, ?_⟩
                · have hq1 := hx1.cells; go_simp; try go_bits
                  first | with_reducible rfl
                simp only [Act.put, List.setIfInBounds_toArray, List.set_cons_zero, List.set_cons_succ]
                refine WE_q 4 rfl (by decide) (by kernel_rfl) rfl ?_; apply Exists.intro; refine ⟨fun w1 hx1 => ?_, ?_⟩
                · have hq1 := hx1.cells; go_simp; try go_bits
                  first | with_reducible rfl
                simp only [Act.put, List.setIfInBounds_toArray, List.set_cons_zero, List.set_cons_succ]
                refine WE_q 5 rfl (by decide) (by kernel_rfl) rfl ?_; apply Exists.intro; refine ⟨fun w1 hx1 => ?_, ?_⟩
                · have hq1 := hx1.cells; go_simp; try go_bits
                  first | with_reducible rfl
                simp only [Act.put, List.setIfInBounds_toArray, List.set_cons_zero, List.set_cons_succ]
                refine WE_q 6 rfl (by decide) (by kernel_rfl) rfl ?_; apply Exists.intro; refine ⟨fun w1 hx1 => ?_, ?_⟩
                · have hq1 := hx1.cells; go_simp; try go_bits
                  first | with_reducible rfl
                simp only [Act.put, List.setIfInBounds_toArray, List.set_cons_zero, List.set_cons_succ]
                refine WE_q 7 rfl (by decide) (by kernel_rfl) rfl ?_; apply Exists.intro; refine ⟨fun w1 hx1 => ?_, ?_⟩
                · have hq1 := hx1.cells; go_simp; try go_bits
                  first | with_reducible rfl
                simp only [Act.put, List.setIfInBounds_toArray, List.set_cons_zero, List.set_cons_succ]
                refine WE_q 8 rfl (by decide) (by kernel_rfl) rfl ?_; apply Exists.intro; refine ⟨fun w1 hx1 => ?_, ?_⟩
                · have hq1 := hx1.cells; go_simp; try go_bits
                  first | with_reducible rfl
                simp only [Act.put, List.setIfInBounds_toArray, List.set_cons_zero, List.set_cons_succ]
                refine WE_q 9 rfl (by decide) (by kernel_rfl) rfl ?_; apply Exists.intro; refine ⟨fun w1 hx1 => ?_, ?_⟩
                · have hq1 := hx1.cells; go_simp; try go_bits
                  first | with_reducible rfl
                simp only [Act.put, List.setIfInBounds_toArray, List.set_cons_zero, List.set_cons_succ]
                refine WE_q 10 rfl (by decide) (by kernel_rfl) rfl ?_; apply Exists.intro; refine ⟨fun w1 hx1 => ?_, ?_⟩
                · have hq1 := hx1.cells; go_simp; try go_bits
                  first | with_reducible rfl
                simp only [Act.put, List.setIfInBounds_toArray, List.set_cons_zero, List.set_cons_succ]
                refine WE_q 11 rfl (by decide) (by kernel_rfl) rfl ?_; apply Exists.intro; refine ⟨fun w1 hx1 => ?_, ?_⟩
                · have hq1 := hx1.cells; go_simp; try go_bits
                  first | with_reducible rfl
                simp only [Act.put, List.setIfInBounds_toArray, List.set_cons_zero, List.set_cons_succ]
                refine WE_q 12 rfl (by decide) (by kernel_rfl) rfl ?_; apply Exists.intro; refine ⟨fun w1 hx1 => ?_, ?_⟩
                · have hq1 := hx1.cells; go_simp; try go_bits
                  first | with_reducible rfl
                simp only [Act.put, List.setIfInBounds_toArray, List.set_cons_zero, List.set_cons_succ]
                refine WE_q 13 rfl (by decide) (by kernel_rfl) rfl ?_; apply Exists.intro; refine ⟨fun w1 hx1 => ?_, ?_⟩
                · have hq1 := hx1.cells; go_simp; try go_bits
                  first | with_reducible rfl
                simp only [Act.put, List.setIfInBounds_toArray, List.set_cons_zero, List.set_cons_succ]
                refine WE_q 14 rfl (by decide) (by kernel_rfl) rfl ?_; apply Exists.intro; refine ⟨fun w1 hx1 => ?_, ?_⟩
                · have hq1 := hx1.cells; go_simp; try go_bits
                  first | with_reducible rfl
                simp only [Act.put, List.setIfInBounds_toArray, List.set_cons_zero, List.set_cons_succ]
                refine WE_q 15 rfl (by decide) (by kernel_rfl) rfl ?_; apply Exists.intro; refine ⟨fun w1 hx1 => ?_, ?_⟩
                · have hq1 := hx1.cells; go_simp; try go_bits
                  first | with_reducible rfl
                simp only [Act.put, List.setIfInBounds_toArray, List.set_cons_zero, List.set_cons_succ]
                refine WE_q 16 rfl (by decide) (by kernel_rfl) rfl ?_; apply Exists.intro; refine ⟨fun w1 hx1 => ?_, ?_⟩
                · have hq1 := hx1.cells; go_simp; try go_bits
                  first | with_reducible rfl
                simp only [Act.put, List.setIfInBounds_toArray, List.set_cons_zero, List.set_cons_succ]
                refine WE_q 17 rfl (by decide) (by kernel_rfl) rfl ?_; apply Exists.intro; refine ⟨fun w1 hx1 => ?_, ?_⟩
                · have hq1 := hx1.cells; go_simp; try go_bits
                  first | with_reducible rfl
                simp only [Act.put, List.setIfInBounds_toArray, List.set_cons_zero, List.set_cons_succ]
                refine WE_q 18 rfl (by decide) (by kernel_rfl) rfl ?_; apply Exists.intro; refine ⟨fun w1 hx1 => ?_, ?_⟩
                · have hq1 := hx1.cells; go_simp; try go_bits
                  first | with_reducible rfl
                simp only [Act.put, List.setIfInBounds_toArray, List.set_cons_zero, List.set_cons_succ]
                refine WE_q 19 rfl (by decide) (by kernel_rfl) rfl ?_; apply Exists.intro; refine ⟨fun w1 hx1 => ?_, ?_⟩
                · have hq1 := hx1.cells; go_simp; try go_bits
                  first | with_reducible rfl
                simp only [Act.put, List.setIfInBounds_toArray, List.set_cons_zero, List.set_cons_succ]
                refine WE_q 20 rfl (by decide) (by kernel_rfl) rfl ?_; apply Exists.intro; refine ⟨fun w1 hx1 => ?_, ?_⟩
                · have hq1 := hx1.cells; go_simp; try go_bits
                  first | with_reducible rfl
                simp only [Act.put, List.setIfInBounds_toArray, List.set_cons_zero, List.set_cons_succ]
                refine WE_q 21 rfl (by decide) (by kernel_rfl) rfl ?_; apply Exists.intro; refine ⟨fun w1 hx1 => ?_, ?_⟩
                · have hq1 := hx1.cells; go_simp; try go_bits
                  first | with_reducible rfl
                simp only [Act.put, List.setIfInBounds_toArray, List.set_cons_zero, List.set_cons_succ]
                refine WE_done (by kernel_rfl) (fun w9 hx9 => ?_)
                (try simp only [List.drop_succ_cons, List.drop_zero])
                clear k1 k2 k3 k4
                go_wp2_with fail
                go_ret
                exact ⟨by rw [HR0.out, HR.out]; rfl, HX1.out.trans (HXJ.out.trans hx9)⟩
              · have hb2 : decide (x < f) = false := decide_eq_false hxf
                have HN2 := Lib.hid (show x ∉ c.tr.take (j + 1) by
                  rw [HJT.out]
                  intro h
                  rcases List.mem_append.1 h with h | h
                  · exact HN.out h
                  · simp only [List.mem_singleton] at h; exact hyx h.symm)
                have HL2 := Lib.hid (show 0 < j + 1 → f ≤ x from fun _ => by omega)
                clear hyx hxf
                go_wp2_with fail
                refine wp_region_E 22 rfl (by kernel_rfl) (by kernel_rfl) ?_
                have k1 := HKj.out.keep
                have k2 := Ext.keep P0.out
                have k3 := Ext.keep P1.out
                have k4 := Ext.keep P2.out
                refine WE_q 0 rfl (by decide) (by kernel_rfl) rfl ?_; apply Exists.intro; refine ⟨fun w1 hx1 => ?_, ?_⟩
                · have hq1 := hx1.cells; go_simp; try go_bits
                  first | with_reducible rfl
                simp only [Act.put, List.setIfInBounds_toArray, List.set_cons_zero, List.set_cons_succ]
                refine WE_q 1 rfl (by decide) (by kernel_rfl) rfl ?_; apply Exists.intro; refine ⟨fun w1 hx1 => ?_, ?_⟩
                · have hq1 := hx1.cells; go_simp; try go_bits
                  first | with_reducible rfl
                simp only [Act.put, List.setIfInBounds_toArray, List.set_cons_zero, List.set_cons_succ]
                refine WE_q 2 rfl (by decide) (by kernel_rfl) rfl ?_; apply Exists.intro; refine ⟨fun w1 hx1 => ?_, ?_⟩
                · have hq1 := hx1.cells; go_simp; try go_bits
                  first | with_reducible rfl
                simp only [Act.put, List.setIfInBounds_toArray, List.set_cons_zero, List.set_cons_succ]
                refine WE_q 3 rfl (by decide) (by kernel_rfl) rfl ?_; apply Exists.intro; refine ⟨fun w1 hx1 => ?_, ?_⟩
                · have hq1 := hx1.cells; go_simp; try go_bits
                  first | with_reducible rfl
                simp only [Act.put, List.setIfInBounds_toArray, List.set_cons_zero, List.set_cons_succ]
                refine WE_q 4 rfl (by decide) (by kernel_rfl) rfl ?_; apply Exists.intro; refine ⟨fun w1 hx1 => ?_, ?_⟩
                · have hq1 := hx1.cells; go_simp; try go_bits
                  first | with_reducible rfl
                simp only [Act.put, List.setIfInBounds_toArray, List.set_cons_zero, List.set_cons_succ]
                refine WE_q 5 rfl (by decide) (by kernel_rfl) rfl ?_; apply Exists.intro; refine ⟨fun w1 hx1 => ?_, ?_⟩
                · have hq1 := hx1.cells; go_simp; try go_bits
                  first | with_reducible rfl
                simp only [Act.put, List.setIfInBounds_toArray, List.set_cons_zero, List.set_cons_succ]
                refine WE_q 6 rfl (by decide) (by kernel_rfl) rfl ?_; apply Exists.intro; refine ⟨fun w1 hx1 => ?_, ?_⟩
                · have hq1 := hx1.cells; go_simp; try go_bits
                  first | with_reducible rfl
                simp only [Act.put, List.setIfInBounds_toArray, List.set_cons_zero, List.set_cons_succ]
                refine WE_q 7 rfl (by decide) (by kernel_rfl) rfl ?_; apply Exists.intro; refine ⟨fun w1 hx1 => ?_, ?_⟩
                · have hq1 := hx1.cells; go_simp; try go_bits
                  first | with_reducible rfl
                simp only [Act.put, List.setIfInBounds_toArray, List.set_cons_zero, List.set_cons_succ]
                refine WE_q 8 rfl (by decide) (by kernel_rfl) rfl ?_; apply Exists.intro; refine ⟨fun w1 hx1 => ?_, ?_⟩
                · have hq1 := hx1.cells; go_simp; try go_bits
                  first | with_reducible rfl
                simp only [Act.put, List.setIfInBounds_toArray, List.set_cons_zero, List.set_cons_succ]
                refine WE_q 9 rfl (by decide) (by kernel_rfl) rfl ?_; apply Exists.intro; refine ⟨fun w1 hx1 => ?_, ?_⟩
                · have hq1 := hx1.cells; go_simp; try go_bits
                  first | with_reducible rfl
                simp only [Act.put, List.setIfInBounds_toArray, List.set_cons_zero, List.set_cons_succ]
                refine WE_q 10 rfl (by decide) (by kernel_rfl) rfl ?_; apply Exists.intro; refine ⟨fun w1 hx1 => ?_, ?_⟩
                · have hq1 := hx1.cells; go_simp; try go_bits
                  first | with_reducible rfl
                simp only [Act.put, List.setIfInBounds_toArray, List.set_cons_zero, List.set_cons_succ]
                refine WE_q 11 rfl (by decide) (by kernel_rfl) rfl ?_; apply Exists.intro; refine ⟨fun w1 hx1 => ?_, ?_⟩
                · have hq1 := hx1.cells; go_simp; try go_bits
                  first | with_reducible rfl
                simp only [Act.put, List.setIfInBounds_toArray, List.set_cons_zero, List.set_cons_succ]
                refine WE_q 12 rfl (by decide) (by kernel_rfl) rfl ?_; apply Exists.intro; refine ⟨fun w1 hx1 => ?_, ?_⟩
                · have hq1 := hx1.cells; go_simp; try go_bits
                  first | with_reducible rfl
                simp only [Act.put, List.setIfInBounds_toArray, List.set_cons_zero, List.set_cons_succ]
                refine WE_q 13 rfl (by decide) (by kernel_rfl) rfl ?_; apply Exists.intro; refine ⟨fun w1 hx1 => ?_, ?_⟩
                · have hq1 := hx1.cells; go_simp; try go_bits
                  first | with_reducible rfl
                simp only [Act.put, List.setIfInBounds_toArray, List.set_cons_zero, List.set_cons_succ]
                refine WE_q 14 rfl (by decide) (by kernel_rfl) rfl ?_; apply Exists.intro; refine ⟨fun w1 hx1 => ?_, ?_⟩
                · have hq1 := hx1.cells; go_simp; try go_bits
                  first | with_reducible rfl
                simp only [Act.put, List.setIfInBounds_toArray, List.set_cons_zero, List.set_cons_succ]
                refine WE_q 15 rfl (by decide) (by kernel_rfl) rfl ?_; apply Exists.intro; refine ⟨fun w1 hx1 => ?_, ?_⟩
                · have hq1 := hx1.cells; go_simp; try go_bits
                  first | with_reducible rfl
                simp only [Act.put, List.setIfInBounds_toArray, List.set_cons_zero, List.set_cons_succ]
                refine WE_q 16 rfl (by decide) (by kernel_rfl) rfl ?_; apply Exists.intro; refine ⟨fun w1 hx1 => ?_, ?_⟩
                · have hq1 := hx1.cells; go_simp; try go_bits
                  first | with_reducible rfl
                simp only [Act.put, List.setIfInBounds_toArray, List.set_cons_zero, List.set_cons_succ]
                refine WE_q 17 rfl (by decide) (by kernel_rfl) rfl ?_; apply Exists.intro; refine ⟨fun w1 hx1 => ?_, ?_⟩
                · have hq1 := hx1.cells; go_simp; try go_bits
                  first | with_reducible rfl
                simp only [Act.put, List.setIfInBounds_toArray, List.set_cons_zero, List.set_cons_succ]
                refine WE_q 18 rfl (by decide) (by kernel_rfl) rfl ?_; apply Exists.intro; refine ⟨fun w1 hx1 => ?_, ?_⟩
                · have hq1 := hx1.cells; go_simp; try go_bits
                  first | with_reducible rfl
                simp only [Act.put, List.setIfInBounds_toArray, List.set_cons_zero, List.set_cons_succ]
                refine WE_q 19 rfl (by decide) (by kernel_rfl) rfl ?_; apply Exists.intro; refine ⟨fun w1 hx1 => ?_, ?_⟩
                · have hq1 := hx1.cells; go_simp; try go_bits
                  first | with_reducible rfl
                simp only [Act.put, List.setIfInBounds_toArray, List.set_cons_zero, List.set_cons_succ]
                refine WE_q 20 rfl (by decide) (by kernel_rfl) rfl ?_; apply Exists.intro; refine ⟨fun w1 hx1 => ?_, ?_⟩
                · have hq1 := hx1.cells; go_simp; try go_bits
                  first | with_reducible rfl
                simp only [Act.put, List.setIfInBounds_toArray, List.set_cons_zero, List.set_cons_succ]
                refine WE_q 21 rfl (by decide) (by kernel_rfl) rfl ?_; apply Exists.intro; refine ⟨fun w1 hx1 => ?_, ?_⟩
                · have hq1 := hx1.cells; go_simp; try go_bits
                  first | with_reducible rfl
                simp only [Act.put, List.setIfInBounds_toArray, List.set_cons_zero, List.set_cons_succ]
                refine WE_done (by kernel_rfl) (fun w9 hx9 => ?_)
                (try simp only [List.drop_succ_cons, List.drop_zero])
                clear k1 k2 k3 k4
                go_wp2_with fail
                go_roundw
                case rel => exact ⟨j + 1, by omega, by go_num, HN2.out, HL2.out, HXJ.out.trans hx9⟩
                case measure => simp [intOf]; omega
          · have hjd : decide ((j : Int) < (k : Int)) = false := decide_eq_false (by omega)
            have hjn : decide (j < k) = false := decide_eq_false hjl
            have HR := Lib.hid (show trG f [] c.tr = trG f (c.tr.take (k + 1)) (c.tr.drop (k + 1)) by
              have hjk : j = k := by omega
              have h1 := HN.out
              rw [hjk] at h1
              have h2 : ¬ x < f := by
                rcases Nat.eq_zero_or_pos k with e | e
                · rw [HK0.out e]; omega
                · have := HL.out (by omega); omega
              rw [HG.out, HST.out, decide_eq_false h1, decide_eq_false h2]; rfl)
            go_wp2_with fail
            go_roundw
            case rel => exact ⟨k + 1, by omega, by go_num, HR.out, HXJ.out⟩
            case measure => simp [intOf]; omega
      · have HE := Lib.hid (show loopsV n c = 0 by rw [HF.out, HG.out, trG_end f (by omega)]; rfl)
        have hkd : decide ((k : Int) < (c.tr.length : Int)) = false := decide_eq_false (by omega)
        have hkn : decide (k < c.tr.length) = false := decide_eq_false hlt
        go_wp2_with fail
        go_ret
        exact ⟨by rw [HR0.out, HE.out]; rfl, HX1.out.trans HX.out⟩
end Go.Proofs.Ytpfkfboohblgoaa
