/- The law TrieTurned: the walk. Conditions: whole numbers are within 64 bits. -/
import Derived.Test.YtgkefgibpbdepaaShown
import Derived.Test.YtgkefgibpbdepaaTrieR
namespace Go.Proofs.Ytgkefgibpbdepaa
open Go.RowKit

theorem turn_step {F : List Rul} {p : Nat} (h : p < F.length) : (F.drop (p + 1)).reverse ++ [F[p]] = (F.drop p).reverse := by
  rw [List.drop_eq_getElem_cons h, List.reverse_cons]
set_option maxHeartbeats 4000000 in
theorem trieTurned_any (lv : Value) (l : List Rul) (nb : Nat) (a : BitVec 32) (w : World) (hl : RulesAt w lv l) (hok : RulesOk l) (hnb : nb < 256) :
    Calls Try.prog 5 #[lv, .int .u8 (nb : Int), U a] w fun e w' => e = .returned (.bool true) ∧ Ext w w' := by
  have HL := Lib.hid hl
  have HOK := Lib.hid hok
  clear hl hok
  go_enter Try.func5, Try.ntmps5
  go_upto_region 3 with (first
    | (go_at_call 9; refine (shown11_any _).mono ?_; rintro e w1 ⟨rfl, hx1⟩)
    | (go_at_call 10; refine (r08Fit_any _ l 9 _ (HL.out.later hx1) HOK.out (by omega) (by omega)).mono ?_; rintro e w2 ⟨fv, he, hF, hx2⟩; obtain ⟨fa, fcap, hfv, f1, f2, f3⟩ := hF.form; subst hfv; subst he; clear f3; have HF := Lib.hid hF; clear hF; have hL := fitL_len l 9; unfold maxLen at f2))
  have hTab := fit_tab l 9
  have hOk9 := @fitL_ok l 9 (by omega) (by omega)
  generalize fitL l 9 = F at *
  have HTab := Lib.hid hTab
  have HOk9 := Lib.hid hOk9
  obtain ⟨kk, hkk, hkl⟩ : ∃ kk : Nat, (nb : Int) % ((F.length : Int) + 1) = kk ∧ kk ≤ F.length := by
    have h1 := Int.emod_nonneg (nb : Int) (show (F.length : Int) + 1 ≠ 0 by omega)
    have h2 := Int.emod_lt_of_pos (nb : Int) (show (0 : Int) < (F.length : Int) + 1 by omega)
    exact ⟨((nb : Int) % ((F.length : Int) + 1)).toNat, by omega, by omega⟩
  have hkc : kk ≤ fcap := by omega
  have HXA := Lib.hid (hx1.trans hx2)
  clear hTab hOk9 hx1 hx2 f1
  go_upto_region 5 with (fail)
  rw [hkk]
  clear hkk
  refine hideW (Φ := fun W => Code.wp _ _ _ _ W) (fun W => Ext w2 W ∧ OwnR W w2.heap.size (.slice (some ⟨w2.heap.size, 0, none⟩) 0 0) []) ⟨(Ext.refl _).alloc _, own_made w2 4 29 0 [] rfl (by unfold maxLen; omega)⟩ (fun W3 hW3 => ?_)
  obtain ⟨hx3, hown⟩ := hW3
  have HOWN := Lib.hid hown
  have HX3 := Lib.hid hx3
  clear hown hx3
  go_wp2_with fail
  go_loopw [9, 11] (fun v i wr => ∃ m : Nat, kk ≤ m ∧ m ≤ F.length ∧ i = I ((m : Int) - 1) ∧ Hid (OwnR wr w2.heap.size v (F.drop m).reverse) ∧ Ext w2 wr) (fun _ i _ => (intOf i + 1).toNat)
  case atStart => exact ⟨F.length, hkl, Nat.le_refl _, rfl, by rw [List.drop_length]; exact HOWN.out, HX3.out⟩
  case round =>
    obtain ⟨m, hm1, hm2, rfl, HO, hx⟩ := hrel
    by_cases hlt : kk < m
    · obtain ⟨p, rfl⟩ : ∃ p, m = p + 1 := ⟨m - 1, by omega⟩
      have hpl : p < F.length := by omega
      have e1 : (((p + 1 : Nat) : Int) - 1) = (p : Int) := by omega
      rw [e1]
      clear e1
      obtain ⟨ga, gcap, hgf, g1, g2, g3⟩ := (HF.out.later hx).form
      obtain ⟨rfl, -, rfl⟩ : fa = ga ∧ F.length = F.length ∧ fcap = gcap := by simpa using hgf
      obtain ⟨b0, o0, rfl, p0, p1, p2, p3⟩ := g3 p F[p] (List.getElem?_eq_getElem hpl)
      have HS := Lib.hid (Reads.made wr 4 29 1 F[p].cells rfl (by unfold maxLen; omega))
      have HOA := Lib.hid (show (wr.alloc (.cells F[p].cells.toArray 29)).ownsRow w2.heap.size 29 4 u9 (F.drop (p + 1)).reverse.length (rcells (F.drop (p + 1)).reverse) from HO.out.alloc _)
      have HZ := Lib.hid (show w2.heap.size ≤ (wr.alloc (.cells F[p].cells.toArray 29)).heap.size from (hx.alloc _).size)
      have HXB := Lib.hid (hx.alloc (.cells F[p].cells.toArray 29))
      have hll : (F.drop (p + 1)).reverse.length ≤ 20 := by rw [List.length_reverse, List.length_drop]; omega
      clear g3 hgf
      go_wp2_with (first
        | (at_builtin; refine wpList_app rfl (.tmp 36) (.tmp 41) 22 rfl w2.heap.size 29 _ 4 32 Try.underlying22 infoRule rfl (by decide) (by decide) _ _ _ rfl HOA.out _ _ _ rfl HS.out (by intro u hu; exact rcells_one [F[p]] u (by simpa [rcells] using hu)) (by omega) HZ.out ?_; intro v6 w6 ho6 hg6; have HO6 := Lib.hid ho6; have HG6 := Lib.hid hg6; clear ho6 hg6))
      go_roundw
      case rel =>
        refine ⟨p, by omega, by omega, rfl, ?_, Ext.grown HXB.out HG6.out HOA.out (Nat.le_refl _)⟩
        have := HO6.out
        show World.ownsRow _ _ _ _ _ _ _
        rw [← turn_step hpl, rcells_app, List.length_append]
        simpa [rcells] using this
      case measure => simp [intOf]
    · obtain rfl : m = kk := by omega
      have hw0 : Ext w2 wr := hx
      have HP := Lib.hid (show RulesAt wr (slv 4 (.slice fa F.length fcap) 0 m) (F.take m) by
        have := (HF.out.later hx).piece (j := 0) (Nat.zero_le _) hkl
        rwa [List.drop_zero] at this)
      have hll : (F.drop m).reverse.length + (F.take m).length ≤ 20 := by rw [List.length_reverse, List.length_drop, List.length_take]; omega
      have HXC := Lib.hid hx
      clear hx hw0
      go_upto_region 10 with (first
        | (refine wpList_of_run rfl (run_slice_to (o := ⟨some 46, _, _, _, _, _⟩) rfl Try.underlying22 sizeRule rfl rfl hkc) ?_)
        | (at_builtin; refine wpList_app rfl (.tmp 43) (.tmp 46) 22 rfl w2.heap.size 29 _ 4 32 Try.underlying22 infoRule rfl (by decide) (by decide) _ _ _ rfl HO.out _ _ _ rfl HP.out (rcells_one _) (by omega) HXC.out.size ?_; intro v6 w6 ho6 hg6; have HO6 := Lib.hid ho6; have HG6 := Lib.hid hg6; clear ho6 hg6))
      have hown : w6.ownsRow w2.heap.size 29 4 v6 (turnL F m).length (rcells (turnL F m)) := by
        have := HO6.out
        unfold turnL
        rw [rcells_app, List.length_append]
        exact this
      have HTU := Lib.hid (show RulesAt w6 v6 (turnL F m) from Reads.of_own hown)
      have HX6 := Lib.hid (show Ext w2 w6 from Ext.grown HXC.out HG6.out HO.out (Nat.le_refl _))
      have HF6 := Lib.hid (HF.out.later HX6.out)
      have htl : (turnL F m).length ≤ 20 := by unfold turnL; rw [List.length_append]; exact hll
      have HOT := Lib.hid (show RulesOk (turnL F m) from fun x hx => HOk9.out x ((turn_perm F m).mem_iff.1 hx))
      have HBT := Lib.hid (build_turn HTab.out m)
      have HXX := Lib.hid (HXA.out.trans HX6.out)
      clear hown HO6 HG6 HO HP HXC HF HOWN HX3 HXA
      generalize turnL F m = G at *
      go_upto_region 14 with (first
        | (go_at_call 11; (with_reducible refine (trieBuild_any _ F _ HF6.out HOk9.out (by omega)).mono ?_); rintro e w7 ⟨tb, tv, tbs, he, hT, hx7⟩; subst he; have HT := Lib.hid hT; clear hT)
        | (go_at_call 11; (with_reducible refine (trieBuild_any _ G _ (HTU.out.later hx7) HOT.out (by omega)).mono ?_); rintro e w8 ⟨ub, uv', ubs, he, hU, hx8⟩; subst he; rw [HBT.out] at hU; have HU := Lib.hid hU; clear hU))
      have HT8 := Lib.hid (HT.out.later hx8)
      have HZ1 := Lib.hid (show (buildT F).size ≤ 1000000 by have := build_bounds HTab.out; omega)
      have HX8 := Lib.hid (HXX.out.trans (hx7.trans hx8))
      clear HT HXX hx7 hx8 HBT HF6 HTU
      generalize buildT F = T1 at *
      generalize hO1 : T1.find a none = o1 at *
      have HO1 := Lib.hid hO1
      clear hO1
      go_upto_region 15 with (first
        | (go_at_call 12; with_reducible refine (trieFind_any _ _ tb _ _ _ a HT8.out).mono ?_; rintro e w9 ⟨he, hx9⟩; rw [HO1.out] at he; subst he))
      refine hideW (Φ := fun W => Code.wp _ _ _ _ W) (fun W => Ext w8 W ∧ Blk W w9.heap.size (resR o1).cells 29) ⟨hx9.alloc _, Blk.new w9 (resR o1).cells 29⟩ (fun W10 hW => ?_)
      obtain ⟨hx10, cA⟩ := hW
      generalize w9.heap.size = ab at *
      clear hx9 w9
      have HU10 := Lib.hid (HU.out.later hx10)
      go_upto_region 16 with (first
        | (go_at_call 12; with_reducible refine (trieFind_any _ _ ub _ _ _ a HU10.out).mono ?_; rintro e w11 ⟨he, hx11⟩; rw [HO1.out] at he; subst he))
      refine hideW (Φ := fun W => Code.wp _ _ _ _ W) (fun W => Ext W10 W ∧ Blk W w11.heap.size (resR o1).cells 29) ⟨hx11.alloc _, Blk.new w11 (resR o1).cells 29⟩ (fun W12 hW => ?_)
      obtain ⟨hx12, cB⟩ := hW
      generalize w11.heap.size = bb at *
      clear hx11 w11
      have kA := (cA.later hx12).cells
      have kB := cB.cells
      have HT12 := Lib.hid (HT8.out.later (hx10.trans hx12))
      have HU12 := Lib.hid (HU10.out.later hx12)
      have HX12 := Lib.hid (HX8.out.trans (hx10.trans hx12))
      clear cA cB HT8 HU HU10 hx10 hx12 HX8
      have q1 : decide (resR o1 = resR o1) = true := decide_eq_true rfl
      have q2 : decide (T1.rules = T1.rules) = true := decide_eq_true rfl
      go_wp2_with (first
        | (go_at_call 13; with_reducible refine (trieSize_any _ _ tb _ _ _ HT12.out).mono ?_; rintro e w13 ⟨rfl, hx13⟩)
        | (go_at_call 13; with_reducible refine (trieSize_any _ _ ub _ _ _ (HU12.out.later hx13)).mono ?_; rintro e w14 ⟨rfl, hx14⟩)
        | (go_at_call 14; with_reducible refine (trieDepth_any _ _ tb _ _ _ a (HT12.out.later (hx13.trans hx14)) (Nat.le_trans HZ1.out (by decide))).mono ?_; rintro e w15 ⟨rfl, hx15⟩)
        | (go_at_call 14; with_reducible refine (trieDepth_any _ _ ub _ _ _ a (HU12.out.later (hx13.trans (hx14.trans hx15))) (Nat.le_trans HZ1.out (by decide))).mono ?_; rintro e w16 ⟨rfl, hx16⟩; have HX16 := Lib.hid (hx13.trans (hx14.trans (hx15.trans hx16))))
        | (go_at_call 19; (with_reducible refine (trieRules_any _ _ tb _ _ _ (HT12.out.later HX16.out) HZ1.out).mono ?_); rintro e w17 ⟨rv, he, hR, hx17⟩; subst he; have HR := Lib.hid hR; clear hR)
        | (go_at_call 19; (with_reducible refine (trieRules_any _ _ ub _ _ _ (HU12.out.later (HX16.out.trans hx17)) HZ1.out).mono ?_); rintro e w18 ⟨sv, he, hS, hx18⟩; subst he; have HS := Lib.hid hS; clear hS)
        | (go_at_call 18; with_reducible refine (r08Same_any _ _ _ _ _ (HR.out.later hx18) HS.out).mono ?_; rintro e w19 ⟨rfl, hx19⟩))
      go_ret
      exact ⟨ret_bool q2, HX12.out.trans (HX16.out.trans (hx17.trans (hx18.trans hx19)))⟩
end Go.Proofs.Ytgkefgibpbdepaa
