/- The law TrieScans: the walk. Conditions: whole numbers are within 64 bits. -/
import Derived.Test.YtgkefgibpbdepaaShown
import Derived.Test.YtgkefgibpbdepaaTrieO
namespace Go.Proofs.Ytgkefgibpbdepaa
open Go.RowKit

theorem infoU32 : (Try.prog.info? 23).map (fun i => (i.zero, i.size, i.bytes)) = some (some (.int .u32 0), 1, 4) := by kernel_rfl
theorem ones_U (l : List (BitVec 32)) : ∀ u ∈ l.map (fun x => U x), u.oneCell' = true := by
  intro u hu
  obtain ⟨x, _, rfl⟩ := List.mem_map.1 hu
  rfl
def fiveOf (r : Rul) (a : BitVec 32) : List (BitVec 32) := [lowV r.pa r.pl, highV r.pa r.pl, lowV r.pa r.pl - 1#32, highV r.pa r.pl + 1#32, lowV r.pa r.pl ^^^ a &&& ~~~maskV r.pl]

set_option maxHeartbeats 2000000 in
theorem trieScans_any (lv : Value) (l : List Rul) (nb : Nat) (a : BitVec 32) (w : World) (hl : RulesAt w lv l) (hok : RulesOk l) (hnb : nb < 256) :
    Calls Try.prog 4 #[lv, .int .u8 (nb : Int), U a] w fun e w' => e = .returned (.bool true) ∧ Ext w w' := by
  have HL := Lib.hid hl
  have HOK := Lib.hid hok
  clear hl hok
  go_enter Try.func4, Try.ntmps4
  go_upto_region 6 with (first
    | (go_at_call 9; refine (shown11_any _).mono ?_; rintro e w1 ⟨rfl, hx1⟩)
    | (go_at_call 10; refine (r08Fit_any _ l (1 + nb) _ (HL.out.later hx1) HOK.out (by omega) (by omega)).mono ?_; rintro e w2 ⟨fv, he, hF, hx2⟩; obtain ⟨fa, fcap, hfv, f1, f2, f3⟩ := hF.form; subst hfv; subst he; clear f3; have HF := Lib.hid hF; clear hF; have hL := fitL_len l (1 + nb); unfold maxLen at f2)
    | (go_at_call 11; refine (trieBuild_any _ (fitL l (1 + nb)) _ HF.out (fitL_ok (by omega) (by omega)) (by omega)).mono ?_; rintro e w3 ⟨tb, tv, tbs, he, hT, hx3⟩; subst he; have HT := Lib.hid hT; clear hT))
  have hTab := fit_tab l (1 + nb)
  have hOk9 := @fitL_ok l (1 + nb) (by omega) (by omega)
  generalize fitL l (1 + nb) = F at *
  have HTab := Lib.hid hTab
  have HOk9 := Lib.hid hOk9
  have HXA := Lib.hid (hx1.trans (hx2.trans hx3))
  have HF3 := Lib.hid (HF.out.later hx3)
  clear hTab hOk9 hx1 hx2 hx3 HF
  go_upto_region 7 with (fail)
  refine hideW (Φ := fun W => Code.wp _ _ _ _ W) (fun W => Ext w3 W ∧ W.ownsRow w3.heap.size 23 1 (.slice (some ⟨w3.heap.size, 0, none⟩) 3 3) 3 ([a, 0#32, 4294967295#32].map fun x => U x)) ⟨(Ext.refl _).alloc _, own_made w3 1 23 3 ([a, 0#32, 4294967295#32].map fun x => U x) rfl (by unfold maxLen; omega)⟩ (fun W7 hW7 => ?_)
  obtain ⟨hx7, hown⟩ := hW7
  have HOWN := Lib.hid hown
  clear hown
  go_wp2_with fail
  go_loopw [10, 11] (fun v i wr => ∃ (k : Nat) (ad : List (BitVec 32)), k ≤ F.length ∧ i = I k ∧ ad.length = 3 + 5 * k ∧ Hid (wr.ownsRow w3.heap.size 23 1 v ad.length (ad.map fun x => U x)) ∧ Ext w3 wr) (fun _ i _ => F.length - (intOf i).toNat)
  case atStart => exact ⟨0, [a, 0#32, 4294967295#32], by omega, rfl, rfl, HOWN.out, hx7⟩
  case round =>
    obtain ⟨k, ad, hk, rfl, has, HO, hx⟩ := hrel
    obtain ⟨ga, gcap, hgf, g1, g2, g3⟩ := (HF3.out.later hx).form
    obtain ⟨rfl, -, rfl⟩ : fa = ga ∧ F.length = F.length ∧ fcap = gcap := by simpa using hgf
    by_cases hlt : k < F.length
    · obtain ⟨b0, o0, rfl, p0, p1, p2, p3⟩ := g3 k F[k] (List.getElem?_eq_getElem hlt)
      have hv := Lib.hid (HTab.out.valid F[k] (List.getElem_mem hlt)).in64
      replace p0 := Ext.keep p0
      replace p1 := Ext.keep p1
      clear g3 hgf p2 p3
      go_wp2_with fail
      refine wp_region_E 15 rfl (by kernel_rfl) (by kernel_rfl) ?_
      refine WE_q 0 rfl (by decide) (by kernel_rfl) rfl ?_; apply Exists.intro; refine ⟨fun w1 hx1 => ?_, ?_⟩
      · have hq1 := hx1.cells; go_simp; try go_bits
        first | with_reducible rfl | (refine (ends_any _ _ _ hv.out).mono ?_; rintro e w' ⟨rfl, rfl⟩; exact ⟨rfl, Ext.refl _⟩)
      simp only [Act.put, List.setIfInBounds_toArray, List.set_cons_zero, List.set_cons_succ]
      refine WE_q 1 rfl (by decide) (by kernel_rfl) rfl ?_; apply Exists.intro; refine ⟨fun w1 hx1 => ?_, ?_⟩
      · have hq1 := hx1.cells; go_simp; try go_bits
        first | with_reducible rfl | (refine (ends_any _ _ _ hv.out).mono ?_; rintro e w' ⟨rfl, rfl⟩; exact ⟨rfl, Ext.refl _⟩)
      simp only [Act.put, List.setIfInBounds_toArray, List.set_cons_zero, List.set_cons_succ]
      refine WE_q 2 rfl (by decide) (by kernel_rfl) rfl ?_; apply Exists.intro; refine ⟨fun w1 hx1 => ?_, ?_⟩
      · have hq1 := hx1.cells; go_simp; try go_bits
        first | with_reducible rfl | (refine (ends_any _ _ _ hv.out).mono ?_; rintro e w' ⟨rfl, rfl⟩; exact ⟨rfl, Ext.refl _⟩)
      simp only [Act.put, List.setIfInBounds_toArray, List.set_cons_zero, List.set_cons_succ]
      refine WE_q 3 rfl (by decide) (by kernel_rfl) rfl ?_; apply Exists.intro; refine ⟨fun w1 hx1 => ?_, ?_⟩
      · have hq1 := hx1.cells; go_simp; try go_bits
        first | with_reducible rfl | (refine (ends_any _ _ _ hv.out).mono ?_; rintro e w' ⟨rfl, rfl⟩; exact ⟨rfl, Ext.refl _⟩)
      simp only [Act.put, List.setIfInBounds_toArray, List.set_cons_zero, List.set_cons_succ]
      refine WE_q 4 rfl (by decide) (by kernel_rfl) rfl ?_; apply Exists.intro; refine ⟨fun w1 hx1 => ?_, ?_⟩
      · have hq1 := hx1.cells; go_simp; try go_bits
        first | with_reducible rfl | (refine (ends_any _ _ _ hv.out).mono ?_; rintro e w' ⟨rfl, rfl⟩; exact ⟨rfl, Ext.refl _⟩)
      simp only [Act.put, List.setIfInBounds_toArray, List.set_cons_zero, List.set_cons_succ]
      refine WE_q 5 rfl (by decide) (by kernel_rfl) rfl ?_; apply Exists.intro; refine ⟨fun w1 hx1 => ?_, ?_⟩
      · have hq1 := hx1.cells; go_simp; try go_bits
        first | with_reducible rfl | (refine (ends_any _ _ _ hv.out).mono ?_; rintro e w' ⟨rfl, rfl⟩; exact ⟨rfl, Ext.refl _⟩)
      simp only [Act.put, List.setIfInBounds_toArray, List.set_cons_zero, List.set_cons_succ]
      refine WE_q 6 rfl (by decide) (by kernel_rfl) rfl ?_; apply Exists.intro; refine ⟨fun w1 hx1 => ?_, ?_⟩
      · have hq1 := hx1.cells; go_simp; try go_bits
        first | with_reducible rfl | (refine (ends_any _ _ _ hv.out).mono ?_; rintro e w' ⟨rfl, rfl⟩; exact ⟨rfl, Ext.refl _⟩)
      simp only [Act.put, List.setIfInBounds_toArray, List.set_cons_zero, List.set_cons_succ]
      refine WE_q 7 rfl (by decide) (by kernel_rfl) rfl ?_; apply Exists.intro; refine ⟨fun w1 hx1 => ?_, ?_⟩
      · have hq1 := hx1.cells; go_simp; try go_bits
        first | with_reducible rfl | (refine (ends_any _ _ _ hv.out).mono ?_; rintro e w' ⟨rfl, rfl⟩; exact ⟨rfl, Ext.refl _⟩)
      simp only [Act.put, List.setIfInBounds_toArray, List.set_cons_zero, List.set_cons_succ]
      refine WE_q 8 rfl (by decide) (by kernel_rfl) rfl ?_; apply Exists.intro; refine ⟨fun w1 hx1 => ?_, ?_⟩
      · have hq1 := hx1.cells; go_simp; try go_bits
        first | with_reducible rfl | (refine (ends_any _ _ _ hv.out).mono ?_; rintro e w' ⟨rfl, rfl⟩; exact ⟨rfl, Ext.refl _⟩)
      simp only [Act.put, List.setIfInBounds_toArray, List.set_cons_zero, List.set_cons_succ]
      refine WE_q 9 rfl (by decide) (by kernel_rfl) rfl ?_; apply Exists.intro; refine ⟨fun w1 hx1 => ?_, ?_⟩
      · have hq1 := hx1.cells; go_simp; try go_bits
        first | with_reducible rfl | (refine (ends_any _ _ _ hv.out).mono ?_; rintro e w' ⟨rfl, rfl⟩; exact ⟨rfl, Ext.refl _⟩)
      simp only [Act.put, List.setIfInBounds_toArray, List.set_cons_zero, List.set_cons_succ]
      refine WE_q 10 rfl (by decide) (by kernel_rfl) rfl ?_; apply Exists.intro; refine ⟨fun w1 hx1 => ?_, ?_⟩
      · have hq1 := hx1.cells; go_simp; try go_bits
        first | with_reducible rfl | (refine (ends_any _ _ _ hv.out).mono ?_; rintro e w' ⟨rfl, rfl⟩; exact ⟨rfl, Ext.refl _⟩)
      simp only [Act.put, List.setIfInBounds_toArray, List.set_cons_zero, List.set_cons_succ]
      refine WE_q 11 rfl (by decide) (by kernel_rfl) rfl ?_; apply Exists.intro; refine ⟨fun w1 hx1 => ?_, ?_⟩
      · have hq1 := hx1.cells; go_simp; try go_bits
        first | with_reducible rfl | (refine (ends_any _ _ _ hv.out).mono ?_; rintro e w' ⟨rfl, rfl⟩; exact ⟨rfl, Ext.refl _⟩)
      simp only [Act.put, List.setIfInBounds_toArray, List.set_cons_zero, List.set_cons_succ]
      refine WE_q 12 rfl (by decide) (by kernel_rfl) rfl ?_; apply Exists.intro; refine ⟨fun w1 hx1 => ?_, ?_⟩
      · have hq1 := hx1.cells; go_simp; try go_bits
        first | with_reducible rfl | (refine (ends_any _ _ _ hv.out).mono ?_; rintro e w' ⟨rfl, rfl⟩; exact ⟨rfl, Ext.refl _⟩)
      simp only [Act.put, List.setIfInBounds_toArray, List.set_cons_zero, List.set_cons_succ]
      refine WE_q 13 rfl (by decide) (by kernel_rfl) rfl ?_; apply Exists.intro; refine ⟨fun w1 hx1 => ?_, ?_⟩
      · have hq1 := hx1.cells; go_simp; try go_bits
        first | with_reducible rfl | (refine (ends_any _ _ _ hv.out).mono ?_; rintro e w' ⟨rfl, rfl⟩; exact ⟨rfl, Ext.refl _⟩)
      simp only [Act.put, List.setIfInBounds_toArray, List.set_cons_zero, List.set_cons_succ]
      refine WE_q 14 rfl (by decide) (by kernel_rfl) rfl ?_; apply Exists.intro; refine ⟨fun w1 hx1 => ?_, ?_⟩
      · have hq1 := hx1.cells; go_simp; try go_bits
        first | with_reducible rfl | (refine (ends_any _ _ _ hv.out).mono ?_; rintro e w' ⟨rfl, rfl⟩; exact ⟨rfl, Ext.refl _⟩)
      simp only [Act.put, List.setIfInBounds_toArray, List.set_cons_zero, List.set_cons_succ]
      refine WE_done (by kernel_rfl) (fun w8 hx8 => ?_)
      simp only [List.drop_succ_cons, List.drop_zero]
      have HO8 := Lib.hid (own_later HO.out hx8)
      have hsrc := Reads.made w8 1 23 5 ((fiveOf F[k] a).map fun x => U x) rfl (by unfold maxLen; omega)
      have HS8 := Lib.hid hsrc
      have hz8 := Lib.hid (show w3.heap.size ≤ (w8.alloc (.cells ((fiveOf F[k] a).map fun x => U x).toArray 23)).heap.size from ((hx.trans hx8).alloc _).size)
      have HX8 := Lib.hid ((hx.trans hx8).alloc (.cells ((fiveOf F[k] a).map fun x => U x).toArray 23))
      have HOA := Lib.hid (own_later HO8.out ((Ext.refl w8).alloc (.cells ((fiveOf F[k] a).map fun x => U x).toArray 23)))
      clear hsrc
      go_wp2_with (first
        | (go_at_call 16; with_reducible refine (mask_any _ _ hv.out).mono ?_; rintro e w' ⟨rfl, rfl⟩)
        | (at_builtin; refine wpList_app rfl (.tmp 55) (.tmp 72) 35 rfl w3.heap.size 23 _ 1 4 Try.underlying35 infoU32 rfl (by decide) (by decide) _ _ _ rfl HOA.out _ _ _ rfl HS8.out (ones_U _) (by omega) hz8.out ?_; intro v9 w9 ho9 hg9; have HO9 := Lib.hid ho9; have HG9 := Lib.hid hg9; clear ho9 hg9))
      go_roundw
      case rel =>
        refine ⟨k + 1, ad ++ fiveOf F[k] a, by omega, by go_num, by simp [fiveOf, has]; omega, ?_, Ext.grown HX8.out HG9.out HOA.out (Nat.le_refl _)⟩
        have := HO9.out
        show World.ownsRow _ _ _ _ _ _ _
        rw [List.map_append, List.length_append]
        exact this
      case measure => simp [intOf]; omega
    · have HR := Lib.hid (Reads.of_own HO.out)
      have hab : 1 ≤ ad.length ∧ ad.length ≤ 103 := by omega
      clear has
      have HT3 := Lib.hid (HT.out.later hx)
      have HF4 := Lib.hid (HF3.out.later hx)
      have HX4 := Lib.hid (HXA.out.trans hx)
      obtain ⟨h0, va, vcap, rfl, q1, q2, q3, q4⟩ := HR.out
      have Q4 := Lib.hid q4
      have Q3 := Lib.hid q3
      clear h0 q3 q4 hgf g1 g2 g3 HO HR hx HT
      unfold maxLen at q2
      obtain ⟨wo, rfl⟩ : ∃ wo : World, wo = wr := ⟨_, rfl⟩
      have hkd : decide ((k : Int) < (F.length : Int)) = false := decide_eq_false (by omega)
      have hkn : decide (k < F.length) = false := decide_eq_false (by omega)
      go_wp2_with fail
      go_loopw [14] (fun i wi => ∃ j : Nat, j ≤ ad.length ∧ i = I j ∧ Ext wo wi) (fun i _ => ad.length - (intOf i).toNat)
      case atStart => exact ⟨0, by omega, rfl, Ext.refl _⟩
      case round =>
        obtain ⟨j, hj, rfl, hxj⟩ := hrel
        by_cases hjl : j < ad.length
        · cases va with
          | none =>
            exfalso
            have := Q3.out rfl
            omega
          | some b =>
            obtain ⟨e1, e2⟩ := Q4.out b rfl
            obtain ⟨bb, bo, bs⟩ := b
            simp only at e1
            subst e1
            have c0 := hxj.cell (e2 j (U ad[j]) (by simp [hjl]))
            simp only at c0
            have c1 := Ext.keep c0
            clear e2 c0
            have hfs := Lib.hid (find_scan HTab.out ad[j])
            have heq : decide (resR (findL F ad[j]) = resR (findL F ad[j])) = true := decide_eq_true rfl
            go_wp2_with (first
              | (go_at_call 12; with_reducible refine (trieFind_any _ _ tb _ _ _ ad[j] (HT3.out.later hxj)).mono ?_; rintro e w5 ⟨he, hx5⟩; rw [hfs.out] at he; subst he)
              | (go_at_call 17; with_reducible refine (tableFind_any _ F ad[j] _ (HF4.out.later ((hxj.trans hx5).alloc _)) HOk9.out).mono ?_; rintro e w6 ⟨he, hx6⟩; subst he; have kb := Blk.later (Blk.new w5 (resR (findL F ad[j])).cells 29) hx6; have kA := kb.cells; have kl := kb.lt))
            go_roundw
            case rel => exact ⟨j + 1, by omega, by go_num, Ext.alloc (Ext.trans (Ext.alloc (Ext.trans hxj hx5) (.cells (resR (findL F ad[j])).cells.toArray 29)) hx6) _⟩
            case measure => simp [intOf]; omega
        · have hB := build_bounds HTab.out
          have hB1 := hB.1
          have hjd : decide ((j : Int) < (ad.length : Int)) = false := decide_eq_false (by omega)
          have hjn : decide (j < ad.length) = false := decide_eq_false (by omega)
          have HX5 := Lib.hid (HX4.out.trans hxj)
          have hB2 := hB.2
          clear hB
          rcases hB2 with ⟨z1, z2⟩ | ⟨z1, z2⟩
          · have a1 : (F.length == 0) = true := by simp [z1]
            have a2 : ((F.length : Int) == 0) = true := by simp [z1]
            have a3 : ((buildT F).size == 0) = true := by simp [z2]
            have a4 : (((buildT F).size : Int) == 0) = true := by simp [z2]
            clear z1 z2 hB1
            go_wp2_with (first
              | (go_at_call 13; with_reducible refine (trieSize_any _ _ tb _ _ _ (HT3.out.later hxj)).mono ?_; rintro e w9 ⟨rfl, hx9⟩))
            go_ret
            exact ⟨rfl, HX5.out.trans hx9⟩
          · have a1 : (F.length == 0) = false := beq_false_of_ne (by omega)
            have a2 : ((F.length : Int) == 0) = false := beq_false_of_ne (by omega)
            have a3 : decide (F.length ≤ (buildT F).size) = true := decide_eq_true hB1
            have a4 : decide ((F.length : Int) ≤ ((buildT F).size : Int)) = true := decide_eq_true (by omega)
            have a5 : decide (((buildT F).size : Int) ≤ 2 * (F.length : Int) - 1) = true := decide_eq_true (by omega)
            clear z1 z2 hB1
            go_wp2_with (first
              | (go_at_call 13; with_reducible refine (trieSize_any _ _ tb _ _ _ (HT3.out.later hxj)).mono ?_; rintro e w9 ⟨rfl, hx9⟩)
              | (go_at_call 13; with_reducible refine (trieSize_any _ _ tb _ _ _ (HT3.out.later (hxj.trans hx9))).mono ?_; rintro e w10 ⟨rfl, hx10⟩))
            go_ret
            exact ⟨rfl, HX5.out.trans (hx9.trans hx10)⟩
end Go.Proofs.Ytgkefgibpbdepaa
