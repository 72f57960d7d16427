/- The law TrieParts: the walk. Conditions: whole numbers are within 64 bits. -/
import Derived.Test.YtgkefgibpbdepaaShown
import Derived.Test.YtgkefgibpbdepaaTrieN
namespace Go.Proofs.Ytgkefgibpbdepaa
open Go.RowKit

theorem mod_nat (n L : Nat) : ((n : Int).tmod ((L : Int) + 1)) = ((n % (L + 1) : Nat) : Int) := by
  rw [Int.tmod_eq_emod_of_nonneg (by omega)]; simp

set_option maxHeartbeats 2000000 in
theorem trieParts_any (lv : Value) (l : List Rul) (nb : Nat) (a : BitVec 32) (w : World) (hl : RulesAt w lv l) (hok : RulesOk l) (hnb : nb < 256) :
    Calls Try.prog 3 #[lv, .int .u8 (nb : Int), U a] w fun e w' => e = .returned (.bool true) ∧ Ext w w' := by
  have HL := Lib.hid hl
  have HOK := Lib.hid hok
  clear hl hok
  go_enter Try.func3, Try.ntmps3
  go_upto_region 5 with (first
    | (go_at_call 9; refine (shown11_any _).mono ?_; rintro e w1 ⟨rfl, hx1⟩)
    | (go_at_call 10; refine (r08Fit_any _ l 9 _ (HL.out.later hx1) HOK.out (by omega) (by omega)).mono ?_; rintro e w2 ⟨fv, he, hF, hx2⟩; obtain ⟨fa, fcap, hfv, f1, f2, f3⟩ := hF.form; subst hfv; subst he; clear f3; have HF := Lib.hid hF; clear hF; have hL := fitL_len l 9; unfold maxLen at f2)
    | (go_at_call 11; refine (trieBuild_any _ (fitL l 9) _ HF.out (fitL_ok (by omega) (by omega)) (by omega)).mono ?_; rintro e w3 ⟨tb, tv, tbs, he, hT, hx3⟩; subst he; have HT := Lib.hid hT; clear hT))
  have hTab := fit_tab l 9
  have hOk9 := @fitL_ok l 9 (by omega) (by omega)
  generalize fitL l 9 = F at *
  have HTab := Lib.hid hTab
  have HOk9 := Lib.hid hOk9
  obtain ⟨kk, hkk, hkl⟩ : ∃ kk : Nat, (nb : Int) % ((F.length : Int) + 1) = kk ∧ kk ≤ F.length := by
    have h1 := Int.emod_nonneg (nb : Int) (show (F.length : Int) + 1 ≠ 0 by omega)
    have h2 := Int.emod_lt_of_pos (nb : Int) (show (0 : Int) < (F.length : Int) + 1 by omega)
    exact ⟨((nb : Int) % ((F.length : Int) + 1)).toNat, by omega, by omega⟩
  rw [hkk]
  have hkc : kk ≤ fcap := by omega
  have HP := Lib.hid (show RulesAt w3 (slv 4 (.slice fa F.length fcap) 0 kk) (F.take kk) by
    have := (HF.out.later hx3).piece (j := 0) (Nat.zero_le _) hkl
    rwa [List.drop_zero] at this)
  have HXA := Lib.hid (hx1.trans (hx2.trans hx3))
  clear hTab hOk9 hkk hx1 hx2 hx3 HF f1
  go_upto_region 8 with (first
    | (refine wpList_of_run rfl (run_slice_to (o := ⟨some 29, _, _, _, _, _⟩) rfl Try.underlying22 sizeRule rfl rfl hkc) ?_)
    | (go_at_call 11; refine (trieBuild_any _ (F.take kk) _ HP.out (fun x hx => HOk9.out x (List.mem_of_mem_take hx)) (by rw [List.length_take]; omega)).mono ?_; rintro e w4 ⟨ub, uv', ubs, he, hU, hx4⟩; subst he; have HU := Lib.hid hU; clear hU))
  have HS := Lib.hid (show decide (((buildT (F.take kk)).size : Int) ≤ ((buildT F).size : Int)) = true by have := take_size F kk; exact decide_eq_true (by omega))
  have HD := Lib.hid (show decide (((buildT (F.take kk)).depth a : Int) ≤ ((buildT F).depth a : Int)) = true by have := take_depth F kk a; exact decide_eq_true (by omega))
  have HZ1 := Lib.hid (show (buildT F).size ≤ 1000000000000000 by have := build_size F .nil; simp only [T.size] at this; show (List.foldl putOk .nil F).size ≤ _; omega)
  have HZ2 := Lib.hid (show (buildT (F.take kk)).size ≤ 1000000000000000 by have := take_size F kk; have := HZ1.out; omega)
  have h1 := build_find HTab.out a
  have h2 := build_find (HTab.out.take kk) a
  have HLP := Lib.hid (longest_part (fun x hx => List.mem_of_mem_take hx) h1 h2)
  have HSAME := Lib.hid (show F.length ≤ kk → (buildT F).find a none = (buildT (F.take kk)).find a none by intro h; rw [List.take_of_length_le h])
  have HT3 := Lib.hid (HT.out.later hx4)
  clear h1 h2 HT
  generalize buildT (F.take kk) = T2 at *
  generalize buildT F = T1 at *
  generalize hO1 : T1.find a none = o1 at *
  generalize hO2 : T2.find a none = o2 at *
  have HO1 := Lib.hid hO1
  have HO2 := Lib.hid hO2
  clear hO1 hO2
  have HXB := Lib.hid (HXA.out.trans hx4)
  clear HXA hx4
  go_upto_region 9 with (first
    | (go_at_call 12; with_reducible refine (trieFind_any _ _ tb _ _ _ a HT3.out).mono ?_; rintro e w5 ⟨he, hx5⟩; rw [HO1.out] at he; subst he))
  refine hideW (Φ := fun W => Code.wp _ _ _ _ W) (fun W => Ext w4 W ∧ Blk W w5.heap.size (resR o1).cells 29) ⟨hx5.alloc _, Blk.new w5 (resR o1).cells 29⟩ (fun W6 hW6 => ?_)
  obtain ⟨hx6, cA⟩ := hW6
  generalize w5.heap.size = ab at *
  clear hx5 w5
  have HU6 := Lib.hid (HU.out.later hx6)
  go_upto_region 10 with (first
    | (go_at_call 12; with_reducible refine (trieFind_any _ _ ub _ _ _ a HU6.out).mono ?_; rintro e w7 ⟨he, hx7⟩; rw [HO2.out] at he; subst he))
  refine hideW (Φ := fun W => Code.wp _ _ _ _ W) (fun W => Ext W6 W ∧ Blk W w7.heap.size (resR o2).cells 29) ⟨hx7.alloc _, Blk.new w7 (resR o2).cells 29⟩ (fun W8 hW8 => ?_)
  obtain ⟨hx8, cB⟩ := hW8
  generalize w7.heap.size = bb at *
  clear hx7 w7
  have HA8 := Lib.hid (cA.later hx8)
  have HB8 := Lib.hid cB
  have HT8 := Lib.hid (HT3.out.later (hx6.trans hx8))
  have HU8 := Lib.hid (HU6.out.later hx8)
  have HX8 := Lib.hid (HXB.out.trans (hx6.trans hx8))
  clear cA cB HT3 HU HU6 hx6 hx8
  have hs := HS.out
  have hd := HD.out
  have hsn : decide (T2.size ≤ T1.size) = true := decide_eq_true (by have := of_decide_eq_true hs; omega)
  have hdn : decide (T2.depth a ≤ T1.depth a) = true := decide_eq_true (by have := of_decide_eq_true hd; omega)
  have hc : o2.isSome = false ∨ (o2.isSome = true ∧ o1.isSome = true ∧ decide ((resR o2).pl ≤ (resR o1).pl) = true) := by
    have h := HLP.out
    cases e : o2.isSome with
    | false => exact .inl rfl
    | true => rw [e] at h; simp only [Bool.not_true, Bool.false_or, Bool.and_eq_true] at h; exact .inr ⟨rfl, h.1, h.2⟩
  by_cases hk : kk < F.length
  · have hkd : decide ((kk : Int) < (F.length : Int)) = true := decide_eq_true (by omega)
    have hkn : decide (kk < F.length) = true := decide_eq_true hk
    clear hk
    rcases hc with hc | ⟨hc, hc1, hc2⟩
    all_goals
      go_wp2_with (first
        | (go_at_call 13; with_reducible refine (trieSize_any _ _ ub _ _ _ HU8.out).mono ?_; rintro e w9 ⟨rfl, hx9⟩)
        | (go_at_call 13; with_reducible refine (trieSize_any _ _ tb _ _ _ (HT8.out.later hx9)).mono ?_; rintro e w10 ⟨rfl, hx10⟩)
        | (go_at_call 14; with_reducible refine (trieDepth_any _ _ ub _ _ _ a (HU8.out.later (hx9.trans hx10)) HZ2.out).mono ?_; rintro e w11 ⟨rfl, hx11⟩)
        | (go_at_call 14; with_reducible refine (trieDepth_any _ _ tb _ _ _ a (HT8.out.later (hx9.trans (hx10.trans hx11))) HZ1.out).mono ?_; rintro e w12 ⟨rfl, hx12⟩; have HX12 := Lib.hid (hx9.trans (hx10.trans (hx11.trans hx12))); have kA := (HA8.out.later HX12.out).cells; have kB := (HB8.out.later HX12.out).cells))
      all_goals
        go_ret
        exact ⟨rfl, HX8.out.trans HX12.out⟩
  · have hkd : decide ((kk : Int) < (F.length : Int)) = false := decide_eq_false (by omega)
    have hkn : decide (kk < F.length) = false := decide_eq_false hk
    obtain rfl : o1 = o2 := HSAME.out (by omega)
    clear hk
    have heq : decide (resR o1 = resR o1) = true := decide_eq_true rfl
    rcases hc with hc | ⟨hc, hc1, hc2⟩
    all_goals
      go_wp2_with (first
        | (go_at_call 13; with_reducible refine (trieSize_any _ _ ub _ _ _ HU8.out).mono ?_; rintro e w9 ⟨rfl, hx9⟩)
        | (go_at_call 13; with_reducible refine (trieSize_any _ _ tb _ _ _ (HT8.out.later hx9)).mono ?_; rintro e w10 ⟨rfl, hx10⟩)
        | (go_at_call 14; with_reducible refine (trieDepth_any _ _ ub _ _ _ a (HU8.out.later (hx9.trans hx10)) HZ2.out).mono ?_; rintro e w11 ⟨rfl, hx11⟩)
        | (go_at_call 14; with_reducible refine (trieDepth_any _ _ tb _ _ _ a (HT8.out.later (hx9.trans (hx10.trans hx11))) HZ1.out).mono ?_; rintro e w12 ⟨rfl, hx12⟩; have HX12 := Lib.hid (hx9.trans (hx10.trans (hx11.trans hx12))); have kA := (HA8.out.later HX12.out).cells; have kB := (HB8.out.later HX12.out).cells))
      all_goals
        go_ret
        exact ⟨rfl, HX8.out.trans HX12.out⟩
end Go.Proofs.Ytgkefgibpbdepaa
