/- Vectors by the reference. Conditions: whole numbers are within 64 bits; a million nodes at most. -/
import Derived.Test.YtilaljdokpdcoaaSteps
namespace Go.Proofs.Ytilaljdokpdcoaa
open Go.RowKit

theorem vec_step {ls : List (List Rul)} {a : BitVec 32} {k : Nat} (h : k < ls.length) : (vecV ls a).take (k + 1) = (vecV ls a).take k ++ [(stepO ls[k] a).getD (-1)] := by
  rw [List.take_succ_eq_append_getElem (by rw [vecV_len]; exact h)]
  congr 2
  have := vecV_get (a := a) h
  rw [List.getElem?_eq_getElem (by rw [vecV_len]; exact h)] at this
  simpa using this
set_option maxHeartbeats 2000000 in
theorem r13Of_any (lv : Value) (ls : List (List Rul)) (a : BitVec 32) (w : World) (hl : TablesAt w lv ls) (hok : TablesOk ls) (hn : ls.length ≤ 1000000) :
    Calls Try.prog 21 #[.agg #[lv], U a] w fun e w' => ∃ v, e = .returned v ∧ OwnI w' w.heap.size v (vecV ls a) ∧ Ext w w' := by
  have HL := Lib.hid hl
  obtain ⟨ad, cap, rfl, a1, a2, a3⟩ := hl.form
  have HOK := Lib.hid hok
  clear a3 hl hok
  unfold maxLen at a2
  go_enter Try.func21, Try.ntmps21
  go_upto_region 1 with (fail)
  refine hideW (Φ := fun W => Code.wp _ _ _ _ W) (fun W => Ext w W ∧ Blk W w.heap.size [.slice ad ls.length cap] 24) ⟨(Ext.refl _).alloc _, Blk.new w [.slice ad ls.length cap] 24⟩ (fun W1 hW1 => ?_)
  obtain ⟨hx1, hb1⟩ := hW1
  have HB := Lib.hid hb1
  have HX1 := Lib.hid hx1
  have HL1 := Lib.hid (HL.out.later hx1)
  clear hx1 hb1 HL
  generalize w.heap.size = nb at *
  go_wp2_with fail
  go_loopw [5, 6] (fun v i wr => ∃ k : Nat, k ≤ ls.length ∧ i = I k ∧ Hid (OwnI wr W1.heap.size v ((vecV ls a).take k)) ∧ Ext W1 wr) (fun _ i _ => ls.length - (intOf i).toNat)
  case atStart => exact ⟨0, by omega, rfl, own_made W1 1 3 0 [] rfl (by unfold maxLen; omega), by (repeat (first | with_reducible exact Ext.refl _ | with_reducible assumption | with_reducible refine Ext.alloc ?_ _ | with_reducible refine Ext.drew ?_ | with_reducible refine Ext.drewN ?_ _ | (with_reducible refine Ext.setCellP ?_ ?_; focus (first | (simp; done) | (simp; omega) | omega))))⟩
  case round =>
    obtain ⟨k, hk, rfl, HO, hx⟩ := hrel
    have hbc := (HB.out.later hx).cells
    have HX := Lib.hid hx
    clear hx
    by_cases hlt : k < ls.length
    · have hst := Lib.hid (stepN_in (a := a) hlt)
      have HV := Lib.hid (vec_step (a := a) hlt)
      have HLEN := Lib.hid (show ((vecV ls a).take k).length = k by rw [List.length_take, vecV_len]; omega)
      generalize hso : stepO ls[k] a = so at *
      clear hso
      cases so with
      | none =>
        go_wp2_with (first
          | (go_at_call 51; (with_reducible refine (r09Step_any _ ls a _ _ (HL1.out.later HX.out) HOK.out).mono ?_); rintro e w2 ⟨he, hx2⟩; rw [hst.out] at he; subst he; have HX2 := Lib.hid hx2; clear hx2; have HOA := Lib.hid (show (w2.alloc (.cells #[I (-1)] 3)).ownsRow W1.heap.size 3 1 u5 ((vecV ls a).take k).length (icells ((vecV ls a).take k)) from own_later HO.out (HX2.out.alloc _)); have HS := Lib.hid (Reads.made w2 1 3 1 [I (-1)] rfl (by unfold maxLen; omega)); have HXA := Lib.hid ((HX.out.trans HX2.out).alloc (.cells #[I (-1)] 3)))
          | (at_builtin; refine wpList_app rfl (.tmp 26) (.tmp 28) 34 rfl W1.heap.size 3 _ 1 8 Try.underlying34 infoInt rfl (by decide) (by decide) _ _ _ rfl HOA.out _ _ _ rfl HS.out (by intro u hu; exact icells_one [-1] u (by simpa [icells] using hu)) (by rw [HLEN.out]; omega) HXA.out.size ?_; intro v6 w6 ho6 hg6; have HO6 := Lib.hid ho6; have HG6 := Lib.hid hg6; clear ho6 hg6))
        go_roundw
        case rel =>
          refine ⟨k + 1, by omega, by go_num, ?_, Ext.grown HXA.out HG6.out HOA.out (Nat.le_refl _)⟩
          show OwnI _ _ _ _
          rw [HV.out]
          have := HO6.out
          unfold OwnI
          rw [icells_app, List.length_append]
          exact this
        case measure => simp [intOf]; omega
      | some nx =>
        go_wp2_with (first
          | (go_at_call 51; (with_reducible refine (r09Step_any _ ls a _ _ (HL1.out.later HX.out) HOK.out).mono ?_); rintro e w2 ⟨he, hx2⟩; rw [hst.out] at he; subst he; have HX2 := Lib.hid hx2; clear hx2; have HOA := Lib.hid (show (w2.alloc (.cells #[I nx] 3)).ownsRow W1.heap.size 3 1 u5 ((vecV ls a).take k).length (icells ((vecV ls a).take k)) from own_later HO.out (HX2.out.alloc _)); have HS := Lib.hid (Reads.made w2 1 3 1 [I nx] rfl (by unfold maxLen; omega)); have HXA := Lib.hid ((HX.out.trans HX2.out).alloc (.cells #[I nx] 3)))
          | (at_builtin; refine wpList_app rfl (.tmp 26) (.tmp 28) 34 rfl W1.heap.size 3 _ 1 8 Try.underlying34 infoInt rfl (by decide) (by decide) _ _ _ rfl HOA.out _ _ _ rfl HS.out (by intro u hu; exact icells_one [nx] u (by simpa [icells] using hu)) (by rw [HLEN.out]; omega) HXA.out.size ?_; intro v6 w6 ho6 hg6; have HO6 := Lib.hid ho6; have HG6 := Lib.hid hg6; clear ho6 hg6))
        go_roundw
        case rel =>
          refine ⟨k + 1, by omega, by go_num, ?_, Ext.grown HXA.out HG6.out HOA.out (Nat.le_refl _)⟩
          show OwnI _ _ _ _
          rw [HV.out]
          have := HO6.out
          unfold OwnI
          rw [icells_app, List.length_append]
          exact this
        case measure => simp [intOf]; omega
    · have HE := Lib.hid (show (vecV ls a).take k = vecV ls a by rw [List.take_of_length_le (by rw [vecV_len]; omega)])
      go_wp2_with fail
      go_ret
      exact ⟨_, rfl, by rw [← HE.out]; exact own_low HO.out HX1.out.size, HX1.out.trans HX.out⟩
end Go.Proofs.Ytilaljdokpdcoaa
