/- Numbers made a vector that may be; a short row of numbers. Conditions: whole numbers are within 64 bits. -/
import Derived.Test.YtilaljdokpdcoaaVec13Cmp
import Derived.Test.YtilaljdokpdcoaaSlice
namespace Go.Proofs.Ytilaljdokpdcoaa
open Go.RowKit

theorem IntsAt.piece {w : World} {v : Value} {l : List Int} (h : IntsAt w v l) {j k : Nat} (hj : j ≤ k) (hk : k ≤ l.length) : IntsAt w (slv 1 v j k) ((l.take k).drop j) := by
  have := Reads.piece h hj hk
  unfold IntsAt
  rw [List.length_drop, List.length_take, Nat.min_eq_left hk]
  rw [Nat.mul_one, Nat.mul_one] at this
  unfold icells at *
  rw [← List.map_take, ← List.map_drop] at this
  exact this
set_option maxRecDepth 100000 in
theorem short13_any (lv : Value) (l : List Int) (w : World) (hl : IntsAt w lv l) :
    Calls Try.prog 23 #[lv] w fun e w' => ∃ v, e = .returned v ∧ IntsAt w' v (l.take 30) ∧ Ext w w' := by
  have HL := Lib.hid hl
  obtain ⟨a, cap, rfl, a1, a2, a3⟩ := hl.form
  clear a3 hl
  unfold maxLen at a2
  obtain ⟨m, hm, hm2⟩ : ∃ m : Nat, min (l.length : Int) 30 = m ∧ m = min l.length 30 := ⟨min l.length 30, by omega, rfl⟩
  have HM := Lib.hid hm2
  have hk : m ≤ cap := by omega
  clear hm2
  go_enter Try.func23, Try.ntmps23
  go_wp2_with (first
    | (refine wpList_of_run rfl (run_slice_to (o := ⟨some 7, _, _, _, _, _⟩) rfl Try.underlying34 sizeInt rfl rfl hk) ?_))
  go_ret
  refine ⟨_, rfl, ?_, Ext.refl _⟩
  have := HL.out.piece (j := 0) (k := m) (Nat.zero_le _) (by have := HM.out; omega)
  rw [List.drop_zero] at this
  rwa [show l.take m = l.take 30 by rw [HM.out, List.take_eq_take_min (i := 30), Nat.min_comm]] at this

def fitI (m : Int) (x : Int) : Int := (x.tmod (m + 1) + m + 1).tmod (m + 1) - 1
theorem fitI_bd (m : Nat) (x : Int) : -1 ≤ fitI m x ∧ fitI m x < m := by
  obtain ⟨h1, h2⟩ := tmod_bd x (m + 1) (by omega)
  unfold fitI
  have h3 : 0 ≤ x.tmod (↑m + 1) + m + 1 := by omega
  rw [Int.tmod_eq_emod_of_nonneg h3]
  have h4 := Int.emod_nonneg (x.tmod (↑m + 1) + m + 1) (show (m : Int) + 1 ≠ 0 by omega)
  have h5 := Int.emod_lt_of_pos (x.tmod (↑m + 1) + m + 1) (show (0 : Int) < m + 1 by omega)
  omega
def fitVec (l : List Int) : List Int := (l.take 12).map (fitI (min l.length 12 : Nat))
theorem fitVec_may (l : List Int) : vmayV (fitVec l) = 0 := by
  have hlen : (fitVec l).length = min l.length 12 := by unfold fitVec; rw [List.length_map, List.length_take, Nat.min_comm]
  unfold vmayV
  rw [hlen]
  refine mayG_zero fun x hx => ?_
  obtain ⟨y, _, rfl⟩ := List.mem_map.1 hx
  exact fitI_bd _ y
theorem fitVec_step {l : List Int} {k : Nat} (h : k < l.length) (h2 : k < 12) : (fitVec l).take (k + 1) = (fitVec l).take k ++ [fitI (min l.length 12 : Nat) l[k]] := by
  have hl : k < (fitVec l).length := by unfold fitVec; rw [List.length_map, List.length_take]; omega
  rw [List.take_succ_eq_append_getElem hl]
  congr 2
  unfold fitVec
  simp
set_option maxHeartbeats 1000000 in
theorem r13Fit_any (lv : Value) (l : List Int) (w : World) (hl : IntsAt w lv l) (hok : ∀ x ∈ l, In64 x) :
    Calls Try.prog 27 #[lv] w fun e w' => ∃ v, e = .returned v ∧ OwnI w' w.heap.size v (fitVec l) ∧ Ext w w' := by
  obtain ⟨a, cap, rfl, a1, a2, a3⟩ := hl.form
  have A3 := Lib.hid a3
  clear a3
  unfold maxLen at a2
  obtain ⟨m, hm, hm2⟩ : ∃ m : Nat, min (l.length : Int) 12 = m ∧ m = min l.length 12 := ⟨min l.length 12, by omega, rfl⟩
  have HM := Lib.hid hm2
  have hmb : m ≤ 12 := by omega
  have hml : m ≤ l.length := by omega
  have HFL := Lib.hid (show (fitVec l).length = m by rw [hm2]; unfold fitVec; rw [List.length_map, List.length_take, Nat.min_comm])
  clear hm2
  go_enter Try.func27, Try.ntmps27
  go_wp2_with fail
  go_loopw [3, 5] (fun v i wr => ∃ k : Nat, k ≤ m ∧ i = I k ∧ Hid (OwnI wr w.heap.size v ((fitVec l).take k)) ∧ Hid (Ext w wr)) (fun _ i _ => m - (intOf i).toNat)
  case atStart => exact ⟨0, by omega, rfl, own_made w 1 3 0 [] rfl (by unfold maxLen; omega), (Ext.refl _).alloc _⟩
  case round =>
    obtain ⟨k, hk, rfl, HO, HX⟩ := hrel
    by_cases hlt : k < m
    · have hlt2 : k < l.length := by omega
      obtain ⟨b0, o0, rfl, p0⟩ := A3.out k l[k] (List.getElem?_eq_getElem hlt2)
      replace p0 := HX.out.cell p0
      have HS := Lib.hid (fitVec_step hlt2 (by omega))
      rw [show (min l.length 12 : Nat) = m from HM.out.symm] at HS
      obtain ⟨x1, x2⟩ := hok l[k] (List.getElem_mem hlt2)
      obtain ⟨y1, y2⟩ := tmod_bd l[k] (m + 1) (by omega)
      obtain ⟨z1, z2⟩ := fitI_bd m l[k]
      have hz : (l[k].tmod (↑m + 1) + ↑m + 1).tmod (↑m + 1) = fitI m l[k] + 1 := by unfold fitI; omega
      have hz2 : (l[k].tmod (↑m + 1) + ↑m + 1) % (↑m + 1) = fitI m l[k] + 1 := (Int.tmod_eq_emod_of_nonneg (by omega)).symm.trans hz
      have HLEN := Lib.hid (show ((fitVec l).take k).length = k by rw [List.length_take, HFL.out]; omega)
      generalize fitI (↑m) l[k] = z at *
      have HXA := Lib.hid (HX.out.alloc (.cells #[I z] 3))
      have hown := own_later HO.out ((Ext.refl wr).alloc (.cells #[I z] 3))
      rw [HLEN.out] at hown
      have HOWN := Lib.hid hown
      have HSC := Lib.hid (show (wr.alloc (.cells #[I z] 3)).cell? ⟨wr.heap.size, 0, none⟩ = some (I z) from (Blk.new wr [I z] 3).cells 0)
      clear hown
      go_wp2_with (first
        | (at_builtin; refine wpList_app1 rfl (.tmp 15) (.tmp 30) 34 rfl w.heap.size 3 _ 8 Try.underlying34 infoInt rfl (by decide) _ _ _ rfl HOWN.out _ rfl _ HSC.out rfl (by omega) HXA.out.size ?_; intro v7 w7 ho7 hg7 hloc7; have HO7 := Lib.hid ho7; have HG7 := Lib.hid hg7; clear ho7 hg7 hloc7))
      go_roundw
      case rel =>
        refine ⟨k + 1, by omega, by go_num, ?_, Ext.grown HXA.out HG7.out HOWN.out (Nat.le_refl _)⟩
        show OwnI _ _ _ _
        rw [HS.out]
        unfold OwnI
        rw [icells_app, List.length_append, HLEN.out]
        exact HO7.out
      case measure => simp [intOf]; omega
    · have HE := Lib.hid (show (fitVec l).take k = fitVec l by rw [List.take_of_length_le (by rw [HFL.out]; omega)])
      go_wp2_with fail
      go_ret
      exact ⟨_, rfl, by rw [← HE.out]; exact HO.out, HX.out⟩
end Go.Proofs.Ytilaljdokpdcoaa
