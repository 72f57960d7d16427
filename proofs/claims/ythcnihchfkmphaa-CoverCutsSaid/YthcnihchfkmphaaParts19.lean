/- Parts without their ranks, twenty at most. Conditions: none. -/
import Derived.Test.YthcnihchfkmphaaFit17
namespace Go.Proofs.Ythcnihchfkmphaa
open Go.RowKit

def bareP (p : Prt) : Prt := ⟨p.fr, p.up, none, 0, 0⟩
def partsN (ps : List Prt) : List Prt := (ps.take 20).map bareP
theorem partsN_step {ps : List Prt} {k : Nat} (h : k < ps.length) (h2 : k < 20) : (partsN ps).take (k + 1) = (partsN ps).take k ++ [bareP ps[k]] := by
  have hl : k < (partsN ps).length := by unfold partsN; rw [List.length_map, List.length_take]; omega
  rw [List.take_succ_eq_append_getElem hl]
  congr 2
  unfold partsN
  simp
theorem partsN_len (ps : List Prt) : (partsN ps).length ≤ 20 := by unfold partsN; rw [List.length_map, List.length_take]; omega
set_option maxHeartbeats 2000000 in
set_option maxRecDepth 100000 in
theorem parts19_any (pv : Value) (ps : List Prt) (w : World) (hp : PartsAt w pv ps) :
    Calls Try.prog 31 #[pv] w fun e w' => ∃ v, e = .returned v ∧ OwnP w' w.heap.size v (partsN ps) ∧ Ext w w' := by
  obtain ⟨pd, pcap, rfl, p1, p2, p3⟩ := hp.form
  have P3 := Lib.hid p3
  clear p3 hp
  unfold maxLen at p2
  have HXA := Lib.hid (show Ext w (w.alloc (.cells #[] 42)) from (Ext.refl _).alloc _)
  have HO := Lib.hid (show OwnP (w.alloc (.cells #[] 42)) w.heap.size (.slice (some ⟨w.heap.size, 0, none⟩) 0 0) [] from own_made w 3 42 0 [] rfl (by unfold maxLen; omega))
  go_enter Try.func31, Try.ntmps31
  go_wp2_with fail
  go_loopw [3, 4] (fun v i wr => ∃ k : Nat, k ≤ ps.length ∧ k ≤ 20 ∧ i = I k ∧ Hid (OwnP wr w.heap.size v ((partsN ps).take k)) ∧ Hid (Ext w wr)) (fun _ i _ => 20 - (intOf i).toNat)
  case atStart => exact ⟨0, by omega, by omega, rfl, HO.out, HXA.out⟩
  case round =>
    obtain ⟨k, hk, hk20, rfl, HOk, HX⟩ := hrel
    by_cases hlt : k < ps.length
    · by_cases hlt2 : k < 20
      · obtain ⟨b0, o0, rfl, q0, q1, q2⟩ := P3.out k ps[k] (List.getElem?_eq_getElem hlt)
        have HST := Lib.hid (partsN_step hlt hlt2)
        have HPL := Lib.hid (show ((partsN ps).take k).length = k by unfold partsN; rw [List.length_take, List.length_map, List.length_take]; omega)
        obtain ⟨va, vcap, hv, v1, v2, -⟩ := HOk.out.parts.form
        rw [HPL.out] at hv v1
        subst hv
        clear q2
        go_wp2_with fail
        refine wp_region_R (RB (wr.heap.size)) 13 rfl (by kernel_rfl) (by kernel_rfl) (fun w0 hx0 => ?_)
        have hsz : wr.heap.size ≤ w0.heap.size := hx0.size
        have hlo : b0 < wr.heap.size := by
          have h1 := HX.out.size
          have h2 : b0 < w.heap.size := by
            rcases Nat.lt_or_ge b0 w.heap.size with h' | h'
            · exact h'
            · simp [World.cell?, Array.getElem?_eq_none h'] at q0
          omega
        have r0 := RB.keep (p := ⟨b0, o0 + k * 3, none⟩) hsz hlo ((HX.out.trans hx0).cell q0)
        have r1 := RB.keep (p := ⟨b0, o0 + k * 3 + 1, none⟩) hsz hlo ((HX.out.trans hx0).cell q1)
        generalize ps[k] = p at *
        refine WR_q (preRB _) 0 rfl (by decide) (by kernel_rfl) rfl ?_; apply Exists.intro; refine ⟨fun w1 hx1 => ?_, ?_⟩
        · go_simp; try go_bits
          first | with_reducible rfl | rfl
        simp only [Act.put, List.setIfInBounds_toArray, List.set_cons_zero, List.set_cons_succ]
        refine WR_q (preRB _) 1 rfl (by decide) (by kernel_rfl) rfl ?_; apply Exists.intro; refine ⟨fun w1 hx1 => ?_, ?_⟩
        · go_simp; try go_bits
          first | with_reducible rfl | rfl
        simp only [Act.put, List.setIfInBounds_toArray, List.set_cons_zero, List.set_cons_succ]
        refine WR_q (preRB _) 2 rfl (by decide) (by kernel_rfl) rfl ?_; apply Exists.intro; refine ⟨fun w1 hx1 => ?_, ?_⟩
        · go_simp; try go_bits
          first | with_reducible rfl | rfl
        simp only [Act.put, List.setIfInBounds_toArray, List.set_cons_zero, List.set_cons_succ]
        refine WR_q (preRB _) 3 rfl (by decide) (by kernel_rfl) rfl ?_; apply Exists.intro; refine ⟨fun w1 hx1 => ?_, ?_⟩
        · go_simp; try go_bits
          first | with_reducible rfl | rfl
        simp only [Act.put, List.setIfInBounds_toArray, List.set_cons_zero, List.set_cons_succ]
        refine WR_q (preRB _) 4 rfl (by decide) (by kernel_rfl) rfl ?_; apply Exists.intro; refine ⟨fun w1 hx1 => ?_, ?_⟩
        · go_simp; try go_bits
          first | with_reducible rfl | rfl
        simp only [Act.put, List.setIfInBounds_toArray, List.set_cons_zero, List.set_cons_succ]
        refine WR_q (preRB _) 5 rfl (by decide) (by kernel_rfl) rfl ?_; apply Exists.intro; refine ⟨fun w1 hx1 => ?_, ?_⟩
        · go_simp; try go_bits
          first | with_reducible rfl | rfl
        simp only [Act.put, List.setIfInBounds_toArray, List.set_cons_zero, List.set_cons_succ]
        refine WR_q (preRB _) 6 rfl (by decide) (by kernel_rfl) rfl ?_; apply Exists.intro; refine ⟨fun w1 hx1 => ?_, ?_⟩
        · go_simp; try go_bits
          first | with_reducible rfl | rfl
        simp only [Act.put, List.setIfInBounds_toArray, List.set_cons_zero, List.set_cons_succ]
        refine WR_q (preRB _) 7 rfl (by decide) (by kernel_rfl) rfl ?_; apply Exists.intro; refine ⟨fun w1 hx1 => ?_, ?_⟩
        · go_simp; try go_bits
          first | with_reducible rfl | rfl
        simp only [Act.put, List.setIfInBounds_toArray, List.set_cons_zero, List.set_cons_succ]
        refine WR_q (preRB _) 8 rfl (by decide) (by kernel_rfl) rfl ?_; apply Exists.intro; refine ⟨fun w1 hx1 => ?_, ?_⟩
        · go_simp; try go_bits
          first | with_reducible rfl | rfl
        simp only [Act.put, List.setIfInBounds_toArray, List.set_cons_zero, List.set_cons_succ]
        refine WR_q (preRB _) 9 rfl (by decide) (by kernel_rfl) rfl ?_; apply Exists.intro; refine ⟨fun w1 hx1 => ?_, ?_⟩
        · go_simp; try go_bits
          first | with_reducible rfl | rfl
        simp only [Act.put, List.setIfInBounds_toArray, List.set_cons_zero, List.set_cons_succ]
        refine WR_q (preRB _) 10 rfl (by decide) (by kernel_rfl) rfl ?_; apply Exists.intro; refine ⟨fun w1 hx1 => ?_, ?_⟩
        · go_simp; try go_bits
          first | with_reducible rfl | rfl
        simp only [Act.put, List.setIfInBounds_toArray, List.set_cons_zero, List.set_cons_succ]
        refine WR_q (preRB _) 11 rfl (by decide) (by kernel_rfl) rfl ?_; apply Exists.intro; refine ⟨fun w1 hx1 => ?_, ?_⟩
        · go_simp; try go_bits
          first | with_reducible rfl | rfl
        simp only [Act.put, List.setIfInBounds_toArray, List.set_cons_zero, List.set_cons_succ]
        refine WR_one 12 rfl (by decide) (by kernel_rfl) rfl (fun K hK => ?_)
        go_simp
        refine hK _ _ (RB.ext ((Ext.refl _).alloc _)) ?_
        clear hK K r0 r1 q0 q1 hlo hsz
        have HXA2 := Lib.hid (show Ext w (w0.alloc (.cells #[U p.fr, U p.up, .slice none 0 0] 42)) from (HX.out.trans hx0).alloc _)
        have HOA := Lib.hid (show (w0.alloc (.cells #[U p.fr, U p.up, .slice none 0 0] 42)).ownsRow w.heap.size 42 3 (.slice va k vcap) k (pcells ((partsN ps).take k)) from by have h := HOk.out.later (hx0.trans ((Ext.refl w0).alloc (.cells #[U p.fr, U p.up, .slice none 0 0] 42))); unfold OwnP at h; rw [HPL.out] at h; exact h)
        have HSRC := Lib.hid (Reads.made w0 3 42 1 (Prt.cells (bareP p)) rfl (by unfold maxLen; omega))
        clear hx0
        refine WR_done (by kernel_rfl) ?_
        (try simp only [List.drop_succ_cons, List.drop_zero])
        go_wp2_with (first
          | (at_builtin
             refine wpList_app rfl (.tmp 16) (.tmp 28) 52 rfl w.heap.size 42 _ 3 32 Try.underlying52 infoPart rfl (by decide) (by decide) _ _ _ rfl HOA.out _ _ _ rfl HSRC.out (fun q hq => pcells_one [bareP p] q (by simpa [pcells] using hq)) (by omega) HXA2.out.size ?_
             intro v9 w9 ho9 hg9
             have HO9 := Lib.hid (show OwnP w9 w.heap.size v9 ((partsN ps).take (k + 1)) from by
               unfold OwnP
               rw [HST.out, List.length_append, HPL.out, pcells_app]
               simpa [pcells] using ho9)
             have HX9 := Lib.hid (Ext.grown HXA2.out hg9 HOA.out (Nat.le_refl _))
             clear ho9 hg9))
        go_roundw
        case rel => exact ⟨k + 1, by omega, by omega, by go_num, HO9.out, HX9.out⟩
        case measure => simp [intOf]; omega
      · have HE := Lib.hid (show (partsN ps).take k = partsN ps by rw [List.take_of_length_le (by have := partsN_len ps; omega)])
        have hkd : decide ((k : Int) < 20) = false := decide_eq_false (by omega)
        have hkn : decide (k < 20) = false := decide_eq_false hlt2
        go_wp2_with fail
        go_ret
        exact ⟨_, rfl, by rw [← HE.out]; exact HOk.out, HX.out⟩
    · have HE := Lib.hid (show (partsN ps).take k = partsN ps by rw [List.take_of_length_le (by unfold partsN; rw [List.length_map, List.length_take]; omega)])
      have hkd : decide ((k : Int) < (ps.length : Int)) = false := decide_eq_false (by omega)
      have hkn : decide (k < ps.length) = false := decide_eq_false hlt
      go_wp2_with fail
      go_ret
      exact ⟨_, rfl, by rw [← HE.out]; exact HOk.out, HX.out⟩
end Go.Proofs.Ythcnihchfkmphaa
