/- The cuts within bounds, by the program and by the reference; a network's cuts by the reference. Conditions: whole numbers are within 64 bits; no more rows than the proved part takes. -/
import Derived.Test.YtpfkfboohblgoaaGCuts
namespace Go.Proofs.Ytpfkfboohblgoaa
open Go.RowKit

def insB (lo hi c : BitVec 32) : Bool := decide (uv lo < uv c) && decide (uv c ≤ uv hi)
def insideV (l : List (BitVec 32)) (lo hi : BitVec 32) : List (BitVec 32) := lo :: l.filter (insB lo hi)
theorem insideV_in {l : List (BitVec 32)} {lo hi : BitVec 32} {k : Nat} (h : k < l.length) (hb : insB lo hi l[k] = true) : insideV (l.take (k + 1)) lo hi = insideV (l.take k) lo hi ++ [l[k]] := by
  unfold insideV
  rw [List.take_succ_eq_append_getElem h, List.filter_append, List.cons_append]
  simp [hb]
theorem insideV_out {l : List (BitVec 32)} {lo hi : BitVec 32} {k : Nat} (h : k < l.length) (hb : insB lo hi l[k] = false) : insideV (l.take (k + 1)) lo hi = insideV (l.take k) lo hi := by
  unfold insideV
  rw [List.take_succ_eq_append_getElem h, List.filter_append]
  simp [hb]
theorem insideV_len (l : List (BitVec 32)) (lo hi : BitVec 32) : (insideV l lo hi).length ≤ l.length + 1 := by
  unfold insideV
  rw [List.length_cons]
  have := List.length_filter_le (insB lo hi) l
  omega
theorem insideV_all {l : List (BitVec 32)} {lo hi : BitVec 32} {k : Nat} (h : l.length ≤ k) : insideV (l.take k) lo hi = insideV l lo hi := by rw [List.take_of_length_le h]
theorem own1_at {w : World} (x : BitVec 32) : OwnU (w.alloc (.cells #[U x] 26)) w.heap.size (.slice (some ⟨w.heap.size, 0, none⟩) 1 1) [x] := ownU_made w [x] (by unfold maxLen; simp)
theorem one_U (x : BitVec 32) : ∀ u ∈ [U x], u.oneCell' = true := ucells_one [x]
set_option maxHeartbeats 2000000 in
theorem cutsInside_any (lv : Value) (l : List (BitVec 32)) (lo hi : BitVec 32) (w : World) (hl : UsAt w lv l) (hn : l.length ≤ 100000000) :
    Calls Try.prog 98 #[lv, U lo, U hi] w fun e w' => ∃ v, e = .returned v ∧ OwnU w' w.heap.size v (insideV l lo hi) ∧ Ext w w' := by
  obtain ⟨ad, cap, rfl, a1, a2, a3⟩ := hl.form
  have A3 := Lib.hid a3
  have HS := Lib.hid (own1_at (w := w) lo)
  clear a3 hl
  unfold maxLen at a2
  go_enter Try.func98, Try.ntmps98
  go_wp2_with fail
  go_loopw [7, 14] (fun v i wr => ∃ k : Nat, k ≤ l.length ∧ i = I k ∧ Hid (OwnU wr w.heap.size v (insideV (l.take k) lo hi)) ∧ Hid (Ext w wr)) (fun _ i _ => l.length - (intOf i).toNat)
  case atStart => exact ⟨0, by omega, rfl, HS.out, (Ext.refl w).alloc _⟩
  case round =>
    obtain ⟨k, hk, rfl, HO, HX⟩ := hrel
    by_cases hlt : k < l.length
    · obtain ⟨b0, o0, rfl, p0⟩ := A3.out k l[k] (List.getElem?_eq_getElem hlt)
      replace p0 := HX.out.cell p0
      by_cases h1 : uv lo < uv l[k]
      · have hd1 : decide (uv lo < uv l[k]) = true := decide_eq_true h1
        by_cases h2 : uv l[k] ≤ uv hi
        · have hd2 : decide (uv l[k] ≤ uv hi) = true := decide_eq_true h2
          have HST := Lib.hid (insideV_in hlt (show insB lo hi l[k] = true by unfold insB; rw [hd1, hd2]; rfl))
          have HLEN := Lib.hid (show (insideV (l.take k) lo hi).length ≤ k + 1 by have := insideV_len (l.take k) lo hi; rw [List.length_take] at this; omega)
          have HA := Lib.hid (show Ext w (wr.alloc (.cells #[U l[k]] 26)) from HX.out.alloc _)
          have HOA := Lib.hid (show (wr.alloc (.cells #[U l[k]] 26)).ownsRow w.heap.size 26 1 _ (insideV (l.take k) lo hi).length (ucells (insideV (l.take k) lo hi)) from HO.out.later ((Ext.refl wr).alloc _))
          have HSRC := Lib.hid (show Reads (wr.alloc (.cells #[U l[k]] 26)) 1 (.slice (some ⟨wr.heap.size, 0, none⟩) 1 1) 1 [U l[k]] from (own1_at l[k]).us)
          clear h1 h2 HO
          generalize l[k] = x at *
          go_wp2_with (first
            | (at_builtin; refine wpList_app rfl (.tmp 26) (.tmp 28) 55 rfl w.heap.size 26 _ 1 4 Try.underlying55 infoU32 rfl (by decide) (by decide) _ _ _ rfl HOA.out _ _ _ rfl HSRC.out (one_U _) (by have := HLEN.out; omega) HA.out.size ?_; intro v9 w9 ho9 hg9; have HO9 := Lib.hid ho9; have HX9 := Lib.hid (Ext.grown HA.out hg9 HOA.out (Nat.le_refl _)); clear ho9 hg9))
          go_roundw
          case rel =>
            refine ⟨k + 1, by omega, by go_num, ?_, HX9.out⟩
            show OwnU _ _ _ _
            rw [HST.out]
            unfold OwnU
            rw [List.length_append, ucells_app]
            exact HO9.out
          case measure => simp [intOf]; omega
        · have hd2 : decide (uv l[k] ≤ uv hi) = false := decide_eq_false h2
          have HST := Lib.hid (insideV_out hlt (show insB lo hi l[k] = false by unfold insB; rw [hd1, hd2]; rfl))
          clear h1 h2
          generalize l[k] = x at *
          go_wp2_with fail
          go_roundw
          case rel => exact ⟨k + 1, by omega, by go_num, by show OwnU _ _ _ _; rw [HST.out]; exact HO.out, HX.out⟩
          case measure => simp [intOf]; omega
      · have hd1 : decide (uv lo < uv l[k]) = false := decide_eq_false h1
        have HST := Lib.hid (insideV_out hlt (show insB lo hi l[k] = false by unfold insB; rw [hd1]; rfl))
        clear h1
        generalize l[k] = x at *
        go_wp2_with fail
        go_roundw
        case rel => exact ⟨k + 1, by omega, by go_num, by show OwnU _ _ _ _; rw [HST.out]; exact HO.out, HX.out⟩
        case measure => simp [intOf]; omega
    · have HE := Lib.hid (insideV_all (lo := lo) (hi := hi) (show l.length ≤ k by omega))
      go_wp2_with fail
      go_ret
      exact ⟨_, rfl, by rw [← HE.out]; exact HO.out, HX.out⟩
set_option maxHeartbeats 2000000 in
theorem r12Inside_any (lv : Value) (l : List (BitVec 32)) (lo hi : BitVec 32) (w : World) (hl : UsAt w lv l) (hn : l.length ≤ 100000000) :
    Calls Try.prog 90 #[lv, U lo, U hi] w fun e w' => ∃ v, e = .returned v ∧ OwnU w' w.heap.size v (insideV l lo hi) ∧ Ext w w' := by
  obtain ⟨ad, cap, rfl, a1, a2, a3⟩ := hl.form
  have A3 := Lib.hid a3
  have HS := Lib.hid (own1_at (w := w) lo)
  clear a3 hl
  unfold maxLen at a2
  go_enter Try.func90, Try.ntmps90
  go_wp2_with fail
  go_loopw [7, 8] (fun v i wr => ∃ k : Nat, k ≤ l.length ∧ i = I k ∧ Hid (OwnU wr w.heap.size v (insideV (l.take k) lo hi)) ∧ Hid (Ext w wr)) (fun _ i _ => l.length - (intOf i).toNat)
  case atStart => exact ⟨0, by omega, rfl, HS.out, (Ext.refl w).alloc _⟩
  case round =>
    obtain ⟨k, hk, rfl, HO, HX⟩ := hrel
    by_cases hlt : k < l.length
    · obtain ⟨b0, o0, rfl, p0⟩ := A3.out k l[k] (List.getElem?_eq_getElem hlt)
      replace p0 := HX.out.cell p0
      by_cases h1 : uv lo < uv l[k]
      · have hd1 : decide (uv lo < uv l[k]) = true := decide_eq_true h1
        by_cases h2 : uv l[k] ≤ uv hi
        · have hd2 : decide (uv l[k] ≤ uv hi) = true := decide_eq_true h2
          have HST := Lib.hid (insideV_in hlt (show insB lo hi l[k] = true by unfold insB; rw [hd1, hd2]; rfl))
          have HLEN := Lib.hid (show (insideV (l.take k) lo hi).length ≤ k + 1 by have := insideV_len (l.take k) lo hi; rw [List.length_take] at this; omega)
          have HA := Lib.hid (show Ext w (wr.alloc (.cells #[U l[k]] 26)) from HX.out.alloc _)
          have HOA := Lib.hid (show (wr.alloc (.cells #[U l[k]] 26)).ownsRow w.heap.size 26 1 _ (insideV (l.take k) lo hi).length (ucells (insideV (l.take k) lo hi)) from HO.out.later ((Ext.refl wr).alloc _))
          have HSRC := Lib.hid (show Reads (wr.alloc (.cells #[U l[k]] 26)) 1 (.slice (some ⟨wr.heap.size, 0, none⟩) 1 1) 1 [U l[k]] from (own1_at l[k]).us)
          clear h1 h2 HO
          generalize l[k] = x at *
          go_wp2_with (first
            | (at_builtin; refine wpList_app rfl (.tmp 31) (.tmp 36) 55 rfl w.heap.size 26 _ 1 4 Try.underlying55 infoU32 rfl (by decide) (by decide) _ _ _ rfl HOA.out _ _ _ rfl HSRC.out (one_U _) (by have := HLEN.out; omega) HA.out.size ?_; intro v9 w9 ho9 hg9; have HO9 := Lib.hid ho9; have HX9 := Lib.hid (Ext.grown HA.out hg9 HOA.out (Nat.le_refl _)); clear ho9 hg9))
          go_roundw
          case rel =>
            refine ⟨k + 1, by omega, by go_num, ?_, HX9.out⟩
            show OwnU _ _ _ _
            rw [HST.out]
            unfold OwnU
            rw [List.length_append, ucells_app]
            exact HO9.out
          case measure => simp [intOf]; omega
        · have hd2 : decide (uv l[k] ≤ uv hi) = false := decide_eq_false h2
          have HST := Lib.hid (insideV_out hlt (show insB lo hi l[k] = false by unfold insB; rw [hd1, hd2]; rfl))
          clear h1 h2
          generalize l[k] = x at *
          go_wp2_with fail
          go_roundw
          case rel => exact ⟨k + 1, by omega, by go_num, by show OwnU _ _ _ _; rw [HST.out]; exact HO.out, HX.out⟩
          case measure => simp [intOf]; omega
      · have hd1 : decide (uv lo < uv l[k]) = false := decide_eq_false h1
        have HST := Lib.hid (insideV_out hlt (show insB lo hi l[k] = false by unfold insB; rw [hd1]; rfl))
        clear h1
        generalize l[k] = x at *
        go_wp2_with fail
        go_roundw
        case rel => exact ⟨k + 1, by omega, by go_num, by show OwnU _ _ _ _; rw [HST.out]; exact HO.out, HX.out⟩
        case measure => simp [intOf]; omega
    · have HE := Lib.hid (insideV_all (lo := lo) (hi := hi) (show l.length ≤ k by omega))
      go_wp2_with fail
      go_ret
      exact ⟨_, rfl, by rw [← HE.out]; exact HO.out, HX.out⟩
/-- A rising row of these numbers. -/
def CutsS (S : List Int) (l : List (BitVec 32)) : Prop := Rising l ∧ ∀ c : BitVec 32, c ∈ l ↔ uv c ∈ S
theorem CutsS.put {S : List Int} {l : List (BitVec 32)} (h : CutsS S l) (x : BitVec 32) : CutsS (S ++ [uv x]) (putC l x) :=
  ⟨putC_rising h.1 x, fun c => by
    rw [putC_mem, h.2, List.mem_append, List.mem_singleton]
    exact ⟨fun g => g.imp id (congrArg uv), fun g => g.imp id uv_inj⟩⟩
theorem CutsS.len {S : List Int} {l : List (BitVec 32)} (h : CutsS S l) : l.length ≤ S.length := by
  have := len_sub (l.map uv) S h.1.nodup fun x hx => by
    obtain ⟨c, hc, rfl⟩ := List.mem_map.1 hx
    exact (h.2 c).1 hc
  simpa using this
theorem CutsS.start : CutsS (cutI []) [0#32] := ⟨by simp [Rising], fun c => by
  simp only [cutI, List.flatMap_nil, List.mem_singleton]
  exact ⟨fun h => by rw [h]; rfl, fun h => uv_inj (by rw [h]; rfl)⟩⟩
set_option maxHeartbeats 4000000 in
set_option maxRecDepth 100000 in
theorem r12Of_any (lv : Value) (ls : List (List Rul)) (w : World) (hl : TablesAt w lv ls) (hok : TablesOk ls) (hs : sizeN ls ≤ 10000000) :
    Calls Try.prog 64 #[.agg #[lv]] w fun e w' => ∃ v l, e = .returned v ∧ UsAt w' v l ∧ Cuts ls.flatten l ∧ Ext w w' := by
  have HLT := Lib.hid (show (cutI ls.flatten).length ≤ 20000001 by have := cutI_len ls.flatten; rw [sizeN_flat] at this; omega)
  have HOK := Lib.hid hok
  obtain ⟨ad, cap, rfl, a1, a2, a3⟩ := hl.form
  have A3 := Lib.hid a3
  clear a3 hok hl
  unfold maxLen at a2
  have HU0 := Lib.hid (show UsAt ((w.alloc (.cells #[.slice ad ls.length cap] 24)).alloc (.cells #[.int .u32 0] 26)) (.slice (some ⟨w.heap.size + 1, 0, none⟩) 1 1) [0#32] from by
    have h := us_made (w.alloc (.cells #[.slice ad ls.length cap] 24)) [0#32] (by unfold maxLen; simp)
    have e : (w.alloc (.cells #[.slice ad ls.length cap] 24)).heap.size = w.heap.size + 1 := by simp
    rw [e] at h
    exact h)
  go_enter Try.func64, Try.ntmps64
  go_upto_region 2 with (fail)
  refine hideW (Φ := fun W => Code.wp _ _ _ _ W) (fun W => Ext w W ∧ Blk W w.heap.size [.slice ad ls.length cap] 24 ∧ UsAt W (.slice (some ⟨w.heap.size + 1, 0, none⟩) 1 1) [0#32])
    ⟨by (repeat (first | with_reducible exact Ext.refl _ | with_reducible assumption | with_reducible refine Ext.alloc ?_ _ | with_reducible refine Ext.drew ?_ | with_reducible refine Ext.drewN ?_ _ | (with_reducible refine Ext.setCellP ?_ ?_; focus (first | (simp; done) | (simp; omega) | omega)))), (Blk.new w [.slice ad ls.length cap] 24).old _, HU0.out⟩ (fun W1 hW1 => ?_)
  obtain ⟨hx1, hb1, hu1⟩ := hW1
  have HX1 := Lib.hid hx1
  have HB1 := Lib.hid hb1
  have HU1 := Lib.hid hu1
  clear hx1 hb1 hu1 HU0
  generalize w.heap.size = nb at *
  go_wp2_with fail
  go_loopw [3, 4] (fun v i wr => ∃ (k : Nat) (l : List (BitVec 32)), k ≤ ls.length ∧ i = I k ∧ Hid (UsAt wr v l) ∧ Hid (CutsS (cutI (ls.take k).flatten) l) ∧ Hid (Ext W1 wr)) (fun _ i _ => ls.length - (intOf i).toNat)
  case atStart => exact ⟨0, [0#32], by omega, rfl, HU1.out, CutsS.start, Ext.refl _⟩
  case round =>
    obtain ⟨k, l, hk, rfl, HU, HC, HX⟩ := hrel
    have hbc := (HB1.out.later HX.out).cells
    by_cases hlt : k < ls.length
    · obtain ⟨b0, o0, u, rfl, p0, hru⟩ := A3.out k ls[k] (List.getElem?_eq_getElem hlt)
      obtain ⟨ra, rcap, rfl, r1, r2, r3⟩ := hru.form
      have R3 := Lib.hid r3
      have HP := Lib.hid p0
      have HO1 := Lib.hid (HOK.out.at hlt)
      clear r3 hru p0
      unfold maxLen at r2
      obtain ⟨wo, rfl⟩ : ∃ wo : World, wo = wr := ⟨_, rfl⟩
      go_wp2_with fail
      go_loopw [3, 5] (fun v i wq => ∃ (j : Nat) (l : List (BitVec 32)), j ≤ ls[k].length ∧ i = I j ∧ Hid (UsAt wq v l) ∧ Hid (CutsS (cutI ((ls.take k).flatten ++ ls[k].take j)) l) ∧ Hid (Ext W1 wq)) (fun _ i _ => ls[k].length - (intOf i).toNat)
      case atStart => exact ⟨0, l, by omega, rfl, HU.out, Lib.hid (by simpa using HC.out), HX.out⟩
      case round =>
        obtain ⟨j, z, hj, rfl, HUj, HCj, HXj⟩ := hrel
        have hbcj := (HB1.out.later HXj.out).cells
        have hp0 := (HX1.out.trans HXj.out).cell HP.out
        by_cases hjl : j < ls[k].length
        · have HLEN := Lib.hid (cutI_part hlt hjl)
          have HZL := Lib.hid HCj.out.len
          obtain ⟨b1, o1, rfl, q0, q1, q2, q3⟩ := R3.out j ls[k][j] (List.getElem?_eq_getElem hjl)
          have kb := (HB1.out.later HXj.out).keep
          replace hp0 := Ext.keep hp0
          replace q0 := Ext.keep ((HX1.out.trans HXj.out).cell q0)
          replace q1 := Ext.keep ((HX1.out.trans HXj.out).cell q1)
          clear q2 q3 hbcj hbc
          have HOK1 := Lib.hid (HO1.out ls[k][j] (List.getElem_mem hjl)).pl
          have HST := Lib.hid (show cutI ((ls.take k).flatten ++ ls[k].take (j + 1)) = cutI ((ls.take k).flatten ++ ls[k].take j) ++ rcut ls[k][j] by rw [List.take_succ_eq_append_getElem hjl, ← List.append_assoc, cutI_app])
          have HRC := Lib.hid (show rcut ls[k][j] = uv (lowV ls[k][j].pa ls[k][j].pl) :: (if uv (highV ls[k][j].pa ls[k][j].pl) = 4294967295 then [] else [uv (highV ls[k][j].pa ls[k][j].pl) + 1]) from rfl)
          have HEC := Lib.hid (show ∀ W, Calls Try.prog 100 #[U ls[k][j].pa, I ls[k][j].pl] W fun e w' => e = .returned (.tuple #[U (lowV ls[k][j].pa ls[k][j].pl), U (highV ls[k][j].pa ls[k][j].pl)]) ∧ W = w' from fun W => r06Ends_any _ _ _ HOK1.out)
          go_wp2_with fail
          refine wp_region_E 23 rfl (by kernel_rfl) (by kernel_rfl) ?_
          refine WE_q 0 rfl (by decide) (by kernel_rfl) rfl ?_; apply Exists.intro; refine ⟨fun w1 hx1 => ?_, ?_⟩
          · have hq1 := hx1.cells; go_simp; try go_bits
            first | with_reducible rfl | (refine (HEC.out _).mono ?_; rintro e w' ⟨rfl, rfl⟩; exact ⟨rfl, Ext.refl _⟩)
          simp only [Act.put, List.setIfInBounds_toArray, List.set_cons_zero, List.set_cons_succ]
          refine WE_q 1 rfl (by decide) (by kernel_rfl) rfl ?_; apply Exists.intro; refine ⟨fun w1 hx1 => ?_, ?_⟩
          · have hq1 := hx1.cells; go_simp; try go_bits
            first | with_reducible rfl | (refine (HEC.out _).mono ?_; rintro e w' ⟨rfl, rfl⟩; exact ⟨rfl, Ext.refl _⟩)
          simp only [Act.put, List.setIfInBounds_toArray, List.set_cons_zero, List.set_cons_succ]
          refine WE_q 2 rfl (by decide) (by kernel_rfl) rfl ?_; apply Exists.intro; refine ⟨fun w1 hx1 => ?_, ?_⟩
          · have hq1 := hx1.cells; go_simp; try go_bits
            first | with_reducible rfl | (refine (HEC.out _).mono ?_; rintro e w' ⟨rfl, rfl⟩; exact ⟨rfl, Ext.refl _⟩)
          simp only [Act.put, List.setIfInBounds_toArray, List.set_cons_zero, List.set_cons_succ]
          refine WE_q 3 rfl (by decide) (by kernel_rfl) rfl ?_; apply Exists.intro; refine ⟨fun w1 hx1 => ?_, ?_⟩
          · have hq1 := hx1.cells; go_simp; try go_bits
            first | with_reducible rfl | (refine (HEC.out _).mono ?_; rintro e w' ⟨rfl, rfl⟩; exact ⟨rfl, Ext.refl _⟩)
          simp only [Act.put, List.setIfInBounds_toArray, List.set_cons_zero, List.set_cons_succ]
          refine WE_q 4 rfl (by decide) (by kernel_rfl) rfl ?_; apply Exists.intro; refine ⟨fun w1 hx1 => ?_, ?_⟩
          · have hq1 := hx1.cells; go_simp; try go_bits
            first | with_reducible rfl | (refine (HEC.out _).mono ?_; rintro e w' ⟨rfl, rfl⟩; exact ⟨rfl, Ext.refl _⟩)
          simp only [Act.put, List.setIfInBounds_toArray, List.set_cons_zero, List.set_cons_succ]
          refine WE_q 5 rfl (by decide) (by kernel_rfl) rfl ?_; apply Exists.intro; refine ⟨fun w1 hx1 => ?_, ?_⟩
          · have hq1 := hx1.cells; go_simp; try go_bits
            first | with_reducible rfl | (refine (HEC.out _).mono ?_; rintro e w' ⟨rfl, rfl⟩; exact ⟨rfl, Ext.refl _⟩)
          simp only [Act.put, List.setIfInBounds_toArray, List.set_cons_zero, List.set_cons_succ]
          refine WE_q 6 rfl (by decide) (by kernel_rfl) rfl ?_; apply Exists.intro; refine ⟨fun w1 hx1 => ?_, ?_⟩
          · have hq1 := hx1.cells; go_simp; try go_bits
            first | with_reducible rfl | (refine (HEC.out _).mono ?_; rintro e w' ⟨rfl, rfl⟩; exact ⟨rfl, Ext.refl _⟩)
          simp only [Act.put, List.setIfInBounds_toArray, List.set_cons_zero, List.set_cons_succ]
          refine WE_q 7 rfl (by decide) (by kernel_rfl) rfl ?_; apply Exists.intro; refine ⟨fun w1 hx1 => ?_, ?_⟩
          · have hq1 := hx1.cells; go_simp; try go_bits
            first | with_reducible rfl | (refine (HEC.out _).mono ?_; rintro e w' ⟨rfl, rfl⟩; exact ⟨rfl, Ext.refl _⟩)
          simp only [Act.put, List.setIfInBounds_toArray, List.set_cons_zero, List.set_cons_succ]
          refine WE_q 8 rfl (by decide) (by kernel_rfl) rfl ?_; apply Exists.intro; refine ⟨fun w1 hx1 => ?_, ?_⟩
          · have hq1 := hx1.cells; go_simp; try go_bits
            first | with_reducible rfl | (refine (HEC.out _).mono ?_; rintro e w' ⟨rfl, rfl⟩; exact ⟨rfl, Ext.refl _⟩)
          simp only [Act.put, List.setIfInBounds_toArray, List.set_cons_zero, List.set_cons_succ]
          refine WE_q 9 rfl (by decide) (by kernel_rfl) rfl ?_; apply Exists.intro; refine ⟨fun w1 hx1 => ?_, ?_⟩
          · have hq1 := hx1.cells; go_simp; try go_bits
            first | with_reducible rfl | (refine (HEC.out _).mono ?_; rintro e w' ⟨rfl, rfl⟩; exact ⟨rfl, Ext.refl _⟩)
          simp only [Act.put, List.setIfInBounds_toArray, List.set_cons_zero, List.set_cons_succ]
          refine WE_q 10 rfl (by decide) (by kernel_rfl) rfl ?_; apply Exists.intro; refine ⟨fun w1 hx1 => ?_, ?_⟩
          · have hq1 := hx1.cells; go_simp; try go_bits
            first | with_reducible rfl | (refine (HEC.out _).mono ?_; rintro e w' ⟨rfl, rfl⟩; exact ⟨rfl, Ext.refl _⟩)
          simp only [Act.put, List.setIfInBounds_toArray, List.set_cons_zero, List.set_cons_succ]
          refine WE_q 11 rfl (by decide) (by kernel_rfl) rfl ?_; apply Exists.intro; refine ⟨fun w1 hx1 => ?_, ?_⟩
          · have hq1 := hx1.cells; go_simp; try go_bits
            first | with_reducible rfl | (refine (HEC.out _).mono ?_; rintro e w' ⟨rfl, rfl⟩; exact ⟨rfl, Ext.refl _⟩)
          simp only [Act.put, List.setIfInBounds_toArray, List.set_cons_zero, List.set_cons_succ]
          refine WE_q 12 rfl (by decide) (by kernel_rfl) rfl ?_; apply Exists.intro; refine ⟨fun w1 hx1 => ?_, ?_⟩
          · have hq1 := hx1.cells; go_simp; try go_bits
            first | with_reducible rfl | (refine (HEC.out _).mono ?_; rintro e w' ⟨rfl, rfl⟩; exact ⟨rfl, Ext.refl _⟩)
          simp only [Act.put, List.setIfInBounds_toArray, List.set_cons_zero, List.set_cons_succ]
          refine WE_q 13 rfl (by decide) (by kernel_rfl) rfl ?_; apply Exists.intro; refine ⟨fun w1 hx1 => ?_, ?_⟩
          · have hq1 := hx1.cells; go_simp; try go_bits
            first | with_reducible rfl | (refine (HEC.out _).mono ?_; rintro e w' ⟨rfl, rfl⟩; exact ⟨rfl, Ext.refl _⟩)
          simp only [Act.put, List.setIfInBounds_toArray, List.set_cons_zero, List.set_cons_succ]
          refine WE_q 14 rfl (by decide) (by kernel_rfl) rfl ?_; apply Exists.intro; refine ⟨fun w1 hx1 => ?_, ?_⟩
          · have hq1 := hx1.cells; go_simp; try go_bits
            first | with_reducible rfl | (refine (HEC.out _).mono ?_; rintro e w' ⟨rfl, rfl⟩; exact ⟨rfl, Ext.refl _⟩)
          simp only [Act.put, List.setIfInBounds_toArray, List.set_cons_zero, List.set_cons_succ]
          refine WE_q 15 rfl (by decide) (by kernel_rfl) rfl ?_; apply Exists.intro; refine ⟨fun w1 hx1 => ?_, ?_⟩
          · have hq1 := hx1.cells; go_simp; try go_bits
            first | with_reducible rfl | (refine (HEC.out _).mono ?_; rintro e w' ⟨rfl, rfl⟩; exact ⟨rfl, Ext.refl _⟩)
          simp only [Act.put, List.setIfInBounds_toArray, List.set_cons_zero, List.set_cons_succ]
          refine WE_q 16 rfl (by decide) (by kernel_rfl) rfl ?_; apply Exists.intro; refine ⟨fun w1 hx1 => ?_, ?_⟩
          · have hq1 := hx1.cells; go_simp; try go_bits
            first | with_reducible rfl | (refine (HEC.out _).mono ?_; rintro e w' ⟨rfl, rfl⟩; exact ⟨rfl, Ext.refl _⟩)
          simp only [Act.put, List.setIfInBounds_toArray, List.set_cons_zero, List.set_cons_succ]
          refine WE_q 17 rfl (by decide) (by kernel_rfl) rfl ?_; apply Exists.intro; refine ⟨fun w1 hx1 => ?_, ?_⟩
          · have hq1 := hx1.cells; go_simp; try go_bits
            first | with_reducible rfl | (refine (HEC.out _).mono ?_; rintro e w' ⟨rfl, rfl⟩; exact ⟨rfl, Ext.refl _⟩)
          simp only [Act.put, List.setIfInBounds_toArray, List.set_cons_zero, List.set_cons_succ]
          refine WE_q 18 rfl (by decide) (by kernel_rfl) rfl ?_; apply Exists.intro; refine ⟨fun w1 hx1 => ?_, ?_⟩
          · have hq1 := hx1.cells; go_simp; try go_bits
            first | with_reducible rfl | (refine (HEC.out _).mono ?_; rintro e w' ⟨rfl, rfl⟩; exact ⟨rfl, Ext.refl _⟩)
          simp only [Act.put, List.setIfInBounds_toArray, List.set_cons_zero, List.set_cons_succ]
          refine WE_q 19 rfl (by decide) (by kernel_rfl) rfl ?_; apply Exists.intro; refine ⟨fun w1 hx1 => ?_, ?_⟩
          · have hq1 := hx1.cells; go_simp; try go_bits
            first | with_reducible rfl | (refine (HEC.out _).mono ?_; rintro e w' ⟨rfl, rfl⟩; exact ⟨rfl, Ext.refl _⟩)
          simp only [Act.put, List.setIfInBounds_toArray, List.set_cons_zero, List.set_cons_succ]
          refine WE_q 20 rfl (by decide) (by kernel_rfl) rfl ?_; apply Exists.intro; refine ⟨fun w1 hx1 => ?_, ?_⟩
          · have hq1 := hx1.cells; go_simp; try go_bits
            first | with_reducible rfl | (refine (HEC.out _).mono ?_; rintro e w' ⟨rfl, rfl⟩; exact ⟨rfl, Ext.refl _⟩)
          simp only [Act.put, List.setIfInBounds_toArray, List.set_cons_zero, List.set_cons_succ]
          refine WE_q 21 rfl (by decide) (by kernel_rfl) rfl ?_; apply Exists.intro; refine ⟨fun w1 hx1 => ?_, ?_⟩
          · have hq1 := hx1.cells; go_simp; try go_bits
            first | with_reducible rfl | (refine (HEC.out _).mono ?_; rintro e w' ⟨rfl, rfl⟩; exact ⟨rfl, Ext.refl _⟩)
          simp only [Act.put, List.setIfInBounds_toArray, List.set_cons_zero, List.set_cons_succ]
          refine WE_q 22 rfl (by decide) (by kernel_rfl) rfl ?_; apply Exists.intro; refine ⟨fun w1 hx1 => ?_, ?_⟩
          · have hq1 := hx1.cells; go_simp; try go_bits
            first | with_reducible rfl | (refine (HEC.out _).mono ?_; rintro e w' ⟨rfl, rfl⟩; exact ⟨rfl, Ext.refl _⟩)
          simp only [Act.put, List.setIfInBounds_toArray, List.set_cons_zero, List.set_cons_succ]
          refine WE_done (by kernel_rfl) (fun w8 hx8 => ?_)
          (try simp only [List.drop_succ_cons, List.drop_zero])
          clear kb hp0 q0 q1
          have HX8 := Lib.hid (HXj.out.trans hx8)
          have HU8 := Lib.hid (HUj.out.later hx8)
          clear hx8
          have HLT2 := Lib.hid (show z.length + (rcut ls[k][j]).length ≤ 20000001 by have h1 := HLEN.out; have h2 := HZL.out; have h3 := HLT.out; omega)
          clear HLEN HZL
          generalize hS : cutI ((ls.take k).flatten ++ ls[k].take j) = S at *
          clear hS
          generalize rcut ls[k][j] = rc at *
          generalize lowV ls[k][j].pa ls[k][j].pl = lo at *
          generalize highV ls[k][j].pa ls[k][j].pl = hi at *
          have HN1 := Lib.hid (show z.length ≤ 100000000 by have := HLT2.out; omega)
          have HN2 := Lib.hid (show (putC z lo).length ≤ 100000000 by have h1 := HLT2.out; have h2 := putC_len z lo; omega)
          have HP1 := Lib.hid (HCj.out.put lo)
          by_cases ht : uv hi = 4294967295
          · have ht1 : (hi != 4294967295#32) = false := by rw [bne_eq_false_iff_eq]; exact uv_inj (by rw [ht]; rfl)
            have ht2 : (uv hi != 4294967295) = false := by simpa using ht
            have HRC' := Lib.hid (show rc = [uv lo] by rw [HRC.out, if_pos ht])
            clear ht
            go_wp2_with (first
              | (go_at_call 83; (with_reducible refine (r12Put_any _ z lo _ HU8.out HN1.out).mono ?_); rintro e w9 ⟨v9, rfl, hu9, hx9⟩; have HU9 := Lib.hid hu9; have HX9 := Lib.hid (HX8.out.trans hx9); clear hu9 hx9))
            go_roundw
            case rel =>
              refine ⟨j + 1, putC z lo, by omega, by go_num, HU9.out, ?_, HX9.out⟩
              show CutsS _ _
              rw [HST.out, HRC'.out]
              exact HP1.out
            case measure => simp [intOf]; omega
          · have ht1 : (hi != 4294967295#32) = true := by rw [bne_iff_ne]; intro e; exact ht (by rw [e]; rfl)
            have ht2 : (uv hi != 4294967295) = true := by simpa using ht
            have HRC' := Lib.hid (show rc = [uv lo, uv hi + 1] by rw [HRC.out, if_neg ht])
            have HP2 := Lib.hid (HP1.out.put (hi + 1#32))
            have HI := Lib.hid (uv_inc ht)
            clear ht
            go_wp2_with (first
              | (go_at_call 83; (with_reducible refine (r12Put_any _ z lo _ HU8.out HN1.out).mono ?_); rintro e w9 ⟨v9, rfl, hu9, hx9⟩; have HU9 := Lib.hid hu9; have HX9 := Lib.hid (HX8.out.trans hx9); clear hu9 hx9)
              | (go_at_call 83; (with_reducible refine (r12Put_any _ (putC z lo) (hi + 1#32) _ HU9.out HN2.out).mono ?_); rintro e w10 ⟨v10, rfl, hu10, hx10⟩; have HU10 := Lib.hid hu10; have HX10 := Lib.hid (HX9.out.trans hx10); clear hu10 hx10))
            go_roundw
            case rel =>
              refine ⟨j + 1, putC (putC z lo) (hi + 1#32), by omega, by go_num, HU10.out, ?_, HX10.out⟩
              show CutsS _ _
              have := HP2.out
              rw [HI.out, List.append_assoc] at this
              rw [HST.out, HRC'.out]
              exact this
            case measure => simp [intOf]; omega
        · have hje : j = ls[k].length := by omega
          have HE := Lib.hid (show (ls.take k).flatten ++ ls[k].take j = (ls.take (k + 1)).flatten by rw [hje, flat_step hlt, List.take_of_length_le (Nat.le_refl _)])
          have hjd : decide ((j : Int) < (ls[k].length : Int)) = false := decide_eq_false (by omega)
          have hjn : decide (j < ls[k].length) = false := decide_eq_false hjl
          clear hje
          go_wp2_with fail
          go_roundw
          case rel => exact ⟨k + 1, z, by omega, by go_num, HUj.out, by show CutsS _ _; rw [← HE.out]; exact HCj.out, HXj.out⟩
          case measure => simp [intOf]; omega
    · have HE := Lib.hid (show ls.take k = ls by rw [List.take_of_length_le (by omega)])
      have hkd : decide ((k : Int) < (ls.length : Int)) = false := decide_eq_false (by omega)
      have hkn : decide (k < ls.length) = false := decide_eq_false hlt
      go_wp2_with fail
      go_ret
      refine ⟨_, l, rfl, HU.out, ?_, HX1.out.trans HX.out⟩
      have := HC.out
      rw [HE.out] at this
      exact this
end Go.Proofs.Ytpfkfboohblgoaa
