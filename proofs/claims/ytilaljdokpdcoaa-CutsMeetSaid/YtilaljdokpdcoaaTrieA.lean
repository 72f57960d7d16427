/- The trie's small functions: spans and forks. Conditions: whole numbers are within 64 bits. -/
import Derived.Test.YtilaljdokpdcoaaRuls
import Derived.Test.YtilaljdokpdcoaaCommon
import Derived.Test.YtilaljdokpdcoaaTable
namespace Go.Proofs.Ytilaljdokpdcoaa
open Go.RowKit

theorem spanHolds_any (at0 : BitVec 32) (n : Int) (a : BitVec 32) (w : World) (h : In64 n) :
    Calls Try.prog 64 #[.agg #[U at0, I n], U a] w fun e w' => e = .returned (.bool (holdsV at0 n a)) ∧ Ext w w' := by
  go_enter Try.func64, Try.ntmps64
  go_wp2_with (first | (go_at_call 36; refine (holds_any _ _ _ _ h).mono ?_; rintro e w' ⟨rfl, rfl⟩))
  go_ret
  exact ⟨rfl, by (repeat (first | with_reducible exact Ext.refl _ | with_reducible assumption | with_reducible refine Ext.alloc ?_ _ | with_reducible refine Ext.drew ?_ | with_reducible refine Ext.drewN ?_ _ | (with_reducible refine Ext.setCellP ?_ ?_; focus (first | (simp; done) | (simp; omega) | omega))))⟩

def meetN (a : BitVec 32) (m : Int) (b : BitVec 32) (n : Int) : Int := if commonV a b < (if n < m then n else m) then commonV a b else if n < m then n else m
theorem meetN_min (a : BitVec 32) (m : Int) (b : BitVec 32) (n : Int) : meetN a m b n = min (min m n) (commonV a b) := by unfold meetN; omega
def meetA (a : BitVec 32) (m : Int) (b : BitVec 32) (n : Int) : BitVec 32 := a &&& maskV (meetN a m b n)
set_option maxHeartbeats 400000 in
theorem spanMeet_any (a b : BitVec 32) (m n : Int) (w : World) (hm : In64 m) (hn : In64 n) :
    Calls Try.prog 77 #[.agg #[U a, I m], .agg #[U b, I n]] w fun e w' => e = .returned (.agg #[U (meetA a m b n), I (meetN a m b n)]) ∧ Ext w w' := by
  have hc := common_bd a b
  have hN : In64 (meetN a m b n) := by rw [meetN_min]; obtain ⟨h1, h2⟩ := hm; obtain ⟨h3, h4⟩ := hn; unfold In64; omega
  have HN := Lib.hid hN
  clear hN hc
  go_enter Try.func77, Try.ntmps77
  go_wp2_with fail
  refine wp_region_E 10 rfl (by kernel_rfl) (by kernel_rfl) ?_
  refine WE_q 0 rfl (by decide) (by kernel_rfl) rfl ?_; apply Exists.intro; refine ⟨fun w1 hx1 => ?_, ?_⟩
  · have hq1 := hx1.cells; go_simp; try go_bits
    first | with_reducible rfl | (refine (common_any _ _ _).mono ?_; rintro e w' ⟨rfl, rfl⟩; exact ⟨rfl, Ext.refl _⟩)
  simp only [Act.put, List.setIfInBounds_toArray, List.set_cons_zero, List.set_cons_succ]
  refine WE_q 1 rfl (by decide) (by kernel_rfl) rfl ?_; apply Exists.intro; refine ⟨fun w1 hx1 => ?_, ?_⟩
  · have hq1 := hx1.cells; go_simp; try go_bits
    first | with_reducible rfl | (refine (common_any _ _ _).mono ?_; rintro e w' ⟨rfl, rfl⟩; exact ⟨rfl, Ext.refl _⟩)
  simp only [Act.put, List.setIfInBounds_toArray, List.set_cons_zero, List.set_cons_succ]
  refine WE_q 2 rfl (by decide) (by kernel_rfl) rfl ?_; apply Exists.intro; refine ⟨fun w1 hx1 => ?_, ?_⟩
  · have hq1 := hx1.cells; go_simp; try go_bits
    first | with_reducible rfl | (refine (common_any _ _ _).mono ?_; rintro e w' ⟨rfl, rfl⟩; exact ⟨rfl, Ext.refl _⟩)
  simp only [Act.put, List.setIfInBounds_toArray, List.set_cons_zero, List.set_cons_succ]
  refine WE_q 3 rfl (by decide) (by kernel_rfl) rfl ?_; apply Exists.intro; refine ⟨fun w1 hx1 => ?_, ?_⟩
  · have hq1 := hx1.cells; go_simp; try go_bits
    first | with_reducible rfl | (refine (common_any _ _ _).mono ?_; rintro e w' ⟨rfl, rfl⟩; exact ⟨rfl, Ext.refl _⟩)
  simp only [Act.put, List.setIfInBounds_toArray, List.set_cons_zero, List.set_cons_succ]
  refine WE_q 4 rfl (by decide) (by kernel_rfl) rfl ?_; apply Exists.intro; refine ⟨fun w1 hx1 => ?_, ?_⟩
  · have hq1 := hx1.cells; go_simp; try go_bits
    first | with_reducible rfl | (refine (common_any _ _ _).mono ?_; rintro e w' ⟨rfl, rfl⟩; exact ⟨rfl, Ext.refl _⟩)
  simp only [Act.put, List.setIfInBounds_toArray, List.set_cons_zero, List.set_cons_succ]
  refine WE_q 5 rfl (by decide) (by kernel_rfl) rfl ?_; apply Exists.intro; refine ⟨fun w1 hx1 => ?_, ?_⟩
  · have hq1 := hx1.cells; go_simp; try go_bits
    first | with_reducible rfl | (refine (common_any _ _ _).mono ?_; rintro e w' ⟨rfl, rfl⟩; exact ⟨rfl, Ext.refl _⟩)
  simp only [Act.put, List.setIfInBounds_toArray, List.set_cons_zero, List.set_cons_succ]
  refine WE_q 6 rfl (by decide) (by kernel_rfl) rfl ?_; apply Exists.intro; refine ⟨fun w1 hx1 => ?_, ?_⟩
  · have hq1 := hx1.cells; go_simp; try go_bits
    first | with_reducible rfl | (refine (common_any _ _ _).mono ?_; rintro e w' ⟨rfl, rfl⟩; exact ⟨rfl, Ext.refl _⟩)
  simp only [Act.put, List.setIfInBounds_toArray, List.set_cons_zero, List.set_cons_succ]
  refine WE_q 7 rfl (by decide) (by kernel_rfl) rfl ?_; apply Exists.intro; refine ⟨fun w1 hx1 => ?_, ?_⟩
  · have hq1 := hx1.cells; go_simp; try go_bits
    first | with_reducible rfl | (refine (common_any _ _ _).mono ?_; rintro e w' ⟨rfl, rfl⟩; exact ⟨rfl, Ext.refl _⟩)
  simp only [Act.put, List.setIfInBounds_toArray, List.set_cons_zero, List.set_cons_succ]
  refine WE_q 8 rfl (by decide) (by kernel_rfl) rfl ?_; apply Exists.intro; refine ⟨fun w1 hx1 => ?_, ?_⟩
  · have hq1 := hx1.cells; go_simp; try go_bits
    first | with_reducible rfl | (refine (common_any _ _ _).mono ?_; rintro e w' ⟨rfl, rfl⟩; exact ⟨rfl, Ext.refl _⟩)
  simp only [Act.put, List.setIfInBounds_toArray, List.set_cons_zero, List.set_cons_succ]
  refine WE_q 9 rfl (by decide) (by kernel_rfl) rfl ⟨I (meetN a m b n), fun w1 hx1 => ?_, ?_⟩
  · have hq1 := hx1.cells; go_simp; try go_bits
    first | rfl
  simp only [Act.put, List.setIfInBounds_toArray, List.set_cons_zero, List.set_cons_succ]
  refine WE_done (by kernel_rfl) (fun w2 hx2 => ?_)
  (try simp only [List.drop_succ_cons, List.drop_zero])
  have c0 : Blk w2 w.heap.size [U a, I m] 101 := Blk.later (by (repeat (first | with_reducible assumption | (with_reducible refine Blk.newAt _ ?_; focus (first | with_reducible rfl | (simp; done))) | with_reducible refine Blk.old ?_ _ | with_reducible refine Blk.drew ?_))) hx2
  have c1 : Blk w2 (w.heap.size + 1) [U b, I n] 101 := Blk.later (by (repeat (first | with_reducible assumption | (with_reducible refine Blk.newAt _ ?_; focus (first | with_reducible rfl | (simp; done))) | with_reducible refine Blk.old ?_ _ | with_reducible refine Blk.drew ?_))) hx2
  have c2 : Blk w2 (w.heap.size + 1 + 1) [.int .u32 0, I 0] 101 := Blk.later (by (repeat (first | with_reducible assumption | (with_reducible refine Blk.newAt _ ?_; focus (first | with_reducible rfl | (simp; done))) | with_reducible refine Blk.old ?_ _ | with_reducible refine Blk.drew ?_))) hx2
  have hx : Ext w w2 := Ext.trans (by (repeat (first | with_reducible exact Ext.refl _ | with_reducible assumption | with_reducible refine Ext.alloc ?_ _ | with_reducible refine Ext.drew ?_ | with_reducible refine Ext.drewN ?_ _ | (with_reducible refine Ext.setCellP ?_ ?_; focus (first | (simp; done) | (simp; omega) | omega))))) hx2
  clear hx2
  have k0 := c0.keep
  have k1 := c1.keep
  have k2 := c2.keep
  go_wp2_with fail
  refine wp_region_E 7 rfl (by kernel_rfl) (by kernel_rfl) ?_
  refine WE_q 0 rfl (by decide) (by kernel_rfl) rfl ?_; apply Exists.intro; refine ⟨fun w1 hx1 => ?_, ?_⟩
  · have hq1 := hx1.cells; go_simp; try go_bits
    first | with_reducible rfl | (refine (mask_any _ _ HN.out).mono ?_; rintro e w' ⟨rfl, rfl⟩; exact ⟨rfl, Ext.refl _⟩)
  simp only [Act.put, List.setIfInBounds_toArray, List.set_cons_zero, List.set_cons_succ]
  refine WE_q 1 rfl (by decide) (by kernel_rfl) rfl ?_; apply Exists.intro; refine ⟨fun w1 hx1 => ?_, ?_⟩
  · have hq1 := hx1.cells; go_simp; try go_bits
    first | with_reducible rfl | (refine (mask_any _ _ HN.out).mono ?_; rintro e w' ⟨rfl, rfl⟩; exact ⟨rfl, Ext.refl _⟩)
  simp only [Act.put, List.setIfInBounds_toArray, List.set_cons_zero, List.set_cons_succ]
  refine WE_q 2 rfl (by decide) (by kernel_rfl) rfl ?_; apply Exists.intro; refine ⟨fun w1 hx1 => ?_, ?_⟩
  · have hq1 := hx1.cells; go_simp; try go_bits
    first | with_reducible rfl | (refine (mask_any _ _ HN.out).mono ?_; rintro e w' ⟨rfl, rfl⟩; exact ⟨rfl, Ext.refl _⟩)
  simp only [Act.put, List.setIfInBounds_toArray, List.set_cons_zero, List.set_cons_succ]
  refine WE_q 3 rfl (by decide) (by kernel_rfl) rfl ?_; apply Exists.intro; refine ⟨fun w1 hx1 => ?_, ?_⟩
  · have hq1 := hx1.cells; go_simp; try go_bits
    first | with_reducible rfl | (refine (mask_any _ _ HN.out).mono ?_; rintro e w' ⟨rfl, rfl⟩; exact ⟨rfl, Ext.refl _⟩)
  simp only [Act.put, List.setIfInBounds_toArray, List.set_cons_zero, List.set_cons_succ]
  refine WE_q 4 rfl (by decide) (by kernel_rfl) rfl ?_; apply Exists.intro; refine ⟨fun w1 hx1 => ?_, ?_⟩
  · have hq1 := hx1.cells; go_simp; try go_bits
    first | with_reducible rfl | (refine (mask_any _ _ HN.out).mono ?_; rintro e w' ⟨rfl, rfl⟩; exact ⟨rfl, Ext.refl _⟩)
  simp only [Act.put, List.setIfInBounds_toArray, List.set_cons_zero, List.set_cons_succ]
  refine WE_q 5 rfl (by decide) (by kernel_rfl) rfl ?_; apply Exists.intro; refine ⟨fun w1 hx1 => ?_, ?_⟩
  · have hq1 := hx1.cells; go_simp; try go_bits
    first | with_reducible rfl | (refine (mask_any _ _ HN.out).mono ?_; rintro e w' ⟨rfl, rfl⟩; exact ⟨rfl, Ext.refl _⟩)
  simp only [Act.put, List.setIfInBounds_toArray, List.set_cons_zero, List.set_cons_succ]
  refine WE_q 6 rfl (by decide) (by kernel_rfl) rfl ?_; apply Exists.intro; refine ⟨fun w1 hx1 => ?_, ?_⟩
  · have hq1 := hx1.cells; go_simp; try go_bits
    first | with_reducible rfl | (refine (mask_any _ _ HN.out).mono ?_; rintro e w' ⟨rfl, rfl⟩; exact ⟨rfl, Ext.refl _⟩)
  simp only [Act.put, List.setIfInBounds_toArray, List.set_cons_zero, List.set_cons_succ]
  refine WE_done (by kernel_rfl) (fun w3 hx3 => ?_)
  (try simp only [List.drop_succ_cons, List.drop_zero])
  have k3 := (c2.later hx3).cells
  have k4 := (c2.later hx3).frozen
  clear k0 k1 k2
  go_wp2
  refine bodyPost_ret (v := .agg #[U (meetA a m b n), I (meetN a m b n)]) ?_ rfl ⟨rfl, ?_⟩
  · simp [results, Try.results77, go_sem, k3, meetA]
  · have := hx.trans hx3; (repeat (first | with_reducible exact Ext.refl _ | with_reducible assumption | with_reducible refine Ext.alloc ?_ _ | with_reducible refine Ext.drew ?_ | with_reducible refine Ext.drewN ?_ _ | (with_reducible refine Ext.setCellP ?_ ?_; focus (first | (simp; done) | (simp; omega) | omega))))
end Go.Proofs.Ytilaljdokpdcoaa
