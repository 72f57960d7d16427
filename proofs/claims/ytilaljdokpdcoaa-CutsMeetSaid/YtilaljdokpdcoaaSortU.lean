/- Sorting a row of numbers of 32 bits in memory: insertion sort, and slices.Sort of at most twelve. Conditions: none. -/
import Derived.Test.YtilaljdokpdcoaaSeqU
import Derived.Test.YtilaljdokpdcoaaShelf
import Derived.Sort.WalkA
import Derived.Sort.LotA
import Derived.Sort.LotD5
import Derived.Sort.AssemblyPlain
namespace Go.Proofs.Ytilaljdokpdcoaa
open Go Go.RowKit Go.Sort Go.Proofs

/-- The row of N cells in block blk holds d from off on; nothing that lay in w0 beside that block has turned. -/
structure Srt (w0 : World) (blk off N : Nat) (d : Array Int) (w : World) : Prop where
  grown : w0.grownBy w (some blk)
  row : ∃ c, w.heap[blk]? = some (.cells c 25 (0, 0)) ∧ c.size = N ∧ ∀ j, j < d.size → c[off + j]? = some (encU d[j]!)
theorem Srt.lt {w0 w : World} {blk off N : Nat} {d : Array Int} (h : Srt w0 blk off N d w) : blk < w.heap.size := by
  obtain ⟨c, h1, _⟩ := h.row
  exact (Array.getElem?_eq_some_iff.1 h1).1
theorem Srt.cell {w0 w : World} {blk off N : Nat} {d : Array Int} (h : Srt w0 blk off N d w) {j : Nat} (hj : j < d.size) : w.cell? ⟨blk, off + j, none⟩ = some (encU d[j]!) := by
  obtain ⟨c, h1, _, h3⟩ := h.row
  simp only [World.cell?, h1]
  simpa using h3 j hj
theorem Srt.frozen {w0 w : World} {blk off N : Nat} {d : Array Int} (h : Srt w0 blk off N d w) (k : Nat) : w.frozen? ⟨blk, k, none⟩ = false := by
  obtain ⟨c, h1, _⟩ := h.row
  simp [World.frozen?, h1]
theorem grown_refl (w : World) (r : Option Nat) : w.grownBy w r := ⟨rfl, rfl, rfl, Nat.le_refl _, fun _ _ _ => rfl⟩
theorem Srt.start {w0 w : World} {blk off N : Nat} {d : Array Int} (h : Srt w0 blk off N d w) : Srt w blk off N d w := ⟨grown_refl _ _, h.row⟩
theorem Srt.drewN {w0 w : World} {blk off N : Nat} {d : Array Int} (h : Srt w0 blk off N d w) (q : Nat) : Srt w0 blk off N d (w.drewN q) := ⟨⟨h.grown.os, h.grown.tape, h.grown.output, h.grown.size, h.grown.block⟩, h.row⟩
theorem Srt.trans {w0 w1 w2 : World} {blk off N : Nat} {d d' : Array Int} (h : Srt w0 blk off N d w1) (k : Srt w1 blk off N d' w2) : Srt w0 blk off N d' w2 := ⟨World.grownBy.trans h.grown k.grown, k.row⟩
theorem Srt.put {w0 w : World} {blk off N : Nat} {d : Array Int} (h : Srt w0 blk off N d w) {i : Nat} (hi : i < d.size) (x : Int) : Srt w0 blk off N (d.setIfInBounds i x) (w.setCell ⟨blk, off + i, none⟩ (encU x)) := by
  refine ⟨World.grownBy.trans h.grown ⟨rfl, rfl, rfl, (KeepsWalks.setCell w _ _).size, fun k _ hk => Below.heap_setCell _ _ _ k (fun e => hk (by rw [e]))⟩, ?_⟩
  obtain ⟨c, h1, h2, h3⟩ := h.row
  refine ⟨c.setIfInBounds (off + i) (encU x), ?_, by rw [Array.size_setIfInBounds]; exact h2, fun j hj => ?_⟩
  · rw [setCell_eq]
    unfold mapBlock
    simp only [Array.getElem?_modify, h1, if_true, Option.map_some, onCells]
  · rw [Array.size_setIfInBounds] at hj
    rw [Array.getElem?_setIfInBounds]
    by_cases hji : i = j
    · subst hji
      rw [if_pos rfl, getElem!_set_same d i x hi, if_pos]
      exact (Array.getElem?_eq_some_iff.1 (h3 i hi)).1
    · rw [if_neg (by omega), getElem!_set_other d i j x (fun e => hji e.symm)]
      exact h3 j hj
theorem Srt.swp {w0 w : World} {blk off N : Nat} {d : Array Int} (h : Srt w0 blk off N d w) {i j : Nat} (hi : i < d.size) (hj : j < d.size) :
    Srt w0 blk off N (swp d i j) ((w.setCell ⟨blk, off + i, none⟩ (encU d[j]!)).setCell ⟨blk, off + j, none⟩ (encU d[i]!)) :=
  (h.put hi _).put (by rw [Array.size_setIfInBounds]; exact hj) _

theorem isNaN_any (x : Int) (w : World) : Calls Try.prog 108 #[encU x] w fun e w' => e = .returned (.bool false) ∧ w' = w := by
  go_enter Try.func108, Try.ntmps108
  go_wp2
  go_ret
  exact ⟨by simp, rfl⟩
theorem lessU_any (x y : Int) (w : World) : Calls Try.prog 96 #[encU x, encU y] w fun e w' => e = .returned (.bool (ltInt x y)) ∧ w' = w := by
  go_enter Try.func96, Try.ntmps96
  go_wp2_with (go_at_call 108; refine (isNaN_any _ _).mono ?_; rintro e w' ⟨rfl, rfl⟩)
  go_ret
  exact ⟨rfl, rfl⟩

def natOf : Value → Nat
  | .int _ q => q.toNat
  | _ => 0
/-- Numbers of the kind. -/
def Fits (d : Array Int) : Prop := ∀ j, j < d.size → 0 ≤ d[j]! ∧ d[j]! < 4294967296

set_option maxHeartbeats 1000000 in
theorem insSort_any (blk off cap N a b : Nat) (d : Array Int) (w : World) (hS : Srt w blk off N d w) (hab : a ≤ b) (hb : b ≤ d.size) (hsz : d.size < 4611686018427387904) :
    Calls Try.prog 90 #[.slice (some ⟨blk, off, none⟩) d.size cap, .int .i64 a, .int .i64 b] w fun e w' =>
      e = .returned (.tuple #[]) ∧ Srt w blk off N (insertionSort ltInt d a b) w' := by
  go_enter Try.func90, Try.ntmps90
  go_wp2
  go_loopw [6] (fun vi wr => ∃ (i : Nat) (dk : Array Int), vi = .int .i64 i ∧ a < i ∧ i ≤ b + 1 ∧ dk.size = d.size ∧ Srt w blk off N dk wr ∧
      Hid (insOuter ltInt a b i dk = insertionSort ltInt d a b)) (fun vi _ => b + 1 - natOf vi)
  case atStart => exact ⟨a + 1, d, by go_num, by omega, by omega, rfl, hS, Lib.hid rfl⟩
  case round =>
    obtain ⟨i, dk, rfl, hai, hib, hsk, hSk, HO⟩ := hrel
    go_wp2
    · have hlt : i < b := by assumption
      go_loopw [7] (fun vj wr2 => ∃ (j : Nat) (dj : Array Int), vj = .int .i64 j ∧ a ≤ j ∧ j ≤ i ∧ dj.size = d.size ∧ Srt w blk off N dj wr2 ∧
          Hid (insInner ltInt a j dj = insInner ltInt a i dk)) (fun vj _ => natOf vj)
      case atStart => exact ⟨i, dk, rfl, by omega, Nat.le_refl _, hsk, hSk, Lib.hid rfl⟩
      case round =>
        obtain ⟨j, dj, rfl, haj, hji, hsj, hSj, HI⟩ := hrel
        obtain ⟨G, hG⟩ : ∃ G : Nat → Int, ∀ t, G t = dj[t]! := ⟨fun t => dj[t]!, fun _ => rfl⟩
        have hcw : ∀ t, t < d.size → wr.cell? ⟨blk, off + t, none⟩ = some (.int .u32 (G t)) := fun t ht => by rw [hG]; exact hSj.cell (by omega)
        have hfw : ∀ t, t < d.size → wr.frozen? ⟨blk, off + t, none⟩ = false := fun t ht => hSj.frozen _
        have HG := Lib.hid hG
        clear hG
        have OUT := Lib.hid (show (j ≤ a ∨ ltInt dj[j]! dj[j - 1]! = false) → ∃ (i' : Nat) (dk' : Array Int), Value.int .i64 ((i : Int) + 1) = .int .i64 (i' : Nat) ∧ a < i' ∧ i' ≤ b + 1 ∧ dk'.size = d.size ∧
            Hid (dk' = dj) ∧ Hid (insOuter ltInt a b i' dk' = insertionSort ltInt d a b) from fun hs =>
          ⟨i + 1, dj, by go_num, by omega, by omega, hsj, Lib.hid rfl, Lib.hid (by rw [← HO.out, insOuter_go _ _ _ _ _ hlt, ← HI.out, insInner_stop _ _ _ _ hs])⟩)
        go_wp2
        by_cases hja : a < j
        · go_quiet (first | (go_at_call 96; refine Calls.quiet_of_same (lessU_any _ _ _)))
          go_wp2
          · have hl : ltInt (G j) (G (j - 1)) = true := by assumption
            go_region
            all_goals go_wp2
            go_roundw
            case rel =>
              refine ⟨j - 1, swp dj j (j - 1), by congr 1; omega, by omega, by omega, by rw [size_swp]; exact hsj, ?_, Lib.hid ?_⟩
              · rw [HG.out, HG.out]
                exact (hSj.drewN _).swp (by omega) (by omega)
              · rw [← HI.out, insInner_go ltInt a j dj hja (by rw [← HG.out, ← HG.out]; exact hl)]
            case measure => simp [natOf]; omega
          · have hl : ltInt (G j) (G (j - 1)) = false := by assumption
            obtain ⟨i', dk', e1, e2, e3, e4, e5, e6⟩ := OUT.out (Or.inr (by rw [← HG.out, ← HG.out]; exact hl))
            go_roundw
            case rel => exact ⟨i', dk', e1, e2, e3, e4, by rw [e5.out]; exact hSj.drewN _, e6⟩
            case measure => simp [natOf]; omega
        · go_quiet (first | (go_at_call 96; refine Calls.quiet_of_same (lessU_any _ _ _)))
          go_wp2
          obtain ⟨i', dk', e1, e2, e3, e4, e5, e6⟩ := OUT.out (Or.inl (by omega))
          go_roundw
          case rel => exact ⟨i', dk', e1, e2, e3, e4, by rw [e5.out]; exact hSj.drewN _, e6⟩
          case measure => simp [natOf]; omega
    · have hge : ¬ i < b := by assumption
      go_end0
      refine ⟨rfl, ?_⟩
      rw [← HO.out, insOuter_stop _ _ _ _ _ hge]
      exact hSk
end Go.Proofs.Ytilaljdokpdcoaa
