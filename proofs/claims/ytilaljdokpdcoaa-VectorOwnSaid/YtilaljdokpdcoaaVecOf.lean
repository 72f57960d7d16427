/- Vectors by the program. Conditions: whole numbers are within 64 bits; a million nodes at most. -/
import Derived.Test.YtilaljdokpdcoaaVecNew
import Derived.Deep.OwnRows
import Derived.Laws.OwnMore
namespace Go.Proofs.Ytilaljdokpdcoaa
open Go.RowKit

/-- A vector half made. -/
def halfV (ls : List (List Rul)) (a : BitVec 32) (k : Nat) : List Int := (vecV ls a).take k ++ List.replicate (ls.length - k) 0
theorem halfV_len {ls : List (List Rul)} {a : BitVec 32} {k : Nat} (h : k ≤ ls.length) : (halfV ls a k).length = ls.length := by
  unfold halfV; rw [List.length_append, List.length_take, vecV_len, List.length_replicate]; omega
theorem halfV_step {ls : List (List Rul)} {a : BitVec 32} {k : Nat} (h : k < ls.length) : (halfV ls a k).set k ((stepO ls[k] a).getD (-1)) = halfV ls a (k + 1) := by
  have hl : ((vecV ls a).take k).length = k := by rw [List.length_take, vecV_len]; omega
  unfold halfV
  rw [vec_step h, List.set_append_right _ _ (by omega), hl, Nat.sub_self, show ls.length - k = (ls.length - (k + 1)) + 1 by omega, List.replicate_succ, List.set_cons_zero, List.append_assoc]
  rfl
theorem halfV_all {ls : List (List Rul)} {a : BitVec 32} : halfV ls a ls.length = vecV ls a := by
  unfold halfV; rw [List.take_of_length_le (by rw [vecV_len]; omega), Nat.sub_self, List.replicate_zero, List.append_nil]
theorem icells_set (l : List Int) (k : Nat) (x : Int) : icells (l.set k x) = (icells l).set k (I x) := List.map_set
theorem halfV_start (ls : List (List Rul)) (a : BitVec 32) : icells (halfV ls a 0) = (madeCells #[I 0] ls.length).toList := by
  unfold halfV icells
  rw [toList_madeCells_one, List.take_zero, List.nil_append, List.map_replicate, Nat.sub_zero]
theorem own_blk {w : World} {b n : Nat} {xs : List Int} (h : Blk w b (icells xs) 3) (hn : xs.length = n) (hm : n ≤ maxLen) : OwnI w b (.slice (some ⟨b, 0, none⟩) n n) xs := by
  subst hn
  refine ⟨by rw [icells_len]; omega, .inr ⟨b, xs.length, (icells xs).toArray, rfl, Nat.le_refl _, h, Nat.le_refl _, hm, ?_, ?_⟩⟩
  · simp [icells_len]
  · rw [Nat.mul_one]; simp only [icells]; exact List.take_of_length_le (by simp)
set_option maxHeartbeats 2000000 in
set_option maxRecDepth 100000 in
theorem vecOf_any (B mb : Nat) (ls : List (List Rul)) (a : BitVec 32) (w : World) (hm : MakerAt w B mb ls) (ht : ∀ l ∈ ls, Tab l) (hn : ls.length ≤ 1000000) :
    Calls Try.prog 20 #[.pointer (some ⟨mb, 0, none⟩), U a] w fun e w' => ∃ v, e = .returned v ∧ OwnI w' w.heap.size v (vecV ls a) ∧ Ext w w' := by
  obtain ⟨hmb, fv, hb, hf⟩ := hm
  obtain ⟨va, vcap, rfl, v1, v2⟩ := hf.form
  have HF := Lib.hid hf
  have HB := Lib.hid hb
  have HT := Lib.hid ht
  have hbc := hb.cells
  have hmk := fun w => run_make_row' (P := Try.prog) 34 3 (I 0) 8 Try.underlying34 infoInt rfl .i64 .i64 ls.length (by omega) (by omega) w
  clear hf hb ht
  unfold maxLen at v2
  go_enter Try.func20, Try.ntmps20
  go_upto_region 2 with (fail)
  refine hideW (Φ := fun W => Code.wp _ _ _ _ W) (fun W => Ext w W ∧ Blk W w.heap.size (icells (halfV ls a 0)) 3)
    ⟨by (repeat (first | with_reducible exact Ext.refl _ | with_reducible assumption | with_reducible refine Ext.alloc ?_ _ | with_reducible refine Ext.drew ?_ | with_reducible refine Ext.drewN ?_ _ | (with_reducible refine Ext.setCellP ?_ ?_; focus (first | (simp; done) | (simp; omega) | omega)))), by rw [halfV_start]; exact Blk.new w (madeCells #[I 0] ls.length).toList 3⟩ (fun W1 hW1 => ?_)
  obtain ⟨hx1, hr1⟩ := hW1
  have HX1 := Lib.hid hx1
  have HR1 := Lib.hid hr1
  have hbc1 := (HB.out.later hx1).cells
  clear hx1 hr1 hbc hmk
  go_wp2_with fail
  go_loopw [6, 7, 8, 9, 21] (fun _ _ _ _ i wr => ∃ k : Nat, k ≤ ls.length ∧ i = I k ∧ Hid (Blk wr w.heap.size (icells (halfV ls a k)) 3) ∧ Hid (Ext w wr)) (fun _ _ _ _ i _ => ls.length - (intOf i).toNat)
  case atStart => exact ⟨0, by omega, rfl, HR1.out, HX1.out⟩
  case round =>
    obtain ⟨k, hk, rfl, HR, HX⟩ := hrel
    by_cases hlt : k < ls.length
    · obtain ⟨fs, hown, hfs⟩ := HF.out
      obtain ⟨tb, tv, bs, hfk, htr⟩ := hfs k ls[k] (List.getElem?_eq_getElem hlt)
      obtain ⟨h0, ad, cap, hv, h2, h3, h4, h5⟩ := Reads.of_own hown
      obtain ⟨rfl, -, rfl⟩ : va = ad ∧ ls.length = ls.length ∧ vcap = cap := by simpa using hv
      obtain ⟨fb, fo, rfl, p0⟩ : ∃ fb fo, va = some ⟨fb, fo, none⟩ ∧ wr.cell? ⟨fb, fo + k, none⟩ = some (findF tb) := by
        cases va with
        | none => have := h4 rfl; omega
        | some b =>
          obtain ⟨e1, e2⟩ := h5 b rfl
          replace e1 : b.spot = none := by
            rcases e1 with e1 | e1
            · exact e1
            · rw [e1] at hfk; cases hfk
          obtain ⟨bb, bo, bs⟩ := b
          simp only at e1
          subst e1
          exact ⟨bb, bo, rfl, HX.out.cell (e2 k _ hfk)⟩
      have HTR := Lib.hid htr
      have HFS := Lib.hid (find_scan (HT.out ls[k] (List.getElem_mem hlt)) a)
      have HST := Lib.hid (halfV_step (a := a) hlt)
      have kc := HR.out.cells
      have kcf := HR.out.frozen
      have klen : k < (icells (halfV ls a k)).length := by rw [icells_len, halfV_len hk]; exact hlt
      obtain ⟨x0, hx0⟩ : ∃ x, (icells (halfV ls a k))[k]? = some x := ⟨_, List.getElem?_eq_getElem klen⟩
      have kck := (kc k).trans hx0
      have KL := Lib.hid klen
      have W := next_way ls[k] a
      clear hown hfs h0 h2 h3 h4 h5 hv hfk htr kc klen hx0
      rcases W with ⟨h, v⟩ | ⟨r, h, n, v⟩ | ⟨r, h, n, v⟩
      · have H := Lib.hid h
        clear h
        go_wp2_with (first
          | (go_at_call 48; (with_reducible refine (trieFind_any _ _ tb _ _ _ a (HTR.out.later (HX.out.setCell (Nat.le_refl _) _))).mono ?_); rintro e w2 ⟨he, hx2⟩; rw [HFS.out, H.out] at he; subst he; have HX2 := Lib.hid (Ext.trans (HX.out.setCell (p := ⟨w.heap.size, k, none⟩) (Nat.le_refl _) (I (-1))) (hx2.alloc (.cells (resR none).cells.toArray 42))); have HR2 := Lib.hid ((HR.out.set k (I (-1))).later (hx2.alloc (.cells (resR none).cells.toArray 42))); have kr := (HR2.out.cells k).trans (List.getElem?_set_self KL.out); have kf := HR2.out.frozen; clear hx2))
        go_roundw
        case rel =>
          refine ⟨k + 1, by omega, by go_num, ?_, HX2.out⟩
          have e := HST.out
          rw [v.out] at e
          show Blk _ _ _ _
          rw [← e, icells_set]
          exact HR2.out
        case measure => simp [intOf]; omega
      · have H := Lib.hid h
        have n2 : ((resR (some r)).act == 1) = false := by simpa using n
        clear h n
        go_wp2_with (first
          | (go_at_call 48; (with_reducible refine (trieFind_any _ _ tb _ _ _ a (HTR.out.later (HX.out.setCell (Nat.le_refl _) _))).mono ?_); rintro e w2 ⟨he, hx2⟩; rw [HFS.out, H.out] at he; subst he; have HX2 := Lib.hid (Ext.trans (HX.out.setCell (p := ⟨w.heap.size, k, none⟩) (Nat.le_refl _) (I (-1))) (hx2.alloc (.cells (resR (some r)).cells.toArray 42))); have HR2 := Lib.hid ((HR.out.set k (I (-1))).later (hx2.alloc (.cells (resR (some r)).cells.toArray 42))); have kr := (HR2.out.cells k).trans (List.getElem?_set_self KL.out); have kf := HR2.out.frozen; clear hx2))
        go_roundw
        case rel =>
          refine ⟨k + 1, by omega, by go_num, ?_, HX2.out⟩
          have e := HST.out
          rw [v.out] at e
          show Blk _ _ _ _
          rw [← e, icells_set]
          exact HR2.out
        case measure => simp [intOf]; omega
      · have H := Lib.hid h
        have n2 : ((resR (some r)).act == 1) = true := by simpa using n
        clear h n
        go_wp2_with (first
          | (go_at_call 48; (with_reducible refine (trieFind_any _ _ tb _ _ _ a (HTR.out.later (HX.out.setCell (Nat.le_refl _) _))).mono ?_); rintro e w2 ⟨he, hx2⟩; rw [HFS.out, H.out] at he; subst he; have HX2 := Lib.hid (Ext.trans (HX.out.setCell (p := ⟨w.heap.size, k, none⟩) (Nat.le_refl _) (I (-1))) (hx2.alloc (.cells (resR (some r)).cells.toArray 42))); have HR2 := Lib.hid ((HR.out.set k (I (-1))).later (hx2.alloc (.cells (resR (some r)).cells.toArray 42))); have kr := (HR2.out.cells k).trans (List.getElem?_set_self KL.out); have kf := HR2.out.frozen; clear hx2))
        go_roundw
        case rel =>
          refine ⟨k + 1, by omega, by go_num, ?_, HX2.out.setCell (Nat.le_refl _) _⟩
          have e := HST.out
          rw [v.out] at e
          have := HR2.out.set k (I r.nx)
          rw [List.set_set] at this
          show Blk _ _ _ _
          rw [← e, icells_set]
          exact this
        case measure => simp [intOf]; omega
    · obtain rfl : k = ls.length := by omega
      have HE := Lib.hid (halfV_all (ls := ls) (a := a))
      go_wp2_with fail
      go_ret
      refine ⟨_, rfl, ?_, HX.out⟩
      have := own_blk HR.out (halfV_len (Nat.le_refl _)) (by unfold maxLen; omega)
      rwa [HE.out] at this
end Go.Proofs.Ytilaljdokpdcoaa
