/- SndL, SndW, FewYW, ShLW, ToolSnd: these texts in one. Conditions: each part names its own. -/
import Derived.Test.YtdpmnldmbnpfpaaGreatDoorGTool
import Derived.Test.YtdpmnldmbnpfpaaGreatDoorGAnaH
import Derived.Test.YtdpmnldmbnpfpaaGreatDoorGNetW
import Derived.Test.YtdpmnldmbnpfpaaGreatDoorOfOwn
import Derived.Test.YtdpmnldmbnpfpaaGreatDoorGRule
import Derived.Test.YtdpmnldmbnpfpaaGreatDoorGByt
import Derived.Test.YtdpmnldmbnpfpaaGreatDoorGExp
import Derived.Test.YtdpmnldmbnpfpaaGreatDoorGNPt
import Derived.Test.YtdpmnldmbnpfpaaGreatDoorGTop
/- Plain laws for the tool's statements: what is told of two rows of bytes is so; an error is never nought. Conditions: none. -/
namespace Go.Proofs.YtdpmnldmbnpfpaaGreatDoor
open Go Go.RowKit Go.Maps Go.Proofs

/-- An error is never nought. -/
def NZ {α : Type} (x : Except Int α) : Prop := ∀ z, x = .error z -> z ≠ 0
theorem NZ.ok {α : Type} (y : α) : NZ (.ok y : Except Int α) := fun z h => by cases h
theorem NZ.err {α : Type} {z : Int} (h : z ≠ 0) : NZ (.error z : Except Int α) := fun y e => by cases e; exact h
theorem bindE_nz {α β : Type} {x : Except Int α} {f : α -> Except Int β} (hx : NZ x) (hf : ∀ y, NZ (f y)) : NZ (bindE x f) := by
 cases x with
 | error e => exact NZ.err (hx e rfl)
 | ok y => exact hf y
theorem takeNs_nz {α : Type} {one : List Byt -> Except Int (α × List Byt)} (h : ∀ b, NZ (one b)) : ∀ (n : Nat) (b : List Byt), NZ (takeNs one n b)
 | 0, b => NZ.ok _
 | n + 1, b => by
   unfold takeNs
   exact bindE_nz (h b) fun y => bindE_nz (takeNs_nz h n y.2) fun _ => NZ.ok _
theorem takeAllL_nz {α : Type} {one : List Byt -> Except Int (α × List Byt)} (h : ∀ b, NZ (one b)) (n : Nat) (b : List Byt) : NZ (takeAllL one n b) := by
 unfold takeAllL
 split
 · rename_i h1; exact NZ.err h1
 · split
   · exact NZ.err (by decide)
   · refine bindE_nz (takeNs_nz h _ _) fun p => ?_
     split
     · exact NZ.err (by decide)
     · exact NZ.ok _
theorem ruleOne_nz (b : List Byt) : NZ (ruleOne b) := by
 unfold ruleOne
 split
 · exact NZ.err (by decide)
 · exact NZ.ok _
theorem openL_nz (t : Byt) (b : List Byt) : NZ (openL t b) := by
 unfold openL
 repeat' split
 all_goals first
  | exact NZ.ok _
  | exact NZ.err (by decide)
  | exact NZ.err (by assumption)
theorem nodeOne_nz (b : List Byt) : NZ (nodeOne b) := by
 unfold nodeOne
 exact bindE_nz (openL_nz _ _) fun q => bindE_nz (takeAllL_nz ruleOne_nz _ _) fun l => NZ.ok _
theorem netTake_nz (b : List Byt) : NZ (netTake b) := by
 unfold netTake
 split
 · rename_i h; exact NZ.err h
 · refine bindE_nz (takeAllL_nz nodeOne_nz _ _) fun ls => ?_
   split
   · rename_i h; exact NZ.err h
   · exact NZ.ok _
theorem certTake_nz (b : List Byt) : NZ (certTake b) := by
 unfold certTake
 split
 · rename_i h; exact NZ.err h
 · split
   · rename_i h; exact NZ.err h
   · exact NZ.ok _
inductive SndIs (f c : List Byt) : Int × Int -> Prop
 | no (z : Int) (hz : z ≠ 0) : SndIs f c (0, z)
 | free (ls : List (List Rul)) (q : Crt × Nat) (h : netTake f = .ok ls) (k : certTake c = .ok q) (hn : q.2 = ls.length) (hm : netMayV ls = 0) (ho : ∀ a x, ¬ OnL (vecV ls a) x) : SndIs f c (1, 0)
 | loop (ls : List (List Rul)) (q : Crt × Nat) (h : netTake f = .ok ls) (k : certTake c = .ok q) (hn : q.2 = ls.length) (hm : netMayV ls = 0) (h0 : 0 < q.1.tr.length) (h1 : q.1.tr.length <= 256) (hon : OnL (vecV ls q.1.dest) (q.1.tr.getD 0 0)) (hb : itv (vecV ls q.1.dest) q.1.tr.length (q.1.tr.getD 0 0) = q.1.tr.getD 0 0) : SndIs f c (2, 0)
theorem snd_is (f c : List Byt) : SndIs f c (chkV f c) := by
 cases h : netTake f with
 | error z => rw [chk_bad h]; exact .no z (netTake_nz f z h)
 | ok ls =>
   cases k : certTake c with
   | error z => rw [chk_badC h k]; exact .no z (certTake_nz c z k)
   | ok q =>
     by_cases hn : q.2 = ls.length
     · rw [chk_good h k hn]
       have hs := ans_sound (cutL_is ls) (certTake_len k)
       generalize ansV (cutL ls) ls q.1 = P at hs
       cases hs with
       | no z hz => exact .no z hz
       | free hm hc ho => exact .free ls q h k hn hm ho
       | loop hm hc h0 h1 hon hb => exact .loop ls q h k hn hm h0 h1 hon hb
     · rw [chk_size h k hn]; exact .no 1 (by decide)
end Go.Proofs.YtdpmnldmbnpfpaaGreatDoor

/- theseuslaw22's sound, and the law ToolSound, by the program. Conditions: a milliard bytes at most; the library's table of powers of ten, and the table of words, read as they are laid. -/
namespace Go.Proofs.YtdpmnldmbnpfpaaGreatDoor
open Go Go.RowKit Go.Maps Go.Proofs

theorem cell_ltT {w : World} {p : Addr} {v : Value} (h : w.cell? p = some v) : p.block < w.heap.size := by
 cases hh : w.heap[p.block]? with
 | none => simp [World.cell?, hh] at h
 | some o => exact (Array.getElem?_eq_some_iff.1 hh).1
set_option maxHeartbeats 8000000 in
set_option maxRecDepth 100000 in
theorem sound22_any (v u : Value) (f c : List Byt) (a : BitVec 32) (w : World) (h : BsAt w v f) (hl : f.length <= 1000000000) (k : BsAt w u c) (kl : c.length <= 1000000000) :
 Calls Tryz.prog 10 #[v, u, U a] w fun e w' => e = .returned (.bool true) /\ Ext w w' := by
 have HSI := snd_is f c
 have HCHK := Lib.hid (toolCheck_any v u f c w h hl k kl)
 have HNT := Lib.hid (fun W (x : Ext w W) => netfileTake_any v f W (h.later x) hl)
 have HCT := Lib.hid (fun W (x : Ext w W) => certfileTake_any u c W (k.later x) kl)
 obtain ⟨va, vc, rfl, -⟩ := h.form
 obtain ⟨ua, uc, rfl, -⟩ := k.form
 clear h k
 generalize chkV f c = P at *
 go_enter Tryz.func10, Tryz.ntmps10
 cases HSI with
 | no z hz =>
   have hz1 : (z != 0) = true := by simp [hz]
   clear hz
   go_wp2_with (first
    | (go_at_call 17; (with_reducible refine HCHK.out.mono ?_); rintro e w5 ⟨he, hx5⟩; dsimp only at he; subst he; have HX5 := Lib.hid hx5; clear hx5))
   go_ret
   have hxt := HX5.out
   exact ⟨rfl, by (repeat with_reducible first | exact Ext.refl _ | assumption | refine Ext.alloc ?_ _ | refine Ext.drew ?_ | refine Ext.drewN ?_ _ | (refine Ext.setCellP ?_ ?_; focus (first | (simp; done) | (simp; omega) | omega)))⟩
 | loop ls q hnt hct hn hm h0 h1 hon hb =>
   obtain ⟨d, n'⟩ := q
   simp only at hn h0 h1 hon hb
   subst hn
   have HT := Lib.hid hnt
   have HQ := Lib.hid hct
   have HM := Lib.hid hm
   have HTL := Lib.hid h0
   have HT2 := Lib.hid h1
   have HON := Lib.hid hon
   have HIT := Lib.hid hb
   clear hnt hct hm h0 h1 hon hb
   go_upto_region 2 with (first
    | (go_at_call 17; (with_reducible refine HCHK.out.mono ?_); rintro e w5 ⟨he, hx5⟩; dsimp only at he; subst he; have HX5 := Lib.hid hx5; clear hx5))
   refine hideW (Φ := fun W => Code.wp _ _ _ _ W) (fun W => Ext w5 W /\ Blk W w5.heap.size [I 2, I 0] 35) ⟨by (repeat with_reducible first | exact Ext.refl _ | assumption | refine Ext.alloc ?_ _ | refine Ext.drew ?_ | refine Ext.drewN ?_ _ | (refine Ext.setCellP ?_ ?_; focus (first | (simp; done) | (simp; omega) | omega))), Blk.new w5 [I 2, I 0] 35⟩ (fun W6 hW6 => ?_)
   obtain ⟨hx6, hb6⟩ := hW6
   have HX6 := Lib.hid (HX5.out.trans hx6)
   have HA6 := Lib.hid hb6
   have hac := hb6.cells
   clear hx6 hb6
   generalize w5.heap.size = ab at *
   go_upto_region 5 with (first
    | (go_at_call 21; (with_reducible refine (HNT.out _ HX6.out).mono ?_); rintro e w7 ⟨h1, hx⟩; rw [HT.out] at h1; obtain ⟨u7, he, ho⟩ := h1; obtain ⟨na, nc, hue, -⟩ := ho.read.form; subst hue; subst he; have HX7 := Lib.hid (HX6.out.trans hx); have HA7 := Lib.hid (HA6.out.later hx); have HR7 := Lib.hid ho.read; clear hx ho hac))
   refine hideW (Φ := fun W => Code.wp _ _ _ _ W) (fun W => Ext w7 W /\ Blk W w7.heap.size [.slice na ls.length nc] 39) ⟨by (repeat with_reducible first | exact Ext.refl _ | assumption | refine Ext.alloc ?_ _ | refine Ext.drew ?_ | refine Ext.drewN ?_ _ | (refine Ext.setCellP ?_ ?_; focus (first | (simp; done) | (simp; omega) | omega))), Blk.new w7 [.slice na ls.length nc] 39⟩ (fun W8 hW8 => ?_)
   obtain ⟨hx8, hb8⟩ := hW8
   have HX8 := Lib.hid (HX7.out.trans hx8)
   have HA8 := Lib.hid (HA7.out.later hx8)
   have HN8 := Lib.hid hb8
   have HR8 := Lib.hid (HR7.out.later hx8)
   clear hx8 hb8
   generalize w7.heap.size = nb at *
   go_upto_region 6 with (first
    | (go_at_call 26; (with_reducible refine (HCT.out _ HX8.out).mono ?_); rintro e w9 ⟨h1, hx⟩; rw [HQ.out] at h1; obtain ⟨pv9, tv9, c9, he, hc9, hq9⟩ := h1; obtain ⟨pa, pc, hpe, -⟩ := hc9.parts.form; obtain ⟨ta, tc, hte, -⟩ := hc9.tr.form; subst hpe; subst hte; subst he; have HX9 := Lib.hid (HX8.out.trans hx); have HA9 := Lib.hid (HA8.out.later hx); have HN9 := Lib.hid (HN8.out.later hx); have HR9 := Lib.hid (HR8.out.later hx); have HC9 := Lib.hid hc9; have HQ9 := Lib.hid hq9; clear hx hc9 hq9))
   refine hideW (Φ := fun W => Code.wp _ _ _ _ W) (fun W => Ext w9 W /\ Blk W w9.heap.size [I c9.vd, .slice pa c9.ps.length pc, U c9.dest, .slice ta c9.tr.length tc] 55) ⟨by (repeat with_reducible first | exact Ext.refl _ | assumption | refine Ext.alloc ?_ _ | refine Ext.drew ?_ | refine Ext.drewN ?_ _ | (refine Ext.setCellP ?_ ?_; focus (first | (simp; done) | (simp; omega) | omega))), Blk.new w9 [I c9.vd, .slice pa c9.ps.length pc, U c9.dest, .slice ta c9.tr.length tc] 55⟩ (fun WA hWA => ?_)
   obtain ⟨hxa, hba⟩ := hWA
   have HXA := Lib.hid (HX9.out.trans hxa)
   have HRA := Lib.hid (HR9.out.later hxa)
   have HCA := Lib.hid (HC9.out.later hxa)
   have hak := (HA9.out.later hxa).keep
   have hnk := (HN9.out.later hxa).keep
   have hkk := hba.keep
   have HAA := Lib.hid (HA9.out.later hxa)
   have HNA := Lib.hid (HN9.out.later hxa)
   have HKA := Lib.hid hba
   clear hxa hba HR9 HC9 HA9 HN9 HX9 HR8 HN8 HA8 HX8 HR7 HA7 HX7 HA6 HX6
   generalize w9.heap.size = kb at *
   have htr : c9.tr = d.tr := HQ9.out.tr
   have hde : c9.dest = d.dest := HQ9.out.dest
   have h0 := HTL.out
   have h1 := HT2.out
   have hon := HON.out
   have hb := HIT.out
   rw [<- htr] at h0 h1 hon hb
   rw [<- hde] at hon hb
   clear htr hde HTL HT2 HON HIT
   have hl0 : ((c9.tr.length : Int) == 0) = false := beq_false_of_ne (by omega)
   have h0i : (0 : Int) < (c9.tr.length : Int) := by omega
   obtain ⟨a1, a2, hte, t1, t2, t3⟩ := HCA.out.tr.form
   cases hte
   unfold maxLen at t2
   obtain ⟨x, hx⟩ : ∃ x, x = c9.tr[0] := ⟨_, rfl⟩
   have hg0 : c9.tr.getD 0 0 = x := by rw [List.getD_eq_getElem?_getD, List.getElem?_eq_getElem h0, hx]; rfl
   rw [hg0] at hon hb
   obtain ⟨tb, tf, hta, htc⟩ := t3 0 x (by rw [List.getElem?_eq_getElem h0, hx])
   subst hta
   rw [Nat.add_zero] at htc
   have HTC := Lib.hid htc
   have HWALK := Lib.hid (fun (W : World) (y : Ext WA W) => (show Calls Tryz.prog 28 #[.agg #[.slice na ls.length nc], U c9.dest, I x, I c9.tr.length] W fun e w' => e = .returned (.tuple #[I x, .bool true]) /\ Ext W w' from by
    have := netWalk_any _ ls c9.dest x c9.tr.length W (HRA.out.later y) (may_ok HM.out) HM.out ⟨h0, h1⟩ fun j _ => (hon.it (vec_ok HM.out _) j).is (vec_ok HM.out _)
    rwa [hb] at this))
   have HMAY := Lib.hid (fun (W : World) (y : Ext WA W) => netMay_any (.slice na ls.length nc) ls W (HRA.out.later y) (may_ok HM.out) (by have := (netMay_tabs HM.out).2.1; omega))
   have hx0 := Ext.refl WA
   have htk := Ext.keep htc
   clear hx hg0 hb hon htc h1 t3
   go_upto_region 11 with (first
    | (go_at_call 27; (with_reducible refine (HMAY.out _ (Ext.refl _)).mono ?_); rintro e wb ⟨he, hxb⟩; rw [HM.out] at he; subst he; have HXB := Lib.hid hxb; have hx0 := hxb; clear hxb))
   clear hak hnk hkk htk
   have hnk := (HNA.out.later HXB.out).keep
   have hkk := (HKA.out.later HXB.out).keep
   have htk := Ext.keep (HXB.out.cell HTC.out)
   refine wp_region_E 15 rfl (by kernel_rfl) (by kernel_rfl) ?_
   refine WEi_at 0 ?_
   iterate 10
    refine WEi_q rfl (by decide) (by kernel_rfl) rfl ?_; apply Exists.intro; refine ⟨fun w1 hx1 => ?_, ?_⟩
    · have hq1 := hx1.cells; go_simp; try go_bits
      first | with_reducible rfl
    simp only [Act.put, List.setIfInBounds_toArray, List.set_cons_zero, List.set_cons_succ, Nat.reduceAdd]
   refine WEi_out ?_
   refine WE_q 10 rfl (by decide) (by kernel_rfl) rfl ?_; apply Exists.intro; refine ⟨fun w1 hx1 => ?_, ?_⟩
   · have hq1 := hx1.cells; go_simp; try go_bits
     first | with_reducible rfl | ((refine (HWALK.out _ (HXB.out.trans hx1)).mono ?_; rintro e w' ⟨rfl, hx⟩; exact ⟨rfl, hx⟩))
   simp only [Act.put, List.setIfInBounds_toArray, List.set_cons_zero, List.set_cons_succ]
   refine WEi_at 11 ?_
   iterate 4
    refine WEi_q rfl (by decide) (by kernel_rfl) rfl ?_; apply Exists.intro; refine ⟨fun w1 hx1 => ?_, ?_⟩
    · have hq1 := hx1.cells; go_simp; try go_bits
      first | with_reducible rfl
    simp only [Act.put, List.setIfInBounds_toArray, List.set_cons_zero, List.set_cons_succ, Nat.reduceAdd]
   refine WEi_out ?_
   refine WE_done (by kernel_rfl) (fun wc hxc => ?_)
   (try simp only [List.drop_succ_cons, List.drop_zero])
   have HXC := Lib.hid (HXB.out.trans hxc)
   have hx0 := hxc
   go_wp2_with fail
   go_ret
   exact ⟨rfl, HXA.out.trans HXC.out⟩
 | free ls q hnt hct hn hm ho =>
   obtain ⟨d, n'⟩ := q
   simp only at hn
   subst hn
   have HT := Lib.hid hnt
   have HQ := Lib.hid hct
   have HM := Lib.hid hm
   have HNO := Lib.hid ho
   have HSZ := Lib.hid (netMay_tabs hm).2.1
   clear hnt hct hm ho
   go_upto_region 2 with (first
    | (go_at_call 17; (with_reducible refine HCHK.out.mono ?_); rintro e w5 ⟨he, hx5⟩; dsimp only at he; subst he; have HX5 := Lib.hid hx5; clear hx5))
   refine hideW (Φ := fun W => Code.wp _ _ _ _ W) (fun W => Ext w5 W /\ Blk W w5.heap.size [I 1, I 0] 35) ⟨by (repeat with_reducible first | exact Ext.refl _ | assumption | refine Ext.alloc ?_ _ | refine Ext.drew ?_ | refine Ext.drewN ?_ _ | (refine Ext.setCellP ?_ ?_; focus (first | (simp; done) | (simp; omega) | omega))), Blk.new w5 [I 1, I 0] 35⟩ (fun W6 hW6 => ?_)
   obtain ⟨hx6, hb6⟩ := hW6
   have HX6 := Lib.hid (HX5.out.trans hx6)
   have HA6 := Lib.hid hb6
   have hac := hb6.cells
   clear hx6 hb6
   generalize w5.heap.size = ab at *
   go_upto_region 5 with (first
    | (go_at_call 21; (with_reducible refine (HNT.out _ HX6.out).mono ?_); rintro e w7 ⟨h1, hx⟩; rw [HT.out] at h1; obtain ⟨u7, he, ho⟩ := h1; obtain ⟨na, nc, hue, -⟩ := ho.read.form; subst hue; subst he; have HX7 := Lib.hid (HX6.out.trans hx); have HA7 := Lib.hid (HA6.out.later hx); have HR7 := Lib.hid ho.read; clear hx ho hac))
   refine hideW (Φ := fun W => Code.wp _ _ _ _ W) (fun W => Ext w7 W /\ Blk W w7.heap.size [.slice na ls.length nc] 39) ⟨by (repeat with_reducible first | exact Ext.refl _ | assumption | refine Ext.alloc ?_ _ | refine Ext.drew ?_ | refine Ext.drewN ?_ _ | (refine Ext.setCellP ?_ ?_; focus (first | (simp; done) | (simp; omega) | omega))), Blk.new w7 [.slice na ls.length nc] 39⟩ (fun W8 hW8 => ?_)
   obtain ⟨hx8, hb8⟩ := hW8
   have HX8 := Lib.hid (HX7.out.trans hx8)
   have HA8 := Lib.hid (HA7.out.later hx8)
   have HN8 := Lib.hid hb8
   have HR8 := Lib.hid (HR7.out.later hx8)
   clear hx8 hb8
   generalize w7.heap.size = nb at *
   go_upto_region 6 with (first
    | (go_at_call 26; (with_reducible refine (HCT.out _ HX8.out).mono ?_); rintro e w9 ⟨h1, hx⟩; rw [HQ.out] at h1; obtain ⟨pv9, tv9, c9, he, hc9, hq9⟩ := h1; obtain ⟨pa, pc, hpe, -⟩ := hc9.parts.form; obtain ⟨ta, tc, hte, -⟩ := hc9.tr.form; subst hpe; subst hte; subst he; have HX9 := Lib.hid (HX8.out.trans hx); have HA9 := Lib.hid (HA8.out.later hx); have HN9 := Lib.hid (HN8.out.later hx); have HR9 := Lib.hid (HR8.out.later hx); clear hx hc9 hq9))
   refine hideW (Φ := fun W => Code.wp _ _ _ _ W) (fun W => Ext w9 W) (by (repeat with_reducible first | exact Ext.refl _ | assumption | refine Ext.alloc ?_ _ | refine Ext.drew ?_ | refine Ext.drewN ?_ _ | (refine Ext.setCellP ?_ ?_; focus (first | (simp; done) | (simp; omega) | omega)))) (fun WA hxa => ?_)
   have HXA := Lib.hid (HX9.out.trans hxa)
   have HRA := Lib.hid (HR9.out.later hxa)
   have HAA := Lib.hid (HA9.out.later hxa)
   have HNA := Lib.hid (HN9.out.later hxa)
   have hak := HAA.out.keep
   have hnk := HNA.out.keep
   clear hxa HR9 HA9 HN9 HX9 HR8 HN8 HA8 HX8 HR7 HA7 HX7 HA6 HX6
   generalize w9.heap.size = kb at *
   have HMAY := Lib.hid (fun (W : World) (y : Ext WA W) => netMay_any (.slice na ls.length nc) ls W (HRA.out.later y) (may_ok HM.out) (by have := HSZ.out; omega))
   have hx0 := Ext.refl WA
   go_upto_region 13 with (first
    | (go_at_call 27; (with_reducible refine (HMAY.out _ (Ext.refl _)).mono ?_); rintro e wb ⟨he, hxb⟩; rw [HM.out] at he; subst he; have HXB := Lib.hid hxb; have hx0 := hxb; clear hxb))
   go_upto_region 14 with (first
    | (go_at_call 23
       go_loud (
        (with_reducible refine (r12OfO_any _ ls _ (HRA.out.later HXB.out) (may_ok HM.out) (by have := HSZ.out; omega)).mono ?_)
        rintro e wc ⟨v9, l9, he, hO, hC9, hx9⟩
        subst he
        have HX9 := Lib.hid hx9
        have HXC := Lib.hid (hx9.alloc (.cells #[U a] 23))
        have HOA := Lib.hid (hO.later ((Ext.refl wc).alloc (.cells #[U a] 23)))
        have HSRC := Lib.hid (Reads.made wc 1 23 1 [U a] rfl (by unfold maxLen; omega))
        have HLEN := Lib.hid (show l9.length <= 20000001 by have h1 := hC9.len; have h2 := HSZ.out; rw [sizeN_flat] at h1; omega)
        clear hO hC9 hx9))
    | (at_builtin
       refine wpList_app rfl (.tmp 93) (.tmp 95) 50 rfl wb.heap.size 23 _ 1 4 Tryz.underlying50 infoU32 rfl (by decide) (by decide) _ _ _ rfl HOA.out _ _ _ rfl HSRC.out (by intro q hq; simp at hq; subst hq; rfl) (by have := HLEN.out; omega) HXC.out.size ?_
       intro v10 w10 ho10 hg10
       have HX10 := Lib.hid (Ext.grown HXC.out hg10 HOA.out (Nat.le_refl _))
       have HO10 := Lib.hid (show OwnU w10 wb.heap.size v10 (l9 ++ [a]) from by
        unfold OwnU
        rw [ucells_app, List.length_append]
        exact ho10)
       clear ho10 hg10))
   have HL0 := Lib.hid (show 0 < (l9 ++ [a]).length by simp)
   have HLB := Lib.hid (show (l9 ++ [a]).length <= 20000002 by rw [List.length_append]; have := HLEN.out; simp; omega)
   clear HOA HSRC
   generalize l9 ++ [a] = L at *
   obtain ⟨xa, xc, hxv, x1, x2, x3⟩ := HO10.out.us.form
   subst hxv
   unfold maxLen at x2
   obtain ⟨xb, xo, hxa, -⟩ := x3 0 _ (List.getElem?_eq_getElem HL0.out)
   subst hxa
   have X3 := Lib.hid x3
   have HXU := Lib.hid (HXB.out.trans HX10.out)
   have hlb := HLB.out
   clear x3
   go_wp2_with fail
   go_loopw [16] (fun i wr => ∃ k : Nat, k <= L.length /\ i = I k /\ Hid (Ext w10 wr)) (fun i _ => L.length - (intOf i).toNat)
   case atStart => exact ⟨0, Nat.zero_le _, rfl, Ext.refl _⟩
   case round =>
    obtain ⟨k, hk, rfl, HX⟩ := hrel
    have HXR := Lib.hid (HXU.out.trans HX.out)
    by_cases hlt : k < L.length
    · have hkd : decide ((k : Int) < (L.length : Int)) = true := decide_eq_true (by omega)
      have HLT := Lib.hid hlt
      obtain ⟨b1, o1, he1, hc1⟩ := X3.out k L[k] (List.getElem?_eq_getElem hlt)
      cases he1
      have HC1 := Lib.hid hc1
      have HY := Lib.hid (HNO.out L[k])
      generalize L[k] = y at *
      clear hc1 hak hnk hx0
      go_upto_region 17 with fail
      refine wp_region_R (RB (wr.heap.size)) 10 rfl (by kernel_rfl) (by kernel_rfl) (fun wz hxz => ?_)
      have hsz : wr.heap.size <= wz.heap.size := hxz.size
      have HZ := Lib.hid hxz
      have g0 := RB.keep hsz (HNA.out.later HXR.out).lt (((HNA.out.later HXR.out).later hxz).cells 0)
      have g1 := RB.keep hsz (cell_ltT (HX.out.cell HC1.out)) (hxz.cell (HX.out.cell HC1.out))
      clear hxz
      refine WRi_at 0 ?_
      iterate 5
       refine WRi_q (preRB _) rfl (by decide) (by kernel_rfl) rfl ?_; apply Exists.intro; refine ⟨fun w1 hx1 => ?_, ?_⟩
       · go_simp; try go_bits
         first | with_reducible rfl | rfl
       simp only [Act.put, List.setIfInBounds_toArray, List.set_cons_zero, List.set_cons_succ, Nat.reduceAdd]
      refine WRi_out ?_
      clear g0 g1
      refine WR_one 5 rfl (by decide) (by kernel_rfl) rfl (fun K hK => ?_)
      go_simp
      (with_reducible refine (netLoop_any _ ls y _ (HRA.out.later (HXR.out.trans HZ.out)) (may_ok HM.out) HM.out).mono ?_)
      rintro e w11 ⟨u, l2, b, he, hLI, hbl, hO, hx11⟩
      subst he
      have hl2 : l2 = [] := LoopIs.one hLI (LoopIs.nil.2 HY.out)
      cases b with
      | true => exact absurd hl2 (hbl.1 rfl)
      | false =>
      refine hK _ _ (RB.ext hx11) ?_
      have HX11 := Lib.hid (HX.out.trans (HZ.out.trans hx11))
      clear hK K hLI hbl hO hx11 hl2
      refine WRi_at 6 ?_
      iterate 4
       refine WRi_q (preRB _) rfl (by decide) (by kernel_rfl) rfl ?_; apply Exists.intro; refine ⟨fun w1 hx1 => ?_, ?_⟩
       · go_simp; try go_bits
         first | with_reducible rfl | rfl
       simp only [Act.put, List.setIfInBounds_toArray, List.set_cons_zero, List.set_cons_succ, Nat.reduceAdd]
      refine WRi_out ?_
      refine WR_done (by kernel_rfl) ?_
      (try simp only [List.drop_succ_cons, List.drop_zero])
      go_wp2_with fail
      go_roundw
      case rel => exact ⟨k + 1, Nat.succ_le_of_lt HLT.out, by go_num, HX11.out⟩
      case measure => have := HLT.out; simp [intOf]; omega
    · have hx0 := HXR.out
      go_wp2_with fail
      go_ret
      exact ⟨rfl, HXA.out.trans HXR.out⟩
end Go.Proofs.YtdpmnldmbnpfpaaGreatDoor

/- Rows of at most 500 bytes, and bytes as a string, by the program. Conditions: none. -/
namespace Go.Proofs.YtdpmnldmbnpfpaaGreatDoor
open Go Go.RowKit Go.Maps Go.Proofs

theorem min500 (n : Nat) : min (n : Int) 500 = ((min n 500 : Nat) : Int) := by omega
def fewY (l : List Byt) : List Byt := l.take (min l.length 500)
theorem fewY_len (l : List Byt) : (fewY l).length <= 500 := by unfold fewY; rw [List.length_take]; omega
theorem bs_to {w : World} {a : Option Addr} {n c k : Nat} {l : List Byt} (h : BsAt w (.slice a n c) l) (hk : k <= l.length) : BsAt w (.slice a k c) (l.take k) := by
 obtain ⟨h0, a', cap, h1, h2, h3, h4, h5⟩ := h
 cases h1
 have hkl : (l.take k).length = k := by rw [List.length_take]; omega
 refine ⟨by rw [ycells_len]; omega, a, c, by rw [hkl], by omega, h3, fun hn => ?_, fun b hb => ⟨?_, fun j u hj => (h5 b hb).2 j u ?_⟩⟩
 · have := h4 hn; exact ⟨by omega, this.2⟩
 · rcases (h5 b hb).1 with g | g
   · exact .inl g
   · have : l = [] := List.eq_nil_of_length_eq_zero (by rw [<- ycells_len, g]; rfl)
     subst this
     exact .inr (by simp [ycells])
 · unfold ycells at hj ⊢
   rw [List.map_take, List.getElem?_take] at hj
   split at hj
   · exact hj
   · cases hj
theorem slv_to1 (a : Option Addr) (n c k : Nat) : slv 1 (.slice a n c) 0 k = .slice a k c := by
 unfold slv sliced
 cases a with
 | none => simp
 | some b => simp [Addr.add]
set_option maxHeartbeats 4000000 in
set_option maxRecDepth 100000 in
theorem l22Few_any (a : Option Addr) (c : Nat) (l : List Byt) (w : World) (h : BsAt w (.slice a l.length c) l) : Calls Tryz.prog 11 #[.slice a l.length c] w fun e w' => (e = .returned (.slice a (fewY l).length c) /\ BsAt w' (.slice a (fewY l).length c) (fewY l)) /\ Ext w w' := by
 have HE := Lib.hid (show (fewY l).length = min l.length 500 by unfold fewY; rw [List.length_take]; omega)
 have HH := Lib.hid h
 obtain ⟨a', c', he', c1, c2, -⟩ := h.form
 cases he'
 clear h
 unfold maxLen at c2
 have HC := Lib.hid (fun W (h : BsAt W (.slice a l.length c) l) => show BsAt W (.slice a (min l.length 500) c) (fewY l) from bs_to h (Nat.min_le_left _ _))
 have hmc : min l.length 500 <= c := by omega
 have hmn := min500 l.length
 go_enter Tryz.func11, Tryz.ntmps11
 go_wp2_with (first
  | (refine wpList_of_run rfl (run_slice_to (o := ⟨some 7, _, _, _, _, _⟩) rfl Tryz.underlying22 sizeU8 rfl rfl hmc) ?_; rw [slv_to1]))
 go_ret
 rw [HE.out]
 exact ⟨⟨rfl, HC.out _ HH.out⟩, Ext.refl _⟩
end Go.Proofs.YtdpmnldmbnpfpaaGreatDoor

/- The example at the head of the tool's statements, by the program. Conditions: the library's table of powers of ten, and the table of words, read as they are laid. -/
namespace Go.Proofs.YtdpmnldmbnpfpaaGreatDoor
open Go Go.RowKit Go.Maps Go.Proofs

def sh1 : List (List Rul) := [[⟨167772160#32, 8, 1, 0⟩]]
def shT : List UInt8 := [49, 48, 46, 48, 46, 48, 46, 48, 47, 56, 32, 110, 101, 120, 116, 32, 48]
theorem sh1_may : netMayV sh1 = 0 := by decide +kernel
theorem sh1_expl : (sh1.map fun t => explT t 167772161#32) = [shT] := by decide +kernel
/-- What lies there ahead of the first call. -/
structure ShS (w : World) (rb tb : Nat) (W : World) : Prop where
 ext : Ext w W
 r0 : Blk W rb [U 167772160#32, I 8, I 1, I 0] 62
 ts : Blk W tb [.slice (some ⟨rb, 0, none⟩) 1 1] 63
theorem ShS.tabs {w W : World} {rb tb : Nat} (h : ShS w rb tb W) : TablesAt W (.slice (some ⟨tb, 0, none⟩) 1 1) sh1 := by
 have h0 : RulesAt W (.slice (some ⟨rb, 0, none⟩) 1 1) [⟨167772160#32, 8, 1, 0⟩] := reads_blk (n := 1) (s := 4) h.r0 (by simp) (Nat.le_refl _) (by unfold maxLen; omega)
 have ht := reads_blk (n := 1) (c := 1) (s := 1) h.ts (by simp) (Nat.le_refl _) (by unfold maxLen; omega)
 refine ⟨_, ht, fun i l hi => ?_⟩
 match i, hi with
 | 0, hi => cases hi; exact ⟨_, rfl, h0⟩
 | i + 1, hi => cases hi
theorem OwnS.one {w : World} {B : Nat} {v : Value} {T : List UInt8} (h : OwnS w B v [T]) : ∃ g c, v = .slice (some ⟨g, 0, none⟩) 1 c /\ w.cell? ⟨g, 0, none⟩ = some (S T) := by
 unfold OwnS at h
 rcases h.2 with ⟨-, h2⟩ | ⟨g, cap, cur, hv, -⟩
 · simp at h2
 · have hc := World.ownsRow.cells h (g := g) (by rw [hv]; rfl) 0 (S T) rfl
   exact ⟨g, cap, hv, by simpa [Addr.add] using hc⟩
set_option maxHeartbeats 4000000 in
set_option maxRecDepth 100000 in
theorem shownTool_any (w : World) (ht : Tab10 w) (hw : Words w) : Calls Tryz.prog 9 #[] w fun e w' => e = .returned (.bool true) /\ Ext w w' := by
 have HTT := Lib.hid ht
 have HWW := Lib.hid hw
 clear ht hw
 have HPN := Lib.hid (fun W (h : ShS w w.heap.size (w.heap.size + 1) W) => netfilePut_any _ sh1 W h.tabs (may_ok sh1_may) sh1_may)
 have HTN := Lib.hid (netTake_put sh1_may)
 have HLN := Lib.hid (netB_len sh1_may)
 generalize netPut sh1 = F at *
 have HEX := Lib.hid (fun V W (h : BsAt W V F) (h1 : Ext w W) => show Calls Tryz.prog 15 #[V, .int .u32 167772161] W (ExOut W F 167772161#32) from toolExplain_any V F 167772161#32 W h HLN.out (HTT.out.later h1) (HWW.out.later h1))
 go_enter Tryz.func9, Tryz.ntmps9
 go_upto_region 2 with (first
  | (go_at_call 20
     go_loud (
      (with_reducible refine (HPN.out _ ?_).mono ?_)
      (exact ⟨by (repeat with_reducible first | exact Ext.refl _ | assumption | refine Ext.alloc ?_ _ | refine Ext.drew ?_ | refine Ext.drewN ?_ _ | (refine Ext.setCellP ?_ ?_; focus (first | (simp; done) | (simp; omega) | omega))), (Blk.new w [U 167772160#32, I 8, I 1, I 0] 62).old _, Blk.newAt [.slice (some ⟨w.heap.size, 0, none⟩) 1 1] (by simp)⟩)
      rintro e w2 ⟨u2, he, ho, hx⟩
      obtain ⟨ua, uc, hue⟩ := ho.form
      subst hue
      subst he
      have HX2 := Lib.hid (show Ext w w2 from Ext.trans (by (repeat with_reducible first | exact Ext.refl _ | assumption | refine Ext.alloc ?_ _ | refine Ext.drew ?_ | refine Ext.drewN ?_ _ | (refine Ext.setCellP ?_ ?_; focus (first | (simp; done) | (simp; omega) | omega)))) hx)
      have HF2 := Lib.hid ho.bs
      clear hx ho)))
 go_upto_region 3 with (first
  | (go_at_call 15
     go_loud (
      (with_reducible refine (HEX.out _ _ HF2.out HX2.out).mono ?_)
      rintro e w3 ⟨h1, hx⟩
      rw [HTN.out] at h1
      obtain ⟨u3, he, ho⟩ := h1
      rw [sh1_expl] at ho
      obtain ⟨g, c, hue, hcl⟩ := ho.one
      subst hue
      subst he
      have HX3 := Lib.hid (HX2.out.trans hx)
      have HC3 := Lib.hid hcl
      clear hx ho hcl)))
 have hcl := HC3.out
 unfold shT at hcl
 go_wp2_with fail
 go_ret
 exact ⟨rfl, HX3.out⟩
end Go.Proofs.YtdpmnldmbnpfpaaGreatDoor

/- The law ToolSound, by the program. Conditions: the library's table of powers of ten, and the table of words, read as they are laid. -/
namespace Go.Proofs.YtdpmnldmbnpfpaaGreatDoor
open Go Go.RowKit Go.Maps Go.Proofs

set_option maxHeartbeats 8000000 in
set_option maxRecDepth 100000 in
theorem toolSound_any (v u : Value) (f c : List Byt) (a : BitVec 32) (w : World) (h : BsAt w v f) (k : BsAt w u c) (ht : Tab10 w) (hw : Words w) :
 Calls Tryz.prog 3 #[v, u, U a] w fun e w' => e = .returned (.bool true) /\ Ext w w' := by
 have HH := Lib.hid h
 have HK := Lib.hid k
 have HSH := Lib.hid (shownTool_any w ht hw)
 obtain ⟨va, vc, rfl, -⟩ := h.form
 obtain ⟨ua, uc, rfl, -⟩ := k.form
 clear h k ht hw
 have HF1 := Lib.hid (fun W (x : Ext w W) => l22Few_any va vc f W (HH.out.later x))
 have HF2 := Lib.hid (fun W (x : Ext w W) => l22Few_any ua uc c W (HK.out.later x))
 have HL1 := Lib.hid (fewY_len f)
 have HL2 := Lib.hid (fewY_len c)
 generalize fewY f = F at *
 generalize fewY c = C at *
 have HP1 := Lib.hid (fun V W (h : BsAt W V F) => show Calls Tryz.prog 12 #[.int .u32 1179206193, V] W fun e w' => ∃ u, e = .returned u /\ OwnY w' W.heap.size u (fput magN F) /\ Ext W w' from framePut_any magN V F W h (by have := HL1.out; omega))
 have HP2 := Lib.hid (fun V W (h : BsAt W V C) => show Calls Tryz.prog 12 #[.int .u32 1129468977, V] W fun e w' => ∃ u, e = .returned u /\ OwnY w' W.heap.size u (fput magC C) /\ Ext W w' from framePut_any magC V C W h (by have := HL2.out; omega))
 have HM1 := Lib.hid (show (fput magN F).length <= 1000000000 by rw [fput_len]; have := HL1.out; omega)
 have HM2 := Lib.hid (show (fput magC C).length <= 1000000000 by rw [fput_len]; have := HL2.out; omega)
 generalize fput magN F = FN at *
 generalize fput magC C = FC at *
 go_enter Tryz.func3, Tryz.ntmps3
 go_upto_region 2 with (first
  | (go_at_call 9; (with_reducible refine HSH.out.mono ?_); rintro e w1 ⟨he, hx⟩; subst he; have HX1 := Lib.hid hx; clear hx; have K1 := Lib.hid (HF1.out _ HX1.out)))
 go_wp2_with (first
  | (go_at_call 11; (with_reducible refine K1.out.mono ?_); rintro e w2 ⟨⟨he, hb⟩, hx⟩; subst he; have HX2 := Lib.hid (HX1.out.trans hx); have HB2 := Lib.hid hb; clear hx hb K1; have K2 := Lib.hid (HF2.out _ HX2.out))
  | (go_at_call 11; (with_reducible refine K2.out.mono ?_); rintro e w3 ⟨⟨he, hb⟩, hx⟩; subst he; have HX3 := Lib.hid (HX2.out.trans hx); have HB3 := Lib.hid (HB2.out.later hx); have HC3 := Lib.hid hb; clear hx hb K2; have K3 := Lib.hid (sound22_any _ _ F C a w3 HB3.out (by have := HL1.out; omega) HC3.out (by have := HL2.out; omega)))
  | (go_at_call 10; (with_reducible refine K3.out.mono ?_); rintro e w4 ⟨he, hx⟩; subst he; have HX4 := Lib.hid (HX3.out.trans hx); clear hx K3; have K4 := Lib.hid (HF1.out _ HX4.out))
  | (go_at_call 11; (with_reducible refine K4.out.mono ?_); rintro e w5 ⟨⟨he, hb⟩, hx⟩; subst he; have HX5 := Lib.hid (HX4.out.trans hx); have K5 := Lib.hid (HP1.out _ _ hb); clear hx hb K4)
  | (go_at_call 12; (with_reducible refine K5.out.mono ?_); rintro e w6 ⟨u6, he, ho, hx⟩; obtain ⟨fa, fc, hue⟩ := ho.form; subst hue; subst he; have HX6 := Lib.hid (HX5.out.trans hx); have HB6 := Lib.hid ho.bs; clear ho hx K5; have K6 := Lib.hid (HF2.out _ HX6.out))
  | (go_at_call 11; (with_reducible refine K6.out.mono ?_); rintro e w7 ⟨⟨he, hb⟩, hx⟩; subst he; have HX7 := Lib.hid (HX6.out.trans hx); have HB7 := Lib.hid (HB6.out.later hx); have K7 := Lib.hid (HP2.out _ _ hb); clear hx hb K6)
  | (go_at_call 12; (with_reducible refine K7.out.mono ?_); rintro e w8 ⟨u8, he, ho, hx⟩; obtain ⟨ga, gc, hue⟩ := ho.form; subst hue; subst he; have HX8 := Lib.hid (HX7.out.trans hx); have HB8 := Lib.hid (HB7.out.later hx); have K8 := Lib.hid (sound22_any _ _ FN FC a w8 HB8.out HM1.out ho.bs HM2.out); clear ho hx K7)
  | (go_at_call 10; (with_reducible refine K8.out.mono ?_); rintro e w9 ⟨he, hx⟩; subst he; have HX9 := Lib.hid (HX8.out.trans hx); clear hx K8))
 go_ret
 exact ⟨rfl, HX9.out⟩
end Go.Proofs.YtdpmnldmbnpfpaaGreatDoor
