/- theseusref17.Fit of a verdict whose last bit is 0: a trace that may be. Conditions: whole numbers are within 64 bits. -/
import Derived.Test.YtpfkfboohblgoaaFitTr
import Derived.Test.YtpfkfboohblgoaaCheckP
namespace Go.Proofs.Ytpfkfboohblgoaa
open Go.RowKit

theorem infoBoolF : (Try.prog.info? 4).map (fun i => (i.zero, i.size, i.bytes)) = some (some (.bool false), 1, 1) := by kernel_rfl
/-- Which nodes a trace has. -/
def usedV (n : Nat) (o : List Int) : List Value := (List.range n).map fun (v : Nat) => Value.bool (decide ((v : Int) ∈ o))
theorem usedV_nil (n : Nat) : usedV n [] = List.replicate n (.bool false) := by
  unfold usedV
  rw [List.eq_replicate_iff]
  refine ⟨by simp, fun b hb => ?_⟩
  obtain ⟨i, _, rfl⟩ := List.mem_map.1 hb
  simp
theorem usedV_get {n : Nat} (o : List Int) {z : Nat} (h : z < n) : (usedV n o)[z]? = some (.bool (decide ((z : Int) ∈ o))) := by
  unfold usedV
  simp [h]
theorem usedV_set {n : Nat} (o : List Int) {z : Nat} (h : z < n) : (usedV n o).set z (.bool true) = usedV n (o ++ [(z : Int)]) := by
  refine List.ext_getElem? fun i => ?_
  rw [List.getElem?_set]
  by_cases hi : z = i
  · subst hi
    rw [if_pos rfl, if_pos (by unfold usedV; simpa using h), usedV_get _ h]
    simp
  · rw [if_neg hi]
    rcases Nat.lt_or_ge i n with h2 | h2
    · rw [usedV_get _ h2, usedV_get _ h2]
      congr 2
      simp only [List.mem_append, List.mem_singleton]
      have : ¬ (i : Int) = (z : Int) := by omega
      simp [this]
    · unfold usedV
      rw [List.getElem?_eq_none (by simpa using h2), List.getElem?_eq_none (by simpa using h2)]
theorem tryT_len (n : Nat) (tr : List Int) : (tryT n tr).length = max tr.length 1 := by
  unfold tryT
  split
  · rename_i h; subst h; rfl
  · rename_i h
    have := List.length_pos_iff.2 h
    simp; omega
def foldT (l : List Int) : List Int := l.foldl (fun o v => addT v o) []
theorem foldT_next {l : List Int} {k : Nat} (h : k < l.length) : foldT (l.take (k + 1)) = addT l[k] (foldT (l.take k)) := by
  unfold foldT
  rw [List.take_succ_eq_append_getElem h, List.foldl_append]; rfl
set_option maxHeartbeats 4000000 in
set_option maxRecDepth 100000 in
theorem r17FitLoops_any (pv : Value) (tv : Value) (vd : Int) (dest : BitVec 32) (n : Nat) (tr : List Int) (w : World) (ht : IntsAt w tv tr) (hv : (bits .and .i64 vd 1 == 0) = true)
    (htr : ∀ x ∈ tr, In64 x) (hn : 1 ≤ n ∧ n ≤ 1000000) :
    Calls Try.prog 17 #[.agg #[I vd, pv, U dest, tv], I n] w fun e w' => ∃ v, e = .returned (.agg #[I 2, .slice none 0 0, U dest, v]) ∧
      OwnI w' w.heap.size v (fitTr n tr) ∧ Ext w w' := by
  have HT := Lib.hid ht
  have HTR := Lib.hid htr
  obtain ⟨ta, tc, rfl, t1, t2, t3⟩ := ht.form
  have T3 := Lib.hid t3
  clear ht htr t3
  unfold maxLen at t2
  have hmk := fun w => run_make_row' (P := Try.prog) 80 4 (.bool false) 1 Try.underlying80 infoBoolF rfl .i64 .i64 n (by omega) (by omega) w
  go_enter Try.func17, Try.ntmps17
  go_upto_region 1 with (fail)
  refine hideW (Φ := fun W => Code.wp _ _ _ _ W) (fun W => Ext w W ∧ Blk W w.heap.size [I vd, pv, U dest, .slice ta tr.length tc] 29 ∧ Blk W (w.heap.size + 1) [I 0, .slice none 0 0, U 0#32, .slice none 0 0] 29)
    ⟨by (repeat (first | with_reducible exact Ext.refl _ | with_reducible assumption | with_reducible refine Ext.alloc ?_ _ | with_reducible refine Ext.drew ?_ | with_reducible refine Ext.drewN ?_ _ | (with_reducible refine Ext.setCellP ?_ ?_; focus (first | (simp; done) | (simp; omega) | omega)))), (Blk.new w [I vd, pv, U dest, .slice ta tr.length tc] 29).old _, Blk.newAt [I 0, .slice none 0 0, U 0#32, .slice none 0 0] (by simp)⟩ (fun W1 hW1 => ?_)
  obtain ⟨hx1, hb1, hr1⟩ := hW1
  have HX1 := Lib.hid hx1
  have HB1 := Lib.hid hb1
  have HR1 := Lib.hid hr1
  have hbc1 := hb1.cells
  have HSC := Lib.hid (show ∀ (A : World) (o : Nat) (u : Value), Ext w A → Ext w (A.setCell ⟨w.heap.size + 1, o, none⟩ u) from fun A o u h => h.setCell (by show w.heap.size ≤ w.heap.size + 1; omega) u)
  have HRL := Lib.hid (show w.heap.size + 1 < W1.heap.size from hr1.lt)
  clear hx1 hb1 hr1
  generalize w.heap.size + 1 = rb at *
  go_upto_region 4 with (fail)
  refine hideW (Φ := fun W => Code.wp _ _ _ _ W) (fun W => Ext W1 W ∧ Blk W W1.heap.size [I 2, .slice none 0 0, U dest, .slice none 0 0] 29 ∧ Blk W (W1.heap.size + 1) (usedV n []) 4)
    ⟨by (repeat (first | with_reducible exact Ext.refl _ | with_reducible assumption | with_reducible refine Ext.alloc ?_ _ | with_reducible refine Ext.drew ?_ | with_reducible refine Ext.drewN ?_ _ | (with_reducible refine Ext.setCellP ?_ ?_; focus (first | (simp; done) | (simp; omega) | omega)))), (Blk.new W1 [I 2, .slice none 0 0, U dest, .slice none 0 0] 29).old _, by
      rw [usedV_nil]
      have h := Blk.new (W1.alloc (.cells #[I 2, .slice none 0 0, U dest, .slice none 0 0] 29)) (List.replicate n (Value.bool false)) 4
      rw [show (W1.alloc (.cells #[I 2, .slice none 0 0, U dest, .slice none 0 0] 29)).heap.size = W1.heap.size + 1 by simp] at h
      have e : (madeCells #[Value.bool false] n) = (List.replicate n (Value.bool false)).toArray := by rw [← Array.toList_inj, toList_madeCells_one]
      rw [e]
      exact h⟩ (fun W2 hW2 => ?_)
  obtain ⟨hx2, hb2, hd2⟩ := hW2
  have HX2 := Lib.hid hx2
  have HO2 := Lib.hid hb2
  have HD2 := Lib.hid hd2
  clear hx2 hb2 hd2 hmk hbc1
  generalize hob : W1.heap.size = ob at *
  have HOB := Lib.hid hob
  clear hob
  generalize hdb : ob + 1 = db at *
  have HDB := Lib.hid hdb
  clear hdb
  have HFIN := Lib.hid (show ∀ (A : World) (v : Value) (o : List Int), Ext W1 A → OwnI A (db + 1) v o →
      Ext w ((((A.setCell ⟨rb, 0, none⟩ (I 2)).setCell ⟨rb, 1, none⟩ (.slice none 0 0)).setCell ⟨rb, 2, none⟩ (U dest)).setCell ⟨rb, 3, none⟩ v) ∧
      Blk ((((A.setCell ⟨rb, 0, none⟩ (I 2)).setCell ⟨rb, 1, none⟩ (.slice none 0 0)).setCell ⟨rb, 2, none⟩ (U dest)).setCell ⟨rb, 3, none⟩ v) rb [I 2, .slice none 0 0, U dest, v] 29 ∧
      OwnI ((((A.setCell ⟨rb, 0, none⟩ (I 2)).setCell ⟨rb, 1, none⟩ (.slice none 0 0)).setCell ⟨rb, 2, none⟩ (U dest)).setCell ⟨rb, 3, none⟩ v) w.heap.size v o from fun A v o hx ho => by
    have hlt : rb < db + 1 := by have := HRL.out; have := HDB.out; omega
    have hle : w.heap.size ≤ db + 1 := by have := HX1.out.size; have := HOB.out; have := HDB.out; omega
    refine ⟨HSC.out _ _ _ (HSC.out _ _ _ (HSC.out _ _ _ (HSC.out _ _ _ (HX1.out.trans hx)))), ((((HR1.out.later hx).set 0 _).set 1 _).set 2 _).set 3 _, ?_⟩
    unfold OwnI at ho ⊢
    exact own_low (own_set (own_set (own_set (own_set ho hlt _) hlt _) hlt _) hlt _) hle)
  have HLEN := Lib.hid (tryT_len n tr)
  have HTB := Lib.hid (tryT_bd hn.1 tr)
  go_wp2_with fail
  go_loopw [7] (fun i wr => ∃ (k : Nat) (v : Value), k ≤ (tryT n tr).length ∧ i = I k ∧ Hid (Blk wr ob [I 2, .slice none 0 0, U dest, v] 29) ∧ Hid (OwnI wr (db + 1) v (foldT ((tryT n tr).take k))) ∧
    Hid (Blk wr db (usedV n (foldT ((tryT n tr).take k))) 4) ∧ Hid (Ext W1 wr)) (fun i _ => (tryT n tr).length - (intOf i).toNat)
  case atStart => exact ⟨0, .slice none 0 0, by omega, rfl, HO2, (show OwnI W2 (db + 1) (.slice none 0 0) [] from ⟨rfl, .inl ⟨rfl, rfl⟩⟩), HD2, HX2⟩
  case round =>
    obtain ⟨k, v, hk, rfl, HOBX, HOW, HDX, HX⟩ := hrel
    have hL := HLEN.out
    have HFG := Lib.hid (show GoodT n (foldT ((tryT n tr).take k)) from GoodT.fold _ (fun x hx => HTB.out x (List.mem_of_mem_take hx)) _ (GoodT.nil n))
    have hbc := (HB1.out.later HX.out).cells
    have hoc := HOBX.out.cells
    by_cases hlt : k < (tryT n tr).length
    · have HNX := Lib.hid (foldT_next hlt)
      have HZ := Lib.hid (show ∀ x, tr[k]? = some x → (tryT n tr)[k] = fitRk n x from fun x hx => by
        unfold tryT
        have hne : tr ≠ [] := by rintro rfl; cases hx
        obtain ⟨h1, h2⟩ := List.getElem?_eq_some_iff.1 hx
        simp only [if_neg hne, List.getElem_map, h2])
      have HZ0 := Lib.hid (show tr.length ≤ k → (tryT n tr)[k] = 0 from fun h => by
        have : tr = [] := List.length_eq_zero_iff.1 (by omega)
        subst this
        simp [tryT])
      obtain ⟨hz1, hz2⟩ := HTB.out _ (List.getElem_mem hlt)
      obtain ⟨zN, hzN⟩ : ∃ zN : Nat, (tryT n tr)[k] = (zN : Int) := ⟨(tryT n tr)[k].toNat, by omega⟩
      have hzn : zN < n := by omega
      rw [hzN] at HNX HZ HZ0
      generalize foldT ((tryT n tr).take k) = o at *
      have hol := nodup_few n o HFG.out.nodup HFG.out.mem
      have hrd : IntsAt wr v o := Reads.of_own HOW.out
      obtain ⟨va, vc, hve, -, -, HOF⟩ := hrd.form
      clear hrd
      replace HOF := Lib.hid HOF
      subst hve
      clear hz1 hz2 hzN hL HFG
      by_cases hktr : k < tr.length
      · have hkd : decide ((k : Int) < (tr.length : Int)) = true := decide_eq_true (by omega)
        obtain ⟨b0, o0, he0, q0⟩ := T3.out k tr[k] (List.getElem?_eq_getElem hktr)
        subst he0
        replace q0 := (HX1.out.trans HX.out).cell q0
        have HXI := Lib.hid (HTR.out _ (List.getElem_mem hktr))
        have HZX := Lib.hid (HZ.out _ (List.getElem?_eq_getElem hktr))
        generalize tr[k] = x at *
        obtain ⟨x1, x2⟩ := HXI.out
        obtain ⟨y1, y2⟩ := tmod_bd x n (by omega)
        have hz : (x.tmod n + n).tmod n = (zN : Int) := HZX.out.symm
        have hz3 : (x.tmod n + n) % n = (zN : Int) := (Int.tmod_eq_emod_of_nonneg (by omega)).symm.trans hz
        go_upto_region 10 with (fail)
        have hu := HDX.out.cells zN
        rw [usedV_get _ hzn] at hu
        by_cases hin : (zN : Int) ∈ o
        · have HSAME := Lib.hid (show addT (zN : Int) o = o by unfold addT; rw [if_pos hin])
          rw [decide_eq_true hin] at hu
          go_wp2_with fail
          go_roundw
          case rel =>
            refine ⟨k + 1, .slice va o.length vc, by omega, by go_num, HOBX, ?_, ?_, HX⟩
            · rw [HNX.out, HSAME.out]; exact HOW
            · rw [HNX.out, HSAME.out]; exact HDX
          case measure => simp [intOf]; omega
        · rw [decide_eq_false hin] at hu
          by_cases hz : o.length = 0
          · have hz0 : ((o.length : Int) == 0) = true := by simp [hz]
            have HADD := Lib.hid (show addT (zN : Int) o = o ++ [(zN : Int)] by unfold addT; rw [if_neg hin, if_pos (.inl (List.length_eq_zero_iff.1 hz))])
            clear hz
            have HSA := Lib.hid (show Ext wr (wr.alloc (.cells #[I zN] 3)) from (Ext.refl _).alloc _)
            have HOA := Lib.hid (show (wr.alloc (.cells #[I zN] 3)).ownsRow (db + 1) 3 1 (.slice va o.length vc) o.length (icells o) from by have h := HOW.out.later HSA.out; unfold OwnI at h; exact h)
            have HBA := Lib.hid (HOBX.out.later HSA.out)
            have HDA := Lib.hid (HDX.out.later HSA.out)
            have HSRC := Lib.hid (Reads.made wr 1 3 1 [I zN] rfl (by unfold maxLen; omega))
            have HSZ := Lib.hid (show db + 1 ≤ (wr.alloc (.cells #[I zN] 3)).heap.size from HDA.out.lt)
            go_wp2_with (first
              | (at_builtin
                 refine wpList_app rfl (.tmp 77) (.tmp 79) 27 rfl (db + 1) 3 _ 1 8 Try.underlying27 infoInt rfl (by decide) (by decide) _ _ _ rfl HOA.out _ _ _ rfl HSRC.out (by intro q hq; simp at hq; subst hq; rfl) (by omega) HSZ.out ?_
                 intro v9 w9 ho9 hg9
                 have hb9 := blk_grownT HBA.out HOA.out (by decide) hg9
                 have hd9 := blk_grownT HDA.out HOA.out (by decide) hg9
                 obtain ⟨xa, xc, hxv⟩ := own_form ho9
                 subst hxv
                 have hbc9 := hb9.cells
                 have hbf9 := hb9.frozen
                 have HB9 := Lib.hid (hb9.set 3 (.slice xa (o.length + 1) xc))
                 have HD9 := Lib.hid (Blk.otherP (p := ⟨ob, 3, none⟩) (v := .slice xa (o.length + 1) xc) (by have := HDB.out; show ob ≠ db; omega) hd9)
                 have HDN := Lib.hid ((HD9.out.set zN (.bool true)))
                 have hdc9 := HD9.out.cells zN
                 have hdf9 := HD9.out.frozen zN
                 rw [usedV_get _ hzn, decide_eq_false hin] at hdc9
                 have HO9 := Lib.hid (own_set (own_set ho9 (p := ⟨ob, 3, none⟩) (by have := HDB.out; show ob < db + 1; omega) (.slice xa (o.length + 1) xc)) (p := ⟨db, zN, none⟩) (by show db < db + 1; omega) (.bool true))
                 have HX9 := Lib.hid ((Below.grown (HX.out.trans HSA.out) hg9 ((HX.out.trans HSA.out).size) (fun g e => by have := own_ge HOA.out g e; have := HOB.out; have := HDB.out; omega)))
                 clear ho9 hg9 hb9 hd9))
            go_roundw
            case rel =>
              refine ⟨k + 1, .slice xa (o.length + 1) xc, by omega, by go_num, ?_, ?_, ?_, ?_⟩
              · exact Blk.otherP (p := ⟨db, zN, none⟩) (by have := HDB.out; show db ≠ ob; omega) HB9.out
              · rw [HNX.out, HADD.out]
                have h := HO9.out
                show OwnI _ _ _ _
                unfold OwnI
                rw [List.length_append]
                simpa [icells] using h
              · rw [HNX.out, HADD.out, ← usedV_set o hzn]
                exact HDN.out
              · exact (HX9.out.setCell (p := ⟨ob, 3, none⟩) (by have := HOB.out; show W1.heap.size ≤ ob; omega) _).setCell (p := ⟨db, zN, none⟩) (by have := HOB.out; have := HDB.out; show W1.heap.size ≤ db; omega) _
            case measure => simp [intOf]; omega
          · have hz0 : ((o.length : Int) == 0) = false := beq_false_of_ne (by omega)
            obtain ⟨x0, hx0⟩ : ∃ x0, o[0]? = some x0 := ⟨o[0], List.getElem?_eq_getElem (by omega)⟩
            have hhd : o.headD 0 = x0 := by cases o with
              | nil => cases hx0
              | cons y t => simpa using hx0
            obtain ⟨b7, o7, he7, q7⟩ := HOF.out 0 x0 hx0
            subst he7
            have hps : decide ((o.length : Int) ≤ 0) = false := decide_eq_false (by omega)
            have hps2 : decide (o.length ≤ 0) = false := decide_eq_false (by omega)
            have hps3 : decide (0 < o.length) = true := decide_eq_true (by omega)
            have hps4 : 0 < o.length := by omega
            rw [Nat.add_zero] at q7
            by_cases hgt : x0 < (zN : Int)
            · have hg1 : decide (x0 < (zN : Int)) = true := decide_eq_true hgt
              have HADD := Lib.hid (show addT (zN : Int) o = o ++ [(zN : Int)] by unfold addT; rw [if_neg hin, if_pos (.inr (by rw [hhd]; exact hgt))])
              have HSA := Lib.hid (show Ext wr (wr.alloc (.cells #[I zN] 3)) from (Ext.refl _).alloc _)
              have HOA := Lib.hid (show (wr.alloc (.cells #[I zN] 3)).ownsRow (db + 1) 3 1 (.slice (some ⟨b7, o7, none⟩) o.length vc) o.length (icells o) from by have h := HOW.out.later HSA.out; unfold OwnI at h; exact h)
              have HBA := Lib.hid (HOBX.out.later HSA.out)
              have HDA := Lib.hid (HDX.out.later HSA.out)
              have HSRC := Lib.hid (Reads.made wr 1 3 1 [I zN] rfl (by unfold maxLen; omega))
              have HSZ := Lib.hid (show db + 1 ≤ (wr.alloc (.cells #[I zN] 3)).heap.size from HDA.out.lt)
              go_wp2_with (first
                | (at_builtin
                   refine wpList_app rfl (.tmp 77) (.tmp 79) 27 rfl (db + 1) 3 _ 1 8 Try.underlying27 infoInt rfl (by decide) (by decide) _ _ _ rfl HOA.out _ _ _ rfl HSRC.out (by intro q hq; simp at hq; subst hq; rfl) (by omega) HSZ.out ?_
                   intro v9 w9 ho9 hg9
                   have hb9 := blk_grownT HBA.out HOA.out (by decide) hg9
                   have hd9 := blk_grownT HDA.out HOA.out (by decide) hg9
                   obtain ⟨xa, xc, hxv⟩ := own_form ho9
                   subst hxv
                   have hbc9 := hb9.cells
                   have hbf9 := hb9.frozen
                   have HB9 := Lib.hid (hb9.set 3 (.slice xa (o.length + 1) xc))
                   have HD9 := Lib.hid (Blk.otherP (p := ⟨ob, 3, none⟩) (v := .slice xa (o.length + 1) xc) (by have := HDB.out; show ob ≠ db; omega) hd9)
                   have HDN := Lib.hid ((HD9.out.set zN (.bool true)))
                   have hdc9 := HD9.out.cells zN
                   have hdf9 := HD9.out.frozen zN
                   rw [usedV_get _ hzn, decide_eq_false hin] at hdc9
                   have HO9 := Lib.hid (own_set (own_set ho9 (p := ⟨ob, 3, none⟩) (by have := HDB.out; show ob < db + 1; omega) (.slice xa (o.length + 1) xc)) (p := ⟨db, zN, none⟩) (by show db < db + 1; omega) (.bool true))
                   have HX9 := Lib.hid ((Below.grown (HX.out.trans HSA.out) hg9 ((HX.out.trans HSA.out).size) (fun g e => by have := own_ge HOA.out g e; have := HOB.out; have := HDB.out; omega)))
                   clear ho9 hg9 hb9 hd9))
              go_roundw
              case rel =>
                refine ⟨k + 1, .slice xa (o.length + 1) xc, by omega, by go_num, ?_, ?_, ?_, ?_⟩
                · exact Blk.otherP (p := ⟨db, zN, none⟩) (by have := HDB.out; show db ≠ ob; omega) HB9.out
                · rw [HNX.out, HADD.out]
                  have h := HO9.out
                  show OwnI _ _ _ _
                  unfold OwnI
                  rw [List.length_append]
                  simpa [icells] using h
                · rw [HNX.out, HADD.out, ← usedV_set o hzn]
                  exact HDN.out
                · exact (HX9.out.setCell (p := ⟨ob, 3, none⟩) (by have := HOB.out; show W1.heap.size ≤ ob; omega) _).setCell (p := ⟨db, zN, none⟩) (by have := HOB.out; have := HDB.out; show W1.heap.size ≤ db; omega) _
              case measure => simp [intOf]; omega
            · have hg1 : decide (x0 < (zN : Int)) = false := decide_eq_false hgt
              have HSAME := Lib.hid (show addT (zN : Int) o = o by unfold addT; rw [if_neg hin, if_neg (by rw [hhd]; rintro (h | h); exact hz (by rw [h]; rfl); exact hgt h)])
              go_wp2_with fail
              go_roundw
              case rel =>
                refine ⟨k + 1, .slice (some ⟨b7, o7, none⟩) o.length vc, by omega, by go_num, HOBX, ?_, ?_, HX⟩
                · rw [HNX.out, HSAME.out]; exact HOW
                · rw [HNX.out, HSAME.out]; exact HDX
              case measure => simp [intOf]; omega
      · have hkd : decide ((k : Int) < (tr.length : Int)) = false := decide_eq_false (by omega)
        have hk0 : k = 0 := by have := HLEN.out; omega
        have hz0 : zN = 0 := by have := HZ0.out (by omega); omega
        subst hk0
        subst hz0
        have hkz : (((0 : Nat) : Int) == 0) = true := rfl
        go_upto_region 10 with (fail)
        have hu := HDX.out.cells 0
        rw [usedV_get _ hzn] at hu
        by_cases hin : ((0 : Nat) : Int) ∈ o
        · have HSAME := Lib.hid (show addT ((0 : Nat) : Int) o = o by unfold addT; rw [if_pos hin])
          rw [decide_eq_true hin] at hu
          go_wp2_with fail
          go_roundw
          case rel =>
            refine ⟨0 + 1, .slice va o.length vc, by omega, by go_num, HOBX, ?_, ?_, HX⟩
            · rw [HNX.out, HSAME.out]; exact HOW
            · rw [HNX.out, HSAME.out]; exact HDX
          case measure => simp [intOf]; omega
        · rw [decide_eq_false hin] at hu
          by_cases hz : o.length = 0
          · have hz0 : ((o.length : Int) == 0) = true := by simp [hz]
            have HADD := Lib.hid (show addT ((0 : Nat) : Int) o = o ++ [((0 : Nat) : Int)] by unfold addT; rw [if_neg hin, if_pos (.inl (List.length_eq_zero_iff.1 hz))])
            clear hz
            have HSA := Lib.hid (show Ext wr (wr.alloc (.cells #[I 0] 3)) from (Ext.refl _).alloc _)
            have HOA := Lib.hid (show (wr.alloc (.cells #[I 0] 3)).ownsRow (db + 1) 3 1 (.slice va o.length vc) o.length (icells o) from by have h := HOW.out.later HSA.out; unfold OwnI at h; exact h)
            have HBA := Lib.hid (HOBX.out.later HSA.out)
            have HDA := Lib.hid (HDX.out.later HSA.out)
            have HSRC := Lib.hid (Reads.made wr 1 3 1 [I 0] rfl (by unfold maxLen; omega))
            have HSZ := Lib.hid (show db + 1 ≤ (wr.alloc (.cells #[I 0] 3)).heap.size from HDA.out.lt)
            go_wp2_with (first
              | (at_builtin
                 refine wpList_app rfl (.tmp 77) (.tmp 79) 27 rfl (db + 1) 3 _ 1 8 Try.underlying27 infoInt rfl (by decide) (by decide) _ _ _ rfl HOA.out _ _ _ rfl HSRC.out (by intro q hq; simp at hq; subst hq; rfl) (by omega) HSZ.out ?_
                 intro v9 w9 ho9 hg9
                 have hb9 := blk_grownT HBA.out HOA.out (by decide) hg9
                 have hd9 := blk_grownT HDA.out HOA.out (by decide) hg9
                 obtain ⟨xa, xc, hxv⟩ := own_form ho9
                 subst hxv
                 have hbc9 := hb9.cells
                 have hbf9 := hb9.frozen
                 have HB9 := Lib.hid (hb9.set 3 (.slice xa (o.length + 1) xc))
                 have HD9 := Lib.hid (Blk.otherP (p := ⟨ob, 3, none⟩) (v := .slice xa (o.length + 1) xc) (by have := HDB.out; show ob ≠ db; omega) hd9)
                 have HDN := Lib.hid ((HD9.out.set 0 (.bool true)))
                 have hdc9 := HD9.out.cells 0
                 have hdf9 := HD9.out.frozen 0
                 rw [usedV_get _ hzn, decide_eq_false hin] at hdc9
                 have HO9 := Lib.hid (own_set (own_set ho9 (p := ⟨ob, 3, none⟩) (by have := HDB.out; show ob < db + 1; omega) (.slice xa (o.length + 1) xc)) (p := ⟨db, 0, none⟩) (by show db < db + 1; omega) (.bool true))
                 have HX9 := Lib.hid ((Below.grown (HX.out.trans HSA.out) hg9 ((HX.out.trans HSA.out).size) (fun g e => by have := own_ge HOA.out g e; have := HOB.out; have := HDB.out; omega)))
                 clear ho9 hg9 hb9 hd9))
            go_roundw
            case rel =>
              refine ⟨0 + 1, .slice xa (o.length + 1) xc, by omega, by go_num, ?_, ?_, ?_, ?_⟩
              · exact Blk.otherP (p := ⟨db, 0, none⟩) (by have := HDB.out; show db ≠ ob; omega) HB9.out
              · rw [HNX.out, HADD.out]
                have h := HO9.out
                show OwnI _ _ _ _
                unfold OwnI
                rw [List.length_append]
                simpa [icells] using h
              · rw [HNX.out, HADD.out, ← usedV_set o hzn]
                exact HDN.out
              · exact (HX9.out.setCell (p := ⟨ob, 3, none⟩) (by have := HOB.out; show W1.heap.size ≤ ob; omega) _).setCell (p := ⟨db, 0, none⟩) (by have := HOB.out; have := HDB.out; show W1.heap.size ≤ db; omega) _
            case measure => simp [intOf]; omega
          · have hz0 : ((o.length : Int) == 0) = false := beq_false_of_ne (by omega)
            obtain ⟨x0, hx0⟩ : ∃ x0, o[0]? = some x0 := ⟨o[0], List.getElem?_eq_getElem (by omega)⟩
            have hhd : o.headD 0 = x0 := by cases o with
              | nil => cases hx0
              | cons y t => simpa using hx0
            obtain ⟨b7, o7, he7, q7⟩ := HOF.out 0 x0 hx0
            subst he7
            have hps : decide ((o.length : Int) ≤ 0) = false := decide_eq_false (by omega)
            have hps2 : decide (o.length ≤ 0) = false := decide_eq_false (by omega)
            have hps3 : decide (0 < o.length) = true := decide_eq_true (by omega)
            have hps4 : 0 < o.length := by omega
            rw [Nat.add_zero] at q7
            by_cases hgt : x0 < ((0 : Nat) : Int)
            · have hg1 : decide (x0 < (0 : Int)) = true := decide_eq_true hgt
              have HADD := Lib.hid (show addT ((0 : Nat) : Int) o = o ++ [((0 : Nat) : Int)] by unfold addT; rw [if_neg hin, if_pos (.inr (by rw [hhd]; exact hgt))])
              have HSA := Lib.hid (show Ext wr (wr.alloc (.cells #[I 0] 3)) from (Ext.refl _).alloc _)
              have HOA := Lib.hid (show (wr.alloc (.cells #[I 0] 3)).ownsRow (db + 1) 3 1 (.slice (some ⟨b7, o7, none⟩) o.length vc) o.length (icells o) from by have h := HOW.out.later HSA.out; unfold OwnI at h; exact h)
              have HBA := Lib.hid (HOBX.out.later HSA.out)
              have HDA := Lib.hid (HDX.out.later HSA.out)
              have HSRC := Lib.hid (Reads.made wr 1 3 1 [I 0] rfl (by unfold maxLen; omega))
              have HSZ := Lib.hid (show db + 1 ≤ (wr.alloc (.cells #[I 0] 3)).heap.size from HDA.out.lt)
              go_wp2_with (first
                | (at_builtin
                   refine wpList_app rfl (.tmp 77) (.tmp 79) 27 rfl (db + 1) 3 _ 1 8 Try.underlying27 infoInt rfl (by decide) (by decide) _ _ _ rfl HOA.out _ _ _ rfl HSRC.out (by intro q hq; simp at hq; subst hq; rfl) (by omega) HSZ.out ?_
                   intro v9 w9 ho9 hg9
                   have hb9 := blk_grownT HBA.out HOA.out (by decide) hg9
                   have hd9 := blk_grownT HDA.out HOA.out (by decide) hg9
                   obtain ⟨xa, xc, hxv⟩ := own_form ho9
                   subst hxv
                   have hbc9 := hb9.cells
                   have hbf9 := hb9.frozen
                   have HB9 := Lib.hid (hb9.set 3 (.slice xa (o.length + 1) xc))
                   have HD9 := Lib.hid (Blk.otherP (p := ⟨ob, 3, none⟩) (v := .slice xa (o.length + 1) xc) (by have := HDB.out; show ob ≠ db; omega) hd9)
                   have HDN := Lib.hid ((HD9.out.set 0 (.bool true)))
                   have hdc9 := HD9.out.cells 0
                   have hdf9 := HD9.out.frozen 0
                   rw [usedV_get _ hzn, decide_eq_false hin] at hdc9
                   have HO9 := Lib.hid (own_set (own_set ho9 (p := ⟨ob, 3, none⟩) (by have := HDB.out; show ob < db + 1; omega) (.slice xa (o.length + 1) xc)) (p := ⟨db, 0, none⟩) (by show db < db + 1; omega) (.bool true))
                   have HX9 := Lib.hid ((Below.grown (HX.out.trans HSA.out) hg9 ((HX.out.trans HSA.out).size) (fun g e => by have := own_ge HOA.out g e; have := HOB.out; have := HDB.out; omega)))
                   clear ho9 hg9 hb9 hd9))
              go_roundw
              case rel =>
                refine ⟨0 + 1, .slice xa (o.length + 1) xc, by omega, by go_num, ?_, ?_, ?_, ?_⟩
                · exact Blk.otherP (p := ⟨db, 0, none⟩) (by have := HDB.out; show db ≠ ob; omega) HB9.out
                · rw [HNX.out, HADD.out]
                  have h := HO9.out
                  show OwnI _ _ _ _
                  unfold OwnI
                  rw [List.length_append]
                  simpa [icells] using h
                · rw [HNX.out, HADD.out, ← usedV_set o hzn]
                  exact HDN.out
                · exact (HX9.out.setCell (p := ⟨ob, 3, none⟩) (by have := HOB.out; show W1.heap.size ≤ ob; omega) _).setCell (p := ⟨db, 0, none⟩) (by have := HOB.out; have := HDB.out; show W1.heap.size ≤ db; omega) _
              case measure => simp [intOf]; omega
            · have hg1 : decide (x0 < (0 : Int)) = false := decide_eq_false hgt
              have HSAME := Lib.hid (show addT ((0 : Nat) : Int) o = o by unfold addT; rw [if_neg hin, if_neg (by rw [hhd]; rintro (h | h); exact hz (by rw [h]; rfl); exact hgt h)])
              go_wp2_with fail
              go_roundw
              case rel =>
                refine ⟨0 + 1, .slice (some ⟨b7, o7, none⟩) o.length vc, by omega, by go_num, HOBX, ?_, ?_, HX⟩
                · rw [HNX.out, HSAME.out]; exact HOW
                · rw [HNX.out, HSAME.out]; exact HDX
              case measure => simp [intOf]; omega
    · have hkd : decide ((k : Int) < (tr.length : Int)) = false := decide_eq_false (by omega)
      have hkz : ((k : Int) == 0) = false := beq_false_of_ne (by omega)
      have HE := Lib.hid (show foldT ((tryT n tr).take k) = fitTr n tr by rw [List.take_of_length_le (by omega)]; rfl)
      rw [HE.out] at HOW
      clear HDX
      obtain ⟨va, vc, hve⟩ := own_form HOW.out
      subst hve
      obtain ⟨hf1, hf2, hf3⟩ := HFIN.out wr (.slice va (fitTr n tr).length vc) (fitTr n tr) HX.out HOW.out
      have hof := HOBX.out.frozen
      have hrc := (HR1.out.later HX.out).cells
      have hrf := (HR1.out.later HX.out).frozen
      go_wp2_with fail
      refine hideW (Φ := fun W => bodyPost _ _ _ _ _ W) (fun W => Ext w W ∧ Blk W rb [I 2, .slice none 0 0, U dest, .slice va (fitTr n tr).length vc] 29 ∧ OwnI W w.heap.size (.slice va (fitTr n tr).length vc) (fitTr n tr)) ⟨hf1, hf2, hf3⟩ (fun W9 hW9 => ?_)
      have hc9 := hW9.2.1.cells
      refine bodyPost_ret (v := .agg #[I 2, .slice none 0 0, U dest, .slice va (fitTr n tr).length vc]) (by rw [results_cell1 rfl]; go_simp) rfl ?_
      exact ⟨_, rfl, hW9.2.2, hW9.1⟩
end Go.Proofs.Ytpfkfboohblgoaa
