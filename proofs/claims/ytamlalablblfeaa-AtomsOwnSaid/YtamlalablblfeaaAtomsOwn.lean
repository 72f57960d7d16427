/- The law AtomsOwn: what is told of an address is the caller's own; a network turned about has the same begins. Conditions: whole numbers are within 64 bits. -/
import Derived.Test.YtamlalablblfeaaTurnP
import Derived.Test.YtamlalablblfeaaRevI
import Derived.Test.YtamlalablblfeaaAtomsOfG
import Derived.Test.YtamlalablblfeaaShown16
import Derived.Test.YtamlalablblfeaaCloneI
import Derived.Test.YtamlalablblfeaaRegion4
namespace Go.Proofs.Ytamlalablblfeaa
open Go Go.RowKit Go.Maps Go.Proofs

set_option maxHeartbeats 8000000 in
set_option maxRecDepth 100000 in
theorem atomsOwn_any (lv : Value) (ls : List (List Rul)) (a : BitVec 32) (w : World) (hl : TablesAt w lv ls) (hok : TablesOk ls) :
    Calls Try.prog 7 #[.agg #[lv], U a] w fun e w' => e = .returned (.bool true) ∧ Ext w w' := by
  have HL := Lib.hid hl
  have HOK := Lib.hid hok
  obtain ⟨ad, cap, hlv, a1, a2, a3⟩ := hl.form
  subst hlv
  clear a3 hl hok
  unfold maxLen at a2
  go_enter Try.func7, Try.ntmps7
  go_upto_region 1 with (fail)
  refine hideW (Φ := fun W => Code.wp _ _ _ _ W) (fun W => Ext w W ∧ Blk W w.heap.size [.slice ad ls.length cap] 24)
    ⟨by (repeat (first | with_reducible exact Ext.refl _ | with_reducible assumption | with_reducible refine Ext.alloc ?_ _ | with_reducible refine Ext.drew ?_ | with_reducible refine Ext.drewN ?_ _ | (with_reducible refine Ext.setCellP ?_ ?_; focus (first | (simp; done) | (simp; omega) | omega)))), (Blk.new w [.slice ad ls.length cap] 24)⟩ (fun W1 hW1 => ?_)
  obtain ⟨hx1, hb1⟩ := hW1
  have HX1 := Lib.hid hx1
  have HB1 := Lib.hid hb1
  clear hx1 hb1
  generalize w.heap.size = nb at *
  go_upto_region 2 with (first
    | (go_at_call 21; (with_reducible refine (shown16_any _).mono ?_); rintro e w2 ⟨rfl, hx2⟩; have HX2 := Lib.hid (HX1.out.trans hx2); have HB2 := Lib.hid (HB1.out.later hx2); clear hx2))
  have hbc2 := HB2.out.cells
  have HNM := Lib.hid (fitN_may ls)
  have HNS := Lib.hid (fitN_size ls)
  have HNO := Lib.hid (fitN_ok ls)
  have HN20 := Lib.hid (@fitN_short ls)
  have hN := fitN_bd ls
  go_upto_region 3 with (first
    | (go_at_call 25; (with_reducible refine (r09Fit_any _ ls _ (HL.out.later HX2.out) HOK.out).mono ?_); rintro e w3 ⟨v3, he, hF, hx3⟩; subst he; have HF3 := Lib.hid hF.tables; obtain ⟨va, vcap, hv3, q1, q2, q3⟩ := HF3.out.form; subst hv3; clear q3; have HX3 := Lib.hid (HX2.out.trans hx3); clear hF hx3))
  generalize fitN ls = N at *
  clear hbc2 HB2 HB1
  unfold maxLen at q2
  refine hideW (Φ := fun W => Code.wp _ _ _ _ W) (fun W => Ext w3 W ∧ Blk W w3.heap.size [.slice va N.length vcap] 24)
    ⟨by (repeat (first | with_reducible exact Ext.refl _ | with_reducible assumption | with_reducible refine Ext.alloc ?_ _ | with_reducible refine Ext.drew ?_ | with_reducible refine Ext.drewN ?_ _ | (with_reducible refine Ext.setCellP ?_ ?_; focus (first | (simp; done) | (simp; omega) | omega)))), Blk.new w3 [.slice va N.length vcap] 24⟩ (fun W4 hW4 => ?_)
  obtain ⟨hx4, hb4⟩ := hW4
  have HX4 := Lib.hid (HX3.out.trans hx4)
  have HF4 := Lib.hid (HF3.out.later hx4)
  have HB4 := Lib.hid hb4
  have hbc4 := hb4.cells
  clear hx4 hb4 HF3 HX3 HX1 HX2
  generalize w3.heap.size = fb at *
  have hmk := fun w => run_make_row' (P := Try.prog) 22 54 (.slice none 0 0) 24 Try.underlying22 infoRules rfl .i64 .i64 N.length (by omega) (by omega) w
  go_upto_region 5 with (fail)
  refine hideW (Φ := fun W => Code.wp _ _ _ _ W) (fun W => Ext W4 W ∧ Blk W W4.heap.size (List.replicate N.length (.slice none 0 0)) 54 ∧ Blk W (W4.heap.size + 1) [.slice (some ⟨W4.heap.size, 0, none⟩) N.length N.length] 24 ∧ W4.heap.size + 2 ≤ W.heap.size)
    ⟨by (repeat (first | with_reducible exact Ext.refl _ | with_reducible assumption | with_reducible refine Ext.alloc ?_ _ | with_reducible refine Ext.drew ?_ | with_reducible refine Ext.drewN ?_ _ | (with_reducible refine Ext.setCellP ?_ ?_; focus (first | (simp; done) | (simp; omega) | omega)))), (by
      have h := Blk.new W4 (madeCells #[.slice none 0 0] N.length).toList 54
      rw [toList_madeCells_one] at h
      have e : (madeCells #[Value.slice none 0 0] N.length) = (List.replicate N.length (Value.slice none 0 0)).toArray := by rw [← Array.toList_inj, toList_madeCells_one]
      rw [e]; exact h.old _), Blk.newAt _ (by simp), by simp⟩ (fun W5 hW5 => ?_)
  obtain ⟨hx5, hr5, hb5, hz5⟩ := hW5
  have HE5 := Lib.hid hx5
  have HU5 := Lib.hid hb5
  have HR5 := Lib.hid (show RevI W5 (W4.heap.size + 2) (W4.heap.size + 2) W4.heap.size N.length (fun j => turnL N.length (N.getD j [])) 0 [] from RevI.start _ hr5 (by omega) hz5)
  have HFB := Lib.hid HB4.out.lt
  have HSZ4 := Lib.hid (Nat.le_refl W4.heap.size)
  clear hx5 hb5 hr5 hz5 hmk hbc4
  generalize hr : W4.heap.size = r at *
  have HR := Lib.hid hr
  clear hr
  have HMAY := Lib.hid (netMay_tabs HNM.out).2.2
  go_wp2_with fail
  go_loopw [9] (fun i wr => ∃ (k C : Nat), k ≤ N.length ∧ i = I k ∧ Hid (RevI wr (r + 2) C r N.length (fun j => turnL N.length (N.getD j [])) k []) ∧ Hid (Ext W4 wr) ∧ Hid (Blk wr (r + 1) [.slice (some ⟨r, 0, none⟩) N.length N.length] 24)) (fun i _ => N.length - (intOf i).toNat)
  case atStart => exact ⟨0, r + 2, by omega, rfl, HR5.out, HE5.out, HU5.out⟩
  case round =>
    obtain ⟨k, C, hk, rfl, HI, HE, HU⟩ := hrel
    by_cases hlt : k < N.length
    · have hkd : decide ((k : Int) < (N.length : Int)) = true := decide_eq_true (by omega)
      have HNG := Lib.hid (show N.getD k [] = N[k] by rw [List.getD_eq_getElem?_getD, List.getElem?_eq_getElem hlt]; rfl)
      have HTM := Lib.hid (tabG_spec _ N[k] none (HMAY.out _ (List.getElem_mem hlt))).1
      have HL20 := Lib.hid (HN20.out _ (List.getElem_mem hlt))
      have HGK := Lib.hid (show N[k]? = some N[k] from List.getElem?_eq_getElem hlt)
      generalize hL : N[k] = L at *
      clear hL
      go_wp2_with fail
      go_loopw [10] (fun q wr => ∃ m : Nat, m ≤ L.length ∧ q = I m ∧ Hid (RevI wr (r + 2) C r N.length (fun j => turnL N.length (N.getD j [])) k (turnL N.length (L.take m))) ∧ Hid (Ext W4 wr) ∧ Hid (Blk wr (r + 1) [.slice (some ⟨r, 0, none⟩) N.length N.length] 24)) (fun q _ => L.length - (intOf q).toNat)
      case atStart => exact ⟨0, by omega, rfl, HI.out, HE.out, HU.out⟩
      case round =>
        obtain ⟨m, hm, rfl, HI2, HE2, HU2⟩ := hrel
        have hfb := (HB4.out.later HE2.out).cells
        obtain ⟨ta, tc, htv, t1, t2, t3⟩ := (HF4.out.later HE2.out).form
        simp only [Value.slice.injEq, true_and] at htv
        obtain ⟨rfl, rfl⟩ := htv
        obtain ⟨b0, o0, u0, he0, p0, hu0⟩ := t3 k L HGK.out
        subst he0
        obtain ⟨ra, rc, hrv, s1, s2, s3⟩ := hu0.form
        subst hrv
        unfold maxLen at s2
        clear t3
        by_cases hml : m < L.length
        · have hmd : decide ((m : Int) < (L.length : Int)) = true := decide_eq_true (by omega)
          obtain ⟨b1, o1, he1, c0, c1, c2, c3⟩ := s3 m L[m] (List.getElem?_eq_getElem hml)
          subst he1
          have HMR := Lib.hid (HTM.out _ (List.getElem_mem hml))
          have HTK := Lib.hid (show turnL N.length (L.take (m + 1)) = turnL N.length (L.take m) ++ [turnR N.length L[m]] by unfold turnL; rw [List.take_succ_eq_append_getElem hml, List.map_append]; rfl)
          clear s3
          generalize L[m] = q at *
          go_upto_region 12 with (fail)
          refine hideW (Φ := fun W => Code.wp _ _ _ _ W) (fun W => Ext wr W ∧ Blk W wr.heap.size [U q.pa, I q.pl, I q.act, I q.nx] 53)
            ⟨by (repeat (first | with_reducible exact Ext.refl _ | with_reducible assumption | with_reducible refine Ext.alloc ?_ _ | with_reducible refine Ext.drew ?_ | with_reducible refine Ext.drewN ?_ _ | (with_reducible refine Ext.setCellP ?_ ?_; focus (first | (simp; done) | (simp; omega) | omega)))), Blk.new wr [U q.pa, I q.pl, I q.act, I q.nx] 53⟩ (fun W6 hW6 => ?_)
          obtain ⟨hx6, hb6⟩ := hW6
          have HX6 := Lib.hid hx6
          have HQ6 := Lib.hid hb6
          have HRBZ := Lib.hid (Nat.le_refl wr.heap.size)
          clear hx6 hb6 p0 c0 c1 c2 c3 hu0 hfb
          generalize hrb : wr.heap.size = rb at *
          have HRB := Lib.hid hrb
          clear hrb
          have hqc := HQ6.out.cells
          have hqf := HQ6.out.frozen
          go_upto_if 60 with fail
          go_cut [] (fun wc => Hid (Ext wr wc) ∧ Hid (Blk wc rb [U (turnR N.length q).pa, I (turnR N.length q).pl, I (turnR N.length q).act, I (turnR N.length q).nx] 53))
          case first =>
            by_cases ha : q.act = 1
            · have HT := Lib.hid (show turnR N.length q = ⟨q.pa, q.pl, q.act, (N.length : Int) - 1 - q.nx⟩ by unfold turnR; rw [if_pos ha])
              have hnx : 0 ≤ q.nx ∧ q.nx < N.length := by
                have h := HMR.out
                unfold ruleMayV at h
                by_cases hm0 : mayV q.pa q.pl = 0
                · simp only [hm0, ha] at h
                  simp at h
                  exact h
                · rw [if_pos hm0] at h; exact absurd h hm0
              have hab : (q.act == 1) = true := by simp [ha]
              clear ha
              go_wp2_with fail
              go_meet
              case rel =>
                refine ⟨HX6.out.setCell (by show wr.heap.size ≤ rb; rw [HRB.out]; exact Nat.le_refl _) _, ?_⟩
                show Blk _ _ _ _
                rw [HT.out]
                exact HQ6.out.set 3 _
            · have HT := Lib.hid (show turnR N.length q = q by unfold turnR; rw [if_neg ha])
              have hab : (q.act == 1) = false := beq_false_of_ne ha
              clear ha
              go_wp2_with fail
              go_meet
              case rel =>
                refine ⟨HX6.out, ?_⟩
                show Blk _ _ _ _
                rw [HT.out]
                exact HQ6.out
          case rest =>
            obtain ⟨HXC, HQC⟩ := hcut
            have HIC := Lib.hid (HI2.out.later HXC.out)
            have HEC := Lib.hid (HE2.out.trans HXC.out)
            have HUC := Lib.hid (HU2.out.later HXC.out)
            obtain ⟨uc, hu1, hu2, hu3⟩ := HIC.out.cur hlt
            obtain ⟨xa, xc, hux⟩ := own_form hu3
            subst hux
            have HCU := Lib.hid hu1
            have HOC := Lib.hid hu3
            have HBC := Lib.hid HIC.out.BC
            have hmt : (turnL N.length (L.take m)).length ≤ 20 := by rw [turnL_len, List.length_take]; have := HL20.out; omega
            clear hu1 hu2 hu3 hqc hqf HQ6 HX6
            generalize turnR N.length q = q' at *
            generalize turnL N.length (L.take m) = cur at *
            have hp : (N.length : Int) - 1 - (k : Int) = ((N.length - 1 - k : Nat) : Int) := by omega
            have hpl : N.length - 1 - k < N.length := by omega
            have hwp : IntKind.i64.wrap ((N.length - 1 - k : Nat) : Int) = ((N.length - 1 - k : Nat) : Int) := by rw [IntKind.wrap_i64]; omega
            generalize hpp : N.length - 1 - k = p at *
            go_upto_region 14 with (fail)
            refine wp_region_R (RB (C)) 18 rfl (by kernel_rfl) (by kernel_rfl) (fun w0 hx0 => ?_)
            have HX0 := Lib.hid hx0
            have HI0 := Lib.hid (HIC.out.later hx0)
            have q1 := RB.keep (B := C) HI0.out.sz (by show r + 1 < C; have := HBC.out; omega) ((HUC.out.later hx0).cells 0)
            have q2 := RB.keep (B := C) HI0.out.sz (by show r < C; have := HBC.out; omega) (hx0.cell HCU.out)
            clear hx0
            refine WR_q (preRB _) 0 rfl (by decide) (by kernel_rfl) rfl ?_; apply Exists.intro; refine ⟨fun w1 hx1 => ?_, ?_⟩
            · go_simp; try go_bits
              first | with_reducible rfl | rfl
            simp only [Act.put, List.setIfInBounds_toArray, List.set_cons_zero, List.set_cons_succ]
            refine WR_q (preRB _) 1 rfl (by decide) (by kernel_rfl) rfl ?_; apply Exists.intro; refine ⟨fun w1 hx1 => ?_, ?_⟩
            · go_simp; try go_bits
              first | with_reducible rfl | rfl
            simp only [Act.put, List.setIfInBounds_toArray, List.set_cons_zero, List.set_cons_succ]
            refine WR_q (preRB _) 2 rfl (by decide) (by kernel_rfl) rfl ?_; apply Exists.intro; refine ⟨fun w1 hx1 => ?_, ?_⟩
            · go_simp; try go_bits
              first | with_reducible rfl | rfl
            simp only [Act.put, List.setIfInBounds_toArray, List.set_cons_zero, List.set_cons_succ]
            refine WR_q (preRB _) 3 rfl (by decide) (by kernel_rfl) rfl ?_; apply Exists.intro; refine ⟨fun w1 hx1 => ?_, ?_⟩
            · go_simp; try go_bits
              first | with_reducible rfl | rfl
            simp only [Act.put, List.setIfInBounds_toArray, List.set_cons_zero, List.set_cons_succ]
            refine WR_q (preRB _) 4 rfl (by decide) (by kernel_rfl) rfl ?_; apply Exists.intro; refine ⟨fun w1 hx1 => ?_, ?_⟩
            · go_simp; try go_bits
              first | with_reducible rfl | rfl
            simp only [Act.put, List.setIfInBounds_toArray, List.set_cons_zero, List.set_cons_succ]
            refine WR_q (preRB _) 5 rfl (by decide) (by kernel_rfl) rfl ?_; apply Exists.intro; refine ⟨fun w1 hx1 => ?_, ?_⟩
            · go_simp; try go_bits
              first | with_reducible rfl | rfl
            simp only [Act.put, List.setIfInBounds_toArray, List.set_cons_zero, List.set_cons_succ]
            refine WR_q (preRB _) 6 rfl (by decide) (by kernel_rfl) rfl ?_; apply Exists.intro; refine ⟨fun w1 hx1 => ?_, ?_⟩
            · go_simp; try go_bits
              first | with_reducible rfl | rfl
            simp only [Act.put, List.setIfInBounds_toArray, List.set_cons_zero, List.set_cons_succ]
            refine WR_q (preRB _) 7 rfl (by decide) (by kernel_rfl) rfl ?_; apply Exists.intro; refine ⟨fun w1 hx1 => ?_, ?_⟩
            · go_simp; try go_bits
              first | with_reducible rfl | rfl
            simp only [Act.put, List.setIfInBounds_toArray, List.set_cons_zero, List.set_cons_succ]
            refine WR_q (preRB _) 8 rfl (by decide) (by kernel_rfl) rfl ?_; apply Exists.intro; refine ⟨fun w1 hx1 => ?_, ?_⟩
            · go_simp; try go_bits
              first | with_reducible rfl | rfl
            simp only [Act.put, List.setIfInBounds_toArray, List.set_cons_zero, List.set_cons_succ]
            refine WR_q (preRB _) 9 rfl (by decide) (by kernel_rfl) rfl ?_; apply Exists.intro; refine ⟨fun w1 hx1 => ?_, ?_⟩
            · go_simp; try go_bits
              first | with_reducible rfl | rfl
            simp only [Act.put, List.setIfInBounds_toArray, List.set_cons_zero, List.set_cons_succ]
            refine WR_q (preRB _) 10 rfl (by decide) (by kernel_rfl) rfl ?_; apply Exists.intro; refine ⟨fun w1 hx1 => ?_, ?_⟩
            · go_simp; try go_bits
              first | with_reducible rfl | rfl
            simp only [Act.put, List.setIfInBounds_toArray, List.set_cons_zero, List.set_cons_succ]
            refine WR_q (preRB _) 11 rfl (by decide) (by kernel_rfl) rfl ?_; apply Exists.intro; refine ⟨fun w1 hx1 => ?_, ?_⟩
            · go_simp; try go_bits
              first | with_reducible rfl | rfl
            simp only [Act.put, List.setIfInBounds_toArray, List.set_cons_zero, List.set_cons_succ]
            refine WR_q (preRB _) 12 rfl (by decide) (by kernel_rfl) rfl ?_; apply Exists.intro; refine ⟨fun w1 hx1 => ?_, ?_⟩
            · go_simp; try go_bits
              first | with_reducible rfl | rfl
            simp only [Act.put, List.setIfInBounds_toArray, List.set_cons_zero, List.set_cons_succ]
            refine WR_q (preRB _) 13 rfl (by decide) (by kernel_rfl) rfl ?_; apply Exists.intro; refine ⟨fun w1 hx1 => ?_, ?_⟩
            · go_simp; try go_bits
              first | with_reducible rfl | rfl
            simp only [Act.put, List.setIfInBounds_toArray, List.set_cons_zero, List.set_cons_succ]
            clear q1 q2
            have q3 := (HQC.out.later HX0.out).cells
            refine WR_one 14 rfl (by decide) (by kernel_rfl) rfl (fun K hK => ?_)
            go_simp
            refine hK _ _ (RB.ext (Ext.refl _)) ?_
            clear hK K
            refine WR_one 15 rfl (by decide) (by kernel_rfl) rfl (fun K hK => ?_)
            go_simp
            refine hK _ _ (RB.ext ((Ext.refl _).alloc _)) ?_
            clear hK K q3
            have HIA := Lib.hid (HI0.out.later ((Ext.refl w0).alloc (.cells #[U q'.pa, I q'.pl, I q'.act, I q'.nx] 53)))
            have HOA := Lib.hid (own_later HOC.out (HX0.out.trans ((Ext.refl w0).alloc (.cells #[U q'.pa, I q'.pl, I q'.act, I q'.nx] 53))))
            have HSA := Lib.hid (show Reads (w0.alloc (.cells #[U q'.pa, I q'.pl, I q'.act, I q'.nx] 53)) 4 (.slice (some ⟨w0.heap.size, 0, none⟩) 1 1) 1 q'.cells from Reads.made w0 4 53 1 q'.cells rfl (by unfold maxLen; omega))
            have HCA := Lib.hid (show (w0.alloc (.cells #[U q'.pa, I q'.pl, I q'.act, I q'.nx] 53)).cell? ⟨r, p, none⟩ = some (.slice xa cur.length xc) from ((Ext.refl w0).alloc _).cell (HX0.out.cell HCU.out))
            refine WR_one 16 rfl (by decide) (by kernel_rfl) rfl (fun K hK => ?_)
            refine wp_of_list (ops := #[]) rfl ?_
            refine wpList_app_at rfl (.tmp 80) (.tmp 82) 54 rfl C 53 _ 4 32 Try.underlying54 infoRule rfl (by decide) (by decide) _ _ _ rfl HOA.out _ _ _ rfl HSA.out (by intro u hu; exact rcells_one [q'] u (by simpa [rcells] using hu)) (by omega) HIA.out.sz ?_
            intro v8 w8 ho8 hg8 hl8
            refine ⟨rfl, hK _ _ (RB.below HIA.out.sz (Below.grown (Below.refl _ _) hg8 HIA.out.sz fun g hg => (HOA.out.lt g hg).1)) ?_⟩
            clear hK K
            obtain ⟨ya, yc, hv8⟩ := own_form ho8
            subst hv8
            have HGE := Lib.hid (own_ge HOA.out)
            have HI8 := Lib.hid (show RevI (w8.setCell ⟨r, p, none⟩ (.slice ya (cur.length + 1) yc)) (r + 2) C r N.length (fun j => turnL N.length (N.getD j [])) k (cur ++ [q']) from by
              subst hpp
              exact HIA.out.put hlt HCA.out hg8 ho8)
            have HE8 := Lib.hid (show Ext W4 (w8.setCell ⟨r, p, none⟩ (.slice ya (cur.length + 1) yc)) from (Below.grown (HEC.out.trans (HX0.out.trans ((Ext.refl w0).alloc _))) hg8 ((HEC.out.trans (HX0.out.trans ((Ext.refl w0).alloc _))).size) (fun g e => by have := HGE.out g e; have := HBC.out; have := HR.out; omega)).setCell (by show W4.heap.size ≤ r; have := HR.out; omega) _)
            have hb8' := blk_grown ((HUC.out.later HX0.out).old (.cells #[U q'.pa, I q'.pl, I q'.act, I q'.nx] 53)) (fun g e => by have := HGE.out g e; have := HBC.out; omega) hg8
            have HU8 := Lib.hid (hb8'.other (p := ⟨r, p, none⟩) (by simp) (.slice ya (cur.length + 1) yc))
            have hbn := hb8'.cells
            obtain ⟨vs8, hvl8, hvb8, -⟩ := HIA.out.ex
            have hvc8 := (blk_grown hvb8 (fun g e => by have := HGE.out g e; have := HBC.out; omega) hg8)
            have hc8 : w8.cell? ⟨r, p, none⟩ = some (.slice xa cur.length xc) := by rw [hvc8.cells, ← hvb8.cells]; exact HCA.out
            have hf8 := hvc8.frozen
            clear ho8 hg8 hl8 hb8'
            refine WR_q (preRB _) 17 rfl (by decide) (by kernel_rfl) rfl ?_; apply Exists.intro; refine ⟨fun w1 hx1 => ?_, ?_⟩
            · go_simp; try go_bits
              first | with_reducible rfl | rfl
            simp only [Act.put, List.setIfInBounds_toArray, List.set_cons_zero, List.set_cons_succ]
            refine WR_done (by kernel_rfl) ?_
            (try simp only [List.drop_succ_cons, List.drop_zero])
            go_wp2_with fail
            go_roundw
            case rel => exact ⟨m + 1, by omega, by go_num, by show RevI _ _ _ _ _ _ _ _; rw [HTK.out]; exact HI8.out, HE8.out, HU8.out⟩
            case measure => simp [intOf]; omega
        · have hmd : decide ((m : Int) < (L.length : Int)) = false := decide_eq_false (by omega)
          have hmn : decide (m < L.length) = false := decide_eq_false hml
          have HALL := Lib.hid (show L.take m = L from List.take_of_length_le (by omega))
          rw [HALL.out] at HI2
          have HNX := Lib.hid (HI2.out.next hlt (by show _ = turnL N.length (N.getD k []); rw [HNG.out]))
          clear s3
          go_wp2_with fail
          go_roundw
          case rel => exact ⟨k + 1, wr.heap.size, by omega, by go_num, HNX.out, HE2.out, HU2.out⟩
          case measure => simp [intOf]; omega
    · have hkd : decide ((k : Int) < (N.length : Int)) = false := decide_eq_false (by omega)
      have hkn : decide (k < N.length) = false := decide_eq_false hlt
      have hke : k = N.length := by omega
      have HTU := Lib.hid (show TablesAt wr (.slice (some ⟨r, 0, none⟩) N.length N.length) (turnN N) from by
        have h := HI.out
        rw [hke] at h
        exact h.tables (by unfold maxLen; omega))
      clear hke
      have HMT := Lib.hid (turn_may HNM.out hN.2 HN20.out)
      have HOT := Lib.hid (turn_ok HNM.out hN.2 HNO.out)
      have HFr := Lib.hid (HF4.out.later HE.out)
      have HBr := Lib.hid (HB4.out.later HE.out)
      have HXr := Lib.hid (HX4.out.trans HE.out)
      have hbr := HBr.out.cells
      clear HI HE HF4 HB4 HX4 HR5 HE5 HU5 HMAY
      go_upto_region 16 with (first
    | (go_at_call 22; (with_reducible refine (atomsOf_good _ N _ HFr.out HNO.out HNM.out).mono ?_); rintro e w5 ⟨fv, hv, vv, l, he, hC, hA, hx5⟩; subst he; have HC := Lib.hid hC; have HIT := Lib.hid (atomsIt hC); have HA5 := Lib.hid hA; have HX5 := Lib.hid hx5; obtain ⟨fa, fc, ha, hc, ya, yc, e1, e2, e3⟩ := hA.forms; subst e1 e2 e3; clear hC hA hx5))
      clear hbr
      have HLL := Lib.hid (show (atomsL (vecV N) l).fr.length ≤ 100000 by
        have h1 := ats_few (vecV N) l
        have h2 := HC.out.len
        rw [sizeN_flat] at h2
        have h3 := HNS.out
        omega)
      have HTA := Lib.hid (ats_turn HNM.out l)
      generalize hs : atomsL (vecV N) l = s at *
      clear hs
      refine hideW (Φ := fun W => Code.wp _ _ _ _ W) (fun W => Ext w5 W ∧ Blk W w5.heap.size [.slice fa s.fr.length fc, .slice ha s.wh.length hc, .slice ya s.vs.length yc] 30)
        ⟨by (repeat (first | with_reducible exact Ext.refl _ | with_reducible assumption | with_reducible refine Ext.alloc ?_ _ | with_reducible refine Ext.drew ?_ | with_reducible refine Ext.drewN ?_ _ | (with_reducible refine Ext.setCellP ?_ ?_; focus (first | (simp; done) | (simp; omega) | omega)))), Blk.new w5 [.slice fa s.fr.length fc, .slice ha s.wh.length hc, .slice ya s.vs.length yc] 30⟩ (fun W6 hW6 => ?_)
      obtain ⟨hx6, hb6⟩ := hW6
      have HX6 := Lib.hid (HX5.out.trans hx6)
      have HA6 := Lib.hid (HA5.out.later hx6)
      have HK6 := Lib.hid hb6
      have HU6 := Lib.hid (HU.out.later HX6.out)
      have HT6 := Lib.hid (HTU.out.later HX6.out)
      have hu6 := HU6.out.cells
      clear hx6 hb6
      generalize w5.heap.size = xb at *
      go_upto_region 17 with (first
    | (go_at_call 22; (with_reducible refine (atomsOf_good _ (turnN N) _ HT6.out HOT.out HMT.out.1).mono ?_); rintro e w7 ⟨fv, hv, vv, l7, he, hC, hA, hx7⟩; subst he; obtain rfl := Cuts.at (turn_cuts HC.out) hC; rw [HTA.out] at hA; have HA7 := Lib.hid hA; have HX7 := Lib.hid (HX6.out.trans hx7); have HY7 := Lib.hid hx7; obtain ⟨fa2, fc2, ha2, hc2, ya2, yc2, e1, e2, e3⟩ := hA.forms; replace e1 : fv = .slice fa2 s.fr.length fc2 := e1; replace e2 : hv = .slice ha2 s.wh.length hc2 := e2; replace e3 : vv = .slice ya2 s.vs.length yc2 := by rw [e3]; unfold Ats.mapV; rw [List.length_map]
       subst e1 e2 e3; clear hC hA hx7))
      clear hu6
      refine hideW (Φ := fun W => Code.wp _ _ _ _ W) (fun W => Ext w7 W ∧ Blk W w7.heap.size [.slice fa2 s.fr.length fc2, .slice ha2 s.wh.length hc2, .slice ya2 s.vs.length yc2] 30)
        ⟨by (repeat (first | with_reducible exact Ext.refl _ | with_reducible assumption | with_reducible refine Ext.alloc ?_ _ | with_reducible refine Ext.drew ?_ | with_reducible refine Ext.drewN ?_ _ | (with_reducible refine Ext.setCellP ?_ ?_; focus (first | (simp; done) | (simp; omega) | omega)))), Blk.new w7 [.slice fa2 s.fr.length fc2, .slice ha2 s.wh.length hc2, .slice ya2 s.vs.length yc2] 30⟩ (fun W8 hW8 => ?_)
      obtain ⟨hx8, hb8⟩ := hW8
      have HX8 := Lib.hid (HX7.out.trans hx8)
      have HA8 := Lib.hid (HA6.out.later (HY7.out.trans hx8))
      have HK8 := Lib.hid (HK6.out.later (HY7.out.trans hx8))
      have HC8 := Lib.hid (HA7.out.later hx8)
      have HD8 := Lib.hid hb8
      clear hx8 hb8
      generalize w7.heap.size = yb at *
      have HZ := Lib.hid HIT.out.zero
      have HVL := Lib.hid (vecV_len N a)
      have HVI := Lib.hid (vec_in HNM.out a)
      obtain ⟨j, hj1, hj2⟩ := HIT.out.at HC.out a
      have HJ1 := Lib.hid hj1
      have HJ2 := Lib.hid hj2
      clear hj1 hj2
      generalize hvec : vecV N a = vec at *
      clear hvec
      have HAV := Lib.hid (show ∀ W, AtomsAt W (.slice fa s.fr.length fc) (.slice ha s.wh.length hc) (.slice ya s.vs.length yc) s → Calls Try.prog 34 #[.agg #[.slice fa s.fr.length fc, .slice ha s.wh.length hc, .slice ya s.vs.length yc], U a] W fun e w' => ∃ v, e = .returned (.tuple #[v, .bool true]) ∧ OwnI w' W.heap.size v vec ∧ Ext W w' from
        fun W hW => atomsAt_any _ _ _ s a j _ W hW HZ.out HJ1.out HJ2.out (by rw [HVL.out]; omega))
      have HBV := Lib.hid (show ∀ W, AtomsAt W (.slice fa2 s.fr.length fc2) (.slice ha2 s.wh.length hc2) (.slice ya2 s.vs.length yc2) (s.mapV (gM N.length)) → Calls Try.prog 34 #[.agg #[.slice fa2 s.fr.length fc2, .slice ha2 s.wh.length hc2, .slice ya2 s.vs.length yc2], U a] W fun e w' => ∃ v, e = .returned (.tuple #[v, .bool true]) ∧ OwnI w' W.heap.size v (gM N.length vec) ∧ Ext W w' from
        fun W hW => atomsAt_any _ _ _ (s.mapV (gM N.length)) a j _ W hW HZ.out HJ1.out (by unfold Ats.mapV; rw [List.getElem?_map, HJ2.out]; rfl) (by rw [gM_len]; omega))
      have hkc8 := HK8.out.cells
      have hdc8 := HD8.out.cells
      go_upto_region 18 with (first
    | (go_at_call 34; (with_reducible refine (HAV.out _ HA8.out).mono ?_); rintro e w9 ⟨v9, he, hV, hx9⟩; subst he; have HV9 := Lib.hid hV; have HX9 := Lib.hid hx9; have HK9 := Lib.hid (HK8.out.later hx9); have HD9 := Lib.hid (HD8.out.later hx9); have HC9 := Lib.hid (HC8.out.later hx9); clear hV hx9))
      clear hkc8 hdc8
      have hkc9 := HK9.out.cells
      have hdc9 := HD9.out.cells
      go_upto_region 19 with (first
    | (go_at_call 34; (with_reducible refine (HBV.out _ HC9.out).mono ?_); rintro e w10 ⟨v10, he, hV, hx10⟩; subst he; have HV10 := Lib.hid hV.ints; have HX10 := Lib.hid (HX9.out.trans hx10); have HY10 := Lib.hid hx10; have HK10 := Lib.hid (HK9.out.later hx10); have HD10 := Lib.hid (HD9.out.later hx10); have HW10 := Lib.hid (HV9.out.later hx10); clear hV hx10))
      clear hkc9 hdc9
      have hkc10 := HK10.out.cells
      have hdc10 := HD10.out.cells
      obtain ⟨xa, xc, hxv⟩ := own_form HW10.out
      obtain ⟨xa', xc', hxv', x1, x2, x3⟩ := HW10.out.ints.form
      rw [hxv] at hxv'
      simp only [Value.slice.injEq, true_and] at hxv'
      obtain ⟨rfl, rfl⟩ := hxv'
      rw [HVL.out] at hxv x1
      subst hxv
      have X3 := Lib.hid x3
      obtain ⟨za, zc, hzv, z1, z2, z3⟩ := HV10.out.form
      rw [gM_len] at hzv z1
      subst hzv
      have Z3 := Lib.hid z3
      unfold maxLen at x2 z2
      clear x3 z3
      have hln : ((N.length : Int) != (N.length : Int)) = false := by simp
      have HFX := Lib.hid (HA8.out.fr.later HX10.out)
      have HFY := Lib.hid (HC8.out.fr.later HX10.out)
      have HWX := Lib.hid (HA8.out.wh.later HX10.out)
      have HWY := Lib.hid (HC8.out.wh.later HX10.out)
      go_upto_region 21 with (first
    | (go_at_call 35; (with_reducible refine (r12Same_any _ _ s.fr s.fr _ HFX.out HFY.out).mono ?_); rintro e w11 ⟨he, hx11⟩; replace he := he.trans (congrArg (fun b => Ending.returned (.bool b)) (decide_eq_true rfl)); subst he; have HX11 := Lib.hid hx11; have hkc11 := (HK10.out.later hx11).cells; have hdc11 := (HD10.out.later hx11).cells; clear hx11)
    | (go_at_call 36; (with_reducible refine (r09Row_any _ _ s.wh s.wh _ (HWX.out.later HX11.out) (HWY.out.later HX11.out)).mono ?_); rintro e w12 ⟨he, hx12⟩; replace he := he.trans (congrArg (fun b => Ending.returned (.bool b)) (decide_eq_true rfl)); subst he; have HX12 := Lib.hid (HX11.out.trans hx12); clear hx12))
      clear hkc10 hdc10
      try clear hkc11
      try clear hdc11
      go_wp2_with fail
      go_loopw [20] (fun i wr => ∃ q : Nat, q ≤ N.length ∧ i = I q ∧ Hid (Ext w10 wr)) (fun i _ => N.length - (intOf i).toNat)
      case atStart => exact ⟨0, by omega, rfl, HX12.out⟩
      case round =>
        obtain ⟨q, hq, rfl, HXQ⟩ := hrel
        by_cases hql : q < N.length
        · have hqd : decide ((q : Int) < (N.length : Int)) = true := decide_eq_true (by omega)
          have hqv : q < vec.length := by rw [HVL.out]; exact hql
          obtain ⟨b1, o1, he1, p1⟩ := X3.out q _ (List.getElem?_eq_getElem hqv)
          obtain ⟨b2, o2, he2, p2⟩ := Z3.out (N.length - 1 - q) _ (gM_get hql HVL.out)
          subst he1 he2
          replace p1 := HXQ.out.cell p1
          replace p2 := HXQ.out.cell p2
          have hvb := HVI.out.2 _ (List.getElem_mem hqv)
          have HFM := Lib.hid (show fM N.length vec[q] = if 0 ≤ vec[q] then (N.length : Int) - 1 - vec[q] else -1 from rfl)
          generalize vec[q] = c at *
          have hp : (N.length : Int) - 1 - (q : Int) = ((N.length - 1 - q : Nat) : Int) := by omega
          have hpl : N.length - 1 - q < N.length := by omega
          have hwp : IntKind.i64.wrap ((N.length - 1 - q : Nat) : Int) = ((N.length - 1 - q : Nat) : Int) := by rw [IntKind.wrap_i64]; omega
          generalize N.length - 1 - q = p at *
          by_cases hc0 : 0 ≤ c
          · have hcd : decide (0 ≤ c) = true := decide_eq_true hc0
            rw [HFM.out, if_pos hc0] at p2
            have hee : ((N.length : Int) - 1 - c != (N.length : Int) - 1 - c) = false := by simp
            go_wp2_with fail
            go_roundw
            case rel => exact ⟨q + 1, by omega, by go_num, HXQ.out⟩
            case measure => simp [intOf]; omega
          · have hcd : decide (0 ≤ c) = false := decide_eq_false hc0
            rw [HFM.out, if_neg hc0] at p2
            go_wp2_with fail
            go_roundw
            case rel => exact ⟨q + 1, by omega, by go_num, HXQ.out⟩
            case measure => simp [intOf]; omega
        · have hqd : decide ((q : Int) < (N.length : Int)) = false := decide_eq_false (by omega)
          have hqn : decide (q < N.length) = false := decide_eq_false hql
          have HXE := Lib.hid (HX10.out.trans HXQ.out)
          have HO0 := Lib.hid (show (wr.alloc (.cells #[] 3)).ownsRow wr.heap.size 3 1 (.slice (some ⟨wr.heap.size, 0, none⟩) 0 0) 0 [] from own_made wr 1 3 0 [] rfl (by unfold maxLen; omega))
          have HS0 := Lib.hid (show Reads (wr.alloc (.cells #[] 3)) 1 (.slice xa N.length xc) N.length (icells vec) from by
            have h := HW10.out.ints.later (HXQ.out.trans ((Ext.refl wr).alloc (.cells #[] 3)))
            unfold IntsAt at h
            rw [HVL.out] at h
            exact h)
          have HGD := Lib.hid (show ∀ g, (Value.slice xa N.length xc).ownBlock = some g → g < wr.heap.size from fun g hg => Nat.lt_of_lt_of_le (own_cells HW10.out hg).2.1 HXQ.out.size)
          have HA1 := Lib.hid (show wr.heap.size ≤ (wr.alloc (.cells #[] 3)).heap.size by simp)
          go_upto_region 30 with (first
            | (at_builtin; refine wpList_app rfl (.tmp 179) (.tmp 180) 27 rfl wr.heap.size 3 _ 1 8 Try.underlying27 infoInt rfl (by decide) (by decide) _ _ _ rfl HO0.out _ _ _ rfl HS0.out (icells_one _) (by omega) HA1.out ?_; intro v13 w13 ho13 hg13
               have HW13 := Lib.hid (show OwnI w13 wr.heap.size v13 vec from by
                 unfold OwnI
                 rw [HVL.out]
                 simpa using ho13)
               have HX13 := Lib.hid (HXQ.out.trans (Ext.grown ((Ext.refl wr).alloc (.cells #[] 3)) hg13 HO0.out (Nat.le_refl _)))
               clear ho13 hg13))
          have HV13 := Lib.hid (show w13.ownsRow W8.heap.size 3 1 (.slice xa N.length xc) N.length (icells vec) from by
            have h := HW10.out.later HX13.out
            unfold OwnI at h
            rw [HVL.out] at h
            exact h)
          have HY13 := Lib.hid (HX10.out.trans HX13.out)
          generalize wr.heap.size = D at *
          go_wp2_with fail
          go_loopw [23] (fun i wr => ∃ (q : Nat) (xs : List Value), q ≤ N.length ∧ i = I q ∧ Hid (wr.ownsRow W8.heap.size 3 1 (.slice xa N.length xc) N.length xs) ∧ Hid (OwnI wr D v13 vec) ∧ Hid (Ext W8 wr)) (fun i _ => N.length - (intOf i).toNat)
          case atStart => exact ⟨0, _, by omega, rfl, HV13.out, HW13.out, HY13.out⟩
          case round =>
            obtain ⟨q2, xs, hq2, rfl, HV, HW, HXX⟩ := hrel
            by_cases hql2 : q2 < N.length
            · have hqd2 : decide ((q2 : Int) < (N.length : Int)) = true := decide_eq_true (by omega)
              obtain ⟨g, gcap, hgv, g1, g2, g3, g4, g5, g6, g7⟩ := own_put HV.out hql2
              simp only [Value.slice.injEq, true_and] at hgv
              obtain ⟨rfl, rfl⟩ := hgv
              have hxl : xs.length = N.length := by have := HV.out.1; simpa using this
              have hgc : wr.cell? ⟨g, q2, none⟩ = some (xs[q2]'(by omega)) := g5 q2 _ (List.getElem?_eq_getElem (by omega))
              have hgl : g < D := HGD.out g rfl
              have G7 := Lib.hid g7
              have HGE := Lib.hid g1
              clear g5 g7
              go_wp2_with fail
              go_roundw
              case rel => exact ⟨q2 + 1, _, by omega, by go_num, G7.out _, own_set HW.out hgl _, HXX.out.setCell HGE.out _⟩
              case measure => simp [intOf]; omega
            · have hqd2 : decide ((q2 : Int) < (N.length : Int)) = false := decide_eq_false (by omega)
              have hqn2 : decide (q2 < N.length) = false := decide_eq_false hql2
              have HAZ := Lib.hid (HA8.out.later HXX.out)
              have hkz := (HK8.out.later HXX.out).cells
              go_wp2_with (first
    | (go_at_call 34; (with_reducible refine (HAV.out _ HAZ.out).mono ?_); rintro e w14 ⟨v14, he, hV, hx14⟩; subst he; have HV14 := Lib.hid hV.ints; have HW14 := Lib.hid (HW.out.later hx14); have HX14 := Lib.hid (HXX.out.trans hx14); clear hV hx14)
    | (go_at_call 36; (with_reducible refine (r09Row_any _ _ vec vec _ HV14.out HW14.out.ints).mono ?_); rintro e w15 ⟨he, hx15⟩; replace he := he.trans (congrArg (fun b => Ending.returned (.bool b)) (decide_eq_true rfl)); subst he; have HX15 := Lib.hid (HX14.out.trans hx15); clear hx15))
              go_ret
              exact ⟨rfl, HXr.out.trans (HX8.out.trans HX15.out)⟩
end Go.Proofs.Ytamlalablblfeaa
