/- AnaW, SpoL, ToolSpo: these texts in one. Conditions: each part names its own. -/
import Derived.Test.YtdpmnldmbnpfpaaGreatDoorGAna
import Derived.Test.YtdpmnldmbnpfpaaGreatDoorGSnd
import Derived.Test.YtdpmnldmbnpfpaaGreatDoorGAnaH
import Derived.Test.YtdpmnldmbnpfpaaGreatDoorGNetP
/- Plain laws for the law AnalyzeWide: a node more that does nothing. Conditions: none. -/
namespace Go.Proofs.YtdpmnldmbnpfpaaGreatDoor
open Go Go.RowKit Go.Maps Go.Proofs

theorem flat_wide (ls : List (List Rul)) : (ls ++ [[]]).flatten = ls.flatten := by simp
theorem wide_size (ls : List (List Rul)) : sizeN (ls ++ [[]]) = sizeN ls := by rw [<- sizeN_flat, <- sizeN_flat, flat_wide]
theorem wide_ok {ls : List (List Rul)} (h : TablesOk ls) : TablesOk (ls ++ [[]]) := fun l hl => by
 rcases List.mem_append.1 hl with g | g
 · exact h l g
 · rw [List.mem_singleton.1 g]; exact fun r h => by cases h
theorem wide_may {ls : List (List Rul)} (h : netMayV ls = 0) (h8 : ls.length <= 128) : netMayV (ls ++ [[]]) = 0 := by
 obtain ⟨h1, h2, h3⟩ := netMay_tabs h
 unfold netMayV
 rw [if_neg (by rw [List.length_append, wide_size]; simp; omega)]
 refine netG_zero fun l hl => ?_
 rcases List.mem_append.1 hl with g | g
 · exact tabG_mono (by rw [List.length_append]; simp; omega) l none (h3 l g)
 · rw [List.mem_singleton.1 g]; rfl
def wideC (c : Crt) : Crt := ⟨c.vd, c.ps, c.rks.map (· ++ [0]), c.dest, c.tr⟩
end Go.Proofs.YtdpmnldmbnpfpaaGreatDoor

/- Plain laws for ToolSpoilt: bytes of which one bit is turned are taken no more. Conditions: none. -/
namespace Go.Proofs.YtdpmnldmbnpfpaaGreatDoor
open Go Go.RowKit Go.Maps Go.Proofs

/-- One bit of a row of bytes turned. -/
def turnB (l : List Byt) (i : Nat) : List Byt := l.set (i / 8) (l.getD (i / 8) 0#8 ^^^ byt (2 ^ (i % 8)))
theorem turnB_len (l : List Byt) (i : Nat) : (turnB l i).length = l.length := List.length_set ..
theorem turn_ne (x : Byt) {k : Nat} (h : k < 8) : x ^^^ byt (2 ^ k) ≠ x := by
 have hz : byt (2 ^ k) ≠ 0#8 := by
  intro e
  have := congrArg BitVec.toNat e
  rw [byt_nat] at this
  have hk : k = 0 \/ k = 1 \/ k = 2 \/ k = 3 \/ k = 4 \/ k = 5 \/ k = 6 \/ k = 7 := by omega
  rcases hk with rfl | rfl | rfl | rfl | rfl | rfl | rfl | rfl <;> simp at this
 intro e
 apply hz
 have := congrArg (fun y => x ^^^ y) e
 simpa [<- BitVec.xor_assoc] using this
theorem ftake_bit (m : BitVec 32) (b : List Byt) {i : Nat} (hi : i < 8 * (fput m b).length) : (ftake m (turnB (fput m b) i)).2 ≠ 0 := by
 have hlt : i / 8 < (fput m b).length := by omega
 unfold turnB
 rw [List.getD_eq_getElem?_getD, List.getElem?_eq_getElem hlt]
 exact ftake_turned hlt (turn_ne _ (by omega))
theorem net_bit {ls : List (List Rul)} {i : Nat} (hi : i < 8 * (netPut ls).length) : ∃ z, netTake (turnB (netPut ls) i) = .error z := by
 have h : (ftake magN (turnB (netPut ls) i)).2 ≠ 0 := ftake_bit magN (netB ls) hi
 unfold netTake
 rw [if_pos h]
 exact ⟨_, rfl⟩
theorem cert_bit {c : Crt} {n i : Nat} (hi : i < 8 * (certPut c n).length) : ∃ z, certTake (turnB (certPut c n) i) = .error z := by
 have h : (ftake magC (turnB (certPut c n) i)).2 ≠ 0 := ftake_bit magC (certB c n) hi
 unfold certTake
 rw [if_pos h]
 exact ⟨_, rfl⟩
theorem chk_odd {ls : List (List Rul)} {i : Nat} (hi : i < 8 * (netPut ls).length) (C : List Byt) : (chkV (turnB (netPut ls) i) C).1 = 0 := by
 obtain ⟨z, hz⟩ := net_bit hi
 rw [chk_bad hz]
theorem chk_spoilt {ls : List (List Rul)} {c : Crt} {n i : Nat} (hm : netMayV ls = 0) (hi : i < 8 * (certPut c n).length) : (chkV (netPut ls) (turnB (certPut c n) i)).1 = 0 := by
 obtain ⟨z, hz⟩ := cert_bit hi
 rw [chk_badC (netTake_put hm) hz]
/-- A certificate of another number of nodes. -/
theorem chk_more {ls : List (List Rul)} {c : Crt} (h8 : ls.length <= 128) (hm : netMayV ls = 0) (hl : c.rks.length = c.ps.length) (hc : certMayV ls.length c = 0) : chkV (netPut (ls ++ [[]])) (certPut c ls.length) = (0, 1) := by
 obtain ⟨d, hct, hcq⟩ := certTake_put (netMay_tabs hm).1 hl hc
 exact chk_size (netTake_put (wide_may hm h8)) hct (by simp)
end Go.Proofs.YtdpmnldmbnpfpaaGreatDoor

/- The law ToolSpoilt, by the program. Conditions: the library's table of powers of ten, and the table of words, read as they are laid. -/
namespace Go.Proofs.YtdpmnldmbnpfpaaGreatDoor
open Go Go.RowKit Go.Maps Go.Proofs

theorem tabs_oneS {w : World} {v : Value} {ls : List (List Rul)} (h : TablesAt w v ls) : ∃ vs : List Value, Reads w 1 v ls.length vs /\ (∀ u ∈ vs, u.oneCell' = true) /\ vs.length = ls.length /\ ∀ (i : Nat) (l : List Rul), ls[i]? = some l -> ∃ u, vs[i]? = some u /\ RulesAt w u l := by
 obtain ⟨vs, h1, h2⟩ := h
 have hl : vs.length = ls.length := by have := h1.1; simpa using this
 refine ⟨vs, h1, fun u hu => ?_, hl, h2⟩
 obtain ⟨i, hi⟩ := List.getElem?_of_mem hu
 have hil := (List.getElem?_eq_some_iff.1 hi).1
 obtain ⟨u', g1, g2⟩ := h2 i _ (List.getElem?_eq_getElem (by omega))
 rw [hi] at g1
 cases g1
 obtain ⟨a, c, rfl, -⟩ := g2.form
 rfl
/-- A row of bytes of the call's own: where it lies, and with one of its bits turned. -/
theorem own_turn {w : World} {B : Nat} {v : Value} {l : List Byt} (h : OwnY w B v l) {i : Nat} (hi : i / 8 < l.length) :
 ∃ g cap, v = .slice (some ⟨g, 0, none⟩) l.length cap /\ B <= g /\ g < w.heap.size /\ w.cell? ⟨g, i / 8, none⟩ = some (Y (l.getD (i / 8) 0#8)) /\ (∀ o, w.frozen? ⟨g, o, none⟩ = false) /\
   OwnY (w.setCell ⟨g, i / 8, none⟩ (Y (l.getD (i / 8) 0#8 ^^^ byt (2 ^ (i % 8))))) B v (turnB l i) := by
 obtain ⟨g, cap, h1, h2, h3, h4, h5, h6, h7, h8⟩ := own_put h hi
 have hg : l.getD (i / 8) 0#8 = l[i / 8] := by rw [List.getD_eq_getElem?_getD, List.getElem?_eq_getElem hi]; rfl
 refine ⟨g, cap, h1, h2, h3, ?_, h7, ?_⟩
 · rw [hg]; exact h6 _ _ (ycells_get (List.getElem?_eq_getElem hi))
 · have := h8 (Y (l.getD (i / 8) 0#8 ^^^ byt (2 ^ (i % 8))))
   unfold OwnY turnB ycells
   rw [List.length_set, List.map_set]
   exact this
set_option maxHeartbeats 8000000 in
set_option maxRecDepth 100000 in
theorem toolSpoilt_any (lv : Value) (ls : List (List Rul)) (k0 k1 : Nat) (w : World) (hl : TablesAt w lv ls) (hok : TablesOk ls) (hk0 : k0 < 65536) (hk1 : k1 < 65536) (ht : Tab10 w) (hw : Words w) :
 Calls Tryz.prog 5 #[.agg #[lv], .agg #[.int .u16 (k0 : Int), .int .u16 (k1 : Int)]] w fun e w' => e = .returned (.bool true) /\ Ext w w' := by
 have HTT := Lib.hid ht
 have HWW := Lib.hid hw
 have HL := Lib.hid hl
 have HOK := Lib.hid hok
 obtain ⟨ad, cap, hlv, a1, a2, a3⟩ := hl.form
 subst hlv
 clear a3 hl hok ht hw
 unfold maxLen at a2
 go_enter Tryz.func5, Tryz.ntmps5
 go_upto_region 1 with (fail)
 refine hideW (Φ := fun W => Code.wp _ _ _ _ W) (fun W => Ext w W /\ Blk W w.heap.size [.slice ad ls.length cap] 39 /\ Blk W (w.heap.size + 1) [.int .u16 (k0 : Int), .int .u16 (k1 : Int)] 41)
  ⟨by (repeat with_reducible first | exact Ext.refl _ | assumption | refine Ext.alloc ?_ _ | refine Ext.drew ?_ | refine Ext.drewN ?_ _ | (refine Ext.setCellP ?_ ?_; focus (first | (simp; done) | (simp; omega) | omega))), ((Blk.new w [.slice ad ls.length cap] 39).old _), (Blk.newAt [.int .u16 (k0 : Int), .int .u16 (k1 : Int)] (by simp))⟩ (fun W1 hW1 => ?_)
 obtain ⟨hx1, hb1, hk0'⟩ := hW1
 have HX1 := Lib.hid hx1
 have HB1 := Lib.hid hb1
 have HK1 := Lib.hid hk0'
 clear hx1 hb1 hk0'
 generalize w.heap.size + 1 = kb at *
 generalize w.heap.size = nb at *
 have HSH := Lib.hid (shownTool_any W1 (HTT.out.later HX1.out) (HWW.out.later HX1.out))
 go_upto_region 2 with (first
  | (go_at_call 9; (with_reducible refine HSH.out.mono ?_); rintro e w2 ⟨rfl, hx2⟩; have HX2 := Lib.hid (HX1.out.trans hx2); have HB2 := Lib.hid (HB1.out.later hx2); have HK2 := Lib.hid (HK1.out.later hx2); clear hx2))
 have hbc2 := HB2.out.cells
 have HNM := Lib.hid (fitN_may ls)
 have HNO := Lib.hid (fitN_ok ls)
 have hN := fitN_bd ls
 go_upto_region 3 with (first
  | (go_at_call 19; (with_reducible refine (r09Fit_any _ ls _ (HL.out.later HX2.out) HOK.out).mono ?_); rintro e w3 ⟨v3, he, hF, hx3⟩; subst he; have HF3 := Lib.hid hF.tables; obtain ⟨va, vcap, hv3, q1, q2, q3⟩ := HF3.out.form; subst hv3; clear q3; have HX3 := Lib.hid (HX2.out.trans hx3); have HK3 := Lib.hid (HK2.out.later hx3); clear hF hx3))
 generalize fitN ls = N at *
 clear hbc2 HB2 HB1 HK1 HK2
 unfold maxLen at q2
 refine hideW (Φ := fun W => Code.wp _ _ _ _ W) (fun W => Ext w3 W /\ Blk W w3.heap.size [.slice va N.length vcap] 39)
  ⟨by (repeat with_reducible first | exact Ext.refl _ | assumption | refine Ext.alloc ?_ _ | refine Ext.drew ?_ | refine Ext.drewN ?_ _ | (refine Ext.setCellP ?_ ?_; focus (first | (simp; done) | (simp; omega) | omega))), Blk.new w3 [.slice va N.length vcap] 39⟩ (fun W4 hW4 => ?_)
 obtain ⟨hx4, hb4⟩ := hW4
 have HX4 := Lib.hid (HX3.out.trans hx4)
 have HF4 := Lib.hid (HF3.out.later hx4)
 have HB4 := Lib.hid hb4
 have HK4 := Lib.hid (HK3.out.later hx4)
 have hbc4 := hb4.cells
 clear hx4 hb4 HF3 HX3 HX1 HX2 HK3 HSH
 generalize w3.heap.size = fb at *
 have HTN := Lib.hid (netTake_put HNM.out)
 have HLN := Lib.hid (netB_len HNM.out)
 have HNL := Lib.hid (netMay_tabs HNM.out).1
 have HPN := Lib.hid (netfilePut_any _ N W4 HF4.out HNO.out HNM.out)
 have HF8 := Lib.hid (show 8 <= (netPut N).length by unfold netPut; rw [fput_len]; omega)
 have HOD := Lib.hid (fun (i : Nat) (hi : i < 8 * (netPut N).length) C => chk_odd hi C)
 have HSP := Lib.hid (fun c (i : Nat) (hi : i < 8 * (certPut c N.length).length) => chk_spoilt (c := c) HNM.out hi)
 have HMO := Lib.hid (fun c => chk_more (c := c) (show N.length <= 128 by omega) HNM.out)
 have HWM := Lib.hid (wide_may HNM.out (show N.length <= 128 by omega))
 have HWO := Lib.hid (wide_ok HNO.out)
 have HLM := Lib.hid (netB_len HWM.out)
 have HPM := Lib.hid (fun V W (h : TablesAt W V (N ++ [[]])) => netfilePut_any V (N ++ [[]]) W h HWO.out HWM.out)
 generalize netPut (N ++ [[]]) = FM at *
 generalize netPut N = FN at *
 go_upto_region 4 with (first
  | (go_at_call 20; (with_reducible refine HPN.out.mono ?_); rintro e w5 ⟨u5, he, ho, hx⟩; obtain ⟨ua, uc, hue⟩ := ho.form; subst hue; subst he; have HX5 := Lib.hid hx; have HP5 := Lib.hid ho.bs; clear hx ho hbc4))
 go_upto_region 5 with (first
  | (go_at_call 13; (with_reducible refine (toolAnalyze_any _ FN _ HP5.out HLN.out).mono ?_); rintro e w6 ⟨h1, hx⟩; rw [HTN.out] at h1; obtain ⟨c, u6, ha, hl6, hm6, he, ho⟩ := h1; obtain ⟨ca, cc, hue⟩ := ho.form; subst hue; subst he; have HX6 := Lib.hid (HX5.out.trans hx); have HP6 := Lib.hid (HP5.out.later hx); have HC6 := Lib.hid ho.bs; have HA := Lib.hid ha; have HAM := Lib.hid (And.intro hl6 hm6); clear hx ho ha hl6 hm6))
 have HLC := Lib.hid (certP_len HNL.out HAM.out.1 HAM.out.2)
 obtain ⟨d, hct, hcq⟩ := certTake_put HNL.out HAM.out.1 HAM.out.2
 have HCK := Lib.hid (show chkV FN (certPut c N.length) = (c.vd, 0) by rw [chk_good HTN.out hct rfl, ansV_congr hcq, (ana_holds HNM.out (cutL_is N) HA.out).2])
 have HC8 := Lib.hid (show 8 <= (certPut c N.length).length by unfold certPut; rw [fput_len]; omega)
 have HMC := Lib.hid (HMO.out c HAM.out.1 HAM.out.2)
 have HSC := Lib.hid (HSP.out c)
 have HVD := Lib.hid ((HA.out.facts HNM.out).vd)
 clear hct hcq HMO HSP
 generalize certPut c N.length = CN at *
 have HCH := Lib.hid (toolCheck_any _ _ FN CN w6 HP6.out HLN.out HC6.out (by have := HLC.out; omega))
 rw [HCK.out] at HCH
 obtain ⟨vd, hvd⟩ : ∃ vd, vd = c.vd := ⟨_, rfl⟩
 rw [<- hvd] at HCH HVD
 have hvz : (vd == 0) = false := by have := HVD.out; exact beq_false_of_ne (by omega)
 clear hvd HVD
 have hf8 : decide ((FN.length : Int) < 8) = false := decide_eq_false (by have := HF8.out; omega)
 have hc8 : decide ((CN.length : Int) < 8) = false := decide_eq_false (by have := HC8.out; omega)
 go_upto_region 7 with (first
  | (go_at_call 17; (with_reducible refine HCH.out.mono ?_); rintro e w7 ⟨he, hx⟩; subst he; have HX7 := Lib.hid (HX6.out.trans hx); have HP7 := Lib.hid (HP6.out.later hx); have HC7 := Lib.hid (HC6.out.later hx); clear hx))
 clear hf8 hc8 hvz
 have hkc := (HK4.out.later HX7.out).cells
 have hf0 : (8 : Int) * (FN.length : Int) ≠ 0 := by have := HF8.out; omega
 have hc0 : (8 : Int) * (CN.length : Int) ≠ 0 := by have := HC8.out; omega
 have hfl : FN.length <= 1000000000 := HLN.out
 have hcl : CN.length <= 1000000000 := by have := HLC.out; omega
 go_upto_region 9 with fail
 have e1 : (k0 : Int) % (8 * (FN.length : Int)) = ((k0 % (8 * FN.length) : Nat) : Int) := by push_cast; rfl
 have e2 : (k1 : Int) % (8 * (CN.length : Int)) = ((k1 % (8 * CN.length) : Nat) : Int) := by push_cast; rfl
 have HI := Lib.hid (Nat.mod_lt k0 (show 8 * FN.length > 0 by have := HF8.out; omega))
 have HJ := Lib.hid (Nat.mod_lt k1 (show 8 * CN.length > 0 by have := HC8.out; omega))
 rw [e1, e2]
 clear e1 e2 hf0 hc0 hkc
 generalize k0 % (8 * FN.length) = i at *
 generalize k1 % (8 * CN.length) = j at *
 refine hideW (Φ := fun W => Code.wp _ _ _ _ W) (fun W => Ext w7 W) (Ext.refl _) (fun W8 hW8 => ?_)
 have HX8 := Lib.hid (HX7.out.trans hW8)
 have HP8 := Lib.hid (HP7.out.later hW8)
 have HC8' := Lib.hid (HC7.out.later hW8)
 clear hW8
 have HA9 := Lib.hid ((Ext.refl W8).alloc (.cells #[] 5))
 have HO9 := Lib.hid (show OwnY (W8.alloc (.cells #[] 5)) W8.heap.size (.slice (some ⟨W8.heap.size, 0, none⟩) 0 0) [] from ownY_made W8 [] (Nat.zero_le _))
 have HR9 := Lib.hid (HP8.out.later HA9.out)
 go_upto_region 10 with (first
  | (at_builtin; refine wpList_app rfl _ _ 22 rfl W8.heap.size 5 (.int .u8 0) 1 1 Tryz.underlying22 infoU8' rfl (by decide) (by decide) _ _ _ rfl HO9.out _ _ _ rfl HR9.out (ycells_one _) (by simp; omega) HA9.out.size ?_
     intro v10 w10 ho10 hg10
     have HO10 := Lib.hid (show OwnY w10 W8.heap.size v10 FN by have h := ho10; simp only [List.length_nil, Nat.zero_add] at h; exact h)
     have HX10 := Lib.hid (Ext.grown HA9.out hg10 HO9.out (Nat.le_refl _))
     clear ho10 hg10))
 have HI10 := Lib.hid HI.out
 have HOT := Lib.hid (fun W (h : Ext w10 W) => own_turn (HO10.out.later h) (i := i) (by have := HI10.out; omega))
 have HBL10 := Lib.hid (turnB_len FN i)
 obtain ⟨g10, gc10, hv10, hg10, hgl, hcell, -, -⟩ := HOT.out _ (Ext.refl _)
 subst hv10
 have hil : i < 8 * FN.length := HI10.out
 have hi8 : i / 8 < FN.length := by omega
 have hki : (i : Int) / 8 = ((i / 8 : Nat) : Int) := by omega
 have hmi : (i : Int) % 8 = ((i % 8 : Nat) : Int) := by omega
 have hm8 : i % 8 < 8 := by omega
 clear hil
 generalize FN.getD (i / 8) 0#8 = x1 at *
 generalize i / 8 = q at *
 generalize i % 8 = m at *
 have hsh : (2 : Int) ^ m % 256 = yv (byt (2 ^ m)) := by rw [yv_byt]; push_cast; rfl
 refine wp_region_E 13 rfl (by kernel_rfl) (by kernel_rfl) ?_
 refine WEi_at 0 ?_
 iterate 13
  refine WEi_q rfl (by decide) (by kernel_rfl) rfl ?_; apply Exists.intro; refine ⟨fun w1 hx1 => ?_, ?_⟩
  · have hq1 := hx1.cells; go_simp; try go_bits
    first | with_reducible rfl
  simp only [Act.put, List.setIfInBounds_toArray, List.set_cons_zero, List.set_cons_succ, Nat.reduceAdd]
 refine WEi_out ?_
 refine WE_done (by kernel_rfl) (fun wz10 hxz => ?_)
 (try simp only [List.drop_succ_cons, List.drop_zero])
 clear hcell hgl
 obtain ⟨g', gc', he, -, hgl, hcell, hfr, hput⟩ := HOT.out _ hxz
 cases he
 have HPUT := Lib.hid hput
 clear hput HOT
 go_upto_region 11 with fail
 refine hideW (Φ := fun W => Code.wp _ _ _ _ W) (fun W => Ext W8 W /\ OwnY W W8.heap.size (.slice (some ⟨g10, 0, none⟩) FN.length gc10) (turnB FN i)) ⟨(HX10.out.trans hxz).setCell hg10 _, HPUT.out⟩ (fun W11 hW => ?_)
 obtain ⟨hx, ho⟩ := hW
 have HX11 := Lib.hid hx
 have HO11 := Lib.hid ho
 clear hx ho hcell hfr hgl HPUT hxz hsh hm8 hmi hki hi8 hg10 HX10 HO10
 have HC11 := Lib.hid (HC8'.out.later HX11.out)
 have HA12 := Lib.hid ((Ext.refl W11).alloc (.cells #[] 5))
 have HE12 := Lib.hid (show OwnY (W11.alloc (.cells #[] 5)) W11.heap.size (.slice (some ⟨W11.heap.size, 0, none⟩) 0 0) [] from ownY_made W11 [] (Nat.zero_le _))
 have HR12 := Lib.hid (HC11.out.later HA12.out)
 go_upto_region 12 with (first
  | (at_builtin; refine wpList_app rfl _ _ 22 rfl W11.heap.size 5 (.int .u8 0) 1 1 Tryz.underlying22 infoU8' rfl (by decide) (by decide) _ _ _ rfl HE12.out _ _ _ rfl HR12.out (ycells_one _) (by simp; omega) HA12.out.size ?_
     intro v13 w13 ho hg
     have HO13 := Lib.hid (show OwnY w13 W11.heap.size v13 CN by have h := ho; simp only [List.length_nil, Nat.zero_add] at h; exact h)
     have HX13 := Lib.hid (Ext.grown HA12.out hg HE12.out (Nat.le_refl _))
     clear ho hg))
 have HI13 := Lib.hid HJ.out
 have HOT := Lib.hid (fun W (h : Ext w13 W) => own_turn (HO13.out.later h) (i := j) (by have := HI13.out; omega))
 have HBL13 := Lib.hid (turnB_len CN j)
 obtain ⟨g13, gc13, hv13, hg13, hgl, hcell, -, -⟩ := HOT.out _ (Ext.refl _)
 subst hv13
 have hil : j < 8 * CN.length := HI13.out
 have hi8 : j / 8 < CN.length := by omega
 have hki : (j : Int) / 8 = ((j / 8 : Nat) : Int) := by omega
 have hmi : (j : Int) % 8 = ((j % 8 : Nat) : Int) := by omega
 have hm8 : j % 8 < 8 := by omega
 clear hil
 generalize CN.getD (j / 8) 0#8 = x1 at *
 generalize j / 8 = q at *
 generalize j % 8 = m at *
 have hsh : (2 : Int) ^ m % 256 = yv (byt (2 ^ m)) := by rw [yv_byt]; push_cast; rfl
 refine wp_region_E 13 rfl (by kernel_rfl) (by kernel_rfl) ?_
 refine WEi_at 0 ?_
 iterate 13
  refine WEi_q rfl (by decide) (by kernel_rfl) rfl ?_; apply Exists.intro; refine ⟨fun w1 hx1 => ?_, ?_⟩
  · have hq1 := hx1.cells; go_simp; try go_bits
    first | with_reducible rfl
  simp only [Act.put, List.setIfInBounds_toArray, List.set_cons_zero, List.set_cons_succ, Nat.reduceAdd]
 refine WEi_out ?_
 refine WE_done (by kernel_rfl) (fun wz13 hxz => ?_)
 (try simp only [List.drop_succ_cons, List.drop_zero])
 clear hcell hgl
 obtain ⟨g', gc', he, -, hgl, hcell, hfr, hput⟩ := HOT.out _ hxz
 cases he
 have HPUT := Lib.hid hput
 clear hput HOT
 go_upto_region 13 with fail
 refine hideW (Φ := fun W => Code.wp _ _ _ _ W) (fun W => Ext W11 W /\ OwnY W W11.heap.size (.slice (some ⟨g13, 0, none⟩) CN.length gc13) (turnB CN j)) ⟨(HX13.out.trans hxz).setCell hg13 _, HPUT.out⟩ (fun W14 hW => ?_)
 obtain ⟨hx, ho⟩ := hW
 have HX14 := Lib.hid hx
 have HO14 := Lib.hid ho
 clear hx ho hcell hfr hgl HPUT hxz hsh hm8 hmi hki hi8 hg13 HX13 HO13
 have HXT := Lib.hid (HX8.out.trans (HX11.out.trans HX14.out))
 have HF14 := Lib.hid (HF4.out.later HXT.out)
 obtain ⟨vs, hrd, hon, hvl, hvs⟩ := tabs_oneS HF14.out
 have HON := Lib.hid hon
 have HVL := Lib.hid hvl
 have HVS := Lib.hid hvs
 have HXA := Lib.hid ((Ext.refl W14).alloc (.cells #[] 63))
 have HOA := Lib.hid (show (W14.alloc (.cells #[] 63)).ownsRow W14.heap.size 63 1 (.slice (some ⟨W14.heap.size, 0, none⟩) 0 0) 0 [] from own_made W14 1 63 0 [] rfl (by unfold maxLen; omega))
 have HRD := Lib.hid (show Reads (W14.alloc (.cells #[] 63)) 1 (.slice va N.length vcap) N.length vs from Reads.later hrd HXA.out)
 clear hrd hon hvl hvs
 have hbc := (HB4.out.later (HXT.out.trans HXA.out)).cells
 go_upto_region 14 with (first
  | (at_builtin
     refine wpList_app rfl (.tmp 105) (.tmp 107) 37 rfl W14.heap.size 63 _ 1 24 Tryz.underlying37 infoRules rfl (by decide) (by decide) _ _ _ rfl HOA.out _ _ _ rfl HRD.out HON.out (by omega) HXA.out.size ?_
     intro v7 w7' ho7 hg7
     have HX7' := Lib.hid (Ext.grown HXA.out hg7 HOA.out (Nat.le_refl _))
     have HO7 := Lib.hid (show w7'.ownsRow W14.heap.size 63 1 v7 N.length vs from by rw [Nat.zero_add, List.nil_append] at ho7; exact ho7)
     have HX7B := Lib.hid (HX7'.out.alloc (.cells #[.slice none 0 0] 63))
     have HO7B := Lib.hid (own_later HO7.out ((Ext.refl w7').alloc (.cells #[.slice none 0 0] 63)))
     have HS7 := Lib.hid (show Reads (w7'.alloc (.cells #[.slice none 0 0] 63)) 1 (.slice (some ⟨w7'.heap.size, 0, none⟩) 1 1) 1 [.slice none 0 0] from Reads.made w7' 1 63 1 [.slice none 0 0] rfl (by unfold maxLen; omega))
     clear ho7 hg7)
  | (at_builtin
     refine wpList_app rfl (.tmp 108) (.tmp 109) 37 rfl W14.heap.size 63 _ 1 24 Tryz.underlying37 infoRules rfl (by decide) (by decide) _ _ _ rfl HO7B.out _ _ _ rfl HS7.out (by intro q hq; simp at hq; subst hq; rfl) (by omega) HX7B.out.size ?_
     intro v8 w8 ho8 hg8
     obtain ⟨za, zc, hv8⟩ := own_form ho8
     subst hv8
     have HX8' := Lib.hid (Ext.grown HX7B.out hg8 HO7B.out (Nat.le_refl _))
     have HT8 := Lib.hid (show TablesAt w8 (.slice za (N.length + 1) zc) (N ++ [[]]) from ⟨vs ++ [.slice none 0 0], by rw [List.length_append]; exact Reads.of_own ho8, fun i l hi => by
      rcases snoc_get hi with hi | ⟨rfl, rfl⟩
      · obtain ⟨u, g1, g2⟩ := HVS.out i l hi
        exact ⟨u, by rw [List.getElem?_append_left (List.getElem?_eq_some_iff.1 g1).1]; exact g1, g2.later HX8'.out⟩
      · exact ⟨.slice none 0 0, by rw [List.getElem?_append_right (by rw [HVL.out]; exact Nat.le_refl _), HVL.out, Nat.sub_self]; rfl, Reads.nil w8 4⟩⟩)
     clear ho8 hg8))
 clear hbc
 refine hideW (Φ := fun W => Code.wp _ _ _ _ W) (fun W => Ext w8 W /\ Blk W w8.heap.size [.slice za (N.length + 1) zc] 39) ⟨(Ext.refl _).alloc _, Blk.new w8 [.slice za (N.length + 1) zc] 39⟩ (fun WA hWA => ?_)
 obtain ⟨hxa, hka⟩ := hWA
 have HXW := Lib.hid (HX8'.out.trans hxa)
 have HTA := Lib.hid (HT8.out.later hxa)
 have hmc := hka.cells
 clear hxa hka HX7' HO7 HX7B HO7B HS7 HX8' HT8 HXA HOA HRD
 generalize w8.heap.size = mb at *
 have HCA := Lib.hid (HC11.out.later (HX14.out.trans HXW.out))
 have HFA := Lib.hid (HP8.out.later (HX11.out.trans (HX14.out.trans HXW.out)))
 have HOO := Lib.hid (HO11.out.bs.later (HX14.out.trans HXW.out))
 have HBB := Lib.hid (HO14.out.bs.later HXW.out)
 have HXX := Lib.hid (HXT.out.trans HXW.out)
 clear HXW HXT HF14 HO14 HO11 HX14 HC11 HP8
 go_upto_region 15 with (first
  | (go_at_call 20; (with_reducible refine (HPM.out _ _ HTA.out).mono ?_); rintro e wb ⟨ub, he, ho, hx⟩; obtain ⟨ma, mc, hue⟩ := ho.form; subst hue; subst he; have HXB := Lib.hid hx; have HMB := Lib.hid ho.bs; clear hx ho hmc))
 have HCM := Lib.hid (toolCheck_any (.slice ma FM.length mc) (.slice ca CN.length cc) FM CN wb HMB.out HLM.out (HCA.out.later HXB.out) hcl)
 rw [HMC.out] at HCM
 go_upto_region 16 with (first
  | (go_at_call 17; (with_reducible refine HCM.out.mono ?_); rintro e wc ⟨he, hx⟩; subst he; have HXC := Lib.hid (HXB.out.trans hx); clear hx))
 refine hideW (Φ := fun W => Code.wp _ _ _ _ W) (fun W => Ext WA W /\ Blk W wc.heap.size [I 0, I 1] 35) ⟨HXC.out.trans ((Ext.refl _).alloc _), Blk.new wc [I 0, I 1] 35⟩ (fun WD hWD => ?_)
 obtain ⟨hxd, hkd⟩ := hWD
 have HXD := Lib.hid hxd
 have HKD := Lib.hid hkd
 clear hxd hkd HXC HXB HCM
 generalize wc.heap.size = ab at *
 obtain ⟨z1, hz1⟩ : ∃ z, chkV (turnB FN i) CN = (0, z) := ⟨_, Prod.ext (HOD.out i HI.out CN) rfl⟩
 obtain ⟨z2, hz2⟩ : ∃ z, chkV FN (turnB CN j) = (0, z) := ⟨_, Prod.ext (HSC.out j HJ.out) rfl⟩
 have HC1 := Lib.hid (toolCheck_any (.slice (some ⟨g10, 0, none⟩) (turnB FN i).length gc10) (.slice ca CN.length cc) (turnB FN i) CN WD (by rw [HBL10.out]; exact HOO.out.later HXD.out) (by rw [HBL10.out]; exact hfl) (HCA.out.later HXD.out) hcl)
 have HC2 := Lib.hid (fun W (h : Ext WD W) => toolCheck_any (.slice ua FN.length uc) (.slice (some ⟨g13, 0, none⟩) (turnB CN j).length gc13) FN (turnB CN j) W (HFA.out.later (HXD.out.trans h)) hfl (by rw [HBL13.out]; exact HBB.out.later (HXD.out.trans h)) (by rw [HBL13.out]; exact hcl))
 rw [hz1, HBL10.out] at HC1
 rw [hz2, HBL13.out] at HC2
 clear hz1 hz2 HBB HOO
 go_wp2_with (first
  | (go_at_call 17; (with_reducible refine HC1.out.mono ?_); rintro e we ⟨he, hx⟩; subst he; have HXE := Lib.hid hx; clear hx)
  | (go_at_call 17; (with_reducible refine (HC2.out _ HXE.out).mono ?_); rintro e wf ⟨he, hx⟩; subst he; have HXF := Lib.hid (HXE.out.trans hx); have hak := (HKD.out.later HXF.out).cells; clear hx))
 go_ret
 exact ⟨rfl, HX4.out.trans (HXX.out.trans (HXD.out.trans HXF.out))⟩
end Go.Proofs.YtdpmnldmbnpfpaaGreatDoor
