/- ToolP, ToolW: these texts in one. Conditions: each part names its own. -/
import Derived.Test.YtdpmnldmbnpfpaaGreatDoorGCrt
import Derived.Test.YtdpmnldmbnpfpaaGreatDoorGAnaH
import Derived.Test.YtdpmnldmbnpfpaaGreatDoorGCTk
import Derived.Test.YtdpmnldmbnpfpaaGreatDoorGCPt
import Derived.Test.YtdpmnldmbnpfpaaGreatDoorGNTk
/- What is told of bytes: plain laws. Conditions: none. -/
namespace Go.Proofs.YtdpmnldmbnpfpaaGreatDoor
open Go.RowKit

theorem partV_congr {p q : Prt} (h1 : p.fr = q.fr) (h2 : p.up = q.up) (l : List (BitVec 32)) (ls : List (List Rul)) (r : List Int) : partV l ls p r = partV l ls q r := by
 unfold partV; rw [h1, h2]
theorem partsZ_congr (l : List (BitVec 32)) (ls : List (List Rul)) : ∀ {ps qs : List Prt} (rks : List (List Int)), ps.map (fun p => (p.fr, p.up)) = qs.map (fun p => (p.fr, p.up)) -> partsZ l ls (ps.zip rks) = partsZ l ls (qs.zip rks)
 | [], [], _, _ => rfl
 | [], q :: qs, _, h => by simp at h
 | p :: ps, [], _, h => by simp at h
 | p :: ps, q :: qs, [], _ => rfl
 | p :: ps, q :: qs, r :: rks, h => by
   simp only [List.map_cons, List.cons.injEq, Prod.mk.injEq] at h
   obtain ⟨⟨h1, h2⟩, h3⟩ := h
   rw [List.zip_cons_cons, List.zip_cons_cons]
   unfold partsZ
   rw [partV_congr h1 h2, partsZ_congr l ls rks h3]
theorem ansV_congr {c d : Crt} (h : CrtEq c d) (l : List (BitVec 32)) (ls : List (List Rul)) : ansV l ls c = ansV l ls d := by
 unfold ansV
 rw [certMayV_congr h, h.vd, h.dest, h.tr, h.rks, partsZ_congr l ls d.rks h.ps]
/-- A network's cuts. -/
noncomputable def cutL (ls : List (List Rul)) : List (BitVec 32) := (cuts_exist ls.flatten).choose
theorem cutL_is (ls : List (List Rul)) : Cuts ls.flatten (cutL ls) := (cuts_exist ls.flatten).choose_spec
/-- What is told of a network's bytes and a certificate's. -/
noncomputable def chkV (f c : List Byt) : Int × Int :=
 match netTake f with
 | .error z => (0, z)
 | .ok ls => match certTake c with
   | .error z => (0, z)
   | .ok q => if q.2 ≠ ls.length then (0, 1) else ansV (cutL ls) ls q.1
theorem netTake_may {b : List Byt} {ls : List (List Rul)} (h : netTake b = .ok ls) : netMayV ls = 0 := by
 unfold netTake at h
 split at h
 · cases h
 · obtain ⟨y, h1, h2⟩ := bindE_ok h
   split at h2
   · cases h2
   · rename_i hm
     cases h2
     exact Classical.not_not.1 hm
theorem may_ok {ls : List (List Rul)} (h : netMayV ls = 0) : TablesOk ls := fun l hl r hr => by
 obtain ⟨p1, p2, p3⟩ := (net_rulB h l hl).1 r hr
 exact ⟨by unfold In64; omega, by unfold In64; omega, by unfold In64; omega⟩
theorem chk_bad {f c : List Byt} {z : Int} (h : netTake f = .error z) : chkV f c = (0, z) := by unfold chkV; rw [h]
theorem chk_badC {f c : List Byt} {z : Int} {ls : List (List Rul)} (h : netTake f = .ok ls) (k : certTake c = .error z) : chkV f c = (0, z) := by unfold chkV; rw [h]; simp only; rw [k]
theorem chk_size {f c : List Byt} {q : Crt × Nat} {ls : List (List Rul)} (h : netTake f = .ok ls) (k : certTake c = .ok q) (hn : q.2 ≠ ls.length) : chkV f c = (0, 1) := by unfold chkV; rw [h]; simp only; rw [k]; simp only; rw [if_pos hn]
theorem chk_good {f c : List Byt} {q : Crt × Nat} {ls : List (List Rul)} (h : netTake f = .ok ls) (k : certTake c = .ok q) (hn : q.2 = ls.length) : chkV f c = ansV (cutL ls) ls q.1 := by unfold chkV; rw [h]; simp only; rw [k]; simp only; rw [if_neg (by simp [hn])]
/-- A certificate that may be is one of as many rows of ranks as parts. -/
theorem certTake_len {b : List Byt} {q : Crt × Nat} (h : certTake b = .ok q) : q.1.rks.length = q.1.ps.length := by
 unfold certTake at h
 split at h
 · cases h
 · split at h
   · cases h
   · cases h
     show (rdCrt _).rks.length = (rdCrt _).ps.length
     unfold rdCrt
     split
     · simp [crtP]
     · rfl
end Go.Proofs.YtdpmnldmbnpfpaaGreatDoor

/- tool.Analyze and tool.Check, by the program. Conditions: a milliard bytes at most. -/
namespace Go.Proofs.YtdpmnldmbnpfpaaGreatDoor
open Go Go.RowKit Go.Maps Go.Proofs

/-- What tool.Analyze hands back. -/
def AnOut (w : World) (l : List Byt) (e : Ending) (w' : World) : Prop :=
 (match netTake l with
  | .error z => z ≠ 0 /\ e = .returned (.tuple #[.slice none 0 0, I z])
  | .ok ls => ∃ c u, AnaIs ls c /\ c.rks.length = c.ps.length /\ certMayV ls.length c = 0 /\ e = .returned (.tuple #[u, I 0]) /\ OwnY w' w.heap.size u (certPut c ls.length)) /\ Ext w w'
theorem CertAt.in64 {w : World} {pv tv : Value} {c : Crt} {n : Nat} (_ : CertAt w pv tv c) (hm : certMayV n c = 0) (hn : n <= 256) : ∀ x ∈ c.tr, In64 x := may_in64 hm hn
set_option maxHeartbeats 4000000 in
set_option maxRecDepth 100000 in
theorem toolAnalyze_any (v : Value) (l : List Byt) (w : World) (h : BsAt w v l) (hl : l.length <= 1000000000) : Calls Tryz.prog 13 #[v] w (AnOut w l) := by
 have HN := Lib.hid (netfileTake_any v l w h hl)
 obtain ⟨a, cap, rfl, -⟩ := h.form
 clear h
 cases ht : netTake l with
 | error z =>
   have HT := Lib.hid ht
   clear ht
   go_enter Tryz.func13, Tryz.ntmps13
   go_upto_region 2 with (first
    | (go_at_call 21
       go_loud (
        (with_reducible refine HN.out.mono ?_)
        rintro e w2 ⟨h1, hx⟩
        rw [HT.out] at h1
        obtain ⟨hz, he⟩ := h1
        subst he
        have HX2 := Lib.hid hx
        have HZ := Lib.hid hz
        clear hx hz)))
   refine hideW (Φ := fun W => Code.wp _ _ _ _ W) (fun W => Ext w2 W) (by (repeat with_reducible first | exact Ext.refl _ | assumption | refine Ext.alloc ?_ _ | refine Ext.drew ?_ | refine Ext.drewN ?_ _ | (refine Ext.setCellP ?_ ?_; focus (first | (simp; done) | (simp; omega) | omega)))) (fun W3 hW3 => ?_)
   have HX3 := Lib.hid (HX2.out.trans hW3)
   have hzb : (z != 0) = true := by simp [HZ.out]
   clear hW3
   go_wp2_with fail
   go_ret2
   unfold AnOut
   rw [HT.out]
   exact ⟨⟨HZ.out, rfl⟩, HX3.out⟩
 | ok ls =>
   have HT := Lib.hid ht
   have HM := Lib.hid (netTake_may ht)
   clear ht
   have hlen := (netMay_tabs HM.out).1
   go_enter Tryz.func13, Tryz.ntmps13
   go_upto_region 2 with (first
    | (go_at_call 21
       go_loud (
        (with_reducible refine HN.out.mono ?_)
        rintro e w2 ⟨h1, hx⟩
        rw [HT.out] at h1
        obtain ⟨u2, he, ho⟩ := h1
        obtain ⟨va, vc, hue, -⟩ := ho.read.form
        subst hue
        subst he
        have HX2 := Lib.hid hx
        have HR2 := Lib.hid ho.read
        clear hx ho)))
   refine hideW (Φ := fun W => Code.wp _ _ _ _ W) (fun W => Ext w2 W /\ Blk W w2.heap.size [.slice va ls.length vc] 39) ⟨by (repeat with_reducible first | exact Ext.refl _ | assumption | refine Ext.alloc ?_ _ | refine Ext.drew ?_ | refine Ext.drewN ?_ _ | (refine Ext.setCellP ?_ ?_; focus (first | (simp; done) | (simp; omega) | omega))), Blk.new w2 [.slice va ls.length vc] 39⟩ (fun W3 hW3 => ?_)
   obtain ⟨hx3, hb3⟩ := hW3
   have HX3 := Lib.hid (HX2.out.trans hx3)
   have HB3 := Lib.hid hb3
   have hnc := hb3.cells
   have HOK := Lib.hid (may_ok HM.out)
   have HA := Lib.hid (aNet_good _ ls W3 (HR2.out.later hx3) HOK.out HM.out)
   clear hx3 hb3
   generalize w2.heap.size = nb at *
   go_upto_region 5 with (first
    | (go_at_call 31
       go_loud (
        (with_reducible refine HA.out.mono ?_)
        rintro e w4 ⟨pv, tv, c, he, hc, ha, hx⟩
        obtain ⟨pa, pc, hpe, -⟩ := hc.parts.form
        obtain ⟨ta, tc, hte, -⟩ := hc.tr.form
        subst hpe
        subst hte
        subst he
        have HX4 := Lib.hid (HX3.out.trans hx)
        have HB4 := Lib.hid (HB3.out.later hx)
        have HC4 := Lib.hid hc
        have HA4 := Lib.hid ha
        clear hx hc ha hnc)))
   refine hideW (Φ := fun W => Code.wp _ _ _ _ W) (fun W => Ext w4 W /\ Blk W w4.heap.size [I c.vd, .slice pa c.ps.length pc, U c.dest, .slice ta c.tr.length tc] 55) ⟨by (repeat with_reducible first | exact Ext.refl _ | assumption | refine Ext.alloc ?_ _ | refine Ext.drew ?_ | refine Ext.drewN ?_ _ | (refine Ext.setCellP ?_ ?_; focus (first | (simp; done) | (simp; omega) | omega))), Blk.new w4 [I c.vd, .slice pa c.ps.length pc, U c.dest, .slice ta c.tr.length tc] 55⟩ (fun W5 hW5 => ?_)
   obtain ⟨hx5, hb5⟩ := hW5
   have HX5 := Lib.hid (HX4.out.trans hx5)
   have hcc := hb5.cells
   have hnc := (HB4.out.later hx5).cells
   have HC5 := Lib.hid (HC4.out.later hx5)
   have HMC := Lib.hid (ana_holds HM.out (cutL_is ls) HA4.out).1
   have HP := Lib.hid (certfilePut_any _ _ c ls.length W5 HC5.out HMC.out hlen)
   clear hx5 hb5
   generalize w4.heap.size = cb at *
   go_wp2_with (first
    | (go_at_call 32
       go_loud (
        (with_reducible refine HP.out.mono ?_)
        rintro e w6 ⟨u6, he, ho, hx⟩
        obtain ⟨ua, uc, hue⟩ := ho.form
        subst hue
        subst he
        have HX6 := Lib.hid (HX5.out.trans hx)
        have HO6 := Lib.hid (ho.low HX5.out.size)
        clear hx ho)))
   go_ret2
   unfold AnOut
   rw [HT.out]
   exact ⟨⟨c, _, HA4.out, HC4.out.len, HMC.out, rfl, HO6.out⟩, HX6.out⟩
set_option maxHeartbeats 4000000 in
set_option maxRecDepth 100000 in
theorem toolCheck_any (v u : Value) (f c : List Byt) (w : World) (h : BsAt w v f) (hl : f.length <= 1000000000) (k : BsAt w u c) (kl : c.length <= 1000000000) :
 Calls Tryz.prog 17 #[v, u] w fun e w' => e = .returned (.agg #[I (chkV f c).1, I (chkV f c).2]) /\ Ext w w' := by
 have HH := Lib.hid h
 have HK := Lib.hid k
 obtain ⟨a, cap, rfl, -⟩ := h.form
 obtain ⟨a2, cap2, rfl, -⟩ := k.form
 clear h k
 go_enter Tryz.func17, Tryz.ntmps17
 go_upto_region 1 with fail
 refine hideW (Φ := fun W => Code.wp _ _ _ _ W) (fun W => Ext w W /\ Blk W w.heap.size [I 0, I 0] 35) ⟨by (repeat with_reducible first | exact Ext.refl _ | assumption | refine Ext.alloc ?_ _ | refine Ext.drew ?_ | refine Ext.drewN ?_ _ | (refine Ext.setCellP ?_ ?_; focus (first | (simp; done) | (simp; omega) | omega))), Blk.new w [I 0, I 0] 35⟩ (fun W1 hW1 => ?_)
 obtain ⟨hx1, hb1⟩ := hW1
 have HX1 := Lib.hid hx1
 have HB1 := Lib.hid hb1
 have HN := Lib.hid (netfileTake_any _ f W1 (HH.out.later hx1) hl)
 clear hx1 hb1
 generalize hab : w.heap.size = ab at *
 have HAB := Lib.hid (show w.heap.size <= ab from Nat.le_of_eq hab)
 clear hab
 cases ht : netTake f with
 | error z =>
   have HT := Lib.hid ht
   clear ht
   go_upto_region 2 with (first
    | (go_at_call 21
       go_loud (
        (with_reducible refine HN.out.mono ?_)
        rintro e w2 ⟨h1, hx⟩
        rw [HT.out] at h1
        obtain ⟨hz, he⟩ := h1
        subst he
        have HX2 := Lib.hid (HX1.out.trans hx)
        have HZ := Lib.hid hz
        have HB2 := Lib.hid (HB1.out.later hx)
        clear hx hz)))
   refine hideW (Φ := fun W => Code.wp _ _ _ _ W) (fun W => Ext w2 W) (by (repeat with_reducible first | exact Ext.refl _ | assumption | refine Ext.alloc ?_ _ | refine Ext.drew ?_ | refine Ext.drewN ?_ _ | (refine Ext.setCellP ?_ ?_; focus (first | (simp; done) | (simp; omega) | omega)))) (fun W3 hW3 => ?_)
   have HX3 := Lib.hid (HX2.out.trans hW3)
   have HB3 := Lib.hid (HB2.out.later hW3)
   have hzb : (z != 0) = true := by simp [HZ.out]
   have hbf := HB3.out.frozen
   have hbc := HB3.out.cells
   clear hW3
   go_wp2_with fail
   refine hideW (Φ := fun W => bodyPost _ _ _ _ _ W) (fun W => Ext w W /\ Blk W ab [I 0, I z] 35) ⟨(HX3.out.setCell HAB.out _).setCell HAB.out _, (HB3.out.set 0 _).set 1 _⟩ (fun W9 hW9 => ?_)
   obtain ⟨hx9, hb9⟩ := hW9
   have hbc := hb9.cells
   refine bodyPost_ret (v := .agg #[I 0, I z]) (by rw [results_cell1 rfl]; go_simp) rfl ?_
   rw [chk_bad HT.out]
   exact ⟨rfl, hx9⟩
 | ok ls =>
   have HT := Lib.hid ht
   have HM := Lib.hid (netTake_may ht)
   clear ht
   go_upto_region 2 with (first
    | (go_at_call 21
       go_loud (
        (with_reducible refine HN.out.mono ?_)
        rintro e w2 ⟨h1, hx⟩
        rw [HT.out] at h1
        obtain ⟨u2, he, ho⟩ := h1
        obtain ⟨va, vc, hue, -⟩ := ho.read.form
        subst hue
        subst he
        have HX2 := Lib.hid (HX1.out.trans hx)
        have HR2 := Lib.hid ho.read
        have HB2 := Lib.hid (HB1.out.later hx)
        clear hx ho)))
   refine hideW (Φ := fun W => Code.wp _ _ _ _ W) (fun W => Ext w2 W /\ Blk W w2.heap.size [.slice va ls.length vc] 39) ⟨by (repeat with_reducible first | exact Ext.refl _ | assumption | refine Ext.alloc ?_ _ | refine Ext.drew ?_ | refine Ext.drewN ?_ _ | (refine Ext.setCellP ?_ ?_; focus (first | (simp; done) | (simp; omega) | omega))), Blk.new w2 [.slice va ls.length vc] 39⟩ (fun W3 hW3 => ?_)
   obtain ⟨hx3, hb3⟩ := hW3
   have HX3 := Lib.hid (HX2.out.trans hx3)
   have HB3 := Lib.hid (HB2.out.later hx3)
   have HN3 := Lib.hid hb3
   have HR3 := Lib.hid (HR2.out.later hx3)
   have HCT := Lib.hid (certfileTake_any _ c W3 (HK.out.later HX3.out) kl)
   clear hx3 hb3
   generalize w2.heap.size = nb at *
   cases hct : certTake c with
   | error z =>
     have HC := Lib.hid hct
     clear hct
     go_upto_region 5 with (first
      | (go_at_call 26
         go_loud (
          (with_reducible refine HCT.out.mono ?_)
          rintro e w4 ⟨h1, hx⟩
          rw [HC.out] at h1
          obtain ⟨hz, he⟩ := h1
          subst he
          have HX4 := Lib.hid (HX3.out.trans hx)
          have HZ := Lib.hid hz
          have HB4 := Lib.hid (HB3.out.later hx)
          clear hx hz)))
     refine hideW (Φ := fun W => Code.wp _ _ _ _ W) (fun W => Ext w4 W) (by (repeat with_reducible first | exact Ext.refl _ | assumption | refine Ext.alloc ?_ _ | refine Ext.drew ?_ | refine Ext.drewN ?_ _ | (refine Ext.setCellP ?_ ?_; focus (first | (simp; done) | (simp; omega) | omega)))) (fun W5 hW5 => ?_)
     have HX5 := Lib.hid (HX4.out.trans hW5)
     have HB5 := Lib.hid (HB4.out.later hW5)
     have hzb : (z != 0) = true := by simp [HZ.out]
     have hbf := HB5.out.frozen
     have hbc := HB5.out.cells
     clear hW5
     go_wp2_with fail
     refine hideW (Φ := fun W => bodyPost _ _ _ _ _ W) (fun W => Ext w W /\ Blk W ab [I 0, I z] 35) ⟨(HX5.out.setCell HAB.out _).setCell HAB.out _, (HB5.out.set 0 _).set 1 _⟩ (fun W9 hW9 => ?_)
     obtain ⟨hx9, hb9⟩ := hW9
     have hbc := hb9.cells
     refine bodyPost_ret (v := .agg #[I 0, I z]) (by rw [results_cell1 rfl]; go_simp) rfl ?_
     rw [chk_badC HT.out HC.out]
     exact ⟨rfl, hx9⟩
   | ok q =>
     obtain ⟨d, n⟩ := q
     have HC := Lib.hid hct
     have HCP := Lib.hid (certPut_take hct)
     clear hct
     go_upto_region 5 with (first
      | (go_at_call 26
         go_loud (
          (with_reducible refine HCT.out.mono ?_)
          rintro e w4 ⟨h1, hx⟩
          rw [HC.out] at h1
          obtain ⟨pv, tv, c4, he, hc4, hq4⟩ := h1
          obtain ⟨pa, pc, hpe, -⟩ := hc4.parts.form
          obtain ⟨ta, tc, hte, -⟩ := hc4.tr.form
          subst hpe
          subst hte
          subst he
          have HX4 := Lib.hid (HX3.out.trans hx)
          have HC4 := Lib.hid hc4
          have HQ4 := Lib.hid hq4
          have HB4 := Lib.hid (HB3.out.later hx)
          have HN4 := Lib.hid (HN3.out.later hx)
          have HR4 := Lib.hid (HR3.out.later hx)
          clear hx hc4 hq4)))
     refine hideW (Φ := fun W => Code.wp _ _ _ _ W) (fun W => Ext w4 W /\ Blk W w4.heap.size [I c4.vd, .slice pa c4.ps.length pc, U c4.dest, .slice ta c4.tr.length tc] 55) ⟨by (repeat with_reducible first | exact Ext.refl _ | assumption | refine Ext.alloc ?_ _ | refine Ext.drew ?_ | refine Ext.drewN ?_ _ | (refine Ext.setCellP ?_ ?_; focus (first | (simp; done) | (simp; omega) | omega))), Blk.new w4 [I c4.vd, .slice pa c4.ps.length pc, U c4.dest, .slice ta c4.tr.length tc] 55⟩ (fun W5 hW5 => ?_)
     obtain ⟨hx5, hb5⟩ := hW5
     have HX5 := Lib.hid (HX4.out.trans hx5)
     have HB5 := Lib.hid (HB4.out.later hx5)
     have hcc := hb5.cells
     have hnc := (HN4.out.later hx5).cells
     have HC5 := Lib.hid (HC4.out.later hx5)
     have HR5 := Lib.hid (HR4.out.later hx5)
     clear hx5 hb5
     generalize w4.heap.size = cb at *
     by_cases hn : n = ls.length
     · have hnb : ((n : Int) != (ls.length : Int)) = false := by simp [hn]
       have HG := Lib.hid (chk_good HT.out HC.out hn)
       have HOK := Lib.hid (may_ok HM.out)
       have hsz := (netMay_tabs HM.out).2.1
       have HK5 := Lib.hid (checkNet_any _ _ _ ls c4 (cutL ls) W5 HR5.out HOK.out (by omega) (cutL_is ls) HC5.out (HC5.out.in64 (n := n) (by rw [certMayV_congr HQ4.out]; exact HCP.out.2.1) HCP.out.2.2))
       have HAE := Lib.hid (show ansV (cutL ls) ls c4 = chkV f c by rw [HG.out, ansV_congr HQ4.out])
       clear hn hsz
       rw [HAE.out] at HK5
       obtain ⟨an, han⟩ : ∃ an, an = chkV f c := ⟨_, rfl⟩
       rw [<- han] at HK5
       have HAN := Lib.hid han
       clear han
       go_wp2_with (first
        | (go_at_call 40
           go_loud (
            (with_reducible refine HK5.out.mono ?_)
            rintro e w6 ⟨he, hx⟩
            subst he
            have HX6 := Lib.hid (HX5.out.trans hx)
            have HB6 := Lib.hid (HB5.out.later hx)
            clear hx hcc hnc
            have hbf := HB6.out.frozen
            have hbc := HB6.out.cells)))
       refine hideW (Φ := fun W => bodyPost _ _ _ _ _ W) (fun W => Ext w W /\ Blk W ab [I an.1, I an.2] 35) ⟨(HX6.out.setCell HAB.out _).setCell HAB.out _, (HB6.out.set 0 _).set 1 _⟩ (fun W9 hW9 => ?_)
       obtain ⟨hx9, hb9⟩ := hW9
       have hbc := hb9.cells
       refine bodyPost_ret (v := .agg #[I an.1, I an.2]) (by rw [results_cell1 rfl]; go_simp) rfl ?_
       rw [<- HAN.out]
       exact ⟨rfl, hx9⟩
     · have hnb : ((n : Int) != (ls.length : Int)) = true := by simp; omega
       have HG := Lib.hid (chk_size HT.out HC.out hn)
       have hbf := HB5.out.frozen
       have hbc := HB5.out.cells
       clear hn
       go_wp2_with fail
       refine hideW (Φ := fun W => bodyPost _ _ _ _ _ W) (fun W => Ext w W /\ Blk W ab [I 0, I 1] 35) ⟨(HX5.out.setCell HAB.out _).setCell HAB.out _, (HB5.out.set 0 _).set 1 _⟩ (fun W9 hW9 => ?_)
       obtain ⟨hx9, hb9⟩ := hW9
       have hbc := hb9.cells
       refine bodyPost_ret (v := .agg #[I 0, I 1]) (by rw [results_cell1 rfl]; go_simp) rfl ?_
       rw [HG.out]
       exact ⟨rfl, hx9⟩
end Go.Proofs.YtdpmnldmbnpfpaaGreatDoor
