/- Meet, CoverA: these texts in one. Conditions: each part names its own. -/
import Derived.Test.YtdpmnldmbnpfpaaGreatDoorGIns
import Derived.Test.YtdpmnldmbnpfpaaGreatDoorGRule
/- Whether parts meet, and which part has an address: the program's and the reference's answers. Conditions: none. -/
namespace Go.Proofs.YtdpmnldmbnpfpaaGreatDoor
open Go.RowKit

def meetG : Int -> List Prt -> Bool
 | nx, [] => nx == 4294967296
 | nx, p :: ps => (uv p.fr == nx) && (decide (uv p.fr <= uv p.up) && meetG (uv p.up + 1) ps)
def meetV (ps : List Prt) : Int := if meetG 0 ps = true then 0 else 15
theorem meetV_yes {ps : List Prt} (h : meetG 0 ps = true) : meetV ps = 0 := by unfold meetV; rw [if_pos h]
theorem meetV_no {ps : List Prt} (h : meetG 0 ps = false) : meetV ps = 15 := by unfold meetV; rw [h]; rfl
theorem meetG_step (nx : Int) {ps : List Prt} {k : Nat} (h : k < ps.length) : meetG nx (ps.drop k) = ((uv ps[k].fr == nx) && (decide (uv ps[k].fr <= uv ps[k].up) && meetG (uv ps[k].up + 1) (ps.drop (k + 1)))) := by
 rw [List.drop_eq_getElem_cons h]; rfl
theorem meetG_end (nx : Int) {ps : List Prt} {k : Nat} (h : ps.length <= k) : meetG nx (ps.drop k) = (nx == 4294967296) := by rw [List.drop_of_length_le h]; rfl
theorem meetG_last : ∀ {ps : List Prt} {nx : Int} {m : Nat}, meetG nx ps = true -> ps.length = m + 1 -> ∃ p, ps[m]? = some p /\ uv p.up = 4294967295
 | [], _, _, _, h => by simp at h
 | [p], nx, m, h, hm => by
   have : m = 0 := by simpa using hm.symm
   subst this
   refine ⟨p, rfl, ?_⟩
   simp only [meetG, Bool.and_eq_true, beq_iff_eq] at h
   omega
 | p :: q :: ps, nx, m, h, hm => by
   simp only [meetG, Bool.and_eq_true] at h
   obtain ⟨k, rfl⟩ : ∃ k, m = k + 1 := ⟨m - 1, by simp at hm; omega⟩
   have h2 : meetG (uv p.up + 1) (q :: ps) = true := by simp only [meetG, Bool.and_eq_true]; exact h.2.2
   obtain ⟨x, h3, h4⟩ := meetG_last (m := k) h2 (by simpa using hm)
   exact ⟨x, by simpa using h3, h4⟩
/-- Which parts have an address. -/
def inP (a : BitVec 32) (p : Prt) : Bool := decide (uv p.fr <= uv a) && decide (uv a <= uv p.up)
def notP (a : BitVec 32) (p : Prt) : Bool := !inP a p
def coN (ps : List Prt) (a : BitVec 32) : Nat := (ps.takeWhile (notP a)).length
theorem coN_le (ps : List Prt) (a : BitVec 32) : coN ps a <= ps.length := (List.takeWhile_sublist _).length_le
theorem coN_lt {ps : List Prt} {a : BitVec 32} {j : Nat} (h : j < coN ps a) (h' : j < ps.length) : inP a ps[j] = false := by
 have := tw_lt (notP a) ps j h h'
 unfold notP at this
 simpa using this
theorem coN_end {ps : List Prt} {a : BitVec 32} (h : coN ps a < ps.length) : inP a ps[coN ps a] = true := by
 have h1 : notP a ps[coN ps a] = false := tw_end (notP a) ps h
 cases hb : inP a ps[coN ps a]
 · have h2 : notP a ps[coN ps a] = true := by unfold notP; rw [hb]; rfl
   rw [h1] at h2; cases h2
 · rfl
abbrev coverV (ps : List Prt) (a : BitVec 32) : Value := .tuple #[I (if coN ps a < ps.length then (coN ps a : Int) else 0), .bool (decide (coN ps a < ps.length))]
/-- What a part must begin with, behind k parts. -/
def nxP (ps : List Prt) : Nat -> Int
 | 0 => 0
 | k + 1 => ((ps[k]?).map fun p => uv p.up + 1).getD 0
set_option maxHeartbeats 4000000 in
theorem certMeet_any (pv : Value) (ps : List Prt) (w : World) (hp : PartsAt w pv ps) :
 Calls Tryz.prog 160 #[pv] w fun e w' => e = .returned (I (meetV ps)) /\ Ext w w' := by
 obtain ⟨pd, pcap, rfl, p1, p2, p3⟩ := hp.form
 have P3 := Lib.hid p3
 clear p3 hp
 unfold maxLen at p2
 by_cases hz : ps.length = 0
 · have HN := Lib.hid (meetV_no (show meetG 0 ps = false by rw [List.eq_nil_of_length_eq_zero hz]; rfl))
   rw [hz]
   go_enter Tryz.func160, Tryz.ntmps160
   go_wp2_with fail
   go_ret
   exact ⟨by rw [HN.out]; rfl, Ext.refl _⟩
 · obtain ⟨m, hm⟩ : ∃ m, ps.length = m + 1 := ⟨ps.length - 1, by omega⟩
   obtain ⟨b0, o0, rfl, z0, z1, z2⟩ := P3.out 0 (ps[0]'(by omega)) (List.getElem?_eq_getElem (by omega))
   obtain ⟨b1, o1, he1, y0, y1, y2⟩ := P3.out m (ps[m]'(by omega)) (List.getElem?_eq_getElem (by omega))
   simp only [Option.some.injEq, Addr.mk.injEq, and_true] at he1
   obtain ⟨rfl, rfl⟩ := he1
   rw [Nat.zero_mul, Nat.add_zero] at z0
   clear z1 z2 y0 y2
   have HLAST := Lib.hid (show meetG 0 ps = true -> uv (ps[m]'(by omega)).up = 4294967295 from fun h => by
    obtain ⟨p, h1, h2⟩ := meetG_last h hm
    rw [List.getElem?_eq_getElem (show m < ps.length by omega)] at h1
    rw [Option.some.inj h1]
    exact h2)
   have HFST := Lib.hid (meetG_step 0 (ps := ps) (k := 0) (by omega))
   have hlm : ((ps.length : Int) == 0) = false := beq_false_of_ne (by omega)
   have hnm : (ps.length == 0) = false := beq_false_of_ne (by omega)
   have HLP := Lib.hid (show ps[m]? = some (ps[m]'(by omega)) from List.getElem?_eq_getElem (by omega))
   have HFP := Lib.hid (show ps[0]? = some (ps[0]'(by omega)) from List.getElem?_eq_getElem (by omega))
   generalize ps[m]'(by omega) = lp at *
   generalize ps[0]'(by omega) = fp at *
   have HM := Lib.hid hm
   have hlen1 : (ps.length : Int) - 1 = (m : Int) := by omega
   have hmw : m < ps.length := by omega
   clear hm
   by_cases h0 : fp.fr = 0#32
   · have hd0 : (fp.fr != 0#32) = false := by simpa using h0
     by_cases ht : lp.up = 4294967295#32
     · have hdt : (lp.up != 4294967295#32) = false := by simpa using ht
       have hdt' : (uv lp.up != 4294967295) = false := by rw [ht]; rfl
       have HT := Lib.hid (show uv lp.up = 4294967295 by rw [ht]; rfl)
       have H0 := Lib.hid (show uv fp.fr = 0 by rw [h0]; rfl)
       clear h0 ht hz
       go_enter Tryz.func160, Tryz.ntmps160
       go_wp2_with fail
       clear hlm hnm hlen1 hmw
       go_loopw [27] (fun i wr => ∃ k : Nat, k <= ps.length /\ i = I k /\ Hid (meetG 0 ps = meetG (nxP ps k) (ps.drop k)) /\ Hid (Ext w wr)) (fun i _ => ps.length - (intOf i).toNat)
       case atStart => exact ⟨0, by omega, rfl, rfl, Ext.refl _⟩
       case round =>
        obtain ⟨k, hk, rfl, HG, HX⟩ := hrel
        by_cases hlt : k < ps.length
        · have hlk : k < ps.length := hlt
          obtain ⟨b2, o2, he2, q0, q1, q2⟩ := P3.out k ps[k] (List.getElem?_eq_getElem hlk)
          simp only [Option.some.injEq, Addr.mk.injEq, and_true] at he2
          obtain ⟨rfl, rfl⟩ := he2
          replace q0 := HX.out.cell q0
          replace q1 := HX.out.cell q1
          replace q2 := HX.out.cell q2
          have HST := Lib.hid (meetG_step (nxP ps k) hlk)
          have HNX := Lib.hid (show nxP ps (k + 1) = uv ps[k].up + 1 by simp [nxP, hlk])
          have HPK := Lib.hid (show ps[k]? = some ps[k] from List.getElem?_eq_getElem hlk)
          generalize ps[k] = p at *
          clear hlk
          go_upto_region 6 with (fail)
          refine hideW (Φ := fun W => Code.wp _ _ _ _ W) (fun W => Ext wr W /\ Blk W wr.heap.size [U p.fr, U p.up, p.rk] 59)
           ⟨by (repeat with_reducible first | exact Ext.refl _ | assumption | refine Ext.alloc ?_ _ | refine Ext.drew ?_ | refine Ext.drewN ?_ _ | (refine Ext.setCellP ?_ ?_; focus (first | (simp; done) | (simp; omega) | omega))), Blk.new wr [U p.fr, U p.up, p.rk] 59⟩ (fun W2 hW2 => ?_)
          obtain ⟨hx2, hb2⟩ := hW2
          have HX2 := Lib.hid (HX.out.trans hx2)
          have kc := hb2.cells
          clear q0 q1 q2 hx2 hb2 HX
          generalize wr.heap.size = kb at *
          by_cases h1 : uv p.fr <= uv p.up
          · have hd1 : decide (uv p.up < uv p.fr) = false := decide_eq_false (by omega)
            have HLE := Lib.hid h1
            clear h1
            cases k with
            | zero =>
              have HN := Lib.hid (show meetG 0 ps = meetG (nxP ps 1) (ps.drop 1) by
               have e : p = fp := Option.some.inj (HPK.out.symm.trans HFP.out)
               rw [HG.out, HST.out, show nxP ps 0 = 0 from rfl, e, H0.out, <- e, HNX.out, show decide ((0 : Int) <= uv p.up) = true from decide_eq_true (uv_nonneg _)]; rfl)
              go_wp2_with fail
              go_quiet (fail)
              go_wp2_with fail
              go_roundw
              case rel => exact ⟨1, by omega, by go_num, HN.out, by have := HX2.out; show Ext _ _; (repeat with_reducible first | exact Ext.refl _ | assumption | refine Ext.alloc ?_ _ | refine Ext.drew ?_ | refine Ext.drewN ?_ _ | (refine Ext.setCellP ?_ ?_; focus (first | (simp; done) | (simp; omega) | omega)))⟩
              case measure => simp [intOf]; omega
            | succ j =>
              have hlj : j < ps.length := by omega
              obtain ⟨b2, o2, he2, r0, r1, r2⟩ := P3.out j ps[j] (List.getElem?_eq_getElem hlj)
              simp only [Option.some.injEq, Addr.mk.injEq, and_true] at he2
              obtain ⟨rfl, rfl⟩ := he2
              replace r1 := HX2.out.cell r1
              clear r0 r2
              have HNJ := Lib.hid (show nxP ps (j + 1) = uv ps[j].up + 1 by simp [nxP, hlj])
              generalize ps[j] = q at *
              clear hlj
              have hkp : decide ((0 : Int) < ((j + 1 : Nat) : Int)) = true := decide_eq_true (by omega)
              have hkp2 : decide ((0 : Int) < (j : Int) + 1) = true := decide_eq_true (by omega)
              have hjw : IntKind.i64.wrap (j : Int) = j := by rw [IntKind.wrap_i64]; omega
              have hjm : j < ps.length := by omega
              have hjd : decide ((j : Int) < (ps.length : Int)) = true := decide_eq_true (by omega)
              by_cases ht2 : q.up = 4294967295#32
              · have hdt2 : (q.up == 4294967295#32) = true := by simpa using ht2
                have hdt3 : (uv q.up == 4294967295) = true := by rw [ht2]; rfl
                have HN := Lib.hid (meetV_no (show meetG 0 ps = false by
                 have hb := uv_bd p.fr
                 rw [HG.out, HST.out, HNJ.out, show uv q.up = 4294967295 by rw [ht2]; rfl, show (uv p.fr == 4294967295 + 1) = false from beq_false_of_ne (by omega)]; rfl))
                clear ht2
                go_wp2_with fail
                go_quiet (fail)
                go_wp2_with fail
                go_ret
                exact ⟨by rw [HN.out]; rfl, by have := HX2.out; (repeat with_reducible first | exact Ext.refl _ | assumption | refine Ext.alloc ?_ _ | refine Ext.drew ?_ | refine Ext.drewN ?_ _ | (refine Ext.setCellP ?_ ?_; focus (first | (simp; done) | (simp; omega) | omega)))⟩
              · have hdt2 : (q.up == 4294967295#32) = false := by simpa using ht2
                have hqt : uv q.up ≠ 4294967295 := fun e => ht2 (uv_inj (by rw [e]; rfl))
                have hdt3 : (uv q.up == 4294967295) = false := by simpa using hqt
                have HI := Lib.hid (show uv (q.up + 1#32) = uv q.up + 1 by
                 have h1 := uv_bd q.up
                 unfold uv at *
                 rw [BitVec.toNat_add]
                 simp
                 omega)
                clear ht2 hqt
                by_cases h2 : p.fr = q.up + 1#32
                · have hd2 : (p.fr != q.up + 1#32) = false := by simpa using h2
                  have HN := Lib.hid (show meetG 0 ps = meetG (nxP ps (j + 1 + 1)) (ps.drop (j + 1 + 1)) by
                   rw [HG.out, HST.out, HNJ.out, HNX.out, show (uv p.fr == uv q.up + 1) = true by rw [h2, HI.out]; simp, decide_eq_true HLE.out]; rfl)
                  clear h2
                  go_wp2_with fail
                  go_quiet (fail)
                  go_wp2_with fail
                  go_roundw
                  case rel => exact ⟨j + 1 + 1, by omega, by go_num, HN.out, by have := HX2.out; show Ext _ _; (repeat with_reducible first | exact Ext.refl _ | assumption | refine Ext.alloc ?_ _ | refine Ext.drew ?_ | refine Ext.drewN ?_ _ | (refine Ext.setCellP ?_ ?_; focus (first | (simp; done) | (simp; omega) | omega)))⟩
                  case measure => simp [intOf]; omega
                · have hd2 : (p.fr != q.up + 1#32) = true := by simpa using h2
                  have HN := Lib.hid (meetV_no (show meetG 0 ps = false by
                   rw [HG.out, HST.out, HNJ.out, show (uv p.fr == uv q.up + 1) = false from beq_false_of_ne (fun e => h2 (uv_inj (by rw [HI.out]; exact e)))]; rfl))
                  clear h2
                  go_wp2_with fail
                  go_quiet (fail)
                  go_wp2_with fail
                  go_ret
                  exact ⟨by rw [HN.out]; rfl, by have := HX2.out; (repeat with_reducible first | exact Ext.refl _ | assumption | refine Ext.alloc ?_ _ | refine Ext.drew ?_ | refine Ext.drewN ?_ _ | (refine Ext.setCellP ?_ ?_; focus (first | (simp; done) | (simp; omega) | omega)))⟩
          · have hd1 : decide (uv p.up < uv p.fr) = true := decide_eq_true (by omega)
            have HN := Lib.hid (meetV_no (show meetG 0 ps = false by rw [HG.out, HST.out, decide_eq_false h1]; simp))
            clear h1
            go_wp2_with fail
            go_ret
            exact ⟨by rw [HN.out]; rfl, by have := HX2.out; (repeat with_reducible first | exact Ext.refl _ | assumption | refine Ext.alloc ?_ _ | refine Ext.drew ?_ | refine Ext.drewN ?_ _ | (refine Ext.setCellP ?_ ?_; focus (first | (simp; done) | (simp; omega) | omega)))⟩
        · have HN := Lib.hid (meetV_yes (show meetG 0 ps = true by
           have hke : k = m + 1 := by have := HM.out; omega
           subst hke
           rw [HG.out, meetG_end _ (by have := HM.out; omega)]
           simp [nxP, HLP.out, HT.out]))
          have hkd : decide ((k : Int) < (ps.length : Int)) = false := decide_eq_false (by omega)
          have hkn : decide (k < ps.length) = false := decide_eq_false hlt
          go_wp2_with fail
          go_ret
          exact ⟨by rw [HN.out]; rfl, HX.out⟩
     · have hdt : (lp.up != 4294967295#32) = true := by simpa using ht
       have hlt2 : uv lp.up ≠ 4294967295 := fun e => ht (uv_inj (by rw [e]; rfl))
       have hdt' : (uv lp.up != 4294967295) = true := by simpa using hlt2
       have HN := Lib.hid (meetV_no (show meetG 0 ps = false by
        cases hb : meetG 0 ps
        · rfl
        · exact absurd (HLAST.out hb) hlt2))
       clear h0 ht hlt2 hz
       go_enter Tryz.func160, Tryz.ntmps160
       go_wp2_with fail
       go_ret
       exact ⟨by rw [HN.out]; rfl, Ext.refl _⟩
   · have hd0 : (fp.fr != 0#32) = true := by simpa using h0
     have HN := Lib.hid (meetV_no (show meetG 0 ps = false by
      have h2 := HFST.out
      rw [List.drop_zero] at h2
      rw [h2, show (uv fp.fr == 0) = false from beq_false_of_ne (fun e => h0 (uv_inj (by rw [e]; rfl)))]; rfl))
     clear h0 hz
     go_enter Tryz.func160, Tryz.ntmps160
     go_wp2_with fail
     go_ret
     exact ⟨by rw [HN.out]; rfl, Ext.refl _⟩
end Go.Proofs.YtdpmnldmbnpfpaaGreatDoor

/- The points of all parts, by the program and by the reference. Conditions: whole numbers are within 64 bits; no more rules and parts than the proved part takes. -/
namespace Go.Proofs.YtdpmnldmbnpfpaaGreatDoor
open Go.RowKit

set_option maxHeartbeats 2000000 in
theorem coverAll_yes (lv pv : Value) (ls : List (List Rul)) (ps : List Prt) (w : World) (hl : TablesAt w lv ls) (hok : TablesOk ls) (hs : sizeN ls <= 10000000) (hp : PartsAt w pv ps) (hn : ps.length <= 1000000) (hm : meetV ps = 0) :
 Calls Tryz.prog 150 #[.agg #[lv], pv] w fun e w' => ∃ v l, e = .returned (.tuple #[v, I 0]) /\ Cuts ls.flatten l /\ OwnUU w' w.heap.size v (pointsL l ps) /\ Ext w w' := by
 have HL := Lib.hid hl
 have HOK := Lib.hid hok
 have HS := Lib.hid hs
 have HN := Lib.hid hn
 have HP := Lib.hid hp
 have HM := Lib.hid hm
 obtain ⟨ad, cap, rfl, a1, a2, a3⟩ := hl.form
 obtain ⟨pd, pcap, hpv, p1, p2, p3⟩ := hp.form
 subst hpv
 clear a3 p3 hl hp hm hs hok
 unfold maxLen at a2 p2
 go_enter Tryz.func150, Tryz.ntmps150
 go_upto_region 1 with (fail)
 refine hideW (Φ := fun W => Code.wp _ _ _ _ W) (fun W => Ext w W /\ Blk W w.heap.size [.slice ad ls.length cap] 39)
  ⟨by (repeat with_reducible first | exact Ext.refl _ | assumption | refine Ext.alloc ?_ _ | refine Ext.drew ?_ | refine Ext.drewN ?_ _ | (refine Ext.setCellP ?_ ?_; focus (first | (simp; done) | (simp; omega) | omega))), Blk.new w [.slice ad ls.length cap] 39⟩ (fun W1 hW1 => ?_)
 obtain ⟨hx1, hb1⟩ := hW1
 have HX1 := Lib.hid hx1
 have HB1 := Lib.hid hb1
 clear hx1 hb1
 generalize hnb : w.heap.size = nb at *
 have HNB := Lib.hid hnb
 clear hnb
 go_wp2_with (first
  | (go_at_call 160; (with_reducible refine (certMeet_any _ ps _ (HP.out.later HX1.out)).mono ?_); rintro e w2 ⟨he, hx2⟩; rw [HM.out] at he; subst he; have HX2 := Lib.hid (HX1.out.trans hx2); have hbc := (HB1.out.later hx2).cells; clear hx2)
  | (go_at_call 189; (with_reducible refine (coverPointsAll_any _ _ ls ps _ (HL.out.later HX2.out) HOK.out HS.out (HP.out.later HX2.out) HN.out).mono ?_); rintro e w3 ⟨v3, l, he, hC, hO, hx3⟩; subst he; have HC := Lib.hid hC; have HX3 := Lib.hid (HX2.out.trans hx3); have HO := Lib.hid (hO.low HX2.out.size); obtain ⟨va, vcap, hv3, q1, q2, q3⟩ := HO.out.read.form; have hv3' : v3 = .slice va (pointsL l ps).length vcap := hv3; subst hv3'; clear q1 q2 q3 hv3 hC hO hx3))
 go_ret2
 exact ⟨_, l, rfl, HC.out, by rw [<- HNB.out]; exact HO.out, HX3.out⟩
end Go.Proofs.YtdpmnldmbnpfpaaGreatDoor
