/- Fit17, CutsNx: these texts in one. Conditions: each part names its own. -/
import Derived.Test.YtdpmnldmbnpfpaaGreatGIns
import Derived.Test.YtdpmnldmbnpfpaaGreatGCuts
import Derived.Test.YtdpmnldmbnpfpaaGreatGReg
import Derived.Test.YtdpmnldmbnpfpaaGreatGVec
/- Certificates of no loop that are made such as may be (the reference's Fit), and parts without ranks. Conditions: whole numbers are within 64 bits; no more ranks than the proved part takes. -/
namespace Go.Proofs.YtdpmnldmbnpfpaaGreat
open Go.RowKit

theorem infoPart : (Tryz.prog.info? 61).map (fun i => (i.zero, i.size, i.bytes)) = some (some (.agg #[.int .u32 0, .int .u32 0, .slice none 0 0]), 3, 32) := by kernel_rfl
/-- What a part is to be: its ends and its ranks. -/
structure PrtV where
 fr : BitVec 32
 up : BitVec 32
 rk : List Int
/-- A row of parts of the call's own, their ranks too. -/
def OwnPR (w : World) (B : Nat) (v : Value) (qs : List PrtV) : Prop :=
 ∃ ps : List Prt, w.ownsRow B 61 3 v qs.length (pcells ps) /\ ps.length = qs.length /\ ∀ (i : Nat) (q : PrtV), qs[i]? = some q -> ∃ p, ps[i]? = some p /\ p.fr = q.fr /\ p.up = q.up /\ OwnI w B p.rk q.rk
theorem OwnPR.nil (w : World) (B : Nat) : OwnPR w B (.slice none 0 0) [] := ⟨[], ⟨by simp [pcells], .inl ⟨rfl, rfl⟩⟩, rfl, fun i q h => by cases h⟩
theorem OwnPR.later {w w' : World} {B : Nat} {v : Value} {qs : List PrtV} (h : OwnPR w B v qs) (hx : Ext w w') : OwnPR w' B v qs :=
 let ⟨ps, h1, h2, h3⟩ := h
 ⟨ps, own_later h1 hx, h2, fun i q hi => let ⟨p, g1, g2, g3, g4⟩ := h3 i q hi; ⟨p, g1, g2, g3, g4.later hx⟩⟩
theorem OwnPR.low {w : World} {B B' : Nat} {v : Value} {qs : List PrtV} (h : OwnPR w B v qs) (hB : B' <= B) : OwnPR w B' v qs :=
 let ⟨ps, h1, h2, h3⟩ := h
 ⟨ps, own_low h1 hB, h2, fun i q hi => let ⟨p, g1, g2, g3, g4⟩ := h3 i q hi; ⟨p, g1, g2, g3, own_low g4 hB⟩⟩
theorem OwnPR.app {w w' : World} {B : Nat} {v v' : Value} {qs : List PrtV} {q : PrtV} {p : Prt} {ps : List Prt} (hown : w.ownsRow B 61 3 v qs.length (pcells ps)) (hlen : ps.length = qs.length)
 (hqs : ∀ (i : Nat) (q : PrtV), qs[i]? = some q -> ∃ p, ps[i]? = some p /\ p.fr = q.fr /\ p.up = q.up /\ OwnI w B p.rk q.rk)
 (ho : w'.ownsRow B 61 3 v' (qs.length + 1) (pcells ps ++ p.cells)) (hg : w.grownBy w' v.ownBlock) (hp : p.fr = q.fr /\ p.up = q.up /\ OwnI w B p.rk q.rk) : OwnPR w' B v' (qs ++ [q]) := by
 have hk : ∀ {u : Value} {l : List Int}, OwnI w B u l -> OwnI w' B u l := fun {u l} h => own_apart h hown (by decide) hg
 refine ⟨ps ++ [p], by rw [List.length_append, pcells_app]; simpa [pcells] using ho, by simp [hlen], fun i r hi => ?_⟩
 rcases snoc_get hi with hi | ⟨rfl, rfl⟩
 · obtain ⟨x, g1, g2, g3, g4⟩ := hqs i r hi
   have hil := (List.getElem?_eq_some_iff.1 hi).1
   exact ⟨x, by rw [List.getElem?_append_left (by omega)]; exact g1, g2, g3, hk g4⟩
 · exact ⟨p, by rw [List.getElem?_append_right (by omega), hlen]; simp, hp.1, hp.2.1, hk hp.2.2⟩
theorem OwnPR.setCell {w : World} {B : Nat} {v : Value} {qs : List PrtV} (h : OwnPR w B v qs) {p : Addr} (hp : p.block < B) (x : Value) : OwnPR (w.setCell p x) B v qs :=
 let ⟨ps, h1, h2, h3⟩ := h
 ⟨ps, own_set h1 hp x, h2, fun i q hi => let ⟨p', g1, g2, g3, g4⟩ := h3 i q hi; ⟨p', g1, g2, g3, own_set g4 hp x⟩⟩
/-- The parts as they lie there. -/
theorem OwnPR.parts {w : World} {B : Nat} {v : Value} {qs : List PrtV} (h : OwnPR w B v qs) : ∃ ps : List Prt, OwnP w B v ps /\ ps.length = qs.length /\ ps.map (fun p => (p.fr, p.up)) = qs.map (fun q => (q.fr, q.up)) /\ ∀ (i : Nat) (q : PrtV), qs[i]? = some q -> ∃ p, ps[i]? = some p /\ OwnI w B p.rk q.rk := by
 obtain ⟨ps, h1, h2, h3⟩ := h
 refine ⟨ps, by unfold OwnP; rw [h2]; exact h1, h2, ?_, fun i q hi => let ⟨p, g1, _, _, g4⟩ := h3 i q hi; ⟨p, g1, g4⟩⟩
 refine List.ext_getElem (by simp [h2]) fun i hi hj => ?_
 simp only [List.length_map] at hi hj
 obtain ⟨p, g1, g2, g3, _⟩ := h3 i _ (List.getElem?_eq_getElem hj)
 rw [List.getElem?_eq_getElem hi] at g1
 cases g1
 simp [g2, g3]
/-- Ranks, over and over. -/
def rankN (ranks : List Int) (j : Nat) : Int := if 0 < ranks.length then ranks.getD (j % ranks.length) 0 else 0
def fitRk (n : Nat) (x : Int) : Int := (x.tmod n + n).tmod n
theorem fitRk_bd {n : Nat} (hn : 0 < n) (x : Int) : 0 <= fitRk n x /\ fitRk n x < n := by
 unfold fitRk
 have h1 := Int.lt_tmod_of_pos x (show (0 : Int) < n by omega)
 rw [Int.tmod_eq_emod_of_nonneg (by omega)]
 exact ⟨Int.emod_nonneg _ (by omega), Int.emod_lt_of_pos _ (by omega)⟩
def rowRk (n : Nat) (ranks : List Int) (i : Nat) : List Int := (List.range n).map fun k => fitRk n (rankN ranks (i * n + k))
def partsF (L : List (BitVec 32)) (n : Nat) (ranks : List Int) : List PrtV := (List.range L.length).map fun i => ⟨L.getD i 0#32, endV L i, rowRk n ranks i⟩
theorem partsF_len (L : List (BitVec 32)) (n : Nat) (ranks : List Int) : (partsF L n ranks).length = L.length := by unfold partsF; simp
theorem partsF_step {L : List (BitVec 32)} {n : Nat} {ranks : List Int} {i : Nat} (h : i < L.length) : (partsF L n ranks).take (i + 1) = (partsF L n ranks).take i ++ [⟨L[i], endV L i, rowRk n ranks i⟩] := by
 rw [List.take_succ_eq_append_getElem (by rw [partsF_len]; exact h)]
 congr 2
 unfold partsF
 simp [List.getD_eq_getElem?_getD, h]
theorem rowRk_step {n : Nat} {ranks : List Int} {i k : Nat} (h : k < n) : (rowRk n ranks i).take (k + 1) = (rowRk n ranks i).take k ++ [fitRk n (rankN ranks (i * n + k))] := by
 rw [List.take_succ_eq_append_getElem (by unfold rowRk; simp; exact h)]
 congr 2
 unfold rowRk
 simp
theorem rowRk_len (n : Nat) (ranks : List Int) (i : Nat) : (rowRk n ranks i).length = n := by unfold rowRk; simp
set_option maxHeartbeats 1000000 in
theorem r12Ends_any (lv : Value) (l : List (BitVec 32)) (k : Nat) (w : World) (hl : UsAt w lv l) (hk : k < l.length) :
 Calls Tryz.prog 24 #[lv, I k] w fun e w' => e = .returned (.tuple #[U l[k], U (endV l k), .bool true]) /\ Ext w w' := by
 obtain ⟨ad, cap, rfl, a1, a2, a3⟩ := hl.form
 have A3 := Lib.hid a3
 clear a3
 unfold maxLen at a2
 obtain ⟨b0, o0, rfl, p0⟩ := A3.out k l[k] (List.getElem?_eq_getElem hk)
 by_cases hk1 : k + 1 < l.length
 · obtain ⟨b1, o1, he, p1⟩ := A3.out (k + 1) l[k + 1] (List.getElem?_eq_getElem hk1)
   simp only [Option.some.injEq, Addr.mk.injEq, and_true] at he
   obtain ⟨rfl, rfl⟩ := he
   have HE := Lib.hid (show endV l k = l[k + 1] - 1#32 by unfold endV; rw [dif_pos hk1])
   have hd : ((k : Int) == (l.length : Int) - 1) = false := beq_false_of_ne (by omega)
   replace p0 := Ext.keep p0
   replace p1 := Ext.keep p1
   go_enter Tryz.func24, Tryz.ntmps24
   go_wp2_with fail
   refine wp_region_E 12 rfl (by kernel_rfl) (by kernel_rfl) ?_
   refine WEi_at 0 ?_
   iterate 12
    refine WEi_q rfl (by decide) (by kernel_rfl) rfl ?_; apply Exists.intro; refine ⟨fun w1 hx1 => ?_, ?_⟩
    · have hq1 := hx1.cells; go_simp; try go_bits
      first | with_reducible rfl | (rw [if_pos (by omega)]; exact ⟨Ext.refl _, rfl⟩)
    simp only [Act.put, List.setIfInBounds_toArray, List.set_cons_zero, List.set_cons_succ, Nat.reduceAdd]
   refine WEi_out ?_
   refine WE_done (by kernel_rfl) (fun w2 hx2 => ?_)
   (try simp only [List.drop_succ_cons, List.drop_zero])
   go_wp2_with fail
   go_ret3
   exact ⟨by rw [HE.out]; rfl, hx2⟩
 · have HE := Lib.hid (show endV l k = 4294967295#32 by unfold endV; rw [dif_neg hk1])
   have hd : ((k : Int) == (l.length : Int) - 1) = true := by simp; omega
   go_enter Tryz.func24, Tryz.ntmps24
   go_wp2_with fail
   go_ret3
   exact ⟨by rw [HE.out]; rfl, by (repeat with_reducible first | exact Ext.refl _ | assumption | refine Ext.alloc ?_ _ | refine Ext.drew ?_ | refine Ext.drewN ?_ _ | (refine Ext.setCellP ?_ ?_; focus (first | (simp; done) | (simp; omega) | omega)))⟩
theorem blk_grownT {w w' : World} {b : Nat} {cs : List Value} {T e : TypeId} {B s n : Nat} {v : Value} {xs : List Value} (hb : Blk w b cs T) (ho : w.ownsRow B e s v n xs) (hT : T ≠ e) (hg : w.grownBy w' v.ownBlock) : Blk w' b cs T := by
 have h1 := hg.block b hb.lt (blk_row hb ho hT)
 unfold Blk at *
 rw [h1]; exact hb
/-- The ranks of the first parts, one behind the other. -/
def ranksF (rs : List (List Int)) : List Int := (rs.take 12).flatten
theorem flat_take_le (rs : List (List Int)) (k : Nat) : (rs.take k).flatten.length <= rs.flatten.length := by
 conv => rhs; rw [<- List.take_append_drop k rs]
 rw [List.flatten_append, List.length_append]; omega
theorem flat_next {rs : List (List Int)} {k : Nat} (h : k < rs.length) : (rs.take (k + 1)).flatten = (rs.take k).flatten ++ rs[k] := by
 rw [List.take_succ_eq_append_getElem h, List.flatten_append]; simp
theorem fr_next {ps : List Prt} {k : Nat} (h : k < ps.length) : (ps.take (k + 1)).map Prt.fr = (ps.take k).map Prt.fr ++ [ps[k].fr] := by
 rw [List.take_succ_eq_append_getElem h, List.map_append]; rfl
set_option maxHeartbeats 4000000 in
set_option maxRecDepth 100000 in
theorem r17FitFree_any (pv : Value) (ta : Option Addr) (tn tc : Nat) (vd : Int) (dest : BitVec 32) (n : Nat) (ps : List Prt) (rs : List (List Int)) (w : World) (hp : PartsAt w pv ps) (hv : (bits .and .i64 vd 1 == 0) = false)
 (hrl : rs.length = ps.length) (hr : ∀ (i : Nat) (p : Prt) (r : List Int), ps[i]? = some p -> rs[i]? = some r -> IntsAt w p.rk r) (hri : ∀ x ∈ ranksF rs, In64 x) (hcap : (ranksF rs).length <= 1000000000) (hn : 1 <= n /\ n <= 1000000) :
 Calls Tryz.prog 17 #[.agg #[I vd, pv, U dest, .slice ta tn tc], I n] w fun e w' => ∃ v, e = .returned (.agg #[I 1, v, U 0#32, .slice none 0 0]) /\
  OwnPR w' w.heap.size v (partsF (fitC ((ps.take 12).map Prt.fr)) n (ranksF rs)) /\ Ext w w' := by
 have HR := Lib.hid hr
 have HRI := Lib.hid hri
 have HRL := Lib.hid hrl
 have HCAP := Lib.hid hcap
 obtain ⟨pd, pcap, hpv, p1, p2, p3⟩ := hp.form
 subst hpv
 have P3 := Lib.hid p3
 clear p3 hp hr hrl hcap hri
 unfold maxLen at p2
 go_enter Tryz.func17, Tryz.ntmps17
 go_upto_region 1 with (fail)
 refine hideW (Φ := fun W => Code.wp _ _ _ _ W) (fun W => Ext w W /\ Blk W w.heap.size [I vd, .slice pd ps.length pcap, U dest, .slice ta tn tc] 37 /\ Blk W (w.heap.size + 1) [I 0, .slice none 0 0, U 0#32, .slice none 0 0] 37)
  ⟨by (repeat with_reducible first | exact Ext.refl _ | assumption | refine Ext.alloc ?_ _ | refine Ext.drew ?_ | refine Ext.drewN ?_ _ | (refine Ext.setCellP ?_ ?_; focus (first | (simp; done) | (simp; omega) | omega))), (Blk.new w [I vd, .slice pd ps.length pcap, U dest, .slice ta tn tc] 37).old _, Blk.newAt [I 0, .slice none 0 0, U 0#32, .slice none 0 0] (by simp)⟩ (fun W1 hW1 => ?_)
 obtain ⟨hx1, hb1, hr1⟩ := hW1
 have HX1 := Lib.hid hx1
 have HB1 := Lib.hid hb1
 have HR1 := Lib.hid hr1
 have hbc1 := hb1.cells
 clear hx1 hb1 hr1
 generalize hnb : w.heap.size = nb at *
 have HNB := Lib.hid hnb
 clear hnb
 go_upto_region 16 with (fail)
 have HOU := Lib.hid (show OwnU ((W1.alloc (.cells #[] 25)).alloc (.cells #[] 3)) W1.heap.size (.slice (some ⟨W1.heap.size, 0, none⟩) 0 0) [] from own_later (own_made W1 1 25 0 [] rfl (by unfold maxLen; omega)) ((Ext.refl _).alloc _))
 have HOI := Lib.hid (show OwnI ((W1.alloc (.cells #[] 25)).alloc (.cells #[] 3)) W1.heap.size (.slice (some ⟨W1.heap.size + 1, 0, none⟩) 0 0) [] from by
  have h := own_made (W1.alloc (.cells #[] 25)) 1 3 0 [] rfl (by unfold maxLen; omega)
  have e : (W1.alloc (.cells #[] 25)).heap.size = W1.heap.size + 1 := by simp
  rw [e] at h
  exact own_low h (by omega))
 have HXA := Lib.hid (show Ext W1 ((W1.alloc (.cells #[] 25)).alloc (.cells #[] 3)) by (repeat with_reducible first | exact Ext.refl _ | assumption | refine Ext.alloc ?_ _ | refine Ext.drew ?_ | refine Ext.drewN ?_ _ | (refine Ext.setCellP ?_ ?_; focus (first | (simp; done) | (simp; omega) | omega))))
 clear hbc1
 go_wp2_with fail
 go_loopw [9, 10, 11] (fun x y i wr => ∃ k : Nat, k <= ps.length /\ k <= 12 /\ i = I k /\ Hid (OwnU wr W1.heap.size x ((ps.take k).map Prt.fr)) /\ Hid (OwnI wr W1.heap.size y (rs.take k).flatten) /\ Hid (Ext W1 wr)) (fun _ _ i _ => 12 - (intOf i).toNat)
 case atStart => exact ⟨0, by omega, by omega, rfl, HOU.out, HOI.out, HXA.out⟩
 case round =>
  obtain ⟨k, hk, hk12, rfl, HU, HI, HX⟩ := hrel
  have hbc := (HB1.out.later HX.out).cells
  by_cases hin : k < ps.length /\ k < 12
  · obtain ⟨hlt, hlt12⟩ := hin
    have hlr : k < rs.length := by rw [HRL.out]; exact hlt
    obtain ⟨b0, o0, rfl, q0, q1, q2⟩ := P3.out k ps[k] (List.getElem?_eq_getElem hlt)
    have HRK := Lib.hid (HR.out k ps[k] rs[k] (List.getElem?_eq_getElem hlt) (List.getElem?_eq_getElem hlr))
    have HF := Lib.hid (fr_next hlt)
    have HG := Lib.hid (flat_next hlr)
    have HLU := Lib.hid (show ((ps.take k).map Prt.fr).length = k by rw [List.length_map, List.length_take]; omega)
    have HLI := Lib.hid (show ((rs.take k).flatten).length + rs[k].length <= 1000000000 by
     have h1 := HCAP.out
     have h2 := flat_take_le (rs.take 12) (k + 1)
     rw [List.take_take, Nat.min_eq_left (by omega), flat_next hlr, List.length_append] at h2
     unfold ranksF at h1
     omega)
    have hq0 := (HX1.out.trans HX.out).cell q0
    have HQ2 := Lib.hid q2
    clear q0 q1 q2
    generalize ps[k] = p at *
    generalize rs[k] = r at *
    have HA := Lib.hid (HX.out.alloc (.cells #[U p.fr] 25))
    have HOA := Lib.hid (show (wr.alloc (.cells #[U p.fr] 25)).ownsRow W1.heap.size 25 1 _ k (ucells ((ps.take k).map Prt.fr)) from by have h := HU.out.later ((Ext.refl wr).alloc (.cells #[U p.fr] 25)); unfold OwnU at h; rw [HLU.out] at h; exact h)
    have HIA := Lib.hid (HI.out.later ((Ext.refl wr).alloc (.cells #[U p.fr] 25)))
    have HSRC := Lib.hid (Reads.made wr 1 25 1 [U p.fr] rfl (by unfold maxLen; omega))
    go_upto_region 20 with (first
     | (at_builtin; refine wpList_app rfl (.tmp 99) (.tmp 106) 47 rfl W1.heap.size 25 _ 1 4 Tryz.underlying47 infoU32 rfl (by decide) (by decide) _ _ _ rfl HOA.out _ _ _ rfl HSRC.out (ucells_one [p.fr]) (by omega) HA.out.size ?_; intro v5 w5 ho5 hg5
        have HX5 := Lib.hid (Ext.grown HA.out hg5 HOA.out (Nat.le_refl _))
        have HI5 := Lib.hid (show OwnI w5 W1.heap.size _ (rs.take k).flatten from own_apart HIA.out HOA.out (by decide) hg5)
        have HU5 := Lib.hid (show OwnU w5 W1.heap.size v5 ((ps.take (k + 1)).map Prt.fr) from by
         unfold OwnU
         rw [HF.out, List.length_append, HLU.out, ucells_app]
         exact ho5)
        clear ho5 hg5))
    have hbc5 := (HB1.out.later HX5.out).cells
    have hq2 := (HX1.out.trans HX5.out).cell HQ2.out
    have HRK5 := Lib.hid (HRK.out.later (HX1.out.trans HX5.out))
    clear hbc hq0 HA HOA HIA HSRC HU HI
    go_wp2_with (first
     | (at_builtin; refine wpList_app rfl (.tmp 108) (.tmp 114) 35 rfl W1.heap.size 3 _ 1 8 Tryz.underlying35 infoInt rfl (by decide) (by decide) _ _ _ rfl HI5.out _ _ _ rfl HRK5.out (icells_one _) (by have := HLI.out; omega) HX5.out.size ?_; intro v6 w6 ho6 hg6
        have HX6 := Lib.hid (Ext.grown HX5.out hg6 HI5.out (Nat.le_refl _))
        have HU6 := Lib.hid (show OwnU w6 W1.heap.size v5 ((ps.take (k + 1)).map Prt.fr) from own_apart HU5.out HI5.out (by decide) hg6)
        have HI6 := Lib.hid (show OwnI w6 W1.heap.size v6 (rs.take (k + 1)).flatten from by
         unfold OwnI
         rw [HG.out, List.length_append, icells_app]
         exact ho6)
        clear ho6 hg6))
    go_roundw
    case rel => exact ⟨k + 1, by omega, by omega, by go_num, HU6.out, HI6.out, HX6.out⟩
    case measure => simp [intOf]; omega
  · have HEU := Lib.hid (show (ps.take k).map Prt.fr = (ps.take 12).map Prt.fr by
     rcases Nat.lt_or_ge k 12 with g | g
     · rw [List.take_of_length_le (show ps.length <= k by omega), List.take_of_length_le (show ps.length <= 12 by omega)]
     · rw [show k = 12 by omega])
    have HEI := Lib.hid (show (rs.take k).flatten = ranksF rs by
     unfold ranksF
     rcases Nat.lt_or_ge k 12 with g | g
     · have := HRL.out
       rw [List.take_of_length_le (show rs.length <= k by omega), List.take_of_length_le (show rs.length <= 12 by omega)]
     · rw [show k = 12 by omega])
    have hO1 := HU.out
    have hO2 := HI.out
    rw [HEU.out] at hO1
    rw [HEI.out] at hO2
    have HUe := Lib.hid hO1.us
    have HIe := Lib.hid hO2.ints
    have HXe := Lib.hid (HX1.out.trans HX.out)
    clear hO1 hO2 HU HI HEU HEI
    obtain ⟨wo, rfl⟩ : ∃ wo : World, wo = wr := ⟨_, rfl⟩
    have hor : ¬ k < ps.length \/ (k < ps.length /\ ¬ k < 12) := by omega
    have hfl := (fitC_ok ((ps.take 12).map Prt.fr)).2.2
    have HRB := Lib.hid (show ∀ q, In64 (rankN (ranksF rs) q) from fun q => by
     unfold rankN
     split
     · rename_i h
       have hq : q % (ranksF rs).length < (ranksF rs).length := Nat.mod_lt _ h
       rw [List.getD_eq_getElem?_getD, List.getElem?_eq_getElem hq]
       exact HRI.out _ (List.getElem_mem hq)
     · unfold In64; omega)
    clear HRI
    generalize hrk : ranksF rs = ranks at *
    have HRKE := Lib.hid hrk
    clear hrk
    have HUX := Lib.hid (show ∀ W, Ext wo W -> ∀ v, UsAt W v ((ps.take 12).map Prt.fr) -> Calls Tryz.prog 52 #[v] W fun e w' => ∃ u, e = .returned u /\ UsAt w' u (fitC ((ps.take 12).map Prt.fr)) /\ Ext W w' from fun W _ v h => r12Fit_any v _ W h)
    clear hin
    rcases hor with hor | ⟨hor1, hor⟩
    case' inl =>
     have hkd : decide ((k : Int) < (ps.length : Int)) = false := decide_eq_false (by omega)
     have hkn : decide (k < ps.length) = false := decide_eq_false hor
    case' inr =>
     have hkd : decide ((k : Int) < 12) = false := decide_eq_false (by omega)
     have hkn : decide (k < 12) = false := decide_eq_false hor
    all_goals
     clear hor
     go_upto_region 22 with (first
      | (go_at_call 52; (with_reducible refine (HUX.out _ (Ext.refl _) _ HUe.out).mono ?_); rintro e w2 ⟨v2, he, hU2, hx2⟩; subst he; have HL2 := Lib.hid hU2; have HX2 := Lib.hid (HX.out.trans hx2); have HI2 := Lib.hid (HIe.out.later hx2); clear hU2 hx2))
     clear hbc hkd hkn HUX HUe HIe
     generalize hle : fitC ((ps.take 12).map Prt.fr) = L at *
     have HLE := Lib.hid hle
     clear hle
     obtain ⟨la, lcap, hlv, l1, l2, l3⟩ := HL2.out.form
     have hlv' : v2 = .slice la L.length lcap := hlv
     subst hlv'
     obtain ⟨ra, rcap, hrv, r1, r2, r3⟩ := HI2.out.form
     subst hrv
     have R3 := Lib.hid r3
     clear l3 r3 hlv
     unfold maxLen at l2 r2
     go_upto_region 23 with (fail)
     refine hideW (Φ := fun W => Code.wp _ _ _ _ W) (fun W => Ext w2 W /\ Blk W w2.heap.size [I 1, .slice none 0 0, U 0#32, .slice none 0 0] 37)
      ⟨by (repeat with_reducible first | exact Ext.refl _ | assumption | refine Ext.alloc ?_ _ | refine Ext.drew ?_ | refine Ext.drewN ?_ _ | (refine Ext.setCellP ?_ ?_; focus (first | (simp; done) | (simp; omega) | omega))), Blk.new w2 [I 1, .slice none 0 0, U 0#32, .slice none 0 0] 37⟩ (fun W3 hW3 => ?_)
     obtain ⟨hx3, ho3⟩ := hW3
     have HX3 := Lib.hid (HX2.out.trans hx3)
     have HO3 := Lib.hid ho3
     have HL2' := Lib.hid HL2.out
     have HS3 := Lib.hid (show W1.heap.size <= w2.heap.size from HX2.out.size)
     have HX23 := Lib.hid hx3
     clear hx3 ho3 HL2 HI2
     generalize hob : w2.heap.size = ob at *
     have HOB := Lib.hid hob
     clear hob
     go_wp2_with fail
     go_loopw [13, 14] (fun x i wr => ∃ (c : Nat) (v : Value) (t : Nat), c <= L.length /\ i = I c /\ x = I t /\ Hid (t = c * n) /\ Hid (Blk wr ob [I 1, v, U 0#32, .slice none 0 0] 37) /\ Hid (OwnPR wr (ob + 1) v ((partsF L n ranks).take c)) /\ Hid (Ext w2 wr)) (fun _ i _ => L.length - (intOf i).toNat)
     case atStart => exact ⟨0, .slice none 0 0, 0, by omega, rfl, rfl, by show (0 : Nat) = 0 * n; omega, HO3.out, OwnPR.nil _ _, HX23.out⟩
     case round =>
      obtain ⟨c, v, t, hc, rfl, rfl, HT, HOC, HOP, HXc⟩ := hrel
      have HPL := Lib.hid (show ((partsF L n ranks).take c).length = c by rw [List.length_take, partsF_len]; omega)
      by_cases hclt : c < L.length
      · have HLc := Lib.hid (HL2'.out.later HXc.out)
        have HE := Lib.hid (fun W (h : UsAt W (.slice la L.length lcap) L) => r12Ends_any _ L c W h hclt)
        have HST := Lib.hid (partsF_step (n := n) (ranks := ranks) hclt)
        go_upto_region 28 with (first
         | (go_at_call 24; (with_reducible refine (HE.out _ HLc.out).mono ?_); rintro e w5 ⟨he, hx5⟩; subst he; have HX5 := Lib.hid (HXc.out.trans hx5); have HOC5 := Lib.hid (HOC.out.later hx5); have HOP5 := Lib.hid (HOP.out.later hx5); clear hx5))
        generalize L[c] = lo at *
        generalize endV L c = hi at *
        go_upto_region 29 with (fail)
        refine hideW (Φ := fun W => Code.wp _ _ _ _ W) (fun W => Ext w5 W /\ Blk W w5.heap.size [U lo, U hi, .slice none 0 0] 61)
         ⟨by (repeat with_reducible first | exact Ext.refl _ | assumption | refine Ext.alloc ?_ _ | refine Ext.drew ?_ | refine Ext.drewN ?_ _ | (refine Ext.setCellP ?_ ?_; focus (first | (simp; done) | (simp; omega) | omega))), Blk.new w5 [U lo, U hi, .slice none 0 0] 61⟩ (fun W6 hW6 => ?_)
        obtain ⟨hx6, hp6⟩ := hW6
        have HX6 := Lib.hid hx6
        have HP6 := Lib.hid hp6
        have HKB := Lib.hid (show ob + 1 <= w5.heap.size from HOC5.out.lt)
        clear hx6 hp6 HOC HOP HE HLc
        generalize hkb : w5.heap.size = kb at *
        have HKE := Lib.hid hkb
        clear hkb
        obtain ⟨wx, rfl⟩ : ∃ wx : World, wx = wr := ⟨_, rfl⟩
        go_wp2_with fail
        go_loopw [13, 19] (fun x i wq => ∃ (j : Nat) (u : Value) (t2 : Nat), j <= n /\ i = I j /\ x = I t2 /\ Hid (t2 = c * n + j) /\ Hid (Blk wq kb [U lo, U hi, u] 61) /\ Hid (OwnI wq (kb + 1) u ((rowRk n ranks c).take j)) /\ Hid (Ext w5 wq)) (fun _ i _ => n - (intOf i).toNat)
        case atStart => exact ⟨0, .slice none 0 0, t, by omega, rfl, rfl, by show t = c * n + 0; rw [HT.out]; rfl, HP6.out, ⟨by simp [icells], .inl ⟨rfl, rfl⟩⟩, HX6.out⟩
        case round =>
         obtain ⟨j, u, t2, hj, rfl, rfl, HT2, HPB, HOI2, HXq⟩ := hrel
         have HLU := Lib.hid (show ((rowRk n ranks c).take j).length = j by rw [List.length_take, rowRk_len]; omega)
         obtain ⟨ua, ucap, hu, ub1, ub2, -⟩ := HOI2.out.ints.form
         rw [HLU.out] at hu ub1
         subst hu
         unfold maxLen at ub2
         have hpc := HPB.out.cells
         have hpf := HPB.out.frozen
         by_cases hjl : j < n
         · have HRS := Lib.hid (rowRk_step (ranks := ranks) (i := c) hjl)
           have hjd : decide ((j : Int) < (n : Int)) = true := decide_eq_true (by omega)
           obtain ⟨bb, hbb⟩ : ∃ bb, decide ((0 : Int) < (ranks.length : Int)) = bb := ⟨_, rfl⟩
           have hbn : decide (0 < ranks.length) = bb := by rw [<- hbb]; exact decide_eq_decide.2 (by omega)
           have HBN := Lib.hid hbn
           go_upto_if 142 with (fail)
           clear hbb hbn
           go_cut [20] (fun s wc => s = I (rankN ranks (c * n + j)) /\ wc = wr)
           case first =>
            cases bb
            · have HV := Lib.hid (show rankN ranks (c * n + j) = 0 by unfold rankN; rw [if_neg (of_decide_eq_false HBN.out)])
              go_wp2_with fail
              go_meet
              case rel => exact ⟨by rw [HV.out], rfl⟩
            · have hz := of_decide_eq_true HBN.out
              obtain ⟨m, hm1, hm2, hm3, hm4⟩ : ∃ m : Nat, (t2 : Int) % (ranks.length : Int) = m /\ (t2 : Int).tmod (ranks.length : Int) = m /\ m < ranks.length /\ m = t2 % ranks.length :=
               ⟨t2 % ranks.length, by omega, by rw [Int.tmod_eq_emod_of_nonneg (by omega)]; omega, Nat.mod_lt _ hz, rfl⟩
              obtain ⟨rb, ro, rfl, rc⟩ := R3.out m ranks[m] (List.getElem?_eq_getElem hm3)
              replace rc := (HX5.out.trans HXq.out).cell rc
              have HV := Lib.hid (show rankN ranks (c * n + j) = ranks[m] by
               unfold rankN
               rw [if_pos hz, <- HT2.out, <- hm4, List.getD_eq_getElem?_getD, List.getElem?_eq_getElem hm3]; rfl)
              clear hm4
              generalize ranks[m] = y at *
              go_wp2_with fail
              go_meet
              case rel => exact ⟨by rw [HV.out], rfl⟩
           case rest =>
            obtain ⟨rfl, hwc⟩ := hcut
            subst hwc
            obtain ⟨x1, x2⟩ := HRB.out (c * n + j)
            obtain ⟨y1, y2⟩ := tmod_bd (rankN ranks (c * n + j)) n (by omega)
            obtain ⟨z1, z2⟩ := fitRk_bd (show 0 < n by omega) (rankN ranks (c * n + j))
            have hz : ((rankN ranks (c * n + j)).tmod n + n).tmod n = fitRk n (rankN ranks (c * n + j)) := rfl
            have hz3 : ((rankN ranks (c * n + j)).tmod n + n) % n = fitRk n (rankN ranks (c * n + j)) := (Int.tmod_eq_emod_of_nonneg (by omega)).symm.trans hz
            generalize fitRk n (rankN ranks (c * n + j)) = z at *
            generalize rankN ranks (c * n + j) = x at *
            go_wp2_with fail
            refine wp_region_R (RB (kb + 1)) 11 rfl (by kernel_rfl) (by kernel_rfl) (fun w0 hx0 => ?_)
            have hszk : kb + 1 <= w0.heap.size := (HPB.out.later hx0).lt
            have hkb2 := RB.keep (p := ⟨kb, 2, none⟩) hszk (by simp) ((HPB.out.later hx0).cells 2)
            refine WRi_at 0 ?_
            iterate 9
             refine WRi_q (preRB _) rfl (by decide) (by kernel_rfl) rfl ?_; apply Exists.intro; refine ⟨fun w1 hx1 => ?_, ?_⟩
             · go_simp; try go_bits
               first | with_reducible rfl | rfl | (rw [if_neg (by omega)])
             simp only [Act.put, List.setIfInBounds_toArray, List.set_cons_zero, List.set_cons_succ, Nat.reduceAdd]
            refine WRi_out ?_
            refine WR_one 9 rfl (by decide) (by kernel_rfl) rfl (fun K hK => ?_)
            go_simp
            refine hK _ _ (RB.ext ((Ext.refl _).alloc _)) ?_
            clear hK K hkb2 hpc hpf
            have HXA := Lib.hid (show Ext wc (w0.alloc (.cells #[I z] 3)) from hx0.alloc _)
            have HOA := Lib.hid (show (w0.alloc (.cells #[I z] 3)).ownsRow (kb + 1) 3 1 (.slice ua j ucap) j (icells ((rowRk n ranks c).take j)) from by have h := HOI2.out.later HXA.out; unfold OwnI at h; rw [HLU.out] at h; exact h)
            have HPA := Lib.hid (HPB.out.later HXA.out)
            have HSRC := Lib.hid (Reads.made w0 1 3 1 [I z] rfl (by unfold maxLen; omega))
            have HSZ := Lib.hid (show kb + 1 <= (w0.alloc (.cells #[I z] 3)).heap.size from HPA.out.lt)
            clear hx0 hszk
            refine WR_one 10 rfl (by decide) (by kernel_rfl) rfl (fun K hK => ?_)
            refine wp_of_list (ops := #[]) rfl ?_
            refine wpList_app rfl (.tmp 151) (.tmp 159) 35 rfl (kb + 1) 3 _ 1 8 Tryz.underlying35 infoInt rfl (by decide) (by decide) _ _ _ rfl HOA.out _ _ _ rfl HSRC.out (by intro q hq; simp at hq; subst hq; rfl) (by omega) HSZ.out ?_
            intro v7 w7 ho7 hg7
            have HPG := Lib.hid (blk_grownT HPA.out HOA.out (by decide) hg7)
            have HXG := Lib.hid (Ext.grown (HXq.out.trans HXA.out) hg7 HOA.out (by rw [HKE.out]; omega))
            have HO7 := Lib.hid (show OwnI w7 (kb + 1) v7 ((rowRk n ranks c).take (j + 1)) from by
             unfold OwnI
             rw [HRS.out, List.length_append, HLU.out, icells_app]
             exact ho7)
            refine ⟨rfl, hK _ _ (RB.below HSZ.out (Below.grown (Below.refl _ _) hg7 HSZ.out fun q hq => (HOA.out.lt q hq).1)) ?_⟩
            clear hK K ho7 hg7
            simp only [Act.put, List.setIfInBounds_toArray, List.set_cons_zero, List.set_cons_succ]
            obtain ⟨xa, xcap, hxv, -⟩ := HO7.out.ints.form
            rw [show ((rowRk n ranks c).take (j + 1)).length = j + 1 by rw [List.length_take, rowRk_len]; omega] at hxv
            subst hxv
            have htb : t2 <= 100000000 := by
             have h1 := HT2.out
             have h2 := Nat.mul_le_mul (show c <= 31 by omega) hn.2
             omega
            have hpc := HPG.out.cells
            have hpf := HPG.out.frozen
            refine WR_done (by kernel_rfl) ?_
            (try simp only [List.drop_succ_cons, List.drop_zero])
            go_wp2_with fail
            go_roundw
            case rel =>
             exact ⟨j + 1, _, t2 + 1, by omega, by go_num, by go_num, by have := HT2.out; show t2 + 1 = c * n + (j + 1); omega, HPG.out.set 2 _, own_set HO7.out (by simp) _, HXG.out.setCell (Nat.le_of_eq HKE.out) _⟩
            case measure => simp [intOf]; omega
         · obtain rfl : j = n := by omega
           have hjd : decide ((j : Int) < (j : Int)) = false := decide_eq_false (by omega)
           have HRE := Lib.hid (show (rowRk j ranks c).take j = rowRk j ranks c by rw [List.take_of_length_le (by rw [rowRk_len]; omega)])
           have hoi := HOI2.out
           rw [HRE.out] at hoi
           have HOIE := Lib.hid (own_low hoi (show ob + 1 <= kb + 1 by have := HKB.out; omega))
           clear hoi HOI2
           have HOPq := HOP5.out.later HXq.out
           have HOCq := Lib.hid (HOC5.out.later HXq.out)
           obtain ⟨qp, hown, hql, hqs⟩ := HOPq
           obtain ⟨-, va, vcap, hva, -⟩ := Reads.of_own hown
           rw [HPL.out] at hva
           subst hva
           have hoc := HOCq.out.cells
           have HA := Lib.hid ((Ext.refl wr).alloc (.cells #[U lo, U hi, .slice ua j ucap] 61))
           have HOWN := Lib.hid (own_later hown HA.out)
           rw [HPL.out] at HOWN
           have HQS := Lib.hid (fun i q h => let ⟨p, g1, g2, g3, g4⟩ := hqs i q h; (⟨p, g1, g2, g3, g4.later HA.out⟩ : ∃ p, qp[i]? = some p /\ p.fr = q.fr /\ p.up = q.up /\ OwnI _ _ p.rk q.rk))
           have HQL := Lib.hid hql
           have HOIA := Lib.hid (own_later HOIE.out HA.out)
           have HOCA := Lib.hid (HOCq.out.later HA.out)
           have HSRC := Lib.hid (Reads.made wr 3 61 1 (Prt.cells ⟨lo, hi, ua, j, ucap⟩) rfl (by unfold maxLen; omega))
           have HSZ := Lib.hid (show ob + 1 <= (wr.alloc (.cells #[U lo, U hi, .slice ua j ucap] 61)).heap.size from HOCA.out.lt)
           have HXF := Lib.hid (HX5.out.trans (HXq.out.trans HA.out))
           clear hown hql hqs HOCq
           go_wp2_with (first
            | (at_builtin
               go_loud (
                refine wpList_app rfl (.tmp 165) (.tmp 167) 34 rfl (ob + 1) 61 _ 3 32 Tryz.underlying34 infoPart rfl (by decide) (by decide) _ _ _ rfl HOWN.out _ _ _ rfl HSRC.out (fun q hq => pcells_one [⟨lo, hi, ua, j, ucap⟩] q (by simpa [pcells] using hq)) (by omega) HSZ.out ?_
                intro v9 w9 ho9 hg9
                have HP9 := Lib.hid (show OwnPR w9 (ob + 1) v9 ((partsF L j ranks).take (c + 1)) from by
                 rw [HST.out]
                 exact OwnPR.app (p := ⟨lo, hi, ua, j, ucap⟩) (by rw [HPL.out]; exact HOWN.out) HQL.out HQS.out (by rw [HPL.out]; exact ho9) hg9 ⟨rfl, rfl, HOIA.out⟩)
                have HC9 := Lib.hid (blk_grownT HOCA.out HOWN.out (by decide) hg9)
                have HX9 := Lib.hid (Ext.grown HXF.out hg9 HOWN.out (by rw [HOB.out]; omega))
                obtain ⟨xp, hx1, -, -⟩ := HP9.out
                obtain ⟨-, xa, xcap, hxv, -⟩ := Reads.of_own hx1
                rw [show ((partsF L j ranks).take (c + 1)).length = c + 1 by rw [List.length_take, partsF_len]; omega] at hxv
                subst hxv
                have hc9 := HC9.out.cells
                have hf9 := HC9.out.frozen
                clear ho9 hg9 hx1)))
           go_roundw
           case rel =>
            exact ⟨c + 1, _, t2, by omega, by go_num, by go_num, by have := HT2.out; show t2 = (c + 1) * j; rw [Nat.succ_mul]; omega, HC9.out.set 1 _, HP9.out.setCell (by simp) _, HX9.out.setCell (Nat.le_of_eq HOB.out) _⟩
           case measure => simp [intOf]; omega
      · have HE := Lib.hid (show (partsF L n ranks).take c = partsF L n ranks by rw [List.take_of_length_le (by rw [partsF_len]; omega)])
        have hcd : decide ((c : Int) < (L.length : Int)) = false := decide_eq_false (by omega)
        have hcn : decide (c < L.length) = false := decide_eq_false hclt
        have hop := HOP.out
        rw [HE.out] at hop
        have HOPE := Lib.hid hop
        obtain ⟨qp, hown, -, -⟩ := hop
        obtain ⟨-, va, vcap, hva, -⟩ := Reads.of_own hown
        subst hva
        have hoc := HOC.out.cells
        have hrr := HR1.out.later (HX2.out.trans HXc.out)
        have hrc := hrr.cells
        have hrf := hrr.frozen
        have hb4 := ((((hrr.set 0 (I 1)).set 1 (.slice va (partsF L n ranks).length vcap)).set 2 (U 0#32)).set 3 (.slice none 0 0)).cells
        have HNE := Lib.hid (show nb + 1 < ob + 1 by have h1 := HR1.out.lt; have h2 := HS3.out; omega)
        clear hown HOC HOP
        rw [partsF_len] at *
        go_wp2_with fail
        refine bodyPost_ret (v := .agg #[I 1, .slice va L.length vcap, U 0#32, .slice none 0 0]) ?_ rfl ⟨_, rfl, ?_, ?_⟩
        · simp [results, Tryz.results17, go_sem, hb4]
        · rw [HLE.out, HRKE.out]
          refine OwnPR.low (B := ob + 1) ?_ ?_
          · exact (((HOPE.out.setCell (p := ⟨nb + 1, 0, none⟩) HNE.out _).setCell (p := ⟨nb + 1, 1, none⟩) HNE.out _).setCell (p := ⟨nb + 1, 2, none⟩) HNE.out _).setCell (p := ⟨nb + 1, 3, none⟩) HNE.out _
          · have h0 := HNB.out
            have h1 := HR1.out.lt
            have h2 := HS3.out
            omega
        · exact ((((((HX1.out.trans HX2.out).trans HXc.out).setCell (p := ⟨nb + 1, 0, none⟩) (by rw [HNB.out]; simp) _).setCell (p := ⟨nb + 1, 1, none⟩) (by rw [HNB.out]; simp) _).setCell (p := ⟨nb + 1, 2, none⟩) (by rw [HNB.out]; simp) _).setCell (p := ⟨nb + 1, 3, none⟩) (by rw [HNB.out]; simp) _)
end Go.Proofs.YtdpmnldmbnpfpaaGreat

/- Plain laws of rising rows: which interval a cut and an end are in, and what comes next. Conditions: none. -/
namespace Go.Proofs.YtdpmnldmbnpfpaaGreat
open Go.RowKit

theorem atN_eq {l : List (BitVec 32)} (hr : Rising l) {a : BitVec 32} {m : Nat} (hm : m < l.length) (h1 : uv l[m] <= uv a) (h2 : ∀ h : m + 1 < l.length, uv a < uv l[m + 1]) : atN l a = m + 1 := by
 have hle := atN_le l a
 rcases Nat.lt_or_ge m (atN l a) with g | g
 · rcases Nat.lt_or_ge (m + 1) (atN l a) with g2 | g2
   · have := atN_lt g2 (by omega)
     have := h2 (by omega)
     omega
   · omega
 · have h3 := atN_end (l := l) (a := a) (by omega)
   have h4 := hr.le g hm
   omega
theorem end_ge {l : List (BitVec 32)} (hr : Rising l) {k : Nat} (hk : k < l.length) : uv l[k] <= uv (endV l k) := by
 by_cases h : k + 1 < l.length
 · rw [end_pos hr h]
   have := hr.lt (show k < k + 1 by omega) h
   omega
 · rw [end_top h, uv_top]
   have := (uv_bd l[k]).2
   omega
theorem atN_high {l : List (BitVec 32)} (hr : Rising l) {k : Nat} (hk : k < l.length) : atN l (endV l k) = k + 1 := atN_eq hr hk (end_ge hr hk) (fun h => by rw [end_pos hr h]; omega)
/-- What comes next. -/
def nxt (l : List (BitVec 32)) (k : Nat) : Int := if h : k < l.length then uv l[k] else 4294967296
theorem nxt_at {l : List (BitVec 32)} {k : Nat} (h : k < l.length) : nxt l k = uv l[k] := by unfold nxt; rw [dif_pos h]
theorem nxt_step {l : List (BitVec 32)} (hr : Rising l) {k : Nat} : nxt l (k + 1) = uv (endV l k) + 1 := by
 unfold nxt
 by_cases h : k + 1 < l.length
 · rw [dif_pos h, end_pos hr h]; omega
 · rw [dif_neg h, end_top h, uv_top]; rfl
end Go.Proofs.YtdpmnldmbnpfpaaGreat
