/- ShTopL, ShTopW: these texts in one. Conditions: each part names its own. -/
import Derived.Test.YtdpmnldmbnpfpaaGreatDoorGAnaH
import Derived.Test.YtdpmnldmbnpfpaaGreatDoorGTool
import Derived.Test.YtdpmnldmbnpfpaaGreatDoorGNPt
/- The example at the head of the statements through the layers: plain laws. Conditions: none. -/
namespace Go.Proofs.YtdpmnldmbnpfpaaGreatDoor
open Go Go.RowKit Go.Maps Go.Proofs

def stN : List (List Rul) := [[⟨0#32, 0, 1, 1⟩], [⟨0#32, 0, 1, 2⟩], [⟨0#32, 0, 2, 0⟩, ⟨2147483648#32, 1, 1, 0⟩]]
def stM : List (List Rul) := [[⟨0#32, 0, 1, 1⟩], [⟨0#32, 0, 1, 2⟩], [⟨0#32, 0, 2, 0⟩]]
theorem stN_may : netMayV stN = 0 := by decide +kernel
theorem stM_may : netMayV stM = 0 := by decide +kernel
theorem st_find (x : Int) (n : Int) (a : BitVec 32) : findL [(⟨0#32, 0, x, n⟩ : Rul)] a = some ⟨0#32, 0, x, n⟩ := by
 unfold findL
 simp [findStep, better, holdsV, show maskV 0 = 0#32 from by decide +kernel]
theorem st_find2 (a : BitVec 32) : findL [(⟨0#32, 0, 2, 0⟩ : Rul), ⟨2147483648#32, 1, 1, 0⟩] a = some (if holdsV 2147483648#32 1 a then ⟨2147483648#32, 1, 1, 0⟩ else ⟨0#32, 0, 2, 0⟩) := by
 unfold findL
 rw [List.foldl_cons, List.foldl_cons, List.foldl_nil]
 have e : findStep a none (⟨0#32, 0, 2, 0⟩ : Rul) = some ⟨0#32, 0, 2, 0⟩ := by simp [findStep, better, holdsV, show maskV 0 = 0#32 from by decide +kernel]
 rw [e]
 unfold findStep better
 by_cases h : holdsV 2147483648#32 1 a = true
 · simp [h]
 · simp [h]
theorem stN_vec (a : BitVec 32) : vecV stN a = [1, 2, if holdsV 2147483648#32 1 a then 0 else -1] := by
 unfold vecV stN
 simp only [List.map_cons, List.map_nil]
 unfold stepO
 rw [st_find, st_find, st_find2]
 by_cases h : holdsV 2147483648#32 1 a = true
 · simp [h]
 · simp [h]
theorem stM_vec (a : BitVec 32) : vecV stM a = [1, 2, -1] := by
 unfold vecV stM
 simp only [List.map_cons, List.map_nil]
 unfold stepO
 rw [st_find, st_find, st_find]
 simp
theorem st_ok : VOk [1, 2, -1] := fun x hx => by
 simp only [List.mem_cons, List.not_mem_nil, or_false] at hx
 simp only [List.length_cons, List.length_nil]
 omega
theorem st_none : ∀ x, ¬ OnL [1, 2, -1] x := fun x hx => by
 have h := hx.is st_ok
 have h1 := h.1
 have h2 : x < 3 := h.2
 refine hx.not_ends ⟨3, ?_⟩
 rcases (show x = 0 \/ x = 1 \/ x = 2 by omega) with rfl | rfl | rfl <;> decide
theorem st_loop : LoopIs [1, 2, 0] [0, 1, 2] := .inr ⟨0, 3, ⟨⟨Int.le_refl _, 3, by decide, by decide⟩, fun x hx => hx.1⟩, ⟨by decide, by decide, fun k h0 h1 => by
 rcases (show k = 1 \/ k = 2 by omega) with rfl | rfl <;> decide⟩, by decide⟩
theorem stN_cuts : Cuts stN.flatten [0#32, 2147483648#32] := by
 refine ⟨by decide +kernel, fun a => ?_⟩
 have e : cutI stN.flatten = [0, 0, 0, 0, 2147483648] := by decide +kernel
 rw [e]
 have e0 : uv (0#32) = 0 := rfl
 have e1 : uv (2147483648#32) = 2147483648 := rfl
 simp only [List.mem_cons, List.not_mem_nil, or_false, or_self_left]
 constructor
 · rintro (rfl | rfl)
   · exact .inl e0
   · exact .inr e1
 · rintro (g | g)
   · exact .inl (uv_inj (g.trans e0.symm))
   · exact .inr (uv_inj (g.trans e1.symm))
theorem stN_is {c : Crt} (h : AnaIs stN c) : c.vd = 2 /\ c.dest = 2147483648#32 /\ c.tr = [0, 1, 2] := by
 have hI := atomsIt stN_cuts
 rcases h.at stN_cuts with ⟨i, h⟩ | h
 · have hm : c.dest ∈ [0#32, 2147483648#32] := hI.inv.sub.subset (List.mem_of_getElem? h.dest)
   obtain ⟨y, hy⟩ := h.loop.on h.ne
   have hd : c.dest = 2147483648#32 := by
    simp only [List.mem_cons, List.not_mem_nil, or_false] at hm
    rcases hm with hm | hm
    · rw [hm, stN_vec, show holdsV 2147483648#32 1 0#32 = false from by decide +kernel] at hy
      exact absurd hy (st_none y)
    · exact hm
   have hl := h.loop
   rw [hd, stN_vec, show holdsV 2147483648#32 1 2147483648#32 = true from by decide +kernel] at hl
   exact ⟨h.vd, hd, hl.one st_loop⟩
 · obtain ⟨y, hy⟩ := st_loop.on (by simp)
   have := ana_none stN_cuts h 2147483648#32 y
   rw [stN_vec, show holdsV 2147483648#32 1 2147483648#32 = true from by decide +kernel] at this
   exact absurd hy this
theorem stM_is {c : Crt} (h : AnaIs stM c) : c.vd = 1 := by
 obtain ⟨l, hC, h⟩ := h
 rcases h with ⟨i, h⟩ | h
 · obtain ⟨y, hy⟩ := h.loop.on h.ne
   rw [stM_vec] at hy
   exact absurd hy (st_none y)
 · exact h.vd
/-- A certificate of no loop is not accepted where there is one. -/
theorem st_reject {c : Crt} {l : List (BitVec 32)} (hC : Cuts stN.flatten l) (hv : c.vd = 1) (hlen : c.rks.length = c.ps.length) : (ansV l stN c).1 = 0 := by
 have hs := ans_sound (c := c) hC hlen
 generalize hq : ansV l stN c = q at hs
 cases hs with
 | no z hz => rfl
 | free hm hc h =>
   obtain ⟨y, hy⟩ := st_loop.on (by simp)
   have := h 2147483648#32 y
   rw [stN_vec, show holdsV 2147483648#32 1 2147483648#32 = true from by decide +kernel] at this
   exact absurd hy this
 | loop hm hc h0 h1 hon hb =>
   rw [ans_free hm (free_ok hc hv)] at hq
   split at hq
   · have := congrArg Prod.fst hq
     simp at this
   · have := congrArg Prod.fst hq
     simp at this
end Go.Proofs.YtdpmnldmbnpfpaaGreatDoor

/- The example at the head of the statements through the layers, by the program. Conditions: none. -/
namespace Go.Proofs.YtdpmnldmbnpfpaaGreatDoor
open Go Go.RowKit Go.Maps Go.Proofs

theorem reads_blk {w : World} {b n c s : Nat} {cs : List Value} {T : TypeId} (h : Blk w b cs T) (hl : n * s <= cs.length) (hc : n <= c) (hm : c <= maxLen) : Reads w s (.slice (some ⟨b, 0, none⟩) n c) n (cs.take (n * s)) := by
 refine ⟨by rw [List.length_take]; omega, _, _, rfl, hc, hm, fun e => (by cases e), fun x hx => ?_⟩
 cases hx
 refine ⟨.inl rfl, fun j y hj => ?_⟩
 rw [h.cells, Nat.zero_add]
 rw [List.getElem?_take] at hj
 split at hj
 · exact hj
 · cases hj
theorem stM_ok : TablesOk stM := may_ok stM_may
theorem stN_ok : TablesOk stN := may_ok stN_may
/-- What lies there behind the first statement. -/
structure StS (w : World) (b0 b1 b2 tb nb n2 : Nat) (W : World) : Prop where
 ext : Ext w W
 r0 : Blk W b0 [U 0#32, I 0, I 1, I 1] 62
 r1 : Blk W b1 [U 0#32, I 0, I 1, I 2] 62
 r2 : Blk W b2 [U 0#32, I 0, I 2, I 0, U 2147483648#32, I 1, I 1, I 0] 62
 ts : Blk W tb [.slice (some ⟨b0, 0, none⟩) 1 1, .slice (some ⟨b1, 0, none⟩) 1 1, .slice (some ⟨b2, 0, none⟩) n2 2] 63
 nt : Blk W nb [.slice (some ⟨tb, 0, none⟩) 3 3] 39
theorem StS.later {w W W' : World} {b0 b1 b2 tb nb n2 : Nat} (h : StS w b0 b1 b2 tb nb n2 W) (hx : Ext W W') : StS w b0 b1 b2 tb nb n2 W' :=
 ⟨h.ext.trans hx, h.r0.later hx, h.r1.later hx, h.r2.later hx, h.ts.later hx, h.nt.later hx⟩
theorem StS.cut {w W : World} {b0 b1 b2 tb nb : Nat} (h : StS w b0 b1 b2 tb nb 2 W) (hd : tb ≠ b0 /\ tb ≠ b1 /\ tb ≠ b2 /\ tb ≠ nb) (hl : b0 <= tb) (hb : w.heap.size = b0) : StS w b0 b1 b2 tb nb 1 (W.setCell ⟨tb, 2, none⟩ (.slice (some ⟨b2, 0, none⟩) 1 2)) :=
 ⟨h.ext.setCell (show w.heap.size <= tb by omega) _, h.r0.other hd.1 _, h.r1.other hd.2.1 _, h.r2.other hd.2.2.1 _, h.ts.set 2 _, h.nt.other hd.2.2.2 _⟩
theorem StS.tabs {w W : World} {b0 b1 b2 tb nb n2 : Nat} (h : StS w b0 b1 b2 tb nb n2 W) {ls : List (List Rul)} (hn : n2 = 1 /\ ls = stM \/ n2 = 2 /\ ls = stN) : TablesAt W (.slice (some ⟨tb, 0, none⟩) 3 3) ls := by
 have h0 : RulesAt W (.slice (some ⟨b0, 0, none⟩) 1 1) [⟨0#32, 0, 1, 1⟩] := reads_blk (n := 1) (s := 4) h.r0 (by simp) (Nat.le_refl _) (by unfold maxLen; omega)
 have h1 : RulesAt W (.slice (some ⟨b1, 0, none⟩) 1 1) [⟨0#32, 0, 1, 2⟩] := reads_blk (n := 1) (s := 4) h.r1 (by simp) (Nat.le_refl _) (by unfold maxLen; omega)
 have ht := reads_blk (n := 3) (c := 3) (s := 1) h.ts (by simp) (Nat.le_refl _) (by unfold maxLen; omega)
 rcases hn with ⟨rfl, rfl⟩ | ⟨rfl, rfl⟩
 · have h2 : RulesAt W (.slice (some ⟨b2, 0, none⟩) 1 2) [⟨0#32, 0, 2, 0⟩] := reads_blk (n := 1) (c := 2) (s := 4) h.r2 (by simp) (by omega) (by unfold maxLen; omega)
   refine ⟨_, ht, fun i l hi => ?_⟩
   match i, hi with
   | 0, hi => cases hi; exact ⟨_, rfl, h0⟩
   | 1, hi => cases hi; exact ⟨_, rfl, h1⟩
   | 2, hi => cases hi; exact ⟨_, rfl, h2⟩
   | i + 3, hi => cases hi
 · have h2 : RulesAt W (.slice (some ⟨b2, 0, none⟩) 2 2) [⟨0#32, 0, 2, 0⟩, ⟨2147483648#32, 1, 1, 0⟩] := reads_blk (n := 2) (c := 2) (s := 4) h.r2 (by simp) (by omega) (by unfold maxLen; omega)
   refine ⟨_, ht, fun i l hi => ?_⟩
   match i, hi with
   | 0, hi => cases hi; exact ⟨_, rfl, h0⟩
   | 1, hi => cases hi; exact ⟨_, rfl, h1⟩
   | 2, hi => cases hi; exact ⟨_, rfl, h2⟩
   | i + 3, hi => cases hi
theorem netB_len {ls : List (List Rul)} (h : netMayV ls = 0) : (netPut ls).length <= 1000000000 := by
 have hb := net_rulB h
 have hl := (netMay_tabs h).1
 have key : ∀ (m : List (List Rul)), (∀ l ∈ m, l.length <= 4096) -> (m.flatMap nodeB).length <= m.length * 40000 := by
  intro m
  induction m with
  | nil => intro _; simp
  | cons l m ih =>
    intro hm
    have h1 := ih fun x hx => hm x (List.mem_cons_of_mem _ hx)
    have h2 := hm l (List.mem_cons_self ..)
    have h3 : (nodeB l).length <= 40000 := by
     unfold nodeB sectB
     have g1 := (gsize_bd l.length).2
     have g2 := (gsize_bd (gput l.length ++ l.flatMap ruleB).length).2
     rw [List.length_cons, List.length_append, gput_len, List.length_append, gput_len, flat8]
     rw [List.length_append, gput_len, flat8] at g2
     omega
    rw [List.flatMap_cons, List.length_append, List.length_cons]
    omega
 have h1 := key ls fun l hl => (hb l hl).2
 have h2 := (gsize_bd ls.length).2
 unfold netPut
 rw [fput_len]
 unfold netB
 rw [List.length_append, gput_len]
 omega
theorem certP_len {n : Nat} {c : Crt} (hn : n <= 256) (hlen : c.rks.length = c.ps.length) (hm : certMayV n c = 0) : (certPut c n).length <= 100000000 := by
 unfold certPut
 rw [fput_len]
 have h1 := (gsize_bd n).2
 have h2 := (gsize_bd c.ps.length).2
 have h3 := (gsize_bd c.tr.length).2
 unfold certB
 rw [List.length_append, beN_len, List.length_append, gput_len]
 by_cases hv : c.vd = 1
 · have hf := free_ok hm hv
   have h4 := partsB_len hn (c.ps.zip c.rks) fun q hq => by
    have := (rksV_all hf.rks q.2 (List.of_mem_zip hq).2).1
    omega
   have h5 := hf.few
   rw [List.length_zip] at h4
   rw [if_pos hv, List.length_append, gput_len]
   omega
 · have hL := loop_ok hm hv
   have h4 := groupsB_len c.tr
   have h5 := hL.few
   rw [if_neg hv, List.length_append, be4_len, List.length_append, gput_len]
   omega
@[go_sem high] theorem field_answer0 (w : World) (x y : Int) : (Instr.field 35 (.agg #[I x, I y]) 0).run Tryz.prog w = .ok (I x) w := by kernel_rfl
set_option maxHeartbeats 4000000 in
set_option maxRecDepth 100000 in
theorem shownTop_any (w : World) : Calls Tryz.prog 24 #[] w fun e w' => e = .returned (.bool true) /\ Ext w w' := by
 go_enter Tryz.func24, Tryz.ntmps24
 go_upto_region 2 with fail
 refine hideW (Φ := fun W => Code.wp _ _ _ _ W) (StS w w.heap.size (w.heap.size + 1) (w.heap.size + 1 + 1) (w.heap.size + 1 + 1 + 1) (w.heap.size + 1 + 1 + 1 + 1) 2)
  ⟨by (repeat with_reducible first | exact Ext.refl _ | assumption | refine Ext.alloc ?_ _ | refine Ext.drew ?_ | refine Ext.drewN ?_ _ | (refine Ext.setCellP ?_ ?_; focus (first | (simp; done) | (simp; omega) | omega))), ((((Blk.new w [U 0#32, I 0, I 1, I 1] 62).old _).old _).old _).old _, (((Blk.newAt [U 0#32, I 0, I 1, I 2] (by simp)).old _).old _).old _, ((Blk.newAt [U 0#32, I 0, I 2, I 0, U 2147483648#32, I 1, I 1, I 0] (by simp)).old _).old _,
    (Blk.newAt [.slice (some ⟨w.heap.size, 0, none⟩) 1 1, .slice (some ⟨w.heap.size + 1, 0, none⟩) 1 1, .slice (some ⟨w.heap.size + 1 + 1, 0, none⟩) 2 2] (by simp)).old _, Blk.newAt [.slice (some ⟨w.heap.size + 1 + 1 + 1, 0, none⟩) 3 3] (by simp)⟩ (fun W1 hW1 => ?_)
 have HS1 := Lib.hid hW1
 have HLT := Lib.hid (show w.heap.size <= w.heap.size + 1 + 1 + 1 by omega)
 have hd1 : w.heap.size + 1 + 1 + 1 ≠ w.heap.size := by omega
 have hd2 : w.heap.size + 1 + 1 + 1 ≠ w.heap.size + 1 := by omega
 have hd3 : w.heap.size + 1 + 1 + 1 ≠ w.heap.size + 1 + 1 := by omega
 have hd4 : w.heap.size + 1 + 1 + 1 ≠ w.heap.size + 1 + 1 + 1 + 1 := by omega
 have HD := Lib.hid (And.intro hd1 (And.intro hd2 (And.intro hd3 hd4)))
 have hnc := hW1.nt.cells
 clear hW1 hd1 hd2 hd3 hd4
 generalize w.heap.size + 1 + 1 + 1 + 1 = nb at *
 generalize w.heap.size + 1 + 1 + 1 = tb at *
 generalize w.heap.size + 1 + 1 = b2 at *
 generalize w.heap.size + 1 = b1 at *
 generalize hb0 : w.heap.size = b0 at *
 have HLO := Lib.hid hb0
 clear hb0
 have HPN := Lib.hid (fun W (h : StS w b0 b1 b2 tb nb 2 W) => netfilePut_any _ stN W (h.tabs (.inr ⟨rfl, rfl⟩)) stN_ok stN_may)
 have HPM := Lib.hid (fun W (h : StS w b0 b1 b2 tb nb 1 W) => netfilePut_any _ stM W (h.tabs (.inl ⟨rfl, rfl⟩)) stM_ok stM_may)
 have HTN := Lib.hid (netTake_put stN_may)
 have HTM := Lib.hid (netTake_put stM_may)
 have HLN := Lib.hid (netB_len stN_may)
 have HLM := Lib.hid (netB_len stM_may)
 generalize netPut stN = FN at *
 generalize netPut stM = FM at *
 go_upto_region 3 with (first
  | (go_at_call 20
     go_loud (
      (with_reducible refine (HPN.out _ HS1.out).mono ?_)
      rintro e w2 ⟨u2, he, ho, hx⟩
      obtain ⟨ua, uc, hue⟩ := ho.form
      subst hue
      subst he
      have HS2 := Lib.hid (HS1.out.later hx)
      have HW12 := Lib.hid hx.size
      have HF2 := Lib.hid (show OwnY w2 W1.heap.size _ FN from ho)
      clear hx ho hnc)))
 go_upto_region 4 with (first
  | (go_at_call 13
     go_loud (
      (with_reducible refine (toolAnalyze_any _ FN _ HF2.out.bs HLN.out).mono ?_)
      rintro e w3 ⟨h1, hx⟩
      rw [HTN.out] at h1
      obtain ⟨c, u3, ha, hl, hm, he, ho⟩ := h1
      obtain ⟨ca, cc, hue⟩ := ho.form
      subst hue
      subst he
      have HS3 := Lib.hid (HS2.out.later hx)
      have HF3 := Lib.hid (HF2.out.later hx)
      have HC3 := Lib.hid (show OwnY w3 W1.heap.size _ _ from ho.low HW12.out)
      have HA := Lib.hid (And.intro ha (And.intro hl hm))
      clear hx ho ha hl hm)))
 have HIS := Lib.hid (stN_is HA.out.1)
 have HAN := Lib.hid (ana_holds stN_may (cutL_is stN) HA.out.1).2
 have HLC := Lib.hid (certP_len (by decide) HA.out.2.1 HA.out.2.2)
 obtain ⟨d, hct, hcq⟩ := certTake_put (n := stN.length) (by decide) HA.out.2.1 HA.out.2.2
 have HCT := Lib.hid hct
 have HCQ := Lib.hid hcq
 have HCK := Lib.hid (show chkV FN (certPut c stN.length) = (2, 0) by rw [chk_good HTN.out hct rfl, ansV_congr hcq, HAN.out, HIS.out.1])
 clear hct hcq
 generalize certPut c stN.length = CN at *
 have HTK := Lib.hid (fun W (h : BsAt W _ CN) => certfileTake_any (.slice ca CN.length cc) CN W h (by have := HLC.out; omega))
 go_upto_region 5 with (first
  | (go_at_call 26
     go_loud (
      (with_reducible refine (HTK.out _ HC3.out.bs).mono ?_)
      rintro e w4 ⟨h1, hx⟩
      rw [HCT.out] at h1
      obtain ⟨pv, tv, c4, he, hc4, hq4⟩ := h1
      obtain ⟨pa, pc, hpe, -⟩ := hc4.parts.form
      obtain ⟨ta, tc, hte, -⟩ := hc4.tr.form
      subst hpe
      subst hte
      subst he
      have HS4 := Lib.hid (HS3.out.later hx)
      have HF4 := Lib.hid (HF3.out.later hx)
      have HC4 := Lib.hid (HC3.out.later hx)
      have HQ4 := Lib.hid (hq4.trans HCQ.out)
      clear hx hc4 hq4)))
 have HV4 := Lib.hid (show c4.dest = 2147483648#32 /\ c4.tr.length = 3 by rw [HQ4.out.dest, HQ4.out.tr, HIS.out.2.1, HIS.out.2.2]; exact ⟨rfl, rfl⟩)
 rw [HV4.out.1, HV4.out.2]
 go_upto_region 5 with fail
 refine hideW (Φ := fun W => Code.wp _ _ _ _ W) (fun W => StS w b0 b1 b2 tb nb 2 W /\ OwnY W W1.heap.size (.slice ua FN.length uc) FN /\ OwnY W W1.heap.size (.slice ca CN.length cc) CN /\ Blk W w4.heap.size [I c4.vd, .slice pa c4.ps.length pc, U 2147483648#32, .slice ta 3 tc] 55)
  ⟨HS4.out.later ((Ext.refl _).alloc _), HF4.out.later ((Ext.refl _).alloc _), HC4.out.later ((Ext.refl _).alloc _), Blk.new w4 [I c4.vd, .slice pa c4.ps.length pc, U 2147483648#32, .slice ta 3 tc] 55⟩ (fun W5 hW5 => ?_)
 obtain ⟨hs5, hf5, hc5, hk5⟩ := hW5
 have HS5 := Lib.hid hs5
 have HF5 := Lib.hid hf5
 have HC5 := Lib.hid hc5
 have HK5 := Lib.hid hk5
 have HKN := Lib.hid (show tb ≠ w4.heap.size from Nat.ne_of_lt HS4.out.ts.lt)
 have hnc := hs5.nt.cells
 have htc := hs5.ts.cells
 have htf := hs5.ts.frozen
 clear hs5 hf5 hc5 hk5 HS4 HF4 HC4
 generalize w4.heap.size = kb at *
 go_region
 go_upto_region 6 with fail
 refine hideW (Φ := fun W => Code.wp _ _ _ _ W) (fun W => StS w b0 b1 b2 tb nb 1 W /\ OwnY W W1.heap.size (.slice ua FN.length uc) FN /\ OwnY W W1.heap.size (.slice ca CN.length cc) CN /\ Blk W kb [I c4.vd, .slice pa c4.ps.length pc, U 2147483648#32, .slice ta 3 tc] 55)
  ⟨(HS5.out.cut HD.out HLT.out HLO.out).later ((Ext.refl _).drew), own_later (own_set HF5.out (p := ⟨tb, 2, none⟩) HS1.out.ts.lt _) ((Ext.refl _).drew), own_later (own_set HC5.out (p := ⟨tb, 2, none⟩) HS1.out.ts.lt _) ((Ext.refl _).drew), (HK5.out.other HKN.out _).drew⟩ (fun W6 hW6 => ?_)
 obtain ⟨hs6, hf6, hc6, hk6⟩ := hW6
 have HS6 := Lib.hid hs6
 have HF6 := Lib.hid hf6.bs
 have HC6 := Lib.hid hc6.bs
 have HK6 := Lib.hid hk6
 clear hnc htc htf hf6 hc6 hk6 HS5 HF5 HC5 HK5
 have hnc := hs6.nt.cells
 clear hs6
 go_upto_region 7 with (first
  | (go_at_call 20
     go_loud (
      (with_reducible refine (HPM.out _ HS6.out).mono ?_)
      rintro e w7 ⟨u7, he, ho, hx⟩
      obtain ⟨qa, qc, hue⟩ := ho.form
      subst hue
      subst he
      have HX7 := Lib.hid (HS6.out.ext.trans hx)
      have HF7 := Lib.hid (HF6.out.later hx)
      have HC7 := Lib.hid (HC6.out.later hx)
      have HK7 := Lib.hid (HK6.out.later hx)
      have HP7 := Lib.hid ho.bs
      clear hx ho hnc)))
 go_upto_region 8 with (first
  | (go_at_call 13
     go_loud (
      (with_reducible refine (toolAnalyze_any _ FM _ HP7.out HLM.out).mono ?_)
      rintro e w8 ⟨h1, hx⟩
      rw [HTM.out] at h1
      obtain ⟨q, u8, qa1, ql1, qm1, he, ho⟩ := h1
      obtain ⟨ra, rc, hue⟩ := ho.form
      subst hue
      subst he
      have HX8 := Lib.hid (HX7.out.trans hx)
      have HF8 := Lib.hid (HF7.out.later hx)
      have HC8 := Lib.hid (HC7.out.later hx)
      have HK8 := Lib.hid (HK7.out.later hx)
      have HP8 := Lib.hid (HP7.out.later hx)
      have HQ8 := Lib.hid ho.bs
      have HB := Lib.hid (And.intro qa1 (And.intro ql1 qm1))
      clear hx ho qa1 ql1 qm1)))
 have HLQ := Lib.hid (certP_len (by decide) HB.out.2.1 HB.out.2.2)
 obtain ⟨d2, hct2, hcq2⟩ := certTake_put (n := stM.length) (by decide) HB.out.2.1 HB.out.2.2
 have HCK2 := Lib.hid (show chkV FM (certPut q stM.length) = (1, 0) by rw [chk_good HTM.out hct2 rfl, ansV_congr hcq2, (ana_holds stM_may (cutL_is stM) HB.out.1).2, stM_is HB.out.1])
 have HCK3 := Lib.hid (show (chkV FN (certPut q stM.length)).1 = 0 by
  rw [chk_good HTN.out hct2 rfl, ansV_congr hcq2]
  exact st_reject (cutL_is stN) (stM_is HB.out.1) HB.out.2.1)
 clear hct2 hcq2
 generalize certPut q stM.length = QM at *
 have hkc := HK8.out.cells
 obtain ⟨z3, hz3⟩ : ∃ z3, chkV FN QM = (0, z3) := ⟨(chkV FN QM).2, by rw [<- HCK3.out]⟩
 have HCZ := Lib.hid hz3
 clear hz3
 have H1 := Lib.hid (toolCheck_any _ _ FN CN _ HF8.out HLN.out HC8.out (by have := HLC.out; omega))
 rw [HCK.out] at H1
 go_wp2_with (first
  | (go_at_call 17
     go_loud (
      (with_reducible refine H1.out.mono ?_)
      rintro e w9 ⟨he, hx⟩
      subst he
      have HX9 := Lib.hid (HX8.out.trans hx)
      have HF9 := Lib.hid (HF8.out.later hx)
      have HP9 := Lib.hid (HP8.out.later hx)
      have HQ9 := Lib.hid (HQ8.out.later hx)
      have HK9 := Lib.hid (HK8.out.later hx)
      clear hx H1 hkc
      have hkc := HK9.out.cells
      have H2 := Lib.hid (toolCheck_any _ _ FM QM _ HP9.out HLM.out HQ9.out (by have := HLQ.out; omega))
      rw [HCK2.out] at H2))
  | (go_at_call 17
     go_loud (
      (with_reducible refine H2.out.mono ?_)
      rintro e w10 ⟨he, hx⟩
      subst he
      have HX10 := Lib.hid (HX9.out.trans hx)
      have HF10 := Lib.hid (HF9.out.later hx)
      have HQ10 := Lib.hid (HQ9.out.later hx)
      clear hx H2 hkc
      have H3 := Lib.hid (toolCheck_any _ _ FN QM _ HF10.out HLN.out HQ10.out (by have := HLQ.out; omega))
      rw [HCZ.out] at H3))
  | (go_at_call 17
     go_loud (
      (with_reducible refine H3.out.mono ?_)
      rintro e w11 ⟨he, hx⟩
      subst he
      have HX11 := Lib.hid (HX10.out.trans hx)
      clear hx H3)))
 go_ret
 exact ⟨rfl, HX11.out⟩
end Go.Proofs.YtdpmnldmbnpfpaaGreatDoor
