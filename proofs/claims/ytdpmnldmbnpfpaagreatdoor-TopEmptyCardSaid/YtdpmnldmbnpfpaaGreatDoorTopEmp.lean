/- MadeT, EmpL, TopEmp: these texts in one. Conditions: each part names its own. -/
import Derived.Test.YtdpmnldmbnpfpaaGreatDoorGNetP
import Derived.Test.YtdpmnldmbnpfpaaGreatDoorGSnd
import Derived.Test.YtdpmnldmbnpfpaaGreatDoorGAnaH
import Derived.Test.YtdpmnldmbnpfpaaGreatDoorGExp
import Derived.Test.YtdpmnldmbnpfpaaGreatDoorGTop
/- Networks that are made of so many empty tables, and filled. Conditions: none. -/
namespace Go.Proofs.YtdpmnldmbnpfpaaGreatDoor
open Go.RowKit

/-- Block r is a row of tables, each of them the call's own. -/
def MadeT (w : World) (B r : Nat) (ls : List (List Rul)) : Prop :=
 ∃ vs : List Value, vs.length = ls.length /\ Blk w r vs 63 /\ ∀ (i : Nat) (l : List Rul), ls[i]? = some l -> ∃ u, vs[i]? = some u /\ w.ownsRow B 62 4 u l.length (rcells l)
theorem MadeT.start (w : World) (n B : Nat) : MadeT (w.alloc (.cells (madeCells #[.slice none 0 0] n) 63)) B w.heap.size (List.replicate n []) := by
 refine ⟨List.replicate n (.slice none 0 0), by simp, ?_, fun i l hi => ?_⟩
 · have h := Blk.new w (madeCells #[.slice none 0 0] n).toList 63
   rw [toList_madeCells_one] at h
   have e : (madeCells #[Value.slice none 0 0] n) = (List.replicate n (Value.slice none 0 0)).toArray := by rw [<- Array.toList_inj, toList_madeCells_one]
   rw [e]; exact h
 · obtain ⟨hi1, hi2⟩ := List.getElem?_eq_some_iff.1 hi
   simp at hi1
   simp at hi2
   subst hi2
   exact ⟨.slice none 0 0, by simp [hi1], rfl, .inl ⟨rfl, rfl⟩⟩
theorem MadeT.later {w w' : World} {B r : Nat} {ls : List (List Rul)} (h : MadeT w B r ls) (hx : Ext w w') : MadeT w' B r ls :=
 let ⟨vs, h1, h2, h3⟩ := h
 ⟨vs, h1, h2.later hx, fun i l hi => let ⟨u, g1, g2⟩ := h3 i l hi; ⟨u, g1, own_later g2 hx⟩⟩
theorem MadeT.tables {w : World} {B r n : Nat} {ls : List (List Rul)} (h : MadeT w B r ls) (hn : ls.length = n) (hm : n <= maxLen) : TablesAt w (.slice (some ⟨r, 0, none⟩) n n) ls := by
 obtain ⟨vs, h1, h2, h3⟩ := h
 subst hn
 refine ⟨vs, ⟨by omega, _, _, rfl, Nat.le_refl _, hm, fun e => (by cases e), fun b hb => ?_⟩, fun i l hi => ?_⟩
 · cases hb
   refine ⟨.inl rfl, fun j u hj => ?_⟩
   rw [h2.cells]
   simpa using hj
 · obtain ⟨u, g1, g2⟩ := h3 i l hi
   exact ⟨u, g1, Reads.of_own g2⟩
theorem MadeT.put {w : World} {B r : Nat} {ls : List (List Rul)} {i : Nat} {L : List Rul} {u : Value} (h : MadeT w B r ls) (hi : i < ls.length) (hr : r < B) (hu : w.ownsRow B 62 4 u L.length (rcells L)) : MadeT (w.setCell ⟨r, i, none⟩ u) B r (ls.set i L) := by
 obtain ⟨vs, h1, h2, h3⟩ := h
 refine ⟨vs.set i u, by simp [h1], h2.set i u, fun j l hj => ?_⟩
 rw [List.getElem?_set] at hj
 by_cases e : i = j
 · subst e
   rw [if_pos rfl, if_pos hi] at hj
   cases hj
   exact ⟨u, by rw [List.getElem?_set, if_pos rfl, if_pos (by omega)], own_set hu hr u⟩
 · rw [if_neg e] at hj
   obtain ⟨x, g1, g2⟩ := h3 j l hj
   exact ⟨x, by rw [List.getElem?_set, if_neg e]; exact g1, own_set g2 hr u⟩
theorem MadeT.other {w : World} {B r : Nat} {ls : List (List Rul)} {p : Addr} (h : MadeT w B r ls) (hne : p.block ≠ r) (hp : p.block < B) (x : Value) : MadeT (w.setCell p x) B r ls := by
 obtain ⟨vs, h1, h2, h3⟩ := h
 exact ⟨vs, h1, h2.other hne x, fun i l hi => let ⟨u, g1, g2⟩ := h3 i l hi; ⟨u, g1, own_set g2 hp x⟩⟩
/-- The first k tables are L, the others empty. -/
def fillT (M k : Nat) (L : List Rul) : List (List Rul) := (List.range M).map fun j => if j < k then L else []
/-- Such a network may be, if each of its tables may. -/
theorem rep_may {M : Nat} {L : List Rul} (hM : M <= 64) (hL : L.length <= 20) (h : tabMayV M L = 0) : netMayV (List.replicate M L) = 0 := by
 have h1 : sizeN (List.replicate M L) <= M * 20 := by
  have := sizeN_le (ls := List.replicate M L) (c := 20) (fun l hl => by rw [List.eq_of_mem_replicate hl]; exact hL)
  simpa using this
 unfold netMayV
 rw [if_neg (by simp; omega)]
 exact netG_zero fun l hl => by rw [List.eq_of_mem_replicate hl, List.length_replicate]; exact h
theorem rep_ok {M : Nat} {L : List Rul} (h : RulesOk L) : TablesOk (List.replicate M L) := fun l hl => by rw [List.eq_of_mem_replicate hl]; exact h
theorem rep_vec {M : Nat} {L : List Rul} {a : BitVec 32} {c : Int} (h : (stepO L a).getD (-1) = c) : vecV (List.replicate M L) a = List.replicate M c := by
 unfold vecV
 rw [List.map_replicate, h]
end Go.Proofs.YtdpmnldmbnpfpaaGreatDoor

/- Plain laws for TopEmpty: the certificate of a network of nodes without rules; what is told of it. Conditions: none. -/
namespace Go.Proofs.YtdpmnldmbnpfpaaGreatDoor
open Go Go.RowKit Go.Maps Go.Proofs

def noneN (n : Nat) : List (List Rul) := List.replicate n []
theorem noneN_len (n : Nat) : (noneN n).length = n := by unfold noneN; simp
theorem noneN_may {n : Nat} (h : n <= 64) : netMayV (noneN n) = 0 := rep_may h (by simp) rfl
theorem noneN_ok (n : Nat) : TablesOk (noneN n) := rep_ok fun r hr => by cases hr
theorem noneN_size (n : Nat) : sizeN (noneN n) = 0 := by
 have := sizeN_le (ls := noneN n) (c := 0) (fun l hl => by rw [List.eq_of_mem_replicate hl]; exact Nat.le_refl _)
 omega
theorem nxv_none (n : Nat) (x : Int) : nxv (List.replicate n (-1)) x = -1 := by
 unfold nxv
 split
 · rfl
 · rw [List.getD_eq_getElem?_getD, List.getElem?_replicate]
   split <;> rfl
theorem noneN_on (n : Nat) (a : BitVec 32) (x : Int) : ¬ OnL (vecV (noneN n) a) x := fun h => by
 rw [show vecV (noneN n) a = List.replicate n (-1) from rep_vec rfl] at h
 refine h.not_ends ⟨1, ?_⟩
 show itv (List.replicate n (-1)) 0 (nxv (List.replicate n (-1)) x) = -1
 rw [nxv_none]; rfl
/-- The certificate of such a network is one part, with a rank for each node. -/
theorem none_ana {n : Nat} {c : Crt} (hn : n <= 64) (h : AnaIs (noneN n) c) : c.vd = 1 /\ c.ps.length = 1 /\ c.rks.length = c.ps.length /\ ∀ r ∈ c.rks, r.length = n := by
 have hF := h.facts (noneN_may hn)
 have hfew := hF.few
 rw [noneN_size] at hfew
 have hrk : ∀ r ∈ c.rks, r.length = n := fun r hr => by have := (hF.rks r hr).1; rw [noneN_len] at this; exact this
 obtain ⟨l, hC, h⟩ := h
 rcases h with ⟨i, h⟩ | h
 · obtain ⟨x, hx⟩ := h.loop.on h.ne
   exact absurd hx (noneN_on n _ x)
 · rcases hF.which with ⟨h1, _⟩ | ⟨h1, h2, _⟩
   · rw [h.vd] at h1; cases h1
   · exact ⟨h1, by omega, hF.rln, hrk⟩
/-- What is told of the network's own certificate. -/
theorem none_chk {n : Nat} {c : Crt} (hn : n <= 64) (h : AnaIs (noneN n) c) : chkV (netPut (noneN n)) (certPut c n) = (1, 0) := by
 have hm := noneN_may hn
 obtain ⟨h1, h2, h3, _⟩ := none_ana hn h
 have hh := ana_holds hm (cutL_is _) h
 rw [noneN_len] at hh
 obtain ⟨d, hct, hcq⟩ := certTake_put (n := n) (by omega) h3 hh.1
 rw [chk_good (netTake_put hm) hct (noneN_len n).symm, ansV_congr hcq, hh.2, h1]
/-- What is told of it for a network without nodes. -/
theorem none_chk0 {n : Nat} {c : Crt} (hn : n <= 64) (h : AnaIs (noneN n) c) : chkV (netPut []) (certPut c n) = if n = 0 then (1, 0) else (0, 1) := by
 by_cases e : n = 0
 · subst e
   rw [if_pos rfl]
   exact none_chk (n := 0) (by omega) h
 · rw [if_neg e]
   have hm := noneN_may hn
   obtain ⟨h1, h2, h3, _⟩ := none_ana hn h
   have hh := ana_holds hm (cutL_is _) h
   rw [noneN_len] at hh
   obtain ⟨d, hct, hcq⟩ := certTake_put (n := n) (by omega) h3 hh.1
   exact chk_size (netTake_put (noneN_may (n := 0) (by omega))) hct e
end Go.Proofs.YtdpmnldmbnpfpaaGreatDoor

/- The law TopEmpty, by the program. Conditions: the library's table of powers of ten, and the table of words, read as they are laid. -/
namespace Go.Proofs.YtdpmnldmbnpfpaaGreatDoor
open Go Go.RowKit Go.Maps Go.Proofs

set_option maxHeartbeats 8000000 in
set_option maxRecDepth 100000 in
theorem topEmpty_any (n : Nat) (a : BitVec 32) (w : World) (hn : n < 256) (ht : Tab10 w) (hw : Words w) :
 Calls Tryz.prog 8 #[.int .u8 (n : Int), U a] w fun e w' => e = .returned (.bool true) /\ Ext w w' := by
 have HTT := Lib.hid ht
 have HWW := Lib.hid hw
 clear ht hw
 go_enter Tryz.func8, Tryz.ntmps8
 go_upto_region 2 with (first
  | (go_at_call 24; (with_reducible refine (shownTop_any _).mono ?_); rintro e w2 ⟨rfl, hx2⟩; have HX2 := Lib.hid hx2; clear hx2))
 go_upto_region 3 with (fail)
 have e1 : (n : Int) % 64 = ((n % 64 : Nat) : Int) := by omega
 have e2 : n % 64 <= 63 := by omega
 rw [e1]
 generalize n % 64 = M at *
 clear e1 hn
 have hmk := fun w => run_make_row' (P := Tryz.prog) 37 63 (.slice none 0 0) 24 Tryz.underlying37 infoRules rfl .i64 .i64 M (by omega) (by omega) w
 go_upto_region 4 with (fail)
 refine hideW (Φ := fun W => Code.wp _ _ _ _ W) (fun W => Ext w2 W /\ TablesAt W (.slice (some ⟨w2.heap.size, 0, none⟩) M M) (noneN M) /\ Blk W (w2.heap.size + 1) [.slice (some ⟨w2.heap.size, 0, none⟩) M M] 39)
  ⟨by (repeat with_reducible first | exact Ext.refl _ | assumption | refine Ext.alloc ?_ _ | refine Ext.drew ?_ | refine Ext.drewN ?_ _ | (refine Ext.setCellP ?_ ?_; focus (first | (simp; done) | (simp; omega) | omega))), ((MadeT.start w2 M (w2.heap.size + 8)).later ((Ext.refl _).alloc _)).tables (noneN_len M) (by unfold maxLen; omega), Blk.newAt [.slice (some ⟨w2.heap.size, 0, none⟩) M M] (by simp)⟩ (fun W3 hW3 => ?_)
 obtain ⟨hx3, ht3, hb3⟩ := hW3
 have HX3 := Lib.hid (HX2.out.trans hx3)
 have HT3 := Lib.hid ht3
 have hbc := hb3.cells
 have h64 : M <= 64 := by omega
 have HNM := Lib.hid (noneN_may h64)
 have HNL := Lib.hid (show (noneN M).length = M from noneN_len M)
 have HTN := Lib.hid (netTake_put HNM.out)
 have HLN := Lib.hid (netB_len HNM.out)
 have HPN := Lib.hid (netfilePut_any _ (noneN M) W3 HT3.out (noneN_ok M) HNM.out)
 have HAN := Lib.hid (fun c (h : AnaIs (noneN M) c) => none_ana h64 h)
 have HC1 := Lib.hid (fun c (h : AnaIs (noneN M) c) => none_chk h64 h)
 have HC2 := Lib.hid (fun c (h : AnaIs (noneN M) c) => none_chk0 h64 h)
 have HM0 := Lib.hid (noneN_may (n := 0) (by omega))
 have HP0 := Lib.hid (fun W => show Calls Tryz.prog 20 #[.agg #[.slice none 0 0]] W _ from netfilePut_any _ [] W (OwnTb.nil W 0).read (fun l hl => by cases hl) HM0.out)
 have HT0 := Lib.hid (show netTake (netPut []) = .ok [] from netTake_put HM0.out)
 have HL0 := Lib.hid (show (netPut []).length <= 1000000000 from netB_len HM0.out)
 have HC3 := Lib.hid (fun c (h : AnaIs [] c) => show chkV (netPut []) (certPut c 0) = (1, 0) from none_chk (n := 0) (by omega) h)
 have HA0 := Lib.hid (fun c (h : AnaIs [] c) => none_ana (n := 0) (by omega) h)
 generalize netPut (noneN M) = FN at *
 generalize netPut [] = F0 at *
 clear hx3 ht3 hb3 hmk
 generalize w2.heap.size + 1 = nb at *
 generalize w2.heap.size = tb at *
 go_upto_region 5 with (first
  | (go_at_call 20; (with_reducible refine HPN.out.mono ?_); rintro e w4 ⟨u4, he, ho, hx⟩; obtain ⟨ua, uc, hue⟩ := ho.form; subst hue; subst he; have HX4 := Lib.hid (HX3.out.trans hx); have HF4 := Lib.hid ho.bs; clear hx ho hbc))
 go_upto_region 6 with (first
  | (go_at_call 13; (with_reducible refine (toolAnalyze_any _ FN _ HF4.out HLN.out).mono ?_); rintro e w5 ⟨h1, hx⟩; rw [HTN.out] at h1; obtain ⟨c, u5, ha, hl5, hm5, he, ho⟩ := h1; obtain ⟨ca, cc, hue⟩ := ho.form; subst hue; subst he; have HX5 := Lib.hid (HX4.out.trans hx); have HF5 := Lib.hid (HF4.out.later hx); have HC5 := Lib.hid ho.bs; have HA := Lib.hid ha; have HAM := Lib.hid (And.intro hl5 hm5); clear hx ho ha hl5 hm5))
 rw [HNL.out] at HAM HC5
 have HLC := Lib.hid (show (certPut c (noneN M).length).length <= 100000000 from by rw [HNL.out]; exact certP_len (by omega) HAM.out.1 HAM.out.2)
 obtain ⟨d, hct, hcq⟩ := certTake_put (n := M) (by omega) HAM.out.1 HAM.out.2
 have HCT := Lib.hid hct
 have HCQ := Lib.hid hcq
 have K1 := Lib.hid (HC1.out c HA.out)
 have K2 := Lib.hid (HC2.out c HA.out)
 have KA := Lib.hid (HAN.out c HA.out)
 rw [HNL.out] at HLC ⊢
 clear hct hcq HC1 HC2 HAN HX4 HF4 HX3 HT3 HPN
 generalize certPut c M = CN at *
 have HTK := Lib.hid (fun W (h : BsAt W _ CN) => certfileTake_any (.slice ca CN.length cc) CN W h (by have := HLC.out; omega))
 go_upto_region 7 with (first
  | (go_at_call 26; (with_reducible refine (HTK.out _ HC5.out).mono ?_); rintro e w6 ⟨h1, hx⟩; rw [HCT.out] at h1; obtain ⟨pv, tv, c4, he, hc4, hq4⟩ := h1; obtain ⟨qa, qc, hpe, -⟩ := hc4.parts.form; obtain ⟨sa, sc, hte, -⟩ := hc4.tr.form; subst hpe; subst hte; subst he; have HX6 := Lib.hid (HX5.out.trans hx); have HF6 := Lib.hid (HF5.out.later hx); have HC6 := Lib.hid (HC5.out.later hx); have HR6 := Lib.hid hc4; have HQ6 := Lib.hid (hq4.trans HCQ.out); clear hx hc4 hq4))
 obtain ⟨p0, r0, hps, hrk, hr0⟩ : ∃ p0 r0, c4.ps = [p0] /\ c4.rks = [r0] /\ r0.length = M := by
  obtain ⟨k1, k2, k3, k4⟩ := KA.out
  have g1 : c4.ps.length = 1 := by have := congrArg List.length HQ6.out.ps; simp only [List.length_map] at this; omega
  obtain ⟨p0, hp⟩ := List.length_eq_one_iff.1 g1
  have g2 : c4.rks.length = 1 := by have := HR6.out.len; omega
  obtain ⟨r0, hr⟩ := List.length_eq_one_iff.1 g2
  exact ⟨p0, r0, hp, hr, k4 r0 (by rw [<- HQ6.out.rks, hr]; simp)⟩
 have HRI := Lib.hid (show IntsAt w6 p0.rk r0 from HR6.out.rk 0 p0 r0 (by rw [hps]; rfl) (by rw [hrk]; rfl))
 have hp6 := HR6.out.parts
 rw [hps] at hp6 ⊢
 have HP6 := Lib.hid hp6
 clear hp6 hps hrk
 refine hideW (Φ := fun W => Code.wp _ _ _ _ W) (fun W => Ext w6 W /\ Blk W w6.heap.size [I c4.vd, .slice qa 1 qc, U c4.dest, .slice sa c4.tr.length sc] 55)
  ⟨(Ext.refl _).alloc _, Blk.new w6 [I c4.vd, .slice qa 1 qc, U c4.dest, .slice sa c4.tr.length sc] 55⟩ (fun W7 hW7 => ?_)
 obtain ⟨hx7, hk7⟩ := hW7
 have HX7 := Lib.hid (HX6.out.trans hx7)
 have HF7 := Lib.hid (HF6.out.later hx7)
 have HC7 := Lib.hid (HC6.out.later hx7)
 have HP7 := Lib.hid (HP6.out.later hx7)
 have HRI7 := Lib.hid (HRI.out.later hx7)
 have HK7 := Lib.hid hk7
 clear hx7 hk7 HX6 HF6 HC6 HP6 HRI HR6
 generalize w6.heap.size = xb at *
 go_upto_region 8 with (first
  | (go_at_call 20; (with_reducible refine (HP0.out _).mono ?_); rintro e w8 ⟨u8, he, ho, hx⟩; obtain ⟨va, vc, hue⟩ := ho.form; subst hue; subst he; have HX8 := Lib.hid hx; have HN8 := Lib.hid ho.bs; clear hx ho))
 go_upto_region 9 with (first
  | (go_at_call 13; (with_reducible refine (toolAnalyze_any _ F0 _ HN8.out HL0.out).mono ?_); rintro e w9 ⟨h1, hx⟩; rw [HT0.out] at h1; obtain ⟨c0, u9, ha, hl9, hm9, he, ho⟩ := h1; obtain ⟨da, dc, hue⟩ := ho.form; subst hue; subst he; have HX9 := Lib.hid (HX8.out.trans hx); have HN9 := Lib.hid (HN8.out.later hx); have HD9 := Lib.hid (show BsAt w9 _ (certPut c0 0) from ho.bs); have HA0' := Lib.hid ha; have HAM0 := Lib.hid (show c0.rks.length = c0.ps.length /\ certMayV (0 : Nat) c0 = 0 from And.intro hl9 hm9); clear hx ho ha hl9 hm9))
 have HLD := Lib.hid (certP_len (n := 0) (by omega) HAM0.out.1 HAM0.out.2)
 have K3 := Lib.hid (HC3.out c0 HA0'.out)
 clear HC3 HA0
 generalize certPut c0 0 = D0 at *
 have HCK2 := Lib.hid (toolCheck_any (.slice va F0.length vc) (.slice ca CN.length cc) F0 CN w9 HN9.out HL0.out (HC7.out.later HX9.out) (by have := HLC.out; omega))
 rw [K2.out] at HCK2
 obtain ⟨an, han⟩ : ∃ an : Int × Int, an = if M = 0 then (1, 0) else (0, 1) := ⟨_, rfl⟩
 rw [<- han] at HCK2
 have HAN := Lib.hid han
 clear han K2
 go_upto_region 10 with (first
  | (go_at_call 17; (with_reducible refine HCK2.out.mono ?_); rintro e wa ⟨he, hx⟩; subst he; have HXA := Lib.hid (HX9.out.trans hx); have HNA := Lib.hid (HN9.out.later hx); have HDA := Lib.hid (HD9.out.later hx); clear hx))
 refine hideW (Φ := fun W => Code.wp _ _ _ _ W) (fun W => Ext wa W /\ Blk W wa.heap.size [I an.1, I an.2] 35)
  ⟨(Ext.refl _).alloc _, Blk.new wa [I an.1, I an.2] 35⟩ (fun WB hWB => ?_)
 obtain ⟨hxb, hkb⟩ := hWB
 have HXB := Lib.hid (HXA.out.trans hxb)
 have HNB := Lib.hid (HNA.out.later hxb)
 have HDB := Lib.hid (HDA.out.later hxb)
 have HKB := Lib.hid hkb
 clear hxb hkb HXA HNA HDA HCK2
 generalize wa.heap.size = ab at *
 have HFB := Lib.hid (HF7.out.later HXB.out)
 have HCB := Lib.hid (HC7.out.later HXB.out)
 have HXW := Lib.hid (HX7.out.trans HXB.out)
 have HEX := Lib.hid (toolExplain_any _ FN a WB HFB.out HLN.out (HTT.out.later HXW.out) (HWW.out.later HXW.out))
 have HCA := Lib.hid (fun W (h : Ext WB W) => toolCheck_any (.slice ua FN.length uc) (.slice ca CN.length cc) FN CN W (HFB.out.later h) HLN.out (HCB.out.later h) (by have := HLC.out; omega))
 rw [K1.out] at HCA
 have HCC := Lib.hid (fun W (h : Ext WB W) => toolCheck_any (.slice va F0.length vc) (.slice da D0.length dc) F0 D0 W (HNB.out.later h) HL0.out (HDB.out.later h) (by have := HLD.out; omega))
 rw [K3.out] at HCC
 have HPL := Lib.hid (show ∀ W, Ext WB W -> ∃ b off, qa = some ⟨b, off, none⟩ /\ W.cell? ⟨b, off + 2, none⟩ = some (.slice p0.ra M p0.rc) from fun W h => by
  obtain ⟨a', c', he, _, _, hf⟩ := (HP7.out.later (HXB.out.trans h)).form
  cases he
  obtain ⟨b, off, h1, _, _, h4⟩ := hf 0 p0 rfl
  refine ⟨b, off, h1, ?_⟩
  obtain ⟨a2, c2, he2, -⟩ := HRI7.out.form
  rw [Nat.zero_mul, Nat.add_zero] at h4
  rw [h4]
  have : p0.rn = M := by simp only [Value.slice.injEq] at he2; rw [he2.2.1]; exact hr0
  rw [<- this])
 obtain ⟨bz, hbz, hcase⟩ : ∃ b : Bool, ((M : Int) == 0) = b /\ (b = true /\ an = (1, 0) \/ b = false /\ an = (0, 1)) := by
  by_cases hM : M = 0
  · exact ⟨true, by simp [hM], .inl ⟨rfl, by rw [HAN.out, if_pos hM]⟩⟩
  · exact ⟨false, by simp [hM], .inr ⟨rfl, by rw [HAN.out, if_neg hM]⟩⟩
 clear HAN
 rcases hcase with ⟨rfl, rfl⟩ | ⟨rfl, rfl⟩
 all_goals
  go_wp2_with (first
   | (go_at_call 15; (with_reducible refine HEX.out.mono ?_); rintro e wc ⟨h1, hx⟩; rw [HTN.out] at h1; obtain ⟨u5, he, ho⟩ := h1; obtain ⟨la, lc, hue, -⟩ := own_bds ho; rw [List.length_map, HNL.out] at hue; subst hue; subst he; have HXC := Lib.hid hx; have hkx := (HK7.out.later (HXB.out.trans hx)).cells; obtain ⟨pb, po, hqa, hpc⟩ := HPL.out _ hx; subst hqa; clear hx ho HEX)
   | (go_at_call 17; (with_reducible refine (HCA.out _ HXC.out).mono ?_); rintro e wd ⟨he, hx⟩; subst he; have HXD := Lib.hid (HXC.out.trans hx); clear hx hkx hpc)
   | (go_at_call 17; (with_reducible refine (HCC.out _ HXD.out).mono ?_); rintro e we ⟨he, hx⟩; subst he; have HXE := Lib.hid (HXD.out.trans hx); have hab := (HKB.out.later HXE.out).cells; clear hx))
  go_ret
  exact ⟨rfl, HXW.out.trans HXE.out⟩
end Go.Proofs.YtdpmnldmbnpfpaaGreatDoor
