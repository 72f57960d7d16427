/- PrnW, ExplW, ExpsW: these texts in one. Conditions: each part names its own. -/
import Derived.Test.YtdpmnldmbnpfpaaGreatDoorGTxt
import Derived.Lib.LaidTab
import Derived.Lib.ItoaLen
import Derived.Test.YtdpmnldmbnpfpaaGreatDoorGNet
import Derived.Test.YtdpmnldmbnpfpaaGreatDoorGRule
import Derived.Test.YtdpmnldmbnpfpaaGreatDoorGVecC
import Derived.Test.YtdpmnldmbnpfpaaGreatDoorGTool
/- The text of a prefix, by the program; and the table of the actions' words. Conditions: the library's table of powers of ten, and the table of words, read as they are laid. -/
namespace Go.Proofs.YtdpmnldmbnpfpaaGreatDoor
open Go.RowKit

def prefL (a : Nat) (n : Int) : List UInt8 := prN a ++ 47 :: Lib.itoa n
set_option maxHeartbeats 400000 in
theorem prefPrint_any (a : BitVec 32) (n : Int) (w : World) (h : In64 n) (ht : Tab10 w) :
 Calls Tryz.prog 90 #[U a, I n] w fun e w' => e = .returned (S (prefL a.toNat n)) /\ Ext w w' := by
 have HT := Lib.hid ht
 clear ht
 have hl := prN_len a.toNat
 have hl2 := Lib.itoa_length_le n h.1 h.2
 go_enter Tryz.func90, Tryz.ntmps90
 go_wp2_with (first
  | (go_at_call 148; with_reducible refine (print_any a _ HT.out).mono ?_; rintro e w1 ⟨rfl, hx1⟩)
  | (go_at_call 39; with_reducible refine (itoa_any _ _ h (HT.out.later hx1)).mono ?_; rintro e w2 ⟨rfl, hx2⟩))
 go_ret
 exact ⟨ret_S (by unfold prefL; simp), hx1.trans hx2⟩
theorem prefL_len (a : Nat) {n : Int} (h : In64 n) : (prefL a n).length <= 40 := by
 have h1 := prN_len a
 have h2 := Lib.itoa_length_le n h.1 h.2
 unfold prefL
 rw [List.length_append, List.length_cons]
 omega
/-! ### The words of the actions -/
def wordL : List (List UInt8) := [[], [110, 101, 120, 116], [100, 101, 108, 105, 118, 101, 114], [100, 114, 111, 112]]
def Words (w : World) : Prop := w.var? Tryz.prog "theseus/tool.words" = some (wordL.map S).toArray
theorem gWords : (Tryz.prog.globalNamed "theseus/tool.words") = some 0 := by kernel_rfl
theorem Words.later {w w' : World} (h : Words w) (hx : Ext w w') : Words w' := by
 unfold Words at *
 refine var?_below hx gWords ?_ h
 unfold World.var? at h
 simp only [gWords, Option.bind_some] at h
 rcases Nat.lt_or_ge 0 w.heap.size with k | k
 · exact k
 · rw [Array.getElem?_eq_none k] at h; cases h
theorem Words.cell {w : World} (h : Words w) {i : Nat} {t : List UInt8} (hi : wordL[i]? = some t) : w.cell? ⟨0, i, none⟩ = some (S t) := by
 have hil := (List.getElem?_eq_some_iff.1 hi).1
 have := World.var?_cell gWords h i
 simpa [hi] using this
end Go.Proofs.YtdpmnldmbnpfpaaGreatDoor

/- tool.explain and tool.Explain, by the program. Conditions: the library's table of powers of ten, and the table of words, read as they are laid; networks that may be. -/
namespace Go.Proofs.YtdpmnldmbnpfpaaGreatDoor
open Go Go.RowKit Go.Maps Go.Proofs

/-- What is said of a rule that is found; of none. -/
def saidL (r : Rul) : List UInt8 := prefL r.pa.toNat r.pl ++ [32] ++ wordL.getD r.act.toNat [] ++ (if r.act = 1 then 32 :: Lib.itoa r.nx else [])
def explT (l : List Rul) (a : BitVec 32) : List UInt8 :=
 match findL l a with
 | none => [45]
 | some r => saidL r
theorem rul_act {r : Rul} {n : Int} (h : ruleMayV r n = 0) : (r.act = 1 \/ r.act = 2 \/ r.act = 3) /\ In64 r.pl /\ (r.act = 1 -> 0 <= r.nx /\ r.nx < n) := by
 unfold ruleMayV at h
 by_cases h0 : mayV r.pa r.pl = 0
 · rw [if_neg (by simp [h0])] at h
   have hp : 0 <= r.pl /\ r.pl <= 32 := by
    unfold mayV at h0
    split at h0
    · cases h0
    · omega
   have hi : In64 r.pl := by unfold In64; omega
   split at h
   · split at h
     · cases h
     · rename_i ha hx
       exact ⟨.inl ha, hi, fun _ => by omega⟩
   · split at h
     · rename_i ha _
       rename_i hb
       exact ⟨.inr (by omega), hi, fun e => absurd e (by omega)⟩
     · cases h
 · rw [if_pos h0] at h; exact absurd h h0
set_option maxHeartbeats 4000000 in
set_option maxRecDepth 100000 in
theorem explain_any (lv : Value) (l : List Rul) (a : BitVec 32) (n : Nat) (w : World) (hl : RulesAt w lv l) (hok : RulesOk l) (hm : ∀ r ∈ l, ruleMayV r n = 0) (hn : n <= 256) (ht : Tab10 w) (hw : Words w) :
 Calls Tryz.prog 36 #[lv, U a] w fun e w' => e = .returned (S (explT l a)) /\ Ext w w' := by
 have HF := Lib.hid (tableFind_any lv l a w hl hok)
 have HT := Lib.hid ht
 have HW := Lib.hid hw
 have HM := Lib.hid (fun r (h : findL l a = some r) => rul_act (hm r (findL_mem h)))
 have HE := Lib.hid (show explT l a = match findL l a with | none => [45] | some r => saidL r from rfl)
 clear hl hok hm ht hw
 cases hf : findL l a with
 | none =>
   rw [hf] at HF HE
   clear hf HM
   go_enter Tryz.func36, Tryz.ntmps36
   go_upto_region 2 with (first
    | (go_at_call 89; (with_reducible refine HF.out.mono ?_); rintro e w2 ⟨he, hx⟩; subst he; have HX2 := Lib.hid hx; clear hx))
   refine hideW (Φ := fun W => Code.wp _ _ _ _ W) (fun W => Ext w2 W) (by (repeat with_reducible first | exact Ext.refl _ | assumption | refine Ext.alloc ?_ _ | refine Ext.drew ?_ | refine Ext.drewN ?_ _ | (refine Ext.setCellP ?_ ?_; focus (first | (simp; done) | (simp; omega) | omega)))) (fun W3 hW3 => ?_)
   have HX3 := Lib.hid (HX2.out.trans hW3)
   clear hW3
   go_wp2_with fail
   go_ret
   rw [HE.out]
   exact ⟨rfl, HX3.out⟩
 | some r =>
   obtain ⟨hact, hpl, hnx⟩ := HM.out r hf
   rw [hf] at HF HE
   clear hf HM
   have HPL := Lib.hid hpl
   have hlen := prefL_len r.pa.toNat hpl
   have HPP := Lib.hid (fun W (h : Ext w W) => prefPrint_any r.pa r.pl W hpl (HT.out.later h))
   have HSD := Lib.hid (show saidL r = prefL r.pa.toNat r.pl ++ [32] ++ wordL.getD r.act.toNat [] ++ (if r.act = 1 then 32 :: Lib.itoa r.nx else []) from rfl)
   clear hpl
   generalize prefL r.pa.toNat r.pl = P at *
   go_enter Tryz.func36, Tryz.ntmps36
   go_upto_region 2 with (first
    | (go_at_call 89; (with_reducible refine HF.out.mono ?_); rintro e w2 ⟨he, hx⟩; subst he; have HX2 := Lib.hid hx; clear hx))
   refine hideW (Φ := fun W => Code.wp _ _ _ _ W) (fun W => Ext w2 W /\ Blk W w2.heap.size [U r.pa, I r.pl, I r.act, I r.nx] 62) ⟨by (repeat with_reducible first | exact Ext.refl _ | assumption | refine Ext.alloc ?_ _ | refine Ext.drew ?_ | refine Ext.drewN ?_ _ | (refine Ext.setCellP ?_ ?_; focus (first | (simp; done) | (simp; omega) | omega))), Blk.new w2 [U r.pa, I r.pl, I r.act, I r.nx] 62⟩ (fun W3 hW3 => ?_)
   obtain ⟨hx3, hb3⟩ := hW3
   have HX3 := Lib.hid (HX2.out.trans hx3)
   have HB3 := Lib.hid hb3
   have hrc := hb3.cells
   clear hx3 hb3
   generalize w2.heap.size = rb at *
   go_upto_region 5 with (first
    | (go_at_call 90; (with_reducible refine (HPP.out _ HX3.out).mono ?_); rintro e w4 ⟨he, hx⟩; subst he; have HX4 := Lib.hid (HX3.out.trans hx); have HB4 := Lib.hid (HB3.out.later hx); clear hx hrc))
   have hrc := HB4.out.cells
   have HW4 := Lib.hid (HW.out.later HX4.out)
   have HB4' := HB4
   rcases hact with ha | ha | ha
   · have HIN := Lib.hid (show In64 r.nx by have := hnx ha; unfold In64; omega)
     rw [ha] at hrc HSD
     clear hnx
     have hl5 := Lib.itoa_length_le r.nx HIN.out.1 HIN.out.2
     have hwc : w4.cell? ⟨0, 1, none⟩ = some (S [110, 101, 120, 116]) := HW4.out.cell rfl
     go_wp2_with (first
      | (go_at_call 39; (with_reducible refine (itoa_any _ _ HIN.out (HT.out.later HX4.out)).mono ?_); rintro e w5 ⟨he, hx⟩; subst he; have HX5 := Lib.hid (HX4.out.trans hx); clear hx))
     go_ret
     rw [HE.out]
     show _ = Ending.returned (S (saidL r)) /\ _
     rw [HSD.out]
     exact ⟨ret_S (by simp [wordL]), HX5.out⟩
   · rw [ha] at hrc HSD
     clear hnx
     have hwc : w4.cell? ⟨0, 2, none⟩ = some (S [100, 101, 108, 105, 118, 101, 114]) := HW4.out.cell rfl
     go_wp2_with fail
     go_ret
     rw [HE.out]
     show _ = Ending.returned (S (saidL r)) /\ _
     rw [HSD.out]
     exact ⟨ret_S (by simp [wordL]), HX4.out⟩
   · rw [ha] at hrc HSD
     clear hnx
     have hwc : w4.cell? ⟨0, 3, none⟩ = some (S [100, 114, 111, 112]) := HW4.out.cell rfl
     go_wp2_with fail
     go_ret
     rw [HE.out]
     show _ = Ending.returned (S (saidL r)) /\ _
     rw [HSD.out]
     exact ⟨ret_S (by simp [wordL]), HX4.out⟩
end Go.Proofs.YtdpmnldmbnpfpaaGreatDoor

/- tool.Explain, by the program. Conditions: a milliard bytes at most; the library's table of powers of ten, and the table of words, read as they are laid. -/
namespace Go.Proofs.YtdpmnldmbnpfpaaGreatDoor
open Go Go.RowKit Go.Maps Go.Proofs

/-- A row of texts of the call's own. -/
def OwnS (w : World) (B : Nat) (v : Value) (ls : List (List UInt8)) : Prop := w.ownsRow B 9 1 v ls.length (ls.map S)
theorem infoStr : (Tryz.prog.info? 9).map (fun i => (i.zero, i.size, i.bytes)) = some (some (.string ⟨#[]⟩), 1, 16) := by kernel_rfl
theorem own_bds {w : World} {B : Nat} {e : TypeId} {z : Nat} {v : Value} {n : Nat} {xs : List Value} (h : w.ownsRow B e z v n xs) : ∃ a c, v = .slice a n c /\ n <= c /\ c <= maxLen := by
 rcases h.2 with ⟨rfl, rfl⟩ | ⟨g, cap, cur, rfl, -, -, h1, h2, -⟩
 · exact ⟨none, 0, rfl, Nat.le_refl _, by unfold maxLen; omega⟩
 · exact ⟨_, _, rfl, h1, h2⟩
/-- What tool.Explain hands back. -/
def ExOut (w : World) (l : List Byt) (a : BitVec 32) (e : Ending) (w' : World) : Prop :=
 (match netTake l with
  | .error z => z ≠ 0 /\ e = .returned (.tuple #[.slice none 0 0, I z])
  | .ok ls => ∃ u, e = .returned (.tuple #[u, I 0]) /\ OwnS w' w.heap.size u (ls.map fun t => explT t a)) /\ Ext w w'
theorem expl_step (ls : List (List Rul)) (a : BitVec 32) {k : Nat} (h : k < ls.length) : (ls.take (k + 1)).map (fun t => explT t a) = (ls.take k).map (fun t => explT t a) ++ [explT ls[k] a] := by
 rw [List.take_succ_eq_append_getElem h, List.map_append]; rfl
theorem net_rules {ls : List (List Rul)} (h : netMayV ls = 0) : ∀ l ∈ ls, ∀ r ∈ l, ruleMayV r ls.length = 0 := fun l hl => (tabG_spec ls.length l none ((netMay_tabs h).2.2 l hl)).1
set_option maxHeartbeats 4000000 in
set_option maxRecDepth 100000 in
theorem toolExplain_any (v : Value) (l : List Byt) (a : BitVec 32) (w : World) (h : BsAt w v l) (hl : l.length <= 1000000000) (ht : Tab10 w) (hw : Words w) : Calls Tryz.prog 15 #[v, U a] w (ExOut w l a) := by
 have HN := Lib.hid (netfileTake_any v l w h hl)
 have HTT := Lib.hid ht
 have HWW := Lib.hid hw
 obtain ⟨a0, cap, rfl, -⟩ := h.form
 clear h ht hw
 cases ht : netTake l with
 | error z =>
   have HT := Lib.hid ht
   clear ht
   go_enter Tryz.func15, Tryz.ntmps15
   go_upto_region 2 with (first
    | (go_at_call 21
       go_loud (
        (with_reducible refine HN.out.mono ?_)
        rintro e w2 ⟨h1, hx⟩
        rw [HT.out] at h1
        obtain ⟨hz, he⟩ := h1
        subst he
        have HX2 := Lib.hid hx
        have HZ := Lib.hid hz
        clear hx hz)))
   refine hideW (Φ := fun W => Code.wp _ _ _ _ W) (fun W => Ext w2 W) (by (repeat with_reducible first | exact Ext.refl _ | assumption | refine Ext.alloc ?_ _ | refine Ext.drew ?_ | refine Ext.drewN ?_ _ | (refine Ext.setCellP ?_ ?_; focus (first | (simp; done) | (simp; omega) | omega)))) (fun W3 hW3 => ?_)
   have HX3 := Lib.hid (HX2.out.trans hW3)
   have hzb : (z != 0) = true := by simp [HZ.out]
   clear hW3
   go_wp2_with fail
   go_ret2
   unfold ExOut
   rw [HT.out]
   exact ⟨⟨HZ.out, rfl⟩, HX3.out⟩
 | ok ls =>
   have HT := Lib.hid ht
   have HM := Lib.hid (netTake_may ht)
   clear ht
   have hlen := (netMay_tabs HM.out).1
   obtain ⟨i8, hi8, hz8, hs8, hb8⟩ := info_parts infoStr
   have HI8 := Lib.hid hi8
   have HZ8 := Lib.hid hz8
   have HS8 := Lib.hid hs8
   clear hi8 hz8 hs8
   go_enter Tryz.func15, Tryz.ntmps15
   go_upto_region 2 with (first
    | (go_at_call 21
       go_loud (
        (with_reducible refine HN.out.mono ?_)
        rintro e w2 ⟨h1, hx⟩
        rw [HT.out] at h1
        obtain ⟨u2, he, ho⟩ := h1
        obtain ⟨va, vc, hue, -⟩ := ho.read.form
        subst hue
        subst he
        have HX2 := Lib.hid hx
        have HR2 := Lib.hid ho.read
        clear hx ho)))
   refine hideW (Φ := fun W => Code.wp _ _ _ _ W) (fun W => Ext w2 W /\ Blk W w2.heap.size [.slice va ls.length vc] 39) ⟨by (repeat with_reducible first | exact Ext.refl _ | assumption | refine Ext.alloc ?_ _ | refine Ext.drew ?_ | refine Ext.drewN ?_ _ | (refine Ext.setCellP ?_ ?_; focus (first | (simp; done) | (simp; omega) | omega))), Blk.new w2 [.slice va ls.length vc] 39⟩ (fun W3 hW3 => ?_)
   obtain ⟨hx3, hb3⟩ := hW3
   have HX3 := Lib.hid (HX2.out.trans hx3)
   have HB3 := Lib.hid hb3
   obtain ⟨a1, c1, hf1, -, -, hv1⟩ := (HR2.out.later hx3).form
   cases hf1
   have HVF := Lib.hid hv1
   clear hv1
   have hbc := hb3.cells
   clear hx3 hb3
   generalize w2.heap.size = nb at *
   go_upto_region 5 with (at_make; go_loud (refine wpList_make_own _ rfl _ _ 31 rfl W3.heap.size 9 i8 (.string ⟨#[]⟩) 1 Tryz.underlying31 HI8.out HZ8.out HS8.out .i64 .i64 _ ls.length rfl rfl (by omega) (by rw [hb8]; omega) (by unfold maxLen; omega) (Nat.le_refl _) ?_); intro w4 hown1 hgrow1; have HO4 := Lib.hid (show OwnS w4 W3.heap.size _ [] from hown1); have HY4 := Lib.hid (show Ext W3 w4 from Below.grown (Ext.refl W3) hgrow1 (Nat.le_refl _) (fun j hj => by cases hj)); have hbc4 := (blk_grown HB3.out (fun g e => by cases e) hgrow1).cells; clear hown1 hgrow1)
   clear hbc
   go_wp2_with fail
   go_loopw [8, 26] (fun u i wr => ∃ (k : Nat), k <= ls.length /\ i = I k /\ Hid (OwnS wr W3.heap.size u ((ls.take k).map fun t => explT t a)) /\ Hid (Ext W3 wr)) (fun _ i _ => ls.length - (intOf i).toNat)
   case atStart => exact ⟨0, Nat.zero_le _, rfl, HO4, HY4⟩
   case round =>
    obtain ⟨k, hk, rfl, HO, HX⟩ := hrel
    clear hbc4
    have HKL := Lib.hid (show ((ls.take k).map fun t => explT t a).length = k by rw [List.length_map, List.length_take]; omega)
    by_cases hlt : k < ls.length
    · have HST := Lib.hid (expl_step ls a hlt)
      have HLT := Lib.hid hlt
      obtain ⟨b, o, x, he, hc, hx⟩ := HVF.out k _ (List.getElem?_eq_getElem hlt)
      subst he
      replace hc := HX.out.cell hc
      have HEX := Lib.hid (explain_any x ls[k] a ls.length wr (hx.later HX.out) ((may_ok HM.out).at hlt) (net_rules HM.out _ (List.getElem_mem hlt)) hlen (HTT.out.later (HX3.out.trans HX.out)) (HWW.out.later (HX3.out.trans HX.out)))
      obtain ⟨xa, xc, hxf, -⟩ := hx.form
      subst hxf
      clear hx
      generalize explT ls[k] a = T at *
      generalize (ls.take k).map (fun t => explT t a) = L at *
      obtain ⟨ua, uc, huf, ub1, ub2⟩ : ∃ ad c, u8 = .slice ad L.length c /\ L.length <= c /\ c <= maxLen := own_bds HO.out
      subst huf
      go_wp2_with (first
       | (go_at_call 36; (with_reducible refine HEX.out.mono ?_); rintro e w6 ⟨he, hx⟩; subst he; have HX6 := Lib.hid (HX.out.trans hx); have HO6 := Lib.hid (show OwnS (w6.alloc (.cells #[S T] 9)) W3.heap.size _ L from own_later HO.out (hx.alloc _)); have HSC := Lib.hid (show (w6.alloc (.cells #[S T] 9)).cell? ⟨w6.heap.size, 0, none⟩ = some (S T) from (Blk.new w6 [S T] 9).cells 0); have HXA := Lib.hid (HX6.out.alloc (.cells #[S T] 9)); clear hx)
       | (at_builtin
          refine wpList_app1 rfl (.tmp 30) (.tmp 34) 31 rfl W3.heap.size 9 (.string ⟨#[]⟩) 16 Tryz.underlying31 infoStr rfl (by decide) _ _ _ rfl HO6.out w6.heap.size rfl (S T) HSC.out rfl (by have := HKL.out; omega) HXA.out.size ?_
          intro v7 w7 ho7 hg7 hl7
          have HX7 := Lib.hid (Ext.grown HXA.out hg7 HO6.out (Nat.le_refl _))
          have HO7 := Lib.hid (show OwnS w7 W3.heap.size v7 (L ++ [T]) from by unfold OwnS; rw [List.map_append, List.length_append]; exact ho7)
          clear ho7 hg7 hl7))
      go_roundw
      case rel => exact ⟨k + 1, HLT.out, by go_num, by rw [HST.out]; exact HO7, HX7⟩
      case measure => have := HLT.out; simp [intOf]; omega
    · obtain rfl : k = ls.length := by omega
      have HO' := Lib.hid (show OwnS wr W3.heap.size u8 (ls.map fun t => explT t a) by have h := HO.out; rw [List.take_length] at h; exact h)
      go_wp2_with fail
      go_ret2
      unfold ExOut
      rw [HT.out]
      exact ⟨⟨_, rfl, own_low HO'.out HX3.out.size⟩, HX3.out.trans HX.out⟩
end Go.Proofs.YtdpmnldmbnpfpaaGreatDoor
