/- NetP, Ref08, NetMay, Find08, Step, Steps, Vec13, NetFit, OwnPut: these texts in one. Conditions: each part names its own. -/
import Derived.Test.YtdpmnldmbnpfpaaGreatDoorGNet
import Derived.Test.YtdpmnldmbnpfpaaGreatDoorGTrieL
import Derived.Test.YtdpmnldmbnpfpaaGreatDoorGRule
import Derived.Test.YtdpmnldmbnpfpaaGreatDoorGPref
import Derived.Test.YtdpmnldmbnpfpaaGreatDoorGBase
/- Plain facts on networks: which may be, where an address is sent, and networks that are made such as may be. Conditions: none. -/
namespace Go.Proofs.YtdpmnldmbnpfpaaGreatDoor
open Go.RowKit

def netG (nodes : Int) : List (List Rul) -> Int
 | [] => 0
 | l :: r => if tabMayV nodes l ≠ 0 then tabMayV nodes l else netG nodes r
def netMayV (ls : List (List Rul)) : Int := if 256 < ls.length \/ 4096 < sizeN ls then 12 else netG ls.length ls
theorem netG_step (nodes : Int) {ls : List (List Rul)} {k : Nat} (h : k < ls.length) : netG nodes (ls.drop k) = if tabMayV nodes ls[k] ≠ 0 then tabMayV nodes ls[k] else netG nodes (ls.drop (k + 1)) := by
 rw [List.drop_eq_getElem_cons h]; rfl
theorem netG_end (nodes : Int) {ls : List (List Rul)} {k : Nat} (h : ls.length <= k) : netG nodes (ls.drop k) = 0 := by rw [List.drop_of_length_le h]; rfl
theorem netG_all {nodes : Int} : ∀ {ls : List (List Rul)}, netG nodes ls = 0 -> ∀ l ∈ ls, tabMayV nodes l = 0
 | [], _, _, h => by cases h
 | x :: r, h, l, hl => by
   unfold netG at h
   by_cases hx : tabMayV nodes x = 0
   · rw [if_neg (by simpa using hx)] at h
     rcases List.mem_cons.1 hl with rfl | hl
     · exact hx
     · exact netG_all h l hl
   · rw [if_pos hx] at h; exact absurd h hx
theorem netMay_tabs {ls : List (List Rul)} (h : netMayV ls = 0) : ls.length <= 256 /\ sizeN ls <= 4096 /\ ∀ l ∈ ls, tabMayV ls.length l = 0 := by
 unfold netMayV at h
 split at h
 · cases h
 · exact ⟨by omega, by omega, netG_all h⟩
theorem cmp_one {a b : Rul} : cmpR a b = 1 ↔ ltP b a := by
 rw [ltP_iff]
 unfold cmpR
 rw [cmpV_eq]
 constructor
 · intro h
   split at h
   · omega
   · split at h
     · omega
     · rename_i h1 h2
       rcases Int.lt_trichotomy (uv b.pa) (uv a.pa) with g | g | g
       · exact .inl g
       · refine .inr ⟨uv_inj g, ?_⟩
         have e := uv_inj g
         rcases Int.lt_trichotomy b.pl a.pl with q | q | q
         · exact q
         · exact absurd ⟨e.symm, q.symm⟩ h2
         · exact absurd (.inr ⟨e.symm, q⟩) h1
       · exact absurd (.inl g) h1
 · intro h
   rw [if_neg, if_neg]
   · rintro ⟨e1, e2⟩
     rcases h with h | ⟨_, h⟩
     · rw [e1] at h; omega
     · omega
   · rintro (g | ⟨e1, g⟩)
     · rcases h with h | ⟨h, _⟩
       · omega
       · rw [h] at g; omega
     · rcases h with h | ⟨_, h⟩
       · rw [e1] at h; omega
       · omega
theorem tabG_spec (nodes : Int) : ∀ (l : List Rul) (p : Option Rul), tabG nodes p l = 0 -> (∀ r ∈ l, ruleMayV r nodes = 0) /\ Sorted l /\ ∀ q, p = some q -> ∀ r ∈ l, ltP q r
 | [], p, _ => ⟨fun r h => (by cases h), List.Pairwise.nil, fun q _ r h => (by cases h)⟩
 | x :: l, p, h => by
   unfold tabG at h
   by_cases hx : ruleMayV x nodes = 0
   · rw [if_neg (by simpa using hx)] at h
     by_cases hb : badOrd p x = true
     · rw [if_pos hb] at h; cases h
     · rw [if_neg hb] at h
       obtain ⟨h1, h2, h3⟩ := tabG_spec nodes l (some x) h
       have h4 := h3 x rfl
       refine ⟨fun r hr => ?_, List.Pairwise.cons h4 h2, fun q hq r hr => ?_⟩
       · rcases List.mem_cons.1 hr with rfl | hr
         · exact hx
         · exact h1 r hr
       · subst hq
         have hqx : ltP q x := by
          unfold badOrd at hb
          exact cmp_one.1 (by simpa [cmpR] using hb)
         rcases List.mem_cons.1 hr with rfl | hr
         · exact hqx
         · exact ltP_trans hqx (h4 r hr)
   · rw [if_pos hx] at h; exact absurd h hx
theorem ruleMay_valid {r : Rul} {nodes : Int} (h : ruleMayV r nodes = 0) : Valid r.pa r.pl := by
 refine mayV_valid ?_
 by_cases g : mayV r.pa r.pl = 0
 · exact g
 · unfold ruleMayV at h
   rw [if_pos g] at h
   exact absurd h g
theorem tab_of_may {nodes : Int} {l : List Rul} (h : tabMayV nodes l = 0) : Tab l :=
 let ⟨h1, h2, _⟩ := tabG_spec nodes l none h
 ⟨fun r hr => ruleMay_valid (h1 r hr), h2.imp ltP_ne⟩
theorem netMay_tab {ls : List (List Rul)} (h : netMayV ls = 0) : ∀ l ∈ ls, Tab l := fun l hl => tab_of_may ((netMay_tabs h).2.2 l hl)

/-- Where a table sends an address. -/
def stepO (l : List Rul) (a : BitVec 32) : Option Int :=
 match findL l a with
 | some r => if r.act = 1 then some r.nx else none
 | none => none
/-- Where all nodes send an address. -/
def vecV (ls : List (List Rul)) (a : BitVec 32) : List Int := ls.map fun l => (stepO l a).getD (-1)
theorem vecV_len (ls : List (List Rul)) (a : BitVec 32) : (vecV ls a).length = ls.length := List.length_map _
theorem vecV_get {ls : List (List Rul)} {a : BitVec 32} {k : Nat} (h : k < ls.length) : (vecV ls a)[k]? = some ((stepO ls[k] a).getD (-1)) := by
 unfold vecV; rw [List.getElem?_map, List.getElem?_eq_getElem h]; rfl

/-- A network that may be. -/
def manyN (ls : List (List Rul)) : Nat := max 1 (min ls.length 8)
def fitN (ls : List (List Rul)) : List (List Rul) := (List.range (manyN ls)).map fun i => fitL (ls.getD i []) (manyN ls)
theorem sum_le {l : List Nat} {c : Nat} (h : ∀ x ∈ l, x <= c) : l.sum <= l.length * c := by
 induction l with
 | nil => simp
 | cons x l ih =>
   have h1 := ih fun y hy => h y (by simp [hy])
   have h2 := h x (by simp)
   rw [List.sum_cons, List.length_cons, Nat.succ_mul]; omega
theorem sizeN_le {ls : List (List Rul)} {c : Nat} (h : ∀ l ∈ ls, l.length <= c) : sizeN ls <= ls.length * c := by
 unfold sizeN
 have := @sum_le (ls.map List.length) c fun x hx => by obtain ⟨l, hl, rfl⟩ := List.mem_map.1 hx; exact h l hl
 rwa [List.length_map] at this
/-- A network of 8 nodes at most, of 20 rules at most each. -/
def fewN (ls : List (List Rul)) : List (List Rul) := (ls.take 8).map (·.take 20)
end Go.Proofs.YtdpmnldmbnpfpaaGreatDoor

/- The reference's answers for a table: which may be, what is found. Conditions: whole numbers are within 64 bits. -/
namespace Go.Proofs.YtdpmnldmbnpfpaaGreatDoor
open Go.RowKit

end Go.Proofs.YtdpmnldmbnpfpaaGreatDoor

/- Which networks may be: the program's and the reference's answers. Conditions: whole numbers are within 64 bits; a million rules at most where they are counted. -/
namespace Go.Proofs.YtdpmnldmbnpfpaaGreatDoor
open Go.RowKit

set_option maxHeartbeats 1000000 in
theorem netSize_any (lv : Value) (ls : List (List Rul)) (w : World) (hl : TablesAt w lv ls) (hs : sizeN ls <= 100000000) :
 Calls Tryz.prog 63 #[.agg #[lv]] w fun e w' => e = .returned (I (sizeN ls)) /\ Ext w w' := by
 obtain ⟨ad, cap, rfl, a1, a2, a3⟩ := hl.form
 have A3 := Lib.hid a3
 clear a3
 unfold maxLen at a2
 go_enter Tryz.func63, Tryz.ntmps63
 go_wp2_with fail
 go_loopw [3, 9] (fun s i wr => ∃ k : Nat, k <= ls.length /\ i = I k /\ s = I (sizeN (ls.take k)) /\ Ext w wr) (fun _ i _ => ls.length - (intOf i).toNat)
 case atStart => exact ⟨0, by omega, rfl, rfl, by (repeat with_reducible first | exact Ext.refl _ | assumption | refine Ext.alloc ?_ _ | refine Ext.drew ?_ | refine Ext.drewN ?_ _ | (refine Ext.setCellP ?_ ?_; focus (first | (simp; done) | (simp; omega) | omega)))⟩
 case round =>
  obtain ⟨k, hk, rfl, rfl, hx⟩ := hrel
  by_cases hlt : k < ls.length
  · obtain ⟨b0, o0, u, rfl, p0, hr⟩ := A3.out k ls[k] (List.getElem?_eq_getElem hlt)
    replace p0 := hx.cell p0
    obtain ⟨ra, rcap, rfl, r1, r2, r3⟩ := hr.form
    clear r3
    unfold maxLen at r2
    have HS := Lib.hid (sizeN_step hlt)
    have hle := sizeN_take ls (k + 1)
    rw [HS.out] at hle
    go_wp2_with fail
    go_roundw
    case rel => exact ⟨k + 1, by omega, by go_num, by rw [HS.out]; go_num, hx⟩
    case measure => simp [intOf]; omega
  · have HE := Lib.hid (sizeN_all (ls := ls) (k := k) (by omega))
    go_wp2_with fail
    go_ret
    exact ⟨ret_int (by rw [HE.out]), hx⟩
set_option maxHeartbeats 2000000 in
theorem netMay_any (lv : Value) (ls : List (List Rul)) (w : World) (hl : TablesAt w lv ls) (hok : TablesOk ls) (hs : sizeN ls <= 100000000) :
 Calls Tryz.prog 27 #[.agg #[lv]] w fun e w' => e = .returned (I (netMayV ls)) /\ Ext w w' := by
 have HL := Lib.hid hl
 obtain ⟨ad, cap, rfl, a1, a2, a3⟩ := hl.form
 have A3 := Lib.hid a3
 clear a3 hl
 unfold maxLen at a2
 by_cases hbig : 256 < ls.length
 · have HV := Lib.hid (show netMayV ls = 12 by unfold netMayV; rw [if_pos (.inl hbig)])
   have hbd : decide ((ls.length : Int) > 256) = true := decide_eq_true (by omega)
   go_enter Tryz.func27, Tryz.ntmps27
   go_wp2_with fail
   go_ret
   exact ⟨ret_int HV.out.symm, by (repeat with_reducible first | exact Ext.refl _ | assumption | refine Ext.alloc ?_ _ | refine Ext.drew ?_ | refine Ext.drewN ?_ _ | (refine Ext.setCellP ?_ ?_; focus (first | (simp; done) | (simp; omega) | omega)))⟩
 · have hbd : decide ((ls.length : Int) > 256) = false := by simp; omega
   have HX := Lib.hid ((Ext.refl w).alloc (.cells #[Value.slice ad ls.length cap] 39))
   have HB := Lib.hid (Blk.newAt (w := w) (T := 39) [Value.slice ad ls.length cap] rfl)
   by_cases hsz : 4096 < sizeN ls
   · have HV := Lib.hid (show netMayV ls = 12 by unfold netMayV; rw [if_pos (.inr hsz)])
     have hsd : decide ((sizeN ls : Int) > 4096) = true := decide_eq_true (by omega)
     go_enter Tryz.func27, Tryz.ntmps27
     go_wp2_with (first
      | (go_at_call 63; (with_reducible refine (netSize_any _ ls _ (HL.out.later HX.out) hs).mono ?_); rintro e w2 ⟨rfl, hx2⟩; have HX2 := Lib.hid hx2; clear hx2))
     go_ret
     exact ⟨ret_int HV.out.symm, HX.out.trans HX2.out⟩
   · have HV := Lib.hid (show netMayV ls = netG ls.length ls by unfold netMayV; rw [if_neg (by omega)])
     have hsd : decide ((sizeN ls : Int) > 4096) = false := by simp; omega
     go_enter Tryz.func27, Tryz.ntmps27
     go_upto_region 3 with (first
      | (go_at_call 63; (with_reducible refine (netSize_any _ ls _ (HL.out.later HX.out) hs).mono ?_); rintro e w2 ⟨rfl, hx2⟩; have HX2 := Lib.hid (HX.out.trans hx2); have HB2 := Lib.hid (HB.out.later hx2); clear hx2; have hb2c := HB2.out.cells))
     go_wp2_with fail
     go_loopw [18] (fun i wr => ∃ k : Nat, k <= ls.length /\ i = I k /\ Hid (netG ls.length (ls.drop k) = netMayV ls) /\ Ext w2 wr) (fun i _ => ls.length - (intOf i).toNat)
     case atStart => exact ⟨0, by omega, rfl, HV.out.symm, Ext.refl _⟩
     case round =>
      obtain ⟨k, hk, rfl, HN, hx⟩ := hrel
      have hbc := (HB2.out.later hx).cells
      have HXW := Lib.hid (HX2.out.trans hx)
      by_cases hlt : k < ls.length
      · obtain ⟨b0, o0, u, rfl, p0, hr⟩ := A3.out k ls[k] (List.getElem?_eq_getElem hlt)
        replace p0 := HXW.out.cell p0
        have HR := Lib.hid (hr.later HXW.out)
        have HOK := Lib.hid (hok.at hlt)
        have HS := Lib.hid (netG_step ls.length hlt)
        rw [HN.out] at HS
        clear hr
        by_cases hm : tabMayV ls.length ls[k] = 0
        · have hmd : (tabMayV ls.length ls[k] != 0) = false := by simpa using hm
          have HS2 := Lib.hid (HS.out.trans (if_neg (by simpa using hm)))
          clear hm HS HN
          go_wp2_with (first
           | (go_at_call 64; (with_reducible refine (tableMay_any _ ls[k] _ _ HR.out HOK.out).mono ?_); rintro e w3 ⟨rfl, hx3⟩; have HX3 := Lib.hid hx3; clear hx3))
          go_roundw
          case rel => exact ⟨k + 1, by omega, by go_num, HS2.out.symm, hx.trans HX3.out⟩
          case measure => simp [intOf]; omega
        · have hmd : (tabMayV ls.length ls[k] != 0) = true := by simpa using hm
          have HS2 := Lib.hid (HS.out.trans (if_pos hm))
          clear hm HS HN
          go_wp2_with (first
           | (go_at_call 64; (with_reducible refine (tableMay_any _ ls[k] _ _ HR.out HOK.out).mono ?_); rintro e w3 ⟨rfl, hx3⟩; have HX3 := Lib.hid hx3; clear hx3))
          go_ret
          exact ⟨ret_int HS2.out.symm, HXW.out.trans HX3.out⟩
      · have HE := Lib.hid (HN.out.symm.trans (netG_end ls.length (ls := ls) (k := k) (by omega)))
        go_wp2_with fail
        go_ret
        exact ⟨ret_int HE.out.symm, HXW.out⟩
end Go.Proofs.YtdpmnldmbnpfpaaGreatDoor

/- The reference's find in a table, and where a node sends an address: the program's and the reference's answers. Conditions: whole numbers are within 64 bits. -/
namespace Go.Proofs.YtdpmnldmbnpfpaaGreatDoor
open Go.RowKit

/-- The place of what was found so far, -1 if nothing was. -/
def BestAt (l : List Rul) (o : Option Rul) (b : Int) : Prop := (o = none /\ b = -1) \/ ∃ (j : Nat) (h : j < l.length), o = some l[j] /\ b = j
end Go.Proofs.YtdpmnldmbnpfpaaGreatDoor

/- Where a node sends an address, and all of them: the program's and the reference's answers. Conditions: whole numbers are within 64 bits. -/
namespace Go.Proofs.YtdpmnldmbnpfpaaGreatDoor
open Go.RowKit

/-- What is said of a step. -/
abbrev stepV (o : Option Int) : Value := .tuple #[I (o.getD 0), .bool o.isSome]
/-- The ways of a rule that was found. -/
inductive NextWay (l : List Rul) (a : BitVec 32) : Prop where
 | none (h : findL l a = none) (v : Hid (stepO l a = none))
 | other (r : Rul) (h : findL l a = some r) (n : ((resR (some r)).act != 1) = true) (v : Hid (stepO l a = none))
 | next (r : Rul) (h : findL l a = some r) (n : ((resR (some r)).act != 1) = false) (v : Hid (stepO l a = some r.nx))
theorem next_way (l : List Rul) (a : BitVec 32) : NextWay l a := by
 cases h : findL l a with
 | none => exact .none h (by show _ = _; unfold stepO; rw [h])
 | some r =>
   by_cases g : r.act = 1
   · exact .next r h (by simpa [resR] using g) (by show _ = _; unfold stepO; rw [h]; simp [g])
   · exact .other r h (by simpa [resR] using g) (by show _ = _; unfold stepO; rw [h]; simp [g])
set_option maxHeartbeats 1000000 in
theorem tableNext_any (lv : Value) (l : List Rul) (a : BitVec 32) (w : World) (hl : RulesAt w lv l) (hok : RulesOk l) :
 Calls Tryz.prog 164 #[lv, U a] w fun e w' => e = .returned (stepV (stepO l a)) /\ Ext w w' := by
 have HL := Lib.hid hl
 have HOK := Lib.hid hok
 clear hl hok
 have W := next_way l a
 rcases W with ⟨h, v⟩ | ⟨r, h, n, v⟩ | ⟨r, h, n, v⟩
 all_goals
  have H := Lib.hid h
  clear h
  go_enter Tryz.func164, Tryz.ntmps164
  go_wp2_with (first | (go_at_call 89; (with_reducible refine (tableFind_any _ l a _ HL.out HOK.out).mono ?_); rintro e w1 ⟨he, hx1⟩; rw [H.out] at he; subst he; have HX := Lib.hid hx1; clear hx1))
  go_ret2
  exact ⟨by rw [v.out]; rfl, by have := HX.out; (repeat with_reducible first | exact Ext.refl _ | assumption | refine Ext.alloc ?_ _ | refine Ext.drew ?_ | refine Ext.drewN ?_ _ | (refine Ext.setCellP ?_ ?_; focus (first | (simp; done) | (simp; omega) | omega)))⟩
end Go.Proofs.YtdpmnldmbnpfpaaGreatDoor

/- Steps of a network, and vectors by the reference. Conditions: whole numbers are within 64 bits. -/
namespace Go.Proofs.YtdpmnldmbnpfpaaGreatDoor
open Go.RowKit

/-- Where a network's node sends an address. -/
def stepN (ls : List (List Rul)) (a : BitVec 32) (v : Int) : Option Int := if v < 0 then none else (ls[v.toNat]?).bind fun l => stepO l a
theorem stepN_out {ls : List (List Rul)} {a : BitVec 32} {v : Int} (h : v < 0 \/ (ls.length : Int) <= v) : stepN ls a v = none := by
 unfold stepN
 by_cases g : v < 0
 · rw [if_pos g]
 · rw [if_neg g, List.getElem?_eq_none (by omega)]; rfl
theorem stepN_in {ls : List (List Rul)} {a : BitVec 32} {k : Nat} (h : k < ls.length) : stepN ls a k = stepO ls[k] a := by
 unfold stepN
 rw [if_neg (by omega), Int.toNat_natCast, List.getElem?_eq_getElem h]; rfl
theorem netIs_any (lv : Value) (ls : List (List Rul)) (v : Int) (w : World) (hl : TablesAt w lv ls) :
 Calls Tryz.prog 65 #[.agg #[lv], I v] w fun e w' => e = .returned (.bool (decide (0 <= v) && decide (v < ls.length))) /\ Ext w w' := by
 obtain ⟨ad, cap, rfl, a1, a2, a3⟩ := hl.form
 clear a3
 unfold maxLen at a2
 by_cases h : 0 <= v
 · have hd : decide (0 <= v) = true := decide_eq_true h
   go_enter Tryz.func65, Tryz.ntmps65
   go_wp2_with fail
   go_ret
   exact ⟨by first | rfl | (rw [hd]; simp; done) | simp [hd], by (repeat with_reducible first | exact Ext.refl _ | assumption | refine Ext.alloc ?_ _ | refine Ext.drew ?_ | refine Ext.drewN ?_ _ | (refine Ext.setCellP ?_ ?_; focus (first | (simp; done) | (simp; omega) | omega)))⟩
 · have hd : decide (0 <= v) = false := decide_eq_false h
   go_enter Tryz.func65, Tryz.ntmps65
   go_wp2_with fail
   go_ret
   exact ⟨by first | rfl | (rw [hd]; simp; done) | simp [hd], by (repeat with_reducible first | exact Ext.refl _ | assumption | refine Ext.alloc ?_ _ | refine Ext.drew ?_ | refine Ext.drewN ?_ _ | (refine Ext.setCellP ?_ ?_; focus (first | (simp; done) | (simp; omega) | omega)))⟩
set_option maxHeartbeats 1000000 in
theorem netStep_any (lv : Value) (ls : List (List Rul)) (a : BitVec 32) (v : Int) (w : World) (hl : TablesAt w lv ls) (hok : TablesOk ls) :
 Calls Tryz.prog 121 #[.agg #[lv], U a, I v] w fun e w' => e = .returned (stepV (stepN ls a v)) /\ Ext w w' := by
 have HL := Lib.hid hl
 obtain ⟨ad, cap, rfl, a1, a2, a3⟩ := hl.form
 have A3 := Lib.hid a3
 have HX := Lib.hid ((Ext.refl w).alloc (.cells #[Value.slice ad ls.length cap] 39))
 have HB := Lib.hid (Blk.newAt (w := w) (T := 39) [Value.slice ad ls.length cap] rfl)
 clear a3 hl
 unfold maxLen at a2
 by_cases h : 0 <= v /\ v < ls.length
 · obtain ⟨k, rfl⟩ : ∃ k : Nat, v = k := ⟨v.toNat, by omega⟩
   have hlt : k < ls.length := by omega
   have hd : (decide (0 <= (k : Int)) && decide ((k : Int) < ls.length)) = true := by simp; omega
   obtain ⟨b0, o0, u, rfl, p0, hr⟩ := A3.out k ls[k] (List.getElem?_eq_getElem hlt)
   have HP := Lib.hid p0
   have HR := Lib.hid hr
   have HOK := Lib.hid (hok.at hlt)
   have HV := Lib.hid (stepN_in (a := a) hlt)
   clear p0 hr h
   go_enter Tryz.func121, Tryz.ntmps121
   go_wp2_with (first
    | (go_at_call 65; (with_reducible refine (netIs_any _ ls _ _ (HL.out.later HX.out)).mono ?_); rintro e w1 ⟨he, hx1⟩; rw [hd] at he; subst he; have HX1 := Lib.hid (HX.out.trans hx1); have hbc := (HB.out.later hx1).cells; have hpc := HX1.out.cell HP.out; clear hx1)
    | (go_at_call 164; (with_reducible refine (tableNext_any _ ls[k] a _ (HR.out.later HX1.out) HOK.out).mono ?_); rintro e w2 ⟨rfl, hx2⟩; have HX2 := Lib.hid hx2; clear hx2))
   go_ret2
   exact ⟨by rw [HV.out]; rfl, HX1.out.trans HX2.out⟩
 · have hd : (decide (0 <= v) && decide (v < ls.length)) = false := by
    rw [Bool.and_eq_false_iff]
    rcases Int.lt_or_le v 0 with g | g
    · exact .inl (decide_eq_false (by omega))
    · exact .inr (decide_eq_false (by omega))
   have HV := Lib.hid (stepN_out (ls := ls) (a := a) (v := v) (by omega))
   clear h
   go_enter Tryz.func121, Tryz.ntmps121
   go_wp2_with (first
    | (go_at_call 65; (with_reducible refine (netIs_any _ ls _ _ (HL.out.later HX.out)).mono ?_); rintro e w1 ⟨he, hx1⟩; rw [hd] at he; subst he; have HX1 := Lib.hid (HX.out.trans hx1); clear hx1))
   go_ret2
   exact ⟨by rw [HV.out]; rfl, HX1.out⟩
end Go.Proofs.YtdpmnldmbnpfpaaGreatDoor

/- Vectors by the reference. Conditions: whole numbers are within 64 bits; a million nodes at most. -/
namespace Go.Proofs.YtdpmnldmbnpfpaaGreatDoor
open Go.RowKit

theorem vec_step {ls : List (List Rul)} {a : BitVec 32} {k : Nat} (h : k < ls.length) : (vecV ls a).take (k + 1) = (vecV ls a).take k ++ [(stepO ls[k] a).getD (-1)] := by
 rw [List.take_succ_eq_append_getElem (by rw [vecV_len]; exact h)]
 congr 2
 have := vecV_get (a := a) h
 rw [List.getElem?_eq_getElem (by rw [vecV_len]; exact h)] at this
 simpa using this
end Go.Proofs.YtdpmnldmbnpfpaaGreatDoor

/- Networks that are made such as may be. Conditions: whole numbers are within 64 bits. -/
namespace Go.Proofs.YtdpmnldmbnpfpaaGreatDoor
open Go.RowKit

theorem own_apart {w w' : World} {B B' : Nat} {e e' : TypeId} {s s' : Nat} {u v : Value} {n m : Nat} {xs ys : List Value} (h : w.ownsRow B e s u n xs) (hv : w.ownsRow B' e' s' v m ys) (hne : e ≠ e') (hg : w.grownBy w' v.ownBlock) : w'.ownsRow B e s u n xs := by
 obtain ⟨h0, h1⟩ := h
 refine ⟨h0, ?_⟩
 rcases h1 with h1 | ⟨g, cap, cur, h1, h2, h3, h4⟩
 · exact .inl h1
 · refine .inr ⟨g, cap, cur, h1, h2, ?_, h4⟩
   rw [hg.block g (by
    rcases Nat.lt_or_ge g w.heap.size with h' | h'
    · exact h'
    · simp [Array.getElem?_eq_none h'] at h3) (fun hb => ?_), h3]
   obtain ⟨_, hv⟩ := hv
   rcases hv with ⟨rfl, _⟩ | ⟨g', cap', cur', rfl, _, h5, _⟩
   · cases hb
   · simp [Value.ownBlock] at hb
     subst hb
     rw [h3] at h5
     cases h5
     exact hne rfl
/-- A row of tables, all of the call's own. -/
def FitT (w : World) (B : Nat) (v : Value) (ls : List (List Rul)) : Prop :=
 ∃ vs : List Value, w.ownsRow B 63 1 v ls.length vs /\ ∀ (i : Nat) (l : List Rul), ls[i]? = some l -> ∃ u, vs[i]? = some u /\ w.ownsRow B 62 4 u l.length (rcells l)
theorem FitT.nil (w : World) (B : Nat) : FitT w B (.slice none 0 0) [] := ⟨[], ⟨by simp, .inl ⟨rfl, rfl⟩⟩, fun i l h => by cases h⟩
theorem FitT.later {w w' : World} {B : Nat} {v : Value} {ls : List (List Rul)} (h : FitT w B v ls) (hx : Ext w w') : FitT w' B v ls :=
 let ⟨vs, h1, h2⟩ := h
 ⟨vs, own_later h1 hx, fun i l hi => let ⟨u, g1, g2⟩ := h2 i l hi; ⟨u, g1, own_later g2 hx⟩⟩
theorem FitT.tables {w : World} {B : Nat} {v : Value} {ls : List (List Rul)} (h : FitT w B v ls) : TablesAt w v ls :=
 let ⟨vs, h1, h2⟩ := h
 ⟨vs, Reads.of_own h1, fun i l hi => let ⟨u, g1, g2⟩ := h2 i l hi; ⟨u, g1, Reads.of_own g2⟩⟩
theorem FitT.low {w : World} {B B' : Nat} {v : Value} {ls : List (List Rul)} (h : FitT w B v ls) (hB : B' <= B) : FitT w B' v ls :=
 let ⟨vs, h1, h2⟩ := h
 ⟨vs, own_low h1 hB, fun i l hi => let ⟨u, g1, g2⟩ := h2 i l hi; ⟨u, g1, own_low g2 hB⟩⟩
theorem FitT.setCell {w : World} {B : Nat} {v : Value} {ls : List (List Rul)} (h : FitT w B v ls) {p : Addr} (hp : p.block < B) (x : Value) : FitT (w.setCell p x) B v ls :=
 let ⟨vs, h1, h2⟩ := h
 ⟨vs, own_set h1 hp x, fun i l hi => let ⟨u, g1, g2⟩ := h2 i l hi; ⟨u, g1, own_set g2 hp x⟩⟩
theorem FitT.app {w w' : World} {B : Nat} {v v' u : Value} {ls : List (List Rul)} {l : List Rul} {vs : List Value} (hown : w.ownsRow B 63 1 v ls.length vs)
 (hvs : ∀ (i : Nat) (l : List Rul), ls[i]? = some l -> ∃ u, vs[i]? = some u /\ w.ownsRow B 62 4 u l.length (rcells l))
 (ho : w'.ownsRow B 63 1 v' (ls.length + 1) (vs ++ [u])) (hg : w.grownBy w' v.ownBlock) (hu : w.ownsRow B 62 4 u l.length (rcells l)) : FitT w' B v' (ls ++ [l]) := by
 have hlen : vs.length = ls.length := by have := hown.1; simpa using this
 refine ⟨vs ++ [u], by rw [List.length_append]; exact ho, fun i m hi => ?_⟩
 rcases snoc_get hi with hi | ⟨rfl, rfl⟩
 · obtain ⟨q, q1, q2⟩ := hvs i m hi
   have hil := (List.getElem?_eq_some_iff.1 hi).1
   exact ⟨q, by rw [List.getElem?_append_left (by omega)]; exact q1, own_apart q2 hown (by decide) hg⟩
 · exact ⟨u, by rw [List.getElem?_append_right (by omega), hlen]; simp, own_apart hu hown (by decide) hg⟩
end Go.Proofs.YtdpmnldmbnpfpaaGreatDoor

/- A cell of a row of the call's own, put anew. Conditions: none. -/
namespace Go.Proofs.YtdpmnldmbnpfpaaGreatDoor
open Go.RowKit

end Go.Proofs.YtdpmnldmbnpfpaaGreatDoor
