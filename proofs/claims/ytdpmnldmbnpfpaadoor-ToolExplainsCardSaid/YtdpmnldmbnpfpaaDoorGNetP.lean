/- NetP, Ref08, NetMay, Find08, Step, Steps, NetFit, OwnPut: these texts in one. Conditions: each part names its own. -/
import Derived.Test.YtdpmnldmbnpfpaaDoorGNet
import Derived.Test.YtdpmnldmbnpfpaaDoorGTrieL
import Derived.Test.YtdpmnldmbnpfpaaDoorGRule
import Derived.Test.YtdpmnldmbnpfpaaDoorGPref
import Derived.Test.YtdpmnldmbnpfpaaDoorGBase
/- Plain facts on networks: which may be, where an address is sent, and networks that are made such as may be. Conditions: none. -/
namespace Go.Proofs.YtdpmnldmbnpfpaaDoor
open Go.RowKit

def netG (nodes : Int) : List (List Rul) → Int
  | [] => 0
  | l :: r => if tabMayV nodes l ≠ 0 then tabMayV nodes l else netG nodes r
def netMayV (ls : List (List Rul)) : Int := if 256 < ls.length ∨ 4096 < sizeN ls then 12 else netG ls.length ls
theorem netG_step (nodes : Int) {ls : List (List Rul)} {k : Nat} (h : k < ls.length) : netG nodes (ls.drop k) = if tabMayV nodes ls[k] ≠ 0 then tabMayV nodes ls[k] else netG nodes (ls.drop (k + 1)) := by
  rw [List.drop_eq_getElem_cons h]; rfl
theorem netG_end (nodes : Int) {ls : List (List Rul)} {k : Nat} (h : ls.length ≤ k) : netG nodes (ls.drop k) = 0 := by rw [List.drop_of_length_le h]; rfl
theorem netG_all {nodes : Int} : ∀ {ls : List (List Rul)}, netG nodes ls = 0 → ∀ l ∈ ls, tabMayV nodes l = 0
  | [], _, _, h => by cases h
  | x :: r, h, l, hl => by
    unfold netG at h
    by_cases hx : tabMayV nodes x = 0
    · rw [if_neg (by simpa using hx)] at h
      rcases List.mem_cons.1 hl with rfl | hl
      · exact hx
      · exact netG_all h l hl
    · rw [if_pos hx] at h; exact absurd h hx
theorem netG_zero {nodes : Int} : ∀ {ls : List (List Rul)}, (∀ l ∈ ls, tabMayV nodes l = 0) → netG nodes ls = 0
  | [], _ => rfl
  | x :: r, h => by
    unfold netG
    rw [if_neg (by simpa using h x (by simp))]
    exact netG_zero fun l hl => h l (by simp [hl])
theorem netMay_tabs {ls : List (List Rul)} (h : netMayV ls = 0) : ls.length ≤ 256 ∧ sizeN ls ≤ 4096 ∧ ∀ l ∈ ls, tabMayV ls.length l = 0 := by
  unfold netMayV at h
  split at h
  · cases h
  · exact ⟨by omega, by omega, netG_all h⟩
theorem cmp_one {a b : Rul} : cmpR a b = 1 ↔ ltP b a := by
  rw [ltP_iff]
  unfold cmpR
  rw [cmpV_eq]
  constructor
  · intro h
    split at h
    · omega
    · split at h
      · omega
      · rename_i h1 h2
        rcases Int.lt_trichotomy (uv b.pa) (uv a.pa) with g | g | g
        · exact .inl g
        · refine .inr ⟨uv_inj g, ?_⟩
          have e := uv_inj g
          rcases Int.lt_trichotomy b.pl a.pl with q | q | q
          · exact q
          · exact absurd ⟨e.symm, q.symm⟩ h2
          · exact absurd (.inr ⟨e.symm, q⟩) h1
        · exact absurd (.inl g) h1
  · intro h
    rw [if_neg, if_neg]
    · rintro ⟨e1, e2⟩
      rcases h with h | ⟨_, h⟩
      · rw [e1] at h; omega
      · omega
    · rintro (g | ⟨e1, g⟩)
      · rcases h with h | ⟨h, _⟩
        · omega
        · rw [h] at g; omega
      · rcases h with h | ⟨_, h⟩
        · rw [e1] at h; omega
        · omega
theorem tabG_spec (nodes : Int) : ∀ (l : List Rul) (p : Option Rul), tabG nodes p l = 0 → (∀ r ∈ l, ruleMayV r nodes = 0) ∧ Sorted l ∧ ∀ q, p = some q → ∀ r ∈ l, ltP q r
  | [], p, _ => ⟨fun r h => (by cases h), List.Pairwise.nil, fun q _ r h => (by cases h)⟩
  | x :: l, p, h => by
    unfold tabG at h
    by_cases hx : ruleMayV x nodes = 0
    · rw [if_neg (by simpa using hx)] at h
      by_cases hb : badOrd p x = true
      · rw [if_pos hb] at h; cases h
      · rw [if_neg hb] at h
        obtain ⟨h1, h2, h3⟩ := tabG_spec nodes l (some x) h
        have h4 := h3 x rfl
        refine ⟨fun r hr => ?_, List.Pairwise.cons h4 h2, fun q hq r hr => ?_⟩
        · rcases List.mem_cons.1 hr with rfl | hr
          · exact hx
          · exact h1 r hr
        · subst hq
          have hqx : ltP q x := by
            unfold badOrd at hb
            exact cmp_one.1 (by simpa [cmpR] using hb)
          rcases List.mem_cons.1 hr with rfl | hr
          · exact hqx
          · exact ltP_trans hqx (h4 r hr)
    · rw [if_pos hx] at h; exact absurd h hx
theorem tabG_zero (nodes : Int) : ∀ (l : List Rul) (p : Option Rul), (∀ r ∈ l, ruleMayV r nodes = 0) → Sorted l → (∀ q, p = some q → ∀ r ∈ l, ltP q r) → tabG nodes p l = 0
  | [], p, _, _, _ => by cases p <;> rfl
  | x :: l, p, h1, h2, h3 => by
    unfold tabG
    rw [if_neg (by simpa using h1 x (by simp)), if_neg]
    · have h2' := List.pairwise_cons.1 h2
      exact tabG_zero nodes l (some x) (fun r hr => h1 r (by simp [hr])) h2'.2 fun q hq r hr => by cases hq; exact h2'.1 r hr
    · intro hb
      cases p with
      | none => cases hb
      | some q =>
        have := cmp_one.2 (h3 q rfl x (by simp))
        have hb' : (cmpV x.pa x.pl q.pa q.pl != 1) = true := hb
        simp only [cmpR] at this
        rw [this] at hb'
        simp at hb'
theorem ruleMay_valid {r : Rul} {nodes : Int} (h : ruleMayV r nodes = 0) : Valid r.pa r.pl := by
  refine mayV_valid ?_
  by_cases g : mayV r.pa r.pl = 0
  · exact g
  · unfold ruleMayV at h
    rw [if_pos g] at h
    exact absurd h g
theorem tab_of_may {nodes : Int} {l : List Rul} (h : tabMayV nodes l = 0) : Tab l :=
  let ⟨h1, h2, _⟩ := tabG_spec nodes l none h
  ⟨fun r hr => ruleMay_valid (h1 r hr), h2.imp ltP_ne⟩
theorem netMay_tab {ls : List (List Rul)} (h : netMayV ls = 0) : ∀ l ∈ ls, Tab l := fun l hl => tab_of_may ((netMay_tabs h).2.2 l hl)

/-- Where a table sends an address. -/
def stepO (l : List Rul) (a : BitVec 32) : Option Int :=
  match findL l a with
  | some r => if r.act = 1 then some r.nx else none
  | none => none
/-- Where all nodes send an address. -/
def vecV (ls : List (List Rul)) (a : BitVec 32) : List Int := ls.map fun l => (stepO l a).getD (-1)
theorem vecV_len (ls : List (List Rul)) (a : BitVec 32) : (vecV ls a).length = ls.length := List.length_map _
theorem vecV_get {ls : List (List Rul)} {a : BitVec 32} {k : Nat} (h : k < ls.length) : (vecV ls a)[k]? = some ((stepO ls[k] a).getD (-1)) := by
  unfold vecV; rw [List.getElem?_map, List.getElem?_eq_getElem h]; rfl

/-- A network that may be. -/
def manyN (ls : List (List Rul)) : Nat := max 1 (min ls.length 8)
def fitN (ls : List (List Rul)) : List (List Rul) := (List.range (manyN ls)).map fun i => fitL (ls.getD i []) (manyN ls)
theorem manyN_bd (ls : List (List Rul)) : 1 ≤ manyN ls ∧ manyN ls ≤ 8 := by unfold manyN; omega
theorem fitN_len (ls : List (List Rul)) : (fitN ls).length = manyN ls := by unfold fitN; rw [List.length_map, List.length_range]
theorem fitN_mem {ls : List (List Rul)} {l : List Rul} (h : l ∈ fitN ls) : ∃ m, l = fitL m (manyN ls) := by
  unfold fitN at h
  obtain ⟨i, _, rfl⟩ := List.mem_map.1 h
  exact ⟨_, rfl⟩
theorem ruleMay_fit (r : Rul) {nodes : Int} (h1 : 1 ≤ nodes) : ruleMayV (fitV r nodes) nodes = 0 := by
  have hv : mayV (fitV r nodes).pa (fitV r nodes).pl = 0 := valid_mayV (fitV_valid r nodes)
  unfold ruleMayV
  rw [if_neg (by simpa using hv)]
  have e1 : (fitV r nodes).act = if r.act % 3 = 0 then 3 else r.act % 3 := rfl
  have e2 : (fitV r nodes).nx = if r.act % 3 = 1 then r.nx % nodes else 0 := rfl
  have b0 := Int.emod_nonneg r.nx (show nodes ≠ 0 by omega)
  have b1 := Int.emod_lt_of_pos r.nx (show 0 < nodes by omega)
  rcases mod3 r.act with g | g | g <;> simp only [g] at e1 e2 <;> rw [e1, e2] <;> simp <;> omega
theorem fit_may (l : List Rul) {nodes : Int} (h1 : 1 ≤ nodes) : tabMayV nodes (fitL l nodes) = 0 :=
  tabG_zero nodes _ none (fun r hr => by obtain ⟨q, rfl⟩ := fitL_mem hr; exact ruleMay_fit q h1) (fitL_sorted l nodes) fun q hq => by cases hq
theorem sum_le {l : List Nat} {c : Nat} (h : ∀ x ∈ l, x ≤ c) : l.sum ≤ l.length * c := by
  induction l with
  | nil => simp
  | cons x l ih =>
    have h1 := ih fun y hy => h y (by simp [hy])
    have h2 := h x (by simp)
    rw [List.sum_cons, List.length_cons, Nat.succ_mul]; omega
theorem sizeN_le {ls : List (List Rul)} {c : Nat} (h : ∀ l ∈ ls, l.length ≤ c) : sizeN ls ≤ ls.length * c := by
  unfold sizeN
  have := @sum_le (ls.map List.length) c fun x hx => by obtain ⟨l, hl, rfl⟩ := List.mem_map.1 hx; exact h l hl
  rwa [List.length_map] at this
theorem fitN_short {ls : List (List Rul)} : ∀ l ∈ fitN ls, l.length ≤ 20 := fun l hl => by obtain ⟨m, rfl⟩ := fitN_mem hl; exact fitL_len m _
theorem fitN_size (ls : List (List Rul)) : sizeN (fitN ls) ≤ 160 := by
  have h := sizeN_le (@fitN_short ls)
  rw [fitN_len] at h
  have := manyN_bd ls
  have : manyN ls * 20 ≤ 8 * 20 := Nat.mul_le_mul_right _ (by omega)
  omega
theorem fitN_may (ls : List (List Rul)) : netMayV (fitN ls) = 0 := by
  have h1 := fitN_size ls
  have h2 := manyN_bd ls
  have h3 := fitN_len ls
  unfold netMayV
  rw [if_neg (by omega), h3]
  exact netG_zero fun l hl => by obtain ⟨m, rfl⟩ := fitN_mem hl; exact fit_may m (by omega)
theorem fitN_ok (ls : List (List Rul)) : TablesOk (fitN ls) := fun l hl => by
  obtain ⟨m, rfl⟩ := fitN_mem hl
  have := manyN_bd ls
  exact fitL_ok (by omega) (by omega)
/-- A network of 8 nodes at most, of 20 rules at most each. -/
def fewN (ls : List (List Rul)) : List (List Rul) := (ls.take 8).map (·.take 20)
theorem fewN_len (ls : List (List Rul)) : (fewN ls).length ≤ 8 := by unfold fewN; rw [List.length_map, List.length_take]; omega
theorem fewN_short {ls : List (List Rul)} : ∀ l ∈ fewN ls, l.length ≤ 20 := fun l hl => by
  obtain ⟨m, _, rfl⟩ := List.mem_map.1 hl
  rw [List.length_take]; omega
theorem fewN_size (ls : List (List Rul)) : sizeN (fewN ls) ≤ 160 := by
  have h := sizeN_le (@fewN_short ls)
  have := fewN_len ls
  have : (fewN ls).length * 20 ≤ 8 * 20 := Nat.mul_le_mul_right _ (by omega)
  omega
theorem fewN_ok {ls : List (List Rul)} (h : TablesOk ls) : TablesOk (fewN ls) := fun l hl r hr => by
  obtain ⟨m, hm, rfl⟩ := List.mem_map.1 hl
  exact h m (List.mem_of_mem_take hm) r (List.mem_of_mem_take hr)
end Go.Proofs.YtdpmnldmbnpfpaaDoor

/- The reference's answers for a table: which may be, what is found. Conditions: whole numbers are within 64 bits. -/
namespace Go.Proofs.YtdpmnldmbnpfpaaDoor
open Go.RowKit

end Go.Proofs.YtdpmnldmbnpfpaaDoor

/- Which networks may be: the program's and the reference's answers. Conditions: whole numbers are within 64 bits; a million rules at most where they are counted. -/
namespace Go.Proofs.YtdpmnldmbnpfpaaDoor
open Go.RowKit

set_option maxHeartbeats 1000000 in
theorem netSize_any (lv : Value) (ls : List (List Rul)) (w : World) (hl : TablesAt w lv ls) (hs : sizeN ls ≤ 100000000) :
    Calls Tryd.prog 21 #[.agg #[lv]] w fun e w' => e = .returned (I (sizeN ls)) ∧ Ext w w' := by
  obtain ⟨ad, cap, rfl, a1, a2, a3⟩ := hl.form
  have A3 := Lib.hid a3
  clear a3
  unfold maxLen at a2
  go_enter Tryd.func21, Tryd.ntmps21
  go_wp2_with fail
  go_loopw [3, 9] (fun s i wr => ∃ k : Nat, k ≤ ls.length ∧ i = I k ∧ s = I (sizeN (ls.take k)) ∧ Ext w wr) (fun _ i _ => ls.length - (intOf i).toNat)
  case atStart => exact ⟨0, by omega, rfl, rfl, by (repeat with_reducible first | exact Ext.refl _ | assumption | refine Ext.alloc ?_ _ | refine Ext.drew ?_ | refine Ext.drewN ?_ _ | (refine Ext.setCellP ?_ ?_; focus (first | (simp; done) | (simp; omega) | omega)))⟩
  case round =>
    obtain ⟨k, hk, rfl, rfl, hx⟩ := hrel
    by_cases hlt : k < ls.length
    · obtain ⟨b0, o0, u, rfl, p0, hr⟩ := A3.out k ls[k] (List.getElem?_eq_getElem hlt)
      replace p0 := hx.cell p0
      obtain ⟨ra, rcap, rfl, r1, r2, r3⟩ := hr.form
      clear r3
      unfold maxLen at r2
      have HS := Lib.hid (sizeN_step hlt)
      have hle := sizeN_take ls (k + 1)
      rw [HS.out] at hle
      go_wp2_with fail
      go_roundw
      case rel => exact ⟨k + 1, by omega, by go_num, by rw [HS.out]; go_num, hx⟩
      case measure => simp [intOf]; omega
    · have HE := Lib.hid (sizeN_all (ls := ls) (k := k) (by omega))
      go_wp2_with fail
      go_ret
      exact ⟨ret_int (by rw [HE.out]), hx⟩
set_option maxHeartbeats 2000000 in
theorem netMay_any (lv : Value) (ls : List (List Rul)) (w : World) (hl : TablesAt w lv ls) (hok : TablesOk ls) (hs : sizeN ls ≤ 100000000) :
    Calls Tryd.prog 12 #[.agg #[lv]] w fun e w' => e = .returned (I (netMayV ls)) ∧ Ext w w' := by
  have HL := Lib.hid hl
  obtain ⟨ad, cap, rfl, a1, a2, a3⟩ := hl.form
  have A3 := Lib.hid a3
  clear a3 hl
  unfold maxLen at a2
  by_cases hbig : 256 < ls.length
  · have HV := Lib.hid (show netMayV ls = 12 by unfold netMayV; rw [if_pos (.inl hbig)])
    have hbd : decide ((ls.length : Int) > 256) = true := decide_eq_true (by omega)
    go_enter Tryd.func12, Tryd.ntmps12
    go_wp2_with fail
    go_ret
    exact ⟨ret_int HV.out.symm, by (repeat with_reducible first | exact Ext.refl _ | assumption | refine Ext.alloc ?_ _ | refine Ext.drew ?_ | refine Ext.drewN ?_ _ | (refine Ext.setCellP ?_ ?_; focus (first | (simp; done) | (simp; omega) | omega)))⟩
  · have hbd : decide ((ls.length : Int) > 256) = false := by simp; omega
    have HX := Lib.hid ((Ext.refl w).alloc (.cells #[Value.slice ad ls.length cap] 24))
    have HB := Lib.hid (Blk.newAt (w := w) (T := 24) [Value.slice ad ls.length cap] rfl)
    by_cases hsz : 4096 < sizeN ls
    · have HV := Lib.hid (show netMayV ls = 12 by unfold netMayV; rw [if_pos (.inr hsz)])
      have hsd : decide ((sizeN ls : Int) > 4096) = true := decide_eq_true (by omega)
      go_enter Tryd.func12, Tryd.ntmps12
      go_wp2_with (first
        | (go_at_call 21; (with_reducible refine (netSize_any _ ls _ (HL.out.later HX.out) hs).mono ?_); rintro e w2 ⟨rfl, hx2⟩; have HX2 := Lib.hid hx2; clear hx2))
      go_ret
      exact ⟨ret_int HV.out.symm, HX.out.trans HX2.out⟩
    · have HV := Lib.hid (show netMayV ls = netG ls.length ls by unfold netMayV; rw [if_neg (by omega)])
      have hsd : decide ((sizeN ls : Int) > 4096) = false := by simp; omega
      go_enter Tryd.func12, Tryd.ntmps12
      go_upto_region 3 with (first
        | (go_at_call 21; (with_reducible refine (netSize_any _ ls _ (HL.out.later HX.out) hs).mono ?_); rintro e w2 ⟨rfl, hx2⟩; have HX2 := Lib.hid (HX.out.trans hx2); have HB2 := Lib.hid (HB.out.later hx2); clear hx2; have hb2c := HB2.out.cells))
      go_wp2_with fail
      go_loopw [18] (fun i wr => ∃ k : Nat, k ≤ ls.length ∧ i = I k ∧ Hid (netG ls.length (ls.drop k) = netMayV ls) ∧ Ext w2 wr) (fun i _ => ls.length - (intOf i).toNat)
      case atStart => exact ⟨0, by omega, rfl, HV.out.symm, Ext.refl _⟩
      case round =>
        obtain ⟨k, hk, rfl, HN, hx⟩ := hrel
        have hbc := (HB2.out.later hx).cells
        have HXW := Lib.hid (HX2.out.trans hx)
        by_cases hlt : k < ls.length
        · obtain ⟨b0, o0, u, rfl, p0, hr⟩ := A3.out k ls[k] (List.getElem?_eq_getElem hlt)
          replace p0 := HXW.out.cell p0
          have HR := Lib.hid (hr.later HXW.out)
          have HOK := Lib.hid (hok.at hlt)
          have HS := Lib.hid (netG_step ls.length hlt)
          rw [HN.out] at HS
          clear hr
          by_cases hm : tabMayV ls.length ls[k] = 0
          · have hmd : (tabMayV ls.length ls[k] != 0) = false := by simpa using hm
            have HS2 := Lib.hid (HS.out.trans (if_neg (by simpa using hm)))
            clear hm HS HN
            go_wp2_with (first
              | (go_at_call 22; (with_reducible refine (tableMay_any _ ls[k] _ _ HR.out HOK.out).mono ?_); rintro e w3 ⟨rfl, hx3⟩; have HX3 := Lib.hid hx3; clear hx3))
            go_roundw
            case rel => exact ⟨k + 1, by omega, by go_num, HS2.out.symm, hx.trans HX3.out⟩
            case measure => simp [intOf]; omega
          · have hmd : (tabMayV ls.length ls[k] != 0) = true := by simpa using hm
            have HS2 := Lib.hid (HS.out.trans (if_pos hm))
            clear hm HS HN
            go_wp2_with (first
              | (go_at_call 22; (with_reducible refine (tableMay_any _ ls[k] _ _ HR.out HOK.out).mono ?_); rintro e w3 ⟨rfl, hx3⟩; have HX3 := Lib.hid hx3; clear hx3))
            go_ret
            exact ⟨ret_int HS2.out.symm, HXW.out.trans HX3.out⟩
        · have HE := Lib.hid (HN.out.symm.trans (netG_end ls.length (ls := ls) (k := k) (by omega)))
          go_wp2_with fail
          go_ret
          exact ⟨ret_int HE.out.symm, HXW.out⟩
end Go.Proofs.YtdpmnldmbnpfpaaDoor

/- The reference's find in a table, and where a node sends an address: the program's and the reference's answers. Conditions: whole numbers are within 64 bits. -/
namespace Go.Proofs.YtdpmnldmbnpfpaaDoor
open Go.RowKit

/-- The place of what was found so far, -1 if nothing was. -/
def BestAt (l : List Rul) (o : Option Rul) (b : Int) : Prop := (o = none ∧ b = -1) ∨ ∃ (j : Nat) (h : j < l.length), o = some l[j] ∧ b = j
end Go.Proofs.YtdpmnldmbnpfpaaDoor

/- Where a node sends an address, and all of them: the program's and the reference's answers. Conditions: whole numbers are within 64 bits. -/
namespace Go.Proofs.YtdpmnldmbnpfpaaDoor
open Go.RowKit

/-- What is said of a step. -/
abbrev stepV (o : Option Int) : Value := .tuple #[I (o.getD 0), .bool o.isSome]
/-- The ways of a rule that was found. -/
inductive NextWay (l : List Rul) (a : BitVec 32) : Prop where
  | none (h : findL l a = none) (v : Hid (stepO l a = none))
  | other (r : Rul) (h : findL l a = some r) (n : ((resR (some r)).act != 1) = true) (v : Hid (stepO l a = none))
  | next (r : Rul) (h : findL l a = some r) (n : ((resR (some r)).act != 1) = false) (v : Hid (stepO l a = some r.nx))
theorem next_way (l : List Rul) (a : BitVec 32) : NextWay l a := by
  cases h : findL l a with
  | none => exact .none h (by show _ = _; unfold stepO; rw [h])
  | some r =>
    by_cases g : r.act = 1
    · exact .next r h (by simpa [resR] using g) (by show _ = _; unfold stepO; rw [h]; simp [g])
    · exact .other r h (by simpa [resR] using g) (by show _ = _; unfold stepO; rw [h]; simp [g])
set_option maxHeartbeats 1000000 in
theorem tableNext_any (lv : Value) (l : List Rul) (a : BitVec 32) (w : World) (hl : RulesAt w lv l) (hok : RulesOk l) :
    Calls Tryd.prog 9 #[lv, U a] w fun e w' => e = .returned (stepV (stepO l a)) ∧ Ext w w' := by
  have HL := Lib.hid hl
  have HOK := Lib.hid hok
  clear hl hok
  have W := next_way l a
  rcases W with ⟨h, v⟩ | ⟨r, h, n, v⟩ | ⟨r, h, n, v⟩
  all_goals
    have H := Lib.hid h
    clear h
    go_enter Tryd.func9, Tryd.ntmps9
    go_wp2_with (first | (go_at_call 8; (with_reducible refine (tableFind_any _ l a _ HL.out HOK.out).mono ?_); rintro e w1 ⟨he, hx1⟩; rw [H.out] at he; subst he; have HX := Lib.hid hx1; clear hx1))
    go_ret2
    exact ⟨by rw [v.out]; rfl, by have := HX.out; (repeat with_reducible first | exact Ext.refl _ | assumption | refine Ext.alloc ?_ _ | refine Ext.drew ?_ | refine Ext.drewN ?_ _ | (refine Ext.setCellP ?_ ?_; focus (first | (simp; done) | (simp; omega) | omega)))⟩
end Go.Proofs.YtdpmnldmbnpfpaaDoor

/- Steps of a network, and vectors by the reference. Conditions: whole numbers are within 64 bits. -/
namespace Go.Proofs.YtdpmnldmbnpfpaaDoor
open Go.RowKit

/-- Where a network's node sends an address. -/
def stepN (ls : List (List Rul)) (a : BitVec 32) (v : Int) : Option Int := if v < 0 then none else (ls[v.toNat]?).bind fun l => stepO l a
theorem stepN_out {ls : List (List Rul)} {a : BitVec 32} {v : Int} (h : v < 0 ∨ (ls.length : Int) ≤ v) : stepN ls a v = none := by
  unfold stepN
  by_cases g : v < 0
  · rw [if_pos g]
  · rw [if_neg g, List.getElem?_eq_none (by omega)]; rfl
theorem stepN_in {ls : List (List Rul)} {a : BitVec 32} {k : Nat} (h : k < ls.length) : stepN ls a k = stepO ls[k] a := by
  unfold stepN
  rw [if_neg (by omega), Int.toNat_natCast, List.getElem?_eq_getElem h]; rfl
end Go.Proofs.YtdpmnldmbnpfpaaDoor

/- Networks that are made such as may be. Conditions: whole numbers are within 64 bits. -/
namespace Go.Proofs.YtdpmnldmbnpfpaaDoor
open Go.RowKit

theorem fitN_step (ls : List (List Rul)) {k : Nat} (h : k < manyN ls) : (fitN ls).take (k + 1) = (fitN ls).take k ++ [fitL (ls.getD k []) (manyN ls)] := by
  have hl : k < (fitN ls).length := by rw [fitN_len]; exact h
  rw [List.take_succ_eq_append_getElem hl]
  congr 2
  unfold fitN
  simp
theorem many_eq (n : Nat) : max 1 (min (n : Int) 8) = ((max 1 (min n 8) : Nat) : Int) := by omega
theorem own_apart {w w' : World} {B B' : Nat} {e e' : TypeId} {s s' : Nat} {u v : Value} {n m : Nat} {xs ys : List Value} (h : w.ownsRow B e s u n xs) (hv : w.ownsRow B' e' s' v m ys) (hne : e ≠ e') (hg : w.grownBy w' v.ownBlock) : w'.ownsRow B e s u n xs := by
  obtain ⟨h0, h1⟩ := h
  refine ⟨h0, ?_⟩
  rcases h1 with h1 | ⟨g, cap, cur, h1, h2, h3, h4⟩
  · exact .inl h1
  · refine .inr ⟨g, cap, cur, h1, h2, ?_, h4⟩
    rw [hg.block g (by
      rcases Nat.lt_or_ge g w.heap.size with h' | h'
      · exact h'
      · simp [Array.getElem?_eq_none h'] at h3) (fun hb => ?_), h3]
    obtain ⟨_, hv⟩ := hv
    rcases hv with ⟨rfl, _⟩ | ⟨g', cap', cur', rfl, _, h5, _⟩
    · cases hb
    · simp [Value.ownBlock] at hb
      subst hb
      rw [h3] at h5
      cases h5
      exact hne rfl
/-- A row of tables, all of the call's own. -/
def FitT (w : World) (B : Nat) (v : Value) (ls : List (List Rul)) : Prop :=
  ∃ vs : List Value, w.ownsRow B 39 1 v ls.length vs ∧ ∀ (i : Nat) (l : List Rul), ls[i]? = some l → ∃ u, vs[i]? = some u ∧ w.ownsRow B 36 4 u l.length (rcells l)
theorem FitT.nil (w : World) (B : Nat) : FitT w B (.slice none 0 0) [] := ⟨[], ⟨by simp, .inl ⟨rfl, rfl⟩⟩, fun i l h => by cases h⟩
theorem FitT.later {w w' : World} {B : Nat} {v : Value} {ls : List (List Rul)} (h : FitT w B v ls) (hx : Ext w w') : FitT w' B v ls :=
  let ⟨vs, h1, h2⟩ := h
  ⟨vs, own_later h1 hx, fun i l hi => let ⟨u, g1, g2⟩ := h2 i l hi; ⟨u, g1, own_later g2 hx⟩⟩
theorem FitT.tables {w : World} {B : Nat} {v : Value} {ls : List (List Rul)} (h : FitT w B v ls) : TablesAt w v ls :=
  let ⟨vs, h1, h2⟩ := h
  ⟨vs, Reads.of_own h1, fun i l hi => let ⟨u, g1, g2⟩ := h2 i l hi; ⟨u, g1, Reads.of_own g2⟩⟩
theorem FitT.low {w : World} {B B' : Nat} {v : Value} {ls : List (List Rul)} (h : FitT w B v ls) (hB : B' ≤ B) : FitT w B' v ls :=
  let ⟨vs, h1, h2⟩ := h
  ⟨vs, own_low h1 hB, fun i l hi => let ⟨u, g1, g2⟩ := h2 i l hi; ⟨u, g1, own_low g2 hB⟩⟩
theorem FitT.setCell {w : World} {B : Nat} {v : Value} {ls : List (List Rul)} (h : FitT w B v ls) {p : Addr} (hp : p.block < B) (x : Value) : FitT (w.setCell p x) B v ls :=
  let ⟨vs, h1, h2⟩ := h
  ⟨vs, own_set h1 hp x, fun i l hi => let ⟨u, g1, g2⟩ := h2 i l hi; ⟨u, g1, own_set g2 hp x⟩⟩
theorem FitT.app {w w' : World} {B : Nat} {v v' u : Value} {ls : List (List Rul)} {l : List Rul} {vs : List Value} (hown : w.ownsRow B 39 1 v ls.length vs)
    (hvs : ∀ (i : Nat) (l : List Rul), ls[i]? = some l → ∃ u, vs[i]? = some u ∧ w.ownsRow B 36 4 u l.length (rcells l))
    (ho : w'.ownsRow B 39 1 v' (ls.length + 1) (vs ++ [u])) (hg : w.grownBy w' v.ownBlock) (hu : w.ownsRow B 36 4 u l.length (rcells l)) : FitT w' B v' (ls ++ [l]) := by
  have hlen : vs.length = ls.length := by have := hown.1; simpa using this
  refine ⟨vs ++ [u], by rw [List.length_append]; exact ho, fun i m hi => ?_⟩
  rcases snoc_get hi with hi | ⟨rfl, rfl⟩
  · obtain ⟨q, q1, q2⟩ := hvs i m hi
    have hil := (List.getElem?_eq_some_iff.1 hi).1
    exact ⟨q, by rw [List.getElem?_append_left (by omega)]; exact q1, own_apart q2 hown (by decide) hg⟩
  · exact ⟨u, by rw [List.getElem?_append_right (by omega), hlen]; simp, own_apart hu hown (by decide) hg⟩
set_option maxHeartbeats 2000000 in
set_option maxRecDepth 100000 in
theorem r09Fit_any (lv : Value) (ls : List (List Rul)) (w : World) (hl : TablesAt w lv ls) (hok : TablesOk ls) :
    Calls Tryd.prog 5 #[.agg #[lv]] w fun e w' => ∃ v, e = .returned (.agg #[v]) ∧ FitT w' w.heap.size v (fitN ls) ∧ Ext w w' := by
  have HL := Lib.hid hl
  obtain ⟨ad, cap, rfl, a1, a2, a3⟩ := hl.form
  have A3 := Lib.hid a3
  have HOK := Lib.hid hok
  have hmb := manyN_bd ls
  clear a3 hl hok
  unfold maxLen at a2
  go_enter Tryd.func5, Tryd.ntmps5
  go_upto_region 1 with (fail)
  refine hideW (Φ := fun W => Code.wp _ _ _ _ W) (fun W => Ext w W ∧ Blk W w.heap.size [.slice ad ls.length cap] 24 ∧ Blk W (w.heap.size + 1) [.slice none 0 0] 24)
    ⟨by (repeat with_reducible first | exact Ext.refl _ | assumption | refine Ext.alloc ?_ _ | refine Ext.drew ?_ | refine Ext.drewN ?_ _ | (refine Ext.setCellP ?_ ?_; focus (first | (simp; done) | (simp; omega) | omega))), (Blk.new w [.slice ad ls.length cap] 24).old _, Blk.newAt [.slice none 0 0] (by simp)⟩ (fun W1 hW1 => ?_)
  obtain ⟨hx1, hb1, hr1⟩ := hW1
  have HB := Lib.hid hb1
  have HR := Lib.hid hr1
  have HX1 := Lib.hid hx1
  have HL1 := Lib.hid (HL.out.later hx1)
  generalize hnb : w.heap.size = nb at *
  have HNB := Lib.hid (show w.heap.size ≤ nb from Nat.le_of_eq hnb)
  clear hnb
  clear hb1 hr1
  go_upto_region 2 with (fail)
  refine hideW (Φ := fun W => Code.wp _ _ _ _ W) (fun W => Ext W1 W ∧ Blk W W1.heap.size [.slice none 0 0] 24)
    ⟨by (repeat with_reducible first | exact Ext.refl _ | assumption | refine Ext.alloc ?_ _ | refine Ext.drew ?_ | refine Ext.drewN ?_ _ | (refine Ext.setCellP ?_ ?_; focus (first | (simp; done) | (simp; omega) | omega))), Blk.new W1 [.slice none 0 0] 24⟩ (fun W2 hW2 => ?_)
  obtain ⟨hx2, ho2⟩ := hW2
  have hbc := (HB.out.later hx2).cells
  have HX2 := Lib.hid hx2
  have HO2 := Lib.hid ho2
  clear hx2 ho2
  go_upto_region 3 with (fail)
  have em : max 1 (min (ls.length : Int) 8) = (manyN ls : Int) := many_eq ls.length
  rw [em]
  clear em hbc
  have HM := Lib.hid (fitN_len ls)
  have hob : nb + 1 < W1.heap.size := HR.out.lt
  go_wp2_with fail
  go_loopw [5, 6] (fun i _ wr => ∃ (k : Nat) (v : Value), k ≤ manyN ls ∧ i = I k ∧ Hid (Blk wr W1.heap.size [v] 24) ∧ Hid (FitT wr (W1.heap.size + 1) v ((fitN ls).take k)) ∧ Hid (Ext W1 wr)) (fun i _ _ => manyN ls - (intOf i).toNat)
  case atStart => exact ⟨0, .slice none 0 0, by omega, rfl, HO2.out, FitT.nil _ _, HX2.out⟩
  case round =>
    obtain ⟨k, v, hk, rfl, HOB, HOT, HX⟩ := hrel
    by_cases hlt : k < manyN ls
    · have hst := fitN_step ls hlt
      have HST := Lib.hid hst
      clear hst
      have hbc := (HB.out.later HX.out).cells
      have HA := Lib.hid ((Ext.refl wr).alloc (.cells #[] 36))
      have hbc2 := (HB.out.later (HX.out.trans HA.out)).cells
      have HLEN := Lib.hid (show ((fitN ls).take k).length = k by rw [List.length_take, HM.out]; omega)
      obtain ⟨va, vcap, hv, v1, v2, v3⟩ := HOT.out.tables.form
      rw [HLEN.out] at hv v1
      subst hv
      clear v3
      by_cases hin : k < ls.length
      case' pos =>
        have hind : decide (k < ls.length) = true := decide_eq_true hin
        obtain ⟨b0, o0, u, rfl, p0, hru⟩ := A3.out k ls[k] (List.getElem?_eq_getElem hin)
        have p1 := ((HX1.out.trans HX.out).trans HA.out).cell p0
        have HRX := Lib.hid (show RulesAt (wr.alloc (.cells #[] 36)) u (ls.getD k []) by
          rw [List.getD_eq_getElem?_getD, List.getElem?_eq_getElem hin]; exact hru.later ((HX1.out.trans HX.out).trans HA.out))
        have HOX := Lib.hid (show RulesOk (ls.getD k []) by rw [List.getD_eq_getElem?_getD, List.getElem?_eq_getElem hin]; exact HOK.out.at hin)
        clear p0 hru
        go_upto_region 9 with (fail)
        clear p1
      case' neg =>
        have hind : decide (k < ls.length) = false := decide_eq_false hin
        have HRX := Lib.hid (show RulesAt (wr.alloc (.cells #[] 36)) (.slice (some ⟨wr.heap.size, 0, none⟩) 0 0) (ls.getD k []) by
          rw [List.getD_eq_getElem?_getD, List.getElem?_eq_none (by omega)]; exact Reads.made wr 4 36 0 [] rfl (by unfold maxLen; omega))
        have HOX := Lib.hid (show RulesOk (ls.getD k []) by rw [List.getD_eq_getElem?_getD, List.getElem?_eq_none (by omega)]; exact fun r hr => (by cases hr))
        go_upto_region 9 with (fail)
      all_goals
        clear hbc hbc2 hin hind
        have HXa := Lib.hid (HX.out.trans HA.out)
        have HOBa := Lib.hid (HOB.out.later HA.out)
        have HOTa := Lib.hid (HOT.out.later HA.out)
        clear HOB HOT HX HA
        generalize ls.getD k [] = xl at *
        generalize (wr.alloc (Obj.cells #[] 36)) = w3 at *
        refine wp_region_R (RB (W1.heap.size + 1)) 6 rfl (by kernel_rfl) (by kernel_rfl) (fun w0 hx0 => ?_)
        have hwb : W1.heap.size + 1 ≤ w0.heap.size := ((HOBa.out.later hx0).lt)
        have hbk := RB.keep hwb (Nat.lt_succ_self _) ((HOBa.out.later hx0).cells 0)
        have HWB := Lib.hid hwb
        clear hwb
        refine WRi_at 0 ?_
        iterate 4
          refine WRi_q (preRB _) rfl (by decide) (by kernel_rfl) rfl ?_; apply Exists.intro; refine ⟨fun w1 hx1 => ?_, ?_⟩
          · go_simp; try go_bits
            first | with_reducible rfl | rfl
          simp only [Act.put, List.setIfInBounds_toArray, List.set_cons_zero, List.set_cons_succ, Nat.reduceAdd]
        refine WRi_out ?_
        refine WR_one 4 rfl (by decide) (by kernel_rfl) rfl (fun K hK => ?_)
        go_simp
        refine (r08FitF_any _ xl _ _ (HRX.out.later hx0) HOX.out (by omega) (by omega)).mono ?_
        rintro e w5 ⟨fv, he, hfr, hx5⟩
        have hF : RulesAt w5 fv (fitL xl (manyN ls)) := Reads.of_own hfr
        subst he
        refine hK _ _ (RB.ext hx5) ?_
        clear hK K hbk
        obtain ⟨fa, fcap, rfl, f1, f2, f3⟩ := hF.form
        clear f3
        have HF := Lib.hid hF
        have HFR := Lib.hid hfr
        clear hF hfr
        generalize fitL xl (manyN ls) = fl at *
        refine WR_one 5 rfl (by decide) (by kernel_rfl) rfl (fun K hK => ?_)
        go_simp
        refine hK _ _ (RB.ext ((Ext.refl _).alloc _)) ?_
        clear hK K
        have HX6 := Lib.hid (show Ext w3 (w5.alloc (.cells #[.slice fa fl.length fcap] 39)) from (hx0.trans hx5).alloc _)
        have HF6 := Lib.hid (own_later (own_low HFR.out HWB.out) ((Ext.refl w5).alloc (.cells #[.slice fa fl.length fcap] 39)))
        have HS := Lib.hid (show (w5.alloc (.cells #[.slice fa fl.length fcap] 39)).cell? ⟨w5.heap.size, 0, none⟩ = some (.slice fa fl.length fcap) from (Blk.new w5 [.slice fa fl.length fcap] 39).cells 0)
        have HOT6 := HOTa.out.later HX6.out
        have HOB6 := Lib.hid (HOBa.out.later HX6.out)
        unfold FitT at HOT6
        rw [HLEN.out] at HOT6
        obtain ⟨vs, hown, hvs⟩ := HOT6
        have HOWN := Lib.hid hown
        have HVS := Lib.hid hvs
        have HZ := Lib.hid (show W1.heap.size + 1 ≤ (w5.alloc (.cells #[.slice fa fl.length fcap] 39)).heap.size from HOB6.out.lt)
        clear hown hvs
        refine WR_done (by kernel_rfl) ?_
        (try simp only [List.drop_succ_cons, List.drop_zero])
        have hc5 := HOB6.out.cells
        have hf5 := HOB6.out.frozen
        go_wp2_with (first
          | (at_builtin; refine wpList_app1 rfl (.tmp 30) (.tmp 34) 22 rfl (W1.heap.size + 1) 39 _ 24 Tryd.underlying22 infoRules rfl (by decide) _ _ _ rfl HOWN.out _ rfl _ HS.out rfl (by omega) HZ.out ?_; intro v7 w7 ho7 hg7 hloc7
             have HB7 := Lib.hid (show Below (W1.heap.size + 1) (w5.alloc (.cells #[.slice fa fl.length fcap] 39)) w7 from Below.grown (Below.refl _ _) hg7 HZ.out fun q hq => (HOWN.out.lt q hq).1)
             have HOT7 := Lib.hid (show FitT w7 (W1.heap.size + 1) v7 ((fitN ls).take (k + 1)) by
               have e := HLEN.out
               rw [HST.out]
               exact FitT.app (by rw [e]; exact HOWN.out) HVS.out (by rw [e]; exact ho7) hg7 HF6.out)
             have HOB7 := Lib.hid (show Blk w7 W1.heap.size [.slice va k vcap] 24 from blk_below HOB6.out (Nat.lt_succ_self _) HB7.out)
             have HX7 := Lib.hid (show Ext W1 w7 from Ext.grown (HXa.out.trans HX6.out) hg7 HOWN.out (Nat.le_succ _))
             have HLEN7 := Lib.hid (show ((fitN ls).take (k + 1)).length = k + 1 by rw [List.length_take, HM.out]; omega)
             obtain ⟨va7, vcap7, hv7, q1, q2, q3⟩ := HOT7.out.tables.form
             rw [HLEN7.out] at hv7 q1
             subst hv7
             clear q3 ho7 hg7 hloc7
             have hc7 := HOB7.out.cells
             have hf7 := HOB7.out.frozen))
        go_roundw
        case rel =>
          exact ⟨k + 1, _, by omega, by go_num, HOB7.out.set 0 _, HOT7.out.setCell (Nat.lt_succ_self _) _, HX7.out.setCell (Nat.le_refl _) _⟩
        case measure => simp [intOf]; omega
    · have HE := Lib.hid (show (fitN ls).take k = fitN ls by rw [List.take_of_length_le (by rw [HM.out]; omega)])
      have HLEN := Lib.hid (show ((fitN ls).take k).length = k by rw [List.length_take, HM.out]; omega)
      obtain ⟨va, vcap, hv, v1, v2, v3⟩ := HOT.out.tables.form
      rw [HLEN.out] at hv v1
      subst hv
      clear v3
      have hbc := HOB.out.cells
      have hrc := (HR.out.later HX.out).cells
      have hrf := (HR.out.later HX.out).frozen
      have hrb := ((HR.out.later HX.out).set 0 (.slice va k vcap)).cells
      go_wp2_with fail
      refine bodyPost_ret (v := .agg #[.slice va k vcap]) ?_ rfl ⟨_, rfl, ?_, ?_⟩
      · simp [results, Tryd.results5, go_sem, hrb]
      · have hot := HOT.out
        rw [HE.out] at hot
        have h1 := HNB.out
        exact (hot.setCell (p := ⟨nb + 1, 0, none⟩) (by simp; omega) _).low (by have := HX1.out.size; omega)
      · exact Ext.setCell (HX1.out.trans HX.out) (by have := HNB.out; simp; omega) _
end Go.Proofs.YtdpmnldmbnpfpaaDoor

/- A cell of a row of the call's own, put anew. Conditions: none. -/
namespace Go.Proofs.YtdpmnldmbnpfpaaDoor
open Go.RowKit

theorem own_put {w : World} {B : Nat} {e : TypeId} {v : Value} {n : Nat} {xs : List Value} (h : w.ownsRow B e 1 v n xs) {i : Nat} (hi : i < n) :
    ∃ g cap, v = .slice (some ⟨g, 0, none⟩) n cap ∧ B ≤ g ∧ g < w.heap.size ∧ n ≤ cap ∧ cap ≤ maxLen ∧ (∀ j x, xs[j]? = some x → w.cell? ⟨g, j, none⟩ = some x) ∧ (∀ o, w.frozen? ⟨g, o, none⟩ = false) ∧
      ∀ u, (w.setCell ⟨g, i, none⟩ u).ownsRow B e 1 v n (xs.set i u) := by
  have hlt := h.lt
  obtain ⟨h0, h1⟩ := h
  rcases h1 with ⟨_, h1⟩ | ⟨g, cap, cur, h1, h2, h3, h4, h5, h6, h7⟩
  · omega
  · subst h1
    refine ⟨g, cap, rfl, h2, (hlt g rfl).2, h4, h5, fun j x hj => ?_, fun o => ?_, fun u => ⟨by simpa using h0, .inr ⟨g, cap, cur.set! i u, rfl, h2, ?_, h4, h5, by simpa using h6, ?_⟩⟩⟩
    · have hjn : j < n * 1 := by rw [← h0]; exact (List.getElem?_eq_some_iff.1 hj).1
      rw [← h7, List.getElem?_take_of_lt hjn] at hj
      simpa [World.cell?, h3] using hj
    · simp [World.frozen?, h3]
    · simp [World.setCell, Array.getElem?_modify, h3, Array.set!]
    · rw [← h7]
      simp [Array.set!, List.take_set]
theorem fitN_bd (ls : List (List Rul)) : 1 ≤ (fitN ls).length ∧ (fitN ls).length ≤ 8 := by rw [fitN_len]; exact manyN_bd ls
end Go.Proofs.YtdpmnldmbnpfpaaDoor
