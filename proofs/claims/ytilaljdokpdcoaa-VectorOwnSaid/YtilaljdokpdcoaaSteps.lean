/- Steps of a network, and vectors by the reference. Conditions: whole numbers are within 64 bits. -/
import Derived.Test.YtilaljdokpdcoaaStep
namespace Go.Proofs.Ytilaljdokpdcoaa
open Go.RowKit

/-- Where a network's node sends an address. -/
def stepN (ls : List (List Rul)) (a : BitVec 32) (v : Int) : Option Int := if v < 0 then none else (ls[v.toNat]?).bind fun l => stepO l a
theorem stepN_out {ls : List (List Rul)} {a : BitVec 32} {v : Int} (h : v < 0 ∨ (ls.length : Int) ≤ v) : stepN ls a v = none := by
  unfold stepN
  by_cases g : v < 0
  · rw [if_pos g]
  · rw [if_neg g, List.getElem?_eq_none (by omega)]; rfl
theorem stepN_in {ls : List (List Rul)} {a : BitVec 32} {k : Nat} (h : k < ls.length) : stepN ls a k = stepO ls[k] a := by
  unfold stepN
  rw [if_neg (by omega), Int.toNat_natCast, List.getElem?_eq_getElem h]; rfl
theorem netIs_any (lv : Value) (ls : List (List Rul)) (v : Int) (w : World) (hl : TablesAt w lv ls) :
    Calls Try.prog 58 #[.agg #[lv], I v] w fun e w' => e = .returned (.bool (decide (0 ≤ v) && decide (v < ls.length))) ∧ Ext w w' := by
  obtain ⟨ad, cap, rfl, a1, a2, a3⟩ := hl.form
  clear a3
  unfold maxLen at a2
  by_cases h : 0 ≤ v
  · have hd : decide (0 ≤ v) = true := decide_eq_true h
    go_enter Try.func58, Try.ntmps58
    go_wp2_with fail
    go_ret
    exact ⟨by first | rfl | (rw [hd]; simp; done) | simp [hd], by (repeat (first | with_reducible exact Ext.refl _ | with_reducible assumption | with_reducible refine Ext.alloc ?_ _ | with_reducible refine Ext.drew ?_ | with_reducible refine Ext.drewN ?_ _ | (with_reducible refine Ext.setCellP ?_ ?_; focus (first | (simp; done) | (simp; omega) | omega))))⟩
  · have hd : decide (0 ≤ v) = false := decide_eq_false h
    go_enter Try.func58, Try.ntmps58
    go_wp2_with fail
    go_ret
    exact ⟨by first | rfl | (rw [hd]; simp; done) | simp [hd], by (repeat (first | with_reducible exact Ext.refl _ | with_reducible assumption | with_reducible refine Ext.alloc ?_ _ | with_reducible refine Ext.drew ?_ | with_reducible refine Ext.drewN ?_ _ | (with_reducible refine Ext.setCellP ?_ ?_; focus (first | (simp; done) | (simp; omega) | omega))))⟩
set_option maxHeartbeats 1000000 in
theorem netStep_any (lv : Value) (ls : List (List Rul)) (a : BitVec 32) (v : Int) (w : World) (hl : TablesAt w lv ls) (hok : TablesOk ls) :
    Calls Try.prog 43 #[.agg #[lv], U a, I v] w fun e w' => e = .returned (stepV (stepN ls a v)) ∧ Ext w w' := by
  have HL := Lib.hid hl
  obtain ⟨ad, cap, rfl, a1, a2, a3⟩ := hl.form
  have A3 := Lib.hid a3
  have HX := Lib.hid ((Ext.refl w).alloc (.cells #[Value.slice ad ls.length cap] 24))
  have HB := Lib.hid (Blk.newAt (w := w) (T := 24) [Value.slice ad ls.length cap] rfl)
  clear a3 hl
  unfold maxLen at a2
  by_cases h : 0 ≤ v ∧ v < ls.length
  · obtain ⟨k, rfl⟩ : ∃ k : Nat, v = k := ⟨v.toNat, by omega⟩
    have hlt : k < ls.length := by omega
    have hd : (decide (0 ≤ (k : Int)) && decide ((k : Int) < ls.length)) = true := by simp; omega
    obtain ⟨b0, o0, u, rfl, p0, hr⟩ := A3.out k ls[k] (List.getElem?_eq_getElem hlt)
    have HP := Lib.hid p0
    have HR := Lib.hid hr
    have HOK := Lib.hid (hok.at hlt)
    have HV := Lib.hid (stepN_in (a := a) hlt)
    clear p0 hr h
    go_enter Try.func43, Try.ntmps43
    go_wp2_with (first
      | (go_at_call 58; (with_reducible refine (netIs_any _ ls _ _ (HL.out.later HX.out)).mono ?_); rintro e w1 ⟨he, hx1⟩; rw [hd] at he; subst he; have HX1 := Lib.hid (HX.out.trans hx1); have hbc := (HB.out.later hx1).cells; have hpc := HX1.out.cell HP.out; clear hx1)
      | (go_at_call 59; (with_reducible refine (tableNext_any _ ls[k] a _ (HR.out.later HX1.out) HOK.out).mono ?_); rintro e w2 ⟨rfl, hx2⟩; have HX2 := Lib.hid hx2; clear hx2))
    go_ret2
    exact ⟨by rw [HV.out]; rfl, HX1.out.trans HX2.out⟩
  · have hd : (decide (0 ≤ v) && decide (v < ls.length)) = false := by
      rw [Bool.and_eq_false_iff]
      rcases Int.lt_or_le v 0 with g | g
      · exact .inl (decide_eq_false (by omega))
      · exact .inr (decide_eq_false (by omega))
    have HV := Lib.hid (stepN_out (ls := ls) (a := a) (v := v) (by omega))
    clear h
    go_enter Try.func43, Try.ntmps43
    go_wp2_with (first
      | (go_at_call 58; (with_reducible refine (netIs_any _ ls _ _ (HL.out.later HX.out)).mono ?_); rintro e w1 ⟨he, hx1⟩; rw [hd] at he; subst he; have HX1 := Lib.hid (HX.out.trans hx1); clear hx1))
    go_ret2
    exact ⟨by rw [HV.out]; rfl, HX1.out⟩
set_option maxHeartbeats 1000000 in
theorem r09Step_any (lv : Value) (ls : List (List Rul)) (a : BitVec 32) (v : Int) (w : World) (hl : TablesAt w lv ls) (hok : TablesOk ls) :
    Calls Try.prog 51 #[.agg #[lv], U a, I v] w fun e w' => e = .returned (stepV (stepN ls a v)) ∧ Ext w w' := by
  have HL := Lib.hid hl
  obtain ⟨ad, cap, rfl, a1, a2, a3⟩ := hl.form
  have A3 := Lib.hid a3
  have HX := Lib.hid ((Ext.refl w).alloc (.cells #[Value.slice ad ls.length cap] 24))
  clear a3 hl
  unfold maxLen at a2
  by_cases h0 : v < 0
  · have hd : decide (v < 0) = true := decide_eq_true h0
    have HV := Lib.hid (stepN_out (ls := ls) (a := a) (v := v) (.inl h0))
    clear h0
    go_enter Try.func51, Try.ntmps51
    go_wp2_with fail
    go_ret2
    exact ⟨by rw [HV.out]; rfl, HX.out⟩
  · have hd0 : decide (v < 0) = false := decide_eq_false h0
    by_cases h1 : (ls.length : Int) ≤ v
    · have hd1 : decide ((ls.length : Int) ≤ v) = true := decide_eq_true h1
      have HV := Lib.hid (stepN_out (ls := ls) (a := a) (v := v) (.inr h1))
      clear h0 h1
      go_enter Try.func51, Try.ntmps51
      go_wp2_with fail
      go_ret2
      exact ⟨by rw [HV.out]; rfl, HX.out⟩
    · obtain ⟨k, rfl⟩ : ∃ k : Nat, v = k := ⟨v.toNat, by omega⟩
      have hlt : k < ls.length := by omega
      have hd1 : decide (ls.length ≤ k) = false := decide_eq_false (by omega)
      obtain ⟨b0, o0, u, rfl, p0, hr⟩ := A3.out k ls[k] (List.getElem?_eq_getElem hlt)
      have HR := Lib.hid hr
      have HOK := Lib.hid (hok.at hlt)
      have HV := Lib.hid (stepN_in (a := a) hlt)
      have hpc := HX.out.cell p0
      clear hr h0 h1 hd0
      go_enter Try.func51, Try.ntmps51
      go_wp2_with (first
        | (go_at_call 68; (with_reducible refine (r08Next_any _ ls[k] a _ (HR.out.later HX.out) HOK.out).mono ?_); rintro e w2 ⟨rfl, hx2⟩; have HX2 := Lib.hid hx2; clear hx2))
      go_ret2
      exact ⟨by rw [HV.out]; rfl, HX.out.trans HX2.out⟩
set_option maxHeartbeats 1000000 in
theorem r09Row_any (va vb : Value) (la lb : List Int) (w : World) (ha : IntsAt w va la) (hb : IntsAt w vb lb) :
    Calls Try.prog 19 #[va, vb] w fun e w' => e = .returned (.bool (decide (la = lb))) ∧ Ext w w' := by
  obtain ⟨a, cap, rfl, a1, a2, a3⟩ := ha.form
  obtain ⟨b, cap', rfl, b1, b2, b3⟩ := hb.form
  have A3 := Lib.hid a3
  have B3 := Lib.hid b3
  clear a3 b3
  unfold maxLen at a2 b2
  by_cases hl : la.length = lb.length
  · have hle : ((la.length : Int) != lb.length) = false := by simp [hl]
    have HL := Lib.hid hl
    clear hl
    go_enter Try.func19, Try.ntmps19
    go_wp2
    go_loopw [5] (fun i wr => ∃ k : Nat, k ≤ la.length ∧ i = I k ∧ la.take k = lb.take k ∧ Ext w wr) (fun i _ => la.length - (intOf i).toNat)
    case atStart => exact ⟨0, by omega, rfl, rfl, Ext.refl w⟩
    case round =>
      obtain ⟨k, hk, rfl, ht, hx⟩ := hrel
      have HT := Lib.hid ht
      clear ht
      by_cases hlt : k < la.length
      · obtain ⟨b0, o0, rfl, p0⟩ := A3.out k la[k] (List.getElem?_eq_getElem hlt)
        have hlt' : k < lb.length := by rw [← HL.out]; exact hlt
        obtain ⟨b1, o1, rfl, q0⟩ := B3.out k lb[k] (List.getElem?_eq_getElem hlt')
        replace p0 := hx.cell p0
        replace q0 := hx.cell q0
        by_cases he : la[k] = lb[k]
        · have hd : (la[k] != lb[k]) = false := by simpa using he
          have HT' := Lib.hid (take_same HT.out hlt hlt' he)
          clear he
          go_wp2_with fail
          go_quiet (fail)
          go_wp2
          go_roundw
          case rel => exact ⟨k + 1, by omega, by go_num, HT'.out, hx.drewN _⟩
          case measure => simp [intOf]; omega
        · have hd : (la[k] != lb[k]) = true := by simpa using he
          have H := Lib.hid (show decide (la = lb) = false by rw [decide_eq_false_iff_not]; intro e; subst e; exact he rfl)
          clear he
          go_wp2_with fail
          go_quiet (fail)
          go_wp2
          go_ret
          exact ⟨ret_bool H.out.symm, hx.drewN _⟩
      · have H := Lib.hid (show decide (la = lb) = true by
          have h1 := HT.out
          have h2 := HL.out
          rw [List.take_of_length_le (by omega), List.take_of_length_le (by omega)] at h1
          simpa using h1)
        go_wp2
        go_ret
        exact ⟨ret_bool H.out.symm, hx⟩
  · have hle : ((la.length : Int) != lb.length) = true := by simp; omega
    have H := Lib.hid (show decide (la = lb) = false by rw [decide_eq_false_iff_not]; intro e; subst e; exact hl rfl)
    clear hl
    go_enter Try.func19, Try.ntmps19
    go_wp2
    go_ret
    exact ⟨ret_bool H.out.symm, Ext.refl w⟩
end Go.Proofs.Ytilaljdokpdcoaa
