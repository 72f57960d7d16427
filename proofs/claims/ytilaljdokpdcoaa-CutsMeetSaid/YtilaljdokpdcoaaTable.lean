/- The scan of a table: what it finds. Conditions: whole numbers are within 64 bits. -/
import Derived.Test.YtilaljdokpdcoaaRuls
namespace Go.Proofs.Ytilaljdokpdcoaa
open Go.RowKit

def zeroR : Rul := ⟨0#32, 0, 0, 0⟩
def better (a : BitVec 32) (best : Option Rul) (r : Rul) : Bool := holdsV r.pa r.pl a && best.all fun b => decide (b.pl < r.pl)
def findStep (a : BitVec 32) (best : Option Rul) (r : Rul) : Option Rul := if better a best r then some r else best
def findL (l : List Rul) (a : BitVec 32) : Option Rul := l.foldl (findStep a) none
def resR (o : Option Rul) : Rul := o.getD zeroR
abbrev foundV (o : Option Rul) : Value := .tuple #[(resR o).val, .bool o.isSome]
theorem findL_step (l : List Rul) (a : BitVec 32) (k : Nat) (h : k < l.length) : findL (l.take (k + 1)) a = findStep a (findL (l.take k) a) l[k] := by
  unfold findL
  rw [List.take_succ_eq_append_getElem h, List.foldl_append]; rfl

set_option maxHeartbeats 200000 in
theorem tableFind_any (lv : Value) (l : List Rul) (a : BitVec 32) (w : World) (hl : RulesAt w lv l) (hok : RulesOk l) :
    Calls Try.prog 38 #[lv, U a] w fun e w' => e = .returned (foundV (findL l a)) ∧ Ext w w' := by
  obtain ⟨ad, cap, rfl, a1, a2, a3⟩ := hl.form
  have A3 := Lib.hid a3
  clear a3
  unfold maxLen at a2
  go_enter Try.func38, Try.ntmps38
  go_wp2
  go_step3
  go_wp2
  go_step3
  go_wp2
  go_loopw [7, 12] (fun f i wr => ∃ (k : Nat) (best : Option Rul), k ≤ l.length ∧ i = I k ∧ f = .bool best.isSome ∧ Hid (best = findL (l.take k) a) ∧ Hid (∀ r, best = some r → r.Ok) ∧
      Blk wr w.heap.size zeroR.cells 42 ∧ Blk wr (w.heap.size + 1) (resR best).cells 42 ∧ Ext w wr) (fun _ i _ => l.length - (intOf i).toNat)
  case atStart => exact ⟨0, none, by omega, rfl, rfl, rfl, (fun r h => by cases h), (Blk.newAt zeroR.cells rfl).old _, Blk.newAt zeroR.cells (by simp), by (repeat (first | with_reducible exact Ext.refl _ | with_reducible assumption | with_reducible refine Ext.alloc ?_ _ | with_reducible refine Ext.drew ?_ | with_reducible refine Ext.drewN ?_ _ | (with_reducible refine Ext.setCellP ?_ ?_; focus (first | (simp; done) | (simp; omega) | omega))))⟩
  case round =>
    obtain ⟨k, best, hk, rfl, rfl, hbest, hbok, hz, hb, hx⟩ := hrel
    have hzc := hz.cells
    have hbf := hb.frozen
    have hsz := hb.lt
    by_cases hlt : k < l.length
    · obtain ⟨b0, o0, rfl, p0, p1, p2, p3⟩ := A3.out k l[k] (List.getElem?_eq_getElem hlt)
      replace p0 := hx.cell p0
      replace p1 := hx.cell p1
      replace p2 := hx.cell p2
      replace p3 := hx.cell p3
      have hok1 := Lib.hid (hok l[k] (List.getElem_mem hlt))
      have hst := Lib.hid (findL_step l a k hlt)
      rw [show findL (l.take k) a = best from hbest.out.symm] at hst
      clear hbest
      by_cases hh : holdsV l[k].pa l[k].pl a = true
      · cases best with
        | none =>
          replace hb : Blk wr (w.heap.size + 1) zeroR.cells 42 := hb
          have hbc := hb.cells
          have hn := Lib.hid (show findStep a none l[k] = some l[k] by unfold findStep; rw [if_pos]; unfold better; rw [hh]; rfl)
          go_wp2_with (first | (go_at_call 36; refine (holds_any _ _ _ _ hok1.out.pl).mono ?_; rintro e w' ⟨rfl, rfl⟩))
          go_roundw
          case rel =>
            refine ⟨k + 1, some l[k], by omega, by go_num, rfl, (hst.out.trans hn.out).symm, (fun r h => by cases h; exact hok1.out), ?_, ?_, by (repeat (first | with_reducible exact Ext.refl _ | with_reducible assumption | with_reducible refine Ext.alloc ?_ _ | with_reducible refine Ext.drew ?_ | with_reducible refine Ext.drewN ?_ _ | (with_reducible refine Ext.setCellP ?_ ?_; focus (first | (simp; done) | (simp; omega) | omega))))⟩
            · (repeat (first | with_reducible assumption | with_reducible refine Blk.old ?_ _ | with_reducible refine Blk.drew ?_ | (with_reducible refine Blk.otherP ?_ ?_; focus (first | (simp; done) | (simp; omega))) | with_reducible exact Row4.of (by with_reducible assumption) | refine Blk.set4 ?_ | with_reducible refine Row4.old ?_ _))
            · (repeat (first | with_reducible assumption | with_reducible refine Blk.old ?_ _ | with_reducible refine Blk.drew ?_ | (with_reducible refine Blk.otherP ?_ ?_; focus (first | (simp; done) | (simp; omega))) | with_reducible exact Row4.of (by with_reducible assumption) | refine Blk.set4 ?_ | with_reducible refine Row4.old ?_ _))
          case measure => simp [intOf]; omega
        | some bb =>
          replace hb : Blk wr (w.heap.size + 1) bb.cells 42 := hb
          have hbc := hb.cells
          by_cases hc : l[k].pl ≤ bb.pl
          · have hn := Lib.hid (show findStep a (some bb) l[k] = some bb by unfold findStep; rw [if_neg]; unfold better; rw [hh]; simp; omega)
            have hcd : decide (l[k].pl ≤ bb.pl) = true := by simpa using hc
            go_wp2_with (first | (go_at_call 36; refine (holds_any _ _ _ _ hok1.out.pl).mono ?_; rintro e w' ⟨rfl, rfl⟩))
            go_roundw
            case rel =>
              refine ⟨k + 1, some bb, by omega, by go_num, rfl, (hst.out.trans hn.out).symm, hbok, ?_, ?_, by (repeat (first | with_reducible exact Ext.refl _ | with_reducible assumption | with_reducible refine Ext.alloc ?_ _ | with_reducible refine Ext.drew ?_ | with_reducible refine Ext.drewN ?_ _ | (with_reducible refine Ext.setCellP ?_ ?_; focus (first | (simp; done) | (simp; omega) | omega))))⟩
              · (repeat (first | with_reducible assumption | with_reducible refine Blk.old ?_ _ | with_reducible refine Blk.drew ?_ | (with_reducible refine Blk.otherP ?_ ?_; focus (first | (simp; done) | (simp; omega))) | with_reducible exact Row4.of (by with_reducible assumption) | refine Blk.set4 ?_ | with_reducible refine Row4.old ?_ _))
              · exact hb.old _
            case measure => simp [intOf]; omega
          · have hn := Lib.hid (show findStep a (some bb) l[k] = some l[k] by unfold findStep; rw [if_pos]; unfold better; rw [hh]; simp; omega)
            have hcd : decide (l[k].pl ≤ bb.pl) = false := by simpa using hc
            go_wp2_with (first | (go_at_call 36; refine (holds_any _ _ _ _ hok1.out.pl).mono ?_; rintro e w' ⟨rfl, rfl⟩))
            go_roundw
            case rel =>
              refine ⟨k + 1, some l[k], by omega, by go_num, rfl, (hst.out.trans hn.out).symm, (fun r h => by cases h; exact hok1.out), ?_, ?_, by (repeat (first | with_reducible exact Ext.refl _ | with_reducible assumption | with_reducible refine Ext.alloc ?_ _ | with_reducible refine Ext.drew ?_ | with_reducible refine Ext.drewN ?_ _ | (with_reducible refine Ext.setCellP ?_ ?_; focus (first | (simp; done) | (simp; omega) | omega))))⟩
              · (repeat (first | with_reducible assumption | with_reducible refine Blk.old ?_ _ | with_reducible refine Blk.drew ?_ | (with_reducible refine Blk.otherP ?_ ?_; focus (first | (simp; done) | (simp; omega))) | with_reducible exact Row4.of (by with_reducible assumption) | refine Blk.set4 ?_ | with_reducible refine Row4.old ?_ _))
              · (repeat (first | with_reducible assumption | with_reducible refine Blk.old ?_ _ | with_reducible refine Blk.drew ?_ | (with_reducible refine Blk.otherP ?_ ?_; focus (first | (simp; done) | (simp; omega))) | with_reducible exact Row4.of (by with_reducible assumption) | refine Blk.set4 ?_ | with_reducible refine Row4.old ?_ _))
            case measure => simp [intOf]; omega
      · have hn := Lib.hid (show findStep a best l[k] = best by unfold findStep; rw [if_neg]; unfold better; simp only [hh]; simp)
        have hhd : holdsV l[k].pa l[k].pl a = false := by simpa using hh
        clear hh
        go_wp2_with (first | (go_at_call 36; refine (holds_any _ _ _ _ hok1.out.pl).mono ?_; rintro e w' ⟨rfl, rfl⟩))
        go_roundw
        case rel =>
          refine ⟨k + 1, best, by omega, by go_num, rfl, (hst.out.trans hn.out).symm, hbok, ?_, ?_, by (repeat (first | with_reducible exact Ext.refl _ | with_reducible assumption | with_reducible refine Ext.alloc ?_ _ | with_reducible refine Ext.drew ?_ | with_reducible refine Ext.drewN ?_ _ | (with_reducible refine Ext.setCellP ?_ ?_; focus (first | (simp; done) | (simp; omega) | omega))))⟩
          · (repeat (first | with_reducible assumption | with_reducible refine Blk.old ?_ _ | with_reducible refine Blk.drew ?_ | (with_reducible refine Blk.otherP ?_ ?_; focus (first | (simp; done) | (simp; omega))) | with_reducible exact Row4.of (by with_reducible assumption) | refine Blk.set4 ?_ | with_reducible refine Row4.old ?_ _))
          · (repeat (first | with_reducible assumption | with_reducible refine Blk.old ?_ _ | with_reducible refine Blk.drew ?_ | (with_reducible refine Blk.otherP ?_ ?_; focus (first | (simp; done) | (simp; omega))) | with_reducible exact Row4.of (by with_reducible assumption) | refine Blk.set4 ?_ | with_reducible refine Row4.old ?_ _))
        case measure => simp [intOf]; omega
    · have hn := Lib.hid (show best = findL l a by rw [hbest.out, List.take_of_length_le (by omega)])
      have hbc := hb.cells
      have hzf := hz.frozen
      go_wp2
      rw [Exit.noGoto_ret]
      refine bodyPost_ret (v := foundV best) ?_ rfl ⟨by rw [hn.out], by (repeat (first | with_reducible exact Ext.refl _ | with_reducible assumption | with_reducible refine Ext.alloc ?_ _ | with_reducible refine Ext.drew ?_ | with_reducible refine Ext.drewN ?_ _ | (with_reducible refine Ext.setCellP ?_ ?_; focus (first | (simp; done) | (simp; omega) | omega))))⟩
      simp [results, Try.results38, go_sem, hzc]
end Go.Proofs.Ytilaljdokpdcoaa
