/- Which rules, tables and networks may be: the program's and the reference's answers. Conditions: whole numbers are within 64 bits. -/
import Derived.Test.YtilaljdokpdcoaaRef06a
import Derived.Test.YtilaljdokpdcoaaRuls
namespace Go.Proofs.Ytilaljdokpdcoaa
open Go.RowKit

def ruleMayV (r : Rul) (nodes : Int) : Int :=
  if mayV r.pa r.pl ≠ 0 then mayV r.pa r.pl else if r.act = 1 then (if r.nx < 0 ∨ nodes ≤ r.nx then 10 else 0) else if r.act = 2 ∨ r.act = 3 then (if r.nx = 0 then 0 else 10) else 9
/-- The ways through both functions. -/
inductive RuleWay (r : Rul) (nodes : Int) : Prop where
  | host (h : (mayV r.pa r.pl != 0) = true) (v : Hid (ruleMayV r nodes = mayV r.pa r.pl))
  | neg (h : mayV r.pa r.pl = 0) (a : r.act = 1) (n : r.nx < 0) (v : Hid (ruleMayV r nodes = 10))
  | big (h : mayV r.pa r.pl = 0) (a : r.act = 1) (n0 : 0 ≤ r.nx) (n : nodes ≤ r.nx) (v : Hid (ruleMayV r nodes = 10))
  | next (h : mayV r.pa r.pl = 0) (a : r.act = 1) (n0 : 0 ≤ r.nx) (n : r.nx < nodes) (v : Hid (ruleMayV r nodes = 0))
  | two (h : mayV r.pa r.pl = 0) (a : r.act = 2) (n : r.nx = 0) (v : Hid (ruleMayV r nodes = 0))
  | twoN (h : mayV r.pa r.pl = 0) (a : r.act = 2) (n : (r.nx != 0) = true) (v : Hid (ruleMayV r nodes = 10))
  | three (h : mayV r.pa r.pl = 0) (a : r.act = 3) (n : r.nx = 0) (v : Hid (ruleMayV r nodes = 0))
  | threeN (h : mayV r.pa r.pl = 0) (a : r.act = 3) (n : (r.nx != 0) = true) (v : Hid (ruleMayV r nodes = 10))
  | act (h : mayV r.pa r.pl = 0) (a1 : (r.act == 1) = false) (a2 : (r.act == 2) = false) (a3 : (r.act == 3) = false) (b1 : (r.act != 1) = true) (b2 : (r.act != 2) = true) (b3 : (r.act != 3) = true) (v : Hid (ruleMayV r nodes = 9))
theorem rule_way (r : Rul) (nodes : Int) : RuleWay r nodes := by
  by_cases h : mayV r.pa r.pl = 0
  · have e : ruleMayV r nodes = if r.act = 1 then (if r.nx < 0 ∨ nodes ≤ r.nx then 10 else 0) else if r.act = 2 ∨ r.act = 3 then (if r.nx = 0 then 0 else 10) else 9 := by
      unfold ruleMayV; rw [if_neg (by simpa using h)]
    by_cases a : r.act = 1
    · rw [if_pos a] at e
      by_cases n : r.nx < 0
      · exact .neg h a n (by show _ = _; rw [e, if_pos (.inl n)])
      · by_cases m : nodes ≤ r.nx
        · exact .big h a (by omega) m (by show _ = _; rw [e, if_pos (.inr m)])
        · exact .next h a (by omega) (by omega) (by show _ = _; rw [e, if_neg (by omega)])
    · rw [if_neg a] at e
      by_cases a2 : r.act = 2
      · rw [if_pos (.inl a2)] at e
        by_cases n : r.nx = 0
        · exact .two h a2 n (by show _ = _; rw [e, if_pos n])
        · exact .twoN h a2 (by simpa using n) (by show _ = _; rw [e, if_neg n])
      · by_cases a3 : r.act = 3
        · rw [if_pos (.inr a3)] at e
          by_cases n : r.nx = 0
          · exact .three h a3 n (by show _ = _; rw [e, if_pos n])
          · exact .threeN h a3 (by simpa using n) (by show _ = _; rw [e, if_neg n])
        · rw [if_neg (by omega)] at e
          exact .act h (by simpa using a) (by simpa using a2) (by simpa using a3) (by simpa using a) (by simpa using a2) (by simpa using a3) e
  · exact .host (by simpa using h) (by show _ = _; unfold ruleMayV; rw [if_pos h])
set_option maxHeartbeats 1000000 in
theorem ruleMay_any (r : Rul) (nodes : Int) (w : World) (h : r.Ok) :
    Calls Try.prog 75 #[r.val, I nodes] w fun e w' => e = .returned (I (ruleMayV r nodes)) ∧ Ext w w' := by
  have hl := h.pl
  have W := rule_way r nodes
  cases W
  all_goals
    rename_i v
    go_enter Try.func75, Try.ntmps75
    go_wp2_with (first | (go_at_call 62; with_reducible refine (may_any _ _ _ hl).mono ?_; rintro e w' ⟨rfl, rfl⟩))
    go_ret
    exact ⟨ret_int v.out.symm, by (repeat (first | with_reducible exact Ext.refl _ | with_reducible assumption | with_reducible refine Ext.alloc ?_ _ | with_reducible refine Ext.drew ?_ | with_reducible refine Ext.drewN ?_ _ | (with_reducible refine Ext.setCellP ?_ ?_; focus (first | (simp; done) | (simp; omega) | omega))))⟩
set_option maxHeartbeats 1000000 in
theorem r07May_any (r : Rul) (nodes : Int) (w : World) (h : r.Ok) :
    Calls Try.prog 66 #[r.val, I nodes] w fun e w' => e = .returned (I (ruleMayV r nodes)) ∧ Ext w w' := by
  have hl := h.pl
  have W := rule_way r nodes
  cases W
  all_goals
    rename_i v
    go_enter Try.func66, Try.ntmps66
    go_wp2_with (first | (go_at_call 80; with_reducible refine (r06May_any _ _ _ hl).mono ?_; rintro e w' ⟨rfl, rfl⟩))
    go_ret
    exact ⟨ret_int v.out.symm, by (repeat (first | with_reducible exact Ext.refl _ | with_reducible assumption | with_reducible refine Ext.alloc ?_ _ | with_reducible refine Ext.drew ?_ | with_reducible refine Ext.drewN ?_ _ | (with_reducible refine Ext.setCellP ?_ ?_; focus (first | (simp; done) | (simp; omega) | omega))))⟩
end Go.Proofs.Ytilaljdokpdcoaa
