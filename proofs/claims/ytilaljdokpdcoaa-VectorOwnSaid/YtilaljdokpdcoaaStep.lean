/- Where a node sends an address, and all of them: the program's and the reference's answers. Conditions: whole numbers are within 64 bits. -/
import Derived.Test.YtilaljdokpdcoaaFind08
import Derived.Test.YtilaljdokpdcoaaNetMay
namespace Go.Proofs.Ytilaljdokpdcoaa
open Go.RowKit

/-- What is said of a step. -/
abbrev stepV (o : Option Int) : Value := .tuple #[I (o.getD 0), .bool o.isSome]
/-- The ways of a rule that was found. -/
inductive NextWay (l : List Rul) (a : BitVec 32) : Prop where
  | none (h : findL l a = none) (v : Hid (stepO l a = none))
  | other (r : Rul) (h : findL l a = some r) (n : ((resR (some r)).act != 1) = true) (v : Hid (stepO l a = none))
  | next (r : Rul) (h : findL l a = some r) (n : ((resR (some r)).act != 1) = false) (v : Hid (stepO l a = some r.nx))
theorem next_way (l : List Rul) (a : BitVec 32) : NextWay l a := by
  cases h : findL l a with
  | none => exact .none h (by show _ = _; unfold stepO; rw [h])
  | some r =>
    by_cases g : r.act = 1
    · exact .next r h (by simpa [resR] using g) (by show _ = _; unfold stepO; rw [h]; simp [g])
    · exact .other r h (by simpa [resR] using g) (by show _ = _; unfold stepO; rw [h]; simp [g])
set_option maxHeartbeats 1000000 in
theorem tableNext_any (lv : Value) (l : List Rul) (a : BitVec 32) (w : World) (hl : RulesAt w lv l) (hok : RulesOk l) :
    Calls Try.prog 59 #[lv, U a] w fun e w' => e = .returned (stepV (stepO l a)) ∧ Ext w w' := by
  have HL := Lib.hid hl
  have HOK := Lib.hid hok
  clear hl hok
  have W := next_way l a
  rcases W with ⟨h, v⟩ | ⟨r, h, n, v⟩ | ⟨r, h, n, v⟩
  all_goals
    have H := Lib.hid h
    clear h
    go_enter Try.func59, Try.ntmps59
    go_wp2_with (first | (go_at_call 38; (with_reducible refine (tableFind_any _ l a _ HL.out HOK.out).mono ?_); rintro e w1 ⟨he, hx1⟩; rw [H.out] at he; subst he; have HX := Lib.hid hx1; clear hx1))
    go_ret2
    exact ⟨by rw [v.out]; rfl, by have := HX.out; (repeat (first | with_reducible exact Ext.refl _ | with_reducible assumption | with_reducible refine Ext.alloc ?_ _ | with_reducible refine Ext.drew ?_ | with_reducible refine Ext.drewN ?_ _ | (with_reducible refine Ext.setCellP ?_ ?_; focus (first | (simp; done) | (simp; omega) | omega))))⟩
set_option maxHeartbeats 1000000 in
theorem r08Next_any (lv : Value) (l : List Rul) (a : BitVec 32) (w : World) (hl : RulesAt w lv l) (hok : RulesOk l) :
    Calls Try.prog 68 #[lv, U a] w fun e w' => e = .returned (stepV (stepO l a)) ∧ Ext w w' := by
  have HL := Lib.hid hl
  have HOK := Lib.hid hok
  clear hl hok
  have W := next_way l a
  rcases W with ⟨h, v⟩ | ⟨r, h, n, v⟩ | ⟨r, h, n, v⟩
  all_goals
    have H := Lib.hid h
    clear h
    go_enter Try.func68, Try.ntmps68
    go_wp2_with (first | (go_at_call 82; (with_reducible refine (r08Find_any _ l a _ HL.out HOK.out).mono ?_); rintro e w1 ⟨he, hx1⟩; rw [H.out] at he; subst he; have HX := Lib.hid hx1; clear hx1))
    go_ret2
    exact ⟨by rw [v.out]; rfl, by have := HX.out; (repeat (first | with_reducible exact Ext.refl _ | with_reducible assumption | with_reducible refine Ext.alloc ?_ _ | with_reducible refine Ext.drew ?_ | with_reducible refine Ext.drewN ?_ _ | (with_reducible refine Ext.setCellP ?_ ?_; focus (first | (simp; done) | (simp; omega) | omega))))⟩
end Go.Proofs.Ytilaljdokpdcoaa
