/- Rules made into a table that may be: what it comes to. Conditions: whole numbers are within 64 bits; nodes from 1 to 100000. -/
import Derived.Test.YtilaljdokpdcoaaRuls
namespace Go.Proofs.Ytilaljdokpdcoaa
open Go.RowKit

def cmpR (a b : Rul) : Int := cmpV a.pa a.pl b.pa b.pl
def ltR (r : Rul) (x : Rul) : Bool := decide (cmpR x r < 0)
def insAt (out : List Rul) (r : Rul) : Nat := (out.takeWhile (ltR r)).length
def ins (out : List Rul) (r : Rul) : List Rul :=
  if (out[insAt out r]?).any (fun x => cmpR x r == 0) then out else out.take (insAt out r) ++ r :: out.drop (insAt out r)
def fitL (l : List Rul) (nodes : Int) : List Rul := (l.take 20).foldl (fun out r => ins out (fitV r nodes)) []
theorem insAt_le (out : List Rul) (r : Rul) : insAt out r ≤ out.length := by
  unfold insAt; exact (List.takeWhile_sublist _).length_le
theorem ins_len (out : List Rul) (r : Rul) : (ins out r).length ≤ out.length + 1 := by
  have := insAt_le out r
  unfold ins
  split
  · omega
  · simp; omega
theorem tw_lt {α : Type} (p : α → Bool) : ∀ (l : List α) (j : Nat) (_h : j < (l.takeWhile p).length) (h' : j < l.length), p l[j] = true
  | [], _, h, _ => by simp at h
  | x :: l, j, h, h' => by
    by_cases hp : p x = true
    · rw [List.takeWhile_cons_of_pos hp] at h
      cases j with
      | zero => simpa using hp
      | succ j => simp at h ⊢; exact tw_lt p l j h (by simpa using h')
    · rw [List.takeWhile_cons_of_neg hp] at h; simp at h
theorem tw_end {α : Type} (p : α → Bool) : ∀ (l : List α) (h' : (l.takeWhile p).length < l.length), p l[(l.takeWhile p).length] = false
  | [], h => by simp at h
  | x :: l, h => by
    by_cases hp : p x = true
    · simp only [List.takeWhile_cons_of_pos hp, List.length_cons, List.getElem_cons_succ] at h ⊢
      exact tw_end p l (by omega)
    · simp only [List.takeWhile_cons_of_neg hp, List.length_nil, List.getElem_cons_zero]; simpa using hp
theorem insAt_lt {out : List Rul} {r : Rul} {j : Nat} (h : j < insAt out r) (h' : j < out.length) : cmpR out[j] r < 0 := by
  have := tw_lt (ltR r) out j h h'
  simpa [ltR] using this
theorem insAt_end {out : List Rul} {r : Rul} (h : insAt out r < out.length) : ¬ cmpR out[insAt out r] r < 0 := by
  have := tw_end (ltR r) out h
  simp only [ltR, decide_eq_false_iff_not] at this
  exact this
theorem fitL_step (l : List Rul) (nodes : Int) (k : Nat) (h : k < l.length) (h2 : k < 20) : fitL (l.take (k + 1)) nodes = ins (fitL (l.take k) nodes) (fitV l[k] nodes) := by
  unfold fitL
  rw [List.take_of_length_le (i := 20) (by rw [List.length_take]; omega), List.take_of_length_le (i := 20) (by rw [List.length_take]; omega), List.take_succ_eq_append_getElem h, List.foldl_append]
  rfl
theorem sizeRule (w : World) : (sizeOf (Try.prog.elem 39)).run Try.prog w = .ok 4 w := by kernel_rfl
theorem infoRule : (Try.prog.info? 42).map (fun i => (i.zero, i.size, i.bytes)) = some (some (.agg #[.int .u32 0, .int .i64 0, .int .i64 0, .int .i64 0]), 4, 32) := by kernel_rfl
theorem fit_cons (r : Rul) (nodes : Int) : ∃ q, fitV r nodes = q ∧ q.val = (fitV r nodes).val := ⟨_, rfl, rfl⟩

set_option maxHeartbeats 2000000 in
set_option maxRecDepth 100000 in
theorem r08FitF_any (lv : Value) (l : List Rul) (nodes : Int) (w : World) (hl : RulesAt w lv l) (hok : RulesOk l) (h1 : 1 ≤ nodes) (h2 : nodes ≤ 100000) :
    Calls Try.prog 52 #[lv, I nodes] w fun e w' => ∃ v, e = .returned v ∧ w'.ownsRow w.heap.size 42 4 v (fitL l nodes).length (rcells (fitL l nodes)) ∧ Ext w w' := by
  obtain ⟨a, cap, rfl, a1, a2, a3⟩ := hl.form
  have A3 := Lib.hid a3
  clear a3
  unfold maxLen at a2
  go_enter Try.func52, Try.ntmps52
  go_wp2_with fail
  go_loopw [5, 6] (fun v i wr => ∃ (k : Nat) (out : List Rul), k ≤ l.length ∧ k ≤ 20 ∧ i = I k ∧ RulesAt wr v out ∧ Hid (out = fitL (l.take k) nodes) ∧ out.length ≤ k ∧ Ext w wr ∧ Hid (wr.ownsRow w.heap.size 42 4 v out.length (rcells out))) (fun _ i _ => 20 - (intOf i).toNat)
  case atStart => exact ⟨0, [], by omega, by omega, rfl, Reads.made _ _ _ 0 [] rfl (by unfold maxLen; omega), rfl, Nat.le_refl _, (Ext.refl w).alloc _, own_made w 4 42 0 [] rfl (by unfold maxLen; omega)⟩
  case round =>
    obtain ⟨k, out, hk, hk2, rfl, hv, hout, hol, hx, HFR⟩ := hrel
    by_cases hlt : k < l.length
    · by_cases hlt2 : k < 20
      · obtain ⟨b0, o0, rfl, p0, p1, p2, p3⟩ := A3.out k l[k] (List.getElem?_eq_getElem hlt)
        replace p0 := hx.cell p0
        replace p1 := hx.cell p1
        replace p2 := hx.cell p2
        replace p3 := hx.cell p3
        obtain ⟨va, vcap, rfl, v1, v2, v3⟩ := hv.form
        have V3 := Lib.hid v3
        have HV := Lib.hid hv
        clear v3 hv
        unfold maxLen at v2
        have hok1 := Lib.hid (hok l[k] (List.getElem_mem hlt))
        go_upto_block 2 with (first | (go_at_call 69; refine (r07Fit_any l[k] _ _ hok1.out h1 h2).mono ?_; rintro e w1 ⟨rfl, hx1⟩))
        have hst := Lib.hid (fitL_step l nodes k hlt hlt2)
        rw [show fitL (l.take k) nodes = out from hout.out.symm] at hst
        clear hok1 p0 p1 p2 p3 hout
        generalize fitV l[k] nodes = r at *
        refine hideW (Φ := fun W => Code.wp _ _ _ _ W) (fun W => Ext wr W ∧ Blk W w1.heap.size r.cells 42) ⟨hx1.alloc _, Blk.new _ _ _⟩ (fun W hW => ?_)
        obtain ⟨hxW, hb⟩ := hW
        generalize w1.heap.size = rb at *
        clear hx1 w1
        have hv2 := Lib.hid (HV.out.later hxW)
        have HFR2 := Lib.hid (own_later HFR.out hxW)
        have hxw := Lib.hid (hx.trans hxW)
        clear HV hx hxW
        go_cut [8] (fun s wc => s = I (insAt out r) ∧ Ext W wc)
        case first =>
          obtain ⟨wo, rfl⟩ : ∃ wo : World, wo = wr := ⟨_, rfl⟩
          go_wp2_with fail
          go_loopw [8] (fun s wi => ∃ j : Nat, j ≤ insAt out r ∧ s = I j ∧ Ext W wi) (fun s _ => out.length - (intOf s).toNat)
          case atStart => exact ⟨0, by omega, rfl, Ext.refl W⟩
          case round =>
            obtain ⟨j, hj, rfl, hxi⟩ := hrel
            have hb2 := (hb.later hxi).keep
            by_cases hjl : j < out.length
            · have hv3 := hv2.out.later hxi
              obtain ⟨ea, ecap, he, e1, e2, e3⟩ := hv3.form
              obtain ⟨rfl, -, rfl⟩ : va = ea ∧ out.length = out.length ∧ vcap = ecap := by simpa using he
              obtain ⟨b1, o1, rfl, q0, q1, q2, q3⟩ := e3 j out[j] (List.getElem?_eq_getElem hjl)
              replace q0 := Ext.keep q0
              replace q1 := Ext.keep q1
              replace q2 := Ext.keep q2
              replace q3 := Ext.keep q3
              clear he e3 hv3
              by_cases hc : cmpR out[j] r < 0
              · have hcd : decide (cmpV out[j].pa out[j].pl r.pa r.pl < 0) = true := by simpa [cmpR] using hc
                have hj' := Lib.hid (show j + 1 ≤ insAt out r by
                  rcases Nat.lt_or_ge j (insAt out r) with h | h
                  · omega
                  · exfalso
                    have : j = insAt out r := by omega
                    subst this
                    exact insAt_end hjl hc)
                clear hc
                go_wp2_with fail
                refine wp_region_E 12 rfl (by kernel_rfl) (by kernel_rfl) ?_
                refine WE_q 0 rfl (by decide) (by kernel_rfl) rfl ?_; apply Exists.intro; refine ⟨fun w1 hx1 => ?_, ?_⟩
                · have hq1 := hx1.cells; go_simp; try go_bits
                  first | with_reducible rfl | (refine (r07Compare_any out[j] r _).mono ?_; rintro e w2 ⟨rfl, hx2⟩; exact ⟨rfl, hx2⟩)
                simp only [Act.put, List.setIfInBounds_toArray, List.set_cons_zero, List.set_cons_succ]
                refine WE_q 1 rfl (by decide) (by kernel_rfl) rfl ?_; apply Exists.intro; refine ⟨fun w1 hx1 => ?_, ?_⟩
                · have hq1 := hx1.cells; go_simp; try go_bits
                  first | with_reducible rfl | (refine (r07Compare_any out[j] r _).mono ?_; rintro e w2 ⟨rfl, hx2⟩; exact ⟨rfl, hx2⟩)
                simp only [Act.put, List.setIfInBounds_toArray, List.set_cons_zero, List.set_cons_succ]
                refine WE_q 2 rfl (by decide) (by kernel_rfl) rfl ?_; apply Exists.intro; refine ⟨fun w1 hx1 => ?_, ?_⟩
                · have hq1 := hx1.cells; go_simp; try go_bits
                  first | with_reducible rfl | (refine (r07Compare_any out[j] r _).mono ?_; rintro e w2 ⟨rfl, hx2⟩; exact ⟨rfl, hx2⟩)
                simp only [Act.put, List.setIfInBounds_toArray, List.set_cons_zero, List.set_cons_succ]
                refine WE_q 3 rfl (by decide) (by kernel_rfl) rfl ?_; apply Exists.intro; refine ⟨fun w1 hx1 => ?_, ?_⟩
                · have hq1 := hx1.cells; go_simp; try go_bits
                  first | with_reducible rfl | (refine (r07Compare_any out[j] r _).mono ?_; rintro e w2 ⟨rfl, hx2⟩; exact ⟨rfl, hx2⟩)
                simp only [Act.put, List.setIfInBounds_toArray, List.set_cons_zero, List.set_cons_succ]
                refine WE_q 4 rfl (by decide) (by kernel_rfl) rfl ?_; apply Exists.intro; refine ⟨fun w1 hx1 => ?_, ?_⟩
                · have hq1 := hx1.cells; go_simp; try go_bits
                  first | with_reducible rfl | (refine (r07Compare_any out[j] r _).mono ?_; rintro e w2 ⟨rfl, hx2⟩; exact ⟨rfl, hx2⟩)
                simp only [Act.put, List.setIfInBounds_toArray, List.set_cons_zero, List.set_cons_succ]
                refine WE_q 5 rfl (by decide) (by kernel_rfl) rfl ?_; apply Exists.intro; refine ⟨fun w1 hx1 => ?_, ?_⟩
                · have hq1 := hx1.cells; go_simp; try go_bits
                  first | with_reducible rfl | (refine (r07Compare_any out[j] r _).mono ?_; rintro e w2 ⟨rfl, hx2⟩; exact ⟨rfl, hx2⟩)
                simp only [Act.put, List.setIfInBounds_toArray, List.set_cons_zero, List.set_cons_succ]
                refine WE_q 6 rfl (by decide) (by kernel_rfl) rfl ?_; apply Exists.intro; refine ⟨fun w1 hx1 => ?_, ?_⟩
                · have hq1 := hx1.cells; go_simp; try go_bits
                  first | with_reducible rfl | (refine (r07Compare_any out[j] r _).mono ?_; rintro e w2 ⟨rfl, hx2⟩; exact ⟨rfl, hx2⟩)
                simp only [Act.put, List.setIfInBounds_toArray, List.set_cons_zero, List.set_cons_succ]
                refine WE_q 7 rfl (by decide) (by kernel_rfl) rfl ?_; apply Exists.intro; refine ⟨fun w1 hx1 => ?_, ?_⟩
                · have hq1 := hx1.cells; go_simp; try go_bits
                  first | with_reducible rfl | (refine (r07Compare_any out[j] r _).mono ?_; rintro e w2 ⟨rfl, hx2⟩; exact ⟨rfl, hx2⟩)
                simp only [Act.put, List.setIfInBounds_toArray, List.set_cons_zero, List.set_cons_succ]
                refine WE_q 8 rfl (by decide) (by kernel_rfl) rfl ?_; apply Exists.intro; refine ⟨fun w1 hx1 => ?_, ?_⟩
                · have hq1 := hx1.cells; go_simp; try go_bits
                  first | with_reducible rfl | (refine (r07Compare_any out[j] r _).mono ?_; rintro e w2 ⟨rfl, hx2⟩; exact ⟨rfl, hx2⟩)
                simp only [Act.put, List.setIfInBounds_toArray, List.set_cons_zero, List.set_cons_succ]
                refine WE_q 9 rfl (by decide) (by kernel_rfl) rfl ?_; apply Exists.intro; refine ⟨fun w1 hx1 => ?_, ?_⟩
                · have hq1 := hx1.cells; go_simp; try go_bits
                  first | with_reducible rfl | (refine (r07Compare_any out[j] r _).mono ?_; rintro e w2 ⟨rfl, hx2⟩; exact ⟨rfl, hx2⟩)
                simp only [Act.put, List.setIfInBounds_toArray, List.set_cons_zero, List.set_cons_succ]
                refine WE_q 10 rfl (by decide) (by kernel_rfl) rfl ?_; apply Exists.intro; refine ⟨fun w1 hx1 => ?_, ?_⟩
                · have hq1 := hx1.cells; go_simp; try go_bits
                  first | with_reducible rfl | (refine (r07Compare_any out[j] r _).mono ?_; rintro e w2 ⟨rfl, hx2⟩; exact ⟨rfl, hx2⟩)
                simp only [Act.put, List.setIfInBounds_toArray, List.set_cons_zero, List.set_cons_succ]
                refine WE_q 11 rfl (by decide) (by kernel_rfl) rfl ?_; apply Exists.intro; refine ⟨fun w1 hx1 => ?_, ?_⟩
                · have hq1 := hx1.cells; go_simp; try go_bits
                  first | with_reducible rfl | (refine (r07Compare_any out[j] r _).mono ?_; rintro e w2 ⟨rfl, hx2⟩; exact ⟨rfl, hx2⟩)
                simp only [Act.put, List.setIfInBounds_toArray, List.set_cons_zero, List.set_cons_succ]
                refine WE_done (by kernel_rfl) (fun w2 hx2 => ?_)
                (try simp only [List.drop_succ_cons, List.drop_zero])
                go_wp2_with fail
                go_roundw
                case rel => exact ⟨j + 1, hj'.out, by go_num, hxi.trans hx2⟩
                case measure => simp [intOf]; omega
              · have hcd : decide (cmpV out[j].pa out[j].pl r.pa r.pl < 0) = false := by simpa [cmpR] using hc
                have hj' := Lib.hid (show j = insAt out r by
                  rcases Nat.lt_or_ge j (insAt out r) with h | h
                  · exact absurd (insAt_lt h hjl) hc
                  · omega)
                clear hc
                go_wp2_with fail
                refine wp_region_E 12 rfl (by kernel_rfl) (by kernel_rfl) ?_
                refine WE_q 0 rfl (by decide) (by kernel_rfl) rfl ?_; apply Exists.intro; refine ⟨fun w1 hx1 => ?_, ?_⟩
                · have hq1 := hx1.cells; go_simp; try go_bits
                  first | with_reducible rfl | (refine (r07Compare_any out[j] r _).mono ?_; rintro e w2 ⟨rfl, hx2⟩; exact ⟨rfl, hx2⟩)
                simp only [Act.put, List.setIfInBounds_toArray, List.set_cons_zero, List.set_cons_succ]
                refine WE_q 1 rfl (by decide) (by kernel_rfl) rfl ?_; apply Exists.intro; refine ⟨fun w1 hx1 => ?_, ?_⟩
                · have hq1 := hx1.cells; go_simp; try go_bits
                  first | with_reducible rfl | (refine (r07Compare_any out[j] r _).mono ?_; rintro e w2 ⟨rfl, hx2⟩; exact ⟨rfl, hx2⟩)
                simp only [Act.put, List.setIfInBounds_toArray, List.set_cons_zero, List.set_cons_succ]
                refine WE_q 2 rfl (by decide) (by kernel_rfl) rfl ?_; apply Exists.intro; refine ⟨fun w1 hx1 => ?_, ?_⟩
                · have hq1 := hx1.cells; go_simp; try go_bits
                  first | with_reducible rfl | (refine (r07Compare_any out[j] r _).mono ?_; rintro e w2 ⟨rfl, hx2⟩; exact ⟨rfl, hx2⟩)
                simp only [Act.put, List.setIfInBounds_toArray, List.set_cons_zero, List.set_cons_succ]
                refine WE_q 3 rfl (by decide) (by kernel_rfl) rfl ?_; apply Exists.intro; refine ⟨fun w1 hx1 => ?_, ?_⟩
                · have hq1 := hx1.cells; go_simp; try go_bits
                  first | with_reducible rfl | (refine (r07Compare_any out[j] r _).mono ?_; rintro e w2 ⟨rfl, hx2⟩; exact ⟨rfl, hx2⟩)
                simp only [Act.put, List.setIfInBounds_toArray, List.set_cons_zero, List.set_cons_succ]
                refine WE_q 4 rfl (by decide) (by kernel_rfl) rfl ?_; apply Exists.intro; refine ⟨fun w1 hx1 => ?_, ?_⟩
                · have hq1 := hx1.cells; go_simp; try go_bits
                  first | with_reducible rfl | (refine (r07Compare_any out[j] r _).mono ?_; rintro e w2 ⟨rfl, hx2⟩; exact ⟨rfl, hx2⟩)
                simp only [Act.put, List.setIfInBounds_toArray, List.set_cons_zero, List.set_cons_succ]
                refine WE_q 5 rfl (by decide) (by kernel_rfl) rfl ?_; apply Exists.intro; refine ⟨fun w1 hx1 => ?_, ?_⟩
                · have hq1 := hx1.cells; go_simp; try go_bits
                  first | with_reducible rfl | (refine (r07Compare_any out[j] r _).mono ?_; rintro e w2 ⟨rfl, hx2⟩; exact ⟨rfl, hx2⟩)
                simp only [Act.put, List.setIfInBounds_toArray, List.set_cons_zero, List.set_cons_succ]
                refine WE_q 6 rfl (by decide) (by kernel_rfl) rfl ?_; apply Exists.intro; refine ⟨fun w1 hx1 => ?_, ?_⟩
                · have hq1 := hx1.cells; go_simp; try go_bits
                  first | with_reducible rfl | (refine (r07Compare_any out[j] r _).mono ?_; rintro e w2 ⟨rfl, hx2⟩; exact ⟨rfl, hx2⟩)
                simp only [Act.put, List.setIfInBounds_toArray, List.set_cons_zero, List.set_cons_succ]
                refine WE_q 7 rfl (by decide) (by kernel_rfl) rfl ?_; apply Exists.intro; refine ⟨fun w1 hx1 => ?_, ?_⟩
                · have hq1 := hx1.cells; go_simp; try go_bits
                  first | with_reducible rfl | (refine (r07Compare_any out[j] r _).mono ?_; rintro e w2 ⟨rfl, hx2⟩; exact ⟨rfl, hx2⟩)
                simp only [Act.put, List.setIfInBounds_toArray, List.set_cons_zero, List.set_cons_succ]
                refine WE_q 8 rfl (by decide) (by kernel_rfl) rfl ?_; apply Exists.intro; refine ⟨fun w1 hx1 => ?_, ?_⟩
                · have hq1 := hx1.cells; go_simp; try go_bits
                  first | with_reducible rfl | (refine (r07Compare_any out[j] r _).mono ?_; rintro e w2 ⟨rfl, hx2⟩; exact ⟨rfl, hx2⟩)
                simp only [Act.put, List.setIfInBounds_toArray, List.set_cons_zero, List.set_cons_succ]
                refine WE_q 9 rfl (by decide) (by kernel_rfl) rfl ?_; apply Exists.intro; refine ⟨fun w1 hx1 => ?_, ?_⟩
                · have hq1 := hx1.cells; go_simp; try go_bits
                  first | with_reducible rfl | (refine (r07Compare_any out[j] r _).mono ?_; rintro e w2 ⟨rfl, hx2⟩; exact ⟨rfl, hx2⟩)
                simp only [Act.put, List.setIfInBounds_toArray, List.set_cons_zero, List.set_cons_succ]
                refine WE_q 10 rfl (by decide) (by kernel_rfl) rfl ?_; apply Exists.intro; refine ⟨fun w1 hx1 => ?_, ?_⟩
                · have hq1 := hx1.cells; go_simp; try go_bits
                  first | with_reducible rfl | (refine (r07Compare_any out[j] r _).mono ?_; rintro e w2 ⟨rfl, hx2⟩; exact ⟨rfl, hx2⟩)
                simp only [Act.put, List.setIfInBounds_toArray, List.set_cons_zero, List.set_cons_succ]
                refine WE_q 11 rfl (by decide) (by kernel_rfl) rfl ?_; apply Exists.intro; refine ⟨fun w1 hx1 => ?_, ?_⟩
                · have hq1 := hx1.cells; go_simp; try go_bits
                  first | with_reducible rfl | (refine (r07Compare_any out[j] r _).mono ?_; rintro e w2 ⟨rfl, hx2⟩; exact ⟨rfl, hx2⟩)
                simp only [Act.put, List.setIfInBounds_toArray, List.set_cons_zero, List.set_cons_succ]
                refine WE_done (by kernel_rfl) (fun w2 hx2 => ?_)
                (try simp only [List.drop_succ_cons, List.drop_zero])
                go_wp2_with fail
                go_meet
                case rel => exact ⟨by rw [← hj'.out], hxi.trans hx2⟩
            · have hjd : decide ((j : Int) < out.length) = false := by simp; omega
              have hj' := Lib.hid (show j = insAt out r by have := insAt_le out r; omega)
              go_wp2_with fail
              refine wp_region_E 12 rfl (by kernel_rfl) (by kernel_rfl) ?_
              refine WE_q 0 rfl (by decide) (by kernel_rfl) rfl ?_; apply Exists.intro; refine ⟨fun w1 hx1 => ?_, ?_⟩
              · have hq1 := hx1.cells; go_simp; try go_bits
                first | with_reducible rfl
              simp only [Act.put, List.setIfInBounds_toArray, List.set_cons_zero, List.set_cons_succ]
              refine WE_q 1 rfl (by decide) (by kernel_rfl) rfl ?_; apply Exists.intro; refine ⟨fun w1 hx1 => ?_, ?_⟩
              · have hq1 := hx1.cells; go_simp; try go_bits
                first | with_reducible rfl
              simp only [Act.put, List.setIfInBounds_toArray, List.set_cons_zero, List.set_cons_succ]
              refine WE_q 2 rfl (by decide) (by kernel_rfl) rfl ?_; apply Exists.intro; refine ⟨fun w1 hx1 => ?_, ?_⟩
              · have hq1 := hx1.cells; go_simp; try go_bits
                first | with_reducible rfl
              simp only [Act.put, List.setIfInBounds_toArray, List.set_cons_zero, List.set_cons_succ]
              refine WE_q 3 rfl (by decide) (by kernel_rfl) rfl ?_; apply Exists.intro; refine ⟨fun w1 hx1 => ?_, ?_⟩
              · have hq1 := hx1.cells; go_simp; try go_bits
                first | with_reducible rfl
              simp only [Act.put, List.setIfInBounds_toArray, List.set_cons_zero, List.set_cons_succ]
              refine WE_q 4 rfl (by decide) (by kernel_rfl) rfl ?_; apply Exists.intro; refine ⟨fun w1 hx1 => ?_, ?_⟩
              · have hq1 := hx1.cells; go_simp; try go_bits
                first | with_reducible rfl
              simp only [Act.put, List.setIfInBounds_toArray, List.set_cons_zero, List.set_cons_succ]
              refine WE_s 5 rfl (by decide) (by kernel_rfl) rfl ?_
              simp only [Act.put, List.setIfInBounds_toArray, List.set_cons_zero, List.set_cons_succ]
              refine WE_s 6 rfl (by decide) (by kernel_rfl) rfl ?_
              simp only [Act.put, List.setIfInBounds_toArray, List.set_cons_zero, List.set_cons_succ]
              refine WE_s 7 rfl (by decide) (by kernel_rfl) rfl ?_
              simp only [Act.put, List.setIfInBounds_toArray, List.set_cons_zero, List.set_cons_succ]
              refine WE_s 8 rfl (by decide) (by kernel_rfl) rfl ?_
              simp only [Act.put, List.setIfInBounds_toArray, List.set_cons_zero, List.set_cons_succ]
              refine WE_s 9 rfl (by decide) (by kernel_rfl) rfl ?_
              simp only [Act.put, List.setIfInBounds_toArray, List.set_cons_zero, List.set_cons_succ]
              refine WE_s 10 rfl (by decide) (by kernel_rfl) rfl ?_
              simp only [Act.put, List.setIfInBounds_toArray, List.set_cons_zero, List.set_cons_succ]
              refine WE_s 11 rfl (by decide) (by kernel_rfl) rfl ?_
              simp only [Act.put, List.setIfInBounds_toArray, List.set_cons_zero, List.set_cons_succ]
              refine WE_done (by kernel_rfl) (fun w2 hx2 => ?_)
              (try simp only [List.drop_succ_cons, List.drop_zero])
              go_wp2_with fail
              go_meet
              case rel => exact ⟨by rw [← hj'.out], hxi.trans hx2⟩
        case rest =>
          obtain ⟨rfl, hxc⟩ := hcut
          have hat := insAt_le out r
          have hv3 := hv2.out.later hxc
          have hb2 := (hb.later hxc).keep
          have HA := Lib.hid (rfl : insAt out r = insAt out r)
          iterate 2 go_step
          go_cut [8] (fun s w3 => s = I (insAt out r) ∧ Hid (ins out r = out.take (insAt out r) ++ r :: out.drop (insAt out r)) ∧ Ext wc w3)
          case first =>
            obtain ⟨ea, ecap, he, e1, e2, e3⟩ := hv3.form
            obtain ⟨rfl, -, rfl⟩ : va = ea ∧ out.length = out.length ∧ vcap = ecap := by simpa using he
            clear he
            have E3 := Lib.hid e3
            clear e3
            by_cases hjl : insAt out r < out.length
            · obtain ⟨b1, o1, rfl, q0, q1, q2, q3⟩ := E3.out _ out[insAt out r] (List.getElem?_eq_getElem hjl)
              replace q0 := Ext.keep q0
              replace q1 := Ext.keep q1
              replace q2 := Ext.keep q2
              replace q3 := Ext.keep q3
              by_cases hc : cmpR out[insAt out r] r = 0
              · have hcd : ((cmpV out[insAt out r].pa out[insAt out r].pl r.pa r.pl) == 0) = true := by simpa [cmpR] using hc
                have hins := Lib.hid (show ins out r = out by
                  unfold ins; rw [if_pos]; rw [List.getElem?_eq_getElem hjl]; simpa using hc)
                clear hc
                go_wp2_with fail
                refine wp_region_E 12 rfl (by kernel_rfl) (by kernel_rfl) ?_
                refine WE_q 0 rfl (by decide) (by kernel_rfl) rfl ?_; apply Exists.intro; refine ⟨fun w1 hx1 => ?_, ?_⟩
                · have hq1 := hx1.cells; go_simp; try go_bits
                  first | with_reducible rfl | (refine (r07Compare_any out[insAt out r] r _).mono ?_; rintro e w2 ⟨rfl, hx2⟩; exact ⟨rfl, hx2⟩)
                simp only [Act.put, List.setIfInBounds_toArray, List.set_cons_zero, List.set_cons_succ]
                refine WE_q 1 rfl (by decide) (by kernel_rfl) rfl ?_; apply Exists.intro; refine ⟨fun w1 hx1 => ?_, ?_⟩
                · have hq1 := hx1.cells; go_simp; try go_bits
                  first | with_reducible rfl | (refine (r07Compare_any out[insAt out r] r _).mono ?_; rintro e w2 ⟨rfl, hx2⟩; exact ⟨rfl, hx2⟩)
                simp only [Act.put, List.setIfInBounds_toArray, List.set_cons_zero, List.set_cons_succ]
                refine WE_q 2 rfl (by decide) (by kernel_rfl) rfl ?_; apply Exists.intro; refine ⟨fun w1 hx1 => ?_, ?_⟩
                · have hq1 := hx1.cells; go_simp; try go_bits
                  first | with_reducible rfl | (refine (r07Compare_any out[insAt out r] r _).mono ?_; rintro e w2 ⟨rfl, hx2⟩; exact ⟨rfl, hx2⟩)
                simp only [Act.put, List.setIfInBounds_toArray, List.set_cons_zero, List.set_cons_succ]
                refine WE_q 3 rfl (by decide) (by kernel_rfl) rfl ?_; apply Exists.intro; refine ⟨fun w1 hx1 => ?_, ?_⟩
                · have hq1 := hx1.cells; go_simp; try go_bits
                  first | with_reducible rfl | (refine (r07Compare_any out[insAt out r] r _).mono ?_; rintro e w2 ⟨rfl, hx2⟩; exact ⟨rfl, hx2⟩)
                simp only [Act.put, List.setIfInBounds_toArray, List.set_cons_zero, List.set_cons_succ]
                refine WE_q 4 rfl (by decide) (by kernel_rfl) rfl ?_; apply Exists.intro; refine ⟨fun w1 hx1 => ?_, ?_⟩
                · have hq1 := hx1.cells; go_simp; try go_bits
                  first | with_reducible rfl | (refine (r07Compare_any out[insAt out r] r _).mono ?_; rintro e w2 ⟨rfl, hx2⟩; exact ⟨rfl, hx2⟩)
                simp only [Act.put, List.setIfInBounds_toArray, List.set_cons_zero, List.set_cons_succ]
                refine WE_q 5 rfl (by decide) (by kernel_rfl) rfl ?_; apply Exists.intro; refine ⟨fun w1 hx1 => ?_, ?_⟩
                · have hq1 := hx1.cells; go_simp; try go_bits
                  first | with_reducible rfl | (refine (r07Compare_any out[insAt out r] r _).mono ?_; rintro e w2 ⟨rfl, hx2⟩; exact ⟨rfl, hx2⟩)
                simp only [Act.put, List.setIfInBounds_toArray, List.set_cons_zero, List.set_cons_succ]
                refine WE_q 6 rfl (by decide) (by kernel_rfl) rfl ?_; apply Exists.intro; refine ⟨fun w1 hx1 => ?_, ?_⟩
                · have hq1 := hx1.cells; go_simp; try go_bits
                  first | with_reducible rfl | (refine (r07Compare_any out[insAt out r] r _).mono ?_; rintro e w2 ⟨rfl, hx2⟩; exact ⟨rfl, hx2⟩)
                simp only [Act.put, List.setIfInBounds_toArray, List.set_cons_zero, List.set_cons_succ]
                refine WE_q 7 rfl (by decide) (by kernel_rfl) rfl ?_; apply Exists.intro; refine ⟨fun w1 hx1 => ?_, ?_⟩
                · have hq1 := hx1.cells; go_simp; try go_bits
                  first | with_reducible rfl | (refine (r07Compare_any out[insAt out r] r _).mono ?_; rintro e w2 ⟨rfl, hx2⟩; exact ⟨rfl, hx2⟩)
                simp only [Act.put, List.setIfInBounds_toArray, List.set_cons_zero, List.set_cons_succ]
                refine WE_q 8 rfl (by decide) (by kernel_rfl) rfl ?_; apply Exists.intro; refine ⟨fun w1 hx1 => ?_, ?_⟩
                · have hq1 := hx1.cells; go_simp; try go_bits
                  first | with_reducible rfl | (refine (r07Compare_any out[insAt out r] r _).mono ?_; rintro e w2 ⟨rfl, hx2⟩; exact ⟨rfl, hx2⟩)
                simp only [Act.put, List.setIfInBounds_toArray, List.set_cons_zero, List.set_cons_succ]
                refine WE_q 9 rfl (by decide) (by kernel_rfl) rfl ?_; apply Exists.intro; refine ⟨fun w1 hx1 => ?_, ?_⟩
                · have hq1 := hx1.cells; go_simp; try go_bits
                  first | with_reducible rfl | (refine (r07Compare_any out[insAt out r] r _).mono ?_; rintro e w2 ⟨rfl, hx2⟩; exact ⟨rfl, hx2⟩)
                simp only [Act.put, List.setIfInBounds_toArray, List.set_cons_zero, List.set_cons_succ]
                refine WE_q 10 rfl (by decide) (by kernel_rfl) rfl ?_; apply Exists.intro; refine ⟨fun w1 hx1 => ?_, ?_⟩
                · have hq1 := hx1.cells; go_simp; try go_bits
                  first | with_reducible rfl | (refine (r07Compare_any out[insAt out r] r _).mono ?_; rintro e w2 ⟨rfl, hx2⟩; exact ⟨rfl, hx2⟩)
                simp only [Act.put, List.setIfInBounds_toArray, List.set_cons_zero, List.set_cons_succ]
                refine WE_q 11 rfl (by decide) (by kernel_rfl) rfl ?_; apply Exists.intro; refine ⟨fun w1 hx1 => ?_, ?_⟩
                · have hq1 := hx1.cells; go_simp; try go_bits
                  first | with_reducible rfl | (refine (r07Compare_any out[insAt out r] r _).mono ?_; rintro e w2 ⟨rfl, hx2⟩; exact ⟨rfl, hx2⟩)
                simp only [Act.put, List.setIfInBounds_toArray, List.set_cons_zero, List.set_cons_succ]
                refine WE_done (by kernel_rfl) (fun w2 hx2 => ?_)
                (try simp only [List.drop_succ_cons, List.drop_zero])
                go_wp2_with fail
                go_roundw
                case rel => exact ⟨k + 1, out, by omega, by omega, by go_num, hv2.out.later (hxc.trans hx2), hins.out.symm.trans hst.out.symm, by omega, hxw.out.trans (hxc.trans hx2), own_later HFR2.out (hxc.trans hx2)⟩
                case measure => simp [intOf]; omega
              · have hcd : ((cmpV out[insAt out r].pa out[insAt out r].pl r.pa r.pl) == 0) = false := by simpa [cmpR] using hc
                have hins := Lib.hid (show ins out r = out.take (insAt out r) ++ r :: out.drop (insAt out r) by
                  unfold ins; rw [if_neg]; rw [List.getElem?_eq_getElem hjl]; simpa using hc)
                clear hc
                go_wp2_with fail
                refine wp_region_E 12 rfl (by kernel_rfl) (by kernel_rfl) ?_
                refine WE_q 0 rfl (by decide) (by kernel_rfl) rfl ?_; apply Exists.intro; refine ⟨fun w1 hx1 => ?_, ?_⟩
                · have hq1 := hx1.cells; go_simp; try go_bits
                  first | with_reducible rfl | (refine (r07Compare_any out[insAt out r] r _).mono ?_; rintro e w2 ⟨rfl, hx2⟩; exact ⟨rfl, hx2⟩)
                simp only [Act.put, List.setIfInBounds_toArray, List.set_cons_zero, List.set_cons_succ]
                refine WE_q 1 rfl (by decide) (by kernel_rfl) rfl ?_; apply Exists.intro; refine ⟨fun w1 hx1 => ?_, ?_⟩
                · have hq1 := hx1.cells; go_simp; try go_bits
                  first | with_reducible rfl | (refine (r07Compare_any out[insAt out r] r _).mono ?_; rintro e w2 ⟨rfl, hx2⟩; exact ⟨rfl, hx2⟩)
                simp only [Act.put, List.setIfInBounds_toArray, List.set_cons_zero, List.set_cons_succ]
                refine WE_q 2 rfl (by decide) (by kernel_rfl) rfl ?_; apply Exists.intro; refine ⟨fun w1 hx1 => ?_, ?_⟩
                · have hq1 := hx1.cells; go_simp; try go_bits
                  first | with_reducible rfl | (refine (r07Compare_any out[insAt out r] r _).mono ?_; rintro e w2 ⟨rfl, hx2⟩; exact ⟨rfl, hx2⟩)
                simp only [Act.put, List.setIfInBounds_toArray, List.set_cons_zero, List.set_cons_succ]
                refine WE_q 3 rfl (by decide) (by kernel_rfl) rfl ?_; apply Exists.intro; refine ⟨fun w1 hx1 => ?_, ?_⟩
                · have hq1 := hx1.cells; go_simp; try go_bits
                  first | with_reducible rfl | (refine (r07Compare_any out[insAt out r] r _).mono ?_; rintro e w2 ⟨rfl, hx2⟩; exact ⟨rfl, hx2⟩)
                simp only [Act.put, List.setIfInBounds_toArray, List.set_cons_zero, List.set_cons_succ]
                refine WE_q 4 rfl (by decide) (by kernel_rfl) rfl ?_; apply Exists.intro; refine ⟨fun w1 hx1 => ?_, ?_⟩
                · have hq1 := hx1.cells; go_simp; try go_bits
                  first | with_reducible rfl | (refine (r07Compare_any out[insAt out r] r _).mono ?_; rintro e w2 ⟨rfl, hx2⟩; exact ⟨rfl, hx2⟩)
                simp only [Act.put, List.setIfInBounds_toArray, List.set_cons_zero, List.set_cons_succ]
                refine WE_q 5 rfl (by decide) (by kernel_rfl) rfl ?_; apply Exists.intro; refine ⟨fun w1 hx1 => ?_, ?_⟩
                · have hq1 := hx1.cells; go_simp; try go_bits
                  first | with_reducible rfl | (refine (r07Compare_any out[insAt out r] r _).mono ?_; rintro e w2 ⟨rfl, hx2⟩; exact ⟨rfl, hx2⟩)
                simp only [Act.put, List.setIfInBounds_toArray, List.set_cons_zero, List.set_cons_succ]
                refine WE_q 6 rfl (by decide) (by kernel_rfl) rfl ?_; apply Exists.intro; refine ⟨fun w1 hx1 => ?_, ?_⟩
                · have hq1 := hx1.cells; go_simp; try go_bits
                  first | with_reducible rfl | (refine (r07Compare_any out[insAt out r] r _).mono ?_; rintro e w2 ⟨rfl, hx2⟩; exact ⟨rfl, hx2⟩)
                simp only [Act.put, List.setIfInBounds_toArray, List.set_cons_zero, List.set_cons_succ]
                refine WE_q 7 rfl (by decide) (by kernel_rfl) rfl ?_; apply Exists.intro; refine ⟨fun w1 hx1 => ?_, ?_⟩
                · have hq1 := hx1.cells; go_simp; try go_bits
                  first | with_reducible rfl | (refine (r07Compare_any out[insAt out r] r _).mono ?_; rintro e w2 ⟨rfl, hx2⟩; exact ⟨rfl, hx2⟩)
                simp only [Act.put, List.setIfInBounds_toArray, List.set_cons_zero, List.set_cons_succ]
                refine WE_q 8 rfl (by decide) (by kernel_rfl) rfl ?_; apply Exists.intro; refine ⟨fun w1 hx1 => ?_, ?_⟩
                · have hq1 := hx1.cells; go_simp; try go_bits
                  first | with_reducible rfl | (refine (r07Compare_any out[insAt out r] r _).mono ?_; rintro e w2 ⟨rfl, hx2⟩; exact ⟨rfl, hx2⟩)
                simp only [Act.put, List.setIfInBounds_toArray, List.set_cons_zero, List.set_cons_succ]
                refine WE_q 9 rfl (by decide) (by kernel_rfl) rfl ?_; apply Exists.intro; refine ⟨fun w1 hx1 => ?_, ?_⟩
                · have hq1 := hx1.cells; go_simp; try go_bits
                  first | with_reducible rfl | (refine (r07Compare_any out[insAt out r] r _).mono ?_; rintro e w2 ⟨rfl, hx2⟩; exact ⟨rfl, hx2⟩)
                simp only [Act.put, List.setIfInBounds_toArray, List.set_cons_zero, List.set_cons_succ]
                refine WE_q 10 rfl (by decide) (by kernel_rfl) rfl ?_; apply Exists.intro; refine ⟨fun w1 hx1 => ?_, ?_⟩
                · have hq1 := hx1.cells; go_simp; try go_bits
                  first | with_reducible rfl | (refine (r07Compare_any out[insAt out r] r _).mono ?_; rintro e w2 ⟨rfl, hx2⟩; exact ⟨rfl, hx2⟩)
                simp only [Act.put, List.setIfInBounds_toArray, List.set_cons_zero, List.set_cons_succ]
                refine WE_q 11 rfl (by decide) (by kernel_rfl) rfl ?_; apply Exists.intro; refine ⟨fun w1 hx1 => ?_, ?_⟩
                · have hq1 := hx1.cells; go_simp; try go_bits
                  first | with_reducible rfl | (refine (r07Compare_any out[insAt out r] r _).mono ?_; rintro e w2 ⟨rfl, hx2⟩; exact ⟨rfl, hx2⟩)
                simp only [Act.put, List.setIfInBounds_toArray, List.set_cons_zero, List.set_cons_succ]
                refine WE_done (by kernel_rfl) (fun w2 hx2 => ?_)
                (try simp only [List.drop_succ_cons, List.drop_zero])
                go_wp2_with fail
                go_meet
                case rel => exact ⟨rfl, hins.out, hx2⟩
            · have hjd : decide ((insAt out r : Int) < out.length) = false := by simp; omega
              have hins := Lib.hid (show ins out r = out.take (insAt out r) ++ r :: out.drop (insAt out r) by
                unfold ins; rw [if_neg]; rw [List.getElem?_eq_none (by omega)]; simp)
              go_wp2_with fail
              refine wp_region_E 12 rfl (by kernel_rfl) (by kernel_rfl) ?_
              refine WE_q 0 rfl (by decide) (by kernel_rfl) rfl ?_; apply Exists.intro; refine ⟨fun w1 hx1 => ?_, ?_⟩
              · have hq1 := hx1.cells; go_simp; try go_bits
                first | with_reducible rfl
              simp only [Act.put, List.setIfInBounds_toArray, List.set_cons_zero, List.set_cons_succ]
              refine WE_q 1 rfl (by decide) (by kernel_rfl) rfl ?_; apply Exists.intro; refine ⟨fun w1 hx1 => ?_, ?_⟩
              · have hq1 := hx1.cells; go_simp; try go_bits
                first | with_reducible rfl
              simp only [Act.put, List.setIfInBounds_toArray, List.set_cons_zero, List.set_cons_succ]
              refine WE_q 2 rfl (by decide) (by kernel_rfl) rfl ?_; apply Exists.intro; refine ⟨fun w1 hx1 => ?_, ?_⟩
              · have hq1 := hx1.cells; go_simp; try go_bits
                first | with_reducible rfl
              simp only [Act.put, List.setIfInBounds_toArray, List.set_cons_zero, List.set_cons_succ]
              refine WE_q 3 rfl (by decide) (by kernel_rfl) rfl ?_; apply Exists.intro; refine ⟨fun w1 hx1 => ?_, ?_⟩
              · have hq1 := hx1.cells; go_simp; try go_bits
                first | with_reducible rfl
              simp only [Act.put, List.setIfInBounds_toArray, List.set_cons_zero, List.set_cons_succ]
              refine WE_q 4 rfl (by decide) (by kernel_rfl) rfl ?_; apply Exists.intro; refine ⟨fun w1 hx1 => ?_, ?_⟩
              · have hq1 := hx1.cells; go_simp; try go_bits
                first | with_reducible rfl
              simp only [Act.put, List.setIfInBounds_toArray, List.set_cons_zero, List.set_cons_succ]
              refine WE_s 5 rfl (by decide) (by kernel_rfl) rfl ?_
              simp only [Act.put, List.setIfInBounds_toArray, List.set_cons_zero, List.set_cons_succ]
              refine WE_s 6 rfl (by decide) (by kernel_rfl) rfl ?_
              simp only [Act.put, List.setIfInBounds_toArray, List.set_cons_zero, List.set_cons_succ]
              refine WE_s 7 rfl (by decide) (by kernel_rfl) rfl ?_
              simp only [Act.put, List.setIfInBounds_toArray, List.set_cons_zero, List.set_cons_succ]
              refine WE_s 8 rfl (by decide) (by kernel_rfl) rfl ?_
              simp only [Act.put, List.setIfInBounds_toArray, List.set_cons_zero, List.set_cons_succ]
              refine WE_s 9 rfl (by decide) (by kernel_rfl) rfl ?_
              simp only [Act.put, List.setIfInBounds_toArray, List.set_cons_zero, List.set_cons_succ]
              refine WE_s 10 rfl (by decide) (by kernel_rfl) rfl ?_
              simp only [Act.put, List.setIfInBounds_toArray, List.set_cons_zero, List.set_cons_succ]
              refine WE_s 11 rfl (by decide) (by kernel_rfl) rfl ?_
              simp only [Act.put, List.setIfInBounds_toArray, List.set_cons_zero, List.set_cons_succ]
              refine WE_done (by kernel_rfl) (fun w2 hx2 => ?_)
              (try simp only [List.drop_succ_cons, List.drop_zero])
              go_wp2_with fail
              go_meet
              case rel => exact ⟨rfl, hins.out, hx2⟩
          case rest =>
            obtain ⟨rfl, hins, hx3⟩ := hcut
            have hxc3 := hxc.trans hx3
            have hv4 := hv2.out.later hxc3
            have hb4 := (hb.later hxc3).keep
            clear hv3 hb2 hxc hx3
            have HI := Lib.hid hins
            clear hins
            go_wp2_with fail
            refine wp_region_E 5 rfl (by kernel_rfl) (by kernel_rfl) ?_
            refine WE_q 0 rfl (by decide) (by kernel_rfl) rfl ?_; apply Exists.intro; refine ⟨fun w1 hx1 => ?_, ?_⟩
            · have hq1 := hx1.cells; go_simp; try go_bits
              first | with_reducible rfl
            simp only [Act.put, List.setIfInBounds_toArray, List.set_cons_zero, List.set_cons_succ]
            refine WE_q 2 rfl (by decide) (by kernel_rfl) rfl ?_; apply Exists.intro; refine ⟨fun w1 hx1 => ?_, ?_⟩
            · have hq1 := hx1.cells; go_simp; try go_bits
              first | with_reducible rfl
            simp only [Act.put, List.setIfInBounds_toArray, List.set_cons_zero, List.set_cons_succ]
            refine WE_q 3 rfl (by decide) (by kernel_rfl) rfl ?_; apply Exists.intro; refine ⟨fun w1 hx1 => ?_, ?_⟩
            · have hq1 := hx1.cells; go_simp; try go_bits
              first | with_reducible rfl
            simp only [Act.put, List.setIfInBounds_toArray, List.set_cons_zero, List.set_cons_succ]
            refine WE_q 4 rfl (by decide) (by kernel_rfl) rfl ?_; apply Exists.intro; refine ⟨fun w1 hx1 => quietE_of_run (run_slice_from rfl Try.underlying39 sizeRule rfl rfl hat), ?_⟩
            simp only [Act.put, List.setIfInBounds_toArray, List.set_cons_zero, List.set_cons_succ]
            refine WE_do 1 rfl (by decide) (by kernel_rfl) rfl (fun w4 hx4 K hK => ?_)
            go_simp
            refine hK _ _ ((Ext.refl _).alloc _) ?_
            clear hK K
            refine WE_done (by kernel_rfl) (fun w5 hx5 => ?_)
            (try simp only [List.drop_succ_cons, List.drop_zero])
            have ho5 := own_later (own_made w4 4 42 1 r.cells rfl (by unfold maxLen; omega)) hx5
            have hr5 : RulesAt w5 (slv 4 (.slice va out.length vcap) (insAt out r) out.length) (out.drop (insAt out r)) := by
              have := ((hv4.piece hat (Nat.le_refl _)).later hx4).later ((Ext.refl w4).alloc _ |>.trans hx5)
              rwa [List.take_of_length_le (Nat.le_refl _)] at this
            have hz5 : w4.heap.size ≤ w5.heap.size := (((Ext.refl w4).alloc _).trans hx5).size
            have hx45 : Ext wc w5 := hx4.trans (((Ext.refl w4).alloc _).trans hx5)
            go_upto_region 11 with (first | (at_builtin; refine wpList_app rfl (.tmp 56) (.tmp 59) 39 rfl w4.heap.size 42 _ 4 32 Try.underlying39 infoRule rfl (by decide) (by decide) _ _ _ rfl ho5 _ _ _ rfl hr5 (rcells_one _) (by rw [List.length_drop]; omega) hz5 ?_; intro v6 w6 ho6 hg6))
            have hx6 : Ext wc w6 := Ext.grown hx45 hg6 ho5 hx4.size
            have hr6 : RulesAt w6 v6 (r :: out.drop (insAt out r)) := by
              have := Reads.of_own ho6
              rwa [show r.cells ++ rcells (out.drop (insAt out r)) = rcells (r :: out.drop (insAt out r)) from rfl, Nat.add_comm] at this
            have hv6 := hv4.later hx6
            clear ho5 hr5 hz5 hx45 hx4 hx5 ho6 hg6 hv4 hb4
            have hq6 : RulesAt (w6.alloc (.cells #[] 42)) (slv 4 (.slice va out.length vcap) 0 (insAt out r)) (out.take (insAt out r)) := (hv6.piece (Nat.zero_le _) hat).later ((Ext.refl _).alloc _)
            have ho7 := own_made w6 4 42 0 [] rfl (by unfold maxLen; omega)
            have hlt6 : insAt out r ≤ vcap := by omega
            have hlen6 : (out.take (insAt out r)).length = insAt out r := by rw [List.length_take]; omega
            have HL6 := Lib.hid hlen6
            clear hlen6
            go_wp2_with (first
              | (refine wpList_of_run rfl (run_slice_to (o := ⟨some 64, _, _, _, _, _⟩) rfl Try.underlying39 sizeRule rfl rfl hlt6) ?_)
              | (at_builtin; refine wpList_app rfl (.tmp 61) (.tmp 64) 39 rfl w6.heap.size 42 _ 4 32 Try.underlying39 infoRule rfl (by decide) (by decide) _ _ _ rfl ho7 _ _ _ rfl hq6 (rcells_one _) (by rw [HL6.out]; omega) ((Ext.refl w6).alloc _).size ?_; intro v7 w7 ho8 hg7
                 have hx7 : Ext w6 w7 := Ext.grown ((Ext.refl w6).alloc _) hg7 ho7 (Nat.le_refl _)
                 have hr7 := hr6.later hx7)
              | (at_builtin; refine wpList_app rfl (.tmp 65) (.tmp 66) 39 rfl w6.heap.size 42 _ 4 32 Try.underlying39 infoRule rfl (by decide) (by decide) _ _ _ rfl ho8 _ _ _ rfl hr7 (rcells_one _) (by rw [HL6.out, List.length_cons, List.length_drop]; omega) hx7.size ?_; intro v8 w8 ho9 hg8))
            go_roundw
            case rel =>
              have hx8 : Ext w6 w8 := Ext.grown hx7 hg8 ho8 (Nat.le_refl _)
              have e1 : ins out r = out.take (insAt out r) ++ r :: out.drop (insAt out r) := HI.out
              refine ⟨k + 1, ins out r, by omega, by omega, by go_num, ?_, hst.out.symm, ?_, hxw.out.trans (hxc3.trans (hx6.trans hx8)), ?_⟩
              · have := Reads.of_own ho9
                unfold RulesAt
                rw [e1, List.length_append, rcells_app]
                simpa using this
              · have := ins_len out r; omega
              · have := own_low ho9 (hxw.out.trans (hxc3.trans hx6)).size
                show World.ownsRow _ _ _ _ _ _ _
                rw [e1, List.length_append, rcells_app]
                simpa using this
            case measure => simp [intOf]; omega
      · go_wp2_with fail
        go_ret
        refine ⟨_, rfl, ?_, hx⟩
        rw [show fitL l nodes = out by
          rw [hout.out]; unfold fitL
          rw [List.take_take, Nat.min_eq_right (by omega), show 20 = k by omega]]
        exact HFR.out
    · go_wp2_with fail
      go_ret
      refine ⟨_, rfl, ?_, hx⟩
      rw [show fitL l nodes = out by
        rw [hout.out]; unfold fitL
        rw [List.take_of_length_le (l := l) (i := k) (by omega)]]
      exact HFR.out
theorem r08Fit_any (lv : Value) (l : List Rul) (nodes : Int) (w : World) (hl : RulesAt w lv l) (hok : RulesOk l) (h1 : 1 ≤ nodes) (h2 : nodes ≤ 100000) :
    Calls Try.prog 52 #[lv, I nodes] w fun e w' => ∃ v, e = .returned v ∧ RulesAt w' v (fitL l nodes) ∧ Ext w w' :=
  (r08FitF_any lv l nodes w hl hok h1 h2).mono fun _ _ ⟨v, h1, h2, h3⟩ => ⟨v, h1, Reads.of_own h2, h3⟩
end Go.Proofs.Ytilaljdokpdcoaa
