/- check.steps and its stepper's fall: whether ranks fall along each step at all points. Conditions: whole numbers are within 64 bits. -/
import Derived.Test.YtpfkfboohblgoaaCertMay
import Derived.Test.YtpfkfboohblgoaaCoverA
import Derived.WalkMore
namespace Go.Proofs.Ytpfkfboohblgoaa
open Go.RowKit

abbrev stepF (nb : Nat) : Value := .func (.func 89) #[] #[.pointer (some ⟨nb, 0, none⟩)]
def badX (n : Nat) (rk : List Int) (v : Nat) (x : Int) : Bool := decide (x < 0) || (decide ((n : Int) ≤ x) || decide (rk.getD v 0 ≤ rk.getD x.toNat 0))
def badS (ls : List (List Rul)) (rk : List Int) (a : BitVec 32) (v : Nat) : Bool :=
  match stepN ls a v with
  | none => false
  | some x => badX ls.length rk v x
def fallB (ls : List (List Rul)) (pts : List (BitVec 32)) (rk : List Int) : Bool := pts.any fun a => (List.range ls.length).any (badS ls rk a)
def fallV (ls : List (List Rul)) (pts : List (BitVec 32)) (rk : List Int) : Int := if fallB ls pts rk then 16 else 0
theorem fallV_bad {ls : List (List Rul)} {pts : List (BitVec 32)} {rk : List Int} {k v : Nat} (hk : k < pts.length) (hv : v < ls.length) (h : badS ls rk pts[k] v = true) : fallV ls pts rk = 16 := by
  unfold fallV
  rw [if_pos]
  exact List.any_eq_true.2 ⟨_, List.getElem_mem hk, List.any_eq_true.2 ⟨v, List.mem_range.2 hv, h⟩⟩
theorem fallV_ok {ls : List (List Rul)} {pts : List (BitVec 32)} {rk : List Int} {k : Nat} (h : ∀ a ∈ pts.take k, ∀ v, v < ls.length → badS ls rk a v = false) (hk : pts.length ≤ k) : fallV ls pts rk = 0 := by
  unfold fallV
  rw [if_neg]
  intro hb
  obtain ⟨a, ha, hb⟩ := List.any_eq_true.1 hb
  obtain ⟨v, hv, hb⟩ := List.any_eq_true.1 hb
  rw [List.take_of_length_le hk] at h
  rw [h a ha v (List.mem_range.1 hv)] at hb
  cases hb
theorem pts_next {ls : List (List Rul)} {pts : List (BitVec 32)} {rk : List Int} {k : Nat} (hk : k < pts.length) (h : ∀ a ∈ pts.take k, ∀ v, v < ls.length → badS ls rk a v = false) (h1 : ∀ v, v < ls.length → badS ls rk pts[k] v = false) :
    ∀ a ∈ pts.take (k + 1), ∀ v, v < ls.length → badS ls rk a v = false := by
  rw [List.take_succ_eq_append_getElem hk]
  intro a ha
  rcases List.mem_append.1 ha with ha | ha
  · exact h a ha
  · simp only [List.mem_singleton] at ha; rw [ha]; exact h1
set_option maxHeartbeats 1000000 in
theorem stepF_any (lv : Value) (ls : List (List Rul)) (a : BitVec 32) (v : Int) (nb : Nat) (w : World) (hb : Blk w nb [lv] 24) (hl : TablesAt w lv ls) (hok : TablesOk ls) :
    Calls Try.prog 89 #[U a, I v, .pointer (some ⟨nb, 0, none⟩)] w fun e w' => e = .returned (stepV (stepN ls a v)) ∧ Ext w w' := by
  have HL := Lib.hid hl
  obtain ⟨ad, cap, rfl, a1, a2, a3⟩ := hl.form
  clear a3 hl
  have hbc := hb.cells
  go_enter Try.func89, Try.ntmps89
  go_wp2_with (first
    | (go_at_call 28; (with_reducible refine (netStep_any _ ls a v _ HL.out hok).mono ?_); rintro e w2 ⟨he, hx2⟩; subst he; have HX2 := Lib.hid hx2; clear hx2))
  go_ret2
  exact ⟨rfl, HX2.out⟩
set_option maxHeartbeats 4000000 in
set_option maxRecDepth 100000 in
theorem fall_any (lv pv rv : Value) (ls : List (List Rul)) (pts : List (BitVec 32)) (rk : List Int) (nb : Nat) (w : World) (hb : Blk w nb [lv] 24) (hl : TablesAt w lv ls) (hok : TablesOk ls) (hp : UsAt w pv pts) (hr : IntsAt w rv rk) (hrl : rk.length = ls.length) :
    Calls Try.prog 51 #[.agg #[I ls.length, stepF nb], pv, rv] w fun e w' => e = .returned (I (fallV ls pts rk)) ∧ Ext w w' := by
  have HL := Lib.hid hl
  have HB := Lib.hid hb
  have HOK := Lib.hid hok
  obtain ⟨pa, pc, hpe, p1, p2, p3⟩ := hp.form
  obtain ⟨ra, rc, hre, r1, r2, r3⟩ := hr.form
  subst hpe hre
  have P3 := Lib.hid p3
  have R3 := Lib.hid r3
  have HRL := Lib.hid hrl
  clear p3 r3 hp hr hl hb hok hrl
  unfold maxLen at p2 r2
  go_enter Try.func51, Try.ntmps51
  go_upto_region 2 with (fail)
  go_step3
  refine hideW (Φ := fun W => Code.wp _ _ _ _ W) (fun W => Ext w W ∧ Blk W w.heap.size [I ls.length, stepF nb] 89)
    ⟨by (repeat (first | with_reducible exact Ext.refl _ | with_reducible assumption | with_reducible refine Ext.alloc ?_ _ | with_reducible refine Ext.drew ?_ | with_reducible refine Ext.drewN ?_ _ | (with_reducible refine Ext.setCellP ?_ ?_; focus (first | (simp; done) | (simp; omega) | omega)))), Blk.new w [I ls.length, stepF nb] 89⟩ (fun W1 hW1 => ?_)
  obtain ⟨hx1, hk1⟩ := hW1
  have HX1 := Lib.hid hx1
  have HK1 := Lib.hid hk1
  clear hx1 hk1
  generalize w.heap.size = sb at *
  go_wp2_with fail
  go_step3
  go_wp2_with fail
  go_loopw [7, 15] (fun ev i wr => ∃ k : Nat, k ≤ pts.length ∧ i = I k ∧ ev = I 0 ∧ Hid (∀ a ∈ pts.take k, ∀ v, v < ls.length → badS ls rk a v = false) ∧ Hid (Ext W1 wr)) (fun _ i _ => pts.length - (intOf i).toNat)
  case atStart => exact ⟨0, by omega, rfl, rfl, fun a h => by simp at h, Ext.refl _⟩
  case round =>
    obtain ⟨k, hk, rfl, rfl, HG, HX⟩ := hrel
    have hkr := (HK1.out.later HX.out).cells
    by_cases hlt : k < pts.length
    · obtain ⟨b0, o0, he0, q0⟩ := P3.out k _ (List.getElem?_eq_getElem hlt)
      subst he0
      replace q0 := HX.out.cell (HX1.out.cell q0)
      have HNX := Lib.hid (pts_next hlt HG.out)
      have HBD := Lib.hid (fun v hv h => fallV_bad (ls := ls) (rk := rk) (v := v) hlt hv h)
      generalize pts[k] = a at *
      go_wp2_with fail
      go_loopw [7, 21] (fun ev i wr => ∃ v : Nat, v ≤ ls.length ∧ i = I v ∧ ev = I 0 ∧ Hid (∀ u, u < v → badS ls rk a u = false) ∧ Hid (Ext W1 wr)) (fun _ i _ => ls.length - (intOf i).toNat)
      case atStart => exact ⟨0, by omega, rfl, rfl, fun u h => by omega, HX.out⟩
      case round =>
        obtain ⟨v, hv, rfl, rfl, HV, HXV⟩ := hrel
        have HKV := Lib.hid (HK1.out.later HXV.out)
        have hkv := HKV.out.cells
        by_cases hvl : v < ls.length
        · have HXW := Lib.hid (HX1.out.trans HXV.out)
          have HLV := Lib.hid (HL.out.later HXW.out)
          have HBV := Lib.hid (HB.out.later HXW.out)
          have hvr : v < rk.length := by rw [HRL.out]; exact hvl
          obtain ⟨b1, o1, he1, q1⟩ := R3.out v _ (List.getElem?_eq_getElem hvr)
          subst he1
          have HGV := Lib.hid (show rk.getD v 0 = rk[v] by rw [List.getD_eq_getElem?_getD, List.getElem?_eq_getElem hvr]; rfl)
          have Q1 := Lib.hid (HXW.out.cell q1)
          have HBS := Lib.hid (show badS ls rk a v = match stepN ls a v with | none => false | some x => badX ls.length rk v x from rfl)
          clear q1
          generalize rk[v] = rv at *
          cases hs : stepN ls a v with
          | none =>
            have HS := Lib.hid hs
            have HOKV := Lib.hid (show badS ls rk a v = false by rw [HBS.out, hs])
            clear hs
            go_wp2_with (first
              | (go_at_call 89; (with_reducible refine (stepF_any _ ls a v nb _ HBV.out HLV.out HOK.out).mono ?_); rintro e w2 ⟨he, hx2⟩; rw [HS.out] at he; subst he; have HX2 := Lib.hid (HXV.out.trans hx2); clear hx2))
            go_roundw
            case rel =>
              refine ⟨v + 1, by omega, by go_num, rfl, ?_, HX2.out⟩
              intro u hu
              rcases Nat.lt_or_ge u v with g | g
              · exact HV.out u g
              · rw [show u = v by omega]; exact HOKV.out
            case measure => simp [intOf]; omega
          | some x =>
            have HS := Lib.hid hs
            have HBX := Lib.hid (show badS ls rk a v = badX ls.length rk v x by rw [HBS.out, hs])
            clear hs
            go_upto_region 10 with (first
              | (go_at_call 89; (with_reducible refine (stepF_any _ ls a v nb _ HBV.out HLV.out HOK.out).mono ?_); rintro e w2 ⟨he, hx2⟩; rw [HS.out] at he; subst he; have HX2 := Lib.hid (HXV.out.trans hx2); have HY2 := Lib.hid hx2; clear hx2))
            go_cut [52] (fun c wc => c = .bool (badX ls.length rk v x) ∧ Hid (Ext w2 wc))
            case first =>
              have HK2 := Lib.hid (HK1.out.later HX2.out)
              by_cases h1 : x < 0
              · have d1 : decide (x < 0) = true := decide_eq_true h1
                have HR := Lib.hid (show badX ls.length rk v x = true by unfold badX; rw [d1]; rfl)
                clear h1
                refine wp_region_E 18 rfl (by kernel_rfl) (by kernel_rfl) ?_
                refine WE_q 0 rfl (by decide) (by kernel_rfl) rfl ?_; apply Exists.intro; refine ⟨fun w1 hx1 => ?_, ?_⟩
                · have hq1 := hx1.cells; go_simp; try go_bits
                  first | with_reducible rfl
                simp only [Act.put, List.setIfInBounds_toArray, List.set_cons_zero, List.set_cons_succ]
                refine WE_q 1 rfl (by decide) (by kernel_rfl) rfl ?_; apply Exists.intro; refine ⟨fun w1 hx1 => ?_, ?_⟩
                · have hq1 := hx1.cells; go_simp; try go_bits
                  first | with_reducible rfl
                simp only [Act.put, List.setIfInBounds_toArray, List.set_cons_zero, List.set_cons_succ]
                refine WE_q 2 rfl (by decide) (by kernel_rfl) rfl ?_; apply Exists.intro; refine ⟨fun w1 hx1 => ?_, ?_⟩
                · have hq1 := hx1.cells; go_simp; try go_bits
                  first | with_reducible rfl
                simp only [Act.put, List.setIfInBounds_toArray, List.set_cons_zero, List.set_cons_succ]
                refine WE_s 3 rfl (by decide) (by kernel_rfl) rfl ?_
                simp only [Act.put, List.setIfInBounds_toArray, List.set_cons_zero, List.set_cons_succ]
                refine WE_s 4 rfl (by decide) (by kernel_rfl) rfl ?_
                simp only [Act.put, List.setIfInBounds_toArray, List.set_cons_zero, List.set_cons_succ]
                refine WE_s 5 rfl (by decide) (by kernel_rfl) rfl ?_
                simp only [Act.put, List.setIfInBounds_toArray, List.set_cons_zero, List.set_cons_succ]
                refine WE_s 6 rfl (by decide) (by kernel_rfl) rfl ?_
                simp only [Act.put, List.setIfInBounds_toArray, List.set_cons_zero, List.set_cons_succ]
                refine WE_q 7 rfl (by decide) (by kernel_rfl) rfl ?_; apply Exists.intro; refine ⟨fun w1 hx1 => ?_, ?_⟩
                · have hq1 := hx1.cells; go_simp; try go_bits
                  first | with_reducible rfl
                simp only [Act.put, List.setIfInBounds_toArray, List.set_cons_zero, List.set_cons_succ]
                refine WE_q 8 rfl (by decide) (by kernel_rfl) rfl ?_; apply Exists.intro; refine ⟨fun w1 hx1 => ?_, ?_⟩
                · have hq1 := hx1.cells; go_simp; try go_bits
                  first | with_reducible rfl
                simp only [Act.put, List.setIfInBounds_toArray, List.set_cons_zero, List.set_cons_succ]
                refine WE_s 9 rfl (by decide) (by kernel_rfl) rfl ?_
                simp only [Act.put, List.setIfInBounds_toArray, List.set_cons_zero, List.set_cons_succ]
                refine WE_s 10 rfl (by decide) (by kernel_rfl) rfl ?_
                simp only [Act.put, List.setIfInBounds_toArray, List.set_cons_zero, List.set_cons_succ]
                refine WE_s 11 rfl (by decide) (by kernel_rfl) rfl ?_
                simp only [Act.put, List.setIfInBounds_toArray, List.set_cons_zero, List.set_cons_succ]
                refine WE_s 12 rfl (by decide) (by kernel_rfl) rfl ?_
                simp only [Act.put, List.setIfInBounds_toArray, List.set_cons_zero, List.set_cons_succ]
                refine WE_s 13 rfl (by decide) (by kernel_rfl) rfl ?_
                simp only [Act.put, List.setIfInBounds_toArray, List.set_cons_zero, List.set_cons_succ]
                refine WE_s 14 rfl (by decide) (by kernel_rfl) rfl ?_
                simp only [Act.put, List.setIfInBounds_toArray, List.set_cons_zero, List.set_cons_succ]
                refine WE_s 15 rfl (by decide) (by kernel_rfl) rfl ?_
                simp only [Act.put, List.setIfInBounds_toArray, List.set_cons_zero, List.set_cons_succ]
                refine WE_s 16 rfl (by decide) (by kernel_rfl) rfl ?_
                simp only [Act.put, List.setIfInBounds_toArray, List.set_cons_zero, List.set_cons_succ]
                refine WE_s 17 rfl (by decide) (by kernel_rfl) rfl ?_
                simp only [Act.put, List.setIfInBounds_toArray, List.set_cons_zero, List.set_cons_succ]
                refine WE_done (by kernel_rfl) (fun w9 hx9 => ?_)
                (try simp only [List.drop_succ_cons, List.drop_zero])
                go_wp2_with fail
                go_meet
                case rel => exact ⟨by rw [HR.out], hx9⟩
              · have d1 : decide (x < 0) = false := decide_eq_false h1
                by_cases h2 : (ls.length : Int) ≤ x
                · have d2 : decide ((ls.length : Int) ≤ x) = true := decide_eq_true h2
                  have HR := Lib.hid (show badX ls.length rk v x = true by unfold badX; rw [d1, d2]; rfl)
                  clear h1 h2
                  refine wp_region_E 18 rfl (by kernel_rfl) (by kernel_rfl) ?_
                  have k1 := HK2.out.keep
                  refine WE_q 0 rfl (by decide) (by kernel_rfl) rfl ?_; apply Exists.intro; refine ⟨fun w1 hx1 => ?_, ?_⟩
                  · have hq1 := hx1.cells; go_simp; try go_bits
                    first | with_reducible rfl
                  simp only [Act.put, List.setIfInBounds_toArray, List.set_cons_zero, List.set_cons_succ]
                  refine WE_q 1 rfl (by decide) (by kernel_rfl) rfl ?_; apply Exists.intro; refine ⟨fun w1 hx1 => ?_, ?_⟩
                  · have hq1 := hx1.cells; go_simp; try go_bits
                    first | with_reducible rfl
                  simp only [Act.put, List.setIfInBounds_toArray, List.set_cons_zero, List.set_cons_succ]
                  refine WE_q 2 rfl (by decide) (by kernel_rfl) rfl ?_; apply Exists.intro; refine ⟨fun w1 hx1 => ?_, ?_⟩
                  · have hq1 := hx1.cells; go_simp; try go_bits
                    first | with_reducible rfl
                  simp only [Act.put, List.setIfInBounds_toArray, List.set_cons_zero, List.set_cons_succ]
                  refine WE_q 3 rfl (by decide) (by kernel_rfl) rfl ?_; apply Exists.intro; refine ⟨fun w1 hx1 => ?_, ?_⟩
                  · have hq1 := hx1.cells; go_simp; try go_bits
                    first | with_reducible rfl
                  simp only [Act.put, List.setIfInBounds_toArray, List.set_cons_zero, List.set_cons_succ]
                  refine WE_q 4 rfl (by decide) (by kernel_rfl) rfl ?_; apply Exists.intro; refine ⟨fun w1 hx1 => ?_, ?_⟩
                  · have hq1 := hx1.cells; go_simp; try go_bits
                    first | with_reducible rfl
                  simp only [Act.put, List.setIfInBounds_toArray, List.set_cons_zero, List.set_cons_succ]
                  refine WE_q 5 rfl (by decide) (by kernel_rfl) rfl ?_; apply Exists.intro; refine ⟨fun w1 hx1 => ?_, ?_⟩
                  · have hq1 := hx1.cells; go_simp; try go_bits
                    first | with_reducible rfl
                  simp only [Act.put, List.setIfInBounds_toArray, List.set_cons_zero, List.set_cons_succ]
                  refine WE_q 6 rfl (by decide) (by kernel_rfl) rfl ?_; apply Exists.intro; refine ⟨fun w1 hx1 => ?_, ?_⟩
                  · have hq1 := hx1.cells; go_simp; try go_bits
                    first | with_reducible rfl
                  simp only [Act.put, List.setIfInBounds_toArray, List.set_cons_zero, List.set_cons_succ]
                  refine WE_q 7 rfl (by decide) (by kernel_rfl) rfl ?_; apply Exists.intro; refine ⟨fun w1 hx1 => ?_, ?_⟩
                  · have hq1 := hx1.cells; go_simp; try go_bits
                    first | with_reducible rfl
                  simp only [Act.put, List.setIfInBounds_toArray, List.set_cons_zero, List.set_cons_succ]
                  refine WE_q 8 rfl (by decide) (by kernel_rfl) rfl ?_; apply Exists.intro; refine ⟨fun w1 hx1 => ?_, ?_⟩
                  · have hq1 := hx1.cells; go_simp; try go_bits
                    first | with_reducible rfl
                  simp only [Act.put, List.setIfInBounds_toArray, List.set_cons_zero, List.set_cons_succ]
                  refine WE_s 9 rfl (by decide) (by kernel_rfl) rfl ?_
                  simp only [Act.put, List.setIfInBounds_toArray, List.set_cons_zero, List.set_cons_succ]
                  refine WE_s 10 rfl (by decide) (by kernel_rfl) rfl ?_
                  simp only [Act.put, List.setIfInBounds_toArray, List.set_cons_zero, List.set_cons_succ]
                  refine WE_s 11 rfl (by decide) (by kernel_rfl) rfl ?_
                  simp only [Act.put, List.setIfInBounds_toArray, List.set_cons_zero, List.set_cons_succ]
                  refine WE_s 12 rfl (by decide) (by kernel_rfl) rfl ?_
                  simp only [Act.put, List.setIfInBounds_toArray, List.set_cons_zero, List.set_cons_succ]
                  refine WE_s 13 rfl (by decide) (by kernel_rfl) rfl ?_
                  simp only [Act.put, List.setIfInBounds_toArray, List.set_cons_zero, List.set_cons_succ]
                  refine WE_s 14 rfl (by decide) (by kernel_rfl) rfl ?_
                  simp only [Act.put, List.setIfInBounds_toArray, List.set_cons_zero, List.set_cons_succ]
                  refine WE_s 15 rfl (by decide) (by kernel_rfl) rfl ?_
                  simp only [Act.put, List.setIfInBounds_toArray, List.set_cons_zero, List.set_cons_succ]
                  refine WE_s 16 rfl (by decide) (by kernel_rfl) rfl ?_
                  simp only [Act.put, List.setIfInBounds_toArray, List.set_cons_zero, List.set_cons_succ]
                  refine WE_s 17 rfl (by decide) (by kernel_rfl) rfl ?_
                  simp only [Act.put, List.setIfInBounds_toArray, List.set_cons_zero, List.set_cons_succ]
                  refine WE_done (by kernel_rfl) (fun w9 hx9 => ?_)
                  (try simp only [List.drop_succ_cons, List.drop_zero])
                  clear k1
                  go_wp2_with fail
                  go_meet
                  case rel => exact ⟨by rw [HR.out], hx9⟩
                · have d2 : decide ((ls.length : Int) ≤ x) = false := decide_eq_false h2
                  obtain ⟨xn, rfl⟩ : ∃ xn : Nat, x = xn := ⟨x.toNat, by omega⟩
                  have hxn : xn < ls.length := by omega
                  have d2n : decide (ls.length ≤ xn) = false := decide_eq_false (by omega)
                  have hxr : xn < rk.length := by rw [HRL.out]; exact hxn
                  obtain ⟨b2, o2, he2, q2⟩ := R3.out xn _ (List.getElem?_eq_getElem hxr)
                  simp only [Option.some.injEq, Addr.mk.injEq, and_true] at he2
                  obtain ⟨rfl, rfl⟩ := he2
                  have Q2 := Lib.hid (HX2.out.cell (HX1.out.cell q2))
                  have HGX := Lib.hid (show rk.getD xn 0 = rk[xn] by rw [List.getD_eq_getElem?_getD, List.getElem?_eq_getElem hxr]; rfl)
                  have HR := Lib.hid (show badX ls.length rk v xn = decide (rv ≤ rk[xn]) by unfold badX; rw [d1, d2, HGV.out, Int.toNat_natCast, HGX.out]; rfl)
                  clear h1 h2 q2
                  generalize rk[xn] = rx at *
                  refine wp_region_E 18 rfl (by kernel_rfl) (by kernel_rfl) ?_
                  have k1 := HK2.out.keep
                  have k2 := Ext.keep Q2.out
                  have k3 := Ext.keep (HY2.out.cell Q1.out)
                  refine WE_q 0 rfl (by decide) (by kernel_rfl) rfl ?_; apply Exists.intro; refine ⟨fun w1 hx1 => ?_, ?_⟩
                  · have hq1 := hx1.cells; go_simp; try go_bits
                    first | with_reducible rfl
                  simp only [Act.put, List.setIfInBounds_toArray, List.set_cons_zero, List.set_cons_succ]
                  refine WE_q 1 rfl (by decide) (by kernel_rfl) rfl ?_; apply Exists.intro; refine ⟨fun w1 hx1 => ?_, ?_⟩
                  · have hq1 := hx1.cells; go_simp; try go_bits
                    first | with_reducible rfl
                  simp only [Act.put, List.setIfInBounds_toArray, List.set_cons_zero, List.set_cons_succ]
                  refine WE_q 2 rfl (by decide) (by kernel_rfl) rfl ?_; apply Exists.intro; refine ⟨fun w1 hx1 => ?_, ?_⟩
                  · have hq1 := hx1.cells; go_simp; try go_bits
                    first | with_reducible rfl
                  simp only [Act.put, List.setIfInBounds_toArray, List.set_cons_zero, List.set_cons_succ]
                  refine WE_q 3 rfl (by decide) (by kernel_rfl) rfl ?_; apply Exists.intro; refine ⟨fun w1 hx1 => ?_, ?_⟩
                  · have hq1 := hx1.cells; go_simp; try go_bits
                    first | with_reducible rfl
                  simp only [Act.put, List.setIfInBounds_toArray, List.set_cons_zero, List.set_cons_succ]
                  refine WE_q 4 rfl (by decide) (by kernel_rfl) rfl ?_; apply Exists.intro; refine ⟨fun w1 hx1 => ?_, ?_⟩
                  · have hq1 := hx1.cells; go_simp; try go_bits
                    first | with_reducible rfl
                  simp only [Act.put, List.setIfInBounds_toArray, List.set_cons_zero, List.set_cons_succ]
                  refine WE_q 5 rfl (by decide) (by kernel_rfl) rfl ?_; apply Exists.intro; refine ⟨fun w1 hx1 => ?_, ?_⟩
                  · have hq1 := hx1.cells; go_simp; try go_bits
                    first | with_reducible rfl
                  simp only [Act.put, List.setIfInBounds_toArray, List.set_cons_zero, List.set_cons_succ]
                  refine WE_q 6 rfl (by decide) (by kernel_rfl) rfl ?_; apply Exists.intro; refine ⟨fun w1 hx1 => ?_, ?_⟩
                  · have hq1 := hx1.cells; go_simp; try go_bits
                    first | with_reducible rfl
                  simp only [Act.put, List.setIfInBounds_toArray, List.set_cons_zero, List.set_cons_succ]
                  refine WE_q 7 rfl (by decide) (by kernel_rfl) rfl ?_; apply Exists.intro; refine ⟨fun w1 hx1 => ?_, ?_⟩
                  · have hq1 := hx1.cells; go_simp; try go_bits
                    first | with_reducible rfl
                  simp only [Act.put, List.setIfInBounds_toArray, List.set_cons_zero, List.set_cons_succ]
                  refine WE_q 8 rfl (by decide) (by kernel_rfl) rfl ?_; apply Exists.intro; refine ⟨fun w1 hx1 => ?_, ?_⟩
                  · have hq1 := hx1.cells; go_simp; try go_bits
                    first | with_reducible rfl
                  simp only [Act.put, List.setIfInBounds_toArray, List.set_cons_zero, List.set_cons_succ]
                  refine WE_q 9 rfl (by decide) (by kernel_rfl) rfl ?_; apply Exists.intro; refine ⟨fun w1 hx1 => ?_, ?_⟩
                  · have hq1 := hx1.cells; go_simp; try go_bits
                    first | with_reducible rfl
                  simp only [Act.put, List.setIfInBounds_toArray, List.set_cons_zero, List.set_cons_succ]
                  refine WE_q 10 rfl (by decide) (by kernel_rfl) rfl ?_; apply Exists.intro; refine ⟨fun w1 hx1 => ?_, ?_⟩
                  · have hq1 := hx1.cells; go_simp; try go_bits
                    first | with_reducible rfl
                  simp only [Act.put, List.setIfInBounds_toArray, List.set_cons_zero, List.set_cons_succ]
                  refine WE_q 11 rfl (by decide) (by kernel_rfl) rfl ?_; apply Exists.intro; refine ⟨fun w1 hx1 => ?_, ?_⟩
                  · have hq1 := hx1.cells; go_simp; try go_bits
                    first | with_reducible rfl
                  simp only [Act.put, List.setIfInBounds_toArray, List.set_cons_zero, List.set_cons_succ]
                  refine WE_q 12 rfl (by decide) (by kernel_rfl) rfl ?_; apply Exists.intro; refine ⟨fun w1 hx1 => ?_, ?_⟩
                  · have hq1 := hx1.cells; go_simp; try go_bits
                    first | with_reducible rfl
                  simp only [Act.put, List.setIfInBounds_toArray, List.set_cons_zero, List.set_cons_succ]
                  refine WE_q 13 rfl (by decide) (by kernel_rfl) rfl ?_; apply Exists.intro; refine ⟨fun w1 hx1 => ?_, ?_⟩
                  · have hq1 := hx1.cells; go_simp; try go_bits
                    first | with_reducible rfl
                  simp only [Act.put, List.setIfInBounds_toArray, List.set_cons_zero, List.set_cons_succ]
                  refine WE_q 14 rfl (by decide) (by kernel_rfl) rfl ?_; apply Exists.intro; refine ⟨fun w1 hx1 => ?_, ?_⟩
                  · have hq1 := hx1.cells; go_simp; try go_bits
                    first | with_reducible rfl
                  simp only [Act.put, List.setIfInBounds_toArray, List.set_cons_zero, List.set_cons_succ]
                  refine WE_q 15 rfl (by decide) (by kernel_rfl) rfl ?_; apply Exists.intro; refine ⟨fun w1 hx1 => ?_, ?_⟩
                  · have hq1 := hx1.cells; go_simp; try go_bits
                    first | with_reducible rfl
                  simp only [Act.put, List.setIfInBounds_toArray, List.set_cons_zero, List.set_cons_succ]
                  refine WE_q 16 rfl (by decide) (by kernel_rfl) rfl ?_; apply Exists.intro; refine ⟨fun w1 hx1 => ?_, ?_⟩
                  · have hq1 := hx1.cells; go_simp; try go_bits
                    first | with_reducible rfl
                  simp only [Act.put, List.setIfInBounds_toArray, List.set_cons_zero, List.set_cons_succ]
                  refine WE_q 17 rfl (by decide) (by kernel_rfl) rfl ?_; apply Exists.intro; refine ⟨fun w1 hx1 => ?_, ?_⟩
                  · have hq1 := hx1.cells; go_simp; try go_bits
                    first | with_reducible rfl
                  simp only [Act.put, List.setIfInBounds_toArray, List.set_cons_zero, List.set_cons_succ]
                  refine WE_done (by kernel_rfl) (fun w9 hx9 => ?_)
                  (try simp only [List.drop_succ_cons, List.drop_zero])
                  clear k1 k2 k3
                  go_wp2_with fail
                  go_meet
                  case rel => exact ⟨by rw [HR.out], hx9⟩
            case rest =>
              obtain ⟨rfl, HXC⟩ := hcut
              cases hbx : badX ls.length rk v x with
              | true =>
                have HR := Lib.hid (HBD.out v hvl (HBX.out.trans hbx))
                clear hbx
                go_wp2_with fail
                rw [Exit.noGoto_ret]
                go_ret
                exact ⟨by rw [HR.out]; rfl, HX1.out.trans (HX2.out.trans HXC.out)⟩
              | false =>
                have HOKV := Lib.hid (HBX.out.trans hbx)
                clear hbx
                go_wp2_with fail
                go_roundw
                case rel =>
                  refine ⟨v + 1, by omega, by go_num, rfl, ?_, HX2.out.trans HXC.out⟩
                  intro u hu
                  rcases Nat.lt_or_ge u v with g | g
                  · exact HV.out u g
                  · rw [show u = v by omega]; exact HOKV.out
                case measure => simp [intOf]; omega
        · have HND := Lib.hid (HNX.out (fun u hu => HV.out u (by omega)))
          go_wp2_with fail
          go_roundw
          case rel => exact ⟨k + 1, by omega, by go_num, rfl, HND.out, HXV.out⟩
          case measure => simp [intOf]; omega
    · have HE := Lib.hid (fallV_ok HG.out (by omega))
      go_wp2_with fail
      rw [Exit.noGoto_ret]
      go_ret
      exact ⟨by rw [HE.out]; rfl, HX1.out.trans HX.out⟩
end Go.Proofs.Ytpfkfboohblgoaa
