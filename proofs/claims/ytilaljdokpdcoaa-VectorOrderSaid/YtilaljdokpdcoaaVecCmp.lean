/- How vectors stand, and which may be: plain facts, the program and the reference. Conditions: lengths within the model's bound. -/
import Derived.Test.YtilaljdokpdcoaaNet
import Derived.Test.YtilaljdokpdcoaaPure2
namespace Go.Proofs.Ytilaljdokpdcoaa
open Go.RowKit

def cmpG : List Int → List Int → Int
  | x :: v, y :: w => if cmpI x y ≠ 0 then cmpI x y else cmpG v w
  | _, _ => 0
def cmpL (v w : List Int) : Int := if cmpI v.length w.length ≠ 0 then cmpI v.length w.length else cmpG v w
theorem cmpI_cases (x y : Int) : (x < y ∧ cmpI x y = -1) ∨ (x = y ∧ cmpI x y = 0) ∨ (y < x ∧ cmpI x y = 1) := by
  unfold cmpI
  rcases Int.lt_trichotomy x y with h | h | h
  · exact .inl ⟨h, if_pos h⟩
  · subst h; exact .inr (.inl ⟨rfl, by simp⟩)
  · exact .inr (.inr ⟨h, by rw [if_neg (by omega), if_pos h]⟩)
theorem cmpI_neg (x y : Int) : cmpI y x = - cmpI x y := by
  rcases cmpI_cases x y with ⟨h, e⟩ | ⟨h, e⟩ | ⟨h, e⟩ <;> rcases cmpI_cases y x with ⟨g, f⟩ | ⟨g, f⟩ | ⟨g, f⟩ <;> omega
theorem cmpG_neg : ∀ (v w : List Int), cmpG w v = - cmpG v w
  | [], [] => rfl
  | [], _ :: _ => rfl
  | _ :: _, [] => rfl
  | x :: v, y :: w => by
    have h := cmpI_neg x y
    have ih := cmpG_neg v w
    unfold cmpG
    rw [h, ih]
    by_cases e : cmpI x y = 0
    · rw [if_neg (by omega), if_neg (by omega)]
    · rw [if_pos (by omega), if_pos e]
theorem cmpG_self : ∀ v : List Int, cmpG v v = 0
  | [] => rfl
  | x :: v => by
    unfold cmpG
    rw [if_neg (by rcases cmpI_cases x x with ⟨h, e⟩ | ⟨h, e⟩ | ⟨h, e⟩ <;> omega), cmpG_self v]
theorem cmpG_bd : ∀ (v w : List Int), -1 ≤ cmpG v w ∧ cmpG v w ≤ 1
  | [], _ => by unfold cmpG; omega
  | _ :: _, [] => by unfold cmpG; omega
  | x :: v, y :: w => by
    have ih := cmpG_bd v w
    unfold cmpG
    split
    · rcases cmpI_cases x y with ⟨h, e⟩ | ⟨h, e⟩ | ⟨h, e⟩ <;> omega
    · exact ih
theorem cmpG_zero : ∀ {v w : List Int}, v.length = w.length → cmpG v w = 0 → v = w
  | [], [], _, _ => rfl
  | [], _ :: _, h, _ => by simp at h
  | _ :: _, [], h, _ => by simp at h
  | x :: v, y :: w, h, e => by
    unfold cmpG at e
    by_cases g : cmpI x y = 0
    · rw [if_neg (by omega)] at e
      have h1 := cmpG_zero (by simpa using h) e
      rcases cmpI_cases x y with ⟨_, f⟩ | ⟨h2, f⟩ | ⟨_, f⟩
      · omega
      · rw [h1, h2]
      · omega
    · rw [if_pos g] at e; exact absurd e g
theorem cmpG_trans : ∀ {v w u : List Int}, v.length = w.length → w.length = u.length → cmpG v w ≤ 0 → cmpG w u ≤ 0 → cmpG v u ≤ 0
  | [], _, _, _, _, _, _ => by unfold cmpG; omega
  | x :: v, [], _, h, _, _, _ => by simp at h
  | x :: v, y :: w, [], _, h, _, _ => by simp at h
  | x :: v, y :: w, z :: u, h1, h2, a, b => by
    have ih := @cmpG_trans v w u (by simpa using h1) (by simpa using h2)
    unfold cmpG at a b ⊢
    rcases cmpI_cases x y with ⟨p, e⟩ | ⟨p, e⟩ | ⟨p, e⟩ <;> rcases cmpI_cases y z with ⟨q, f⟩ | ⟨q, f⟩ | ⟨q, f⟩ <;> rcases cmpI_cases x z with ⟨r, g⟩ | ⟨r, g⟩ | ⟨r, g⟩ <;>
      rw [e] at a <;> rw [f] at b <;> rw [g] <;> first | omega | (simp only [ne_eq, not_true_eq_false, if_false] at a b ⊢; exact ih a b) | (exfalso; simp at a; done) | (exfalso; simp at b; done) | simp
theorem cmpL_neg (v w : List Int) : cmpL w v = - cmpL v w := by
  unfold cmpL
  have h := cmpI_neg v.length w.length
  rw [h, cmpG_neg v w]
  by_cases e : cmpI v.length w.length = 0
  · rw [if_neg (by omega), if_neg (by omega)]
  · rw [if_pos (by omega), if_pos e]
theorem cmpL_self (v : List Int) : cmpL v v = 0 := by
  unfold cmpL
  rw [if_neg (by rcases cmpI_cases v.length v.length with ⟨h, e⟩ | ⟨h, e⟩ | ⟨h, e⟩ <;> omega), cmpG_self]
theorem cmpL_bd (v w : List Int) : -1 ≤ cmpL v w ∧ cmpL v w ≤ 1 := by
  unfold cmpL
  split
  · rcases cmpI_cases v.length w.length with ⟨h, e⟩ | ⟨h, e⟩ | ⟨h, e⟩ <;> omega
  · exact cmpG_bd v w
theorem cmpL_zero {v w : List Int} : cmpL v w = 0 ↔ v = w := by
  constructor
  · intro h
    unfold cmpL at h
    by_cases e : cmpI v.length w.length = 0
    · rw [if_neg (by omega)] at h
      refine cmpG_zero ?_ h
      rcases cmpI_cases v.length w.length with ⟨_, f⟩ | ⟨g, f⟩ | ⟨_, f⟩ <;> omega
    · rw [if_pos e] at h; exact absurd h e
  · rintro rfl; exact cmpL_self v
theorem cmpL_trans {v w u : List Int} (a : cmpL v w ≤ 0) (b : cmpL w u ≤ 0) : cmpL v u ≤ 0 := by
  unfold cmpL at *
  rcases cmpI_cases v.length w.length with ⟨p, e⟩ | ⟨p, e⟩ | ⟨p, e⟩ <;> rcases cmpI_cases w.length u.length with ⟨q, f⟩ | ⟨q, f⟩ | ⟨q, f⟩ <;> rcases cmpI_cases v.length u.length with ⟨r, g⟩ | ⟨r, g⟩ | ⟨r, g⟩ <;>
    rw [e] at a <;> rw [f] at b <;> rw [g] <;> first | omega | (simp only [ne_eq, not_true_eq_false, if_false] at a b ⊢; exact cmpG_trans (by omega) (by omega) a b) | (exfalso; simp at a; done) | (exfalso; simp at b; done) | simp
theorem cmpL_trans' {v w u : List Int} (a : 0 ≤ cmpL v w) (b : 0 ≤ cmpL w u) : 0 ≤ cmpL v u := by
  have h1 := cmpL_neg v w
  have h2 := cmpL_neg w u
  have h3 := cmpL_neg v u
  have := @cmpL_trans u w v (by omega) (by omega)
  omega
theorem cmpG_step {v w : List Int} {k : Nat} (h1 : k < v.length) (h2 : k < w.length) : cmpG (v.drop k) (w.drop k) = if cmpI v[k] w[k] ≠ 0 then cmpI v[k] w[k] else cmpG (v.drop (k + 1)) (w.drop (k + 1)) := by
  rw [List.drop_eq_getElem_cons h1, List.drop_eq_getElem_cons h2]; rfl
theorem cmpG_end {v w : List Int} {k : Nat} (h1 : v.length ≤ k) : cmpG (v.drop k) (w.drop k) = 0 := by rw [List.drop_of_length_le h1]; rfl

def mayG (n : Int) : List Int → Int
  | [] => 0
  | x :: l => if x < -1 ∨ n ≤ x then 10 else mayG n l
def vmayV (v : List Int) : Int := mayG v.length v
theorem mayG_step {n : Int} {v : List Int} {k : Nat} (h : k < v.length) : mayG n (v.drop k) = if v[k] < -1 ∨ n ≤ v[k] then 10 else mayG n (v.drop (k + 1)) := by
  rw [List.drop_eq_getElem_cons h]; rfl
theorem mayG_end {n : Int} {v : List Int} {k : Nat} (h : v.length ≤ k) : mayG n (v.drop k) = 0 := by rw [List.drop_of_length_le h]; rfl
theorem mayG_zero {n : Int} : ∀ {l : List Int}, (∀ x ∈ l, -1 ≤ x ∧ x < n) → mayG n l = 0
  | [], _ => rfl
  | x :: l, h => by
    have h1 := h x (by simp)
    unfold mayG
    rw [if_neg (by omega)]
    exact mayG_zero fun y hy => h y (by simp [hy])

set_option maxHeartbeats 1000000 in
theorem vecCompare_any (va vb : Value) (la lb : List Int) (w : World) (ha : IntsAt w va la) (hb : IntsAt w vb lb) :
    Calls Try.prog 24 #[va, vb] w fun e w' => e = .returned (I (cmpL la lb)) ∧ Ext w w' := by
  obtain ⟨a, cap, rfl, a1, a2, a3⟩ := ha.form
  obtain ⟨b, cap', rfl, b1, b2, b3⟩ := hb.form
  have A3 := Lib.hid a3
  have B3 := Lib.hid b3
  clear a3 b3
  unfold maxLen at a2 b2
  by_cases hl : cmpI la.length lb.length = 0
  · have HL := Lib.hid (show la.length = lb.length by rcases cmpI_cases la.length lb.length with ⟨_, f⟩ | ⟨g, f⟩ | ⟨_, f⟩ <;> omega)
    have HC := Lib.hid (show cmpL la lb = cmpG la lb by unfold cmpL; rw [if_neg (by omega)])
    have H0 := Lib.hid hl
    clear hl
    go_enter Try.func24, Try.ntmps24
    go_wp2_with (first | (go_at_call 53; (with_reducible refine (cmpI_any _ _ _).mono ?_); rintro e w2 ⟨he, hw⟩; rw [H0.out] at he; subst he; subst hw))
    go_loopw [6, 7, 18] (fun _ _ i wr => ∃ k : Nat, k ≤ la.length ∧ i = I k ∧ Hid (cmpG (la.drop k) (lb.drop k) = cmpL la lb) ∧ Ext w wr) (fun _ _ i _ => la.length - (intOf i).toNat)
    case atStart => exact ⟨0, by omega, rfl, HC.out.symm, Ext.refl w⟩
    case round =>
      obtain ⟨k, hk, rfl, HG, hx⟩ := hrel
      by_cases hlt : k < la.length
      · obtain ⟨b0, o0, rfl, p0⟩ := A3.out k la[k] (List.getElem?_eq_getElem hlt)
        have hlt' : k < lb.length := by rw [← HL.out]; exact hlt
        obtain ⟨b1, o1, rfl, q0⟩ := B3.out k lb[k] (List.getElem?_eq_getElem hlt')
        replace p0 := Ext.keep (hx.cell p0)
        replace q0 := Ext.keep (hx.cell q0)
        have HS := Lib.hid (cmpG_step hlt hlt')
        rw [HG.out] at HS
        clear HG
        by_cases hc : cmpI la[k] lb[k] = 0
        · have hcd : (cmpI la[k] lb[k] != 0) = false := by simpa using hc
          have HS2 := Lib.hid (HS.out.trans (if_neg (by omega)))
          clear HS hc
          go_wp2_with fail
          refine wp_region_E 9 rfl (by kernel_rfl) (by kernel_rfl) ?_
          refine WE_q 0 rfl (by decide) (by kernel_rfl) rfl ?_; apply Exists.intro; refine ⟨fun w1 hx1 => ?_, ?_⟩
          · have hq1 := hx1.cells; go_simp; try go_bits
            first | with_reducible rfl | (refine (cmpI_any _ _ _).mono ?_; rintro e w2 ⟨rfl, rfl⟩; exact ⟨rfl, Ext.refl _⟩)
          simp only [Act.put, List.setIfInBounds_toArray, List.set_cons_zero, List.set_cons_succ]
          refine WE_q 1 rfl (by decide) (by kernel_rfl) rfl ?_; apply Exists.intro; refine ⟨fun w1 hx1 => ?_, ?_⟩
          · have hq1 := hx1.cells; go_simp; try go_bits
            first | with_reducible rfl | (refine (cmpI_any _ _ _).mono ?_; rintro e w2 ⟨rfl, rfl⟩; exact ⟨rfl, Ext.refl _⟩)
          simp only [Act.put, List.setIfInBounds_toArray, List.set_cons_zero, List.set_cons_succ]
          refine WE_q 2 rfl (by decide) (by kernel_rfl) rfl ?_; apply Exists.intro; refine ⟨fun w1 hx1 => ?_, ?_⟩
          · have hq1 := hx1.cells; go_simp; try go_bits
            first | with_reducible rfl | (refine (cmpI_any _ _ _).mono ?_; rintro e w2 ⟨rfl, rfl⟩; exact ⟨rfl, Ext.refl _⟩)
          simp only [Act.put, List.setIfInBounds_toArray, List.set_cons_zero, List.set_cons_succ]
          refine WE_q 3 rfl (by decide) (by kernel_rfl) rfl ?_; apply Exists.intro; refine ⟨fun w1 hx1 => ?_, ?_⟩
          · have hq1 := hx1.cells; go_simp; try go_bits
            first | with_reducible rfl | (refine (cmpI_any _ _ _).mono ?_; rintro e w2 ⟨rfl, rfl⟩; exact ⟨rfl, Ext.refl _⟩)
          simp only [Act.put, List.setIfInBounds_toArray, List.set_cons_zero, List.set_cons_succ]
          refine WE_q 4 rfl (by decide) (by kernel_rfl) rfl ?_; apply Exists.intro; refine ⟨fun w1 hx1 => ?_, ?_⟩
          · have hq1 := hx1.cells; go_simp; try go_bits
            first | with_reducible rfl | (refine (cmpI_any _ _ _).mono ?_; rintro e w2 ⟨rfl, rfl⟩; exact ⟨rfl, Ext.refl _⟩)
          simp only [Act.put, List.setIfInBounds_toArray, List.set_cons_zero, List.set_cons_succ]
          refine WE_q 5 rfl (by decide) (by kernel_rfl) rfl ?_; apply Exists.intro; refine ⟨fun w1 hx1 => ?_, ?_⟩
          · have hq1 := hx1.cells; go_simp; try go_bits
            first | with_reducible rfl | (refine (cmpI_any _ _ _).mono ?_; rintro e w2 ⟨rfl, rfl⟩; exact ⟨rfl, Ext.refl _⟩)
          simp only [Act.put, List.setIfInBounds_toArray, List.set_cons_zero, List.set_cons_succ]
          refine WE_q 6 rfl (by decide) (by kernel_rfl) rfl ?_; apply Exists.intro; refine ⟨fun w1 hx1 => ?_, ?_⟩
          · have hq1 := hx1.cells; go_simp; try go_bits
            first | with_reducible rfl | (refine (cmpI_any _ _ _).mono ?_; rintro e w2 ⟨rfl, rfl⟩; exact ⟨rfl, Ext.refl _⟩)
          simp only [Act.put, List.setIfInBounds_toArray, List.set_cons_zero, List.set_cons_succ]
          refine WE_q 7 rfl (by decide) (by kernel_rfl) rfl ?_; apply Exists.intro; refine ⟨fun w1 hx1 => ?_, ?_⟩
          · have hq1 := hx1.cells; go_simp; try go_bits
            first | with_reducible rfl | (refine (cmpI_any _ _ _).mono ?_; rintro e w2 ⟨rfl, rfl⟩; exact ⟨rfl, Ext.refl _⟩)
          simp only [Act.put, List.setIfInBounds_toArray, List.set_cons_zero, List.set_cons_succ]
          refine WE_q 8 rfl (by decide) (by kernel_rfl) rfl ?_; apply Exists.intro; refine ⟨fun w1 hx1 => ?_, ?_⟩
          · have hq1 := hx1.cells; go_simp; try go_bits
            first | with_reducible rfl | (refine (cmpI_any _ _ _).mono ?_; rintro e w2 ⟨rfl, rfl⟩; exact ⟨rfl, Ext.refl _⟩)
          simp only [Act.put, List.setIfInBounds_toArray, List.set_cons_zero, List.set_cons_succ]
          refine WE_done (by kernel_rfl) (fun w3 hx3 => ?_)
          (try simp only [List.drop_succ_cons, List.drop_zero])
          go_wp2_with fail
          go_roundw
          case rel => exact ⟨k + 1, by omega, by go_num, HS2.out.symm, hx.trans hx3⟩
          case measure => simp [intOf]; omega
        · have hcd : (cmpI la[k] lb[k] != 0) = true := by simpa using hc
          have HS2 := Lib.hid (HS.out.trans (if_pos hc))
          clear HS hc
          go_wp2_with fail
          refine wp_region_E 9 rfl (by kernel_rfl) (by kernel_rfl) ?_
          refine WE_q 0 rfl (by decide) (by kernel_rfl) rfl ?_; apply Exists.intro; refine ⟨fun w1 hx1 => ?_, ?_⟩
          · have hq1 := hx1.cells; go_simp; try go_bits
            first | with_reducible rfl | (refine (cmpI_any _ _ _).mono ?_; rintro e w2 ⟨rfl, rfl⟩; exact ⟨rfl, Ext.refl _⟩)
          simp only [Act.put, List.setIfInBounds_toArray, List.set_cons_zero, List.set_cons_succ]
          refine WE_q 1 rfl (by decide) (by kernel_rfl) rfl ?_; apply Exists.intro; refine ⟨fun w1 hx1 => ?_, ?_⟩
          · have hq1 := hx1.cells; go_simp; try go_bits
            first | with_reducible rfl | (refine (cmpI_any _ _ _).mono ?_; rintro e w2 ⟨rfl, rfl⟩; exact ⟨rfl, Ext.refl _⟩)
          simp only [Act.put, List.setIfInBounds_toArray, List.set_cons_zero, List.set_cons_succ]
          refine WE_q 2 rfl (by decide) (by kernel_rfl) rfl ?_; apply Exists.intro; refine ⟨fun w1 hx1 => ?_, ?_⟩
          · have hq1 := hx1.cells; go_simp; try go_bits
            first | with_reducible rfl | (refine (cmpI_any _ _ _).mono ?_; rintro e w2 ⟨rfl, rfl⟩; exact ⟨rfl, Ext.refl _⟩)
          simp only [Act.put, List.setIfInBounds_toArray, List.set_cons_zero, List.set_cons_succ]
          refine WE_q 3 rfl (by decide) (by kernel_rfl) rfl ?_; apply Exists.intro; refine ⟨fun w1 hx1 => ?_, ?_⟩
          · have hq1 := hx1.cells; go_simp; try go_bits
            first | with_reducible rfl | (refine (cmpI_any _ _ _).mono ?_; rintro e w2 ⟨rfl, rfl⟩; exact ⟨rfl, Ext.refl _⟩)
          simp only [Act.put, List.setIfInBounds_toArray, List.set_cons_zero, List.set_cons_succ]
          refine WE_q 4 rfl (by decide) (by kernel_rfl) rfl ?_; apply Exists.intro; refine ⟨fun w1 hx1 => ?_, ?_⟩
          · have hq1 := hx1.cells; go_simp; try go_bits
            first | with_reducible rfl | (refine (cmpI_any _ _ _).mono ?_; rintro e w2 ⟨rfl, rfl⟩; exact ⟨rfl, Ext.refl _⟩)
          simp only [Act.put, List.setIfInBounds_toArray, List.set_cons_zero, List.set_cons_succ]
          refine WE_q 5 rfl (by decide) (by kernel_rfl) rfl ?_; apply Exists.intro; refine ⟨fun w1 hx1 => ?_, ?_⟩
          · have hq1 := hx1.cells; go_simp; try go_bits
            first | with_reducible rfl | (refine (cmpI_any _ _ _).mono ?_; rintro e w2 ⟨rfl, rfl⟩; exact ⟨rfl, Ext.refl _⟩)
          simp only [Act.put, List.setIfInBounds_toArray, List.set_cons_zero, List.set_cons_succ]
          refine WE_q 6 rfl (by decide) (by kernel_rfl) rfl ?_; apply Exists.intro; refine ⟨fun w1 hx1 => ?_, ?_⟩
          · have hq1 := hx1.cells; go_simp; try go_bits
            first | with_reducible rfl | (refine (cmpI_any _ _ _).mono ?_; rintro e w2 ⟨rfl, rfl⟩; exact ⟨rfl, Ext.refl _⟩)
          simp only [Act.put, List.setIfInBounds_toArray, List.set_cons_zero, List.set_cons_succ]
          refine WE_q 7 rfl (by decide) (by kernel_rfl) rfl ?_; apply Exists.intro; refine ⟨fun w1 hx1 => ?_, ?_⟩
          · have hq1 := hx1.cells; go_simp; try go_bits
            first | with_reducible rfl | (refine (cmpI_any _ _ _).mono ?_; rintro e w2 ⟨rfl, rfl⟩; exact ⟨rfl, Ext.refl _⟩)
          simp only [Act.put, List.setIfInBounds_toArray, List.set_cons_zero, List.set_cons_succ]
          refine WE_q 8 rfl (by decide) (by kernel_rfl) rfl ?_; apply Exists.intro; refine ⟨fun w1 hx1 => ?_, ?_⟩
          · have hq1 := hx1.cells; go_simp; try go_bits
            first | with_reducible rfl | (refine (cmpI_any _ _ _).mono ?_; rintro e w2 ⟨rfl, rfl⟩; exact ⟨rfl, Ext.refl _⟩)
          simp only [Act.put, List.setIfInBounds_toArray, List.set_cons_zero, List.set_cons_succ]
          refine WE_done (by kernel_rfl) (fun w3 hx3 => ?_)
          (try simp only [List.drop_succ_cons, List.drop_zero])
          go_wp2_with fail
          go_ret
          exact ⟨ret_int HS2.out.symm, hx.trans hx3⟩
      · have HE := Lib.hid (HG.out.symm.trans (cmpG_end (v := la) (w := lb) (k := k) (by omega)))
        go_wp2_with fail
        go_ret
        exact ⟨ret_int HE.out.symm, hx⟩
  · have hld : (cmpI la.length lb.length != 0) = true := by simpa using hl
    have HC := Lib.hid (show cmpL la lb = cmpI la.length lb.length by unfold cmpL; rw [if_pos hl])
    clear hl
    go_enter Try.func24, Try.ntmps24
    go_wp2_with (first | (go_at_call 53; (with_reducible refine (cmpI_any _ _ _).mono ?_); rintro e w2 ⟨rfl, rfl⟩))
    go_ret
    exact ⟨ret_int HC.out.symm, Ext.refl _⟩

set_option maxHeartbeats 1000000 in
theorem vecMay_any (va : Value) (la : List Int) (w : World) (ha : IntsAt w va la) :
    Calls Try.prog 25 #[va] w fun e w' => e = .returned (I (vmayV la)) ∧ Ext w w' := by
  obtain ⟨a, cap, rfl, a1, a2, a3⟩ := ha.form
  have A3 := Lib.hid a3
  clear a3
  unfold maxLen at a2
  go_enter Try.func25, Try.ntmps25
  go_wp2_with fail
  go_loopw [4, 7] (fun _ i wr => ∃ k : Nat, k ≤ la.length ∧ i = I k ∧ Hid (mayG la.length (la.drop k) = vmayV la) ∧ Ext w wr) (fun _ i _ => la.length - (intOf i).toNat)
  case atStart => exact ⟨0, by omega, rfl, rfl, Ext.refl w⟩
  case round =>
    obtain ⟨k, hk, rfl, HG, hx⟩ := hrel
    by_cases hlt : k < la.length
    · obtain ⟨b0, o0, rfl, p0⟩ := A3.out k la[k] (List.getElem?_eq_getElem hlt)
      replace p0 := hx.cell p0
      have HS := Lib.hid (mayG_step (n := la.length) hlt)
      rw [HG.out] at HS
      clear HG
      by_cases h1 : la[k] < -1
      · have hd : decide (la[k] < -1) = true := decide_eq_true h1
        have HS2 := Lib.hid (HS.out.trans (if_pos (.inl h1)))
        clear HS h1
        go_wp2_with fail
        go_ret
        exact ⟨ret_int HS2.out.symm, hx⟩
      · have hd : decide (la[k] < -1) = false := decide_eq_false h1
        by_cases h2 : (la.length : Int) ≤ la[k]
        · have hd2 : decide ((la.length : Int) ≤ la[k]) = true := decide_eq_true h2
          have HS2 := Lib.hid (HS.out.trans (if_pos (.inr h2)))
          clear HS h1 h2
          go_wp2_with fail
          go_ret
          exact ⟨ret_int HS2.out.symm, hx⟩
        · have hd2 : decide ((la.length : Int) ≤ la[k]) = false := decide_eq_false h2
          have HS2 := Lib.hid (HS.out.trans (if_neg (by omega)))
          clear HS h1 h2
          go_wp2_with fail
          go_roundw
          case rel => exact ⟨k + 1, by omega, by go_num, HS2.out.symm, hx⟩
          case measure => simp [intOf]; omega
    · have HE := Lib.hid (HG.out.symm.trans (mayG_end (n := la.length) (v := la) (k := k) (by omega)))
      go_wp2_with fail
      go_ret
      exact ⟨ret_int HE.out.symm, hx⟩
end Go.Proofs.Ytilaljdokpdcoaa
