/- The law CutsRule: the cuts of one rule. Conditions: none. -/
import Derived.Test.YtilaljdokpdcoaaShown12
import Derived.Test.YtilaljdokpdcoaaCutsL
namespace Go.Proofs.Ytilaljdokpdcoaa
open Go.RowKit

/-- What the law asks of an address, its interval's ends, and the prefix's. -/
structure OneRule (l : List (BitVec 32)) (lo hi F T : BitVec 32) (want : Int) (inn : Bool) : Prop where
  len : (l.length : Int) = want
  yes : inn = true → F = lo ∧ T = hi
  no : inn = false → ((F == lo) = false ∨ (T == hi) = false) ∧ (decide (uv T < uv lo) = true ∨ (decide (uv T < uv lo) = false ∧ decide (uv hi < uv F) = true))
def wantV (lo hi : BitVec 32) : Int := 1 + (if 0 < uv lo then 1 else 0) + (if uv hi < 4294967295 then 1 else 0)
theorem rcut_one (x : BitVec 32) (m : Int) (hx : lowV x m = x) : cutI [⟨x, m, 3, 0⟩] = 0 :: uv x :: (if uv (highV x m) = 4294967295 then [] else [uv (highV x m) + 1]) := by
  unfold cutI rcut
  simp [hx]
theorem uv_succ {x : BitVec 32} (h : uv x < 4294967295) : uv (x + 1#32) = uv x + 1 := by
  have h1 := uv_bd x
  unfold uv at *
  rw [BitVec.toNat_add]
  simp
  omega
theorem oneRule (x : BitVec 32) (m : Int) (a : BitVec 32) {l : List (BitVec 32)} (hC : Cuts [⟨x, m, 3, 0⟩] l) (hx : lowV x m = x) (h0 : l[0]? = some 0#32) :
    OneRule l x (highV x m) (l[ivN l a]'(ivN_lt h0 a)) (endV l (ivN l a)) (wantV x (highV x m)) (holdsV x m a) := by
  have hr : Rising l := hC.1
  have hle : uv x ≤ uv (highV x m) := by have := ends_int x m; rwa [hx] at this
  have hin : holdsV x m a = true ↔ uv x ≤ uv a ∧ uv a ≤ uv (highV x m) := by
    have := holds_ends x a m
    rw [hx] at this
    rw [this]; unfold uv; omega
  have hmem : ∀ c : BitVec 32, c ∈ l ↔ uv c = 0 ∨ uv c = uv x ∨ (uv (highV x m) ≠ 4294967295 ∧ uv c = uv (highV x m) + 1) := by
    intro c
    rw [hC.2, rcut_one x m hx]
    by_cases ht : uv (highV x m) = 4294967295
    · simp [ht]
    · simp [ht]
  have hxl : x ∈ l := (hmem x).2 (.inr (.inl rfl))
  generalize highV x m = hi at *
  have hhb := uv_bd hi
  have hxb := uv_bd x
  have hab := uv_bd a
  have hF := iv_from h0 a
  have hT := iv_to hr h0 a
  have hFm : l[ivN l a]'(ivN_lt h0 a) ∈ l := List.getElem_mem _
  have hEn := iv_end hr a
  have hBel : ∀ c ∈ l, uv c ≤ uv a → uv c ≤ uv (l[ivN l a]'(ivN_lt h0 a)) := fun c hc h => iv_below hr h0 a hc h
  have hAbo : ∀ c ∈ l, uv a < uv c → uv (endV l (ivN l a)) < uv c := fun c hc h => iv_above hr h0 a hc h
  generalize l[ivN l a]'(ivN_lt h0 a) = F at *
  generalize endV l (ivN l a) = T at *
  have hTb := uv_bd T
  have hFc := (hmem F).1 hFm
  have hTc : uv T = 4294967295 ∨ uv T + 1 = uv x ∨ (uv hi ≠ 4294967295 ∧ uv T = uv hi) := by
    rcases hEn with e | ⟨c, hc, e⟩
    · left; rw [e]; rfl
    · rcases (hmem c).1 hc with g | g | ⟨g, g2⟩
      · omega
      · right; left; omega
      · right; right; exact ⟨g, by omega⟩
  have hBx := hBel x hxl
  have hAx := hAbo x hxl
  have hHi : uv hi ≠ 4294967295 → (uv hi + 1 ≤ uv a → uv hi + 1 ≤ uv F) ∧ (uv a < uv hi + 1 → uv T < uv hi + 1) := fun hne => by
    have he := uv_succ (x := hi) (by omega)
    have hm : hi + 1#32 ∈ l := (hmem _).2 (.inr (.inr ⟨hne, he⟩))
    have h1 := hBel _ hm
    have h2 := hAbo _ hm
    rw [he] at h1 h2
    exact ⟨h1, h2⟩
  refine ⟨?_, fun h => ?_, fun h => ?_⟩
  · -- how many
    have huniq : ∀ z : List (BitVec 32), Rising z → (∀ c : BitVec 32, c ∈ z ↔ uv c = 0 ∨ uv c = uv x ∨ (uv hi ≠ 4294967295 ∧ uv c = uv hi + 1)) → l.length = z.length := by
      intro z hz hzm
      have : l.Perm z := (List.perm_ext_iff_of_nodup (hr.imp (fun {x y} h e => by subst e; omega)) (hz.imp (fun {x y} h e => by subst e; omega))).2 fun c => by rw [hmem, hzm]
      exact this.length_eq
    have hzero : ∀ c : BitVec 32, uv c = 0 ↔ c = 0#32 := fun c => ⟨fun h => uv_inj (by rw [h]; rfl), fun h => by rw [h]; rfl⟩
    unfold wantV
    by_cases h1 : 0 < uv x
    · by_cases h2 : uv hi < 4294967295
      · have he := uv_succ h2
        rw [if_pos h1, if_pos h2, huniq [0#32, x, hi + 1#32]]
        · rfl
        · simp [Rising, uv_zero, he]; omega
        · intro c
          simp only [List.mem_cons, List.not_mem_nil, or_false]
          rw [hzero]
          have e1 : c = x ↔ uv c = uv x := ⟨fun h => by rw [h], uv_inj⟩
          have e2 : c = hi + 1#32 ↔ uv c = uv hi + 1 := ⟨fun h => by rw [h, he], fun h => uv_inj (by rw [h, he])⟩
          rw [e1, e2]
          have : uv hi ≠ 4294967295 := by omega
          simp [this]
      · rw [if_pos h1, if_neg h2, huniq [0#32, x]]
        · rfl
        · simp [Rising, uv_zero]; omega
        · intro c
          simp only [List.mem_cons, List.not_mem_nil, or_false]
          rw [hzero]
          have e1 : c = x ↔ uv c = uv x := ⟨fun h => by rw [h], uv_inj⟩
          rw [e1]
          have : uv hi = 4294967295 := by omega
          simp [this]
    · have hx0 : uv x = 0 := by omega
      by_cases h2 : uv hi < 4294967295
      · have he := uv_succ h2
        rw [if_neg h1, if_pos h2, huniq [0#32, hi + 1#32]]
        · rfl
        · simp [Rising, uv_zero, he]; omega
        · intro c
          simp only [List.mem_cons, List.not_mem_nil, or_false]
          rw [hx0, hzero]
          have e2 : c = hi + 1#32 ↔ uv c = uv hi + 1 := ⟨fun h => by rw [h, he], fun h => uv_inj (by rw [h, he])⟩
          rw [e2]
          have : uv hi ≠ 4294967295 := by omega
          simp [this]
      · rw [if_neg h1, if_neg h2, huniq [0#32]]
        · rfl
        · simp [Rising]
        · intro c
          simp only [List.mem_cons, List.not_mem_nil, or_false]
          rw [hx0, hzero]
          have : uv hi = 4294967295 := by omega
          simp [this]
  · have hi2 := hin.1 h
    constructor
    · apply uv_inj
      rcases hFc with g | g | ⟨g, g2⟩ <;> omega
    · apply uv_inj
      by_cases ht : uv hi = 4294967295
      · rcases hTc with g | g | ⟨g, g2⟩ <;> omega
      · have := (hHi ht).2 (by omega)
        rcases hTc with g | g | ⟨g, g2⟩ <;> omega
  · have hn : ¬ (uv x ≤ uv a ∧ uv a ≤ uv hi) := fun g => by rw [hin.2 g] at h; cases h
    refine ⟨?_, ?_⟩
    · by_cases e : F = x
      · right
        rw [beq_eq_false_iff_ne]
        intro e2
        subst e; subst e2
        exact hn ⟨hF, hT⟩
      · left; rw [beq_eq_false_iff_ne]; exact e
    · by_cases g : uv a < uv x
      · left; exact decide_eq_true (hAx g)
      · have hne : uv hi ≠ 4294967295 := by omega
        have := (hHi hne).1 (by omega)
        have h3 : ¬ uv T < uv x := by omega
        right; exact ⟨decide_eq_false h3, decide_eq_true (by omega)⟩
theorem in64_r33 (n : Nat) : In64 ((n : Int) % 33) := by unfold In64; omega
theorem rule_ok (x : BitVec 32) {m : Int} (h0 : 0 ≤ m) (h1 : m ≤ 32) : TablesOk [[⟨x, m, 3, 0⟩]] := by
  intro l hl r hr
  simp at hl; subst hl
  simp at hr; subst hr
  exact ⟨by unfold In64; simp; omega, by unfold In64; simp, by unfold In64; simp⟩
theorem rule_cap (x : BitVec 32) (m : Int) : SortCap (cutI [[(⟨x, m, 3, 0⟩ : Rul)]].flatten).length := by
  show (cutI [(⟨x, m, 3, 0⟩ : Rul)]).length ≤ 12
  by_cases h : uv (highV x m) = 4294967295 <;> simp [cutI, rcut, h]
theorem want_ways (lo hi : BitVec 32) : (decide (0 < uv lo) = true ∧ decide (uv hi < 4294967295) = true ∧ Hid (wantV lo hi = 3)) ∨ (decide (0 < uv lo) = true ∧ decide (uv hi < 4294967295) = false ∧ Hid (wantV lo hi = 2)) ∨
    (decide (0 < uv lo) = false ∧ decide (uv hi < 4294967295) = true ∧ Hid (wantV lo hi = 2)) ∨ (decide (0 < uv lo) = false ∧ decide (uv hi < 4294967295) = false ∧ Hid (wantV lo hi = 1)) := by
  unfold wantV
  by_cases h1 : 0 < uv lo <;> by_cases h2 : uv hi < 4294967295
  · exact .inl ⟨decide_eq_true h1, decide_eq_true h2, Lib.hid (by rw [if_pos h1, if_pos h2]; rfl)⟩
  · exact .inr (.inl ⟨decide_eq_true h1, decide_eq_false h2, Lib.hid (by rw [if_pos h1, if_neg h2]; rfl)⟩)
  · exact .inr (.inr (.inl ⟨decide_eq_false h1, decide_eq_true h2, Lib.hid (by rw [if_neg h1, if_pos h2]; rfl)⟩))
  · exact .inr (.inr (.inr ⟨decide_eq_false h1, decide_eq_false h2, Lib.hid (by rw [if_neg h1, if_neg h2]; rfl)⟩))
set_option maxRecDepth 100000 in
set_option maxHeartbeats 2000000 in
theorem cutsRule_any (at0 : BitVec 32) (n : Nat) (a : BitVec 32) (w : World) (hn : n < 256) :
    Calls Try.prog 9 #[U at0, .int .u8 n, U a] w fun e w' => e = .returned (.bool true) ∧ Ext w w' := by
  have b0 : 0 ≤ (n : Int) % 33 := by omega
  have b1 : (n : Int) % 33 ≤ 32 := by omega
  have HM := Lib.hid (in64_r33 n)
  go_enter Try.func9, Try.ntmps9
  go_upto_region 5 with (first
    | (go_at_call 29; with_reducible refine (shown12_any _).mono ?_; rintro e w1 ⟨rfl, hx1⟩)
    | (go_at_call 35; with_reducible refine (mask_any _ _ HM.out).mono ?_; rintro e w' ⟨rfl, rfl⟩)
    | (go_at_call 31; with_reducible refine (ends_any _ _ _ HM.out).mono ?_; rintro e w' ⟨rfl, rfl⟩))
  have HX := Lib.hid (show lowV (at0 &&& maskV ((n : Int) % 33)) ((n : Int) % 33) = at0 &&& maskV ((n : Int) % 33) by unfold lowV; rw [BitVec.and_assoc, BitVec.and_self])
  have hlx : lowV (at0 &&& maskV ((n : Int) % 33)) ((n : Int) % 33) = at0 &&& maskV ((n : Int) % 33) := HX.out
  rw [hlx]
  clear hlx
  have HX1 := Lib.hid hx1
  clear hx1
  generalize hm : (n : Int) % 33 = m at *
  clear hm
  generalize hx : at0 &&& maskV m = x at *
  clear hx
  have HN := Lib.hid (net1_at w1 ⟨x, m, 3, 0⟩)
  have HXA := Lib.hid (show Ext w1 ((w1.alloc (.cells #[U x, I m, I 3, I 0] 42)).alloc (.cells #[.slice (some ⟨w1.heap.size, 0, none⟩) 1 1] 39)) by (repeat (first | with_reducible exact Ext.refl _ | with_reducible assumption | with_reducible refine Ext.alloc ?_ _ | with_reducible refine Ext.drew ?_ | with_reducible refine Ext.drewN ?_ _ | (with_reducible refine Ext.setCellP ?_ ?_; focus (first | (simp; done) | (simp; omega) | omega)))))
  have HRO := Lib.hid (rule_ok x b0 b1)
  have HRC := Lib.hid (rule_cap x m)
  go_upto_region 6 with (go_at_call 30; refine (cutsOf_any _ [[⟨x, m, 3, 0⟩]] _ HN.out HRO.out HRC.out).mono ?_; rintro e w2 ⟨v, l, rfl, hO, hC, hx2⟩)
  have h0 : l[0]? = some 0#32 := cuts_zero hC.1 ((hC.2 0#32).2 (by simp [cutI, uv_zero]))
  have HL := Lib.hid (oneRule x m a hC HX.out h0)
  have HU := Lib.hid hO.us
  have HZ := Lib.hid h0
  have HX2 := Lib.hid (HX1.out.trans (HXA.out.trans hx2))
  have HLT := Lib.hid (ivN_lt h0 a)
  clear hC hO hx2 HN HXA HRO HRC HX1 HX
  generalize highV x m = hi at *
  rcases want_ways x hi with ⟨d1, d2, HW⟩ | ⟨d1, d2, HW⟩ | ⟨d1, d2, HW⟩ | ⟨d1, d2, HW⟩
  all_goals
    go_upto_region 14 with (first
      | (go_at_call 32; with_reducible refine (cutsAt_any v l a _ HU.out).mono ?_; rintro e w' ⟨he, rfl⟩; rw [ivN_int HZ.out a] at he; subst he)
      | (go_at_call 34; with_reducible refine (cutsEnds_any v l (ivN l a) _ HU.out HLT.out).mono ?_; rintro e w' ⟨rfl, rfl⟩)
      | (go_at_call 36; with_reducible refine (holds_any _ _ _ _ HM.out).mono ?_; rintro e w' ⟨rfl, rfl⟩))
  all_goals
    have hlen := HL.out.len.trans HW.out
    have hle : (l.length : Int) = (l.length : Int) := rfl
    have HY := Lib.hid HL.out.yes
    have HNO := Lib.hid HL.out.no
    obtain ⟨ad, cap, rfl, f1, f2, f3⟩ := HU.out.form
    clear f3 HL HW HU HZ hle
    unfold maxLen at f2
    have hlb := beq_iff_eq.2 hlen
    generalize l[ivN l a] = F at *
    generalize endV l (ivN l a) = T at *
    cases hin : holdsV x m a
    · obtain ⟨hh, hg⟩ := HNO.out hin
      clear HY HNO
      rcases hg with hg | ⟨hg1, hg2⟩
      · cases hF : (F == x)
        · go_wp2_with fail
          go_ret
          exact ⟨rfl, HX2.out⟩
        · have hT : (T == hi) = false := hh.resolve_left (by rw [hF]; exact Bool.noConfusion)
          go_wp2_with fail
          go_ret
          exact ⟨rfl, HX2.out⟩
      · cases hF : (F == x)
        · go_wp2_with fail
          go_ret
          exact ⟨rfl, HX2.out⟩
        · have hT : (T == hi) = false := hh.resolve_left (by rw [hF]; exact Bool.noConfusion)
          go_wp2_with fail
          go_ret
          exact ⟨rfl, HX2.out⟩
    · obtain ⟨rfl, rfl⟩ := HY.out hin
      clear HNO
      go_wp2_with fail
      go_ret
      exact ⟨rfl, HX2.out⟩
end Go.Proofs.Ytilaljdokpdcoaa
