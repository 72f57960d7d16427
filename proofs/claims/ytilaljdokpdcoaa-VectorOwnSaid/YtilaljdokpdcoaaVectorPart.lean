/- The law VectorPart: the walk. Conditions: whole numbers are within 64 bits. -/
import Derived.Test.YtilaljdokpdcoaaShown13
import Derived.Test.YtilaljdokpdcoaaNetFit
namespace Go.Proofs.Ytilaljdokpdcoaa
open Go.RowKit

theorem own_put {w : World} {B : Nat} {e : TypeId} {v : Value} {n : Nat} {xs : List Value} (h : w.ownsRow B e 1 v n xs) {i : Nat} (hi : i < n) :
    ∃ g cap, v = .slice (some ⟨g, 0, none⟩) n cap ∧ B ≤ g ∧ g < w.heap.size ∧ n ≤ cap ∧ cap ≤ maxLen ∧ (∀ j x, xs[j]? = some x → w.cell? ⟨g, j, none⟩ = some x) ∧ (∀ o, w.frozen? ⟨g, o, none⟩ = false) ∧
      ∀ u, (w.setCell ⟨g, i, none⟩ u).ownsRow B e 1 v n (xs.set i u) := by
  have hlt := h.lt
  obtain ⟨h0, h1⟩ := h
  rcases h1 with ⟨_, h1⟩ | ⟨g, cap, cur, h1, h2, h3, h4, h5, h6, h7⟩
  · omega
  · subst h1
    refine ⟨g, cap, rfl, h2, (hlt g rfl).2, h4, h5, fun j x hj => ?_, fun o => ?_, fun u => ⟨by simpa using h0, .inr ⟨g, cap, cur.set! i u, rfl, h2, ?_, h4, h5, by simpa using h6, ?_⟩⟩⟩
    · have hjn : j < n * 1 := by rw [← h0]; exact (List.getElem?_eq_some_iff.1 hj).1
      rw [← h7, List.getElem?_take_of_lt hjn] at hj
      simpa [World.cell?, h3] using hj
    · simp [World.frozen?, h3]
    · simp [World.setCell, Array.getElem?_modify, h3, Array.set!]
    · rw [← h7]
      simp [Array.set!, List.take_set]
/-- With one node's rules in another one's place. -/
def putN (N : List (List Rul)) (i j : Nat) : List (List Rul) := N.set i (N.getD j [])
theorem putN_len (N : List (List Rul)) (i j : Nat) : (putN N i j).length = N.length := by unfold putN; simp
theorem putN_mem {N : List (List Rul)} {i j : Nat} (hj : j < N.length) {l : List Rul} (h : l ∈ putN N i j) : l ∈ N := by
  unfold putN at h
  rcases List.mem_or_eq_of_mem_set h with h | h
  · exact h
  · rw [h, List.getD_eq_getElem?_getD, List.getElem?_eq_getElem hj]; exact List.getElem_mem hj
theorem putN_may {N : List (List Rul)} {i j : Nat} (hj : j < N.length) (h8 : N.length ≤ 8) (h20 : ∀ l ∈ N, l.length ≤ 20) (hm : netMayV N = 0) : netMayV (putN N i j) = 0 ∧ sizeN (putN N i j) ≤ 160 := by
  have hs : sizeN (putN N i j) ≤ 160 := by
    have h := @sizeN_le (putN N i j) 20 fun l hl => h20 l (putN_mem hj hl)
    rw [putN_len] at h
    have : N.length * 20 ≤ 8 * 20 := Nat.mul_le_mul_right _ h8
    omega
  refine ⟨?_, hs⟩
  unfold netMayV
  rw [putN_len, if_neg (by omega)]
  exact netG_zero fun l hl => (netMay_tabs hm).2.2 l (putN_mem hj hl)
theorem putN_vec {N : List (List Rul)} {i j : Nat} (hj : j < N.length) (a : BitVec 32) {k : Nat} (hk : k < N.length) :
    (vecV (putN N i j) a)[k]? = some (if k = i then (stepO N[j] a).getD (-1) else (stepO N[k] a).getD (-1)) := by
  unfold vecV putN
  rw [List.getElem?_map, List.getElem?_set]
  by_cases e : i = k
  · subst e
    rw [if_pos rfl, if_pos hk, if_pos rfl, List.getD_eq_getElem?_getD, List.getElem?_eq_getElem hj]; rfl
  · rw [if_neg e, if_neg (fun h => e h.symm), List.getElem?_eq_getElem hk]; rfl
theorem fitN_bd (ls : List (List Rul)) : 1 ≤ (fitN ls).length ∧ (fitN ls).length ≤ 8 := by rw [fitN_len]; exact manyN_bd ls

set_option maxHeartbeats 4000000 in
set_option maxRecDepth 100000 in
theorem vectorPart_any (lv : Value) (ls : List (List Rul)) (x y : Nat) (a : BitVec 32) (w : World) (hl : TablesAt w lv ls) (hok : TablesOk ls) (hx : x < 256) (hy : y < 256) :
    Calls Try.prog 4 #[.agg #[lv], .agg #[.int .u8 (x : Int), .int .u8 (y : Int)], U a] w fun e w' => e = .returned (.bool true) ∧ Ext w w' := by
  have HL := Lib.hid hl
  have HOK := Lib.hid hok
  obtain ⟨ad, cap, hlv, a1, a2, a3⟩ := hl.form
  subst hlv
  clear a3 hl hok
  unfold maxLen at a2
  go_enter Try.func4, Try.ntmps4
  go_upto_region 1 with (fail)
  refine hideW (Φ := fun W => Code.wp _ _ _ _ W) (fun W => Ext w W ∧ Blk W w.heap.size [.slice ad ls.length cap] 24 ∧ Blk W (w.heap.size + 1) [.int .u8 (x : Int), .int .u8 (y : Int)] 38)
    ⟨by (repeat (first | with_reducible exact Ext.refl _ | with_reducible assumption | with_reducible refine Ext.alloc ?_ _ | with_reducible refine Ext.drew ?_ | with_reducible refine Ext.drewN ?_ _ | (with_reducible refine Ext.setCellP ?_ ?_; focus (first | (simp; done) | (simp; omega) | omega)))), (Blk.new w [.slice ad ls.length cap] 24).old _, Blk.newAt [.int .u8 (x : Int), .int .u8 (y : Int)] (by simp)⟩ (fun W1 hW1 => ?_)
  obtain ⟨hx1, hb1, hk1⟩ := hW1
  have HX1 := Lib.hid hx1
  have HB1 := Lib.hid hb1
  have HK1 := Lib.hid hk1
  clear hx1 hb1 hk1
  generalize w.heap.size = nb at *
  go_upto_region 2 with (first
    | (go_at_call 15; (with_reducible refine (shown13_any _).mono ?_); rintro e w2 ⟨rfl, hx2⟩; have HX2 := Lib.hid (HX1.out.trans hx2); have HB2 := Lib.hid (HB1.out.later hx2); have HK2 := Lib.hid (HK1.out.later hx2); clear hx2))
  have hbc2 := HB2.out.cells
  have HNM := Lib.hid (fitN_may ls)
  have HNS := Lib.hid (fitN_size ls)
  have HNO := Lib.hid (fitN_ok ls)
  have HN20 := Lib.hid (@fitN_short ls)
  have hN := fitN_bd ls
  go_upto_region 3 with (first
    | (go_at_call 22; (with_reducible refine (r09Fit_any _ ls _ (HL.out.later HX2.out) HOK.out).mono ?_); rintro e w3 ⟨v3, he, hF, hx3⟩; subst he; have HF3 := Lib.hid hF.tables; obtain ⟨va, vcap, hv3, q1, q2, q3⟩ := HF3.out.form; subst hv3; clear q3; have HX3 := Lib.hid (HX2.out.trans hx3); have HK3 := Lib.hid (HK2.out.later hx3); clear hF hx3))
  generalize fitN ls = N at *
  clear hbc2 HB2 HB1 HK2 HK1
  unfold maxLen at q2
  refine hideW (Φ := fun W => Code.wp _ _ _ _ W) (fun W => Ext w3 W ∧ Blk W w3.heap.size [.slice va N.length vcap] 24)
    ⟨by (repeat (first | with_reducible exact Ext.refl _ | with_reducible assumption | with_reducible refine Ext.alloc ?_ _ | with_reducible refine Ext.drew ?_ | with_reducible refine Ext.drewN ?_ _ | (with_reducible refine Ext.setCellP ?_ ?_; focus (first | (simp; done) | (simp; omega) | omega)))), Blk.new w3 [.slice va N.length vcap] 24⟩ (fun W4 hW4 => ?_)
  obtain ⟨hx4, hb4⟩ := hW4
  have HX4 := Lib.hid (HX3.out.trans hx4)
  have HF4 := Lib.hid (HF3.out.later hx4)
  have HB4 := Lib.hid hb4
  have hbc4 := hb4.cells
  have hkc4 := (HK3.out.later hx4).cells
  clear hx4 hb4 HF3 HX3 HK3 HX1 HX2
  generalize w3.heap.size = fb at *
  obtain ⟨i, hi1, hi2, hi3⟩ : ∃ i : Nat, (x : Int) % (N.length : Int) = i ∧ (x : Int).tmod (N.length : Int) = i ∧ i < N.length := by
    have h1 := Int.emod_nonneg (x : Int) (show (N.length : Int) ≠ 0 by omega)
    have h2 := Int.emod_lt_of_pos (x : Int) (show (0 : Int) < (N.length : Int) by omega)
    exact ⟨((x : Int) % (N.length : Int)).toNat, by omega, by rw [Int.tmod_eq_emod_of_nonneg (by omega)]; omega, by omega⟩
  obtain ⟨j, hj1, hj2, hj3⟩ : ∃ j : Nat, (y : Int) % (N.length : Int) = j ∧ (y : Int).tmod (N.length : Int) = j ∧ j < N.length := by
    have h1 := Int.emod_nonneg (y : Int) (show (N.length : Int) ≠ 0 by omega)
    have h2 := Int.emod_lt_of_pos (y : Int) (show (0 : Int) < (N.length : Int) by omega)
    exact ⟨((y : Int) % (N.length : Int)).toNat, by omega, by rw [Int.tmod_eq_emod_of_nonneg (by omega)]; omega, by omega⟩
  go_upto_region 6 with (fail)
  have HI := Lib.hid (And.intro hi1 hj1)
  clear hi1 hi2 hj1 hj2 hkc4
  go_upto_region 7 with (first
    | (go_at_call 16; (with_reducible refine (vecNew_good _ N _ HF4.out HNO.out HNM.out (Nat.le_trans HNS.out (by decide))).mono ?_); rintro e w5 ⟨mb, he, hM, hx5⟩; subst he; have HM5 := Lib.hid hM; have HX5 := Lib.hid (HX4.out.trans hx5); have HF5 := Lib.hid (HF4.out.later hx5); have HB5 := Lib.hid (HB4.out.later hx5); clear hM hx5))
  clear hbc4 HF4 HB4 HX4
  -- the row of the nodes, taken over
  obtain ⟨vs, hrd, hvs⟩ := HF5.out
  have HRD := Lib.hid hrd
  have HVS := Lib.hid hvs
  clear hrd hvs
  have HAX := Lib.hid (show Ext w5 (w5.alloc (.cells #[] 39)) from (Ext.refl _).alloc _)
  have HOW := Lib.hid (show (w5.alloc (.cells #[] 39)).ownsRow w5.heap.size 39 1 (.slice (some ⟨w5.heap.size, 0, none⟩) 0 0) 0 [] from own_made w5 1 39 0 [] rfl (by unfold maxLen; omega))
  have HRD6 := Lib.hid (HRD.out.later HAX.out)
  have hbc6 := (HB5.out.later HAX.out).cells
  have HONE := Lib.hid (show ∀ u ∈ vs, u.oneCell' = true by
    intro u hu
    obtain ⟨k, hk, hku⟩ := List.mem_iff_getElem.1 hu
    have hkn : k < N.length := by have := HRD.out.1; omega
    obtain ⟨q, q1, q2⟩ := HVS.out k _ (List.getElem?_eq_getElem hkn)
    rw [List.getElem?_eq_getElem hk] at q1
    cases q1
    obtain ⟨_, _, e, _⟩ := q2.form
    rw [← hku, e]; rfl)
  go_upto_region 8 with (first
    | (at_builtin; refine wpList_app rfl (.tmp 41) (.tmp 43) 22 rfl w5.heap.size 39 _ 1 24 Try.underlying22 infoRules rfl (by decide) (by decide) _ _ _ rfl HOW.out _ _ _ rfl HRD6.out HONE.out (by omega) HAX.out.size ?_; intro v7 w7 ho7 hg7
       have HO7 := Lib.hid ho7
       have HX7 := Lib.hid (show Ext w5 w7 from Ext.grown HAX.out hg7 HOW.out (Nat.le_refl _))
       have ho7' := ho7
       rw [Nat.zero_add] at ho7'
       obtain ⟨g, gcap, hv7, g1, g2, g3, g4, g5, g6, g7⟩ := own_put ho7' hi3
       subst hv7
       have HG1 := Lib.hid g1
       have HG2 := Lib.hid g2
       have HG5 := Lib.hid g5
       have HG6 := Lib.hid g6
       have HG7 := Lib.hid g7
       clear ho7 ho7' hg7 g1 g2 g5 g6 g7))
  refine hideW (Φ := fun W => Code.wp _ _ _ _ W) (fun W => Ext w7 W ∧ Blk W w7.heap.size [.slice (some ⟨g, 0, none⟩) N.length gcap] 24)
    ⟨by (repeat (first | with_reducible exact Ext.refl _ | with_reducible assumption | with_reducible refine Ext.alloc ?_ _ | with_reducible refine Ext.drew ?_ | with_reducible refine Ext.drewN ?_ _ | (with_reducible refine Ext.setCellP ?_ ?_; focus (first | (simp; done) | (simp; omega) | omega)))), Blk.new w7 [.slice (some ⟨g, 0, none⟩) N.length gcap] 24⟩ (fun W8 hW8 => ?_)
  obtain ⟨hx8, hb8⟩ := hW8
  have HX8 := Lib.hid (HX7.out.trans hx8)
  have HB8 := Lib.hid hb8
  have HO8 := Lib.hid (show W8.ownsRow w5.heap.size 39 1 (.slice (some ⟨g, 0, none⟩) N.length gcap) N.length vs by
    have := own_later HO7.out hx8
    rwa [Nat.zero_add, List.nil_append] at this)
  clear hx8 hb8 HO7 HG1 HG2 HG5 HG6 HG7 HX7 HOW HRD6 HONE hbc6 HAX
  generalize hub : w7.heap.size = ub at *
  clear hub
  obtain ⟨uj, huj, hrj⟩ := HVS.out j N[j] (List.getElem?_eq_getElem hj3)
  have HUJ := Lib.hid huj
  have HRJ := Lib.hid hrj
  obtain ⟨b0, o0, p0⟩ : ∃ b0 o0, va = some ⟨b0, o0, none⟩ := by
    obtain ⟨a', cap', he, _, _, h5⟩ := HF5.out.form
    obtain ⟨b0, o0, u, h6, _⟩ := h5 j N[j] (List.getElem?_eq_getElem hj3)
    simp at he
    exact ⟨b0, o0, he.1.trans h6⟩
  subst p0
  have pj := Ext.keep (HX8.out.cell (by
    obtain ⟨_, a', cap', he, _, _, _, h5⟩ := HRD.out
    simp at he
    exact (h5 ⟨b0, o0, none⟩ he.1.symm).2 j uj huj))
  obtain ⟨ua, ucap, huf, _, _, _⟩ := hrj.form
  subst huf
  have kb := (HB5.out.later HX8.out).keep
  have ku := HB8.out.keep
  clear huj hrj
  go_wp2_with fail
  refine wp_region_E 9 rfl (by kernel_rfl) (by kernel_rfl) ?_
  refine WE_q 0 rfl (by decide) (by kernel_rfl) rfl ?_; apply Exists.intro; refine ⟨fun w1 hx1 => ?_, ?_⟩
  · have hq1 := hx1.cells; go_simp; try go_bits
    first | with_reducible rfl
  simp only [Act.put, List.setIfInBounds_toArray, List.set_cons_zero, List.set_cons_succ]
  refine WE_q 1 rfl (by decide) (by kernel_rfl) rfl ?_; apply Exists.intro; refine ⟨fun w1 hx1 => ?_, ?_⟩
  · have hq1 := hx1.cells; go_simp; try go_bits
    first | with_reducible rfl
  simp only [Act.put, List.setIfInBounds_toArray, List.set_cons_zero, List.set_cons_succ]
  refine WE_q 2 rfl (by decide) (by kernel_rfl) rfl ?_; apply Exists.intro; refine ⟨fun w1 hx1 => ?_, ?_⟩
  · have hq1 := hx1.cells; go_simp; try go_bits
    first | with_reducible rfl
  simp only [Act.put, List.setIfInBounds_toArray, List.set_cons_zero, List.set_cons_succ]
  refine WE_q 3 rfl (by decide) (by kernel_rfl) rfl ?_; apply Exists.intro; refine ⟨fun w1 hx1 => ?_, ?_⟩
  · have hq1 := hx1.cells; go_simp; try go_bits
    first | with_reducible rfl
  simp only [Act.put, List.setIfInBounds_toArray, List.set_cons_zero, List.set_cons_succ]
  refine WE_q 4 rfl (by decide) (by kernel_rfl) rfl ?_; apply Exists.intro; refine ⟨fun w1 hx1 => ?_, ?_⟩
  · have hq1 := hx1.cells; go_simp; try go_bits
    first | with_reducible rfl
  simp only [Act.put, List.setIfInBounds_toArray, List.set_cons_zero, List.set_cons_succ]
  refine WE_q 5 rfl (by decide) (by kernel_rfl) rfl ?_; apply Exists.intro; refine ⟨fun w1 hx1 => ?_, ?_⟩
  · have hq1 := hx1.cells; go_simp; try go_bits
    first | with_reducible rfl
  simp only [Act.put, List.setIfInBounds_toArray, List.set_cons_zero, List.set_cons_succ]
  refine WE_q 6 rfl (by decide) (by kernel_rfl) rfl ?_; apply Exists.intro; refine ⟨fun w1 hx1 => ?_, ?_⟩
  · have hq1 := hx1.cells; go_simp; try go_bits
    first | with_reducible rfl
  simp only [Act.put, List.setIfInBounds_toArray, List.set_cons_zero, List.set_cons_succ]
  refine WE_q 7 rfl (by decide) (by kernel_rfl) rfl ?_; apply Exists.intro; refine ⟨fun w1 hx1 => ?_, ?_⟩
  · have hq1 := hx1.cells; go_simp; try go_bits
    first | with_reducible rfl
  simp only [Act.put, List.setIfInBounds_toArray, List.set_cons_zero, List.set_cons_succ]
  refine WE_q 8 rfl (by decide) (by kernel_rfl) rfl ?_; apply Exists.intro; refine ⟨fun w1 hx1 => ?_, ?_⟩
  · have hq1 := hx1.cells; go_simp; try go_bits
    first | with_reducible rfl
  simp only [Act.put, List.setIfInBounds_toArray, List.set_cons_zero, List.set_cons_succ]
  refine WE_done (by kernel_rfl) (fun w9 hx9 => ?_)
  (try simp only [List.drop_succ_cons, List.drop_zero])
  have HO9 := own_later HO8.out hx9
  obtain ⟨g', gcap', hg', g1, g2, g3', g4', g5, g6, g7⟩ := own_put HO9 hi3
  obtain ⟨rfl, rfl⟩ : g = g' ∧ gcap = gcap' := by simpa using hg'
  obtain ⟨c0, hc0⟩ : ∃ c, vs[i]? = some c := ⟨_, List.getElem?_eq_getElem (by have := HRD.out.1; omega)⟩
  have kg := g5 i c0 hc0
  have kf := g6 i
  have HPUT := Lib.hid (g7 (.slice ua N[j].length ucap))
  have HX9 := Lib.hid (Ext.setCell (p := ⟨g, i, none⟩) (HX8.out.trans hx9) g1 (.slice ua N[j].length ucap))
  have HB9 := Lib.hid (show Blk (w9.setCell ⟨g, i, none⟩ (.slice ua N[j].length ucap)) ub [.slice (some ⟨g, 0, none⟩) N.length gcap] 24 from Blk.otherP (fun e => blk_row (HB8.out.later hx9) HO9 (by decide) (by rw [← e]; rfl)) (HB8.out.later hx9))
  clear HO9 g1 g2 g3' g4' g5 g6 g7 hc0 pj kb ku hg'
  have HN2 := Lib.hid (putN_may (i := i) hj3 hN.2 HN20.out HNM.out)
  have HN2O := Lib.hid (show TablesOk (putN N i j) from fun l hl => HNO.out l (putN_mem hj3 hl))
  have hb9c := HB9.out.cells
  have HF9 := Lib.hid (show TablesAt (w9.setCell ⟨g, i, none⟩ (.slice ua N[j].length ucap)) (.slice (some ⟨g, 0, none⟩) N.length gcap) (putN N i j) by
    refine ⟨vs.set i (.slice ua N[j].length ucap), by rw [putN_len]; exact Reads.of_own HPUT.out, fun k l hk => ?_⟩
    unfold putN at hk
    rw [List.getElem?_set] at hk
    have hvl : vs.length = N.length := by have := HRD.out.1; omega
    by_cases e : i = k
    · subst e
      rw [if_pos rfl, if_pos hi3, List.getD_eq_getElem?_getD, List.getElem?_eq_getElem hj3] at hk
      cases hk
      exact ⟨_, List.getElem?_set_self (by omega), HRJ.out.later HX9.out⟩
    · rw [if_neg e] at hk
      obtain ⟨q, q1, q2⟩ := HVS.out k l hk
      exact ⟨q, by rw [List.getElem?_set, if_neg e]; exact q1, q2.later HX9.out⟩)
  have HM9 := Lib.hid (HM5.out.later HX9.out)
  have HXX := Lib.hid (HX5.out.trans HX9.out)
  clear HF5 HB5 HRD HVS HO8 HB8 HUJ HRJ HPUT HX8 HX9 HB9 HM5 HX5
  go_upto_region 9 with (fail)
  generalize hwz : (w9.setCell ⟨g, i, none⟩ (.slice ua N[j].length ucap)) = wz at *
  clear hwz kg kf hx9
  go_upto_region 12 with (first
    | (go_at_call 16; (with_reducible refine (vecNew_good _ (putN N i j) _ HF9.out HN2O.out HN2.out.1 (Nat.le_trans HN2.out.2 (by decide))).mono ?_); rintro e w10 ⟨ob, he, hM, hx10⟩; subst he; have HM10 := Lib.hid hM; have HX10 := Lib.hid (HXX.out.trans hx10); have HM1 := Lib.hid (HM9.out.later hx10); clear hM hx10))
  have HV1 := Lib.hid (vecV_len N a)
  have HV2 := Lib.hid ((vecV_len (putN N i j) a).trans (putN_len N i j))
  have HVI := Lib.hid (And.intro (@putN_vec N i j hj3 a) (@vecV_get N a))
  go_upto_region 14 with (first
    | (go_at_call 20; (with_reducible refine (vecOf_any _ mb N a _ HM1.out (netMay_tab HNM.out) (by omega)).mono ?_); rintro e w11 ⟨v11, he, hV, hx11⟩; subst he; have HO11 := Lib.hid hV.ints; have HX11 := Lib.hid (HX10.out.trans hx11); have HM11 := Lib.hid (HM10.out.later hx11); clear hV hx11)
    | (go_at_call 20; (with_reducible refine (vecOf_any _ ob (putN N i j) a _ HM11.out (netMay_tab HN2.out.1) (by rw [putN_len]; omega)).mono ?_); rintro e w12 ⟨v12, he, hV, hx12⟩; subst he; have HO12 := Lib.hid hV.ints; have HX12 := Lib.hid (HX11.out.trans hx12); have HO112 := Lib.hid (HO11.out.later hx12); clear hV hx12))
  generalize vecV N a = V at *
  generalize vecV (putN N i j) a = V2 at *
  obtain ⟨xa, xcap, hxv, x1, x2, x3⟩ := HO112.out.form
  obtain ⟨ya, ycap, hyv, y1, y2, y3⟩ := HO12.out.form
  rw [HV1.out] at hxv x1
  rw [HV2.out] at hyv y1
  subst hxv hyv
  have X3 := Lib.hid x3
  have Y3 := Lib.hid y3
  clear x3 y3
  unfold maxLen at x2 y2
  go_wp2_with fail
  go_loopw [19] (fun q wr => ∃ k : Nat, k ≤ N.length ∧ q = I k ∧ Ext w12 wr) (fun q _ => N.length - (intOf q).toNat)
  case atStart => exact ⟨0, by omega, rfl, Ext.refl _⟩
  case round =>
    obtain ⟨k, hk, rfl, hxr⟩ := hrel
    by_cases hlt : k < N.length
    · obtain ⟨h1, h2⟩ := HVI.out
      by_cases hki : k = i
      · have hkd : ((k : Int) != i) = false := by simp [hki]
        have hkn : (k != i) = false := by simp [hki]
        clear h1 h2 hki
        go_wp2_with fail
        refine wp_region_E 13 rfl (by kernel_rfl) (by kernel_rfl) ?_
        refine WE_q 0 rfl (by decide) (by kernel_rfl) rfl ?_; apply Exists.intro; refine ⟨fun w1 hx1 => ?_, ?_⟩
        · have hq1 := hx1.cells; go_simp; try go_bits
          first | with_reducible rfl
        simp only [Act.put, List.setIfInBounds_toArray, List.set_cons_zero, List.set_cons_succ]
        refine WE_q 1 rfl (by decide) (by kernel_rfl) rfl ?_; apply Exists.intro; refine ⟨fun w1 hx1 => ?_, ?_⟩
        · have hq1 := hx1.cells; go_simp; try go_bits
          first | with_reducible rfl
        simp only [Act.put, List.setIfInBounds_toArray, List.set_cons_zero, List.set_cons_succ]
        refine WE_q 2 rfl (by decide) (by kernel_rfl) rfl ?_; apply Exists.intro; refine ⟨fun w1 hx1 => ?_, ?_⟩
        · have hq1 := hx1.cells; go_simp; try go_bits
          first | with_reducible rfl
        simp only [Act.put, List.setIfInBounds_toArray, List.set_cons_zero, List.set_cons_succ]
        refine WE_q 3 rfl (by decide) (by kernel_rfl) rfl ?_; apply Exists.intro; refine ⟨fun w1 hx1 => ?_, ?_⟩
        · have hq1 := hx1.cells; go_simp; try go_bits
          first | with_reducible rfl
        simp only [Act.put, List.setIfInBounds_toArray, List.set_cons_zero, List.set_cons_succ]
        refine WE_s 4 rfl (by decide) (by kernel_rfl) rfl ?_
        simp only [Act.put, List.setIfInBounds_toArray, List.set_cons_zero, List.set_cons_succ]
        refine WE_s 5 rfl (by decide) (by kernel_rfl) rfl ?_
        simp only [Act.put, List.setIfInBounds_toArray, List.set_cons_zero, List.set_cons_succ]
        refine WE_s 6 rfl (by decide) (by kernel_rfl) rfl ?_
        simp only [Act.put, List.setIfInBounds_toArray, List.set_cons_zero, List.set_cons_succ]
        refine WE_s 7 rfl (by decide) (by kernel_rfl) rfl ?_
        simp only [Act.put, List.setIfInBounds_toArray, List.set_cons_zero, List.set_cons_succ]
        refine WE_s 8 rfl (by decide) (by kernel_rfl) rfl ?_
        simp only [Act.put, List.setIfInBounds_toArray, List.set_cons_zero, List.set_cons_succ]
        refine WE_s 9 rfl (by decide) (by kernel_rfl) rfl ?_
        simp only [Act.put, List.setIfInBounds_toArray, List.set_cons_zero, List.set_cons_succ]
        refine WE_s 10 rfl (by decide) (by kernel_rfl) rfl ?_
        simp only [Act.put, List.setIfInBounds_toArray, List.set_cons_zero, List.set_cons_succ]
        refine WE_s 11 rfl (by decide) (by kernel_rfl) rfl ?_
        simp only [Act.put, List.setIfInBounds_toArray, List.set_cons_zero, List.set_cons_succ]
        refine WE_s 12 rfl (by decide) (by kernel_rfl) rfl ?_
        simp only [Act.put, List.setIfInBounds_toArray, List.set_cons_zero, List.set_cons_succ]
        refine WE_done (by kernel_rfl) (fun w13 hx13 => ?_)
        (try simp only [List.drop_succ_cons, List.drop_zero])
        go_wp2_with fail
        go_roundw
        case rel => exact ⟨k + 1, by omega, by go_num, hxr.trans hx13⟩
        case measure => simp [intOf]; omega
      · have hkd : ((k : Int) != i) = true := by simp; omega
        have hkn : (k != i) = true := by simp; omega
        have e2 := h1 hlt
        rw [if_neg hki] at e2
        obtain ⟨b1, o1, rfl, p1⟩ := X3.out k _ (h2 hlt)
        obtain ⟨b2, o2, rfl, p2⟩ := Y3.out k _ e2
        replace p1 := Ext.keep (hxr.cell p1)
        replace p2 := Ext.keep (hxr.cell p2)
        clear h1 h2 hki e2
        generalize (stepO N[k] a).getD (-1) = z at *
        go_wp2_with fail
        refine wp_region_E 13 rfl (by kernel_rfl) (by kernel_rfl) ?_
        refine WE_q 0 rfl (by decide) (by kernel_rfl) rfl ?_; apply Exists.intro; refine ⟨fun w1 hx1 => ?_, ?_⟩
        · have hq1 := hx1.cells; go_simp; try go_bits
          first | with_reducible rfl
        simp only [Act.put, List.setIfInBounds_toArray, List.set_cons_zero, List.set_cons_succ]
        refine WE_q 1 rfl (by decide) (by kernel_rfl) rfl ?_; apply Exists.intro; refine ⟨fun w1 hx1 => ?_, ?_⟩
        · have hq1 := hx1.cells; go_simp; try go_bits
          first | with_reducible rfl
        simp only [Act.put, List.setIfInBounds_toArray, List.set_cons_zero, List.set_cons_succ]
        refine WE_q 2 rfl (by decide) (by kernel_rfl) rfl ?_; apply Exists.intro; refine ⟨fun w1 hx1 => ?_, ?_⟩
        · have hq1 := hx1.cells; go_simp; try go_bits
          first | with_reducible rfl
        simp only [Act.put, List.setIfInBounds_toArray, List.set_cons_zero, List.set_cons_succ]
        refine WE_q 3 rfl (by decide) (by kernel_rfl) rfl ?_; apply Exists.intro; refine ⟨fun w1 hx1 => ?_, ?_⟩
        · have hq1 := hx1.cells; go_simp; try go_bits
          first | with_reducible rfl
        simp only [Act.put, List.setIfInBounds_toArray, List.set_cons_zero, List.set_cons_succ]
        refine WE_q 4 rfl (by decide) (by kernel_rfl) rfl ?_; apply Exists.intro; refine ⟨fun w1 hx1 => ?_, ?_⟩
        · have hq1 := hx1.cells; go_simp; try go_bits
          first | with_reducible rfl
        simp only [Act.put, List.setIfInBounds_toArray, List.set_cons_zero, List.set_cons_succ]
        refine WE_q 5 rfl (by decide) (by kernel_rfl) rfl ?_; apply Exists.intro; refine ⟨fun w1 hx1 => ?_, ?_⟩
        · have hq1 := hx1.cells; go_simp; try go_bits
          first | with_reducible rfl
        simp only [Act.put, List.setIfInBounds_toArray, List.set_cons_zero, List.set_cons_succ]
        refine WE_q 6 rfl (by decide) (by kernel_rfl) rfl ?_; apply Exists.intro; refine ⟨fun w1 hx1 => ?_, ?_⟩
        · have hq1 := hx1.cells; go_simp; try go_bits
          first | with_reducible rfl
        simp only [Act.put, List.setIfInBounds_toArray, List.set_cons_zero, List.set_cons_succ]
        refine WE_q 7 rfl (by decide) (by kernel_rfl) rfl ?_; apply Exists.intro; refine ⟨fun w1 hx1 => ?_, ?_⟩
        · have hq1 := hx1.cells; go_simp; try go_bits
          first | with_reducible rfl
        simp only [Act.put, List.setIfInBounds_toArray, List.set_cons_zero, List.set_cons_succ]
        refine WE_q 8 rfl (by decide) (by kernel_rfl) rfl ?_; apply Exists.intro; refine ⟨fun w1 hx1 => ?_, ?_⟩
        · have hq1 := hx1.cells; go_simp; try go_bits
          first | with_reducible rfl
        simp only [Act.put, List.setIfInBounds_toArray, List.set_cons_zero, List.set_cons_succ]
        refine WE_q 9 rfl (by decide) (by kernel_rfl) rfl ?_; apply Exists.intro; refine ⟨fun w1 hx1 => ?_, ?_⟩
        · have hq1 := hx1.cells; go_simp; try go_bits
          first | with_reducible rfl
        simp only [Act.put, List.setIfInBounds_toArray, List.set_cons_zero, List.set_cons_succ]
        refine WE_q 10 rfl (by decide) (by kernel_rfl) rfl ?_; apply Exists.intro; refine ⟨fun w1 hx1 => ?_, ?_⟩
        · have hq1 := hx1.cells; go_simp; try go_bits
          first | with_reducible rfl
        simp only [Act.put, List.setIfInBounds_toArray, List.set_cons_zero, List.set_cons_succ]
        refine WE_q 11 rfl (by decide) (by kernel_rfl) rfl ?_; apply Exists.intro; refine ⟨fun w1 hx1 => ?_, ?_⟩
        · have hq1 := hx1.cells; go_simp; try go_bits
          first | with_reducible rfl
        simp only [Act.put, List.setIfInBounds_toArray, List.set_cons_zero, List.set_cons_succ]
        refine WE_q 12 rfl (by decide) (by kernel_rfl) rfl ?_; apply Exists.intro; refine ⟨fun w1 hx1 => ?_, ?_⟩
        · have hq1 := hx1.cells; go_simp; try go_bits
          first | with_reducible rfl
        simp only [Act.put, List.setIfInBounds_toArray, List.set_cons_zero, List.set_cons_succ]
        refine WE_done (by kernel_rfl) (fun w13 hx13 => ?_)
        (try simp only [List.drop_succ_cons, List.drop_zero])
        go_wp2_with fail
        go_roundw
        case rel => exact ⟨k + 1, by omega, by go_num, hxr.trans hx13⟩
        case measure => simp [intOf]; omega
    · obtain ⟨h1, h2⟩ := HVI.out
      have e2 := h1 hi3
      rw [if_pos rfl] at e2
      obtain ⟨b1, o1, rfl, p1⟩ := X3.out j _ (h2 hj3)
      obtain ⟨b2, o2, rfl, p2⟩ := Y3.out i _ e2
      replace p1 := Ext.keep (hxr.cell p1)
      replace p2 := Ext.keep (hxr.cell p2)
      clear h1 h2 e2
      generalize (stepO N[j] a).getD (-1) = z at *
      go_wp2_with fail
      refine wp_region_E 9 rfl (by kernel_rfl) (by kernel_rfl) ?_
      refine WE_q 0 rfl (by decide) (by kernel_rfl) rfl ?_; apply Exists.intro; refine ⟨fun w1 hx1 => ?_, ?_⟩
      · have hq1 := hx1.cells; go_simp; try go_bits
        first | with_reducible rfl
      simp only [Act.put, List.setIfInBounds_toArray, List.set_cons_zero, List.set_cons_succ]
      refine WE_q 1 rfl (by decide) (by kernel_rfl) rfl ?_; apply Exists.intro; refine ⟨fun w1 hx1 => ?_, ?_⟩
      · have hq1 := hx1.cells; go_simp; try go_bits
        first | with_reducible rfl
      simp only [Act.put, List.setIfInBounds_toArray, List.set_cons_zero, List.set_cons_succ]
      refine WE_q 2 rfl (by decide) (by kernel_rfl) rfl ?_; apply Exists.intro; refine ⟨fun w1 hx1 => ?_, ?_⟩
      · have hq1 := hx1.cells; go_simp; try go_bits
        first | with_reducible rfl
      simp only [Act.put, List.setIfInBounds_toArray, List.set_cons_zero, List.set_cons_succ]
      refine WE_q 3 rfl (by decide) (by kernel_rfl) rfl ?_; apply Exists.intro; refine ⟨fun w1 hx1 => ?_, ?_⟩
      · have hq1 := hx1.cells; go_simp; try go_bits
        first | with_reducible rfl
      simp only [Act.put, List.setIfInBounds_toArray, List.set_cons_zero, List.set_cons_succ]
      refine WE_q 4 rfl (by decide) (by kernel_rfl) rfl ?_; apply Exists.intro; refine ⟨fun w1 hx1 => ?_, ?_⟩
      · have hq1 := hx1.cells; go_simp; try go_bits
        first | with_reducible rfl
      simp only [Act.put, List.setIfInBounds_toArray, List.set_cons_zero, List.set_cons_succ]
      refine WE_q 5 rfl (by decide) (by kernel_rfl) rfl ?_; apply Exists.intro; refine ⟨fun w1 hx1 => ?_, ?_⟩
      · have hq1 := hx1.cells; go_simp; try go_bits
        first | with_reducible rfl
      simp only [Act.put, List.setIfInBounds_toArray, List.set_cons_zero, List.set_cons_succ]
      refine WE_q 6 rfl (by decide) (by kernel_rfl) rfl ?_; apply Exists.intro; refine ⟨fun w1 hx1 => ?_, ?_⟩
      · have hq1 := hx1.cells; go_simp; try go_bits
        first | with_reducible rfl
      simp only [Act.put, List.setIfInBounds_toArray, List.set_cons_zero, List.set_cons_succ]
      refine WE_q 7 rfl (by decide) (by kernel_rfl) rfl ?_; apply Exists.intro; refine ⟨fun w1 hx1 => ?_, ?_⟩
      · have hq1 := hx1.cells; go_simp; try go_bits
        first | with_reducible rfl
      simp only [Act.put, List.setIfInBounds_toArray, List.set_cons_zero, List.set_cons_succ]
      refine WE_q 8 rfl (by decide) (by kernel_rfl) rfl ?_; apply Exists.intro; refine ⟨fun w1 hx1 => ?_, ?_⟩
      · have hq1 := hx1.cells; go_simp; try go_bits
        first | with_reducible rfl
      simp only [Act.put, List.setIfInBounds_toArray, List.set_cons_zero, List.set_cons_succ]
      refine WE_done (by kernel_rfl) (fun w13 hx13 => ?_)
      (try simp only [List.drop_succ_cons, List.drop_zero])
      go_wp2_with fail
      go_ret
      exact ⟨ret_bool (by simp), HX12.out.trans (hxr.trans hx13)⟩
end Go.Proofs.Ytilaljdokpdcoaa
