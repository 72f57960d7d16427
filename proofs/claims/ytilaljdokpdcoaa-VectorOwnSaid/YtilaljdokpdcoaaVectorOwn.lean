/- The law VectorOwn: the walk. Conditions: whole numbers are within 64 bits. -/
import Derived.Test.YtilaljdokpdcoaaVectorPart
namespace Go.Proofs.Ytilaljdokpdcoaa
open Go.RowKit

/-- As it was, but for blocks of rules below C, which have as many cells as before. -/
def Rub (C : Nat) (w w' : World) : Prop :=
  w'.heap.size = w.heap.size ∧ ∀ b, w'.heap[b]? = w.heap[b]? ∨ (b < C ∧ ∃ cur cur', w.heap[b]? = some (.cells cur 42 (0, 0)) ∧ w'.heap[b]? = some (.cells cur' 42 (0, 0)) ∧ cur'.size = cur.size)
theorem Rub.refl (C : Nat) (w : World) : Rub C w w := ⟨rfl, fun _ => .inl rfl⟩
theorem Rub.trans {C : Nat} {a b c : World} (h : Rub C a b) (k : Rub C b c) : Rub C a c := by
  refine ⟨k.1.trans h.1, fun q => ?_⟩
  rcases h.2 q with h1 | ⟨h0, u, v, h1, h2, h3⟩ <;> rcases k.2 q with k1 | ⟨k0, x, y, k1, k2, k3⟩
  · exact .inl (k1.trans h1)
  · exact .inr ⟨k0, x, y, h1 ▸ k1, k2, k3⟩
  · exact .inr ⟨h0, u, v, h1, k1.trans h2, h3⟩
  · rw [h2] at k1; cases k1
    exact .inr ⟨h0, u, y, h1, k2, k3.trans h3⟩
theorem Rub.set {C : Nat} {w : World} {g : Nat} {cur : Array Value} (hg : w.heap[g]? = some (.cells cur 42 (0, 0))) (hC : g < C) (o : Nat) (u : Value) : Rub C w (w.setCell ⟨g, o, none⟩ u) := by
  refine ⟨by simp, fun b => ?_⟩
  by_cases e : g = b
  · subst e
    exact .inr ⟨hC, cur, _, hg, by simp [World.setCell, Array.getElem?_modify, hg]; rfl, by simp⟩
  · exact .inl (by simp [World.setCell, Array.getElem?_modify, e])
theorem Rub.blk {C : Nat} {w w' : World} (h : Rub C w w') {b : Nat} {cs : List Value} {T : TypeId} (hb : Blk w b cs T) (hT : T ≠ 42) : Blk w' b cs T := by
  unfold Blk at *
  rcases h.2 b with h1 | ⟨_, u, v, h1, _⟩
  · rw [h1]; exact hb
  · rw [h1] at hb; cases hb; exact absurd rfl hT
theorem Rub.own {C : Nat} {w w' : World} (h : Rub C w w') {B : Nat} {e : TypeId} {s n : Nat} {v : Value} {xs : List Value} (ho : w.ownsRow B e s v n xs) (hT : e ≠ 42) : w'.ownsRow B e s v n xs := by
  obtain ⟨h0, h1⟩ := ho
  refine ⟨h0, h1.imp id fun ⟨g, cap, cur, e1, e2, e3, e4⟩ => ⟨g, cap, cur, e1, e2, ?_, e4⟩⟩
  rcases h.2 g with k | ⟨_, u, v, k, _⟩
  · rw [k]; exact e3
  · rw [k] at e3; cases e3; exact absurd rfl hT
/-- A table's block of rules. -/
theorem Rub.rules {C : Nat} {w w' : World} (h : Rub C w w') {g : Nat} {cur : Array Value} (hg : w.heap[g]? = some (.cells cur 42 (0, 0))) : ∃ cur', w'.heap[g]? = some (.cells cur' 42 (0, 0)) ∧ cur'.size = cur.size := by
  rcases h.2 g with k | ⟨_, u, v, k, k2, k3⟩
  · exact ⟨cur, k.trans hg, rfl⟩
  · rw [hg] at k; cases k
    exact ⟨v, k2, k3⟩
theorem Rub.put {C : Nat} {w0 w : World} (h : Rub C w0 w) {g : Nat} {cur : Array Value} (hg : w0.heap[g]? = some (.cells cur 42 (0, 0))) (hC : g < C) (o : Nat) (u : Value) : Rub C w0 (w.setCell ⟨g, o, none⟩ u) :=
  let ⟨_, h1, _⟩ := h.rules hg
  h.trans (Rub.set h1 hC o u)
theorem cell_of {w : World} {g : Nat} {cur : Array Value} {T : TypeId} (hg : w.heap[g]? = some (.cells cur T (0, 0))) {o : Nat} (ho : o < cur.size) : ∃ u, w.cell? ⟨g, o, none⟩ = some u := by
  refine ⟨cur[o], ?_⟩
  simp [World.cell?, hg, ho]
theorem frozen_of {w : World} {g : Nat} {cur : Array Value} {T : TypeId} (hg : w.heap[g]? = some (.cells cur T (0, 0))) (o : Nat) : w.frozen? ⟨g, o, none⟩ = false := by
  simp [World.frozen?, hg]
set_option maxHeartbeats 4000000 in
set_option maxRecDepth 100000 in
theorem vectorOwn_any (lv : Value) (ls : List (List Rul)) (a b : BitVec 32) (w : World) (hl : TablesAt w lv ls) (hok : TablesOk ls) :
    Calls Try.prog 5 #[.agg #[lv], U a, U b] w fun e w' => e = .returned (.bool true) ∧ Ext w w' := by
  have HL := Lib.hid hl
  have HOK := Lib.hid hok
  obtain ⟨ad, cap, hlv, a1, a2, a3⟩ := hl.form
  subst hlv
  clear a3 hl hok
  unfold maxLen at a2
  go_enter Try.func5, Try.ntmps5
  go_upto_region 1 with (fail)
  refine hideW (Φ := fun W => Code.wp _ _ _ _ W) (fun W => Ext w W ∧ Blk W w.heap.size [.slice ad ls.length cap] 24)
    ⟨by (repeat (first | with_reducible exact Ext.refl _ | with_reducible assumption | with_reducible refine Ext.alloc ?_ _ | with_reducible refine Ext.drew ?_ | with_reducible refine Ext.drewN ?_ _ | (with_reducible refine Ext.setCellP ?_ ?_; focus (first | (simp; done) | (simp; omega) | omega)))), Blk.new w [.slice ad ls.length cap] 24⟩ (fun W1 hW1 => ?_)
  obtain ⟨hx1, hb1⟩ := hW1
  have HX1 := Lib.hid hx1
  have HB1 := Lib.hid hb1
  clear hx1 hb1
  generalize w.heap.size = nb at *
  go_upto_region 2 with (first
    | (go_at_call 15; (with_reducible refine (shown13_any _).mono ?_); rintro e w2 ⟨rfl, hx2⟩; have HX2 := Lib.hid (HX1.out.trans hx2); have HB2 := Lib.hid (HB1.out.later hx2); clear hx2))
  have hbc2 := HB2.out.cells
  have HNM := Lib.hid (fitN_may ls)
  have HNS := Lib.hid (fitN_size ls)
  have HNO := Lib.hid (fitN_ok ls)
  have HN20 := Lib.hid (@fitN_short ls)
  have hN := fitN_bd ls
  go_upto_region 3 with (first
    | (go_at_call 22; (with_reducible refine (r09Fit_any _ ls _ (HL.out.later HX2.out) HOK.out).mono ?_); rintro e w3 ⟨v3, he, hF, hx3⟩; subst he; have HF3 := Lib.hid hF; obtain ⟨va, vcap, hv3, q1, q2, q3⟩ := hF.tables.form; subst hv3; clear q3; obtain ⟨vs, hrow, htab⟩ := hF; have HROW := Lib.hid hrow; have HTAB := Lib.hid htab; clear hrow htab; have HX3 := Lib.hid (HX2.out.trans hx3); have HX23 := Lib.hid hx3; clear hx3))
  generalize fitN ls = N at *
  clear hbc2 HB2 HB1
  unfold maxLen at q2
  refine hideW (Φ := fun W => Code.wp _ _ _ _ W) (fun W => Ext w3 W ∧ Blk W w3.heap.size [.slice va N.length vcap] 24)
    ⟨by (repeat (first | with_reducible exact Ext.refl _ | with_reducible assumption | with_reducible refine Ext.alloc ?_ _ | with_reducible refine Ext.drew ?_ | with_reducible refine Ext.drewN ?_ _ | (with_reducible refine Ext.setCellP ?_ ?_; focus (first | (simp; done) | (simp; omega) | omega)))), Blk.new w3 [.slice va N.length vcap] 24⟩ (fun W4 hW4 => ?_)
  obtain ⟨hx4, hb4⟩ := hW4
  have HX4 := Lib.hid (HX3.out.trans hx4)
  have HX34 := Lib.hid hx4
  have HF4 := Lib.hid (HF3.out.later hx4)
  have HB4 := Lib.hid hb4
  have hbc4 := hb4.cells
  clear hx4 hb4 HF3 HX3 HX1
  generalize hfb : w3.heap.size = fb at *
  have HFB := Lib.hid (show w2.heap.size ≤ fb from hfb ▸ HX23.out.size)
  have HFB3 := Lib.hid (show w3.heap.size ≤ fb from Nat.le_of_eq hfb)
  have HFB4 := Lib.hid (show fb < W4.heap.size from HB4.out.lt)
  clear hfb
  go_upto_region 6 with (first
    | (go_at_call 16; (with_reducible refine (vecNew_good _ N _ HF4.out.tables HNO.out HNM.out (Nat.le_trans HNS.out (by decide))).mono ?_); rintro e w5 ⟨mb, he, hM, hx5⟩; subst he; have HM5 := Lib.hid hM; have HX5 := Lib.hid (HX4.out.trans hx5); have HX35 := Lib.hid (HX34.out.trans hx5); have HF5 := Lib.hid (HF4.out.later hx5); have HB5 := Lib.hid (HB4.out.later hx5); clear hM hx5))
  clear hbc4 HF4 HB4 HX4
  have HV1 := Lib.hid (vecV_len N a)
  go_upto_region 7 with (first
    | (go_at_call 20; (with_reducible refine (vecOf_any _ mb N a _ HM5.out (netMay_tab HNM.out) (by omega)).mono ?_); rintro e w6 ⟨v6, he, hV, hx6⟩; subst he; have HO6 := Lib.hid hV; have HX6 := Lib.hid hx6; clear hV hx6))
  have HAX := Lib.hid (show Ext w6 (w6.alloc (.cells #[] 3)) from (Ext.refl _).alloc _)
  have HOW := Lib.hid (show (w6.alloc (.cells #[] 3)).ownsRow w6.heap.size 3 1 (.slice (some ⟨w6.heap.size, 0, none⟩) 0 0) 0 [] from own_made w6 1 3 0 [] rfl (by unfold maxLen; omega))
  have HRD6 := Lib.hid (HO6.out.ints.later HAX.out)
  have hvl : (vecV N a).length = N.length := vecV_len N a
  have HVL := Lib.hid hvl
  rw [hvl.symm] at hN
  clear hvl
  go_upto_region 8 with (first
    | (at_builtin; refine wpList_app rfl (.tmp 38) (.tmp 39) 34 rfl w6.heap.size 3 _ 1 8 Try.underlying34 infoInt rfl (by decide) (by decide) _ _ _ rfl HOW.out _ _ _ rfl HRD6.out (icells_one _) (by omega) HAX.out.size ?_; intro v7 w7 ho7 hg7
       have HO7 := Lib.hid (show OwnI w7 w6.heap.size v7 (vecV N a) by
         rw [Nat.zero_add, List.nil_append] at ho7
         exact ho7)
       have HX7 := Lib.hid (show Ext w6 w7 from Ext.grown HAX.out hg7 HOW.out (Nat.le_refl _))
       clear ho7 hg7))
  -- the first loop: all numbers overwritten
  obtain ⟨xa, xcap, hx6v, x1, x2, x3⟩ := HO6.out.ints.form
  subst hx6v
  clear x3
  have HOX := Lib.hid (show w7.ownsRow w5.heap.size 3 1 (.slice xa (vecV N a).length xcap) (vecV N a).length (icells (vecV N a)) from own_later HO6.out HX7.out)
  have HLTX := Lib.hid (show ∀ g, (Value.slice xa (vecV N a).length xcap).ownBlock = some g → w5.heap.size ≤ g ∧ g < w6.heap.size from fun g hg => HO6.out.lt g hg)
  have HX57 := Lib.hid (HX6.out.trans HX7.out)
  have HZ56 := Lib.hid HX6.out.size
  clear HO6 HX6 HX7 HAX HOW HRD6
  unfold maxLen at x2
  generalize hvn : vecV N a = V at *
  have HVN := Lib.hid hvn
  clear hvn
  go_wp2_with fail
  go_loopw [13] (fun q wr => ∃ (k : Nat) (xs : List Value), k ≤ V.length ∧ q = I k ∧ Hid (wr.ownsRow w5.heap.size 3 1 (.slice xa V.length xcap) V.length xs) ∧ Hid (OwnI wr w6.heap.size v7 V) ∧ Hid (Ext w5 wr)) (fun q _ => V.length - (intOf q).toNat)
  case atStart => exact ⟨0, _, by omega, rfl, HOX.out, HO7.out, HX57.out⟩
  case round =>
    obtain ⟨k, xs, hk, rfl, HR, HW7, HX⟩ := hrel
    by_cases hlt : k < V.length
    · have hlen : xs.length = V.length := by have := HR.out.1; omega
      obtain ⟨g, gcap, hg, g1, g2, g3, g4, g5, g6, g7⟩ := own_put HR.out hlt
      obtain ⟨rfl, -, rfl⟩ : xa = some ⟨g, 0, none⟩ ∧ V.length = V.length ∧ xcap = gcap := by simpa using hg
      obtain ⟨c0, hc0⟩ : ∃ c, xs[k]? = some c := ⟨_, List.getElem?_eq_getElem (by omega)⟩
      have kg := g5 k c0 hc0
      have kf := g6 k
      have HG7 := Lib.hid (g7 (.int .i64 99))
      have HG := Lib.hid (HLTX.out g rfl)
      clear g1 g2 g3 g4 g5 g6 g7 hc0 hg hlen
      go_wp2_with fail
      go_roundw
      case rel => exact ⟨k + 1, _, by omega, by go_num, HG7.out, own_set HW7.out HG.out.2 _, HX.out.setCell HG.out.1 _⟩
      case measure => simp [intOf]; omega
    · have HM8 := Lib.hid (HM5.out.later HX.out)
      have HX38 := Lib.hid (HX35.out.trans HX.out)
      have HB8 := Lib.hid (HB5.out.later HX.out)
      have HF8 := Lib.hid (HF5.out.later HX.out)
      have HZ := Lib.hid (show w5.heap.size ≤ w6.heap.size from HZ56.out)
      clear HR HO7 HM5 HB5 HF5 HOX HX57 HX35
      go_upto_region 14 with (first
        | (go_at_call 20; (with_reducible refine (vecOf_any _ mb N b _ HM8.out (netMay_tab HNM.out) (by have := HVL.out; omega)).mono ?_); rintro e w9 ⟨v9, he, hV, hx9⟩; subst he; have HX9 := Lib.hid hx9; have hbc9 := (HB8.out.later hx9).cells; clear hV hx9)
        | (go_at_call 21; (with_reducible refine (r13Of_any _ N a _ (HF8.out.tables.later HX9.out) HNO.out (by have := HVL.out; omega)).mono ?_); rintro e w10 ⟨v10, he, hV, hx10⟩; subst he; rw [HVN.out] at hV; have HO10 := Lib.hid hV; have HX10 := Lib.hid (HX9.out.trans hx10); clear hV hx10))
      have HM10 := Lib.hid (HM8.out.later HX10.out)
      have HX310 := Lib.hid (HX38.out.trans HX10.out)
      have HB10 := Lib.hid (HB8.out.later HX10.out)
      have HW10 := Lib.hid (HW7.out.later HX10.out)
      have HROW10 := Lib.hid (own_later HROW.out HX310.out)
      clear HM8 HB8 HF8 HW7 HX38
      have HX2A := Lib.hid (HX23.out.trans HX310.out)
      have HXA := Lib.hid (HX2.out.trans HX2A.out)
      clear hlt
      go_wp2_with fail
      go_loopw [15, 16] (fun v _ wr => ∃ k : Nat, k ≤ N.length ∧ v = I k ∧ Hid (Rub fb w10 wr) ∧ Hid (Ext w2 wr)) (fun v _ _ => N.length - (intOf v).toNat)
      case atStart => exact ⟨0, by omega, rfl, Rub.refl _ _, HX2A.out⟩
      case round =>
        obtain ⟨k2, hk2, rfl, HRU, HXR⟩ := hrel
        have hbc := (HRU.out.blk HB10.out (by decide)).cells
        by_cases hlt : k2 < N.length
        · obtain ⟨u, hu, hou⟩ := HTAB.out k2 N[k2] (List.getElem?_eq_getElem hlt)
          obtain ⟨h0, ra, rcap, hrv, r2, r3, r4, r5⟩ := Reads.of_own (HRU.out.own HROW10.out (by decide))
          obtain ⟨rfl, -, rfl⟩ : va = ra ∧ N.length = N.length ∧ vcap = rcap := by simpa using hrv
          obtain ⟨rb, ro, rfl, p0⟩ : ∃ rb ro, va = some ⟨rb, ro, none⟩ ∧ wr.cell? ⟨rb, ro + k2, none⟩ = some u := by
            cases va with
            | none => have := r4 rfl; omega
            | some q =>
              obtain ⟨e1, e2⟩ := r5 q rfl
              replace e1 : q.spot = none := by
                rcases e1 with e1 | e1
                · exact e1
                · rw [e1] at hu; cases hu
              obtain ⟨bb, bo, bs⟩ := q
              simp only at e1
              subst e1
              exact ⟨bb, bo, rfl, e2 k2 u hu⟩
          have HP := Lib.hid (show ∀ x, Rub fb w10 x → x.cell? ⟨rb, ro + k2, none⟩ = some u from fun x hx => by
            obtain ⟨_, qa, qcap, hqv, _, _, _, q5⟩ := Reads.of_own (hx.own HROW10.out (by decide))
            simp at hqv
            exact (q5 ⟨rb, ro, none⟩ hqv.1.symm).2 k2 u hu)
          have HOU := Lib.hid (own_later hou HX310.out)
          have HUL := Lib.hid hou.lt
          obtain ⟨ua, ucap, huv, u1, u2, _⟩ := RulesAt.form (show RulesAt w3 u N[k2] from Reads.of_own hou)
          subst huv
          unfold maxLen at u2
          clear h0 hrv r2 r3 r4 r5 hu hou
          go_wp2_with fail
          go_loopw [16] (fun i wi => ∃ m : Nat, m ≤ N[k2].length ∧ i = I m ∧ Hid (Rub fb w10 wi) ∧ Hid (Ext w2 wi)) (fun i _ => N[k2].length - (intOf i).toNat)
          case atStart => exact ⟨0, by omega, rfl, HRU.out, HXR.out⟩
          case round =>
            obtain ⟨m, hm, rfl, HRI, HXI⟩ := hrel
            have hbi := (HRI.out.blk HB10.out (by decide)).cells
            have hpi := HP.out _ HRI.out
            by_cases hltm : m < N[k2].length
            · obtain ⟨_, hou⟩ := HOU.out
              rcases hou with ⟨_, hou⟩ | ⟨g, gcap, cur, hg1, hg2, hg3, hg4, hg5, hg6, _⟩
              · omega
              · obtain ⟨rfl, -, rfl⟩ : ua = some ⟨g, 0, none⟩ ∧ N[k2].length = N[k2].length ∧ ucap = gcap := by simpa using hg1
                obtain ⟨cur', hc1, hc2⟩ := HRI.out.rules hg3
                obtain ⟨x0, c0⟩ := cell_of hc1 (o := m * 4) (by omega)
                obtain ⟨x1', c1⟩ := cell_of hc1 (o := m * 4 + 1) (by omega)
                obtain ⟨x2', c2⟩ := cell_of hc1 (o := m * 4 + 2) (by omega)
                obtain ⟨x3', c3⟩ := cell_of hc1 (o := m * 4 + 3) (by omega)
                have f0 := frozen_of hc1
                have HG := Lib.hid (And.intro hg3 (HUL.out g rfl))
                clear hg1 hg2 hg3 hg4 hg5 hg6 hc1 hc2
                go_wp2_with fail
                go_roundw
                case rel =>
                  obtain ⟨h1, h2, h3⟩ := HG.out
                  have hC : g < fb := Nat.lt_of_lt_of_le h3 HFB3.out
                  exact ⟨m + 1, by omega, by go_num, (((HRI.out.put h1 hC _ _).put h1 hC _ _).put h1 hC _ _).put h1 hC _ _, (((HXI.out.setCell h2 _).setCell h2 _).setCell h2 _).setCell h2 _⟩
                case measure => simp [intOf]; omega
            · go_wp2_with fail
              go_roundw
              case rel => exact ⟨k2 + 1, by omega, by go_num, HRI.out, HXI.out⟩
              case measure => simp [intOf]; omega
        · have HMR := Lib.hid (HM10.out.keep fun b hb _ => by
            rcases HRU.out.2 b with h | ⟨h, _⟩
            · exact h
            · have := HFB4.out; omega)
          have HWR := Lib.hid (show OwnI wr w6.heap.size v7 V from HRU.out.own HW10.out (by decide))
          have HOR := Lib.hid (show OwnI wr w9.heap.size v10 V from HRU.out.own HO10.out (by decide))
          have HXW := Lib.hid (HX2.out.trans HXR.out)
          go_wp2_with (first
            | (go_at_call 20; (with_reducible refine (vecOf_any _ mb N a _ HMR.out (netMay_tab HNM.out) (by have := HVL.out; omega)).mono ?_); rintro e w11 ⟨v11, he, hV, hx11⟩; subst he; rw [HVN.out] at hV; have HO11 := Lib.hid hV; have HX11 := Lib.hid hx11; clear hV hx11)
            | (go_at_call 19; (with_reducible refine (r09Row_any _ _ V V _ HO11.out.ints (HWR.out.ints.later HX11.out)).mono ?_); rintro e w12 ⟨he, hx12⟩; replace he := he.trans (congrArg (fun b => Ending.returned (.bool b)) (decide_eq_true rfl)); subst he; have HX12 := Lib.hid (HX11.out.trans hx12); clear hx12)
            | (go_at_call 19; (with_reducible refine (r09Row_any _ _ V V _ (HWR.out.ints.later HX12.out) (HOR.out.ints.later HX12.out)).mono ?_); rintro e w13 ⟨he, hx13⟩; replace he := he.trans (congrArg (fun b => Ending.returned (.bool b)) (decide_eq_true rfl)); subst he; have HX13 := Lib.hid (HX12.out.trans hx13); clear hx13))
          go_ret
          exact ⟨rfl, HXW.out.trans HX13.out⟩
end Go.Proofs.Ytilaljdokpdcoaa
