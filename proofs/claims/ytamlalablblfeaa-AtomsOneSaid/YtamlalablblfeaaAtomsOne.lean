/- The law AtomsOne: networks whose nodes do all the same have one atom. Conditions: whole numbers are within 64 bits. -/
import Derived.Test.YtamlalablblfeaaOneP
import Derived.Test.YtamlalablblfeaaShown16
import Derived.Test.YtamlalablblfeaaCloneI
namespace Go.Proofs.Ytamlalablblfeaa
open Go Go.RowKit Go.Maps Go.Proofs

/-- The four networks while they are made: rows in blocks h, h + 2, .., their boxes behind each. -/
structure OneS (w0 W : World) (h M k1 k2 k3 : Nat) (L1 L2 L3 : List Rul) : Prop where
  t0 : MadeT W (h + 8) h (fillT M 0 [])
  t1 : MadeT W (h + 8) (h + 2) (fillT M k1 L1)
  t2 : MadeT W (h + 8) (h + 4) (fillT M k2 L2)
  t3 : MadeT W (h + 8) (h + 6) (fillT M k3 L3)
  b0 : Blk W (h + 1) [.slice (some ⟨h, 0, none⟩) M M] 24
  b1 : Blk W (h + 3) [.slice (some ⟨h + 2, 0, none⟩) M M] 24
  b2 : Blk W (h + 5) [.slice (some ⟨h + 4, 0, none⟩) M M] 24
  b3 : Blk W (h + 7) [.slice (some ⟨h + 6, 0, none⟩) M M] 24
  ext : Ext w0 W
  at0 : w0.heap.size = h
  sz : h + 8 ≤ W.heap.size
theorem OneS.later {w0 W W' : World} {h M k1 k2 k3 : Nat} {L1 L2 L3 : List Rul} (s : OneS w0 W h M k1 k2 k3 L1 L2 L3) (hx : Ext W W') : OneS w0 W' h M k1 k2 k3 L1 L2 L3 :=
  ⟨s.t0.later hx, s.t1.later hx, s.t2.later hx, s.t3.later hx, s.b0.later hx, s.b1.later hx, s.b2.later hx, s.b3.later hx, s.ext.trans hx, s.at0, Nat.le_trans s.sz hx.size⟩
theorem OneS.put1 {w0 W : World} {h M k1 k2 k3 : Nat} {L1 L2 L3 : List Rul} {u : Value} (s : OneS w0 W h M k1 k2 k3 L1 L2 L3) (hk : k1 < M) (hu : W.ownsRow (h + 8) 53 4 u L1.length (rcells L1)) :
    OneS w0 (W.setCell ⟨h + 2, k1, none⟩ u) h M (k1 + 1) k2 k3 L1 L2 L3 := by
  have h0 := s.at0
  refine ⟨s.t0.other (by simp) (by simp) u, ?_, s.t2.other (by simp) (by simp) u, s.t3.other (by simp) (by simp) u, s.b0.other (by simp) u, s.b1.other (by simp) u, s.b2.other (by simp) u, s.b3.other (by simp) u, s.ext.setCell (by simp; omega) u, h0, by have := s.sz; simpa using this⟩
  rw [← fillT_step]
  exact s.t1.put (by rw [fillT_len]; exact hk) (by omega) hu
theorem OneS.put2 {w0 W : World} {h M k1 k2 k3 : Nat} {L1 L2 L3 : List Rul} {u : Value} (s : OneS w0 W h M k1 k2 k3 L1 L2 L3) (hk : k2 < M) (hu : W.ownsRow (h + 8) 53 4 u L2.length (rcells L2)) :
    OneS w0 (W.setCell ⟨h + 4, k2, none⟩ u) h M k1 (k2 + 1) k3 L1 L2 L3 := by
  have h0 := s.at0
  refine ⟨s.t0.other (by simp) (by simp) u, s.t1.other (by simp) (by simp) u, ?_, s.t3.other (by simp) (by simp) u, s.b0.other (by simp) u, s.b1.other (by simp) u, s.b2.other (by simp) u, s.b3.other (by simp) u, s.ext.setCell (by simp; omega) u, h0, by have := s.sz; simpa using this⟩
  rw [← fillT_step]
  exact s.t2.put (by rw [fillT_len]; exact hk) (by omega) hu
theorem OneS.put3 {w0 W : World} {h M k1 k2 k3 : Nat} {L1 L2 L3 : List Rul} {u : Value} (s : OneS w0 W h M k1 k2 k3 L1 L2 L3) (hk : k3 < M) (hu : W.ownsRow (h + 8) 53 4 u L3.length (rcells L3)) :
    OneS w0 (W.setCell ⟨h + 6, k3, none⟩ u) h M k1 k2 (k3 + 1) L1 L2 L3 := by
  have h0 := s.at0
  refine ⟨s.t0.other (by simp) (by simp) u, s.t1.other (by simp) (by simp) u, s.t2.other (by simp) (by simp) u, ?_, s.b0.other (by simp) u, s.b1.other (by simp) u, s.b2.other (by simp) u, s.b3.other (by simp) u, s.ext.setCell (by simp; omega) u, h0, by have := s.sz; simpa using this⟩
  rw [← fillT_step]
  exact s.t3.put (by rw [fillT_len]; exact hk) (by omega) hu
theorem madeT_start' {w : World} {r : Nat} (h : w.heap.size = r) (n B : Nat) (L : List Rul) : MadeT (w.alloc (.cells (madeCells #[.slice none 0 0] n) 54)) B r (fillT n 0 L) := by
  subst h
  rw [← fillT_zero]
  exact MadeT.start w n B
theorem oneS_start (w : World) (M : Nat) (L1 L2 L3 : List Rul) :
    OneS w ((((((((w.alloc (.cells (madeCells #[.slice none 0 0] M) 54)).alloc (.cells #[.slice (some ⟨w.heap.size, 0, none⟩) M M] 24)).alloc (.cells (madeCells #[.slice none 0 0] M) 54)).alloc (.cells #[.slice (some ⟨w.heap.size + 1 + 1, 0, none⟩) M M] 24)).alloc
      (.cells (madeCells #[.slice none 0 0] M) 54)).alloc (.cells #[.slice (some ⟨w.heap.size + 1 + 1 + 1 + 1, 0, none⟩) M M] 24)).alloc (.cells (madeCells #[.slice none 0 0] M) 54)).alloc (.cells #[.slice (some ⟨w.heap.size + 1 + 1 + 1 + 1 + 1 + 1, 0, none⟩) M M] 24)) w.heap.size M 0 0 0 L1 L2 L3 := by
  have X : ∀ (W : World) (o : Obj), Ext W (W.alloc o) := fun W o => (Ext.refl W).alloc o
  refine ⟨?_, ?_, ?_, ?_, ?_, ?_, ?_, Blk.newAt _ (by simp), by (repeat (first | with_reducible exact Ext.refl _ | with_reducible assumption | with_reducible refine Ext.alloc ?_ _ | with_reducible refine Ext.drew ?_ | with_reducible refine Ext.drewN ?_ _ | (with_reducible refine Ext.setCellP ?_ ?_; focus (first | (simp; done) | (simp; omega) | omega)))), rfl, by simp⟩
  · exact (madeT_start' rfl M _ []).later (((((((X _ _).trans (X _ _)).trans (X _ _)).trans (X _ _)).trans (X _ _)).trans (X _ _)).trans (X _ _))
  · exact (madeT_start' (by simp) M _ L1).later (((((X _ _).trans (X _ _)).trans (X _ _)).trans (X _ _)).trans (X _ _))
  · exact (madeT_start' (by simp) M _ L2).later (((X _ _).trans (X _ _)).trans (X _ _))
  · exact (madeT_start' (by simp) M _ L3).later (X _ _)
  · exact (Blk.newAt _ (by simp)).later ((((((X _ _).trans (X _ _)).trans (X _ _)).trans (X _ _)).trans (X _ _)).trans (X _ _))
  · exact (Blk.newAt _ (by simp)).later ((((X _ _).trans (X _ _)).trans (X _ _)).trans (X _ _))
  · exact (Blk.newAt _ (by simp)).later ((X _ _).trans (X _ _))
set_option maxHeartbeats 4000000 in
set_option maxRecDepth 100000 in
theorem atomsOne_any (x y : Nat) (a : BitVec 32) (w : World) (hx : x < 256) (hy : y < 256) :
    Calls Try.prog 6 #[.agg #[.int .u8 (x : Int), .int .u8 (y : Int)], U a] w fun e w' => e = .returned (.bool true) ∧ Ext w w' := by
  go_enter Try.func6, Try.ntmps6
  go_upto_region 1 with (fail)
  refine hideW (Φ := fun W => Code.wp _ _ _ _ W) (fun W => Ext w W ∧ Blk W w.heap.size [.int .u8 (x : Int), .int .u8 (y : Int)] 51)
    ⟨by (repeat (first | with_reducible exact Ext.refl _ | with_reducible assumption | with_reducible refine Ext.alloc ?_ _ | with_reducible refine Ext.drew ?_ | with_reducible refine Ext.drewN ?_ _ | (with_reducible refine Ext.setCellP ?_ ?_; focus (first | (simp; done) | (simp; omega) | omega)))), Blk.new w [.int .u8 (x : Int), .int .u8 (y : Int)] 51⟩ (fun W1 hW1 => ?_)
  obtain ⟨hx1, hk1⟩ := hW1
  have HX1 := Lib.hid hx1
  have HK1 := Lib.hid hk1
  clear hx1 hk1
  generalize w.heap.size = nb at *
  go_upto_region 2 with (first
    | (go_at_call 21; (with_reducible refine (shown16_any _).mono ?_); rintro e w2 ⟨rfl, hx2⟩; have HX2 := Lib.hid (HX1.out.trans hx2); have HK2 := Lib.hid (HK1.out.later hx2); clear hx2))
  have hkc := HK2.out.cells
  go_upto_region 4 with (fail)
  have e1 : 1 + (x : Int) % 16 = ((1 + x % 16 : Nat) : Int) := by omega
  rw [e1]
  generalize hM : 1 + x % 16 = M
  have hM1 : 1 ≤ M ∧ M ≤ 16 := by omega
  have e2 : (y : Int) % (M : Int) = ((y % M : Nat) : Int) := by simp
  rw [e2]
  have hT : y % M < M := Nat.mod_lt _ (by omega)
  generalize y % M = T at *
  clear e1 e2 hM
  have hmk := fun w => run_make_row' (P := Try.prog) 22 54 (.slice none 0 0) 24 Try.underlying22 infoRules rfl .i64 .i64 M (by omega) (by omega) w
  have hat : bits .andNot .u32 (uv a) 16777215 = uv (a &&& ~~~16777215#32) := bits_andNot_uv a 16777215#32
  generalize hatv : a &&& ~~~16777215#32 = at_ at *
  go_upto_region 8 with (fail)
  refine hideW (Φ := fun W => Code.wp _ _ _ _ W) (fun W => OneS w2 W w2.heap.size M 0 0 0 [allR T] [allR T, atR at_ T] [dropR at_]) (oneS_start w2 M _ _ _) (fun W3 hS => ?_)
  have HS3 := Lib.hid hS
  clear hS hkc hmk
  generalize w2.heap.size = h at *
  go_wp2_with fail
  go_loopw [13] (fun i wr => ∃ k : Nat, k ≤ M ∧ i = I k ∧ Hid (OneS w2 wr h M k k k [allR T] [allR T, atR at_ T] [dropR at_])) (fun i _ => M - (intOf i).toNat)
  case atStart => exact ⟨0, by omega, rfl, HS3.out⟩
  case round =>
    obtain ⟨k, hk, rfl, HS0⟩ := hrel
    by_cases hlt : k < M
    · have hkd : decide ((k : Int) < (M : Int)) = true := decide_eq_true (by omega)
      refine hideW (Φ := fun W => Code.wp _ _ _ _ W) (fun W => OneS w2 W h M k k k [allR T] [allR T, atR at_ T] [dropR at_]) HS0.out (fun W0 hS => ?_)
      replace HS0 := Lib.hid hS
      clear hS
      have b0 := HS0.out.b1.cells
      obtain ⟨vs0, hvl0, hvb0, -⟩ := HS0.out.t1
      rw [fillT_len] at hvl0
      have p0 : ∀ ob, (W0.alloc ob).cell? ⟨h + 2, k, none⟩ = some vs0[k] := fun ob => by rw [(hvb0.old ob).cells]; exact List.getElem?_eq_getElem (by omega)
      have f0 : ∀ ob o, (W0.alloc ob).frozen? ⟨h + 2, o, none⟩ = false := fun ob => (hvb0.old ob).frozen
      clear hvb0
      go_upto_region 13 with (fail)
      refine hideW (Φ := fun W => Code.wp _ _ _ _ W) (fun W => OneS w2 W h M (k + 1) k k [allR T] [allR T, atR at_ T] [dropR at_]) ((HS0.out.later ((Ext.refl W0).alloc _)).put1 hlt (own_low (own_rule1 W0 (allR T)) HS0.out.sz)) (fun W1 hS => ?_)
      have HS1 := Lib.hid hS
      clear hS b0 p0 f0
      have b1 := HS1.out.b2.cells
      obtain ⟨vs1, hvl1, hvb1, -⟩ := HS1.out.t2
      rw [fillT_len] at hvl1
      have p1 : ∀ ob, (W1.alloc ob).cell? ⟨h + 4, k, none⟩ = some vs1[k] := fun ob => by rw [(hvb1.old ob).cells]; exact List.getElem?_eq_getElem (by omega)
      have f1 : ∀ ob o, (W1.alloc ob).frozen? ⟨h + 4, o, none⟩ = false := fun ob => (hvb1.old ob).frozen
      clear hvb1
      go_upto_region 14 with (fail)
      refine hideW (Φ := fun W => Code.wp _ _ _ _ W) (fun W => OneS w2 W h M (k + 1) (k + 1) k [allR T] [allR T, atR at_ T] [dropR at_]) ((HS1.out.later ((Ext.refl W1).alloc _)).put2 hlt (own_low (own_rule2 W1 (allR T) (atR at_ T)) HS1.out.sz)) (fun W2 hS => ?_)
      have HS2 := Lib.hid hS
      clear hS b1 p1 f1
      have b2 := HS2.out.b3.cells
      obtain ⟨vs2, hvl2, hvb2, -⟩ := HS2.out.t3
      rw [fillT_len] at hvl2
      have p2 : ∀ ob, (W2.alloc ob).cell? ⟨h + 6, k, none⟩ = some vs2[k] := fun ob => by rw [(hvb2.old ob).cells]; exact List.getElem?_eq_getElem (by omega)
      have f2 : ∀ ob o, (W2.alloc ob).frozen? ⟨h + 6, o, none⟩ = false := fun ob => (hvb2.old ob).frozen
      clear hvb2
      go_wp2_with fail
      go_roundw
      case rel => exact ⟨k + 1, by omega, by go_num, (HS2.out.later ((Ext.refl W2).alloc _)).put3 hlt (own_low (own_rule1 W2 (dropR at_)) HS2.out.sz)⟩
      case measure => simp [intOf]; omega
    · have hkd : decide ((k : Int) < (M : Int)) = false := decide_eq_false (by omega)
      have hkn : decide (k < M) = false := decide_eq_false hlt
      obtain rfl : k = M := by omega
      have c0 := HS0.out.b0.cells
      have c1 := HS0.out.b1.cells
      have c2 := HS0.out.b2.cells
      have c3 := HS0.out.b3.cells
      go_upto_region 16 with (fail)
      refine hideW (Φ := fun W => Code.wp _ _ _ _ W) (fun W => Ext wr W ∧ Blk W wr.heap.size [.slice (some ⟨h, 0, none⟩) k k, .slice (some ⟨h + 2, 0, none⟩) k k, .slice (some ⟨h + 4, 0, none⟩) k k, .slice (some ⟨h + 6, 0, none⟩) k k] 55)
        ⟨by (repeat (first | with_reducible exact Ext.refl _ | with_reducible assumption | with_reducible refine Ext.alloc ?_ _ | with_reducible refine Ext.drew ?_ | with_reducible refine Ext.drewN ?_ _ | (with_reducible refine Ext.setCellP ?_ ?_; focus (first | (simp; done) | (simp; omega) | omega)))), Blk.new wr [.slice (some ⟨h, 0, none⟩) k k, .slice (some ⟨h + 2, 0, none⟩) k k, .slice (some ⟨h + 4, 0, none⟩) k k, .slice (some ⟨h + 6, 0, none⟩) k k] 55⟩ (fun W4 hW4 => ?_)
      obtain ⟨hx4, hb4⟩ := hW4
      have HS4 := Lib.hid (HS0.out.later hx4)
      have HB4 := Lib.hid hb4
      clear c0 c1 c2 c3 hx4 hb4
      generalize wr.heap.size = nb4 at *
      have hmx : k ≤ maxLen := by unfold maxLen; omega
      have HNET := Lib.hid (show ∀ i, i < 4 → ∃ (r : Nat) (L : List Rul) (c : Int), W4.cell? ⟨nb4, i, none⟩ = some (.slice (some ⟨r, 0, none⟩) k k) ∧ TablesAt W4 (.slice (some ⟨r, 0, none⟩) k k) (List.replicate k L) ∧ OneNet k L c ∧ (i = 0 ∨ i = 3 → c = -1) ∧ (i = 1 ∨ i = 2 → c = T) from fun i hi => by
        rcases (show i = 0 ∨ i = 1 ∨ i = 2 ∨ i = 3 by omega) with rfl | rfl | rfl | rfl
        · exact ⟨h, [], -1, HB4.out.cells 0, by rw [fillT_zero]; exact HS4.out.t0.tables (fillT_len _ _ _) hmx, one_none (by omega), fun _ => rfl, fun g => by omega⟩
        · exact ⟨h + 2, [allR T], T, HB4.out.cells 1, by rw [← fillT_all]; exact HS4.out.t1.tables (fillT_len _ _ _) hmx, one_all (by omega) hT, fun g => by omega, fun _ => rfl⟩
        · exact ⟨h + 4, [allR T, atR at_ T], T, HB4.out.cells 2, by rw [← fillT_all]; exact HS4.out.t2.tables (fillT_len _ _ _) hmx, by rw [← hatv]; exact one_more (by omega) hT a, fun g => by omega, fun _ => rfl⟩
        · exact ⟨h + 6, [dropR at_], -1, HB4.out.cells 3, by rw [← fillT_all]; exact HS4.out.t3.tables (fillT_len _ _ _) hmx, by rw [← hatv]; exact one_drop (by omega) a, fun _ => rfl, fun g => by omega⟩)
      have HXW := Lib.hid (HX2.out.trans HS4.out.ext)
      clear HS0 HS3 HB4 HS4
      go_wp2_with fail
      go_loopw [15] (fun i wr => ∃ q : Nat, q ≤ 4 ∧ i = I q ∧ Hid (Ext W4 wr)) (fun i _ => 4 - (intOf i).toNat)
      case atStart => exact ⟨0, by omega, rfl, Ext.refl _⟩
      case round =>
        obtain ⟨q, hq, rfl, HX⟩ := hrel
        by_cases hql : q < 4
        · have hqd : decide ((q : Int) < 4) = true := decide_eq_true (by omega)
          obtain ⟨r, L, c, hc, ht, hN, hc1, hc2⟩ := HNET.out q hql
          have HTT := Lib.hid (ht.later HX.out)
          have HN := Lib.hid hN
          have HC1 := Lib.hid hc1
          have HC2 := Lib.hid hc2
          replace hc := HX.out.cell hc
          clear ht hN hc1 hc2
          go_upto_region 20 with (first
            | (go_at_call 22; (with_reducible refine (atomsOf_good _ (List.replicate k L) _ HTT.out HN.out.ok HN.out.may).mono ?_); rintro e w5 ⟨fv, hv, vv, l, he, hC, hA, hx5⟩; subst he; rw [HN.out.ats hC] at hA; have HA5 := Lib.hid hA; have HX5 := Lib.hid (HX.out.trans hx5); obtain ⟨fa, fc, ha, hc9, va, vc, e1, e2, e3⟩ := hA.forms; replace e1 : fv = .slice fa 1 fc := e1; replace e2 : hv = .slice ha 1 hc9 := e2; replace e3 : vv = .slice va 1 vc := e3; subst e1 e2 e3; clear hC hA hx5))
          refine hideW (Φ := fun W => Code.wp _ _ _ _ W) (fun W => Ext w5 W ∧ Blk W w5.heap.size [.slice fa 1 fc, .slice ha 1 hc9, .slice va 1 vc] 30)
            ⟨by (repeat (first | with_reducible exact Ext.refl _ | with_reducible assumption | with_reducible refine Ext.alloc ?_ _ | with_reducible refine Ext.drew ?_ | with_reducible refine Ext.drewN ?_ _ | (with_reducible refine Ext.setCellP ?_ ?_; focus (first | (simp; done) | (simp; omega) | omega)))), Blk.new w5 [.slice fa 1 fc, .slice ha 1 hc9, .slice va 1 vc] 30⟩ (fun W6 hW6 => ?_)
          obtain ⟨hx6, hb6⟩ := hW6
          have HX6 := Lib.hid (HX5.out.trans hx6)
          have HA6 := Lib.hid (HA5.out.later hx6)
          have HB6 := Lib.hid hb6
          have hbc6 := hb6.cells
          clear hx6 hb6 hc
          generalize w5.heap.size = xb at *
          have HIV := Lib.hid (show ivN [0#32] a = 0 by have := ivN_lt (l := [0#32]) rfl a; simpa using this)
          have HAV := Lib.hid (show Calls Try.prog 34 #[.agg #[.slice fa 1 fc, .slice ha 1 hc9, .slice va 1 vc], U a] W6 fun e w' => ∃ v, e = .returned (.tuple #[v, .bool true]) ∧ OwnI w' W6.heap.size v (List.replicate k c) ∧ Ext W6 w' from
            atomsAt_any _ _ _ ⟨[0#32], [0], [List.replicate k c]⟩ a 0 (List.replicate k c) _ HA6.out rfl (by show [(0 : Int)][ivN [0#32] a]? = _; rw [HIV.out]; rfl) rfl (by simp; omega))
          go_upto_region 21 with (first
            | (go_at_call 34; (with_reducible refine HAV.out.mono ?_); rintro e w7 ⟨v7, he, hV, hx7⟩; subst he; have HV7 := Lib.hid hV.ints; have HX7 := Lib.hid (HX6.out.trans hx7); have HA7 := Lib.hid (HA6.out.later hx7); have HB7 := Lib.hid (HB6.out.later hx7); clear hV hx7))
          clear hbc6
          have hbc7 := HB7.out.cells
          obtain ⟨ia, icap, hiv, i1, i2, i3⟩ := HV7.out.form
          rw [List.length_replicate] at hiv i1
          subst hiv
          unfold maxLen at i2
          have I3 := Lib.hid i3
          clear i3
          go_wp2_with (first
            | (go_at_call 31; (with_reducible refine (atomsLen_any _ _ _ ⟨[0#32], [0], [List.replicate k c]⟩ _ HA7.out).mono ?_); rintro e w8 ⟨he, hx8⟩; replace he : e = .returned (I 1) := he; subst he; have HX8 := Lib.hid (HX7.out.trans hx8); have HV8 := Lib.hid hx8; have hbc8 := (HB7.out.later hx8).cells; clear hx8))
          go_loopw [20] (fun i wr => ∃ j : Nat, j ≤ k ∧ i = I j ∧ Hid (Ext w8 wr)) (fun i _ => k - (intOf i).toNat)
          case atStart => exact ⟨0, by omega, rfl, Ext.refl _⟩
          case round =>
            obtain ⟨j, hj, rfl, HXJ⟩ := hrel
            by_cases hjl : j < k
            · have hjd : decide ((j : Int) < (k : Int)) = true := decide_eq_true (by omega)
              obtain ⟨b1, o1, he1, p1⟩ := I3.out j c (by simp [hjl])
              subst he1
              replace p1 := HXJ.out.cell (HV8.out.cell p1)
              rcases (show q = 0 ∨ q = 1 ∨ q = 2 ∨ q = 3 by omega) with rfl | rfl | rfl | rfl
              case' inl => obtain rfl := HC1.out (.inl rfl)
              case' inr.inl => obtain rfl := HC2.out (.inl rfl)
              case' inr.inr.inl => obtain rfl := HC2.out (.inr rfl)
              case' inr.inr.inr => obtain rfl := HC1.out (.inr rfl)
              all_goals
                go_wp2_with fail
                go_roundw
                case rel => exact ⟨j + 1, by omega, by go_num, HXJ.out⟩
                case measure => simp [intOf]; omega
            · have hjd : decide ((j : Int) < (k : Int)) = false := decide_eq_false (by omega)
              have hjn : decide (j < k) = false := decide_eq_false hjl
              go_wp2_with fail
              go_roundw
              case rel => exact ⟨q + 1, by omega, by go_num, HX8.out.trans HXJ.out⟩
              case measure => simp [intOf]; omega
        · have hqd : decide ((q : Int) < 4) = false := decide_eq_false (by omega)
          have hqn : decide (q < 4) = false := decide_eq_false hql
          go_wp2_with fail
          go_ret
          exact ⟨rfl, HXW.out.trans HX.out⟩
end Go.Proofs.Ytamlalablblfeaa
