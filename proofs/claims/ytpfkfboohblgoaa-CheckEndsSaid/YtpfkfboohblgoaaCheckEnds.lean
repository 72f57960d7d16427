/- The law CheckEnds: where no node steps any ranks hold; a rank of a node that steps must be above 0. Conditions: whole numbers are within 64 bits. -/
import Derived.Test.YtpfkfboohblgoaaGShort
import Derived.Test.YtpfkfboohblgoaaGFitC
import Derived.Test.YtpfkfboohblgoaaEndsCL
namespace Go.Proofs.Ytpfkfboohblgoaa
open Go Go.RowKit Go.Maps Go.Proofs

set_option maxHeartbeats 4000000 in
set_option maxRecDepth 100000 in
theorem checkEnds_any (pv tv : Value) (c : Crt) (x y : Nat) (w : World) (hc : CertAt w pv tv c) (htr : ∀ x ∈ c.tr, In64 x) (hrk : ∀ r ∈ c.rks, ∀ x ∈ r, In64 x) (hx : x < 256) (hy : y < 256) :
    Calls Try.prog 5 #[.agg #[I c.vd, pv, U c.dest, tv], .agg #[.int .u8 (x : Int), .int .u8 (y : Int)]] w fun e w' => e = .returned (.bool true) ∧ Ext w w' := by
  have HC := Lib.hid hc
  have HTR := Lib.hid htr
  have HRK := Lib.hid hrk
  clear hc htr hrk
  go_enter Try.func5, Try.ntmps5
  go_upto_region 1 with (fail)
  refine hideW (Φ := fun W => Code.wp _ _ _ _ W) (fun W => Ext w W ∧ Blk W w.heap.size [I c.vd, pv, U c.dest, tv] 29 ∧ Blk W (w.heap.size + 1) [.int .u8 (x : Int), .int .u8 (y : Int)] 47)
    ⟨by (repeat (first | with_reducible exact Ext.refl _ | with_reducible assumption | with_reducible refine Ext.alloc ?_ _ | with_reducible refine Ext.drew ?_ | with_reducible refine Ext.drewN ?_ _ | (with_reducible refine Ext.setCellP ?_ ?_; focus (first | (simp; done) | (simp; omega) | omega)))), (Blk.new w [I c.vd, pv, U c.dest, tv] 29).old _, Blk.newAt [.int .u8 (x : Int), .int .u8 (y : Int)] (by simp)⟩ (fun W1 hW1 => ?_)
  obtain ⟨hx1, hb1, hk1⟩ := hW1
  have HX1 := Lib.hid hx1
  have HB1 := Lib.hid hb1
  have HK1 := Lib.hid hk1
  clear hx1 hb1 hk1
  generalize w.heap.size + 1 = kb at *
  generalize w.heap.size = nb at *
  go_upto_region 2 with (first
    | (go_at_call 15; (with_reducible refine (shown20_any _).mono ?_); rintro e w2 ⟨rfl, hx2⟩; have HX2 := Lib.hid (HX1.out.trans hx2); have HB2 := Lib.hid (HB1.out.later hx2); have HK2 := Lib.hid (HK1.out.later hx2); clear hx2))
  have hkc := HK2.out.cells
  have hbc := HB2.out.cells
  go_upto_region 3 with (fail)
  have e1 : 1 + (x : Int) % 8 = ((1 + x % 8 : Nat) : Int) := by omega
  rw [e1]
  generalize hM : 1 + x % 8 = M
  have hM1 : 1 ≤ M ∧ M ≤ 8 := by omega
  clear e1 hM
  go_upto_region 4 with (first
    | (go_at_call 18; (with_reducible refine (short20_any _ _ c _ (HC.out.later HX2.out)).mono ?_); rintro e w5 ⟨pv5, tv5, c5, he, hC5, hS5, hx5⟩; subst he; have HC5 := Lib.hid hC5; have HS5 := Lib.hid hS5; have HX5 := Lib.hid (HX2.out.trans hx5); have HK5 := Lib.hid (HK2.out.later hx5); clear hC5 hS5 hx5)
    | (go_at_call 17; (with_reducible refine (r17Fit_any _ _ c5 M _ HC5.out (HS5.out.in_tr HTR.out) (HS5.out.in_ranks HRK.out) HS5.out.cap ⟨hM1.1, Nat.le_trans hM1.2 (by decide)⟩).mono ?_); rintro e w8 ⟨pv8, tv8, c8, he, hO, hm, hI, hv, hx8⟩; subst he; have HC8 := Lib.hid hO.at; have HM8 := Lib.hid hm; have HI8 := Lib.hid hI; have HX8 := Lib.hid (HX5.out.trans hx8); have HK8 := Lib.hid (HK5.out.later hx8); obtain ⟨pb, pbc, hpv, -, -, -⟩ := hO.at.parts.form; obtain ⟨tb, tbc, htv, -, -, -⟩ := hO.at.tr.form; subst hpv htv; clear hO hm hI hv hx8))
  clear hkc hbc
  refine hideW (Φ := fun W => Code.wp _ _ _ _ W) (fun W => Ext w8 W ∧ Blk W w8.heap.size [I c8.vd, .slice pb c8.ps.length pbc, U c8.dest, .slice tb c8.tr.length tbc] 29)
    ⟨by (repeat (first | with_reducible exact Ext.refl _ | with_reducible assumption | with_reducible refine Ext.alloc ?_ _ | with_reducible refine Ext.drew ?_ | with_reducible refine Ext.drewN ?_ _ | (with_reducible refine Ext.setCellP ?_ ?_; focus (first | (simp; done) | (simp; omega) | omega)))), Blk.new w8 [I c8.vd, .slice pb c8.ps.length pbc, U c8.dest, .slice tb c8.tr.length tbc] 29⟩ (fun W9 hW9 => ?_)
  obtain ⟨hx9, hb9⟩ := hW9
  have HX9 := Lib.hid (HX8.out.trans hx9)
  have HC9 := Lib.hid (HC8.out.later hx9)
  have HK9 := Lib.hid (HK8.out.later hx9)
  have HQ9 := Lib.hid hb9
  clear hx9 hb9 HX8 HC8 HK8 HX5 HK5 HC5 HS5 HX2 HB2 HK2 HX1 HB1 HK1
  generalize w8.heap.size = xc at *
  have hmk := fun w => run_make_row' (P := Try.prog) 22 45 (.slice none 0 0) 24 Try.underlying22 infoRules rfl .i64 .i64 M (by omega) (by omega) w
  go_upto_region 5 with (fail)
  refine hideW (Φ := fun W => Code.wp _ _ _ _ W) (fun W => Ext W9 W ∧ MadeT W (W9.heap.size + 2) W9.heap.size (noN M) ∧ Blk W (W9.heap.size + 1) [.slice (some ⟨W9.heap.size, 0, none⟩) M M] 24)
    ⟨by (repeat (first | with_reducible exact Ext.refl _ | with_reducible assumption | with_reducible refine Ext.alloc ?_ _ | with_reducible refine Ext.drew ?_ | with_reducible refine Ext.drewN ?_ _ | (with_reducible refine Ext.setCellP ?_ ?_; focus (first | (simp; done) | (simp; omega) | omega)))), (MadeT.start W9 M _).later ((Ext.refl _).alloc _), Blk.newAt [.slice (some ⟨W9.heap.size, 0, none⟩) M M] (by simp)⟩ (fun W10 hW10 => ?_)
  obtain ⟨hxA, hmA, hbA⟩ := hW10
  have HXA := Lib.hid hxA
  have HMA := Lib.hid hmA
  have HBA := Lib.hid hbA
  have HH := Lib.hid (fun (o : Nat) (A : World) (u : Value) (h : Ext W9 A) => h.setCell (p := ⟨W9.heap.size, o, none⟩) (Nat.le_refl _) u)
  have HHL := Lib.hid (show W9.heap.size + 1 < W10.heap.size from hbA.lt)
  clear hxA hmA hbA hmk
  generalize hh : W9.heap.size = h at HMA HBA HH HHL ⊢
  clear hh
  have hT : y % M < M := Nat.mod_lt _ (by omega)
  have hJ : (y % M + 1) % M < M := Nat.mod_lt _ (by omega)
  have e2 : (y : Int) % (M : Int) = ((y % M : Nat) : Int) := by simp
  have e3 : (((y % M : Nat) : Int) + 1) % (M : Int) = (((y % M + 1) % M : Nat) : Int) := by simp
  have hR : M = 1 → y % M = 0 ∧ (y % M + 1) % M = 0 := fun h1 => by subst h1; exact ⟨Nat.mod_one _, Nat.mod_one _⟩
  have hNR : M ≠ 1 → y % M ≠ (y % M + 1) % M := fun h1 => by
    rcases Nat.lt_or_ge (y % M + 1) M with g | g
    · rw [Nat.mod_eq_of_lt g]; omega
    · rw [show y % M + 1 = M by omega, Nat.mod_self]; omega
  generalize (y % M + 1) % M = J at hJ e3 hR hNR
  generalize y % M = T at hT e2 e3 hJ hR hNR
  obtain ⟨l1, hc1⟩ := cuts_exist (noN M).flatten
  obtain ⟨l2, hc2⟩ := cuts_exist (oneN M T J).flatten
  have HN1 := Lib.hid (show ∀ W, Ext W10 W → Calls Try.prog 21 #[.agg #[.slice (some ⟨h, 0, none⟩) M M], .agg #[I c8.vd, .slice pb c8.ps.length pbc, U c8.dest, .slice tb c8.tr.length tbc]] W fun e w' => e = .returned (.agg #[I (ansV l1 (noN M) c8).1, I (ansV l1 (noN M) c8).2]) ∧ Ext W w' from fun W hW =>
    checkNet_any _ _ _ (noN M) c8 l1 W ((HMA.out.tables (noN_len M) (by unfold maxLen; omega)).later hW) (noN_ok M) (Nat.le_trans (noN_size (by omega)) (by decide)) hc1 (HC9.out.later (HXA.out.trans hW)) HI8.out)
  have HN2 := Lib.hid (show ∀ W, Ext W9 W → TablesAt W (.slice (some ⟨h, 0, none⟩) M M) (oneN M T J) → Calls Try.prog 21 #[.agg #[.slice (some ⟨h, 0, none⟩) M M], .agg #[I c8.vd, .slice pb c8.ps.length pbc, U c8.dest, .slice tb c8.tr.length tbc]] W fun e w' => e = .returned (.agg #[I (ansV l2 (oneN M T J) c8).1, I (ansV l2 (oneN M T J) c8).2]) ∧ Ext W w' from fun W hW hT' =>
    checkNet_any _ _ _ (oneN M T J) c8 l2 W hT' (oneN_ok (by omega)) (Nat.le_trans (oneN_size (by omega)) (by decide)) hc2 (HC9.out.later hW) HI8.out)
  have HRL := Lib.hid (show c8.vd = 1 → ∀ r ∈ c8.rks, r.length = M from fun hv r hr => by have := (rksV_all (free_ok HM8.out hv).rks r hr).1; omega)
  have HPS := Lib.hid (show c8.vd ≠ 1 → c8.ps = [] from fun hv => (loop_ok HM8.out hv).ps)
  have hpl : c8.ps.length ≤ 9223372036854775807 := by
    obtain ⟨_, cap, hpe, h1, h2, _⟩ := HC9.out.parts.form
    unfold maxLen at h2
    omega
  have HLEN := Lib.hid HC9.out.len
  have HCS := Lib.hid (ends_cases (by omega) hT hJ hR hNR HM8.out HC9.out.len l1 l2)
  have HQA := Lib.hid (HQ9.out.later HXA.out)
  have HKA := Lib.hid (HK9.out.later HXA.out)
  have hT' : (T : Int) < (M : Int) := by omega
  have hJ' : (J : Int) < (M : Int) := by omega
  clear hR hNR hc1 hc2
  rcases HCS.out with ⟨hvb, h1, h3, h2⟩ | ⟨hvb, h1, h3, h2⟩ | ⟨hvb, h1, h3, h2⟩ | ⟨hvb, h1, h3, h2⟩
  all_goals
    rw [h1.out] at HN1
    have HZ3 := Lib.hid (congrArg Prod.fst h2.out)
    have HZ4 := Lib.hid (congrArg Prod.snd h2.out)
    generalize (ansV l2 (oneN M T J) c8).1 = z3 at HN2 HZ3
    generalize (ansV l2 (oneN M T J) c8).2 = z4 at HN2 HZ4
    have H3 := Lib.hid h3
    clear h1 h2 h3 HCS
    have hqc := HQA.out.cells
    have hbc := HBA.out.cells
    go_upto_region 6 with (first
      | (go_at_call 21; (with_reducible refine (HN1.out _ ?_).mono ?_); (· exact Ext.refl _); rintro e w11 ⟨he, hx⟩; subst he; have HXB := Lib.hid hx; have hxr := Ext.refl w11; have hqc11 := (HQA.out.later hx).keep; have hbc11 := (HBA.out.later hx).keep; have hkc11 := (HKA.out.later hx).keep; clear hx))
    clear hqc hbc
    go_upto_region 11 with (fail)
    rw [e2]
    simp only [e3]
    refine hideW (Φ := fun W => Code.wp _ _ _ _ W) (fun W => Ext w11 W) (by (repeat (first | with_reducible exact Ext.refl _ | with_reducible assumption | with_reducible refine Ext.alloc ?_ _ | with_reducible refine Ext.drew ?_ | with_reducible refine Ext.drewN ?_ _ | (with_reducible refine Ext.setCellP ?_ ?_; focus (first | (simp; done) | (simp; omega) | omega))))) (fun W12 hW12 => ?_)
    have HXC := Lib.hid (HXB.out.trans hW12)
    clear hqc11 hbc11 hkc11 hxr hW12 HXB e2 e3 HN1
    have HMC := Lib.hid (HMA.out.later HXC.out)
    have hbc := (HBA.out.later HXC.out).cells
    obtain ⟨vs, hvl, hvb, -⟩ := HMC.out
    rw [noN_len] at hvl
    have p0 : ∀ ob, (W12.alloc ob).cell? ⟨h, T, none⟩ = some vs[T] := fun ob => by rw [(hvb.old ob).cells]; exact List.getElem?_eq_getElem (by omega)
    have f0 : ∀ ob o, (W12.alloc ob).frozen? ⟨h, o, none⟩ = false := fun ob => (hvb.old ob).frozen
    have HSZ := Lib.hid (show h + 2 ≤ W12.heap.size by have := HHL.out; have := HXC.out.size; omega)
    clear hvb
    go_upto_region 12 with (fail)
    refine hideW (Φ := fun W => Code.wp _ _ _ _ W) (fun W => Ext W9 W ∧ MadeT W (h + 2) h (oneN M T J) ∧ Blk W (h + 1) [.slice (some ⟨h, 0, none⟩) M M] 24)
      ⟨HH.out _ _ _ ((HXA.out.trans HXC.out).alloc _), (HMC.out.later ((Ext.refl W12).alloc _)).put (by rw [noN_len]; exact hT) (by omega) (own_low (own_rule1 W12 (allR J)) HSZ.out), ((HBA.out.later HXC.out).old _).other (by simp) _⟩ (fun W13 hW13 => ?_)
    obtain ⟨hxD, hmD, hbD⟩ := hW13
    have HXD := Lib.hid hxD
    have HMD := Lib.hid hmD
    have HQD := Lib.hid (HQ9.out.later hxD)
    clear p0 f0 hbc hxD hmD HMC HXC HSZ HBA HMA hvl
    have hqc := HQD.out.cells
    have hbc := hbD.cells
    clear hbD
    go_upto_region 14 with (first
      | (go_at_call 21; (with_reducible refine (HN2.out _ HXD.out (HMD.out.tables (oneN_len M T J) (by unfold maxLen; omega))).mono ?_); rintro e w14 ⟨he, hx⟩; subst he; have HXE := Lib.hid (HXD.out.trans hx); clear hx))
    clear hqc hbc
    refine hideW (Φ := fun W => Code.wp _ _ _ _ W) (fun W => Ext w14 W ∧ Blk W w14.heap.size [I z3, I z4] 40)
      ⟨by (repeat (first | with_reducible exact Ext.refl _ | with_reducible assumption | with_reducible refine Ext.alloc ?_ _ | with_reducible refine Ext.drew ?_ | with_reducible refine Ext.drewN ?_ _ | (with_reducible refine Ext.setCellP ?_ ?_; focus (first | (simp; done) | (simp; omega) | omega)))), Blk.new w14 [I z3, I z4] 40⟩ (fun W15 hW15 => ?_)
    obtain ⟨hxF, hbF⟩ := hW15
    have HXF := Lib.hid (HXE.out.trans hxF)
    have HAF := Lib.hid hbF
    have HQF := Lib.hid (HQ9.out.later HXF.out)
    have HCF := Lib.hid (HC9.out.later HXF.out)
    clear hxF hbF
    generalize w14.heap.size = ab at *
    clear HN2 HMD HXE HQD HXD HH HHL HXA HQA HKA HK9 HQ9
    go_wp2_with fail
    go_loopw [14, 15] (fun f i wr => ∃ k : Nat, k ≤ c8.ps.length ∧ i = I k ∧ f = .bool (fallsV (c8.rks.take k) T J) ∧ Hid (Ext W15 wr)) (fun _ i _ => c8.ps.length - (intOf i).toNat)
    case atStart => exact ⟨0, by omega, rfl, rfl, Ext.refl _⟩
    case round =>
      obtain ⟨k, hk, rfl, rfl, HX⟩ := hrel
      have hqc := (HQF.out.later HX.out).cells
      by_cases hlt : k < c8.ps.length
      · have hv1 : c8.vd = 1 := Classical.byContradiction fun e => by rw [HPS.out e] at hlt; simp at hlt
        have hkr : k < c8.rks.length := by rw [HLEN.out]; exact hlt
        have HST := Lib.hid (fallsV_step (i := T) (j := J) hkr)
        have hrM := HRL.out hv1 _ (List.getElem_mem hkr)
        obtain ⟨_, _, hpe, _, _, P3⟩ := HCF.out.parts.form
        obtain ⟨b0, o0, he0, q0, q1, q2⟩ := P3 k _ (List.getElem?_eq_getElem hlt)
        simp only [Value.slice.injEq, true_and] at hpe
        obtain ⟨rfl, rfl⟩ := hpe
        subst he0
        clear P3
        have hrk := HCF.out.rk k _ _ (List.getElem?_eq_getElem hlt) (List.getElem?_eq_getElem hkr)
        have HLT := Lib.hid hlt
        generalize c8.ps[k] = p at *
        generalize c8.rks[k] = r at *
        obtain ⟨pf, pu, pra, prn, prc⟩ := p
        obtain ⟨_, _, hre, _, hrm, R3⟩ := hrk.form
        simp only [Value.slice.injEq] at hre
        obtain ⟨rfl, rfl, rfl⟩ := hre
        have hgT : r.getD T 0 = r[T]'(by omega) := by rw [List.getD_eq_getElem?_getD, List.getElem?_eq_getElem (by omega)]; rfl
        have hgJ : r.getD J 0 = r[J]'(by omega) := by rw [List.getD_eq_getElem?_getD, List.getElem?_eq_getElem (by omega)]; rfl
        obtain ⟨b1, o1, he1, rT⟩ := R3 T _ (List.getElem?_eq_getElem (by omega))
        obtain ⟨b2, o2, he2, rJ⟩ := R3 J _ (List.getElem?_eq_getElem (by omega))
        subst he1
        simp only [Option.some.injEq, Addr.mk.injEq, and_true] at he2
        obtain ⟨rfl, rfl⟩ := he2
        rw [← hgT] at rT
        rw [← hgJ] at rJ
        replace q0 := Ext.keep (HX.out.cell q0)
        replace q1 := Ext.keep (HX.out.cell q1)
        replace q2 := Ext.keep (HX.out.cell q2)
        replace rT := Ext.keep (HX.out.cell rT)
        replace rJ := Ext.keep (HX.out.cell rJ)
        have hTr : T < r.length := by omega
        have hJr : J < r.length := by omega
        simp only [Prt.rk] at q0 q1 q2
        have hqk := (HQF.out.later HX.out).keep
        generalize r.getD T 0 = xT at *
        generalize r.getD J 0 = xJ at *
        clear hgT hgJ R3 hrk hrM
        generalize fallsV (c8.rks.take k) T J = fb at *
        have hkd : decide ((k : Int) < (c8.ps.length : Int)) = true := decide_eq_true (by omega)
        cases fb
        case' true =>
          go_upto_region 17 with fail
          refine wp_region_E 22 rfl (by kernel_rfl) (by kernel_rfl) ?_
          refine WEi_at 0 ?_
          iterate 22
            refine WEi_q rfl (by decide) (by kernel_rfl) rfl ?_; apply Exists.intro; refine ⟨fun w1 hx1 => ?_, ?_⟩
            · have hq1 := hx1.cells; go_simp; try go_bits
              first | with_reducible rfl
            simp only [Act.put, List.setIfInBounds_toArray, List.set_cons_zero, List.set_cons_succ, Nat.reduceAdd]
          refine WEi_out ?_
          refine WE_done (by kernel_rfl) (fun w8 hx8 => ?_)
          (try simp only [List.drop_succ_cons, List.drop_zero])
          have HX8 := Lib.hid (HX.out.trans hx8)
          go_wp2_with fail
          go_roundw
          case rel => exact ⟨k + 1, Nat.succ_le_of_lt HLT.out, by go_num, by rw [HST.out]; rfl, HX8.out⟩
          case measure => have := HLT.out; simp [intOf]; omega
        case' false =>
          go_upto_region 17 with fail
          refine wp_region_E 22 rfl (by kernel_rfl) (by kernel_rfl) ?_
          refine WEi_at 0 ?_
          iterate 2
            refine WEi_q rfl (by decide) (by kernel_rfl) rfl ?_; apply Exists.intro; refine ⟨fun w1 hx1 => ?_, ?_⟩
            · have hq1 := hx1.cells; go_simp; try go_bits
              first | with_reducible rfl
            simp only [Act.put, List.setIfInBounds_toArray, List.set_cons_zero, List.set_cons_succ, Nat.reduceAdd]
          refine WEi_out ?_
          refine WEi_at 2 ?_
          iterate 19
            refine WEi_s rfl (by decide) (by kernel_rfl) rfl ?_
            simp only [Act.put, List.setIfInBounds_toArray, List.set_cons_zero, List.set_cons_succ, Nat.reduceAdd]
          refine WEi_out ?_
          refine WE_q 21 rfl (by decide) (by kernel_rfl) rfl ?_; apply Exists.intro; refine ⟨fun w1 hx1 => ?_, ?_⟩
          · have hq1 := hx1.cells; go_simp; try go_bits
            first | with_reducible rfl
          simp only [Act.put, List.setIfInBounds_toArray, List.set_cons_zero, List.set_cons_succ]
          refine WE_done (by kernel_rfl) (fun w8 hx8 => ?_)
          (try simp only [List.drop_succ_cons, List.drop_zero])
          have HX8 := Lib.hid (HX.out.trans hx8)
          go_wp2_with fail
          go_roundw
          case rel => exact ⟨k + 1, Nat.succ_le_of_lt HLT.out, by go_num, by rw [HST.out]; rfl, HX8.out⟩
          case measure => have := HLT.out; simp [intOf]; omega
      · obtain rfl : k = c8.ps.length := by omega
        have hkd : decide ((c8.ps.length : Int) < (c8.ps.length : Int)) = false := decide_eq_false (by omega)
        rw [show c8.rks.take c8.ps.length = c8.rks from List.take_of_length_le (by rw [HLEN.out]; exact Nat.le_refl _)]
        have hac := (HAF.out.later HX.out).cells
        have e3 := HZ3.out
        have e4 := HZ4.out
        subst e3 e4
        first
          | (have h3 := H3.out.out; rw [h3]; clear h3; go_wp2_with fail; go_ret; exact ⟨rfl, HX9.out.trans (HXF.out.trans HX.out)⟩)
          | (have hmb := H3.out; go_wp2_with fail; go_ret; exact ⟨rfl, HX9.out.trans (HXF.out.trans HX.out)⟩)
end Go.Proofs.Ytpfkfboohblgoaa
