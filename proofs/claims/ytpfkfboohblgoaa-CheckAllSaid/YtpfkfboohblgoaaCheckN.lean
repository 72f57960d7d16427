/- check.Trace, check.Net. Conditions: whole numbers are within 64 bits. -/
import Derived.Test.YtpfkfboohblgoaaCheckP
import Derived.Test.YtpfkfboohblgoaaInside
namespace Go.Proofs.Ytpfkfboohblgoaa
open Go.RowKit

def trOkV (ls : List (List Rul)) (dest : BitVec 32) (tr : List Int) (i : Nat) : Bool := decide (stepN ls dest (tr.getD i 0) = some (tr.getD ((i + 1) % tr.length) 0))
def traceV (ls : List (List Rul)) (dest : BitVec 32) (tr : List Int) : Int := if tr.length = 0 then 17 else if (List.range tr.length).all (trOkV ls dest tr) then 0 else 17
theorem traceV_two (ls : List (List Rul)) (dest : BitVec 32) (tr : List Int) : traceV ls dest tr = 0 ∨ traceV ls dest tr = 17 := by
  unfold traceV
  split
  · simp
  · split <;> simp
theorem traceV_no {ls : List (List Rul)} {dest : BitVec 32} {tr : List Int} {i : Nat} (hi : i < tr.length) (h : trOkV ls dest tr i = false) : traceV ls dest tr = 17 := by
  unfold traceV
  rw [if_neg (by omega), if_neg]
  intro ha
  rw [List.all_eq_true] at ha
  rw [ha i (List.mem_range.2 hi)] at h
  cases h
theorem traceV_yes {ls : List (List Rul)} {dest : BitVec 32} {tr : List Int} (h0 : 0 < tr.length) (h : ∀ i, i < tr.length → trOkV ls dest tr i = true) : traceV ls dest tr = 0 := by
  unfold traceV
  rw [if_neg (by omega), if_pos]
  rw [List.all_eq_true]
  exact fun i hi => h i (List.mem_range.1 hi)
set_option maxHeartbeats 4000000 in
set_option maxRecDepth 100000 in
theorem checkTrace_any (lv tv : Value) (ls : List (List Rul)) (dest : BitVec 32) (tr : List Int) (w : World) (hl : TablesAt w lv ls) (hok : TablesOk ls) (ht : IntsAt w tv tr) :
    Calls Try.prog 25 #[.agg #[lv], U dest, tv] w fun e w' => e = .returned (I (traceV ls dest tr)) ∧ Ext w w' := by
  have HL := Lib.hid hl
  have HOK := Lib.hid hok
  obtain ⟨ad, cap, rfl, a1, a2, a3⟩ := hl.form
  obtain ⟨ta, tc, rfl, t1, t2, t3⟩ := ht.form
  have T3 := Lib.hid t3
  clear a3 t3 hl hok ht
  unfold maxLen at a2 t2
  go_enter Try.func25, Try.ntmps25
  go_upto_region 1 with (fail)
  refine hideW (Φ := fun W => Code.wp _ _ _ _ W) (fun W => Ext w W ∧ Blk W w.heap.size [.slice ad ls.length cap] 24)
    ⟨by (repeat (first | with_reducible exact Ext.refl _ | with_reducible assumption | with_reducible refine Ext.alloc ?_ _ | with_reducible refine Ext.drew ?_ | with_reducible refine Ext.drewN ?_ _ | (with_reducible refine Ext.setCellP ?_ ?_; focus (first | (simp; done) | (simp; omega) | omega)))), Blk.new w [.slice ad ls.length cap] 24⟩ (fun W1 hW1 => ?_)
  obtain ⟨hx1, hb1⟩ := hW1
  have HX1 := Lib.hid hx1
  have HB1 := Lib.hid hb1
  clear hx1 hb1
  generalize w.heap.size = nb at *
  have hbc := HB1.out.cells
  by_cases h0 : tr.length = 0
  · have hb0 : ((tr.length : Int) == 0) = true := by simp [h0]
    have HV := Lib.hid (show traceV ls dest tr = 17 by unfold traceV; rw [if_pos h0])
    clear h0
    go_wp2_with fail
    go_ret
    exact ⟨by rw [HV.out]; rfl, HX1.out⟩
  have hb0 : ((tr.length : Int) == 0) = false := beq_false_of_ne (by omega)
  have hlp : 0 < tr.length := by omega
  clear h0
  go_upto_region 4 with (first
    | (go_at_call 50; (with_reducible refine (steps_any _ ls _ (HL.out.later HX1.out)).mono ?_); rintro e w3 ⟨sb, he, hb3, hx3⟩; subst he; have HS3 := Lib.hid hb3; have HX3 := Lib.hid (HX1.out.trans hx3); clear hb3 hx3))
  refine hideW (Φ := fun W => Code.wp _ _ _ _ W) (fun W => Ext w3 W ∧ Blk W w3.heap.size [I ls.length, stepF sb] 89)
    ⟨by (repeat (first | with_reducible exact Ext.refl _ | with_reducible assumption | with_reducible refine Ext.alloc ?_ _ | with_reducible refine Ext.drew ?_ | with_reducible refine Ext.drewN ?_ _ | (with_reducible refine Ext.setCellP ?_ ?_; focus (first | (simp; done) | (simp; omega) | omega)))), Blk.new w3 [I ls.length, stepF sb] 89⟩ (fun W4 hW4 => ?_)
  obtain ⟨hx4, hb4⟩ := hW4
  have HX4 := Lib.hid (HX3.out.trans hx4)
  have HS4 := Lib.hid (HS3.out.later hx4)
  have HT4 := Lib.hid hb4
  clear hx4 hb4 hbc HS3 HB1 HX3
  generalize w3.heap.size = tb at *
  obtain ⟨bt, ot, het, qz⟩ := T3.out 0 _ (List.getElem?_eq_getElem hlp)
  subst het
  have HQZ := Lib.hid (show w.cell? ⟨bt, ot, none⟩ = some (I tr[0]) from by simpa using qz)
  have HGZ := Lib.hid (show tr.getD 0 0 = tr[0] by rw [List.getD_eq_getElem?_getD, List.getElem?_eq_getElem hlp]; rfl)
  clear qz
  generalize tr[0] = z at *
  go_wp2_with fail
  go_loopw [20] (fun i wr => ∃ k : Nat, k ≤ tr.length ∧ i = I k ∧ Hid (∀ i, i < k → trOkV ls dest tr i = true) ∧ Hid (Ext W4 wr)) (fun i _ => tr.length - (intOf i).toNat)
  case atStart => exact ⟨0, by omega, rfl, fun i h => by omega, Ext.refl _⟩
  case round =>
    obtain ⟨k, hk, rfl, HG, HX⟩ := hrel
    have htc := (HT4.out.later HX.out).cells
    by_cases hlt : k < tr.length
    · have HXE := Lib.hid (HX4.out.trans HX.out)
      obtain ⟨b0, o0, he0, q0⟩ := T3.out k _ (List.getElem?_eq_getElem hlt)
      simp only [Option.some.injEq, Addr.mk.injEq, and_true] at he0
      obtain ⟨rfl, rfl⟩ := he0
      replace q0 := HXE.out.cell q0
      have qz := HXE.out.cell HQZ.out
      have HGK := Lib.hid (show tr.getD k 0 = tr[k] by rw [List.getD_eq_getElem?_getD, List.getElem?_eq_getElem hlt]; rfl)
      have HTO := Lib.hid (show trOkV ls dest tr k = decide (stepN ls dest (tr.getD k 0) = some (tr.getD ((k + 1) % tr.length) 0)) from rfl)
      rw [HGK.out] at HTO
      have HNO := Lib.hid (fun h => traceV_no (ls := ls) (dest := dest) hlt h)
      have HNX := Lib.hid (show trOkV ls dest tr k = true → ∀ i, i < k + 1 → trOkV ls dest tr i = true from fun h i hi => by
        rcases Nat.lt_or_ge i k with g | g
        · exact HG.out i g
        · rw [show i = k by omega]; exact h)
      generalize tr[k] = v at *
      have HSV := Lib.hid (HS4.out.later HX.out)
      have HLV := Lib.hid (HL.out.later HXE.out)
      by_cases hc : k + 1 < tr.length
      case' pos =>
        have hcd : decide ((k : Int) < (tr.length : Int) - 1) = true := decide_eq_true (by omega)
        obtain ⟨b1, o1, he1, q1⟩ := T3.out (k + 1) _ (List.getElem?_eq_getElem hc)
        simp only [Option.some.injEq, Addr.mk.injEq, and_true] at he1
        obtain ⟨rfl, rfl⟩ := he1
        replace q1 := HXE.out.cell q1
        have HGY := Lib.hid (show tr.getD ((k + 1) % tr.length) 0 = tr[k + 1] by rw [Nat.mod_eq_of_lt hc, List.getD_eq_getElem?_getD, List.getElem?_eq_getElem hc]; rfl)
        generalize tr[k + 1] = y at *
      case' neg =>
        have hcd : decide ((k : Int) < (tr.length : Int) - 1) = false := decide_eq_false (by omega)
        have HGY := Lib.hid (show tr.getD ((k + 1) % tr.length) 0 = z by rw [show k + 1 = tr.length by omega, Nat.mod_self]; exact HGZ.out)
        generalize hy : z = y at *
        clear hy
      all_goals
        rw [HGY.out] at HTO
        cases hs : stepN ls dest v with
        | none =>
          have HS := Lib.hid hs
          have HR := Lib.hid (HNO.out (by rw [HTO.out, hs]; rfl))
          clear hs
          go_wp2_with (first
            | (go_at_call 89; (with_reducible refine (stepF_any _ ls dest v sb _ HSV.out HLV.out HOK.out).mono ?_); rintro e w5 ⟨he, hx5⟩; rw [HS.out] at he; subst he; have HX5 := Lib.hid (HX.out.trans hx5); clear hx5))
          go_ret
          exact ⟨by rw [HR.out]; rfl, HX4.out.trans HX5.out⟩
        | some x =>
          have HS := Lib.hid hs
          by_cases hxy : x = y
          · have hxb : (x != y) = false := by simp [hxy]
            have HR := Lib.hid (HNX.out (by rw [HTO.out, hs, hxy]; simp))
            clear hs hxy
            go_wp2_with (first
              | (go_at_call 89; (with_reducible refine (stepF_any _ ls dest v sb _ HSV.out HLV.out HOK.out).mono ?_); rintro e w5 ⟨he, hx5⟩; rw [HS.out] at he; subst he; have HX5 := Lib.hid (HX.out.trans hx5); clear hx5))
            go_roundw
            case rel => exact ⟨k + 1, by omega, by go_num, HR.out, HX5.out⟩
            case measure => simp [intOf]; omega
          · have hxb : (x != y) = true := by simp [hxy]
            have HR := Lib.hid (HNO.out (by rw [HTO.out, hs]; exact decide_eq_false (fun e => hxy (Option.some.inj e))))
            clear hs hxy
            go_wp2_with (first
              | (go_at_call 89; (with_reducible refine (stepF_any _ ls dest v sb _ HSV.out HLV.out HOK.out).mono ?_); rintro e w5 ⟨he, hx5⟩; rw [HS.out] at he; subst he; have HX5 := Lib.hid (HX.out.trans hx5); clear hx5))
            go_ret
            exact ⟨by rw [HR.out]; rfl, HX4.out.trans HX5.out⟩
    · have HE := Lib.hid (traceV_yes hlp (fun i hi => HG.out i (by omega)))
      go_wp2_with fail
      go_ret
      exact ⟨by rw [HE.out]; rfl, HX4.out.trans HX.out⟩
theorem cutsS_more : ∀ (xs : List (BitVec 32)) {S : List Int} {l : List (BitVec 32)}, CutsS S l → ∃ l', CutsS (S ++ xs.map uv) l'
  | [], S, l, h => ⟨l, by simpa using h⟩
  | x :: xs, S, l, h => by
    obtain ⟨l', h'⟩ := cutsS_more xs (h.put x)
    exact ⟨l', by simpa using h'⟩
theorem cuts_exist (rs : List Rul) : ∃ l, Cuts rs l := by
  obtain ⟨l, h⟩ := cutsS_more ((rs.flatMap rcut).map (BitVec.ofInt 32)) CutsS.start
  refine ⟨l, h.1, fun a => ?_⟩
  rw [h.2 a]
  have e : ((rs.flatMap rcut).map (BitVec.ofInt 32)).map uv = rs.flatMap rcut := by
    rw [List.map_map]
    conv => rhs; rw [← List.map_id (rs.flatMap rcut)]
    refine List.map_congr_left fun x hx => ?_
    obtain ⟨r, _, hr⟩ := List.mem_flatMap.1 hx
    have := rcut_bd r x hr
    exact uv_ofInt x this.1 this.2
  rw [e]
  unfold cutI
  simp
/-- What is told of a network and a certificate. -/
def ansV (l : List (BitVec 32)) (ls : List (List Rul)) (c : Crt) : Int × Int :=
  if netMayV ls ≠ 0 then (0, netMayV ls) else if certMayV ls.length c ≠ 0 then (0, certMayV ls.length c) else if c.vd = 1 then (if partsZ l ls (c.ps.zip c.rks) ≠ 0 then (0, partsZ l ls (c.ps.zip c.rks)) else (1, 0)) else if traceV ls c.dest c.tr ≠ 0 then (0, 17) else (c.vd, 0)
theorem certMay_vd {n : Int} {c : Crt} (h : certMayV n c = 0) : c.vd = 1 ∧ meetV c.ps = 0 ∧ c.ps.length ≤ 8193 ∨ c.vd = 2 := by
  unfold certMayV at h
  by_cases h1 : c.vd = 1
  · rw [if_pos h1] at h
    unfold freeV at h
    split at h
    · cases h
    · split at h
      · cases h
      · split at h
        · cases h
        · rename_i g1 g2 g3
          exact .inl ⟨h1, by simpa using g3, by omega⟩
  · rw [if_neg h1] at h
    by_cases h2 : c.vd = 2
    · exact .inr h2
    · rw [if_neg h2] at h; cases h
set_option maxHeartbeats 4000000 in
set_option maxRecDepth 100000 in
theorem checkNet_any (lv pv tv : Value) (ls : List (List Rul)) (c : Crt) (l : List (BitVec 32)) (w : World) (hl : TablesAt w lv ls) (hok : TablesOk ls) (hs : sizeN ls ≤ 10000000) (hC : Cuts ls.flatten l) (hc : CertAt w pv tv c) (htr : ∀ x ∈ c.tr, In64 x) :
    Calls Try.prog 21 #[.agg #[lv], .agg #[I c.vd, pv, U c.dest, tv]] w fun e w' => e = .returned (.agg #[I (ansV l ls c).1, I (ansV l ls c).2]) ∧ Ext w w' := by
  have HL := Lib.hid hl
  have HOK := Lib.hid hok
  have HS := Lib.hid hs
  have HC := Lib.hid hC
  have HCT := Lib.hid hc
  have HTR := Lib.hid htr
  obtain ⟨ad, cap, rfl, a1, a2, a3⟩ := hl.form
  obtain ⟨pa, pc, rfl, p1, p2, p3⟩ := hc.parts.form
  obtain ⟨ta, tc, rfl, t1, t2, t3⟩ := hc.tr.form
  clear a3 p3 t3 hl hok hs hC hc htr
  unfold maxLen at a2 p2 t2
  go_enter Try.func21, Try.ntmps21
  go_upto_region 1 with (fail)
  refine hideW (Φ := fun W => Code.wp _ _ _ _ W) (fun W => Ext w W ∧ Blk W w.heap.size [.slice ad ls.length cap] 24 ∧ Blk W (w.heap.size + 1) [I c.vd, .slice pa c.ps.length pc, U c.dest, .slice ta c.tr.length tc] 29 ∧ Blk W (w.heap.size + 2) [.int .i64 0, .int .i64 0] 40)
    ⟨by (repeat (first | with_reducible exact Ext.refl _ | with_reducible assumption | with_reducible refine Ext.alloc ?_ _ | with_reducible refine Ext.drew ?_ | with_reducible refine Ext.drewN ?_ _ | (with_reducible refine Ext.setCellP ?_ ?_; focus (first | (simp; done) | (simp; omega) | omega)))), ((Blk.new w [.slice ad ls.length cap] 24).old _).old _, (Blk.newAt [I c.vd, .slice pa c.ps.length pc, U c.dest, .slice ta c.tr.length tc] (by simp)).old _, Blk.newAt [.int .i64 0, .int .i64 0] (by simp)⟩ (fun W1 hW1 => ?_)
  obtain ⟨hx1, hb1, hk1, hr1⟩ := hW1
  have HX1 := Lib.hid hx1
  have HB1 := Lib.hid hb1
  have HK1 := Lib.hid hk1
  have HR1 := Lib.hid hr1
  have HSC := Lib.hid (show ∀ (A : World) (o : Nat) (u : Value), Ext w A → Ext w (A.setCell ⟨w.heap.size + 2, o, none⟩ u) from fun A o u h => h.setCell (by show w.heap.size ≤ w.heap.size + 2; omega) u)
  clear hx1 hb1 hk1 hr1
  generalize w.heap.size + 2 = rb at *
  generalize w.heap.size + 1 = cb at *
  generalize w.heap.size = nb at *
  have HEND := Lib.hid (show ∀ (W : World) (x y : Int), Ext W1 W → Ext w ((W.setCell ⟨rb, 0, none⟩ (I x)).setCell ⟨rb, 1, none⟩ (I y)) ∧ Blk ((W.setCell ⟨rb, 0, none⟩ (I x)).setCell ⟨rb, 1, none⟩ (I y)) rb [I x, I y] 40 from fun W x y hx =>
    ⟨HSC.out _ _ _ (HSC.out _ _ _ (HX1.out.trans hx)), ((HR1.out.later hx).set 0 (I x)).set 1 (I y)⟩)
  have hbc := HB1.out.cells
  have HSZ := Lib.hid (Nat.le_trans HS.out (by decide : 10000000 ≤ 100000000))
  go_upto_region 2 with (first
    | (go_at_call 19; (with_reducible refine (netMay_any _ ls _ (HL.out.later HX1.out) HOK.out HSZ.out).mono ?_); rintro e w2 ⟨he, hx2⟩; subst he; have HX2 := Lib.hid hx2; clear hx2))
  clear hbc
  by_cases h1 : netMayV ls = 0
  · have HM := Lib.hid h1
    rw [h1]
    clear h1
    have hbc2 := (HB1.out.later HX2.out).cells
    have hkc2 := (HK1.out.later HX2.out).cells
    have HC2 := Lib.hid (HCT.out.later (HX1.out.trans HX2.out))
    go_upto_region 4 with (first
      | (go_at_call 20; (with_reducible refine (certMay_any _ _ c ls.length _ HC2.out HTR.out).mono ?_); rintro e w3 ⟨he, hx3⟩; subst he; have HX3 := Lib.hid (HX2.out.trans hx3); clear hx3))
    clear hbc2 hkc2
    have hbc3 := (HB1.out.later HX3.out).cells
    have hkc3 := (HK1.out.later HX3.out).cells
    have HC3 := Lib.hid (HCT.out.later (HX1.out.trans HX3.out))
    have HL3 := Lib.hid (HL.out.later (HX1.out.trans HX3.out))
    have hrc3 := (HR1.out.later HX3.out).cells
    have hrf3 := (HR1.out.later HX3.out).frozen
    by_cases h2 : certMayV ls.length c = 0
    · have HM2 := Lib.hid h2
      rw [h2]
      rcases certMay_vd h2 with ⟨h3, h4, h5⟩ | h3
      · have h3b : (c.vd == 1) = true := by simp [h3]
        have h3c : (c.vd == 2) = false := beq_false_of_ne (by omega)
        have HAV := Lib.hid (show ansV l ls c = if partsZ l ls (c.ps.zip c.rks) ≠ 0 then (0, partsZ l ls (c.ps.zip c.rks)) else (1, 0) by unfold ansV; rw [if_neg (by rw [HM.out]; simp), if_neg (by rw [h2]; simp), if_pos h3])
        have HPA := Lib.hid (checkParts_any (.slice ad ls.length cap) (.slice pa c.ps.length pc) ls c.ps c.rks l w3 HL3.out HOK.out HS.out HC.out HC3.out.parts (by omega) h4 HC3.out.len HC3.out.rk)
        have HVD := Lib.hid h3
        clear h2 h3 h4 h5
        by_cases h6 : partsZ l ls (c.ps.zip c.rks) = 0
        · have HP := Lib.hid h6
          have HA2 := Lib.hid (show ansV l ls c = (1, 0) by rw [HAV.out, if_neg (by rw [h6]; simp)])
          clear h6
          go_upto_region 6 with (first
            | (go_at_call 49; (with_reducible refine HPA.out.mono ?_); rintro e w4 ⟨he, hx4⟩; rw [HP.out] at he; subst he; have HX4 := Lib.hid (HX3.out.trans hx4); clear hx4))
          clear hbc3 hkc3 hrc3 hrf3
          have hkc4 := (HK1.out.later HX4.out).cells
          have hrc4 := (HR1.out.later HX4.out).cells
          have hrf4 := (HR1.out.later HX4.out).frozen
          go_wp2_with fail
          rw [HA2.out]
          refine hideW (Φ := fun W => bodyPost _ _ _ _ _ W) (fun W => Ext w W ∧ Blk W rb [I c.vd, I 0] 40) (HEND.out _ _ _ HX4.out) (fun W9 hW9 => ?_)
          have hc9 := hW9.2.cells
          refine bodyPost_ret (v := .agg #[I c.vd, I 0]) (by rw [results_cell1 rfl]; go_simp) rfl ?_
          exact ⟨by rw [HVD.out], hW9.1⟩
        · have HA2 := Lib.hid (show ansV l ls c = (0, partsZ l ls (c.ps.zip c.rks)) by rw [HAV.out, if_pos h6])
          have h6b : (partsZ l ls (c.ps.zip c.rks) == 0) = false := beq_false_of_ne h6
          have h6c : (partsZ l ls (c.ps.zip c.rks) != 0) = true := by simp [h6]
          clear h6
          generalize partsZ l ls (c.ps.zip c.rks) = z at *
          go_upto_region 6 with (first
            | (go_at_call 49; (with_reducible refine HPA.out.mono ?_); rintro e w4 ⟨he, hx4⟩; subst he; have HX4 := Lib.hid (HX3.out.trans hx4); clear hx4))
          clear hbc3 hkc3 hrc3 hrf3
          have hrc4 := (HR1.out.later HX4.out).cells
          have hrf4 := (HR1.out.later HX4.out).frozen
          go_wp2_with fail
          rw [HA2.out]
          refine hideW (Φ := fun W => bodyPost _ _ _ _ _ W) (fun W => Ext w W ∧ Blk W rb [I 0, I z] 40) (HEND.out _ _ _ HX4.out) (fun W9 hW9 => ?_)
          have hc9 := hW9.2.cells
          refine bodyPost_ret (v := .agg #[I 0, I z]) (by rw [results_cell1 rfl]; go_simp) rfl ?_
          exact ⟨rfl, hW9.1⟩
      · have h3b : (c.vd == 1) = false := beq_false_of_ne (by omega)
        have h3c : (c.vd == 2) = true := by simp [h3]
        have HAV := Lib.hid (show ansV l ls c = if traceV ls c.dest c.tr ≠ 0 then (0, 17) else (c.vd, 0) by unfold ansV; rw [if_neg (by rw [HM.out]; simp), if_neg (by rw [h2]; simp), if_neg (by omega)])
        clear h2 h3
        rcases traceV_two ls c.dest c.tr with h6 | h6
        · have HP := Lib.hid h6
          have HA2 := Lib.hid (show ansV l ls c = (c.vd, 0) by rw [HAV.out, if_neg (by rw [h6]; simp)])
          clear h6
          go_upto_region 8 with (first
            | (go_at_call 25; (with_reducible refine (checkTrace_any _ _ ls c.dest c.tr _ HL3.out HOK.out HC3.out.tr).mono ?_); rintro e w4 ⟨he, hx4⟩; rw [HP.out] at he; subst he; have HX4 := Lib.hid (HX3.out.trans hx4); clear hx4))
          clear hbc3 hkc3 hrc3 hrf3
          have hkc4 := (HK1.out.later HX4.out).cells
          have hrc4 := (HR1.out.later HX4.out).cells
          have hrf4 := (HR1.out.later HX4.out).frozen
          go_wp2_with fail
          rw [HA2.out]
          refine hideW (Φ := fun W => bodyPost _ _ _ _ _ W) (fun W => Ext w W ∧ Blk W rb [I c.vd, I 0] 40) (HEND.out _ _ _ HX4.out) (fun W9 hW9 => ?_)
          have hc9 := hW9.2.cells
          refine bodyPost_ret (v := .agg #[I c.vd, I 0]) (by rw [results_cell1 rfl]; go_simp) rfl ?_
          exact ⟨rfl, hW9.1⟩
        · have HP := Lib.hid h6
          have HA2 := Lib.hid (show ansV l ls c = (0, 17) by rw [HAV.out, if_pos (by rw [h6]; simp)])
          clear h6
          go_upto_region 8 with (first
            | (go_at_call 25; (with_reducible refine (checkTrace_any _ _ ls c.dest c.tr _ HL3.out HOK.out HC3.out.tr).mono ?_); rintro e w4 ⟨he, hx4⟩; rw [HP.out] at he; subst he; have HX4 := Lib.hid (HX3.out.trans hx4); clear hx4))
          clear hbc3 hkc3 hrc3 hrf3
          have hrc4 := (HR1.out.later HX4.out).cells
          have hrf4 := (HR1.out.later HX4.out).frozen
          go_wp2_with fail
          rw [HA2.out]
          refine hideW (Φ := fun W => bodyPost _ _ _ _ _ W) (fun W => Ext w W ∧ Blk W rb [I 0, I 17] 40) (HEND.out _ _ _ HX4.out) (fun W9 hW9 => ?_)
          have hc9 := hW9.2.cells
          refine bodyPost_ret (v := .agg #[I 0, I 17]) (by rw [results_cell1 rfl]; go_simp) rfl ?_
          exact ⟨rfl, hW9.1⟩
    · have HAV := Lib.hid (show ansV l ls c = (0, certMayV ls.length c) by unfold ansV; rw [if_neg (by rw [HM.out]; simp), if_pos h2])
      have h6b : (certMayV ls.length c == 0) = false := beq_false_of_ne h2
      have h6c : (certMayV ls.length c != 0) = true := by simp [h2]
      clear h2
      generalize certMayV ls.length c = z at *
      go_wp2_with fail
      rw [HAV.out]
      refine hideW (Φ := fun W => bodyPost _ _ _ _ _ W) (fun W => Ext w W ∧ Blk W rb [I 0, I z] 40) (HEND.out _ _ _ HX3.out) (fun W9 hW9 => ?_)
      have hc9 := hW9.2.cells
      refine bodyPost_ret (v := .agg #[I 0, I z]) (by rw [results_cell1 rfl]; go_simp) rfl ?_
      exact ⟨rfl, hW9.1⟩
  · have HAV := Lib.hid (show ansV l ls c = (0, netMayV ls) by unfold ansV; rw [if_pos h1])
    have h6b : (netMayV ls == 0) = false := beq_false_of_ne h1
    have h6c : (netMayV ls != 0) = true := by simp [h1]
    have hrc2 := (HR1.out.later HX2.out).cells
    have hrf2 := (HR1.out.later HX2.out).frozen
    clear h1
    generalize netMayV ls = z at *
    go_wp2_with fail
    rw [HAV.out]
    refine hideW (Φ := fun W => bodyPost _ _ _ _ _ W) (fun W => Ext w W ∧ Blk W rb [I 0, I z] 40) (HEND.out _ _ _ HX2.out) (fun W9 hW9 => ?_)
    have hc9 := hW9.2.cells
    refine bodyPost_ret (v := .agg #[I 0, I z]) (by rw [results_cell1 rfl]; go_simp) rfl ?_
    exact ⟨rfl, hW9.1⟩
end Go.Proofs.Ytpfkfboohblgoaa
