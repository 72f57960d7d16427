/- Short20, ShortL, Shown20: these texts in one. Conditions: each part names its own. -/
import Derived.Test.YtpfkfboohblgoaaGChk
import Derived.Test.YtpfkfboohblgoaaGFit17
import Derived.Test.YtpfkfboohblgoaaGAtB
import Derived.Test.YtpfkfboohblgoaaGFitC
/- theseuslaw20.short: a certificate of 20 parts at most, of 20 ranks each, and a trace of 20. Conditions: whole numbers are within 64 bits. -/
namespace Go.Proofs.Ytpfkfboohblgoaa
open Go.RowKit

theorem ints_take {w : World} {v : Value} {l : List Int} {k : Nat} (h : IntsAt w v l) (hk : k ≤ l.length) : IntsAt w (slv 1 v 0 k) (l.take k) := by
  have h1 := Reads.piece h (Nat.zero_le k) hk
  unfold IntsAt
  unfold icells at *
  rw [List.length_take, Nat.min_eq_left hk, List.map_take]
  simpa using h1
/-- What is left of a certificate. -/
structure ShortOf (c c' : Crt) : Prop where
  vd : c'.vd = c.vd
  dest : c'.dest = c.dest
  tr : c'.tr = c.tr.take 20
  plen : c'.ps.length ≤ 20
  rks : c'.rks = (c.rks.take 20).map fun r => r.take 20
theorem short_at {w w' : World} {pv tv v x : Value} {c : Crt} {qs : List Prt} {B mt : Nat} (h : CertAt w pv tv c) (hx : Ext w w') (ho : OwnP w' B v qs) (hl : qs.length = min c.ps.length 20)
    (hq : ∀ (i : Nat) (q : Prt) (r : List Int), qs[i]? = some q → c.rks[i]? = some r → IntsAt w q.rk (r.take 20)) (ht : IntsAt w x (c.tr.take mt)) (hm : mt = min c.tr.length 20) :
    CertAt w' v x ⟨c.vd, qs, (c.rks.take 20).map fun r => r.take 20, c.dest, c.tr.take 20⟩ := by
  refine ⟨ho.parts, by simp [hl, h.len, Nat.min_comm], fun i q r hi hr => ?_, ?_⟩
  · rw [List.getElem?_map, Option.map_eq_some_iff] at hr
    obtain ⟨r0, h1, rfl⟩ := hr
    rw [List.getElem?_take] at h1
    split at h1
    · exact (hq i q r0 hi h1).later hx
    · cases h1
  · show IntsAt w' x (c.tr.take 20)
    rw [show c.tr.take 20 = c.tr.take mt by rw [hm, List.take_eq_take_min (i := 20), Nat.min_comm]]
    exact ht.later hx
set_option maxHeartbeats 4000000 in
set_option maxRecDepth 100000 in
theorem short20_any (pv tv : Value) (c : Crt) (w : World) (h : CertAt w pv tv c) :
    Calls Try.prog 18 #[.agg #[I c.vd, pv, U c.dest, tv]] w fun e w' => ∃ pv' tv' c', e = .returned (.agg #[I c'.vd, pv', U c'.dest, tv']) ∧ CertAt w' pv' tv' c' ∧ ShortOf c c' ∧ Ext w w' := by
  have HC := Lib.hid h
  obtain ⟨pa, pc, rfl, p1, p2, p3⟩ := h.parts.form
  obtain ⟨ta, tc, rfl, t1, t2, t3⟩ := h.tr.form
  have P3 := Lib.hid p3
  clear p3 t3 h
  unfold maxLen at p2 t2
  go_enter Try.func18, Try.ntmps18
  go_upto_region 1 with (fail)
  refine hideW (Φ := fun W => Code.wp _ _ _ _ W) (fun W => Ext w W ∧ Blk W w.heap.size [I c.vd, .slice pa c.ps.length pc, U c.dest, .slice ta c.tr.length tc] 29 ∧ Blk W (w.heap.size + 1) [.int .i64 0, .slice none 0 0, .int .u32 0, .slice none 0 0] 29)
    ⟨by (repeat (first | with_reducible exact Ext.refl _ | with_reducible assumption | with_reducible refine Ext.alloc ?_ _ | with_reducible refine Ext.drew ?_ | with_reducible refine Ext.drewN ?_ _ | (with_reducible refine Ext.setCellP ?_ ?_; focus (first | (simp; done) | (simp; omega) | omega)))), (Blk.new w [I c.vd, .slice pa c.ps.length pc, U c.dest, .slice ta c.tr.length tc] 29).old _, Blk.newAt [.int .i64 0, .slice none 0 0, .int .u32 0, .slice none 0 0] (by simp)⟩ (fun W1 hW1 => ?_)
  obtain ⟨hx1, hk1, hr1⟩ := hW1
  have HX1 := Lib.hid hx1
  have HK1 := Lib.hid hk1
  have HR1 := Lib.hid hr1
  have HSC := Lib.hid (show ∀ (A : World) (o : Nat) (u : Value), Ext w A → Ext w (A.setCell ⟨w.heap.size + 1, o, none⟩ u) from fun A o u h => h.setCell (by show w.heap.size ≤ w.heap.size + 1; omega) u)
  clear hx1 hk1 hr1
  generalize w.heap.size + 1 = rb at *
  generalize w.heap.size = cb at *
  obtain ⟨mt, hmt, hmt2⟩ : ∃ mt : Nat, min (c.tr.length : Int) 20 = (mt : Int) ∧ mt = min c.tr.length 20 := ⟨min c.tr.length 20, by omega, rfl⟩
  have hmc : mt ≤ tc := by omega
  have hml : mt ≤ c.tr.length := by omega
  have HMT := Lib.hid hmt2
  clear hmt2
  refine wp_region_R (RB (W1.heap.size)) 13 rfl (by kernel_rfl) (by kernel_rfl) (fun w0 hx0 => ?_)
  have HX0 := Lib.hid hx0
  have q0 := RB.keep hx0.size HK1.out.lt ((HK1.out.later hx0).cells 0)
  have q2 := RB.keep hx0.size HK1.out.lt ((HK1.out.later hx0).cells 2)
  have q3 := RB.keep hx0.size HK1.out.lt ((HK1.out.later hx0).cells 3)
  clear hx0
  refine WRi_at 0 ?_
  iterate 10
    refine WRi_q (preRB _) rfl (by decide) (by kernel_rfl) rfl ?_; apply Exists.intro; refine ⟨fun w1 hx1 => ?_, ?_⟩
    · go_simp; try go_bits
      first | with_reducible rfl | rfl
    simp only [Act.put, List.setIfInBounds_toArray, List.set_cons_zero, List.set_cons_succ, Nat.reduceAdd]
  refine WRi_out ?_
  refine WR_q (preRB _) 10 rfl (by decide) (by kernel_rfl) rfl ⟨slv 1 (.slice ta c.tr.length tc) 0 mt, fun w1 hx1 => run_slice_to rfl Try.underlying27 sizeInt rfl rfl hmc, ?_⟩
  simp only [Act.put, List.setIfInBounds_toArray, List.set_cons_zero, List.set_cons_succ]
  refine WR_q (preRB _) 11 rfl (by decide) (by kernel_rfl) rfl ?_; apply Exists.intro; refine ⟨fun w1 hx1 => ?_, ?_⟩
  · go_simp; try go_bits
    first | with_reducible rfl | rfl
  simp only [Act.put, List.setIfInBounds_toArray, List.set_cons_zero, List.set_cons_succ]
  clear q0 q2 q3
  have HTS := Lib.hid (ints_take (k := mt) HC.out.tr (by omega))
  obtain ⟨sa, sc, hsv, -⟩ := HTS.out.form
  rw [List.length_take, show min mt c.tr.length = mt by omega] at hsv
  rw [hsv] at HTS ⊢
  refine WR_one 12 rfl (by decide) (by kernel_rfl) rfl (fun K hK => ?_)
  go_simp
  refine hK _ _ (RB.ext ((Ext.refl _).alloc _)) ?_
  clear hK K
  refine WR_done (by kernel_rfl) ?_
  (try simp only [List.drop_succ_cons, List.drop_zero])
  go_upto_region 2 with (fail)
  refine hideW (Φ := fun W => Code.wp _ _ _ _ W) (fun W => Ext w0 W ∧ Blk W w0.heap.size [I c.vd, .slice none 0 0, U c.dest, .slice sa mt sc] 29)
    ⟨by (repeat (first | with_reducible exact Ext.refl _ | with_reducible assumption | with_reducible refine Ext.alloc ?_ _ | with_reducible refine Ext.drew ?_ | with_reducible refine Ext.drewN ?_ _ | (with_reducible refine Ext.setCellP ?_ ?_; focus (first | (simp; done) | (simp; omega) | omega)))), Blk.new w0 [I c.vd, .slice none 0 0, U c.dest, .slice sa mt sc] 29⟩ (fun W2 hW2 => ?_)
  obtain ⟨hx2, hb2⟩ := hW2
  have HX2 := Lib.hid (HX0.out.trans hx2)
  have HO2 := Lib.hid hb2
  have HOB := Lib.hid (show W1.heap.size ≤ w0.heap.size from HX0.out.size)
  have HOL := Lib.hid hb2.lt
  have HFIN := Lib.hid (show ∀ (A : World) (v : Value) (qs : List Prt), Ext W1 A → OwnP A (w0.heap.size + 1) v qs →
      Ext w ((((A.setCell ⟨rb, 0, none⟩ (I c.vd)).setCell ⟨rb, 1, none⟩ v).setCell ⟨rb, 2, none⟩ (U c.dest)).setCell ⟨rb, 3, none⟩ (.slice sa mt sc)) ∧
      Blk ((((A.setCell ⟨rb, 0, none⟩ (I c.vd)).setCell ⟨rb, 1, none⟩ v).setCell ⟨rb, 2, none⟩ (U c.dest)).setCell ⟨rb, 3, none⟩ (.slice sa mt sc)) rb [I c.vd, v, U c.dest, .slice sa mt sc] 29 ∧
      OwnP ((((A.setCell ⟨rb, 0, none⟩ (I c.vd)).setCell ⟨rb, 1, none⟩ v).setCell ⟨rb, 2, none⟩ (U c.dest)).setCell ⟨rb, 3, none⟩ (.slice sa mt sc)) (w0.heap.size + 1) v qs from fun A v qs hx ho => by
    have hlt : rb < w0.heap.size + 1 := by have := HR1.out.lt; have := HX0.out.size; omega
    refine ⟨HSC.out _ _ _ (HSC.out _ _ _ (HSC.out _ _ _ (HSC.out _ _ _ (HX1.out.trans hx)))), ((((HR1.out.later hx).set 0 _).set 1 _).set 2 _).set 3 _, ?_⟩
    unfold OwnP at ho ⊢
    exact own_set (own_set (own_set (own_set ho hlt _) hlt _) hlt _) hlt _)
  clear hx2 hb2 hsv
  generalize w0.heap.size = ob at *
  go_wp2_with fail
  go_loopw [4] (fun i wr => ∃ (k : Nat) (v : Value) (qs : List Prt), k ≤ c.ps.length ∧ k ≤ 20 ∧ i = I k ∧ qs.length = k ∧ Hid (Blk wr ob [I c.vd, v, U c.dest, .slice sa mt sc] 29) ∧ Hid (OwnP wr (ob + 1) v qs) ∧
    Hid (∀ (i : Nat) (q : Prt) (r : List Int), qs[i]? = some q → c.rks[i]? = some r → IntsAt w q.rk (r.take 20)) ∧ Hid (Ext W1 wr)) (fun i _ => 20 - (intOf i).toNat)
  case atStart => exact ⟨0, .slice none 0 0, [], by omega, by omega, rfl, rfl, HO2.out, (show OwnP W2 (ob + 1) (.slice none 0 0) [] from ⟨rfl, .inl ⟨rfl, rfl⟩⟩), (show ∀ (i : Nat) (q : Prt) (r : List Int), ([] : List Prt)[i]? = some q → c.rks[i]? = some r → IntsAt w q.rk (r.take 20) from fun i q r h => by simp at h), HX2.out⟩
  case round =>
    obtain ⟨k, v, qs, hk, hk20, rfl, hql, HOBX, HOW, HQ, HX⟩ := hrel
    have HQL := Lib.hid hql
    clear hql
    have HKr := Lib.hid (HK1.out.later HX.out)
    have hkc := HKr.out.cells
    have HXE := Lib.hid (HX1.out.trans HX.out)
    obtain ⟨va, vc, hve⟩ := own_form HOW.out
    rw [HQL.out] at hve
    subst hve
    by_cases hlt : k < c.ps.length
    · by_cases hlt2 : k < 20
      · have hkd : decide ((k : Int) < (c.ps.length : Int)) = true := decide_eq_true (by omega)
        have hkd2 : decide ((k : Int) < 20) = true := decide_eq_true (by omega)
        have hkr : k < c.rks.length := by rw [HC.out.len]; exact hlt
        obtain ⟨b0, o0, he0, q0, q1, q2⟩ := P3.out k _ (List.getElem?_eq_getElem hlt)
        subst he0
        replace q0 := HXE.out.cell q0
        replace q1 := HXE.out.cell q1
        replace q2 := HXE.out.cell q2
        have HIK := Lib.hid (HC.out.rk k _ _ (List.getElem?_eq_getElem hlt) (List.getElem?_eq_getElem hkr))
        have HRG := Lib.hid (show c.rks[k]? = some c.rks[k] from List.getElem?_eq_getElem hkr)
        generalize c.ps[k] = p at *
        generalize c.rks[k] = r at *
        have HRN := Lib.hid (prt_form HIK.out)
        obtain ⟨mn, hmn, hmn2⟩ : ∃ mn : Nat, min (p.rn : Int) 20 = (mn : Int) ∧ mn = min p.rn 20 := ⟨min p.rn 20, by omega, rfl⟩
        have HMN := Lib.hid (show mn = min r.length 20 by rw [← HRN.out]; exact hmn2)
        clear hmn2
        have HIP := Lib.hid (ints_take (k := mn) HIK.out (by rw [HMN.out]; omega))
        have hmnc : mn ≤ p.rc := by
          obtain ⟨a, cap, h1, h2, _⟩ := HIK.out.form
          simp only [Value.slice.injEq] at h1
          rw [HMN.out, h1.2.2]; omega
        obtain ⟨ua, uc, huv, -⟩ := HIP.out.form
        rw [List.length_take, show min mn r.length = mn by rw [HMN.out]; omega] at huv
        go_upto_region 6 with (fail)
        refine hideW (Φ := fun W => Code.wp _ _ _ _ W) (fun W => Ext wr W ∧ Blk W wr.heap.size [U p.fr, U p.up, p.rk] 35)
          ⟨by (repeat (first | with_reducible exact Ext.refl _ | with_reducible assumption | with_reducible refine Ext.alloc ?_ _ | with_reducible refine Ext.drew ?_ | with_reducible refine Ext.drewN ?_ _ | (with_reducible refine Ext.setCellP ?_ ?_; focus (first | (simp; done) | (simp; omega) | omega)))), Blk.new wr [U p.fr, U p.up, p.rk] 35⟩ (fun W5 hW5 => ?_)
        obtain ⟨hx5, hb5⟩ := hW5
        have HX5 := Lib.hid hx5
        have HQ5 := Lib.hid hb5
        have HQBZ := Lib.hid (Nat.le_refl wr.heap.size)
        clear hx5 hb5 q0 q1 q2 hkc
        generalize hqb : wr.heap.size = qb at *
        have HQB := Lib.hid hqb
        clear hqb
        have hqc := HQ5.out.cells
        have hqf := HQ5.out.frozen
        go_upto_region 7 with (first
          | (refine wpList_of_run rfl (run_slice_to (o := ⟨some 40, _, _, _, _, _⟩) rfl Try.underlying27 sizeInt rfl rfl hmnc) ?_))
        rw [huv] at HIP
        refine hideW (Φ := fun W => Code.wp _ _ _ _ W) (fun W => Ext wr W ∧ Blk W qb [U p.fr, U p.up, .slice ua mn uc] 35)
          ⟨HX5.out.setCell (by show wr.heap.size ≤ qb; rw [HQB.out]; exact Nat.le_refl _) _, HQ5.out.set 2 _⟩ (fun W6 hW6 => ?_)
        obtain ⟨hx6, hb6⟩ := hW6
        have HX6 := Lib.hid hx6
        have hqc6 := hb6.cells
        clear hx6 hb6 hqc hqf HQ5 HX5 huv
        have HOB6 := Lib.hid (HOBX.out.later HX6.out)
        have hoc := HOB6.out.cells
        have HSA := Lib.hid (show Ext wr (W6.alloc (.cells #[U p.fr, U p.up, .slice ua mn uc] 35)) from HX6.out.alloc _)
        have HOA := Lib.hid (show (W6.alloc (.cells #[U p.fr, U p.up, .slice ua mn uc] 35)).ownsRow (ob + 1) 35 3 (.slice va k vc) k (pcells qs) from by
          have h := HOW.out.later HSA.out
          unfold OwnP at h
          rw [HQL.out] at h
          exact h)
        have HSRC := Lib.hid (show Reads (W6.alloc (.cells #[U p.fr, U p.up, .slice ua mn uc] 35)) 3 (.slice (some ⟨W6.heap.size, 0, none⟩) 1 1) 1 [U p.fr, U p.up, .slice ua mn uc] from Reads.made W6 3 35 1 (Prt.cells ⟨p.fr, p.up, ua, mn, uc⟩) rfl (by unfold maxLen; omega))
        have HBA := Lib.hid (HOBX.out.later HSA.out)
        have hsz : ob + 1 ≤ (W6.alloc (.cells #[U p.fr, U p.up, .slice ua mn uc] 35)).heap.size := HBA.out.lt
        have HSZ := Lib.hid hsz
        clear hsz
        go_wp2_with (first
          | (at_builtin
             refine wpList_app rfl (.tmp 43) (.tmp 45) 25 rfl (ob + 1) 35 _ 3 32 Try.underlying25 infoPart rfl (by decide) (by decide) _ _ _ rfl HOA.out _ _ _ rfl HSRC.out (by intro u hu; exact pcells_one [⟨p.fr, p.up, ua, mn, uc⟩] u (by simpa [pcells, Prt.cells] using hu)) (by omega) HSZ.out ?_
             intro v9 w9 ho9 hg9
             have hge9 := own_ge HOA.out
             have hb9 := blk_grown HBA.out (fun g e => by have := own_ge HOA.out g e; omega) hg9
             have hbc9 := hb9.cells
             have hbf9 := hb9.frozen
             obtain ⟨xa, xc, hxv⟩ := own_form ho9
             subst hxv
             have HO9 := Lib.hid (show OwnP (w9.setCell ⟨ob, 1, none⟩ (.slice xa (k + 1) xc)) (ob + 1) (.slice xa (k + 1) xc) (qs ++ [⟨p.fr, p.up, ua, mn, uc⟩]) from by
               unfold OwnP
               rw [List.length_append, HQL.out, pcells_app]
               exact own_set (by simpa [pcells, Prt.cells] using ho9) (by simp) _)
             have HB9 := Lib.hid (hb9.set 1 (.slice xa (k + 1) xc))
             have HX9 := Lib.hid (show Ext W1 (w9.setCell ⟨ob, 1, none⟩ (.slice xa (k + 1) xc)) from (Below.grown (HX.out.trans HSA.out) hg9 ((HX.out.trans HSA.out).size) (fun g e => by have := own_ge HOA.out g e; have := HOB.out; omega)).setCell HOB.out _)
             clear ho9 hg9 hge9 hb9))
        go_roundw
        case rel =>
          refine ⟨k + 1, _, qs ++ [⟨p.fr, p.up, ua, mn, uc⟩], by omega, by omega, by go_num, by simp [HQL.out], HB9, HO9, ?_, HX9⟩
          show ∀ (i : Nat) (q : Prt) (r : List Int), (qs ++ [⟨p.fr, p.up, ua, mn, uc⟩])[i]? = some q → c.rks[i]? = some r → IntsAt w q.rk (r.take 20)
          intro i q r' hi hr'
          rcases snoc_get hi with hi | ⟨rfl, rfl⟩
          · exact HQ.out i q r' hi hr'
          · rw [HQL.out, HRG.out] at hr'
            cases hr'
            have h := HIP.out
            rw [HMN.out] at h
            rw [show r.take 20 = r.take (min r.length 20) by rw [List.take_eq_take_min (i := 20), Nat.min_comm]]
            have e : mn = min r.length 20 := HMN.out
            subst e
            exact h
        case measure => simp [intOf]; omega
      · have hkd : decide ((k : Int) < (c.ps.length : Int)) = true := decide_eq_true (by omega)
        have hkd2 : decide ((k : Int) < 20) = false := decide_eq_false (by omega)
        have HKE := Lib.hid (show k = min c.ps.length 20 by omega)
        obtain ⟨hf1, hf2, hf3⟩ := HFIN.out wr (.slice va k vc) qs HX.out HOW.out
        have hbc := HOBX.out.cells
        have hbf := HOBX.out.frozen
        have hrc := (HR1.out.later HX.out).cells
        have hrf := (HR1.out.later HX.out).frozen
        go_wp2_with fail
        refine hideW (Φ := fun W => bodyPost _ _ _ _ _ W) (fun W => Ext w W ∧ Blk W rb [I c.vd, .slice va k vc, U c.dest, .slice sa mt sc] 29 ∧ OwnP W (ob + 1) (.slice va k vc) qs) ⟨hf1, hf2, hf3⟩ (fun W9 hW9 => ?_)
        have hc9 := hW9.2.1.cells
        refine bodyPost_ret (v := .agg #[I c.vd, .slice va k vc, U c.dest, .slice sa mt sc]) (by rw [results_cell1 rfl]; go_simp) rfl ?_
        exact ⟨_, _, ⟨c.vd, qs, (c.rks.take 20).map fun r => r.take 20, c.dest, c.tr.take 20⟩, rfl, short_at HC.out hW9.1 hW9.2.2 (by rw [HQL.out]; exact HKE.out) HQ.out HTS.out HMT.out, ⟨rfl, rfl, rfl, by show qs.length ≤ 20; rw [HQL.out]; exact hk20, rfl⟩, hW9.1⟩
    · have hkd : decide ((k : Int) < (c.ps.length : Int)) = false := decide_eq_false (by omega)
      have HKE := Lib.hid (show k = min c.ps.length 20 by omega)
      obtain ⟨hf1, hf2, hf3⟩ := HFIN.out wr (.slice va k vc) qs HX.out HOW.out
      have hbc := HOBX.out.cells
      have hbf := HOBX.out.frozen
      have hrc := (HR1.out.later HX.out).cells
      have hrf := (HR1.out.later HX.out).frozen
      go_wp2_with fail
      refine hideW (Φ := fun W => bodyPost _ _ _ _ _ W) (fun W => Ext w W ∧ Blk W rb [I c.vd, .slice va k vc, U c.dest, .slice sa mt sc] 29 ∧ OwnP W (ob + 1) (.slice va k vc) qs) ⟨hf1, hf2, hf3⟩ (fun W9 hW9 => ?_)
      have hc9 := hW9.2.1.cells
      refine bodyPost_ret (v := .agg #[I c.vd, .slice va k vc, U c.dest, .slice sa mt sc]) (by rw [results_cell1 rfl]; go_simp) rfl ?_
      exact ⟨_, _, ⟨c.vd, qs, (c.rks.take 20).map fun r => r.take 20, c.dest, c.tr.take 20⟩, rfl, short_at HC.out hW9.1 hW9.2.2 (by rw [HQL.out]; exact HKE.out) HQ.out HTS.out HMT.out, ⟨rfl, rfl, rfl, by show qs.length ≤ 20; rw [HQL.out]; exact hk20, rfl⟩, hW9.1⟩
end Go.Proofs.Ytpfkfboohblgoaa

/- Plain laws of short certificates and of those that may be. Conditions: none. -/
namespace Go.Proofs.Ytpfkfboohblgoaa
open Go.RowKit

theorem flat_bd {m : Nat} : ∀ (rs : List (List Int)), (∀ r ∈ rs, r.length ≤ m) → rs.flatten.length ≤ rs.length * m
  | [], _ => by simp
  | r :: t, h => by
    have h1 := h r (List.mem_cons_self ..)
    have h2 := flat_bd t fun q hq => h q (List.mem_cons_of_mem _ hq)
    rw [List.flatten_cons, List.length_append, List.length_cons, Nat.succ_mul]
    omega
theorem ShortOf.cap {c c' : Crt} (h : ShortOf c c') : (ranksF c'.rks).length ≤ 1000000000 := by
  unfold ranksF
  have h1 : ∀ r ∈ c'.rks.take 12, r.length ≤ 20 := fun r hr => by
    have := List.mem_of_mem_take hr
    rw [h.rks] at this
    obtain ⟨q, _, rfl⟩ := List.mem_map.1 this
    rw [List.length_take]; omega
  have h2 := flat_bd _ h1
  have h3 : (c'.rks.take 12).length ≤ 12 := by rw [List.length_take]; omega
  have h4 := Nat.mul_le_mul_right 20 h3
  omega
theorem ShortOf.in_tr {c c' : Crt} (h : ShortOf c c') (ht : ∀ x ∈ c.tr, In64 x) : ∀ x ∈ c'.tr, In64 x := fun x hx => by
  rw [h.tr] at hx; exact ht x (List.mem_of_mem_take hx)
theorem ShortOf.in_rks {c c' : Crt} (h : ShortOf c c') (hr : ∀ r ∈ c.rks, ∀ x ∈ r, In64 x) : ∀ r ∈ c'.rks, ∀ x ∈ r, In64 x := fun r hr' x hx => by
  rw [h.rks] at hr'
  obtain ⟨q, hq, rfl⟩ := List.mem_map.1 hr'
  exact hr q (List.mem_of_mem_take hq) x (List.mem_of_mem_take hx)
theorem ShortOf.in_ranks {c c' : Crt} (h : ShortOf c c') (hr : ∀ r ∈ c.rks, ∀ x ∈ r, In64 x) : ∀ x ∈ ranksF c'.rks, In64 x := fun x hx => by
  unfold ranksF at hx
  obtain ⟨r, h1, h2⟩ := List.mem_flatten.1 hx
  exact h.in_rks hr r (List.mem_of_mem_take h1) x h2
theorem rksV_all {n : Int} : ∀ {rks : List (List Int)}, rksV n rks = 0 → ∀ r ∈ rks, (r.length : Int) = n ∧ ∀ x ∈ r, 0 ≤ x ∧ x < n
  | [], _, r, hr => by cases hr
  | q :: t, h, r, hr => by
    unfold rksV at h
    split at h
    · cases h
    · rename_i h1
      split at h
      · cases h
      · rename_i h2
        rcases List.mem_cons.1 hr with rfl | hr
        · refine ⟨by omega, fun x hx => ?_⟩
          rw [Bool.not_eq_true, List.any_eq_false] at h2
          have := h2 x hx
          simp only [outB, Bool.or_eq_true, decide_eq_true_eq, not_or] at this
          omega
        · exact rksV_all h r hr
/-- A certificate that may be, free of loops. -/
structure FreeOk (n : Nat) (c : Crt) : Prop where
  vd : c.vd = 1
  dest : c.dest = 0#32
  tr : c.tr = []
  few : c.ps.length ≤ 8193
  meet : meetV c.ps = 0
  rks : rksV n c.rks = 0
theorem FreeOk.may {n : Nat} {c : Crt} (h : FreeOk n c) : certMayV n c = 0 := by
  unfold certMayV freeV
  rw [if_pos h.vd, if_neg (by simp [h.dest, h.tr]), if_neg (by have := h.few; omega), if_neg (by simp [h.meet])]
  exact h.rks
theorem free_ok {n : Nat} {c : Crt} (h : certMayV n c = 0) (hv : c.vd = 1) : FreeOk n c := by
  unfold certMayV at h
  rw [if_pos hv] at h
  unfold freeV at h
  split at h
  · cases h
  · rename_i h1
    split at h
    · cases h
    · rename_i h2
      split at h
      · cases h
      · rename_i h3
        have h4 : c.dest = 0#32 := Classical.byContradiction fun e => h1 (.inl e)
        have h5 : c.tr = [] := List.eq_nil_of_length_eq_zero (by omega)
        exact ⟨hv, h4, h5, by omega, Classical.byContradiction fun e => h3 e, h⟩
theorem meetV_pos {ps : List Prt} (h : meetV ps = 0) : 0 < ps.length := by
  cases ps with
  | nil => cases h
  | cons p t => simp
/-- A certificate that may be, of a loop. -/
structure LoopOk (n : Nat) (c : Crt) : Prop where
  vd : c.vd = 2
  ps : c.ps = []
  pos : 0 < c.tr.length
  few : c.tr.length ≤ n
  bd : ∀ x ∈ c.tr, 0 ≤ x ∧ x < n
  once : trG (c.tr.headD 0) [] c.tr = false
theorem LoopOk.may {n : Nat} {c : Crt} (h : LoopOk n c) : certMayV n c = 0 := by
  unfold certMayV loopsV
  rw [if_neg (by rw [h.vd]; decide), if_pos h.vd, if_neg (by simp [h.ps]), if_neg (by have := h.pos; have := h.few; omega), if_neg, if_neg (by rw [h.once]; decide)]
  rw [Bool.not_eq_true, List.any_eq_false]
  intro x hx
  have := h.bd x hx
  simp only [outB, Bool.or_eq_true, decide_eq_true_eq, not_or]
  omega
theorem loop_ok {n : Nat} {c : Crt} (h : certMayV n c = 0) (hv : c.vd ≠ 1) : LoopOk n c := by
  unfold certMayV at h
  rw [if_neg hv] at h
  split at h
  · rename_i h2
    unfold loopsV at h
    split at h
    · cases h
    · rename_i h3
      split at h
      · cases h
      · rename_i h4
        split at h
        · cases h
        · rename_i h5
          split at h
          · cases h
          · rename_i h6
            refine ⟨h2, List.eq_nil_of_length_eq_zero (by omega), by omega, by omega, fun x hx => ?_, by simpa using h6⟩
            rw [Bool.not_eq_true, List.any_eq_false] at h5
            have := h5 x hx
            simp only [outB, Bool.or_eq_true, decide_eq_true_eq, not_or] at this
            omega
  · cases h
theorem trG_spec {f : Int} : ∀ {t s : List Int}, s.Nodup → trG f s t = false → (s ++ t).Nodup ∧ ∀ x ∈ t, f ≤ x
  | [], s, hs, _ => ⟨by simpa using hs, fun x hx => by cases hx⟩
  | x :: t, s, hs, h => by
    unfold trG at h
    simp only [Bool.or_eq_false_iff, decide_eq_false_iff_not] at h
    obtain ⟨h1, h2, h3⟩ := h
    have hs' : (s ++ [x]).Nodup := by
      rw [List.nodup_append]
      refine ⟨hs, by simp, fun a ha b hb => ?_⟩
      rw [List.mem_singleton] at hb; subst hb
      exact fun e => h1 (e ▸ ha)
    obtain ⟨g1, g2⟩ := trG_spec hs' h3
    refine ⟨by simpa using g1, fun y hy => ?_⟩
    rcases List.mem_cons.1 hy with rfl | hy
    · omega
    · exact g2 y hy
theorem LoopOk.nodup {n : Nat} {c : Crt} (h : LoopOk n c) : c.tr.Nodup := by simpa using (trG_spec List.nodup_nil h.once).1
end Go.Proofs.Ytpfkfboohblgoaa

/- The statements' head of layer 20: of one node that steps to itself a trace is told. Conditions: none. -/
namespace Go.Proofs.Ytpfkfboohblgoaa
open Go Go.RowKit Go.Maps Go.Proofs

def s20R : Rul := ⟨0#32, 0, 1, 0⟩
def s20N : List (List Rul) := [[s20R]]
def s20C : Crt := ⟨2, [], [], 0#32, [0]⟩
theorem s20_ok : TablesOk s20N := by
  intro l hl r hr
  simp only [s20N, List.mem_cons, List.not_mem_nil, or_false] at hl
  subst hl
  simp only [List.mem_cons, List.not_mem_nil, or_false] at hr
  subst hr
  exact ⟨by unfold In64; decide, by unfold In64; decide, by unfold In64; decide⟩
theorem s20_at (w : World) : TablesAt ((w.alloc (.cells #[.int .u32 0, I 0, I 1, I 0] 44)).alloc (.cells #[.slice (some ⟨w.heap.size, 0, none⟩) 1 1] 45)) (.slice (some ⟨w.heap.size + 1, 0, none⟩) 1 1) s20N := by
  have h := TablesAt.made (w.alloc (.cells #[.int .u32 0, I 0, I 1, I 0] 44)) 45 1 [.slice (some ⟨w.heap.size, 0, none⟩) 1 1] s20N rfl (by unfold maxLen; decide) rfl (fun i l hi => by
    match i, hi with
    | 0, hi =>
      simp [s20N] at hi; subst hi
      exact ⟨_, rfl, Reads.made w 4 44 1 s20R.cells rfl (by unfold maxLen; omega)⟩
    | i + 1, hi => simp [s20N] at hi)
  simpa using h
theorem s20_ans (l : List (BitVec 32)) : ansV l s20N s20C = (2, 0) := by
  have h1 : netMayV s20N = 0 := by decide +kernel
  have h2 : certMayV s20N.length s20C = 0 := by decide +kernel
  have h3 : traceV s20N s20C.dest s20C.tr = 0 := by decide +kernel
  unfold ansV
  rw [if_neg (by rw [h1]; simp), if_neg (by rw [h2]; simp), if_neg (by decide), if_neg (by rw [h3]; simp)]
  rfl
theorem s20_cert (w : World) : CertAt (w.alloc (.cells #[I 0] 3)) (.slice none 0 0) (.slice (some ⟨w.heap.size, 0, none⟩) 1 1) s20C :=
  ⟨Reads.nil _ 3, rfl, fun i p r h => by simp [s20C] at h, Reads.made w 1 3 1 (icells [0]) rfl (by unfold maxLen; omega)⟩
theorem s20_size : sizeN s20N ≤ 10000000 := by decide +kernel
theorem s20_tr : ∀ x ∈ s20C.tr, In64 x := by
  intro x hx
  simp [s20C] at hx; subst hx; unfold In64; decide
set_option maxHeartbeats 600000 in
set_option maxRecDepth 100000 in
theorem shown20_any (w : World) : Calls Try.prog 15 #[] w fun e w' => e = .returned (.bool true) ∧ Ext w w' := by
  have hx : Ext w (((w.alloc (.cells #[.int .u32 0, I 0, I 1, I 0] 44)).alloc (.cells #[.slice (some ⟨w.heap.size, 0, none⟩) 1 1] 45)).alloc (.cells #[I 0] 3)) := by (repeat (first | with_reducible exact Ext.refl _ | with_reducible assumption | with_reducible refine Ext.alloc ?_ _ | with_reducible refine Ext.drew ?_ | with_reducible refine Ext.drewN ?_ _ | (with_reducible refine Ext.setCellP ?_ ?_; focus (first | (simp; done) | (simp; omega) | omega))))
  have hx2 : Ext ((w.alloc (.cells #[.int .u32 0, I 0, I 1, I 0] 44)).alloc (.cells #[.slice (some ⟨w.heap.size, 0, none⟩) 1 1] 45)) (((w.alloc (.cells #[.int .u32 0, I 0, I 1, I 0] 44)).alloc (.cells #[.slice (some ⟨w.heap.size, 0, none⟩) 1 1] 45)).alloc (.cells #[I 0] 3)) := by (repeat (first | with_reducible exact Ext.refl _ | with_reducible assumption | with_reducible refine Ext.alloc ?_ _ | with_reducible refine Ext.drew ?_ | with_reducible refine Ext.drewN ?_ _ | (with_reducible refine Ext.setCellP ?_ ?_; focus (first | (simp; done) | (simp; omega) | omega))))
  have HX := Lib.hid hx
  obtain ⟨l, hl⟩ := cuts_exist s20N.flatten
  have H := Lib.hid (checkNet_any _ _ _ s20N s20C l _ ((s20_at w).later hx2) s20_ok s20_size hl (s20_cert ((w.alloc (.cells #[.int .u32 0, I 0, I 1, I 0] 44)).alloc (.cells #[.slice (some ⟨w.heap.size, 0, none⟩) 1 1] 45))) s20_tr)
  rw [s20_ans] at H
  rw [show I s20C.vd = .int .i64 2 from rfl, show U s20C.dest = .int .u32 0 from rfl, show I ((2, 0) : Int × Int).1 = .int .i64 2 from rfl, show I ((2, 0) : Int × Int).2 = .int .i64 0 from rfl,
    show ((w.alloc (.cells #[.int .u32 0, I 0, I 1, I 0] 44)).alloc (.cells #[.slice (some ⟨w.heap.size, 0, none⟩) 1 1] 45)).heap.size = w.heap.size + 2 by simp] at H
  clear hx hx2
  go_enter Try.func15, Try.ntmps15
  go_wp2_with (first
    | (go_at_call 21; (with_reducible refine H.out.mono ?_); rintro e w1 ⟨he, hx1⟩; subst he; have HX1 := Lib.hid (HX.out.trans hx1); clear hx1))
  go_ret
  exact ⟨rfl, HX1.out⟩
end Go.Proofs.Ytpfkfboohblgoaa
