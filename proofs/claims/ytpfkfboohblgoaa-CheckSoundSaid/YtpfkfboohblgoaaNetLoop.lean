/- network.Loop: where an address goes round. Conditions: whole numbers are within 64 bits. -/
import Derived.Test.YtpfkfboohblgoaaNetBack
namespace Go.Proofs.Ytpfkfboohblgoaa
open Go.RowKit Go.Shelf

theorem minOf_mem : ∀ {zs : List Int} {k : Nat}, 0 < k → k ≤ zs.length → Lib.minOf (zs.take k) ∈ zs.take k
  | zs, 1, _, h => by
    rw [Lib.minOf_one]
    cases zs with
    | nil => simp at h
    | cons z t => simp
  | zs, k + 2, _, h => by
    rw [Lib.minOf_step zs (k + 1) (Nat.succ_pos k) (by omega)]
    have ih := minOf_mem (zs := zs) (k := k + 1) (Nat.succ_pos k) (by omega)
    have hs : zs.take (k + 2) = zs.take (k + 1) ++ [zs.getD (k + 1) 0] := by
      rw [List.take_succ_eq_append_getElem (by omega), List.getD_eq_getElem?_getD, List.getElem?_eq_getElem (by omega)]; rfl
    rw [hs, List.mem_append, List.mem_singleton]
    rcases Int.le_total (Lib.minOf (zs.take (k + 1))) (zs.getD (k + 1) 0) with g | g
    · rw [Int.min_eq_left g]; exact .inl ih
    · rw [Int.min_eq_right g]; exact .inr rfl
theorem minOf_le : ∀ {zs : List Int} {k : Nat}, 0 < k → k ≤ zs.length → ∀ z ∈ zs.take k, Lib.minOf (zs.take k) ≤ z
  | zs, 1, _, h, z, hz => by
    rw [Lib.minOf_one]
    cases zs with
    | nil => simp at h
    | cons y t => simp at hz; simp [hz]
  | zs, k + 2, _, h, z, hz => by
    rw [Lib.minOf_step zs (k + 1) (Nat.succ_pos k) (by omega)]
    have ih := minOf_le (zs := zs) (k := k + 1) (Nat.succ_pos k) (by omega)
    have hs : zs.take (k + 2) = zs.take (k + 1) ++ [zs.getD (k + 1) 0] := by
      rw [List.take_succ_eq_append_getElem (by omega), List.getD_eq_getElem?_getD, List.getElem?_eq_getElem (by omega)]; rfl
    rw [hs, List.mem_append, List.mem_singleton] at hz
    rcases hz with hz | hz
    · exact Int.le_trans (Int.min_le_left _ _) (ih z hz)
    · rw [hz]; exact Int.min_le_right _ _
theorem minOf_all {zs : List Int} (h : 0 < zs.length) : Lib.minOf (zs.take zs.length) ∈ zs ∧ ∀ z ∈ zs, Lib.minOf (zs.take zs.length) ≤ z := by
  have h1 := minOf_mem h (Nat.le_refl _)
  have h2 := minOf_le h (Nat.le_refl _)
  rw [List.take_length] at *
  exact ⟨h1, h2⟩
theorem minInts_any (u : Value) (l : List Int) (w : World) (h : IntsAt w u l) (hl : 0 < l.length) (hb : l.length ≤ 9223372036854775807) :
    Calls Try.prog 61 #[u] w fun e w' => e = .returned (I (Lib.minOf (l.take l.length))) ∧ w' = w := by
  obtain ⟨a, cap, rfl, a1, a2, a3⟩ := h.form
  obtain ⟨b, o, he, -⟩ := a3 0 _ (List.getElem?_eq_getElem hl)
  subst he
  refine Try.slices_Min_int b o l.length cap l w hl (Nat.le_refl _) hb fun j hj => ?_
  obtain ⟨b', o', he, hc⟩ := a3 j _ (List.getElem?_eq_getElem hj)
  cases he
  rw [hc, List.getD_eq_getElem?_getD, List.getElem?_eq_getElem hj]; rfl
/-- What network.Loop tells. -/
def LoopOut (v : List Int) (w : World) (e : Ending) (w' : World) : Prop :=
  ∃ (u : Value) (l : List Int) (b : Bool), e = .returned (.tuple #[u, .bool b]) ∧ LoopIs v l ∧ (b = true ↔ l ≠ []) ∧ OwnI w' w.heap.size u l ∧ Ext w w'
set_option maxHeartbeats 4000000 in
set_option maxRecDepth 100000 in
theorem netLoop_any (lv : Value) (ls : List (List Rul)) (a : BitVec 32) (w : World) (hl : TablesAt w lv ls) (hok : TablesOk ls) (hm : netMayV ls = 0) :
    Calls Try.prog 31 #[.agg #[lv], U a] w (LoopOut (vecV ls a) w) := by
  have HL := Lib.hid hl
  have HOK := Lib.hid hok
  have HM := Lib.hid hm
  have HVN := Lib.hid (vecV_len ls a)
  have HVOK := Lib.hid (vec_ok hm a)
  have hle : ls.length ≤ 256 := (netMay_tabs hm).1
  obtain ⟨ad, cap, rfl, a1, a2, a3⟩ := hl.form
  clear a3 hl hok hm
  unfold maxLen at a2
  go_enter Try.func31, Try.ntmps31
  have hmk := fun w => run_make_row' (P := Try.prog) 27 3 (I 0) 8 Try.underlying27 infoInt rfl .i64 .i64 ls.length (by omega) (by omega) w
  go_upto_region 2 with fail
  have eI : (madeCells #[I 0] ls.length) = (icells (List.replicate ls.length 0)).toArray := by unfold icells; rw [← Array.toList_inj, toList_madeCells_one, List.map_replicate]
  rw [eI]
  refine hideW (Φ := fun W => Code.wp _ _ _ _ W) (fun W => Ext w W ∧ Blk W w.heap.size [.slice ad ls.length cap] 24 ∧ Blk W (w.heap.size + 1) (icells (List.replicate ls.length 0)) 3)
    ⟨by (repeat (first | with_reducible exact Ext.refl _ | with_reducible assumption | with_reducible refine Ext.alloc ?_ _ | with_reducible refine Ext.drew ?_ | with_reducible refine Ext.drewN ?_ _ | (with_reducible refine Ext.setCellP ?_ ?_; focus (first | (simp; done) | (simp; omega) | omega)))), (Blk.new w [.slice ad ls.length cap] 24).old _, Blk.newAt (icells (List.replicate ls.length 0)) (by simp)⟩ (fun W1 hW1 => ?_)
  obtain ⟨hx1, hb1, hs1⟩ := hW1
  have HX1 := Lib.hid hx1
  have HB1 := Lib.hid hb1
  have HS1 := Lib.hid hs1
  have hbc := hb1.cells
  clear hx1 hb1 hs1 hmk eI
  generalize hnb : w.heap.size = nb at *
  have HNB := Lib.hid hnb
  clear hnb
  go_wp2_with fail
  go_loopw [7, 8, 20] (fun b f i wr => ∃ (k : Nat) (s : List Int) (best : Int) (fo : Bool), k ≤ ls.length ∧ i = I k ∧ b = I best ∧ f = .bool fo ∧ Hid (Marks (vecV ls a) k s fo best) ∧ Hid (Blk wr (nb + 1) (icells s) 3) ∧ Hid (Blk wr nb [.slice ad ls.length cap] 24) ∧ Hid (Ext w wr)) (fun _ _ i _ => ls.length - (intOf i).toNat)
  case atStart => exact ⟨0, List.replicate ls.length 0, 0, false, Nat.zero_le _, rfl, rfl, rfl, by rw [← HVN.out]; exact Marks.start _ 0, HS1.out, HB1.out, HX1.out⟩
  case round =>
    obtain ⟨k, s, best, fo, hk, rfl, rfl, rfl, HK, HS, HB, HX⟩ := hrel
    have hbc := HB.out.cells
    by_cases hlt : k < ls.length
    · have hkd : decide ((k : Int) < (ls.length : Int)) = true := decide_eq_true (by omega)
      have HLT := Lib.hid hlt
      have HSL := Lib.hid (show s.length = ls.length by rw [HK.out.len, HVN.out])
      have HGT := Lib.hid (icell_get (q := s) (k := k) (by rw [HSL.out]; exact hlt))
      have HMK := Lib.hid (show mkv s k = s.getD k 0 by unfold mkv; rw [Int.toNat_natCast])
      generalize hz : s.getD k 0 = z at HGT HMK
      clear hz
      have hsc := (HS.out.cells k).trans HGT.out
      by_cases hz : z = 0
      · have hzb : (z != 0) = false := by simp [hz]
        have HZ := Lib.hid hz
        clear hz
        go_upto_region 8 with (first
          | (go_at_call 60; (with_reducible refine (netBack_any w _ ls a k s (nb + 1) nb _ 24 _ HL.out HOK.out HM.out HX.out HS.out (by rw [HNB.out]; omega) HB.out (by omega) HSL.out HLT.out (by rw [HMK.out]; exact HZ.out)).mono ?_); rintro e w2 ⟨s', m, y, ok, he, hBI, hs2, hb2, hx2⟩; subst he; have HBI := Lib.hid hBI; have HS2 := Lib.hid hs2; have HB2 := Lib.hid hb2; have HX2 := Lib.hid hx2; clear hs2 hb2 hx2))
        have HKL := Lib.hid (show k < (vecV ls a).length by rw [HVN.out]; exact HLT.out)
        have hbc := HB2.out.cells
        clear hsc
        obtain ⟨hwk, hm0, hcase⟩ := hBI
        have HWK := Lib.hid (And.intro hwk hm0)
        clear hwk hm0
        rcases hcase with ⟨hen, rfl, rfl⟩ | ⟨hy, hn, hnz, hok⟩
        · have HEN := Lib.hid hen
          clear hen
          go_wp2_with fail
          go_roundw
          case rel => exact ⟨k + 1, s', best, fo, Nat.succ_le_of_lt HLT.out, by go_num, rfl, rfl, HK.out.out HVOK.out HWK.out.1 HWK.out.2 HKL.out HEN.out, HS2.out, HB2.out, HX2.out⟩
          case measure => have := HLT.out; simp [intOf]; omega
        · have HY := Lib.hid (And.intro hy (And.intro hn hnz))
          have hyn : 0 ≤ y := hn.1
          by_cases hmk : mkv s' y = (k : Int) + 1
          · rw [hmk, beq_self_eq_true] at hok
            subst hok
            obtain ⟨p, hp, hlow⟩ := HK.out.loop HVOK.out HWK.out.1 HWK.out.2 HKL.out (by rw [← hy]; exact hn) (by rw [← hy]; exact hmk)
            rw [← hy] at hp hlow
            have HP := Lib.hid hp
            have HLOW := Lib.hid hlow
            have HY0 := Lib.hid hyn
            have HPL := Lib.hid (show 0 < (wayV (vecV ls a) y p).length ∧ (wayV (vecV ls a) y p).length ≤ 9223372036854775807 by
              rw [wayV_len]; have h1 := hp.le HVOK.out hyn; rw [HVN.out] at h1; have := hp.pos; omega)
            clear hp hlow hy hn hnz hmk hyn
            go_upto_region 10 with (first
              | (go_at_call 62; (with_reducible refine (netRound_any _ ls a y p _ (HL.out.later HX2.out) HOK.out HM.out HY0.out HP.out).mono ?_); rintro e w3 ⟨v3, he, ho3, hx3⟩; subst he; have HO3 := Lib.hid ho3; have HX3 := Lib.hid hx3; clear ho3 hx3)
              | (go_at_call 61; (with_reducible refine (minInts_any _ _ _ HO3.out.ints HPL.out.1 HPL.out.2).mono ?_); rintro e w4 ⟨he, hw4⟩; subst he; subst hw4))
            have HMIN := Lib.hid (show Lib.minOf (wayV (vecV ls a) y p) ∈ wayV (vecV ls a) y p ∧ ∀ z ∈ wayV (vecV ls a) y p, Lib.minOf (wayV (vecV ls a) y p) ≤ z by have h := minOf_all HPL.out.1; rwa [List.take_length] at h)
            have HUP := Lib.hid (fun b hb => HLOW.out _ HMIN.out.1 HMIN.out.2 b hb)
            clear HMIN
            generalize Lib.minOf (wayV (vecV ls a) y p) = low at *
            cases fo with
            | false =>
              go_wp2_with fail
              go_roundw
              case rel => exact ⟨k + 1, s', low, true, Nat.succ_le_of_lt HLT.out, by go_num, rfl, rfl, HUP.out low (.inl ⟨rfl, rfl⟩), HS2.out.later HX3.out, HB2.out.later HX3.out, HX2.out.trans HX3.out⟩
              case measure => have := HLT.out; simp [intOf]; omega
            | true =>
              by_cases hlb : low < best
              · have hld : decide (low < best) = true := decide_eq_true hlb
                have HLB := Lib.hid hlb
                clear hlb
                go_wp2_with fail
                go_roundw
                case rel => exact ⟨k + 1, s', low, true, Nat.succ_le_of_lt HLT.out, by go_num, rfl, rfl, HUP.out low (.inr ⟨rfl, (Int.min_eq_right (Int.le_of_lt HLB.out)).symm⟩), HS2.out.later HX3.out, HB2.out.later HX3.out, HX2.out.trans HX3.out⟩
                case measure => have := HLT.out; simp [intOf]; omega
              · have hld : decide (low < best) = false := decide_eq_false hlb
                have HLB := Lib.hid hlb
                clear hlb
                go_wp2_with fail
                go_roundw
                case rel => exact ⟨k + 1, s', best, true, Nat.succ_le_of_lt HLT.out, by go_num, rfl, rfl, HUP.out best (.inr ⟨rfl, (Int.min_eq_left (by have := HLB.out; omega)).symm⟩), HS2.out.later HX3.out, HB2.out.later HX3.out, HX2.out.trans HX3.out⟩
                case measure => have := HLT.out; simp [intOf]; omega
          · have HMK2 := Lib.hid hmk
            have hokf : (mkv s' y == (k : Int) + 1) = false := beq_false_of_ne hmk
            rw [hokf] at hok
            subst hok
            clear hy hn hnz hmk hyn hokf
            go_wp2_with fail
            go_roundw
            case rel => exact ⟨k + 1, s', best, fo, Nat.succ_le_of_lt HLT.out, by go_num, rfl, rfl, HK.out.met HVOK.out HWK.out.1 HWK.out.2 HKL.out (by rw [← HY.out.1]; exact HY.out.2.1) (by rw [← HY.out.1]; exact HY.out.2.2) (by rw [← HY.out.1]; exact HMK2.out), HS2.out, HB2.out, HX2.out⟩
            case measure => have := HLT.out; simp [intOf]; omega
      · have hzb : (z != 0) = true := by simp [hz]
        have HZ := Lib.hid hz
        clear hz
        go_wp2_with fail
        go_roundw
        case rel => exact ⟨k + 1, s, best, fo, Nat.succ_le_of_lt HLT.out, by go_num, rfl, rfl, HK.out.skip (by rw [HMK.out]; exact HZ.out), HS.out, HB.out, HX.out⟩
        case measure => have := HLT.out; simp [intOf]; omega
    · have hkk : k = ls.length := by omega
      have HD := Lib.hid (Marks.done HVOK.out (by rw [HVN.out, ← hkk]; exact HK.out))
      clear hkk
      cases fo with
      | false =>
        have HD1 := Lib.hid (HD.out.1 rfl)
        clear HD HK
        go_wp2_with fail
        go_ret2
        unfold LoopOut
        exact ⟨.slice none 0 0, [], false, rfl, .inl ⟨rfl, HD1.out⟩, by simp, ⟨rfl, .inl ⟨rfl, rfl⟩⟩, HX.out⟩
      | true =>
        have HD2 := Lib.hid (HD.out.2 rfl)
        clear HD HK
        obtain ⟨p, hp⟩ := HD2.out.1.per
        have HB0 := Lib.hid (show (0 : Int) ≤ best from HD2.out.1.1)
        have HP := Lib.hid hp
        clear hp
        go_wp2_with (first
          | (go_at_call 62; (with_reducible refine (netRound_any _ ls a best p _ (HL.out.later HX.out) HOK.out HM.out HB0.out HP.out).mono ?_); rintro e w3 ⟨v3, he, ho3, hx3⟩; subst he; have HO3 := Lib.hid ho3; have HX3 := Lib.hid hx3; clear ho3 hx3))
        go_ret2
        unfold LoopOut
        exact ⟨v3, wayV (vecV ls a) best p, true, rfl, .inr ⟨best, p, HD2.out, HP.out, rfl⟩, ⟨fun _ h => (by have := HP.out.pos; have h2 := wayV_len (vecV ls a) best p; rw [h] at h2; simp at h2; omega), fun _ => rfl⟩, own_low HO3.out HX.out.size, HX.out.trans HX3.out⟩
end Go.Proofs.Ytpfkfboohblgoaa
