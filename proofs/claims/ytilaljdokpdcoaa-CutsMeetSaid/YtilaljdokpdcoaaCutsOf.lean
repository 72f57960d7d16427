/- cuts.Of: where something may change in a network. Conditions: whole numbers are within 64 bits; no more cuts than the proved part of the sort takes. -/
import Derived.Test.YtilaljdokpdcoaaCutsP
namespace Go.Proofs.Ytilaljdokpdcoaa
open Go Go.RowKit Go.Maps Go.Proofs

/-- The map's literal: a key laid into a new map. -/
theorem wpList_insert_own {H : Type} {P : Program} {w : World} {ops : Array Oper} {rest : List Oper} {o : Oper} {a : Act} {Q : Exit → Act → World → Prop}
    (hg : o.guard = none) (m x v : Operand) (t : TypeId) (hop : o.op = Op.insert t m x v)
    (k e : TypeId) (K : Keyed P k) (ht : P.underlying t = some (.map k e)) (R : Value → Option (DataW H × List MemPlace)) (b n : Nat) (D : DataW H)
    (hm : a.eval m = .map (some b)) (hown : w.ownsMap P k R b n D) (hn : n < maxLen) (key val : Value) (kl : Lit) (hx : a.eval x = key) (hv : a.eval v = val) (hkey : keyOf P k key = some kl)
    (d : DataW H) (ps : List MemPlace) (hval : R val = some (d, ps))
    (hK : ∀ w', w'.ownsMap P k R b (n + 1) (D.put kl d) → w.grownBy w' (some b) → wpList P ops Q rest (a.put o.dst undef) w') :
    wpList P ops Q (o :: rest) a w := by
  refine wpList_plain hg fun K' hK' => ?_
  obtain ⟨w', hrun, r1, r2⟩ := hown.update K ht hn hkey hval
  unfold Oper.wp
  simp [execOp, hop, hm, hx, hv, hrun, Result.andThen]
  exact hK' _ _ (hK w' r1 r2)

theorem flat_step {ls : List (List Rul)} {k : Nat} (h : k < ls.length) : (ls.take (k + 1)).flatten = (ls.take k).flatten ++ ls[k] := by
  rw [List.take_succ_eq_append_getElem h, List.flatten_append]; simp
theorem cutI_mono {a b : List Rul} (h : ∀ x ∈ a, x ∈ b) : ∀ x ∈ cutI a, x ∈ cutI b := by
  intro x hx
  unfold cutI at *
  rcases List.mem_cons.1 hx with rfl | hx
  · simp
  · obtain ⟨r, h1, h2⟩ := List.mem_flatMap.1 hx
    exact List.mem_cons_of_mem _ (List.mem_flatMap.2 ⟨r, h r h1, h2⟩)
theorem cutI_len_app (a b : List Rul) : (cutI (a ++ b)).length = (cutI a).length + (b.flatMap rcut).length := by unfold cutI; simp; omega
theorem cutI_part {ls : List (List Rul)} {k j : Nat} (h : k < ls.length) (hj : j < ls[k].length) : (cutI ((ls.take k).flatten ++ ls[k].take j)).length + (rcut ls[k][j]).length ≤ (cutI ls.flatten).length := by
  have h1 : ls = ls.take k ++ (ls[k] :: ls.drop (k + 1)) := by rw [← List.drop_eq_getElem_cons h, List.take_append_drop]
  have h2 : ls[k] = ls[k].take j ++ (ls[k][j] :: ls[k].drop (j + 1)) := by rw [← List.drop_eq_getElem_cons hj, List.take_append_drop]
  have h3 : ls.flatten = (ls.take k).flatten ++ (ls[k].take j ++ (ls[k][j] :: ls[k].drop (j + 1)) ++ (ls.drop (k + 1)).flatten) := by
    rw [← h2]
    conv => lhs; rw [h1]
    rw [List.flatten_append, List.flatten_cons]
  rw [h3, cutI_len_app, cutI_len_app, List.flatMap_append, List.flatMap_append, List.flatMap_cons]
  simp only [List.length_append]
  omega
theorem owned_later {H : Type} {w w' : World} {P : Program} {k : TypeId} {R : Value → Option (DataW H × List MemPlace)} {b n : Nat} {D : DataW H} (h : w.ownsMap P k R b n D) (hx : Ext w w') : w'.ownsMap P k R b n D := by
  have hl := h.lt
  obtain ⟨es, clock, hb, r⟩ := h
  exact ⟨es, clock, (Below.block hx b hl).trans hb, r⟩
theorem ext_grown {w a b : World} {mb : Nat} (h : Ext w a) (hg : a.grownBy b (some mb)) (hm : w.heap.size ≤ mb) : Ext w b := Below.grown h hg h.size (fun j hj => by cases hj; exact hm)
theorem mapAt_step {w1 : World} {mb n : Nat} {D : DataW Unit} {cs : List Int} {x : Int} {d : DataW Unit} (hh : ∀ x, has D (.int .u32 x) = true ↔ x ∈ cs) (hn : n ≤ cs.length) (hD : IsMap D)
    (hown : w1.ownsMap Try.prog 25 (plainElem Try.prog 4) mb (n + 1) (D.put (.int .u32 x) d)) : MapAt w1 mb (cs ++ [x]) :=
  ⟨n + 1, _, hown, by simp; omega, fun y => by rw [has_put hD, hh y, List.mem_append, List.mem_singleton]; exact or_comm⟩
theorem owned_isMap {w : World} {P : Program} {k : TypeId} {R : Value → Option (DataW Unit × List MemPlace)} {b n : Nat} {D : DataW Unit} (h : w.ownsMap P k R b n D) : IsMap D := by
  obtain ⟨es, rfl, _⟩ := h.keysOf
  exact ⟨es, rfl⟩

set_option maxHeartbeats 2000000 in
set_option maxRecDepth 100000 in
theorem cutsOf_any (lv : Value) (ls : List (List Rul)) (w : World) (hl : TablesAt w lv ls) (hok : TablesOk ls) (hcap : SortCap (cutI ls.flatten).length) :
    Calls Try.prog 30 #[.agg #[lv]] w fun e w' => ∃ v l, e = .returned v ∧ OwnU w' w.heap.size v l ∧ Cuts ls.flatten l ∧ Ext w w' := by
  obtain ⟨hc4, hcm, hcl⟩ := hcap.bytes
  have HL := Lib.hid hl
  obtain ⟨ad, cap, rfl, a1, a2, a3⟩ := hl.form
  have A3 := Lib.hid a3
  clear a3 hl
  unfold maxLen at a2
  have hmm := @run_makeMap Try.prog
  go_enter Try.func30, Try.ntmps30
  go_upto_region 1 with (fail)
  refine hideW (Φ := fun W => Code.wp _ _ _ _ W) (fun W => Ext w W ∧ Blk W w.heap.size [.slice ad ls.length cap] 24) ⟨by (repeat (first | with_reducible exact Ext.refl _ | with_reducible assumption | with_reducible refine Ext.alloc ?_ _ | with_reducible refine Ext.drew ?_ | with_reducible refine Ext.drewN ?_ _ | (with_reducible refine Ext.setCellP ?_ ?_; focus (first | (simp; done) | (simp; omega) | omega)))), Blk.newAt [.slice ad ls.length cap] (by simp)⟩ (fun W1 hW1 => ?_)
  obtain ⟨hx1, hb1⟩ := hW1
  have HX1 := Lib.hid hx1
  have HB1 := Lib.hid hb1
  clear hx1 hb1
  have HM0 := Lib.hid (MapAt.start W1)
  have HSZ := Lib.hid HX1.out.size
  go_upto_region 2 with (refine wpList_insert_own rfl _ _ _ 84 rfl 25 4 lawU Try.underlying84 _ W1.heap.size 0 _ rfl HM0.out (by unfold maxLen; omega) _ _ _ rfl rfl (keyOf_U 0 (by omega) (by omega)) _ [] (plainElem_bool Try.underlying4 true) ?_; intro w1 hown1 hgrow1; have HOWN := Lib.hid hown1; have HGROW := Lib.hid hgrow1; clear hown1 hgrow1)
  have HX2 := Lib.hid (show Ext w w1 from ext_grown (HX1.out.alloc _) HGROW.out HSZ.out)
  have HB2 := Lib.hid (show Blk w1 w.heap.size [.slice ad ls.length cap] 24 from by
    have h1 := (HB1.out.old (.map #[] 0)).lt
    exact (HGROW.out.block _ h1 (fun e => by have := Option.some.inj e; have := HB1.out.lt; omega)).trans (HB1.out.old (.map #[] 0)))
  have HMAP := Lib.hid (show MapAt w1 W1.heap.size (cutI []) from mapAt_step (cs := []) (fun x => by simp [has]) (Nat.zero_le _) isMap_empty HOWN.out)
  clear hmm HM0 HOWN HGROW
  generalize hmb : W1.heap.size = mb at *
  clear hmb HB1 HX1
  have hnc := HB2.out.cells
  go_wp2
  go_loopw [15] (fun i wr => ∃ k : Nat, k ≤ ls.length ∧ i = I k ∧ Hid (MapAt wr mb (cutI (ls.take k).flatten)) ∧ Ext w wr) (fun i _ => ls.length - (intOf i).toNat)
  case atStart => exact ⟨0, by omega, rfl, Lib.hid HMAP.out, HX2.out⟩
  case round =>
    obtain ⟨k, hk, rfl, HMk, hx⟩ := hrel
    by_cases hlt : k < ls.length
    · obtain ⟨b0, o0, u, rfl, p0, hru⟩ := A3.out k ls[k] (List.getElem?_eq_getElem hlt)
      replace p0 := hx.cell p0
      obtain ⟨ra, rcap, rfl, r1, r2, r3⟩ := hru.form
      have R3 := Lib.hid r3
      clear r3
      unfold maxLen at r2
      have hokl := hok.at hlt
      go_wp2
      go_loopw [21] (fun i wq => ∃ j : Nat, j ≤ ls[k].length ∧ i = I j ∧ Hid (MapAt wq mb (cutI ((ls.take k).flatten ++ ls[k].take j))) ∧ Ext w wq) (fun i _ => ls[k].length - (intOf i).toNat)
      case atStart => exact ⟨0, by omega, rfl, Lib.hid (by simpa using HMk.out), hx⟩
      case round =>
        obtain ⟨j, hj, rfl, HMj, hxj⟩ := hrel
        by_cases hjl : j < ls[k].length
        · have HLEN := Lib.hid (cutI_part hlt hjl)
          have HST := Lib.hid (show cutI ((ls.take k).flatten ++ ls[k].take (j + 1)) = cutI ((ls.take k).flatten ++ ls[k].take j) ++ rcut ls[k][j] by
            rw [List.take_succ_eq_append_getElem hjl, ← List.append_assoc, cutI_app])
          obtain ⟨b1, o1, rfl, q0, q1, q2, q3⟩ := R3.out j ls[k][j] (List.getElem?_eq_getElem hjl)
          replace q0 := hxj.cell q0
          replace q1 := hxj.cell q1
          replace q2 := hxj.cell q2
          replace q3 := hxj.cell q3
          have HOK1 := Lib.hid (hokl ls[k][j] (List.getElem_mem hjl)).pl
          obtain ⟨n, D, hown, hn, hh⟩ := HMj.out
          have HOWN := Lib.hid hown
          have HH := Lib.hid hh
          have HD := Lib.hid (owned_isMap hown)
          generalize hcs : cutI ((ls.take k).flatten ++ ls[k].take j) = cs at *
          clear hown hh hcs
          obtain ⟨lo, hlo⟩ : ∃ lo, uv (lowV ls[k][j].pa ls[k][j].pl) = lo := ⟨_, rfl⟩
          obtain ⟨hi, hhi⟩ : ∃ hi, uv (highV ls[k][j].pa ls[k][j].pl) = hi := ⟨_, rfl⟩
          have HE := Lib.hid (show ∀ W, Calls Try.prog 31 #[U ls[k][j].pa, I ls[k][j].pl] W fun e w' => e = .returned (.tuple #[.int .u32 lo, .int .u32 hi]) ∧ W = w' from fun W => by
            rw [← hlo, ← hhi]; exact ends_any _ _ _ HOK1.out)
          have hlb : 0 ≤ lo ∧ lo < 4294967296 := by rw [← hlo]; exact uv_bd _
          have hhb : 0 ≤ hi ∧ hi < 4294967296 := by rw [← hhi]; exact uv_bd _
          have HRC := Lib.hid (show rcut ls[k][j] = lo :: (if hi = 4294967295 then [] else [hi + 1]) by unfold rcut; rw [hlo, hhi])
          clear hlo hhi
          by_cases htop : hi = 4294967295
          · subst htop
            have HRC' := Lib.hid (show rcut ls[k][j] = [lo] by rw [HRC.out]; rfl)
            have hn1 : n < maxLen := by have := HLEN.out; rw [HRC'.out] at this; simp only [List.length_cons, List.length_nil] at this; omega
            have HN1 := Lib.hid hn1
            clear hn1
            go_wp2_with (first
              | (go_at_call 31; refine (HE.out _).mono ?_; rintro e w' ⟨rfl, rfl⟩)
              | (at_mapUpdate; refine wpList_mapUpdate_own _ rfl _ _ _ 84 rfl 25 4 lawU Try.underlying84 _ mb n D rfl (owned_later HOWN.out (by (repeat (first | with_reducible exact Ext.refl _ | with_reducible assumption | with_reducible refine Ext.alloc ?_ _ | with_reducible refine Ext.drew ?_ | with_reducible refine Ext.drewN ?_ _ | (with_reducible refine Ext.setCellP ?_ ?_; focus (first | (simp; done) | (simp; omega) | omega)))))) HN1.out _ _ _ rfl rfl (keyOf_U _ hlb.1 hlb.2) _ [] (plainElem_bool Try.underlying4 true) ?_; intro w2 hown2 hgrow2; have HO2 := Lib.hid hown2; have HG2 := Lib.hid hgrow2; clear hown2 hgrow2))
            go_roundw
            case rel =>
              refine ⟨j + 1, by omega, by go_num, Lib.hid ?_, ext_grown (hxj.alloc _) HG2.out HSZ.out⟩
              rw [HST.out, HRC'.out]
              exact mapAt_step HH.out hn HD.out HO2.out
            case measure => simp [intOf]; omega
          · have HRC' := Lib.hid (show rcut ls[k][j] = [lo, hi + 1] by rw [HRC.out, if_neg htop])
            have HN1 := Lib.hid (show n < maxLen by have := HLEN.out; rw [HRC'.out] at this; simp only [List.length_cons, List.length_nil] at this; omega)
            have HN2 := Lib.hid (show n + 1 < maxLen by have := HLEN.out; rw [HRC'.out] at this; simp only [List.length_cons, List.length_nil] at this; omega)
            go_wp2_with (first
              | (go_at_call 31; refine (HE.out _).mono ?_; rintro e w' ⟨rfl, rfl⟩)
              | (at_mapUpdate; refine wpList_mapUpdate_own _ rfl _ _ _ 84 rfl 25 4 lawU Try.underlying84 _ mb n D rfl (owned_later HOWN.out (by (repeat (first | with_reducible exact Ext.refl _ | with_reducible assumption | with_reducible refine Ext.alloc ?_ _ | with_reducible refine Ext.drew ?_ | with_reducible refine Ext.drewN ?_ _ | (with_reducible refine Ext.setCellP ?_ ?_; focus (first | (simp; done) | (simp; omega) | omega)))))) HN1.out _ _ _ rfl rfl (keyOf_U _ hlb.1 hlb.2) _ [] (plainElem_bool Try.underlying4 true) ?_; intro w2 hown2 hgrow2; have HO2 := Lib.hid hown2; have HG2 := Lib.hid hgrow2; clear hown2 hgrow2)
              | (at_mapUpdate; refine wpList_mapUpdate_own _ rfl _ _ _ 84 rfl 25 4 lawU Try.underlying84 _ mb (n + 1) _ rfl HO2.out HN2.out _ _ _ rfl rfl (keyOf_U _ (by omega) (by omega)) _ [] (plainElem_bool Try.underlying4 true) ?_; intro w3 hown3 hgrow3; have HO3 := Lib.hid hown3; have HG3 := Lib.hid hgrow3; clear hown3 hgrow3))
            go_roundw
            case rel =>
              refine ⟨j + 1, by omega, by go_num, Lib.hid ?_, ext_grown (ext_grown (hxj.alloc _) HG2.out HSZ.out) HG3.out HSZ.out⟩
              rw [HST.out, HRC'.out, show cs ++ [lo, hi + 1] = (cs ++ [lo]) ++ [hi + 1] by simp]
              exact mapAt_step (fun y => by rw [has_put HD.out, HH.out y, List.mem_append, List.mem_singleton]; exact or_comm) (by simp; omega) (HD.out.put _ _) HO3.out
            case measure => simp [intOf]; omega
        · have HE := Lib.hid (show (ls.take k).flatten ++ ls[k].take j = (ls.take (k + 1)).flatten by rw [flat_step hlt, show ls[k].take j = ls[k] from List.take_of_length_le (by omega)])
          go_wp2
          go_roundw
          case rel => exact ⟨k + 1, by omega, by go_num, Lib.hid (by rw [← HE.out]; exact HMj.out), hxj⟩
          case measure => simp [intOf]; omega
    · have HEND := Lib.hid (show ls.take k = ls from List.take_of_length_le (by omega))
      obtain ⟨n, D, hown, hn, hh⟩ := HMk.out
      rw [HEND.out] at hn hh
      obtain ⟨l, e1, hl, e2⟩ := cuts_of hown hh
      have hsz : Maps.size D ≤ (cutI ls.flatten).length := by
        have hd : ∃ es, D = .map es ∧ es.length ≤ n := by
          obtain ⟨es, clock, _, _, hs, rfl⟩ := hown
          exact ⟨_, rfl, by rw [length_sorted, List.length_map, Array.length_toList]; exact hs⟩
        obtain ⟨es, rfl, hle⟩ := hd
        exact Nat.le_trans hle hn
      have HS := Lib.hid (hcap.mono hsz)
      have HB := Lib.hid (HS.out.bytes)
      have HOWN := Lib.hid hown
      have HCUT := Lib.hid hl
      have HE1 := Lib.hid e1
      clear hown hh hl e1 e2 hn hsz
      go_wp2_with (first
        | (go_at_call 55; refine (keysU_any _ _).mono ?_; rintro e w' ⟨rfl, rfl⟩)
        | (go_at_call 54; refine (sortedKeys_any _ mb n D _ (by simp) (by simp) (owned_later HOWN.out (by (repeat (first | with_reducible exact Ext.refl _ | with_reducible assumption | with_reducible refine Ext.alloc ?_ _ | with_reducible refine Ext.drew ?_ | with_reducible refine Ext.drewN ?_ _ | (with_reducible refine Ext.setCellP ?_ ?_; focus (first | (simp; done) | (simp; omega) | omega)))))) HB.out.2.2 HB.out.1 HS.out).mono ?_; rintro e w' ⟨v, rfl, hrow, hbel⟩))
      go_ret
      refine ⟨v, l, rfl, ?_, HCUT.out, (hx.alloc _).trans hbel⟩
      unfold OwnU ucells
      rw [HE1.out, List.length_map, List.map_map] at hrow
      exact Go.Proofs.ownsRow_base_a hrow (by have := hx.size; simp; omega)
end Go.Proofs.Ytilaljdokpdcoaa
