/- CertP, CertF, SetI, CertMay, R17May: these texts in one. Conditions: each part names its own. -/
import Derived.Test.YtdpmnldmbnpfpaaGreatDoorGMeet
import Derived.Maps.OwnSet
import Derived.Test.YtdpmnldmbnpfpaaGreatDoorGAtB
/- Certificates: in memory, and whether one may be, in plain words. Conditions: none. -/
namespace Go.Proofs.YtdpmnldmbnpfpaaGreatDoor
open Go.RowKit

/-- A certificate: its parts as they lie there, with their ranks. -/
structure Crt where
 vd : Int
 ps : List Prt
 rks : List (List Int)
 dest : BitVec 32
 tr : List Int
structure CertAt (w : World) (pv tv : Value) (c : Crt) : Prop where
 parts : PartsAt w pv c.ps
 len : c.rks.length = c.ps.length
 rk : ∀ (i : Nat) (p : Prt) (r : List Int), c.ps[i]? = some p -> c.rks[i]? = some r -> IntsAt w p.rk r
 tr : IntsAt w tv c.tr
theorem CertAt.later {w w' : World} {pv tv : Value} {c : Crt} (h : CertAt w pv tv c) (hx : Ext w w') : CertAt w' pv tv c :=
 ⟨h.parts.later hx, h.len, fun i p r h1 h2 => (h.rk i p r h1 h2).later hx, h.tr.later hx⟩
def outB (n : Int) (x : Int) : Bool := decide (x < 0) || decide (n <= x)
def rksV (n : Int) : List (List Int) -> Int
 | [] => 0
 | r :: t => if (r.length : Int) ≠ n then 1 else if r.any (outB n) then 16 else rksV n t
def freeV (n : Int) (c : Crt) : Int := if c.dest ≠ 0#32 \/ 0 < c.tr.length then 3 else if 8193 < c.ps.length then 12 else if meetV c.ps ≠ 0 then 15 else rksV n c.rks
def trG (first : Int) : List Int -> List Int -> Bool
 | _, [] => false
 | seen, x :: t => decide (x ∈ seen) || (decide (x < first) || trG first (seen ++ [x]) t)
def loopsV (n : Int) (c : Crt) : Int := if 0 < c.ps.length then 3 else if c.tr.length = 0 \/ n < (c.tr.length : Int) then 12 else if c.tr.any (outB n) then 10 else if trG (c.tr.headD 0) [] c.tr then 17 else 0
def certMayV (n : Int) (c : Crt) : Int := if c.vd = 1 then freeV n c else if c.vd = 2 then loopsV n c else 9
theorem meetV_two (ps : List Prt) : meetV ps = 0 \/ meetV ps = 15 := by unfold meetV; split <;> simp
theorem rksV_step (n : Int) {rks : List (List Int)} {k : Nat} (h : k < rks.length) : rksV n (rks.drop k) = if (rks[k].length : Int) ≠ n then 1 else if rks[k].any (outB n) then 16 else rksV n (rks.drop (k + 1)) := by
 rw [List.drop_eq_getElem_cons h]; rfl
theorem rksV_end (n : Int) {rks : List (List Int)} {k : Nat} (h : rks.length <= k) : rksV n (rks.drop k) = 0 := by rw [List.drop_of_length_le h]; rfl
theorem trG_step (f : Int) {tr : List Int} {k : Nat} (h : k < tr.length) : trG f (tr.take k) (tr.drop k) = (decide (tr[k] ∈ tr.take k) || (decide (tr[k] < f) || trG f (tr.take (k + 1)) (tr.drop (k + 1)))) := by
 conv => lhs; rw [List.drop_eq_getElem_cons h]
 rw [List.take_succ_eq_append_getElem h]; rfl
theorem trG_end (f : Int) {tr : List Int} {k : Nat} (h : tr.length <= k) (s : List Int) : trG f s (tr.drop k) = false := by rw [List.drop_of_length_le h]; rfl
theorem any_no {l : List Int} {p : Int -> Bool} {k : Nat} (h : ∀ x ∈ l.take k, p x = false) (hk : l.length <= k) : l.any p = false := by
 rw [List.take_of_length_le hk] at h
 rw [List.any_eq_false]
 intro x hx; rw [h x hx]; simp
theorem any_at {l : List Int} {p : Int -> Bool} {k : Nat} (hk : k < l.length) (h : p l[k] = true) : l.any p = true := List.any_eq_true.2 ⟨_, List.getElem_mem hk, h⟩
theorem take_no {l : List Int} {p : Int -> Bool} {k : Nat} (hk : k < l.length) (h : ∀ x ∈ l.take k, p x = false) (h1 : p l[k] = false) : ∀ x ∈ l.take (k + 1), p x = false := by
 rw [List.take_succ_eq_append_getElem hk]
 intro x hx
 rcases List.mem_append.1 hx with hx | hx
 · exact h x hx
 · simp only [List.mem_singleton] at hx; rw [hx]; exact h1
end Go.Proofs.YtdpmnldmbnpfpaaGreatDoor

/- Closures over how many nodes there are: cert.May's 'outside', slices.IndexFunc, slices.ContainsFunc. Conditions: none. -/
namespace Go.Proofs.YtdpmnldmbnpfpaaGreatDoor
open Go.RowKit

abbrev outF (nb : Nat) : Value := .func (.func 115) #[] #[.pointer (some ⟨nb, 0, none⟩)]
set_option maxHeartbeats 1000000 in
theorem outside_any (x n : Int) (nb : Nat) (w : World) (hb : w.cell? ⟨nb, 0, none⟩ = some (I n)) :
 Calls Tryz.prog 115 #[I x, .pointer (some ⟨nb, 0, none⟩)] w fun e w' => e = .returned (.bool (outB n x)) /\ w' = w := by
 by_cases h : x < 0
 · have h1 : decide (x < 0) = true := decide_eq_true h
   have HO := Lib.hid (show outB n x = true by unfold outB; rw [h1]; rfl)
   clear h
   go_enter Tryz.func115, Tryz.ntmps115
   go_wp2
   go_ret
   exact ⟨by rw [HO.out]; rfl, rfl⟩
 · have h1 : decide (x < 0) = false := decide_eq_false h
   have HO := Lib.hid (show outB n x = decide (n <= x) by unfold outB; rw [h1]; rfl)
   clear h
   go_enter Tryz.func115, Tryz.ntmps115
   go_wp2
   go_ret
   exact ⟨by rw [HO.out]; rfl, rfl⟩
set_option maxHeartbeats 2000000 in
theorem indexFunc_any (v : Value) (l : List Int) (n : Int) (nb : Nat) (w : World) (hv : IntsAt w v l) (hb : w.cell? ⟨nb, 0, none⟩ = some (I n)) :
 Calls Tryz.prog 201 #[v, outF nb] w fun e w' => (∃ r : Int, e = .returned (I r) /\ decide (0 <= r) = l.any (outB n)) /\ w' = w := by
 obtain ⟨a, cap, rfl, a1, a2, a3⟩ := hv.form
 have A3 := Lib.hid a3
 have HB := Lib.hid hb
 clear a3 hv hb
 unfold maxLen at a2
 go_enter Tryz.func201, Tryz.ntmps201
 go_wp2_with fail
 go_loopw [8] (fun i wr => ∃ k : Nat, k <= l.length /\ i = I k /\ Hid (∀ x ∈ l.take k, outB n x = false) /\ wr = w) (fun i _ => l.length - (intOf i).toNat)
 case atStart => exact ⟨0, by omega, rfl, fun x hx => by simp at hx, rfl⟩
 case round =>
  obtain ⟨k, hk, rfl, HN, rfl⟩ := hrel
  by_cases hlt : k < l.length
  · obtain ⟨b0, o0, rfl, p0⟩ := A3.out k l[k] (List.getElem?_eq_getElem hlt)
    cases hq : outB n l[k] with
    | true =>
      have HQ := Lib.hid hq
      have HA := Lib.hid (any_at hlt hq)
      clear hq
      generalize l[k] = x at *
      go_wp2_with (first
       | (go_at_call 115; (with_reducible refine (outside_any x n nb _ HB.out).mono ?_); rintro e w' ⟨he, hw⟩; rw [HQ.out] at he; subst he; obtain rfl := hw.symm))
      go_ret
      exact ⟨⟨k, rfl, by rw [HA.out]; simp⟩, rfl⟩
    | false =>
      have HQ := Lib.hid hq
      have HT := Lib.hid (take_no hlt HN.out hq)
      clear hq
      generalize l[k] = x at *
      go_wp2_with (first
       | (go_at_call 115; (with_reducible refine (outside_any x n nb _ HB.out).mono ?_); rintro e w' ⟨he, hw⟩; rw [HQ.out] at he; subst he; obtain rfl := hw.symm))
      go_roundw
      case rel => exact ⟨k + 1, by omega, by go_num, HT.out, by first | trivial | rfl⟩
      case measure => simp [intOf]; omega
  · have HA := Lib.hid (any_no HN.out (show l.length <= k by omega))
    go_wp2_with fail
    go_ret
    exact ⟨⟨-1, rfl, by rw [HA.out]; rfl⟩, rfl⟩
set_option maxHeartbeats 1000000 in
theorem containsFunc_any (v : Value) (l : List Int) (n : Int) (nb : Nat) (w : World) (hv : IntsAt w v l) (hb : w.cell? ⟨nb, 0, none⟩ = some (I n)) :
 Calls Tryz.prog 161 #[v, outF nb] w fun e w' => e = .returned (.bool (l.any (outB n))) /\ w' = w := by
 have HV := Lib.hid hv
 have HB := Lib.hid hb
 clear hv hb
 go_enter Tryz.func161, Tryz.ntmps161
 go_wp2_with (first
  | (go_at_call 201; (with_reducible refine (indexFunc_any v l n nb _ HV.out HB.out).mono ?_); rintro e w' ⟨⟨r, he, hr⟩, hw⟩; subst he; obtain rfl := hw.symm; have HR := Lib.hid hr; clear hr))
 go_ret
 exact ⟨by rw [<- HR.out]; rfl, by first | trivial | rfl⟩
end Go.Proofs.YtdpmnldmbnpfpaaGreatDoor

/- Sets of whole numbers kept as map[int]bool. Conditions: none. -/
namespace Go.Proofs.YtdpmnldmbnpfpaaGreatDoor
open Go Go.RowKit Go.Maps Go.Proofs

def SetI (w : World) (mb : Nat) (seen : List Int) : Prop :=
 ∃ (n : Nat) (D : DataW Unit), w.ownsMap Tryz.prog 3 (plainElem Tryz.prog 4) mb n D /\ n <= seen.length /\ ∀ x, D.atKey (.int .i64 x) (.lit (.bool false)) = .lit (.bool (decide (x ∈ seen)))
theorem SetI.start (w : World) : SetI (w.alloc (.map #[] 0)) w.heap.size [] :=
 ⟨0, .map [], World.ownsMap_made _ _ _ _, Nat.le_refl _, fun _ => rfl⟩
theorem lawI : Keyed Tryz.prog 3 := int_keyed Tryz.underlying3
theorem wf64 {x : Int} (h : In64 x) : (Lit.int .i64 x).wf = true := by
 unfold In64 at h
 show (decide (-9223372036854775808 <= x) && decide (x <= 9223372036854775807)) = true
 rw [decide_eq_true h.1, decide_eq_true h.2]; rfl
theorem keyI {x : Int} (h : In64 x) : keyOf Tryz.prog 3 (.int .i64 x) = some (.int .i64 x) := keyOf_int_mk Tryz.underlying3 (wf64 h)
theorem zeroBool (w : World) : (zeroValue 4).run Tryz.prog w = .ok (.bool false) w := by kernel_rfl
theorem plain_bool_inv {P : Program} {e : TypeId} (he : P.underlying e = some .bool) {v : Value} {b : Bool} {ps : List MemPlace} (h : plainElem (H := Unit) P e v = some (.lit (.bool b), ps)) : v = .bool b := by
 unfold plainElem at h
 rw [he] at h
 cases v <;> simp at h
 rw [h.1]
theorem plainElem_bool_inv {v : Value} {b : Bool} {ps : List MemPlace} (h : plainElem (H := Unit) Tryz.prog 4 v = some (.lit (.bool b), ps)) : v = .bool b := plain_bool_inv Tryz.underlying4 h
theorem SetI.look {w : World} {mb : Nat} {seen : List Int} (h : SetI w mb seen) {x : Int} (hx : In64 x) : (Instr.lookup 214 (.map (some mb)) (.int .i64 x) false).run Tryz.prog w = .ok (.bool (decide (x ∈ seen))) w := by
 obtain ⟨n, D, ⟨es, clock, hb, F, _, rfl⟩, hn, hh⟩ := h
 have hx' := hh x
 rcases Maps.fit_look false lawI Tryz.underlying214 (zeroBool w) hb F (keyI hx) with ⟨hrun, _, hat⟩ | ⟨e0, y, _, _, hrun, hRv, hat, _⟩
 · rw [hat] at hx'
   rw [hrun]
   have e : decide (x ∈ seen) = false := by simpa using hx'.symm
   rw [e]; rfl
 · rw [hat] at hx'
   rw [hrun]
   obtain ⟨y1, y2⟩ := y
   simp only at hx'
   subst hx'
   rw [plainElem_bool_inv hRv]; rfl
theorem SetI.lt {w : World} {mb : Nat} {seen : List Int} (h : SetI w mb seen) : mb < w.heap.size := by
 obtain ⟨n, D, ⟨es, clock, hb, r⟩, h2, h3⟩ := h
 rcases Nat.lt_or_ge mb w.heap.size with h' | h'
 · exact h'
 · rw [Array.getElem?_eq_none h'] at hb; cases hb
theorem SetI.later {w w' : World} {mb : Nat} {seen : List Int} (h : SetI w mb seen) (hx : Ext w w') : SetI w' mb seen := by
 have hlt := h.lt
 obtain ⟨n, D, ⟨es, clock, hb, r⟩, h2, h3⟩ := h
 exact ⟨n, D, ⟨es, clock, by rw [Below.block hx mb hlt]; exact hb, r⟩, h2, h3⟩
theorem SetI.put {w w' : World} {mb n : Nat} {D : DataW Unit} {seen : List Int} {x : Int} (hown : w.ownsMap Tryz.prog 3 (plainElem Tryz.prog 4) mb n D) (hn : n <= seen.length) (hh : ∀ y, D.atKey (.int .i64 y) (.lit (.bool false)) = .lit (.bool (decide (y ∈ seen))))
 (ho : w'.ownsMap Tryz.prog 3 (plainElem Tryz.prog 4) mb (n + 1) (D.put (.int .i64 x) (.lit (.bool true)))) : SetI w' mb (seen ++ [x]) := by
 refine ⟨n + 1, _, ho, by simp; omega, fun y => ?_⟩
 by_cases e : y = x
 · subst e
   rw [atKey_put_same hown.isMap (by first | trivial | simp [WideAt.IsKeyLit])]
   simp
 · rw [atKey_put_other (by simp [e]), hh y]
   simp [e]
end Go.Proofs.YtdpmnldmbnpfpaaGreatDoor

/- cert.May: whether a certificate may be. Conditions: whole numbers are within 64 bits. -/
namespace Go.Proofs.YtdpmnldmbnpfpaaGreatDoor
open Go Go.RowKit Go.Maps Go.Proofs

theorem prt_form {w : World} {p : Prt} {r : List Int} (h : IntsAt w p.rk r) : p.rn = r.length := by
 obtain ⟨a, cap, h1, _⟩ := h.form
 simp only [Value.slice.injEq] at h1
 exact h1.2.1
set_option maxHeartbeats 4000000 in
set_option maxRecDepth 100000 in
theorem certFree_any (pv tv : Value) (c : Crt) (n : Int) (nb : Nat) (w : World) (h : CertAt w pv tv c) (hb : w.cell? ⟨nb, 0, none⟩ = some (I n)) :
 Calls Tryz.prog 116 #[.agg #[I c.vd, pv, U c.dest, tv], I n, outF nb] w fun e w' => e = .returned (I (freeV n c)) /\ Ext w w' := by
 have HC := Lib.hid h
 have HB := Lib.hid hb
 obtain ⟨pa, pc, hpe, p1, p2, p3⟩ := h.parts.form
 obtain ⟨ta, tc, hte, t1, t2, t3⟩ := h.tr.form
 subst hpe hte
 have P3 := Lib.hid p3
 clear p3 t3 h hb
 unfold maxLen at p2 t2
 go_enter Tryz.func116, Tryz.ntmps116
 go_upto_region 1 with (fail)
 refine hideW (Φ := fun W => Code.wp _ _ _ _ W) (fun W => Ext w W /\ Blk W w.heap.size [I c.vd, .slice pa c.ps.length pc, U c.dest, .slice ta c.tr.length tc] 55)
  ⟨by (repeat with_reducible first | exact Ext.refl _ | assumption | refine Ext.alloc ?_ _ | refine Ext.drew ?_ | refine Ext.drewN ?_ _ | (refine Ext.setCellP ?_ ?_; focus (first | (simp; done) | (simp; omega) | omega))), Blk.new w [I c.vd, .slice pa c.ps.length pc, U c.dest, .slice ta c.tr.length tc] 55⟩ (fun W1 hW1 => ?_)
 obtain ⟨hx1, hk1⟩ := hW1
 have HX1 := Lib.hid hx1
 have HK1 := Lib.hid hk1
 clear hx1 hk1
 generalize w.heap.size = xb at *
 have hkc := HK1.out.cells
 by_cases hd : c.dest = 0#32 /\ c.tr.length = 0
 · have hd1 : (c.dest != 0#32) = false := by simp [hd.1]
   have hd2 : decide ((0 : Int) < (c.tr.length : Int)) = false := decide_eq_false (by omega)
   have hd2n : decide (0 < c.tr.length) = false := decide_eq_false (by omega)
   have HF1 := Lib.hid (show freeV n c = if 8193 < c.ps.length then 12 else if meetV c.ps ≠ 0 then 15 else rksV n c.rks by unfold freeV; rw [if_neg (by rintro (g | g); exact g hd.1; omega)])
   clear hd
   by_cases hm : 8193 < c.ps.length
   · have hm1 : decide ((8193 : Int) < (c.ps.length : Int)) = true := decide_eq_true (by omega)
     have HF2 := Lib.hid (HF1.out.trans (if_pos hm))
     go_wp2_with fail
     go_ret
     exact ⟨by rw [HF2.out]; rfl, HX1.out⟩
   · have hm1 : decide ((8193 : Int) < (c.ps.length : Int)) = false := decide_eq_false (by omega)
     have hm1n : decide (8193 < c.ps.length) = false := decide_eq_false hm
     have HF2 := Lib.hid (HF1.out.trans (if_neg hm))
     rcases meetV_two c.ps with hq | hq
     · have HQ := Lib.hid hq
       have HF3 := Lib.hid (show freeV n c = rksV n c.rks by rw [HF2.out, if_neg (by rw [hq]; simp)])
       clear hq
       go_upto_region 9 with (first
        | (go_at_call 160; (with_reducible refine (certMeet_any _ c.ps _ (HC.out.parts.later HX1.out)).mono ?_); rintro e w2 ⟨he, hx2⟩; rw [HQ.out] at he; subst he; have HX2 := Lib.hid (HX1.out.trans hx2); have hkc2 := (HK1.out.later hx2).cells; clear hx2))
       have HRL := Lib.hid HC.out.len
       go_wp2_with fail
       go_loopw [32] (fun i wr => ∃ k : Nat, k <= c.ps.length /\ i = I k /\ Hid (rksV n c.rks = rksV n (c.rks.drop k)) /\ Hid (Ext w wr)) (fun i _ => c.ps.length - (intOf i).toNat)
       case atStart => exact ⟨0, by omega, rfl, rfl, HX2.out⟩
       case round =>
        obtain ⟨k, hk, rfl, HG, HX⟩ := hrel
        by_cases hlt : k < c.ps.length
        · have hkr : k < c.rks.length := by rw [HRL.out]; exact hlt
          obtain ⟨b0, o0, he0, q0, q1, q2⟩ := P3.out k _ (List.getElem?_eq_getElem hlt)
          subst he0
          replace q0 := HX.out.cell q0
          replace q1 := HX.out.cell q1
          replace q2 := HX.out.cell q2
          have hik := HC.out.rk k _ _ (List.getElem?_eq_getElem hlt) (List.getElem?_eq_getElem hkr)
          have HRN := Lib.hid (prt_form hik)
          have HIK := Lib.hid (hik.later HX.out)
          have HST := Lib.hid (rksV_step n hkr)
          clear hik
          generalize c.ps[k] = p at *
          generalize c.rks[k] = r at *
          by_cases hl : (p.rn : Int) = n
          · have hl1 : ((p.rn : Int) != n) = false := by simp [hl]
            have HNB := Lib.hid (HX.out.cell HB.out)
            cases ho : r.any (outB n) with
            | true =>
              have HO := Lib.hid ho
              have HR := Lib.hid (show freeV n c = 16 by rw [HF3.out, HG.out, HST.out, if_neg (by rw [<- HRN.out]; simp [hl]), if_pos ho])
              clear ho hl
              have HA := Lib.hid (show Ext wr (wr.alloc (.cells #[U p.fr, U p.up, p.rk] 59)) from (Ext.refl wr).alloc _)
              go_wp2_with (first
               | (go_at_call 161; (with_reducible refine (containsFunc_any _ r n nb _ (HIK.out.later HA.out) (HA.out.cell HNB.out)).mono ?_); rintro e w' ⟨he, hw⟩; rw [HO.out] at he; subst he; obtain rfl := hw.symm))
              go_ret
              exact ⟨by rw [HR.out]; rfl, HX.out.trans HA.out⟩
            | false =>
              have HO := Lib.hid ho
              have HR := Lib.hid (show rksV n c.rks = rksV n (c.rks.drop (k + 1)) by rw [HG.out, HST.out, if_neg (by rw [<- HRN.out]; simp [hl]), ho]; rfl)
              clear ho hl
              have HA := Lib.hid (show Ext wr (wr.alloc (.cells #[U p.fr, U p.up, p.rk] 59)) from (Ext.refl wr).alloc _)
              go_wp2_with (first
               | (go_at_call 161; (with_reducible refine (containsFunc_any _ r n nb _ (HIK.out.later HA.out) (HA.out.cell HNB.out)).mono ?_); rintro e w' ⟨he, hw⟩; rw [HO.out] at he; subst he; obtain rfl := hw.symm))
              go_roundw
              case rel => exact ⟨k + 1, by omega, by go_num, HR.out, HX.out.trans HA.out⟩
              case measure => simp [intOf]; omega
          · have hl1 : ((p.rn : Int) != n) = true := by simp [hl]
            have HR := Lib.hid (show freeV n c = 1 by rw [HF3.out, HG.out, HST.out, if_pos (by rw [<- HRN.out]; exact hl)])
            clear hl
            have HA := Lib.hid (show Ext wr (wr.alloc (.cells #[U p.fr, U p.up, p.rk] 59)) from (Ext.refl wr).alloc _)
            go_wp2_with fail
            go_ret
            exact ⟨by rw [HR.out]; rfl, HX.out.trans HA.out⟩
        · have HE := Lib.hid (show freeV n c = 0 by rw [HF3.out, HG.out, rksV_end n (by have := HRL.out; omega)])
          go_wp2_with fail
          go_ret
          exact ⟨by rw [HE.out]; rfl, HX.out⟩
     · have HQ := Lib.hid hq
       have HF3 := Lib.hid (show freeV n c = 15 by rw [HF2.out, if_pos (by rw [hq]; simp)])
       clear hq
       go_wp2_with (first
        | (go_at_call 160; (with_reducible refine (certMeet_any _ c.ps _ (HC.out.parts.later HX1.out)).mono ?_); rintro e w2 ⟨he, hx2⟩; rw [HQ.out] at he; subst he; have HX2 := Lib.hid (HX1.out.trans hx2); clear hx2))
       go_ret
       exact ⟨by rw [HF3.out]; rfl, HX2.out⟩
 · have HF1 := Lib.hid (show freeV n c = 3 by unfold freeV; rw [if_pos (by by_cases g : c.dest = 0#32; exact .inr (by rcases Nat.eq_zero_or_pos c.tr.length with g2 | g2; exact absurd ⟨g, g2⟩ hd; exact g2); exact .inl g)])
   by_cases g : c.dest = 0#32
   · have hd1 : (c.dest != 0#32) = false := by simp [g]
     have hd2 : decide ((0 : Int) < (c.tr.length : Int)) = true := decide_eq_true (by
      rcases Nat.eq_zero_or_pos c.tr.length with g2 | g2
      · exact absurd ⟨g, g2⟩ hd
      · omega)
     have hd2n : decide (0 < c.tr.length) = true := decide_eq_true (by
      rcases Nat.eq_zero_or_pos c.tr.length with g2 | g2
      · exact absurd ⟨g, g2⟩ hd
      · exact g2)
     clear hd g
     go_wp2_with fail
     go_ret
     exact ⟨by rw [HF1.out]; rfl, HX1.out⟩
   · have hd1 : (c.dest != 0#32) = true := by simp [g]
     clear hd g
     go_wp2_with fail
     go_ret
     exact ⟨by rw [HF1.out]; rfl, HX1.out⟩
set_option maxHeartbeats 4000000 in
set_option maxRecDepth 100000 in
theorem certLoops_any (pv tv : Value) (c : Crt) (n : Int) (nb : Nat) (w : World) (h : CertAt w pv tv c) (hok : ∀ x ∈ c.tr, In64 x) (hb : w.cell? ⟨nb, 0, none⟩ = some (I n)) :
 Calls Tryz.prog 117 #[.agg #[I c.vd, pv, U c.dest, tv], I n, outF nb] w fun e w' => e = .returned (I (loopsV n c)) /\ Ext w w' := by
 have HC := Lib.hid h
 have HB := Lib.hid hb
 have HOK := Lib.hid hok
 obtain ⟨pa, pc, hpe, p1, p2, p3⟩ := h.parts.form
 obtain ⟨ta, tc, hte, t1, t2, t3⟩ := h.tr.form
 subst hpe hte
 have T3 := Lib.hid t3
 clear p3 t3 h hb hok
 unfold maxLen at p2 t2
 have hmm := @run_makeMap Tryz.prog
 go_enter Tryz.func117, Tryz.ntmps117
 go_upto_region 1 with (fail)
 refine hideW (Φ := fun W => Code.wp _ _ _ _ W) (fun W => Ext w W /\ Blk W w.heap.size [I c.vd, .slice pa c.ps.length pc, U c.dest, .slice ta c.tr.length tc] 55)
  ⟨by (repeat with_reducible first | exact Ext.refl _ | assumption | refine Ext.alloc ?_ _ | refine Ext.drew ?_ | refine Ext.drewN ?_ _ | (refine Ext.setCellP ?_ ?_; focus (first | (simp; done) | (simp; omega) | omega))), Blk.new w [I c.vd, .slice pa c.ps.length pc, U c.dest, .slice ta c.tr.length tc] 55⟩ (fun W1 hW1 => ?_)
 obtain ⟨hx1, hk1⟩ := hW1
 have HX1 := Lib.hid hx1
 have HK1 := Lib.hid hk1
 clear hx1 hk1
 have HXL := Lib.hid HK1.out.lt
 generalize hxb : w.heap.size = xb at *
 have HXB := Lib.hid hxb
 clear hxb
 have hkc := HK1.out.cells
 by_cases hp : 0 < c.ps.length
 · have h1 : decide ((0 : Int) < (c.ps.length : Int)) = true := decide_eq_true (by omega)
   have h1n : decide (0 < c.ps.length) = true := decide_eq_true hp
   have HF := Lib.hid (show loopsV n c = 3 by unfold loopsV; rw [if_pos hp])
   clear hp
   go_wp2_with fail
   go_ret
   exact ⟨by rw [HF.out]; rfl, HX1.out⟩
 have h1 : decide ((0 : Int) < (c.ps.length : Int)) = false := decide_eq_false (by omega)
 have h1n : decide (0 < c.ps.length) = false := decide_eq_false hp
 have HF1 := Lib.hid (show loopsV n c = if c.tr.length = 0 \/ n < (c.tr.length : Int) then 12 else if c.tr.any (outB n) then 10 else if trG (c.tr.headD 0) [] c.tr then 17 else 0 by unfold loopsV; rw [if_neg hp])
 clear hp
 by_cases h0 : c.tr.length = 0
 · have h2 : ((c.tr.length : Int) == 0) = true := by simp [h0]
   have HF := Lib.hid (HF1.out.trans (if_pos (.inl h0)))
   clear h0
   go_wp2_with fail
   go_ret
   exact ⟨by rw [HF.out]; rfl, HX1.out⟩
 have h2 : ((c.tr.length : Int) == 0) = false := beq_false_of_ne (by omega)
 by_cases hn : n < (c.tr.length : Int)
 · have h3 : decide (n < (c.tr.length : Int)) = true := decide_eq_true hn
   have HF := Lib.hid (HF1.out.trans (if_pos (.inr hn)))
   clear h0 hn
   go_wp2_with fail
   go_ret
   exact ⟨by rw [HF.out]; rfl, HX1.out⟩
 have h3 : decide (n < (c.tr.length : Int)) = false := decide_eq_false hn
 have HF2 := Lib.hid (HF1.out.trans (if_neg (by rintro (g | g); exact h0 g; exact hn g)))
 have HNB := Lib.hid (HX1.out.cell HB.out)
 have HT1 := Lib.hid (HC.out.tr.later HX1.out)
 cases ho : c.tr.any (outB n) with
 | true =>
   have HO := Lib.hid ho
   have HF := Lib.hid (HF2.out.trans (if_pos ho))
   clear ho h0 hn
   go_wp2_with (first
    | (go_at_call 161; (with_reducible refine (containsFunc_any _ c.tr n nb _ HT1.out HNB.out).mono ?_); rintro e w' ⟨he, hw⟩; rw [HO.out] at he; subst he; obtain rfl := hw.symm))
   go_ret
   exact ⟨by rw [HF.out]; rfl, HX1.out⟩
 | false =>
   have HO := Lib.hid ho
   have HF := Lib.hid (HF2.out.trans (if_neg (by rw [ho]; simp)))
   have hlp : 0 < c.tr.length := by omega
   obtain ⟨f, hf⟩ : ∃ f, c.tr[0]? = some f := ⟨c.tr[0], List.getElem?_eq_getElem hlp⟩
   have HHD := Lib.hid (show c.tr.headD 0 = f by cases ht : c.tr with | nil => rw [ht] at hlp; simp at hlp | cons y t => rw [ht] at hf; simpa using hf)
   rw [HHD.out] at HF
   clear ho h0 hn HF1 HF2
   obtain ⟨bf, of, hef, qf⟩ := T3.out 0 f hf
   subst hef
   have HQF := Lib.hid qf
   clear qf hf
   go_upto_region 8 with (first
    | (go_at_call 161; (with_reducible refine (containsFunc_any _ c.tr n nb _ HT1.out HNB.out).mono ?_); rintro e w' ⟨he, hw⟩; rw [HO.out] at he; subst he; obtain rfl := hw.symm))
   refine hideW (Φ := fun W => Code.wp _ _ _ _ W) (fun W => Ext w W /\ Ext W1 W /\ SetI W W1.heap.size [])
    ⟨HX1.out.alloc _, by (repeat with_reducible first | exact Ext.refl _ | assumption | refine Ext.alloc ?_ _ | refine Ext.drew ?_ | refine Ext.drewN ?_ _ | (refine Ext.setCellP ?_ ?_; focus (first | (simp; done) | (simp; omega) | omega))), SetI.start W1⟩ (fun W2 hW2 => ?_)
   obtain ⟨hx2, hy2, hs2⟩ := hW2
   have HX2 := Lib.hid hx2
   have HK2 := Lib.hid (HK1.out.later hy2)
   have HS2 := Lib.hid hs2
   have HMB := Lib.hid (show w.heap.size <= W1.heap.size from HX1.out.size)
   have HXM := Lib.hid (show xb < W1.heap.size from HXL.out)
   clear hx2 hs2 hy2 hmm hkc
   generalize W1.heap.size = mb at *
   have hkc2 := HK2.out.cells
   go_wp2_with fail
   clear hkc2
   go_loopw [33] (fun i wr => ∃ k : Nat, k <= c.tr.length /\ i = I k /\ Hid (SetI wr mb (c.tr.take k)) /\ Hid (trG f [] c.tr = trG f (c.tr.take k) (c.tr.drop k)) /\ Hid (Ext w wr) /\ Hid (Blk wr xb [I c.vd, .slice pa c.ps.length pc, U c.dest, .slice (some ⟨bf, of, none⟩) c.tr.length tc] 55)) (fun i _ => c.tr.length - (intOf i).toNat)
   case atStart => exact ⟨0, by omega, rfl, HS2.out, rfl, HX2.out, HK2.out⟩
   case round =>
    obtain ⟨k, hk, rfl, HS, HG, HX, HK⟩ := hrel
    have hkr := HK.out.cells
    by_cases hlt : k < c.tr.length
    · obtain ⟨b0, o0, he0, q0⟩ := T3.out k _ (List.getElem?_eq_getElem hlt)
      simp only [Option.some.injEq, Addr.mk.injEq, and_true] at he0
      obtain ⟨rfl, rfl⟩ := he0
      replace q0 := HX.out.cell q0
      have qf := HX.out.cell HQF.out
      simp only [Nat.add_zero] at qf
      have HIN := Lib.hid (HOK.out _ (List.getElem_mem hlt))
      have HST := Lib.hid (trG_step f hlt)
      have hlk := HS.out.look HIN.out
      have HTK := Lib.hid (show c.tr.take (k + 1) = c.tr.take k ++ [c.tr[k]] from List.take_succ_eq_append_getElem hlt)
      have HTL := Lib.hid (show (c.tr.take k).length < maxLen by rw [List.length_take]; unfold maxLen; omega)
      generalize c.tr[k] = x at *
      by_cases hm : x ∈ c.tr.take k
      · have hmd : decide (x ∈ c.tr.take k) = true := decide_eq_true hm
        rw [hmd] at hlk
        have HR := Lib.hid (show loopsV n c = 17 by rw [HF.out, HG.out, HST.out, hmd]; rfl)
        clear hm hmd
        go_wp2_with fail
        go_ret
        exact ⟨by rw [HR.out]; rfl, HX.out⟩
      · have hmd : decide (x ∈ c.tr.take k) = false := decide_eq_false hm
        rw [hmd] at hlk
        by_cases hlf : x < f
        · have hfd : decide (x < f) = true := decide_eq_true hlf
          have HR := Lib.hid (show loopsV n c = 17 by rw [HF.out, HG.out, HST.out, hmd, hfd]; rfl)
          clear hm hmd hlf
          go_wp2_with fail
          go_ret
          exact ⟨by rw [HR.out]; rfl, HX.out⟩
        · have hfd : decide (x < f) = false := decide_eq_false hlf
          have HR := Lib.hid (show trG f [] c.tr = trG f (c.tr.take (k + 1)) (c.tr.drop (k + 1)) by rw [HG.out, HST.out, hmd, hfd]; rfl)
          obtain ⟨nn, D, hown, hnn, hh⟩ := HS.out
          have HOWN := Lib.hid hown
          have HNN := Lib.hid hnn
          have HH := Lib.hid hh
          have HLT := Lib.hid (Nat.lt_of_le_of_lt hnn HTL.out)
          have HKEY := Lib.hid (keyI HIN.out)
          clear hm hmd hlf hown hnn hh
          go_wp2_with (first
           | (at_mapUpdate; refine wpList_mapUpdate_own _ rfl _ _ _ 214 rfl 3 4 lawI Tryz.underlying214 _ mb nn D rfl HOWN.out HLT.out _ _ _ rfl rfl HKEY.out _ [] (plainElem_bool Tryz.underlying4 true) ?_; intro w7 hown7 hgrow7
              have HS7 := Lib.hid (SetI.put HOWN.out HNN.out HH.out hown7)
              have HX7 := Lib.hid (show Ext w w7 from Below.grown HX.out hgrow7 HX.out.size (fun g e => by cases e; exact HMB.out))
              have HK7 := Lib.hid (blk_grown HK.out (fun g e => by cases e; have := HXM.out; omega) hgrow7)
              clear hown7 hgrow7))
          go_roundw
          case rel => exact ⟨k + 1, by omega, by go_num, by show SetI _ _ _; rw [HTK.out]; exact HS7.out, HR.out, HX7.out, HK7.out⟩
          case measure => simp [intOf]; omega
    · have HE := Lib.hid (show loopsV n c = 0 by rw [HF.out, HG.out, trG_end f (by omega)]; rfl)
      go_wp2_with fail
      go_ret
      exact ⟨by rw [HE.out]; rfl, HX.out⟩
set_option maxHeartbeats 2000000 in
set_option maxRecDepth 100000 in
theorem certMay_any (pv tv : Value) (c : Crt) (n : Int) (w : World) (h : CertAt w pv tv c) (hok : ∀ x ∈ c.tr, In64 x) :
 Calls Tryz.prog 62 #[.agg #[I c.vd, pv, U c.dest, tv], I n] w fun e w' => e = .returned (I (certMayV n c)) /\ Ext w w' := by
 have HC := Lib.hid h
 have HOK := Lib.hid hok
 obtain ⟨pa, pc, hpe, p1, p2, p3⟩ := h.parts.form
 obtain ⟨ta, tc, hte, t1, t2, t3⟩ := h.tr.form
 subst hpe hte
 clear p3 t3 h hok
 unfold maxLen at p2 t2
 go_enter Tryz.func62, Tryz.ntmps62
 go_upto_region 1 with (fail)
 refine hideW (Φ := fun W => Code.wp _ _ _ _ W) (fun W => Ext w W /\ Blk W w.heap.size [I c.vd, .slice pa c.ps.length pc, U c.dest, .slice ta c.tr.length tc] 55 /\ Blk W (w.heap.size + 1) [I n] 3)
  ⟨by (repeat with_reducible first | exact Ext.refl _ | assumption | refine Ext.alloc ?_ _ | refine Ext.drew ?_ | refine Ext.drewN ?_ _ | (refine Ext.setCellP ?_ ?_; focus (first | (simp; done) | (simp; omega) | omega))), (Blk.new w [I c.vd, .slice pa c.ps.length pc, U c.dest, .slice ta c.tr.length tc] 55).old _, Blk.newAt [I n] (by simp)⟩ (fun W1 hW1 => ?_)
 obtain ⟨hx1, hk1, hb1⟩ := hW1
 have HX1 := Lib.hid hx1
 have HC1 := Lib.hid (HC.out.later hx1)
 have HB1 := Lib.hid (show W1.cell? ⟨w.heap.size + 1, 0, none⟩ = some (I n) from hb1.cells 0)
 have hkc := hk1.cells
 have hbc := hb1.cells
 clear hx1 hk1 hb1
 generalize w.heap.size + 1 = nb at *
 generalize w.heap.size = xb at *
 by_cases h1 : c.vd = 1
 · have h1b : (c.vd == 1) = true := by simp [h1]
   have HR := Lib.hid (show certMayV n c = freeV n c by unfold certMayV; rw [if_pos h1])
   clear h1
   go_wp2_with (first
    | (go_at_call 116; (with_reducible refine (certFree_any _ _ c n nb _ HC1.out HB1.out).mono ?_); rintro e w2 ⟨he, hx2⟩; subst he; have HX2 := Lib.hid (HX1.out.trans hx2); clear hx2))
   go_ret
   exact ⟨by rw [HR.out]; rfl, HX2.out⟩
 · have h1b : (c.vd == 1) = false := beq_false_of_ne h1
   by_cases h2 : c.vd = 2
   · have h2b : (c.vd == 2) = true := by simp [h2]
     have HR := Lib.hid (show certMayV n c = loopsV n c by unfold certMayV; rw [if_neg h1, if_pos h2])
     clear h1 h2
     go_wp2_with (first
      | (go_at_call 117; (with_reducible refine (certLoops_any _ _ c n nb _ HC1.out HOK.out HB1.out).mono ?_); rintro e w2 ⟨he, hx2⟩; subst he; have HX2 := Lib.hid (HX1.out.trans hx2); clear hx2))
     go_ret
     exact ⟨by rw [HR.out]; rfl, HX2.out⟩
   · have h2b : (c.vd == 2) = false := beq_false_of_ne h2
     have HR := Lib.hid (show certMayV n c = 9 by unfold certMayV; rw [if_neg h1, if_neg h2])
     clear h1 h2
     go_wp2_with fail
     go_ret
     exact ⟨by rw [HR.out]; rfl, HX1.out⟩
end Go.Proofs.YtdpmnldmbnpfpaaGreatDoor

/- theseusref17.May: whether a certificate may be. Conditions: none. -/
namespace Go.Proofs.YtdpmnldmbnpfpaaGreatDoor
open Go Go.RowKit Go.Maps Go.Proofs

end Go.Proofs.YtdpmnldmbnpfpaaGreatDoor
