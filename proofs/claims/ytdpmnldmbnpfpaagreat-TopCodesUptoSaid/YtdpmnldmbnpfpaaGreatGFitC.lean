/- FitTr, FitPs, FitLoops, FitC: these texts in one. Conditions: each part names its own. -/
import Derived.Test.YtdpmnldmbnpfpaaGreatGCert
import Derived.Test.YtdpmnldmbnpfpaaGreatGFit17
import Derived.Test.YtdpmnldmbnpfpaaGreatGChk
/- The trace that theseusref17.Fit makes, in plain words, and that it may be. Conditions: none. -/
namespace Go.Proofs.YtdpmnldmbnpfpaaGreat
open Go.RowKit

def addT (v : Int) (o : List Int) : List Int := if v ∈ o then o else if o = [] \/ o.headD 0 < v then o ++ [v] else o
/-- The numbers that are tried, one after the other. -/
def tryT (n : Nat) (tr : List Int) : List Int := if tr = [] then [0] else tr.map (fitRk n)
def fitTr (n : Nat) (tr : List Int) : List Int := (tryT n tr).foldl (fun o v => addT v o) []
structure GoodT (n : Nat) (o : List Int) : Prop where
 nodup : o.Nodup
 low : ∀ x ∈ o, o.headD 0 <= x
 mem : ∀ x ∈ o, 0 <= x /\ x < n
theorem GoodT.nil (n : Nat) : GoodT n [] := ⟨List.nodup_nil, (fun x h => by cases h), (fun x h => by cases h)⟩
theorem GoodT.add {n : Nat} {o : List Int} (h : GoodT n o) {v : Int} (hv : 0 <= v /\ v < n) : GoodT n (addT v o) := by
 unfold addT
 split
 · exact h
 · rename_i hn
   split
   · rename_i hf
     refine ⟨?_, ?_, ?_⟩
     · rw [List.nodup_append]
       refine ⟨h.nodup, by simp, fun a ha b hb => ?_⟩
       simp only [List.mem_singleton] at hb
       subst hb
       intro e; subst e; exact hn ha
     · intro x hx
       cases o with
       | nil => simp at hx; subst hx; simp
       | cons y t =>
         rcases List.mem_append.1 hx with hx | hx
         · exact h.low x hx
         · simp only [List.mem_singleton] at hx
           subst hx
           rcases hf with hf | hf
           · cases hf
           · simp at hf ⊢; omega
     · intro x hx
       rcases List.mem_append.1 hx with hx | hx
       · exact h.mem x hx
       · simp only [List.mem_singleton] at hx
         subst hx; exact hv
   · exact h
theorem addT_ne {v : Int} {o : List Int} : addT v o ≠ [] := by
 unfold addT
 split
 · rename_i h; intro e; subst e; cases h
 · split
   · simp
   · rename_i h; intro e; exact h (.inl e)
theorem GoodT.fold {n : Nat} (l : List Int) (hl : ∀ x ∈ l, 0 <= x /\ x < n) : ∀ o, GoodT n o -> GoodT n (l.foldl (fun o v => addT v o) o) := by
 induction l with
 | nil => intro o h; exact h
 | cons v t ih => intro o h; exact ih (fun x hx => hl x (List.mem_cons_of_mem _ hx)) _ (h.add (hl v (List.mem_cons_self ..)))
theorem fold_ne (l : List Int) : ∀ o, (o ≠ [] \/ l ≠ []) -> l.foldl (fun o v => addT v o) o ≠ [] := by
 induction l with
 | nil => intro o h; rcases h with h | h; exact h; exact absurd rfl h
 | cons v t ih => intro o _; exact ih _ (.inl addT_ne)
theorem tryT_bd {n : Nat} (hn : 1 <= n) (tr : List Int) : ∀ x ∈ tryT n tr, 0 <= x /\ x < n := by
 intro x hx
 unfold tryT at hx
 split at hx
 · simp at hx; subst hx; omega
 · obtain ⟨y, _, rfl⟩ := List.mem_map.1 hx
   exact fitRk_bd hn y
theorem fitTr_good {n : Nat} (hn : 1 <= n) (tr : List Int) : GoodT n (fitTr n tr) := GoodT.fold _ (tryT_bd hn tr) _ (GoodT.nil n)
theorem fitTr_ne (n : Nat) (tr : List Int) : fitTr n tr ≠ [] := by
 refine fold_ne _ _ (.inr ?_)
 unfold tryT
 split
 · simp
 · rename_i h; simpa using h
theorem nodup_few : ∀ (n : Nat) (l : List Int), l.Nodup -> (∀ x ∈ l, 0 <= x /\ x < (n : Int)) -> l.length <= n
 | 0, l, _, h => by
   cases l with
   | nil => simp
   | cons x t => have := h x (List.mem_cons_self ..); omega
 | n + 1, l, hd, h => by
   have h1 := nodup_few n (l.erase (n : Int)) (hd.erase _) (fun x hx => by
    have hx2 := (hd.mem_erase_iff).1 hx
    have := h x hx2.2
    have := hx2.1
    omega)
   rw [List.length_erase] at h1
   split at h1 <;> omega
theorem trG_no {f : Int} : ∀ (t s : List Int), (s ++ t).Nodup -> (∀ x ∈ t, f <= x) -> trG f s t = false
 | [], _, _, _ => rfl
 | x :: t, s, hd, hl => by
   have h1 : x ∉ s := fun hx => by
    rw [List.nodup_append] at hd
    exact hd.2.2 x hx x (List.mem_cons_self ..) rfl
   have h2 := hl x (List.mem_cons_self ..)
   show (decide (x ∈ s) || (decide (x < f) || trG f (s ++ [x]) t)) = false
   rw [trG_no t (s ++ [x]) (by simpa using hd) (fun y hy => hl y (List.mem_cons_of_mem _ hy)), decide_eq_false h1, decide_eq_false (show ¬ x < f by omega)]
   rfl
theorem fitTr_may {n : Nat} (hn : 1 <= n) (tr : List Int) (d : BitVec 32) : certMayV n ⟨2, [], [], d, fitTr n tr⟩ = 0 := by
 have hg := fitTr_good hn tr
 have h1 := nodup_few n _ hg.nodup hg.mem
 have h2 := List.length_pos_iff.2 (fitTr_ne n tr)
 have h3 : (fitTr n tr).any (outB n) = false := by
  rw [List.any_eq_false]
  intro x hx
  have := hg.mem x hx
  unfold outB
  simp; omega
 have h4 := trG_no (fitTr n tr) [] (by simpa using hg.nodup) hg.low
 unfold certMayV loopsV
 rw [if_neg (show ¬ (2 : Int) = 1 by decide), if_pos rfl, if_neg (by simp), if_neg (show ¬ ((fitTr n tr).length = 0 \/ (n : Int) < ((fitTr n tr).length : Int)) by omega), if_neg (show ¬ (fitTr n tr).any (outB n) = true by rw [h3]; simp)]
 exact if_neg (by rw [h4]; simp)
end Go.Proofs.YtdpmnldmbnpfpaaGreat

/- The parts that theseusref17.Fit makes are a certificate that may be. Conditions: none. -/
namespace Go.Proofs.YtdpmnldmbnpfpaaGreat
open Go.RowKit

theorem meet_cuts {L : List (BitVec 32)} (hr : Rising L) (h0 : L[0]? = some 0#32) {ps : List Prt} (hl : ps.length = L.length) (hm : ∀ (i : Nat) (h : i < L.length) (p : Prt), ps[i]? = some p -> p.fr = L[i] /\ p.up = endV L i) : meetV ps = 0 := by
 have key : ∀ (d k : Nat), k + d = L.length -> meetG (if h : k < L.length then uv L[k] else 4294967296) (ps.drop k) = true := by
  intro d
  induction d with
  | zero =>
    intro k hk
    rw [dif_neg (by omega), meetG_end _ (by omega)]
    rfl
  | succ d ih =>
    intro k hk
    have h1 : k < L.length := by omega
    have h2 : k < ps.length := by omega
    obtain ⟨e1, e2⟩ := hm k h1 ps[k] (List.getElem?_eq_getElem h2)
    have e3 := ih (k + 1) (by omega)
    rw [dif_pos h1, meetG_step _ h2, e1, e2]
    have e4 := end_ge hr h1
    have e5 : uv (endV L k) + 1 = (if h : k + 1 < L.length then uv L[k + 1] else 4294967296) := by
     split
     · rename_i h; rw [end_pos hr h]; omega
     · rename_i h; rw [end_top h]; decide
    rw [e5, e3, decide_eq_true e4]
    simp
 have h1 : 0 < L.length := (List.getElem?_eq_some_iff.1 h0).1
 have h2 : L[0] = 0#32 := by rw [List.getElem?_eq_getElem h1] at h0; exact Option.some.inj h0
 have h := key L.length 0 (by omega)
 rw [dif_pos h1, h2] at h
 exact meetV_yes h
theorem rksV_zero (n : Int) : ∀ rks : List (List Int), (∀ r ∈ rks, (r.length : Int) = n /\ ∀ x ∈ r, 0 <= x /\ x < n) -> rksV n rks = 0
 | [], _ => rfl
 | r :: t, h => by
   obtain ⟨h1, h2⟩ := h r (List.mem_cons_self ..)
   have h3 : r.any (outB n) = false := by
    rw [List.any_eq_false]
    intro x hx
    have := h2 x hx
    unfold outB
    simp; omega
   show (if (r.length : Int) ≠ n then 1 else if r.any (outB n) then 16 else rksV n t) = 0
   rw [if_neg (by simpa using h1), if_neg (by rw [h3]; simp)]
   exact rksV_zero n t fun r' hr => h r' (List.mem_cons_of_mem _ hr)
theorem fitC_zero (l : List (BitVec 32)) : (fitC l)[0]? = some 0#32 := by
 obtain ⟨h1, h2, h3⟩ := fitC_ok l
 obtain ⟨k, hk, he⟩ := List.getElem_of_mem h2
 rcases Nat.eq_zero_or_pos k with rfl | hp
 · rw [List.getElem?_eq_getElem hk, he]
 · have := h1.lt hp hk
   rw [he] at this
   have h4 : uv (0#32) = 0 := rfl
   have h5 := uv_nonneg (fitC l)[0]
   omega
/-- A certificate all of the call's own. -/
structure CertOwn (w : World) (B : Nat) (pv tv : Value) (c : Crt) : Prop where
 parts : OwnP w B pv c.ps
 len : c.rks.length = c.ps.length
 rk : ∀ (i : Nat) (p : Prt) (r : List Int), c.ps[i]? = some p -> c.rks[i]? = some r -> OwnI w B p.rk r
 tr : OwnI w B tv c.tr
theorem CertOwn.at {w : World} {B : Nat} {pv tv : Value} {c : Crt} (h : CertOwn w B pv tv c) : CertAt w pv tv c :=
 ⟨h.parts.parts, h.len, fun i p r h1 h2 => Reads.of_own (h.rk i p r h1 h2), Reads.of_own h.tr⟩
theorem CertOwn.later {w w' : World} {B : Nat} {pv tv : Value} {c : Crt} (h : CertOwn w B pv tv c) (hx : Ext w w') : CertOwn w' B pv tv c :=
 ⟨h.parts.later hx, h.len, fun i p r h1 h2 => (h.rk i p r h1 h2).later hx, h.tr.later hx⟩
theorem CertOwn.setCell {w : World} {B : Nat} {pv tv : Value} {c : Crt} (h : CertOwn w B pv tv c) {p : Addr} (hp : p.block < B) (x : Value) : CertOwn (w.setCell p x) B pv tv c :=
 ⟨own_set h.parts hp x, h.len, fun i p r h1 h2 => own_set (h.rk i p r h1 h2) hp x, own_set h.tr hp x⟩
theorem fitPs_may {w : World} {B : Nat} {v : Value} {l : List (BitVec 32)} {n : Nat} {ranks : List Int} (hn : 1 <= n) (h : OwnPR w B v (partsF (fitC l) n ranks)) :
 ∃ ps : List Prt, CertOwn w B v (.slice none 0 0) ⟨1, ps, (partsF (fitC l) n ranks).map PrtV.rk, 0#32, []⟩ /\ certMayV n ⟨1, ps, (partsF (fitC l) n ranks).map PrtV.rk, 0#32, []⟩ = 0 := by
 obtain ⟨ps, h1, h2, h3, h4⟩ := h.parts
 obtain ⟨g1, g2, g3⟩ := fitC_ok l
 have hl : ps.length = (fitC l).length := by rw [h2, partsF_len]
 have hat : ∀ (i : Nat) (hi : i < (fitC l).length), (partsF (fitC l) n ranks)[i]? = some ⟨(fitC l)[i], endV (fitC l) i, rowRk n ranks i⟩ := fun i hi => by
  unfold partsF
  simp [List.getD_eq_getElem?_getD, hi]
 refine ⟨ps, ⟨h1, by simp [hl, partsF_len], fun i p r hi hr => ?_, ⟨by simp [icells], .inl ⟨rfl, rfl⟩⟩⟩, ?_⟩
 · rw [List.getElem?_map, Option.map_eq_some_iff] at hr
   obtain ⟨q, hq, rfl⟩ := hr
   obtain ⟨p', e1, e2⟩ := h4 i q hq
   rw [hi] at e1
   cases e1
   exact e2
 · have hmt : meetV ps = 0 := meet_cuts g1 (fitC_zero l) hl fun i hi p hp => by
    have e := congrArg (fun l => l[i]?) h3
    simp only [List.getElem?_map, hp, hat i hi, Option.map_some, Option.some.injEq, Prod.mk.injEq] at e
    exact e
   have hrk : rksV n ((partsF (fitC l) n ranks).map PrtV.rk) = 0 := rksV_zero _ _ fun r hr => by
    obtain ⟨q, hq, rfl⟩ := List.mem_map.1 hr
    unfold partsF at hq
    obtain ⟨i, _, rfl⟩ := List.mem_map.1 hq
    refine ⟨by simp [rowRk], fun x hx => ?_⟩
    unfold rowRk at hx
    obtain ⟨k, _, rfl⟩ := List.mem_map.1 hx
    exact fitRk_bd hn _
   unfold certMayV freeV
   rw [if_pos rfl, if_neg (by simp), if_neg (show ¬ 8193 < ps.length by omega), if_neg (show ¬ meetV ps ≠ 0 by rw [hmt]; simp)]
   exact hrk
end Go.Proofs.YtdpmnldmbnpfpaaGreat

/- theseusref17.Fit of a verdict whose last bit is 0: a trace that may be. Conditions: whole numbers are within 64 bits. -/
namespace Go.Proofs.YtdpmnldmbnpfpaaGreat
open Go.RowKit

theorem infoBoolF : (Tryz.prog.info? 4).map (fun i => (i.zero, i.size, i.bytes)) = some (some (.bool false), 1, 1) := by kernel_rfl
/-- Which nodes a trace has. -/
def usedV (n : Nat) (o : List Int) : List Value := (List.range n).map fun (v : Nat) => Value.bool (decide ((v : Int) ∈ o))
theorem usedV_nil (n : Nat) : usedV n [] = List.replicate n (.bool false) := by
 unfold usedV
 rw [List.eq_replicate_iff]
 refine ⟨by simp, fun b hb => ?_⟩
 obtain ⟨i, _, rfl⟩ := List.mem_map.1 hb
 simp
theorem usedV_get {n : Nat} (o : List Int) {z : Nat} (h : z < n) : (usedV n o)[z]? = some (.bool (decide ((z : Int) ∈ o))) := by
 unfold usedV
 simp [h]
theorem usedV_set {n : Nat} (o : List Int) {z : Nat} (h : z < n) : (usedV n o).set z (.bool true) = usedV n (o ++ [(z : Int)]) := by
 refine List.ext_getElem? fun i => ?_
 rw [List.getElem?_set]
 by_cases hi : z = i
 · subst hi
   rw [if_pos rfl, if_pos (by unfold usedV; simpa using h), usedV_get _ h]
   simp
 · rw [if_neg hi]
   rcases Nat.lt_or_ge i n with h2 | h2
   · rw [usedV_get _ h2, usedV_get _ h2]
     congr 2
     simp only [List.mem_append, List.mem_singleton]
     have : ¬ (i : Int) = (z : Int) := by omega
     simp [this]
   · unfold usedV
     rw [List.getElem?_eq_none (by simpa using h2), List.getElem?_eq_none (by simpa using h2)]
theorem tryT_len (n : Nat) (tr : List Int) : (tryT n tr).length = max tr.length 1 := by
 unfold tryT
 split
 · rename_i h; subst h; rfl
 · rename_i h
   have := List.length_pos_iff.2 h
   simp; omega
def foldT (l : List Int) : List Int := l.foldl (fun o v => addT v o) []
theorem foldT_next {l : List Int} {k : Nat} (h : k < l.length) : foldT (l.take (k + 1)) = addT l[k] (foldT (l.take k)) := by
 unfold foldT
 rw [List.take_succ_eq_append_getElem h, List.foldl_append]; rfl
set_option maxHeartbeats 4000000 in
set_option maxRecDepth 100000 in
theorem r17FitLoops_any (pv : Value) (tv : Value) (vd : Int) (dest : BitVec 32) (n : Nat) (tr : List Int) (w : World) (ht : IntsAt w tv tr) (hv : (bits .and .i64 vd 1 == 0) = true)
 (htr : ∀ x ∈ tr, In64 x) (hn : 1 <= n /\ n <= 1000000) :
 Calls Tryz.prog 17 #[.agg #[I vd, pv, U dest, tv], I n] w fun e w' => ∃ v, e = .returned (.agg #[I 2, .slice none 0 0, U dest, v]) /\
  OwnI w' w.heap.size v (fitTr n tr) /\ Ext w w' := by
 have HT := Lib.hid ht
 have HTR := Lib.hid htr
 obtain ⟨ta, tc, rfl, t1, t2, t3⟩ := ht.form
 have T3 := Lib.hid t3
 clear ht htr t3
 unfold maxLen at t2
 have hmk := fun w => run_make_row' (P := Tryz.prog) 112 4 (.bool false) 1 Tryz.underlying112 infoBoolF rfl .i64 .i64 n (by omega) (by omega) w
 go_enter Tryz.func17, Tryz.ntmps17
 go_upto_region 1 with (fail)
 refine hideW (Φ := fun W => Code.wp _ _ _ _ W) (fun W => Ext w W /\ Blk W w.heap.size [I vd, pv, U dest, .slice ta tr.length tc] 37 /\ Blk W (w.heap.size + 1) [I 0, .slice none 0 0, U 0#32, .slice none 0 0] 37)
  ⟨by (repeat with_reducible first | exact Ext.refl _ | assumption | refine Ext.alloc ?_ _ | refine Ext.drew ?_ | refine Ext.drewN ?_ _ | (refine Ext.setCellP ?_ ?_; focus (first | (simp; done) | (simp; omega) | omega))), (Blk.new w [I vd, pv, U dest, .slice ta tr.length tc] 37).old _, Blk.newAt [I 0, .slice none 0 0, U 0#32, .slice none 0 0] (by simp)⟩ (fun W1 hW1 => ?_)
 obtain ⟨hx1, hb1, hr1⟩ := hW1
 have HX1 := Lib.hid hx1
 have HB1 := Lib.hid hb1
 have HR1 := Lib.hid hr1
 have hbc1 := hb1.cells
 have HSC := Lib.hid (show ∀ (A : World) (o : Nat) (u : Value), Ext w A -> Ext w (A.setCell ⟨w.heap.size + 1, o, none⟩ u) from fun A o u h => h.setCell (by show w.heap.size <= w.heap.size + 1; omega) u)
 have HRL := Lib.hid (show w.heap.size + 1 < W1.heap.size from hr1.lt)
 clear hx1 hb1 hr1
 generalize w.heap.size + 1 = rb at *
 go_upto_region 4 with (fail)
 refine hideW (Φ := fun W => Code.wp _ _ _ _ W) (fun W => Ext W1 W /\ Blk W W1.heap.size [I 2, .slice none 0 0, U dest, .slice none 0 0] 37 /\ Blk W (W1.heap.size + 1) (usedV n []) 4)
  ⟨by (repeat with_reducible first | exact Ext.refl _ | assumption | refine Ext.alloc ?_ _ | refine Ext.drew ?_ | refine Ext.drewN ?_ _ | (refine Ext.setCellP ?_ ?_; focus (first | (simp; done) | (simp; omega) | omega))), (Blk.new W1 [I 2, .slice none 0 0, U dest, .slice none 0 0] 37).old _, by
    rw [usedV_nil]
    have h := Blk.new (W1.alloc (.cells #[I 2, .slice none 0 0, U dest, .slice none 0 0] 37)) (List.replicate n (Value.bool false)) 4
    rw [show (W1.alloc (.cells #[I 2, .slice none 0 0, U dest, .slice none 0 0] 37)).heap.size = W1.heap.size + 1 by simp] at h
    have e : (madeCells #[Value.bool false] n) = (List.replicate n (Value.bool false)).toArray := by rw [<- Array.toList_inj, toList_madeCells_one]
    rw [e]
    exact h⟩ (fun W2 hW2 => ?_)
 obtain ⟨hx2, hb2, hd2⟩ := hW2
 have HX2 := Lib.hid hx2
 have HO2 := Lib.hid hb2
 have HD2 := Lib.hid hd2
 clear hx2 hb2 hd2 hmk hbc1
 generalize hob : W1.heap.size = ob at *
 have HOB := Lib.hid hob
 clear hob
 generalize hdb : ob + 1 = db at *
 have HDB := Lib.hid hdb
 clear hdb
 have HFIN := Lib.hid (show ∀ (A : World) (v : Value) (o : List Int), Ext W1 A -> OwnI A (db + 1) v o ->
  Ext w ((((A.setCell ⟨rb, 0, none⟩ (I 2)).setCell ⟨rb, 1, none⟩ (.slice none 0 0)).setCell ⟨rb, 2, none⟩ (U dest)).setCell ⟨rb, 3, none⟩ v) /\
  Blk ((((A.setCell ⟨rb, 0, none⟩ (I 2)).setCell ⟨rb, 1, none⟩ (.slice none 0 0)).setCell ⟨rb, 2, none⟩ (U dest)).setCell ⟨rb, 3, none⟩ v) rb [I 2, .slice none 0 0, U dest, v] 37 /\
  OwnI ((((A.setCell ⟨rb, 0, none⟩ (I 2)).setCell ⟨rb, 1, none⟩ (.slice none 0 0)).setCell ⟨rb, 2, none⟩ (U dest)).setCell ⟨rb, 3, none⟩ v) w.heap.size v o from fun A v o hx ho => by
  have hlt : rb < db + 1 := by have := HRL.out; have := HDB.out; omega
  have hle : w.heap.size <= db + 1 := by have := HX1.out.size; have := HOB.out; have := HDB.out; omega
  refine ⟨HSC.out _ _ _ (HSC.out _ _ _ (HSC.out _ _ _ (HSC.out _ _ _ (HX1.out.trans hx)))), ((((HR1.out.later hx).set 0 _).set 1 _).set 2 _).set 3 _, ?_⟩
  unfold OwnI at ho ⊢
  exact own_low (own_set (own_set (own_set (own_set ho hlt _) hlt _) hlt _) hlt _) hle)
 have HLEN := Lib.hid (tryT_len n tr)
 have HTB := Lib.hid (tryT_bd hn.1 tr)
 go_wp2_with fail
 go_loopw [7] (fun i wr => ∃ (k : Nat) (v : Value), k <= (tryT n tr).length /\ i = I k /\ Hid (Blk wr ob [I 2, .slice none 0 0, U dest, v] 37) /\ Hid (OwnI wr (db + 1) v (foldT ((tryT n tr).take k))) /\
  Hid (Blk wr db (usedV n (foldT ((tryT n tr).take k))) 4) /\ Hid (Ext W1 wr)) (fun i _ => (tryT n tr).length - (intOf i).toNat)
 case atStart => exact ⟨0, .slice none 0 0, by omega, rfl, HO2, (show OwnI W2 (db + 1) (.slice none 0 0) [] from ⟨rfl, .inl ⟨rfl, rfl⟩⟩), HD2, HX2⟩
 case round =>
  obtain ⟨k, v, hk, rfl, HOBX, HOW, HDX, HX⟩ := hrel
  have hL := HLEN.out
  have HFG := Lib.hid (show GoodT n (foldT ((tryT n tr).take k)) from GoodT.fold _ (fun x hx => HTB.out x (List.mem_of_mem_take hx)) _ (GoodT.nil n))
  have hbc := (HB1.out.later HX.out).cells
  have hoc := HOBX.out.cells
  by_cases hlt : k < (tryT n tr).length
  · have HNX := Lib.hid (foldT_next hlt)
    have HZ := Lib.hid (show ∀ x, tr[k]? = some x -> (tryT n tr)[k] = fitRk n x from fun x hx => by
     unfold tryT
     have hne : tr ≠ [] := by rintro rfl; cases hx
     obtain ⟨h1, h2⟩ := List.getElem?_eq_some_iff.1 hx
     simp only [if_neg hne, List.getElem_map, h2])
    have HZ0 := Lib.hid (show tr.length <= k -> (tryT n tr)[k] = 0 from fun h => by
     have : tr = [] := List.length_eq_zero_iff.1 (by omega)
     subst this
     simp [tryT])
    obtain ⟨hz1, hz2⟩ := HTB.out _ (List.getElem_mem hlt)
    obtain ⟨zN, hzN⟩ : ∃ zN : Nat, (tryT n tr)[k] = (zN : Int) := ⟨(tryT n tr)[k].toNat, by omega⟩
    have hzn : zN < n := by omega
    rw [hzN] at HNX HZ HZ0
    generalize foldT ((tryT n tr).take k) = o at *
    have hol := nodup_few n o HFG.out.nodup HFG.out.mem
    have hrd : IntsAt wr v o := Reads.of_own HOW.out
    obtain ⟨va, vc, hve, -, -, HOF⟩ := hrd.form
    clear hrd
    replace HOF := Lib.hid HOF
    subst hve
    clear hz1 hz2 hzN hL HFG
    by_cases hktr : k < tr.length
    · have hkd : decide ((k : Int) < (tr.length : Int)) = true := decide_eq_true (by omega)
      obtain ⟨b0, o0, he0, q0⟩ := T3.out k tr[k] (List.getElem?_eq_getElem hktr)
      subst he0
      replace q0 := (HX1.out.trans HX.out).cell q0
      have HXI := Lib.hid (HTR.out _ (List.getElem_mem hktr))
      have HZX := Lib.hid (HZ.out _ (List.getElem?_eq_getElem hktr))
      generalize tr[k] = x at *
      obtain ⟨x1, x2⟩ := HXI.out
      obtain ⟨y1, y2⟩ := tmod_bd x n (by omega)
      have hz : (x.tmod n + n).tmod n = (zN : Int) := HZX.out.symm
      have hz3 : (x.tmod n + n) % n = (zN : Int) := (Int.tmod_eq_emod_of_nonneg (by omega)).symm.trans hz
      go_upto_region 10 with (fail)
      have hu := HDX.out.cells zN
      rw [usedV_get _ hzn] at hu
      by_cases hin : (zN : Int) ∈ o
      · have HSAME := Lib.hid (show addT (zN : Int) o = o by unfold addT; rw [if_pos hin])
        rw [decide_eq_true hin] at hu
        go_wp2_with fail
        go_roundw
        case rel =>
         refine ⟨k + 1, .slice va o.length vc, by omega, by go_num, HOBX, ?_, ?_, HX⟩
         · rw [HNX.out, HSAME.out]; exact HOW
         · rw [HNX.out, HSAME.out]; exact HDX
        case measure => simp [intOf]; omega
      · rw [decide_eq_false hin] at hu
        by_cases hz : o.length = 0
        · have hz0 : ((o.length : Int) == 0) = true := by simp [hz]
          have HADD := Lib.hid (show addT (zN : Int) o = o ++ [(zN : Int)] by unfold addT; rw [if_neg hin, if_pos (.inl (List.length_eq_zero_iff.1 hz))])
          clear hz
          have HSA := Lib.hid (show Ext wr (wr.alloc (.cells #[I zN] 3)) from (Ext.refl _).alloc _)
          have HOA := Lib.hid (show (wr.alloc (.cells #[I zN] 3)).ownsRow (db + 1) 3 1 (.slice va o.length vc) o.length (icells o) from by have h := HOW.out.later HSA.out; unfold OwnI at h; exact h)
          have HBA := Lib.hid (HOBX.out.later HSA.out)
          have HDA := Lib.hid (HDX.out.later HSA.out)
          have HSRC := Lib.hid (Reads.made wr 1 3 1 [I zN] rfl (by unfold maxLen; omega))
          have HSZ := Lib.hid (show db + 1 <= (wr.alloc (.cells #[I zN] 3)).heap.size from HDA.out.lt)
          go_wp2_with (first
           | (at_builtin
              refine wpList_app rfl (.tmp 77) (.tmp 79) 35 rfl (db + 1) 3 _ 1 8 Tryz.underlying35 infoInt rfl (by decide) (by decide) _ _ _ rfl HOA.out _ _ _ rfl HSRC.out (by intro q hq; simp at hq; subst hq; rfl) (by omega) HSZ.out ?_
              intro v9 w9 ho9 hg9
              have hb9 := blk_grownT HBA.out HOA.out (by decide) hg9
              have hd9 := blk_grownT HDA.out HOA.out (by decide) hg9
              obtain ⟨xa, xc, hxv⟩ := own_form ho9
              subst hxv
              have hbc9 := hb9.cells
              have hbf9 := hb9.frozen
              have HB9 := Lib.hid (hb9.set 3 (.slice xa (o.length + 1) xc))
              have HD9 := Lib.hid (Blk.otherP (p := ⟨ob, 3, none⟩) (v := .slice xa (o.length + 1) xc) (by have := HDB.out; show ob ≠ db; omega) hd9)
              have HDN := Lib.hid ((HD9.out.set zN (.bool true)))
              have hdc9 := HD9.out.cells zN
              have hdf9 := HD9.out.frozen zN
              rw [usedV_get _ hzn, decide_eq_false hin] at hdc9
              have HO9 := Lib.hid (own_set (own_set ho9 (p := ⟨ob, 3, none⟩) (by have := HDB.out; show ob < db + 1; omega) (.slice xa (o.length + 1) xc)) (p := ⟨db, zN, none⟩) (by show db < db + 1; omega) (.bool true))
              have HX9 := Lib.hid ((Below.grown (HX.out.trans HSA.out) hg9 ((HX.out.trans HSA.out).size) (fun g e => by have := own_ge HOA.out g e; have := HOB.out; have := HDB.out; omega)))
              clear ho9 hg9 hb9 hd9))
          go_roundw
          case rel =>
           refine ⟨k + 1, .slice xa (o.length + 1) xc, by omega, by go_num, ?_, ?_, ?_, ?_⟩
           · exact Blk.otherP (p := ⟨db, zN, none⟩) (by have := HDB.out; show db ≠ ob; omega) HB9.out
           · rw [HNX.out, HADD.out]
             have h := HO9.out
             show OwnI _ _ _ _
             unfold OwnI
             rw [List.length_append]
             simpa [icells] using h
           · rw [HNX.out, HADD.out, <- usedV_set o hzn]
             exact HDN.out
           · exact (HX9.out.setCell (p := ⟨ob, 3, none⟩) (by have := HOB.out; show W1.heap.size <= ob; omega) _).setCell (p := ⟨db, zN, none⟩) (by have := HOB.out; have := HDB.out; show W1.heap.size <= db; omega) _
          case measure => simp [intOf]; omega
        · have hz0 : ((o.length : Int) == 0) = false := beq_false_of_ne (by omega)
          obtain ⟨x0, hx0⟩ : ∃ x0, o[0]? = some x0 := ⟨o[0], List.getElem?_eq_getElem (by omega)⟩
          have hhd : o.headD 0 = x0 := by cases o with
           | nil => cases hx0
           | cons y t => simpa using hx0
          obtain ⟨b7, o7, he7, q7⟩ := HOF.out 0 x0 hx0
          subst he7
          have hps : decide ((o.length : Int) <= 0) = false := decide_eq_false (by omega)
          have hps2 : decide (o.length <= 0) = false := decide_eq_false (by omega)
          have hps3 : decide (0 < o.length) = true := decide_eq_true (by omega)
          have hps4 : 0 < o.length := by omega
          rw [Nat.add_zero] at q7
          by_cases hgt : x0 < (zN : Int)
          · have hg1 : decide (x0 < (zN : Int)) = true := decide_eq_true hgt
            have HADD := Lib.hid (show addT (zN : Int) o = o ++ [(zN : Int)] by unfold addT; rw [if_neg hin, if_pos (.inr (by rw [hhd]; exact hgt))])
            have HSA := Lib.hid (show Ext wr (wr.alloc (.cells #[I zN] 3)) from (Ext.refl _).alloc _)
            have HOA := Lib.hid (show (wr.alloc (.cells #[I zN] 3)).ownsRow (db + 1) 3 1 (.slice (some ⟨b7, o7, none⟩) o.length vc) o.length (icells o) from by have h := HOW.out.later HSA.out; unfold OwnI at h; exact h)
            have HBA := Lib.hid (HOBX.out.later HSA.out)
            have HDA := Lib.hid (HDX.out.later HSA.out)
            have HSRC := Lib.hid (Reads.made wr 1 3 1 [I zN] rfl (by unfold maxLen; omega))
            have HSZ := Lib.hid (show db + 1 <= (wr.alloc (.cells #[I zN] 3)).heap.size from HDA.out.lt)
            go_wp2_with (first
             | (at_builtin
                refine wpList_app rfl (.tmp 77) (.tmp 79) 35 rfl (db + 1) 3 _ 1 8 Tryz.underlying35 infoInt rfl (by decide) (by decide) _ _ _ rfl HOA.out _ _ _ rfl HSRC.out (by intro q hq; simp at hq; subst hq; rfl) (by omega) HSZ.out ?_
                intro v9 w9 ho9 hg9
                have hb9 := blk_grownT HBA.out HOA.out (by decide) hg9
                have hd9 := blk_grownT HDA.out HOA.out (by decide) hg9
                obtain ⟨xa, xc, hxv⟩ := own_form ho9
                subst hxv
                have hbc9 := hb9.cells
                have hbf9 := hb9.frozen
                have HB9 := Lib.hid (hb9.set 3 (.slice xa (o.length + 1) xc))
                have HD9 := Lib.hid (Blk.otherP (p := ⟨ob, 3, none⟩) (v := .slice xa (o.length + 1) xc) (by have := HDB.out; show ob ≠ db; omega) hd9)
                have HDN := Lib.hid ((HD9.out.set zN (.bool true)))
                have hdc9 := HD9.out.cells zN
                have hdf9 := HD9.out.frozen zN
                rw [usedV_get _ hzn, decide_eq_false hin] at hdc9
                have HO9 := Lib.hid (own_set (own_set ho9 (p := ⟨ob, 3, none⟩) (by have := HDB.out; show ob < db + 1; omega) (.slice xa (o.length + 1) xc)) (p := ⟨db, zN, none⟩) (by show db < db + 1; omega) (.bool true))
                have HX9 := Lib.hid ((Below.grown (HX.out.trans HSA.out) hg9 ((HX.out.trans HSA.out).size) (fun g e => by have := own_ge HOA.out g e; have := HOB.out; have := HDB.out; omega)))
                clear ho9 hg9 hb9 hd9))
            go_roundw
            case rel =>
             refine ⟨k + 1, .slice xa (o.length + 1) xc, by omega, by go_num, ?_, ?_, ?_, ?_⟩
             · exact Blk.otherP (p := ⟨db, zN, none⟩) (by have := HDB.out; show db ≠ ob; omega) HB9.out
             · rw [HNX.out, HADD.out]
               have h := HO9.out
               show OwnI _ _ _ _
               unfold OwnI
               rw [List.length_append]
               simpa [icells] using h
             · rw [HNX.out, HADD.out, <- usedV_set o hzn]
               exact HDN.out
             · exact (HX9.out.setCell (p := ⟨ob, 3, none⟩) (by have := HOB.out; show W1.heap.size <= ob; omega) _).setCell (p := ⟨db, zN, none⟩) (by have := HOB.out; have := HDB.out; show W1.heap.size <= db; omega) _
            case measure => simp [intOf]; omega
          · have hg1 : decide (x0 < (zN : Int)) = false := decide_eq_false hgt
            have HSAME := Lib.hid (show addT (zN : Int) o = o by unfold addT; rw [if_neg hin, if_neg (by rw [hhd]; rintro (h | h); exact hz (by rw [h]; rfl); exact hgt h)])
            go_wp2_with fail
            go_roundw
            case rel =>
             refine ⟨k + 1, .slice (some ⟨b7, o7, none⟩) o.length vc, by omega, by go_num, HOBX, ?_, ?_, HX⟩
             · rw [HNX.out, HSAME.out]; exact HOW
             · rw [HNX.out, HSAME.out]; exact HDX
            case measure => simp [intOf]; omega
    · have hkd : decide ((k : Int) < (tr.length : Int)) = false := decide_eq_false (by omega)
      have hk0 : k = 0 := by have := HLEN.out; omega
      have hz0 : zN = 0 := by have := HZ0.out (by omega); omega
      subst hk0
      subst hz0
      have hkz : (((0 : Nat) : Int) == 0) = true := rfl
      go_upto_region 10 with (fail)
      have hu := HDX.out.cells 0
      rw [usedV_get _ hzn] at hu
      by_cases hin : ((0 : Nat) : Int) ∈ o
      · have HSAME := Lib.hid (show addT ((0 : Nat) : Int) o = o by unfold addT; rw [if_pos hin])
        rw [decide_eq_true hin] at hu
        go_wp2_with fail
        go_roundw
        case rel =>
         refine ⟨0 + 1, .slice va o.length vc, by omega, by go_num, HOBX, ?_, ?_, HX⟩
         · rw [HNX.out, HSAME.out]; exact HOW
         · rw [HNX.out, HSAME.out]; exact HDX
        case measure => simp [intOf]; omega
      · rw [decide_eq_false hin] at hu
        by_cases hz : o.length = 0
        · have hz0 : ((o.length : Int) == 0) = true := by simp [hz]
          have HADD := Lib.hid (show addT ((0 : Nat) : Int) o = o ++ [((0 : Nat) : Int)] by unfold addT; rw [if_neg hin, if_pos (.inl (List.length_eq_zero_iff.1 hz))])
          clear hz
          have HSA := Lib.hid (show Ext wr (wr.alloc (.cells #[I 0] 3)) from (Ext.refl _).alloc _)
          have HOA := Lib.hid (show (wr.alloc (.cells #[I 0] 3)).ownsRow (db + 1) 3 1 (.slice va o.length vc) o.length (icells o) from by have h := HOW.out.later HSA.out; unfold OwnI at h; exact h)
          have HBA := Lib.hid (HOBX.out.later HSA.out)
          have HDA := Lib.hid (HDX.out.later HSA.out)
          have HSRC := Lib.hid (Reads.made wr 1 3 1 [I 0] rfl (by unfold maxLen; omega))
          have HSZ := Lib.hid (show db + 1 <= (wr.alloc (.cells #[I 0] 3)).heap.size from HDA.out.lt)
          go_wp2_with (first
           | (at_builtin
              refine wpList_app rfl (.tmp 77) (.tmp 79) 35 rfl (db + 1) 3 _ 1 8 Tryz.underlying35 infoInt rfl (by decide) (by decide) _ _ _ rfl HOA.out _ _ _ rfl HSRC.out (by intro q hq; simp at hq; subst hq; rfl) (by omega) HSZ.out ?_
              intro v9 w9 ho9 hg9
              have hb9 := blk_grownT HBA.out HOA.out (by decide) hg9
              have hd9 := blk_grownT HDA.out HOA.out (by decide) hg9
              obtain ⟨xa, xc, hxv⟩ := own_form ho9
              subst hxv
              have hbc9 := hb9.cells
              have hbf9 := hb9.frozen
              have HB9 := Lib.hid (hb9.set 3 (.slice xa (o.length + 1) xc))
              have HD9 := Lib.hid (Blk.otherP (p := ⟨ob, 3, none⟩) (v := .slice xa (o.length + 1) xc) (by have := HDB.out; show ob ≠ db; omega) hd9)
              have HDN := Lib.hid ((HD9.out.set 0 (.bool true)))
              have hdc9 := HD9.out.cells 0
              have hdf9 := HD9.out.frozen 0
              rw [usedV_get _ hzn, decide_eq_false hin] at hdc9
              have HO9 := Lib.hid (own_set (own_set ho9 (p := ⟨ob, 3, none⟩) (by have := HDB.out; show ob < db + 1; omega) (.slice xa (o.length + 1) xc)) (p := ⟨db, 0, none⟩) (by show db < db + 1; omega) (.bool true))
              have HX9 := Lib.hid ((Below.grown (HX.out.trans HSA.out) hg9 ((HX.out.trans HSA.out).size) (fun g e => by have := own_ge HOA.out g e; have := HOB.out; have := HDB.out; omega)))
              clear ho9 hg9 hb9 hd9))
          go_roundw
          case rel =>
           refine ⟨0 + 1, .slice xa (o.length + 1) xc, by omega, by go_num, ?_, ?_, ?_, ?_⟩
           · exact Blk.otherP (p := ⟨db, 0, none⟩) (by have := HDB.out; show db ≠ ob; omega) HB9.out
           · rw [HNX.out, HADD.out]
             have h := HO9.out
             show OwnI _ _ _ _
             unfold OwnI
             rw [List.length_append]
             simpa [icells] using h
           · rw [HNX.out, HADD.out, <- usedV_set o hzn]
             exact HDN.out
           · exact (HX9.out.setCell (p := ⟨ob, 3, none⟩) (by have := HOB.out; show W1.heap.size <= ob; omega) _).setCell (p := ⟨db, 0, none⟩) (by have := HOB.out; have := HDB.out; show W1.heap.size <= db; omega) _
          case measure => simp [intOf]; omega
        · have hz0 : ((o.length : Int) == 0) = false := beq_false_of_ne (by omega)
          obtain ⟨x0, hx0⟩ : ∃ x0, o[0]? = some x0 := ⟨o[0], List.getElem?_eq_getElem (by omega)⟩
          have hhd : o.headD 0 = x0 := by cases o with
           | nil => cases hx0
           | cons y t => simpa using hx0
          obtain ⟨b7, o7, he7, q7⟩ := HOF.out 0 x0 hx0
          subst he7
          have hps : decide ((o.length : Int) <= 0) = false := decide_eq_false (by omega)
          have hps2 : decide (o.length <= 0) = false := decide_eq_false (by omega)
          have hps3 : decide (0 < o.length) = true := decide_eq_true (by omega)
          have hps4 : 0 < o.length := by omega
          rw [Nat.add_zero] at q7
          by_cases hgt : x0 < ((0 : Nat) : Int)
          · have hg1 : decide (x0 < (0 : Int)) = true := decide_eq_true hgt
            have HADD := Lib.hid (show addT ((0 : Nat) : Int) o = o ++ [((0 : Nat) : Int)] by unfold addT; rw [if_neg hin, if_pos (.inr (by rw [hhd]; exact hgt))])
            have HSA := Lib.hid (show Ext wr (wr.alloc (.cells #[I 0] 3)) from (Ext.refl _).alloc _)
            have HOA := Lib.hid (show (wr.alloc (.cells #[I 0] 3)).ownsRow (db + 1) 3 1 (.slice (some ⟨b7, o7, none⟩) o.length vc) o.length (icells o) from by have h := HOW.out.later HSA.out; unfold OwnI at h; exact h)
            have HBA := Lib.hid (HOBX.out.later HSA.out)
            have HDA := Lib.hid (HDX.out.later HSA.out)
            have HSRC := Lib.hid (Reads.made wr 1 3 1 [I 0] rfl (by unfold maxLen; omega))
            have HSZ := Lib.hid (show db + 1 <= (wr.alloc (.cells #[I 0] 3)).heap.size from HDA.out.lt)
            go_wp2_with (first
             | (at_builtin
                refine wpList_app rfl (.tmp 77) (.tmp 79) 35 rfl (db + 1) 3 _ 1 8 Tryz.underlying35 infoInt rfl (by decide) (by decide) _ _ _ rfl HOA.out _ _ _ rfl HSRC.out (by intro q hq; simp at hq; subst hq; rfl) (by omega) HSZ.out ?_
                intro v9 w9 ho9 hg9
                have hb9 := blk_grownT HBA.out HOA.out (by decide) hg9
                have hd9 := blk_grownT HDA.out HOA.out (by decide) hg9
                obtain ⟨xa, xc, hxv⟩ := own_form ho9
                subst hxv
                have hbc9 := hb9.cells
                have hbf9 := hb9.frozen
                have HB9 := Lib.hid (hb9.set 3 (.slice xa (o.length + 1) xc))
                have HD9 := Lib.hid (Blk.otherP (p := ⟨ob, 3, none⟩) (v := .slice xa (o.length + 1) xc) (by have := HDB.out; show ob ≠ db; omega) hd9)
                have HDN := Lib.hid ((HD9.out.set 0 (.bool true)))
                have hdc9 := HD9.out.cells 0
                have hdf9 := HD9.out.frozen 0
                rw [usedV_get _ hzn, decide_eq_false hin] at hdc9
                have HO9 := Lib.hid (own_set (own_set ho9 (p := ⟨ob, 3, none⟩) (by have := HDB.out; show ob < db + 1; omega) (.slice xa (o.length + 1) xc)) (p := ⟨db, 0, none⟩) (by show db < db + 1; omega) (.bool true))
                have HX9 := Lib.hid ((Below.grown (HX.out.trans HSA.out) hg9 ((HX.out.trans HSA.out).size) (fun g e => by have := own_ge HOA.out g e; have := HOB.out; have := HDB.out; omega)))
                clear ho9 hg9 hb9 hd9))
            go_roundw
            case rel =>
             refine ⟨0 + 1, .slice xa (o.length + 1) xc, by omega, by go_num, ?_, ?_, ?_, ?_⟩
             · exact Blk.otherP (p := ⟨db, 0, none⟩) (by have := HDB.out; show db ≠ ob; omega) HB9.out
             · rw [HNX.out, HADD.out]
               have h := HO9.out
               show OwnI _ _ _ _
               unfold OwnI
               rw [List.length_append]
               simpa [icells] using h
             · rw [HNX.out, HADD.out, <- usedV_set o hzn]
               exact HDN.out
             · exact (HX9.out.setCell (p := ⟨ob, 3, none⟩) (by have := HOB.out; show W1.heap.size <= ob; omega) _).setCell (p := ⟨db, 0, none⟩) (by have := HOB.out; have := HDB.out; show W1.heap.size <= db; omega) _
            case measure => simp [intOf]; omega
          · have hg1 : decide (x0 < (0 : Int)) = false := decide_eq_false hgt
            have HSAME := Lib.hid (show addT ((0 : Nat) : Int) o = o by unfold addT; rw [if_neg hin, if_neg (by rw [hhd]; rintro (h | h); exact hz (by rw [h]; rfl); exact hgt h)])
            go_wp2_with fail
            go_roundw
            case rel =>
             refine ⟨0 + 1, .slice (some ⟨b7, o7, none⟩) o.length vc, by omega, by go_num, HOBX, ?_, ?_, HX⟩
             · rw [HNX.out, HSAME.out]; exact HOW
             · rw [HNX.out, HSAME.out]; exact HDX
            case measure => simp [intOf]; omega
  · have hkd : decide ((k : Int) < (tr.length : Int)) = false := decide_eq_false (by omega)
    have hkz : ((k : Int) == 0) = false := beq_false_of_ne (by omega)
    have HE := Lib.hid (show foldT ((tryT n tr).take k) = fitTr n tr by rw [List.take_of_length_le (by omega)]; rfl)
    rw [HE.out] at HOW
    clear HDX
    obtain ⟨va, vc, hve⟩ := own_form HOW.out
    subst hve
    obtain ⟨hf1, hf2, hf3⟩ := HFIN.out wr (.slice va (fitTr n tr).length vc) (fitTr n tr) HX.out HOW.out
    have hof := HOBX.out.frozen
    have hrc := (HR1.out.later HX.out).cells
    have hrf := (HR1.out.later HX.out).frozen
    go_wp2_with fail
    refine hideW (Φ := fun W => bodyPost _ _ _ _ _ W) (fun W => Ext w W /\ Blk W rb [I 2, .slice none 0 0, U dest, .slice va (fitTr n tr).length vc] 37 /\ OwnI W w.heap.size (.slice va (fitTr n tr).length vc) (fitTr n tr)) ⟨hf1, hf2, hf3⟩ (fun W9 hW9 => ?_)
    have hc9 := hW9.2.1.cells
    refine bodyPost_ret (v := .agg #[I 2, .slice none 0 0, U dest, .slice va (fitTr n tr).length vc]) (by rw [results_cell1 rfl]; go_simp) rfl ?_
    exact ⟨_, rfl, hW9.2.2, hW9.1⟩
end Go.Proofs.YtdpmnldmbnpfpaaGreat

/- theseusref17.Fit of any certificate: one that may be. Conditions: whole numbers are within 64 bits. -/
namespace Go.Proofs.YtdpmnldmbnpfpaaGreat
open Go.RowKit

theorem r17Fit_any (pv tv : Value) (c : Crt) (n : Nat) (w : World) (h : CertAt w pv tv c) (htr : ∀ x ∈ c.tr, In64 x) (hri : ∀ x ∈ ranksF c.rks, In64 x) (hcap : (ranksF c.rks).length <= 1000000000) (hn : 1 <= n /\ n <= 1000000) :
 Calls Tryz.prog 17 #[.agg #[I c.vd, pv, U c.dest, tv], I n] w fun e w' => ∃ pv' tv' c', e = .returned (.agg #[I c'.vd, pv', U c'.dest, tv']) /\ CertOwn w' w.heap.size pv' tv' c' /\ certMayV n c' = 0 /\ (∀ x ∈ c'.tr, In64 x) /\
  (c'.vd = 1 ↔ (bits .and .i64 c.vd 1 == 0) = false) /\ Ext w w' := by
 cases hv : (bits .and .i64 c.vd 1 == 0)
 · obtain ⟨ta, tc, rfl, -, -, -⟩ := h.tr.form
   refine (r17FitFree_any pv ta c.tr.length tc c.vd c.dest n c.ps c.rks w h.parts hv h.len h.rk hri hcap hn).mono ?_
   rintro e w' ⟨v, rfl, ho, hx⟩
   obtain ⟨ps, h1, h2⟩ := fitPs_may hn.1 ho
   exact ⟨v, _, _, rfl, h1, h2, (fun x hx => by cases hx), by simp, hx⟩
 · refine (r17FitLoops_any pv tv c.vd c.dest n c.tr w h.tr hv htr hn).mono ?_
   rintro e w' ⟨v, rfl, ho, hx⟩
   refine ⟨_, v, ⟨2, [], [], c.dest, fitTr n c.tr⟩, rfl, ⟨⟨by simp [pcells], .inl ⟨rfl, rfl⟩⟩, rfl, (fun i p r h => by cases h), ho⟩, fitTr_may hn.1 _ _, fun x hx => ?_, by simp, hx⟩
   have := (fitTr_good hn.1 c.tr).mem x hx
   unfold In64
   omega
end Go.Proofs.YtdpmnldmbnpfpaaGreat
