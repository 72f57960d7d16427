/- QueueP, RanksG: these texts in one. Conditions: each part names its own. -/
import Derived.Test.YtdpmnldmbnpfpaaGreatDoorGGr
import Derived.Test.YtdpmnldmbnpfpaaGreatDoorGNetW
import Derived.Conc.LoneSelect
import Derived.Conc.LoneSelectN
import Derived.KernelRfl
import Derived.Laws.Rows
import Derived.Test.YtdpmnldmbnpfpaaGreatDoorGAtB
/- queue.Put, Take, Len of a queue that lies in memory, where nothing waits. Conditions: none. -/
namespace Go.Proofs.YtdpmnldmbnpfpaaGreatDoor
open Go.RowKit Go.Conc

set_option maxRecDepth 100000 in
theorem qPut_any (qb cb cap s r : Nat) (buf : Array Value) (x : Int) (w : World) (hq : Blk w qb [.chan (some cb)] 261) (hc : w.heap[cb]? = some (.chan cap buf false s r false)) (hroom : buf.size < cap) :
 Calls Tryz.prog 175 #[.pointer (some ⟨qb, 0, none⟩), I x] w fun e w' => e = .returned (I 0) /\ w' = w.setChan cb cap (buf.push (I x)) false (s + 1) r false := by
 have hqc := hq.cells
 refine calls_of_loneTo fun cs => ?_
 have e : Frame.enter Tryz.prog 175 #[.pointer (some ⟨qb, 0, none⟩), I x] .normal = (base 175).at ⟨#[.pointer (some ⟨qb, 0, none⟩), I x, undef, undef, undef, undef, undef, undef, undef, undef, undef, undef, undef], []⟩ [.code (Tryz.f175.body.getD .skip)] := by
  simp [Frame.enter, Frame.at, Tryz.func175, base, Tryz.f175]
 rw [e]
 refine LoneTo.goes (n := 22) ?_
 simp only [Tryz.f175, Option.getD_some]
 s_c stepG_seq
 s_reg
 s_op
 s_c stepG_region_end
 s_c stepG_seq
 s_c stepG_seq
 s_reg
 s_op
 s_op
 s_op
 s_op
 s_c stepG_region_end
 s_reg
 s_op
 s_c stepG_region_end
 s_c stepG_seq
 s_reg
 s_stop
 refine LoneTo.step (step_lone_select_send_room (c := cb) (cap := cap) (buf := buf) (s := s) (r := r) (tm := false) (stepG_comm (cases := #[scase cb (I x) (I 0)]) (blocking := false) (shape := .select) (w' := w) rfl rfl (by decide) (by simp [go_sem, execOp, scase, Act.eval])) hc hroom) ?_
 rw [Frame.finish_at]
 walk_nrm
 refine LoneTo.goes (n := 16) ?_
 s_op
 s_op
 s_c stepG_region_end
 s_c stepG_block
 s_cond true
 s_c stepG_seq
 s_reg
 s_op
 s_c stepG_region_end
 s_c stepG_ret'
 s_stop
 refine LoneTo.done ⟨.returned (I 0), _, rfl, ⟨rfl, rfl⟩, rfl, rfl, rfl, rfl, _, Tryz.func175, by simp [results, Tryz.f175, Frame.at]⟩
set_option maxRecDepth 100000 in
theorem qTake_any (qb cb cap s r : Nat) (x : Int) (buf : Array Value) (w : World) (hq : Blk w qb [.chan (some cb)] 261) (hc : w.heap[cb]? = some (.chan cap buf false s r false)) (hsome : 0 < buf.size) (hx : buf.getD 0 undef = I x) :
 Calls Tryz.prog 178 #[.pointer (some ⟨qb, 0, none⟩)] w fun e w' => e = .returned (.tuple #[I x, I 0]) /\ w' = w.setChan cb cap (buf.extract 1 buf.size) false s (r + 1) false := by
 have hqc := hq.cells
 refine calls_of_loneTo fun cs => ?_
 have e : Frame.enter Tryz.prog 178 #[.pointer (some ⟨qb, 0, none⟩)] .normal = (base 178).at ⟨#[.pointer (some ⟨qb, 0, none⟩), undef, undef, undef, undef, undef, undef, undef, undef, undef, undef, undef, undef, undef], []⟩ [.code (Tryz.f178.body.getD .skip)] := by
  simp [Frame.enter, Frame.at, Tryz.func178, base, Tryz.f178]
 rw [e]
 refine LoneTo.goes (n := 22) ?_
 simp only [Tryz.f178, Option.getD_some]
 s_c stepG_seq
 s_reg
 s_op
 s_op
 s_c stepG_region_end
 s_c stepG_seq
 s_reg
 s_op
 s_op
 s_op
 s_op
 s_c stepG_region_end
 s_c stepG_seq
 s_reg
 s_stop
 refine LoneTo.step (step_lone_select_recv_buf (c := cb) (z := I 0) (closed := false) (buf := buf) (cap := cap) (s := s) (r := r) (tm := false) (stepG_comm (cases := #[rcase cb (I 0)]) (blocking := false) (shape := .select) (w' := w) rfl rfl (by decide) (by simp [go_sem, execOp, rcase, Act.eval])) hc hsome) ?_
 rw [Frame.finish_at, hx]
 walk_nrm
 refine LoneTo.goes (n := 22) ?_
 s_op
 s_op
 s_c stepG_region_end
 s_c stepG_block
 s_cond true
 s_c stepG_seq
 s_reg
 s_op
 s_op
 s_c stepG_region_end
 s_c stepG_seq
 s_reg
 s_op
 s_op
 s_op
 s_c stepG_region_end
 s_c stepG_ret'
 s_stop
 refine LoneTo.done ⟨.returned (.tuple #[I x, I 0]), _, rfl, ⟨rfl, rfl⟩, rfl, rfl, rfl, rfl, _, Tryz.func178, by simp [results, Tryz.f178, Frame.at]⟩
set_option maxHeartbeats 1000000 in
set_option maxRecDepth 100000 in
theorem qLen_any (qb cb cap s r : Nat) (buf : Array Value) (w : World) (hq : Blk w qb [.chan (some cb)] 261) (hc : w.heap[cb]? = some (.chan cap buf false s r false)) :
 Calls Tryz.prog 177 #[.pointer (some ⟨qb, 0, none⟩)] w fun e w' => e = .returned (I buf.size) /\ Ext w w' := by
 have hqc := hq.cells
 have hln := run_len_chan (P := Tryz.prog) 259 3 Tryz.underlying259 hc
 clear hc
 go_enter Tryz.func177, Tryz.ntmps177
 go_wp2_with fail
 go_ret
 exact ⟨rfl, Ext.refl _⟩
set_option maxHeartbeats 1000000 in
theorem qNew_any (n : Nat) (w : World) (hn : 1 <= n /\ n <= 4096) :
 Calls Tryz.prog 174 #[I n] w fun e w' => ∃ qb cb, e = .returned (.tuple #[.pointer (some ⟨qb, 0, none⟩), I 0]) /\ Blk w' qb [.chan (some cb)] 261 /\ w'.heap[cb]? = some (.chan n #[] false 0 0 false) /\ w.heap.size <= qb /\ w.heap.size <= cb /\ Ext w w' := by
 have hn1 : decide ((n : Int) < 1) = false := decide_eq_false (by omega)
 have hn2 : decide (4096 < (n : Int)) = false := decide_eq_false (by omega)
 have hb : ∃ i, Tryz.prog.info? 3 = some i /\ i.bytes = 8 := by
  have h : (Tryz.prog.info? 3).map (·.bytes) = some 8 := by kernel_rfl
  obtain ⟨i, hi, hb⟩ := Option.map_eq_some_iff.1 h
  exact ⟨i, hi, hb⟩
 obtain ⟨i, hi, hb8⟩ := hb
 have hmc := fun w => run_makeChan (P := Tryz.prog) (w := w) Tryz.underlying259 hi .i64 n (by omega) (by rw [hb8]; omega)
 go_enter Tryz.func174, Tryz.ntmps174
 go_wp2_with fail
 go_ret2
 refine ⟨w.heap.size + 1, w.heap.size, rfl, Blk.newAt _ (by simp), ?_, Nat.le_succ _, Nat.le_refl _, by (repeat with_reducible first | exact Ext.refl _ | assumption | refine Ext.alloc ?_ _ | refine Ext.drew ?_ | refine Ext.drewN ?_ _ | (refine Ext.setCellP ?_ ?_; focus (first | (simp; done) | (simp; omega) | omega)))⟩
 have h : (w.alloc (.chan n #[] false 0 0 false)).heap[w.heap.size]? = some (.chan n #[] false 0 0 false) := World.alloc_heap_new w _
 exact (Ext.heap ((Ext.refl _).alloc _) (by simp)).trans h
end Go.Proofs.YtdpmnldmbnpfpaaGreatDoor

/- graph.Ranks of a vector that may be. Conditions: whole numbers are within 64 bits. -/
namespace Go.Proofs.YtdpmnldmbnpfpaaGreatDoor
open Go.RowKit Go.Conc

/-- These wait in the channel. -/
def ChQ (w : World) (cb n : Nat) (q : List Nat) : Prop := ∃ s r, w.heap[cb]? = some (.chan n (q.map fun (x : Nat) => I (x : Int)).toArray false s r false)
theorem ChQ.lt {w : World} {cb n : Nat} {q : List Nat} (h : ChQ w cb n q) : cb < w.heap.size := by
 obtain ⟨s, r, h⟩ := h
 rcases Nat.lt_or_ge cb w.heap.size with g | g
 · exact g
 · rw [Array.getElem?_eq_none g] at h; cases h
theorem ChQ.later {w w' : World} {cb n : Nat} {q : List Nat} (h : ChQ w cb n q) (hx : Ext w w') : ChQ w' cb n q := by
 have hlt := h.lt
 obtain ⟨s, r, h2⟩ := h
 exact ⟨s, r, (Ext.heap hx hlt).trans h2⟩
theorem ChQ.grown {w w' : World} {cb n : Nat} {q : List Nat} {b : Option Nat} (h : ChQ w cb n q) (hg : w.grownBy w' b) (hb : b ≠ some cb) : ChQ w' cb n q := by
 have hlt := h.lt
 obtain ⟨s, r, h2⟩ := h
 exact ⟨s, r, (hg.block cb hlt (Ne.symm hb)).trans h2⟩
theorem ChQ.setCell {w : World} {cb n : Nat} {q : List Nat} (h : ChQ w cb n q) {p : Addr} (hp : p.block ≠ cb) (u : Value) : ChQ (w.setCell p u) cb n q :=
 h.grown (grown_set w p u) fun e => hp (Option.some.inj e)
theorem grown_chan {w : World} {cb : Nat} (cap : Nat) (buf : Array Value) (cl : Bool) (s r : Nat) (tm : Bool) : w.grownBy (w.setChan cb cap buf cl s r tm) (some cb) :=
 ⟨rfl, rfl, rfl, by simp [World.setChan], fun k _ hne => by
   have : cb ≠ k := fun e => hne (by rw [e])
   simp only [World.setChan]
   rw [Array.getElem?_setIfInBounds_ne this]⟩
theorem Ext.grownC {a w w' : World} {cb : Nat} (h : Ext a w) (hg : w.grownBy w' (some cb)) (hcb : a.heap.size <= cb) : Ext a w' :=
 Below.grown h hg h.size fun k e => by cases e; exact hcb
theorem qPut_at (qb cb n : Nat) (q : List Nat) (x : Nat) (w : World) (hq : Blk w qb [.chan (some cb)] 261) (hc : ChQ w cb n q) (hroom : q.length < n) :
 Calls Tryz.prog 175 #[.pointer (some ⟨qb, 0, none⟩), I (x : Int)] w fun e w' => e = .returned (I 0) /\ ChQ w' cb n (q ++ [x]) /\ w.grownBy w' (some cb) := by
 have hlt := hc.lt
 obtain ⟨s, r, h⟩ := hc
 refine (qPut_any qb cb n s r _ x w hq h (by simpa using hroom)).mono ?_
 rintro e w' ⟨he, rfl⟩
 refine ⟨he, ⟨s + 1, r, ?_⟩, grown_chan _ _ _ _ _ _⟩
 rw [heap_setChan _ _ _ _ _ _ _ _ hlt]
 simp
theorem qTake_at (qb cb n : Nat) (q : List Nat) (x : Nat) (w : World) (hq : Blk w qb [.chan (some cb)] 261) (hc : ChQ w cb n (x :: q)) :
 Calls Tryz.prog 178 #[.pointer (some ⟨qb, 0, none⟩)] w fun e w' => e = .returned (.tuple #[I (x : Int), I 0]) /\ ChQ w' cb n q /\ w.grownBy w' (some cb) := by
 have hlt := hc.lt
 obtain ⟨s, r, h⟩ := hc
 refine (qTake_any qb cb n s r x _ w hq h (by simp) (by simp)).mono ?_
 rintro e w' ⟨he, rfl⟩
 refine ⟨he, ⟨s, r + 1, ?_⟩, grown_chan _ _ _ _ _ _⟩
 rw [heap_setChan _ _ _ _ _ _ _ _ hlt]
 have e : Array.extract ((x :: q).map fun (x : Nat) => I (x : Int)).toArray 1 ((x :: q).map fun (x : Nat) => I (x : Int)).toArray.size = (q.map fun (x : Nat) => I (x : Int)).toArray := by
  rw [List.extract_toArray]
  simp [List.extract, <- List.map_take]
 rw [e]
theorem qLen_at (qb cb n : Nat) (q : List Nat) (w : World) (hq : Blk w qb [.chan (some cb)] 261) (hc : ChQ w cb n q) :
 Calls Tryz.prog 177 #[.pointer (some ⟨qb, 0, none⟩)] w fun e w' => e = .returned (I q.length) /\ Ext w w' := by
 obtain ⟨s, r, h⟩ := hc
 refine (qLen_any qb cb n s r _ w hq h).mono ?_
 rintro e w' ⟨rfl, hx⟩
 exact ⟨by simp, hx⟩
theorem ChQ.ne {w : World} {cb n b : Nat} {q : List Nat} {cs : List Value} {T : TypeId} (h : ChQ w cb n q) (hb : Blk w b cs T) : b ≠ cb := fun e => by
 obtain ⟨s, r, h⟩ := h
 unfold Blk at hb
 rw [e, h] at hb; cases hb
theorem Blk.grownC {w w' : World} {b cb n : Nat} {q : List Nat} {cs : List Value} {T : TypeId} (h : Blk w b cs T) (hc : ChQ w cb n q) (hg : w.grownBy w' (some cb)) : Blk w' b cs T :=
 blk_grown h (fun g e => by cases e; exact hc.ne h) hg
/-- How things stand in graph.Ranks: D are taken, Q wait, rs is what has been found. -/
structure RkS (w0 w : World) (v : List Int) (qb cb rb fb ab : Nat) (cs : List Value) (g : List Int) (Q : List Nat) (rs : List Int) : Prop where
 ext : Ext w0 w
 q : Blk w qb [.chan (some cb)] 261
 ch : ChQ w cb v.length Q
 rk : Blk w rb (icells rs) 3
 fr : Blk w fb cs 47
 al : Blk w ab (icells g) 3
theorem RkS.grown {w0 w w' : World} {v : List Int} {qb cb rb fb ab : Nat} {cs : List Value} {g rs : List Int} {Q Q' : List Nat} (h : RkS w0 w v qb cb rb fb ab cs g Q rs) (hg : w.grownBy w' (some cb)) (hcb : w0.heap.size <= cb) (hc : ChQ w' cb v.length Q') : RkS w0 w' v qb cb rb fb ab cs g Q' rs :=
 ⟨h.ext.grownC hg hcb, h.q.grownC h.ch hg, hc, h.rk.grownC h.ch hg, h.fr.grownC h.ch hg, h.al.grownC h.ch hg⟩
theorem RkS.later {w0 w w' : World} {v : List Int} {qb cb rb fb ab : Nat} {cs : List Value} {g rs : List Int} {Q : List Nat} (h : RkS w0 w v qb cb rb fb ab cs g Q rs) (hx : Ext w w') : RkS w0 w' v qb cb rb fb ab cs g Q rs :=
 ⟨h.ext.trans hx, h.q.later hx, h.ch.later hx, h.rk.later hx, h.fr.later hx, h.al.later hx⟩
theorem RkS.set {w0 w : World} {v : List Int} {qb cb rb fb ab : Nat} {cs : List Value} {g rs : List Int} {Q : List Nat} (h : RkS w0 w v qb cb rb fb ab cs g Q rs) (hrb : w0.heap.size <= rb) (hne : rb ≠ qb /\ rb ≠ fb /\ rb ≠ ab) (u : Nat) (r : Int) : RkS w0 (w.setCell ⟨rb, u, none⟩ (I r)) v qb cb rb fb ab cs g Q (rs.set u r) :=
 ⟨h.ext.setCell hrb _, h.q.other hne.1 _, h.ch.setCell (h.ch.ne h.rk) _, by have h2 := h.rk.set u (I r); unfold icells at *; rw [List.map_set]; exact h2, h.fr.other hne.2.1 _, h.al.other hne.2.2 _⟩
set_option maxHeartbeats 4000000 in
set_option maxRecDepth 100000 in
theorem gRanks_any (va : Value) (v : List Int) (w : World) (hv : IntsAt w va v) (hok : VOk v) (hl : v.length <= 256) :
 Calls Tryz.prog 132 #[va] w fun e w' => (∃ (u : Value) (rs : List Int), e = .returned (.tuple #[u, I 0]) /\ RanksIs v rs /\ OwnI w' w.heap.size u rs /\ Ext w w') \/ (e = .returned (.tuple #[.slice none 0 0, I 17]) /\ (∃ x, OnL v x) /\ Ext w w') := by
 have HV := Lib.hid hv
 have HOK := Lib.hid hok
 obtain ⟨a, cap, rfl, a1, a2, a3⟩ := hv.form
 clear a3 hv hok
 unfold maxLen at a2
 have hmk := fun w => run_make_row' (P := Tryz.prog) 47 3 (I 0) 8 Tryz.underlying47 infoInt rfl .i64 .i64 v.length (by omega) (by omega) w
 have eI : (madeCells #[I 0] v.length) = (icells (List.replicate v.length 0)).toArray := by unfold icells; rw [<- Array.toList_inj, toList_madeCells_one, List.map_replicate]
 have EI := Lib.hid eI
 clear eI
 go_enter Tryz.func132, Tryz.ntmps132
 go_upto_region 5 with (first
  | (go_at_call 173; (with_reducible refine (gSinks_any _ v _ HV.out HOK.out hl).mono ?_); rintro e w2 ⟨u, rfl, hO, hx2⟩; have HO := Lib.hid hO; obtain ⟨sa, sc, rfl, -, -, -⟩ := hO.ints.form; have HX2 := Lib.hid hx2; clear hO hx2))
 rw [EI.out]
 refine hideW (Φ := fun W => Code.wp _ _ _ _ W) (fun W => Ext w2 W /\ Blk W w2.heap.size (icells (List.replicate v.length 0)) 3)
  ⟨by (repeat with_reducible first | exact Ext.refl _ | assumption | refine Ext.alloc ?_ _ | refine Ext.drew ?_ | refine Ext.drewN ?_ _ | (refine Ext.setCellP ?_ ?_; focus (first | (simp; done) | (simp; omega) | omega))), Blk.new w2 (icells (List.replicate v.length 0)) 3⟩ (fun W1 hW1 => ?_)
 obtain ⟨hx1, hs1⟩ := hW1
 have HX1 := Lib.hid hx1
 have HS1 := Lib.hid hs1
 have HRB := Lib.hid (show w2.heap.size <= w2.heap.size from Nat.le_refl _)
 clear hx1 hs1 hmk
 generalize htb : w2.heap.size = rb at HS1 HRB ⊢
 have HTE := Lib.hid htb
 clear htb
 by_cases hn : v.length = 0
 · obtain rfl := List.length_eq_zero_iff.1 hn
   go_wp2_with fail
   go_ret2
   refine .inl ⟨_, [], rfl, ⟨rfl, fun k hk => absurd hk (Nat.not_lt_zero k)⟩, own_low (own_blk HS1.out rfl (Nat.zero_le _)) ?_, HX2.out.trans HX1.out⟩
   rw [<- HTE.out]; exact HX2.out.size
 · have hnd : decide ((v.length : Int) = 0) = false := decide_eq_false (by omega)
   have hnb : ((v.length : Int) == 0) = false := beq_false_of_ne (by omega)
   have HN1 := Lib.hid (show 1 <= v.length /\ v.length <= 4096 by omega)
   go_upto_block 0 with (first
    | (go_at_call 174; (with_reducible refine (qNew_any v.length _ HN1.out).mono ?_); rintro e w4 ⟨qb, cb, he, hq, hc, q1, q2, hx4⟩; subst he; have HQ4 := Lib.hid hq; have HC4 := Lib.hid (show ChQ w4 cb v.length [] from ⟨0, 0, hc⟩); have HQ12 := Lib.hid (And.intro q1 q2); have HX4 := Lib.hid hx4; clear hq hc q1 q2 hx4))
   have HSL := Lib.hid (show (sinksV v v.length).length = (sinkN v v.length).length by rw [sinkN_sinks, List.length_map])
   have HRL := Lib.hid (show rb < W1.heap.size from HS1.out.lt)
   have HS4 := Lib.hid (HS1.out.later HX4.out)
   have HX4' := Lib.hid (HX1.out.trans HX4.out)
   have HCB := Lib.hid (show w2.heap.size <= cb by have := HX1.out.size; have := HQ12.out.2; omega)
   have HNQ := Lib.hid (show rb ≠ qb by have := HRL.out; have := HQ12.out.1; omega)
   have HBF := Lib.hid (Bfs.start v)
   have HSK := Lib.hid (show ∀ (k u : Nat), (sinkN v v.length)[k]? = some u -> (sinksV v v.length)[k]? = some (u : Int) from fun k u h => by rw [sinkN_sinks, List.getElem?_map, h]; rfl)
   have HFW := Lib.hid HBF.out.few
   clear HX4 HS1 hn hnd hnb
   generalize hsk : sinkN v v.length = SK at *
   clear hsk
   generalize hzs : List.replicate v.length (0 : Int) = zs at *
   clear hzs
   have hsb : SK.length <= 256 := by have := HFW.out; simp at this; omega
   rw [HSL.out]
   go_cut [42] (fun _ wc => Hid (ChQ wc cb v.length SK) /\ Hid (Blk wc qb [.chan (some cb)] 261) /\ Hid (Blk wc rb (icells zs) 3) /\ Hid (Ext w2 wc))
   case first =>
    go_wp2_with fail
    go_loopw [42] (fun i wr => ∃ k : Nat, k <= SK.length /\ i = I k /\ Hid (ChQ wr cb v.length (SK.take k)) /\ Hid (Blk wr qb [.chan (some cb)] 261) /\ Hid (Blk wr rb (icells zs) 3) /\ Hid (Ext w2 wr)) (fun i _ => SK.length - (intOf i).toNat)
    case atStart => exact ⟨0, Nat.zero_le _, rfl, HC4.out, HQ4.out, HS4.out, HX4'.out⟩
    case round =>
     obtain ⟨k, hk, rfl, HC, HQ, HS, HX⟩ := hrel
     by_cases hlt : k < SK.length
     · have hkd : decide ((k : Int) < (SK.length : Int)) = true := decide_eq_true (by omega)
       have HLT := Lib.hid hlt
       obtain ⟨sa', sc', hse, -, -, hsf⟩ := HO.out.ints.form
       obtain ⟨b1, o1, he1, hc1⟩ := hsf k _ (HSK.out k _ (List.getElem?_eq_getElem hlt))
       cases hse
       subst he1
       replace hc1 := HX.out.cell hc1
       clear hsf
       have HTK := Lib.hid (List.take_succ_eq_append_getElem hlt)
       have HTL := Lib.hid (show (SK.take k).length < v.length by rw [List.length_take]; have := HFW.out; simp at this; omega)
       generalize SK[k] = y at *
       go_wp2_with (first
        | (go_at_call 175; (with_reducible refine (qPut_at qb cb v.length _ y _ HQ.out HC.out HTL.out).mono ?_); rintro e w5 ⟨he, hc5, hg5⟩; subst he; have HC5 := Lib.hid hc5; have HQ5 := Lib.hid (HQ.out.grownC HC.out hg5); have HS5 := Lib.hid (HS.out.grownC HC.out hg5); have HX5 := Lib.hid (HX.out.grownC hg5 HCB.out); clear hc5 hg5))
       go_roundw
       case rel => exact ⟨k + 1, Nat.succ_le_of_lt HLT.out, by go_num, by rw [HTK.out]; exact HC5.out, HQ5.out, HS5.out, HX5.out⟩
       case measure => have := HLT.out; simp [intOf]; omega
     · have hkd : decide ((k : Int) < (SK.length : Int)) = false := decide_eq_false (by omega)
       have HKE := Lib.hid (show k = SK.length by omega)
       go_wp2_with fail
       go_meet
       case rel => exact ⟨by have h := HC.out; rw [HKE.out, List.take_length] at h; exact h, HQ.out, HS.out, HX.out⟩
   case rest =>
    obtain ⟨HC, HQ, HS, HX⟩ := hcut
    clear HC4 HQ4 HS4 HX4'
    go_upto_block 2 with (first
     | (go_at_call 176; (with_reducible refine (gBack_any _ v _ (HV.out.later (HX2.out.trans HX.out)) HOK.out hl).mono ?_); rintro e w6 ⟨fb, ab, cs, g, he, hcs, hg, hfb, hab, f1, f2, f3, hx6⟩; subst he; have HCS := Lib.hid hcs; have HGG := Lib.hid hg; have HST := Lib.hid (show RkS w2 w6 v qb cb rb fb ab cs g SK zs from ⟨HX.out.trans hx6, HQ.out.later hx6, HC.out.later hx6, HS.out.later hx6, hfb, hab⟩); have HNE := Lib.hid (show rb ≠ qb /\ rb ≠ fb /\ rb ≠ ab by have h1 := HNQ.out; have h2 := HS.out.lt; omega); clear hcs hg hfb hab f1 f2 f3 hx6))
    have HRB2 := Lib.hid (show w2.heap.size <= rb from Nat.le_of_eq HTE.out)
    clear HC HQ HS HX HX1 hsb HSL HSK HFW HO HQ12 HRL HNQ HTE HRB EI HN1
    go_wp2_with fail
    go_loopw [11] (fun d wr => ∃ (D Q : List Nat) (rs : List Int), d = I D.length /\ D.length <= v.length /\ Hid (Bfs v D Q rs) /\ Hid (RkS w2 wr v qb cb rb fb ab cs g Q rs)) (fun d _ => v.length - (intOf d).toNat)
    case atStart => exact ⟨[], SK, zs, rfl, Nat.zero_le _, HBF.out, HST.out⟩
    case round =>
     obtain ⟨D, Q, rs, rfl, hD, HB, HR⟩ := hrel
     cases Q with
     | nil =>
       have HLEN := Lib.hid (show ((([] : List Nat).length : Nat) : Int) = 0 from rfl)
       by_cases hdl : D.length < v.length
       · have hdd : decide ((D.length : Int) < (v.length : Int)) = true := decide_eq_true (by omega)
         have HDL := Lib.hid hdl
         go_wp2_with (first
          | (go_at_call 177; (with_reducible refine (qLen_at qb cb v.length _ _ HR.out.q HR.out.ch).mono ?_); rintro e w7 ⟨he, hx7⟩; rw [HLEN.out] at he; subst he; have HR7 := Lib.hid (HR.out.later hx7); clear hx7))
         go_ret2
         exact .inr ⟨rfl, HB.out.loops HOK.out HDL.out, HX2.out.trans HR7.out.ext⟩
       · have HDL := Lib.hid (show v.length <= D.length by omega)
         have hdd : decide ((D.length : Int) < (v.length : Int)) = false := decide_eq_false (by omega)
         go_wp2_with (first
          | (go_at_call 177; (with_reducible refine (qLen_at qb cb v.length _ _ HR.out.q HR.out.ch).mono ?_); rintro e w7 ⟨he, hx7⟩; rw [HLEN.out] at he; subst he; have HR7 := Lib.hid (HR.out.later hx7); clear hx7))
         go_ret2
         exact .inl ⟨_, rs, rfl, HB.out.full HDL.out, own_low (own_blk HR7.out.rk HB.out.len (by unfold maxLen; omega)) (Nat.le_trans HX2.out.size HRB2.out), HX2.out.trans HR7.out.ext⟩
     | cons x Q =>
       have HQL := Lib.hid (show (((x :: Q).length : Nat) : Int) = ((Q.length + 1 : Nat) : Int) from rfl)
       have hql : decide ((0 : Int) < ((Q.length + 1 : Nat) : Int)) = true := decide_eq_true (by omega)
       have hq0 : 0 < Q.length + 1 := Nat.succ_pos _
       have HFW := Lib.hid HB.out.few
       have hdl : D.length < v.length := by have := HFW.out; simp at this; omega
       have HXL := Lib.hid (show x < v.length from HB.out.bd x (List.mem_append_right _ (List.mem_cons_self ..)))
       generalize hql1 : Q.length + 1 = ql at *
       clear hql1
       obtain ⟨xa, hxc, hxe⟩ := HCS.out.2 x HXL.out
       have HXE := Lib.hid hxe
       have HAE := Lib.hid (at_end v x)
       have HXC := Lib.hid hxc
       have hxl := HXL.out
       have hcnb : cntN v v.length x <= 256 := by have := HAE.out; omega
       clear hxe hxc
       generalize hcn : cntN v v.length x = cn at HXE HAE HXC hcnb
       have HCN := Lib.hid hcn
       clear hcn
       obtain ⟨wo, rfl⟩ : ∃ wo : World, wo = wr := ⟨_, rfl⟩
       go_wp2_with (first
        | (go_at_call 177; (with_reducible refine (qLen_at qb cb v.length _ _ HR.out.q HR.out.ch).mono ?_); rintro e w7 ⟨he, hx7⟩; rw [HQL.out] at he; subst he; have HR7 := Lib.hid (HR.out.later hx7); clear hx7)
        | (go_at_call 178; (with_reducible refine (qTake_at qb cb v.length Q x _ HR7.out.q HR7.out.ch).mono ?_); rintro e w8 ⟨he, hc8, hg8⟩; subst he; have HR8 := Lib.hid (HR7.out.grown hg8 HCB.out hc8); have hfc8 := (HR8.out.fr.cells x).trans HXC.out; clear hc8 hg8))
       go_loopw [67] (fun j wq => ∃ (jn : Nat) (Q' : List Nat) (rs' : List Int), jn <= cn /\ j = I jn /\ Hid (BfsIn v D x jn Q' rs') /\ Hid (RkS w2 wq v qb cb rb fb ab cs g Q' rs')) (fun j _ => cn - (intOf j).toNat)
       case atStart => exact ⟨0, Q, rs, Nat.zero_le _, rfl, HB.out.take, HR8.out⟩
       case round =>
        obtain ⟨j, Q', rs', hj, rfl, HBI, HRI⟩ := hrel
        clear hfc8
        by_cases hlt : j < cn
        · have hjd : decide ((j : Int) < (cn : Int)) = true := decide_eq_true (by omega)
          have HLT := Lib.hid hlt
          obtain rfl := HXE.out (by omega)
          obtain ⟨u, hu⟩ : ∃ u, (predN v v.length x)[j]? = some u := ⟨_, List.getElem?_eq_getElem (by show j < cntN v v.length x; rw [HCN.out]; exact hlt)⟩
          have HU := Lib.hid hu
          have HUL := Lib.hid (pred_mem.1 (List.mem_of_getElem? hu)).1
          have hul := HUL.out
          obtain ⟨m, hm1, hm2⟩ := HBI.out.rank x (List.mem_append_right _ (List.mem_cons_self ..))
          have hmb : m < v.length := hm2.lt HOK.out ⟨by omega, by omega⟩
          have HM := Lib.hid hm1
          have hac := (HRI.out.al.cells (offN v x + j)).trans ((icell_get (q := g) (k := offN v x + j) (by rw [HGG.out.1]; have := HAE.out; omega)).trans (by rw [HGG.out.2 x hxl j u hu]))
          have hrc := (HRI.out.rk.cells x).trans (show (icells rs')[x]? = some (I (m : Int)) by unfold icells; rw [List.getElem?_map, hm1]; rfl)
          obtain ⟨z, hz⟩ : ∃ z, (icells rs')[u]? = some z := ⟨_, List.getElem?_eq_getElem (by rw [icells_len, HBI.out.len]; exact hul)⟩
          have hrc2 := (HRI.out.rk.cells u).trans hz
          have hrf := HRI.out.rk.frozen
          have HRS := Lib.hid (HRI.out.set HRB2.out HNE.out u ((m : Int) + 1))
          have HBS := Lib.hid (HBI.out.step hu hm1)
          have HRM := Lib.hid (show Q'.length < v.length by have := HBI.out.room hu; omega)
          clear hu hm1 hm2 hz
          generalize offN v x = off at *
          go_wp2_with (first
           | (go_at_call 175; (with_reducible refine (qPut_at qb cb v.length _ u _ HRS.out.q HRS.out.ch HRM.out).mono ?_); rintro e w9 ⟨he, hc9, hg9⟩; subst he; have HR9 := Lib.hid (HRS.out.grown hg9 HCB.out hc9); clear hc9 hg9))
          go_roundw
          case rel => exact ⟨j + 1, _, _, Nat.succ_le_of_lt HLT.out, by go_num, HBS.out, HR9.out⟩
          case measure => have := HLT.out; simp [intOf]; omega
        · have HJE := Lib.hid (show j = cn by omega)
          have HBD := Lib.hid (show Bfs v (D ++ [x]) Q' rs' from by have h := HBI.out; rw [HJE.out, <- HCN.out] at h; exact h.done)
          have HDL := Lib.hid hdl
          go_wp2_with fail
          go_roundw
          case rel => exact ⟨D ++ [x], Q', rs', by rw [List.length_append]; go_num, by rw [List.length_append]; exact Nat.succ_le_of_lt HDL.out, HBD.out, HRI.out⟩
          case measure => have := HDL.out; simp [intOf]; omega
end Go.Proofs.YtdpmnldmbnpfpaaGreatDoor
