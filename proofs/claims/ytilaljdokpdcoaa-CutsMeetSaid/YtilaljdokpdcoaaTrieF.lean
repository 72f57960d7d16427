/- A rule is put into the trie: the walk. Conditions: its prefix may be; the trie is not greater than 10^15 forks. -/
import Derived.Test.YtilaljdokpdcoaaTrieE
namespace Go.Proofs.Ytilaljdokpdcoaa
open Go.RowKit

theorem turned_same {w w' : World} {tb : Nat} {vt v2 : Value} {s : Int} {pb po : Nat} {pcs : List Value} {PT : TypeId} {bs2 : List Nat} (hT : Blk w tb [vt, I s] 96) (hp : Blk w pb pcs PT) (hv : pcs[po]? = some v2)
    (h : ∀ q, q < w.heap.size → q ∉ bs2 → w'.heap[q]? = w.heap[q]?) : Turned w w' pb po v2 tb s bs2 := fun q hq hn => by
  have h1 := set_same hp hv
  have hT2 : Blk (w.setCell ⟨pb, po, none⟩ v2) tb [vt, I s] 96 := by unfold Blk at hT ⊢; rw [h1]; exact hT
  rw [h q hq hn, set_same hT2 rfl, h1]
theorem hang_stop (w : World) (B tb : Nat) (vt : Value) (sz : Int) (pb po : Nat) (pcs : List Value) (PT : TypeId) (fb : Nat) (pa : BitVec 32) (n : Int) (r : Rul) (old : T) (v : Value) (bs : List Nat)
    (h : HangPre w B tb vt sz pb po pcs PT fb pa n r old v bs) (hs : Stop pa n old) :
    Calls Try.prog 79 #[.pointer (some ⟨tb, 0, none⟩), .pointer (some ⟨pb, po, none⟩), .pointer (some ⟨fb, 0, none⟩)] w fun e w' =>
      e = .returned (.tuple #[]) ∧ ∃ v' bs', HangPost w w' B tb pb po fb sz pa n r old bs v' bs' := by
  cases old with
  | nil => exact hang_nil w B tb vt sz pb po pcs PT fb pa n r v bs h
  | node qa qn qr qi ql qk => exact hang_node w B tb vt sz pb po pcs PT fb pa n r v bs qa qn qr qi ql qk h fun e => meet_bits h.valid h.ok.1 e hs
/-- The fork made, the world of the call of hang. -/
theorem hole_pre {w wc : World} {B tb : Nat} {t : T} {v0 : Value} {bs : List Nat} {pa : BitVec 32} {n : Int} {r : Rul} {pb po : Nat} {sub : T} {v2 : Value} {bs2 : List Nat} (hT : TrieAt w B tb t v0 bs) (h : Hole w B tb t pa n r pb po sub v2 bs2) (hr : Valid pa n) (hs : t.size ≤ 1000000000000000)
    (hx : Ext w wc) : ∃ pcs PT, HangPre (wc.alloc (.cells (forkC pa n r true (.pointer none) (.pointer none)).toArray 104)) B tb v0 t.size pb po pcs PT wc.heap.size pa n r sub v2 bs2 := by
  obtain ⟨pcs, PT, hp, hg⟩ := h.place
  have hl := hx.size
  have l1 := hT.blk.lt
  have l2 := hp.lt
  have hB := hT.low tb (by simp)
  refine ⟨pcs, PT, (hT.blk.later hx).old _, (hp.later hx).old _, hg, h.alias, Blk.newAt _ rfl, (h.tree.later hx).later ((Ext.refl _).alloc _), ?_, ?_, fun q hq => ⟨?_, h.apart q hq⟩, h.nodup, hB, h.low, ?_, ?_, ?_, hr, h.ok⟩
  · omega
  · omega
  · have := h.tree.lt q hq; omega
  · omega
  · omega
  · omega

theorem and_out {α β : Type} {P : α → β → Prop} {Q : Prop} (hq : Q) (h : ∃ a b, P a b) : ∃ a b, P a b ∧ Q := let ⟨a, b, h⟩ := h; ⟨a, b, h, hq⟩
theorem put_set {w w' : World} {B tb : Nat} {t : T} {v0 : Value} {bs : List Nat} {pa : BitVec 32} {n : Int} {r : Rul} {pb po : Nat} {bs2 : List Nat} {qa : BitVec 32} {qn : Int} {qr r2 : Rul} {qi i2 : Bool} {l k : T} {b : Nat}
    (hT : TrieAt w B tb t v0 bs) (h : Hole w B tb t pa n r pb po (.node qa qn qr qi l k) (.pointer (some ⟨b, 0, none⟩)) bs2) (hput : putT pa n r (.node qa qn qr qi l k) = .node qa qn r2 i2 l k)
    (hz : w.heap.size ≤ w'.heap.size) (hx : ∀ q, q < w.heap.size → q ≠ b → w'.heap[q]? = w.heap[q]?) (hb : ∀ vl vk, Blk w b (forkC qa qn qr qi vl vk) 104 → Blk w' b (forkC qa qn r2 i2 vl vk) 104) :
    ∃ root bsAll, TrieAt w' B tb (putT pa n r t) root bsAll := by
  obtain ⟨pcs, PT, hp, hg⟩ := h.place
  obtain ⟨b', bl, bk, vl, vk, hb', rfl, hblk, hl, hk⟩ := h.tree
  simp only [Value.pointer.injEq, Option.some.injEq, Addr.mk.injEq, and_true] at hb'
  subst hb'
  obtain ⟨n1, n2⟩ := List.nodup_cons.1 h.nodup
  have nl : b ∉ bl := fun hq => n1 (by simp [hq])
  have nk : b ∉ bk := fun hq => n1 (by simp [hq])
  refine h.back w' _ _ t.size hz (turned_same hT.blk hp hg fun q hq hn => hx q hq fun e => hn (by simp [e])) ?_ h.nodup (fun q hq => .inl hq) (by rw [hput]; simp only [T.size]; omega)
  rw [hput]
  exact ⟨b, bl, bk, vl, vk, rfl, rfl, hb _ _ hblk, hl.same fun q hq => hx q (hl.lt q hq) fun e => nl (e ▸ hq), hk.same fun q hq => hx q (hk.lt q hq) fun e => nk (e ▸ hq)⟩
theorem put_hung {w wc w' : World} {B tb : Nat} {t : T} {v0 : Value} {bs : List Nat} {pa : BitVec 32} {n : Int} {r : Rul} {pb po : Nat} {sub : T} {v2 : Value} {bs2 : List Nat} (hT : TrieAt w B tb t v0 bs) (h : Hole w B tb t pa n r pb po sub v2 bs2) (hst : Stop pa n sub) (hx : Ext w wc) {o : Obj} {v' : Value} {bs' : List Nat}
    (hp : HangPost (wc.alloc o) w' B tb pb po wc.heap.size t.size pa n r sub bs2 v' bs') : (∃ root bsAll, TrieAt w' B tb (putT pa n r t) root bsAll) ∧ Below B w w' := by
  have hsz := hp.upd.size
  have hl := hx.size
  have hal : (wc.alloc o).heap.size = wc.heap.size + 1 := by simp
  have hB := hT.low tb (by simp)
  have htb := hT.blk.lt
  have e1 := stop_put (r := r) hst
  refine ⟨h.back w' v' bs' (t.size + hangK pa n sub) (by omega) (fun q hq hn => ?_) (by rw [e1]; exact hp.tree) hp.nodup (fun q hq => ?_) (by rw [e1, hang_size]; omega), ?_⟩
  · rw [hp.upd.blk q (by omega) (by omega), heap_set, heap_set, heap_set, heap_set]
    rw [Below.block ((Ext.refl wc).alloc o) q (by omega), Below.block hx q hq]
  · rcases hp.from' q hq with h2 | h2 | h2
    · exact .inl h2
    · exact .inr (by omega)
    · exact .inr (by omega)
  · exact Below.trans (Below.mono (hx.alloc o) (by omega)) hp.below

set_option maxHeartbeats 4000000 in
theorem triePut_any (w : World) (B tb : Nat) (t : T) (v : Value) (bs : List Nat) (r : Rul) (h : TrieAt w B tb t v bs) (hr : Valid r.pa r.pl) (hs : t.size ≤ 1000000000000000) :
    Calls Try.prog 63 #[.pointer (some ⟨tb, 0, none⟩), r.val] w fun e w' => e = .returned (.tuple #[]) ∧ ∃ v' bs', TrieAt w' B tb (putT r.pa r.pl r t) v' bs' ∧ Below B w w' := by
  have HT := Lib.hid h
  have hB := h.low tb (by simp)
  have htb := h.blk.lt
  have HV := Lib.hid hr
  have HI := Lib.hid hr.in64
  clear h hr
  go_enter Try.func63, Try.ntmps63
  go_upto_block 0 with (fail)
  refine hideW (Φ := fun W => Code.wp _ _ _ _ W) (fun W => Ext w W ∧ Blk W w.heap.size r.cells 42 ∧ Blk W (w.heap.size + 1) [U r.pa, I r.pl] 101) ⟨?_, ?_, ?_⟩ (fun W0 hW0 => ?_)
  · (repeat (first | with_reducible exact Ext.refl _ | with_reducible assumption | with_reducible refine Ext.alloc ?_ _ | with_reducible refine Ext.drew ?_ | with_reducible refine Ext.drewN ?_ _ | (with_reducible refine Ext.setCellP ?_ ?_; focus (first | (simp; done) | (simp; omega) | omega))))
  · (repeat (first | with_reducible assumption | (with_reducible refine Blk.newAt _ ?_; focus (first | with_reducible rfl | (simp; done))) | with_reducible refine Blk.old ?_ _ | with_reducible refine Blk.drew ?_))
  · (repeat (first | with_reducible assumption | (with_reducible refine Blk.newAt _ ?_; focus (first | with_reducible rfl | (simp; done))) | with_reducible refine Blk.old ?_ _ | with_reducible refine Blk.drew ?_))
  obtain ⟨hx0, cR, cS⟩ := hW0
  have hT0 := HT.out.later hx0
  have hH := Hole.top r.pa r.pl r HV.out hT0
  have kR := cR.keep
  have kS := cS.keep
  have hz0 := hx0.size
  go_cut [5] (fun place wc => ∃ pb po sub v2 bs2, place = .pointer (some ⟨pb, po, none⟩) ∧ Ext W0 wc ∧ Hole W0 B tb t r.pa r.pl r pb po sub v2 bs2 ∧ Stop r.pa r.pl sub)
  case first =>
    go_wp2_with fail
    go_loopg [5] t.size (fun g place wr => ∃ (pb po : Nat) (sub : T) (v2 : Value) (bs2 : List Nat), place = .pointer (some ⟨pb, po, none⟩) ∧ sub.size ≤ g ∧ Hid (Hole W0 B tb t r.pa r.pl r pb po sub v2 bs2) ∧ Ext W0 wr)
    case atStart => exact ⟨tb, 0, t, v, bs, rfl, Nat.le_refl _, hH, Ext.refl _⟩
    case round =>
      obtain ⟨pb, po, sub, v2, bs2, rfl, hg, HH, hx⟩ := hrel
      obtain ⟨pcs, PT, hp, hgt⟩ := HH.out.place
      have kP := Ext.keep (show wr.cell? ⟨pb, po, none⟩ = some v2 by rw [(hp.later hx).cells, hgt])
      have HG := Lib.hid hg
      clear hgt hg hH kR kS
      cases sub with
      | nil =>
        obtain ⟨rfl, rfl⟩ := HH.out.tree
        go_wp2_with fail
        go_meet
        exact ⟨pb, po, .nil, _, _, rfl, hx, HH.out, trivial⟩
      | node qa qn qr qi l k =>
        have HT2 := Lib.hid HH.out.tree
        have HQ := Lib.hid HH.out.ok.1.in64
        obtain ⟨b, bl, bk, vl, vk, rfl, rfl, hb, hl, hk⟩ := HT2.out
        clear HT2 hl hk
        have hb1 := hb.later hx
        have cR1 := cR.later hx
        have cS1 := cS.later hx
        have kF := hb1.keep
        have kR := cR1.keep
        have kS := cS1.keep
        go_wp2_with fail
        refine wp_region_E 7 rfl (by kernel_rfl) (by kernel_rfl) ?_
        refine WE_q 0 rfl (by decide) (by kernel_rfl) rfl ?_; apply Exists.intro; refine ⟨fun w1 hx1 => ?_, ?_⟩
        · have hq1 := hx1.cells; go_simp; try go_bits
          first | with_reducible rfl | (refine (spanMeet_any _ _ _ _ _ HQ.out HI.out).mono ?_; rintro e w' ⟨rfl, hx'⟩; exact ⟨rfl, hx'⟩)
        simp only [Act.put, List.setIfInBounds_toArray, List.set_cons_zero, List.set_cons_succ]
        refine WE_q 1 rfl (by decide) (by kernel_rfl) rfl ?_; apply Exists.intro; refine ⟨fun w1 hx1 => ?_, ?_⟩
        · have hq1 := hx1.cells; go_simp; try go_bits
          first | with_reducible rfl | (refine (spanMeet_any _ _ _ _ _ HQ.out HI.out).mono ?_; rintro e w' ⟨rfl, hx'⟩; exact ⟨rfl, hx'⟩)
        simp only [Act.put, List.setIfInBounds_toArray, List.set_cons_zero, List.set_cons_succ]
        refine WE_q 2 rfl (by decide) (by kernel_rfl) rfl ?_; apply Exists.intro; refine ⟨fun w1 hx1 => ?_, ?_⟩
        · have hq1 := hx1.cells; go_simp; try go_bits
          first | with_reducible rfl | (refine (spanMeet_any _ _ _ _ _ HQ.out HI.out).mono ?_; rintro e w' ⟨rfl, hx'⟩; exact ⟨rfl, hx'⟩)
        simp only [Act.put, List.setIfInBounds_toArray, List.set_cons_zero, List.set_cons_succ]
        refine WE_q 3 rfl (by decide) (by kernel_rfl) rfl ?_; apply Exists.intro; refine ⟨fun w1 hx1 => ?_, ?_⟩
        · have hq1 := hx1.cells; go_simp; try go_bits
          first | with_reducible rfl | (refine (spanMeet_any _ _ _ _ _ HQ.out HI.out).mono ?_; rintro e w' ⟨rfl, hx'⟩; exact ⟨rfl, hx'⟩)
        simp only [Act.put, List.setIfInBounds_toArray, List.set_cons_zero, List.set_cons_succ]
        refine WE_q 4 rfl (by decide) (by kernel_rfl) rfl ?_; apply Exists.intro; refine ⟨fun w1 hx1 => ?_, ?_⟩
        · have hq1 := hx1.cells; go_simp; try go_bits
          first | with_reducible rfl | (refine (spanMeet_any _ _ _ _ _ HQ.out HI.out).mono ?_; rintro e w' ⟨rfl, hx'⟩; exact ⟨rfl, hx'⟩)
        simp only [Act.put, List.setIfInBounds_toArray, List.set_cons_zero, List.set_cons_succ]
        refine WE_q 5 rfl (by decide) (by kernel_rfl) rfl ?_; apply Exists.intro; refine ⟨fun w1 hx1 => ?_, ?_⟩
        · have hq1 := hx1.cells; go_simp; try go_bits
          first | with_reducible rfl | (refine (spanMeet_any _ _ _ _ _ HQ.out HI.out).mono ?_; rintro e w' ⟨rfl, hx'⟩; exact ⟨rfl, hx'⟩)
        simp only [Act.put, List.setIfInBounds_toArray, List.set_cons_zero, List.set_cons_succ]
        refine WE_do 6 rfl (by decide) (by kernel_rfl) rfl (fun wa hxa K hK => ?_)
        go_simp
        refine hK _ _ ((Ext.refl _).alloc _) ?_
        clear hK K
        refine WE_done (by kernel_rfl) (fun wb hxb => ?_)
        (try simp only [List.drop_succ_cons, List.drop_zero])
        have hsa : wr.heap.size ≤ wa.heap.size := hxa.size
        have hx1b : Ext wr wb := hxa.trans (((Ext.refl wa).alloc _).trans hxb)
        have cM : Blk wb wa.heap.size [.int .u32 0, .int .i64 0] 101 := Blk.later (by (repeat (first | with_reducible assumption | (with_reducible refine Blk.newAt _ ?_; focus (first | with_reducible rfl | (simp; done))) | with_reducible refine Blk.old ?_ _ | with_reducible refine Blk.drew ?_))) hxb
        have kM := cM.cells
        have kMf := cM.frozen
        clear hxa hxb
        go_wp2_with fail
        refine hideW (Φ := fun W => Code.wp _ _ _ _ W) (fun W => Ext wr W ∧ Blk W wa.heap.size [U (meetA qa qn r.pa r.pl), I (meetN qa qn r.pa r.pl)] 101) ⟨?_, (cM.set 0 _).set 1 _⟩ (fun W4 hW4 => ?_)
        · exact Ext.setCellP hsa (Ext.setCellP hsa hx1b)
        obtain ⟨hx4, cM4⟩ := hW4
        clear cM kM kMf hx1b
        generalize wa.heap.size = sb at *
        clear wa wb
        have kM := cM4.keep
        have kF := (hb1.later hx4).keep
        have kR := (cR1.later hx4).keep
        have kS := (cS1.later hx4).keep
        by_cases hsp : meetA qa qn r.pa r.pl = qa ∧ meetN qa qn r.pa r.pl = qn
        · have hspd : decide (meetA qa qn r.pa r.pl = qa ∧ meetN qa qn r.pa r.pl = qn) = true := decide_eq_true hsp
          refine wp_region_E 5 rfl (by kernel_rfl) (by kernel_rfl) ?_
          refine WE_q 0 rfl (by decide) (by kernel_rfl) rfl ?_; apply Exists.intro; refine ⟨fun w1 hx1 => ?_, ?_⟩
          · have hq1 := hx1.cells; go_simp; try go_bits
            first | with_reducible rfl
          simp only [Act.put, List.setIfInBounds_toArray, List.set_cons_zero, List.set_cons_succ]
          refine WE_q 1 rfl (by decide) (by kernel_rfl) rfl ?_; apply Exists.intro; refine ⟨fun w1 hx1 => ?_, ?_⟩
          · have hq1 := hx1.cells; go_simp; try go_bits
            first | with_reducible rfl
          simp only [Act.put, List.setIfInBounds_toArray, List.set_cons_zero, List.set_cons_succ]
          refine WE_q 2 rfl (by decide) (by kernel_rfl) rfl ?_; apply Exists.intro; refine ⟨fun w1 hx1 => ?_, ?_⟩
          · have hq1 := hx1.cells; go_simp; try go_bits
            first | with_reducible rfl
          simp only [Act.put, List.setIfInBounds_toArray, List.set_cons_zero, List.set_cons_succ]
          refine WE_q 3 rfl (by decide) (by kernel_rfl) rfl ?_; apply Exists.intro; refine ⟨fun w1 hx1 => ?_, ?_⟩
          · have hq1 := hx1.cells; go_simp; try go_bits
            first | with_reducible rfl
          simp only [Act.put, List.setIfInBounds_toArray, List.set_cons_zero, List.set_cons_succ]
          refine WE_q 4 rfl (by decide) (by kernel_rfl) rfl ?_; apply Exists.intro; refine ⟨fun w1 hx1 => ?_, ?_⟩
          · have hq1 := hx1.cells; go_simp; try go_bits
            first | with_reducible rfl
          simp only [Act.put, List.setIfInBounds_toArray, List.set_cons_zero, List.set_cons_succ]
          refine WE_done (by kernel_rfl) (fun w5 hx5 => ?_)
          (try simp only [List.drop_succ_cons, List.drop_zero])
          have HSP := Lib.hid hsp
          clear hsp
          go_wp2_with fail
          have hx15 := hx4.trans hx5
          have kF := (hb1.later hx15).keep
          have kS := (cS1.later hx15).keep
          by_cases hne : r.pa = qa ∧ r.pl = qn
          · have hned : decide (r.pa = qa ∧ r.pl = qn) = true := decide_eq_true hne
            refine wp_region_E 5 rfl (by kernel_rfl) (by kernel_rfl) ?_
            refine WE_q 0 rfl (by decide) (by kernel_rfl) rfl ?_; apply Exists.intro; refine ⟨fun w1 hx1 => ?_, ?_⟩
            · have hq1 := hx1.cells; go_simp; try go_bits
              first | with_reducible rfl
            simp only [Act.put, List.setIfInBounds_toArray, List.set_cons_zero, List.set_cons_succ]
            refine WE_q 1 rfl (by decide) (by kernel_rfl) rfl ?_; apply Exists.intro; refine ⟨fun w1 hx1 => ?_, ?_⟩
            · have hq1 := hx1.cells; go_simp; try go_bits
              first | with_reducible rfl
            simp only [Act.put, List.setIfInBounds_toArray, List.set_cons_zero, List.set_cons_succ]
            refine WE_q 2 rfl (by decide) (by kernel_rfl) rfl ?_; apply Exists.intro; refine ⟨fun w1 hx1 => ?_, ?_⟩
            · have hq1 := hx1.cells; go_simp; try go_bits
              first | with_reducible rfl
            simp only [Act.put, List.setIfInBounds_toArray, List.set_cons_zero, List.set_cons_succ]
            refine WE_q 3 rfl (by decide) (by kernel_rfl) rfl ?_; apply Exists.intro; refine ⟨fun w1 hx1 => ?_, ?_⟩
            · have hq1 := hx1.cells; go_simp; try go_bits
              first | with_reducible rfl
            simp only [Act.put, List.setIfInBounds_toArray, List.set_cons_zero, List.set_cons_succ]
            refine WE_q 4 rfl (by decide) (by kernel_rfl) rfl ?_; apply Exists.intro; refine ⟨fun w1 hx1 => ?_, ?_⟩
            · have hq1 := hx1.cells; go_simp; try go_bits
              first | with_reducible rfl
            simp only [Act.put, List.setIfInBounds_toArray, List.set_cons_zero, List.set_cons_succ]
            refine WE_done (by kernel_rfl) (fun w6 hx6 => ?_)
            (try simp only [List.drop_succ_cons, List.drop_zero])
            have HNE := Lib.hid hne
            clear hne
            have hx16 := hx.trans (hx15.trans hx6)
            have hb6 := hb.later hx16
            have kF := hb6.cells
            have kFf := hb6.frozen
            have kR := (cR.later hx16).cells
            cases qi with
            | true =>
              go_wp2
              refine bodyPost_ret (v := .tuple #[]) (results_none Try.results63 _ _ _) rfl ⟨rfl, ?_⟩
              obtain ⟨root, all, hF⟩ := put_set (w' := w6) hT0 HH.out (r2 := qr) (i2 := true) (by rw [putT, if_pos HSP.out, if_pos HNE.out]; rfl) hx16.size (fun q hq _ => Below.block hx16 q hq) (fun vl vk h => h.later hx16)
              exact ⟨root, all, hF, Below.mono (hx0.trans hx16) (by omega)⟩
            | false =>
              go_wp2
              refine bodyPost_ret (v := .tuple #[]) (results_none Try.results63 _ _ _) rfl ⟨rfl, ?_⟩
              have hbB := HH.out.lows b (by simp)
              refine and_out ?_ (put_set hT0 HH.out (r2 := r) (i2 := true) (by rw [putT, if_pos HSP.out, if_pos HNE.out]; rfl) ?_ ?_ ?_)
              · exact (((((Below.mono (hx0.trans hx16) (by omega)).setCell hbB _).setCell hbB _).setCell hbB _).setCell hbB _).setCell hbB _
              · simp [World.setCell]; exact hx16.size
              · intro q hq hne
                rw [Below.heap_setCell _ _ _ _ hne, Below.heap_setCell _ _ _ _ hne, Below.heap_setCell _ _ _ _ hne, Below.heap_setCell _ _ _ _ hne, Below.heap_setCell _ _ _ _ hne]
                exact Below.block hx16 q hq
              · intro vl vk h
                exact (((((h.later hx16).set 2 _).set 3 _).set 4 _).set 5 _).set 6 _
          · have hned : decide (r.pa = qa ∧ r.pl = qn) = false := decide_eq_false hne
            refine wp_region_E 5 rfl (by kernel_rfl) (by kernel_rfl) ?_
            refine WE_q 0 rfl (by decide) (by kernel_rfl) rfl ?_; apply Exists.intro; refine ⟨fun w1 hx1 => ?_, ?_⟩
            · have hq1 := hx1.cells; go_simp; try go_bits
              first | with_reducible rfl
            simp only [Act.put, List.setIfInBounds_toArray, List.set_cons_zero, List.set_cons_succ]
            refine WE_q 1 rfl (by decide) (by kernel_rfl) rfl ?_; apply Exists.intro; refine ⟨fun w1 hx1 => ?_, ?_⟩
            · have hq1 := hx1.cells; go_simp; try go_bits
              first | with_reducible rfl
            simp only [Act.put, List.setIfInBounds_toArray, List.set_cons_zero, List.set_cons_succ]
            refine WE_q 2 rfl (by decide) (by kernel_rfl) rfl ?_; apply Exists.intro; refine ⟨fun w1 hx1 => ?_, ?_⟩
            · have hq1 := hx1.cells; go_simp; try go_bits
              first | with_reducible rfl
            simp only [Act.put, List.setIfInBounds_toArray, List.set_cons_zero, List.set_cons_succ]
            refine WE_q 3 rfl (by decide) (by kernel_rfl) rfl ?_; apply Exists.intro; refine ⟨fun w1 hx1 => ?_, ?_⟩
            · have hq1 := hx1.cells; go_simp; try go_bits
              first | with_reducible rfl
            simp only [Act.put, List.setIfInBounds_toArray, List.set_cons_zero, List.set_cons_succ]
            refine WE_q 4 rfl (by decide) (by kernel_rfl) rfl ?_; apply Exists.intro; refine ⟨fun w1 hx1 => ?_, ?_⟩
            · have hq1 := hx1.cells; go_simp; try go_bits
              first | with_reducible rfl
            simp only [Act.put, List.setIfInBounds_toArray, List.set_cons_zero, List.set_cons_succ]
            refine WE_done (by kernel_rfl) (fun w6 hx6 => ?_)
            (try simp only [List.drop_succ_cons, List.drop_zero])
            have HNE := Lib.hid hne
            clear hne
            go_wp2_with fail
            have hx16 := hx.trans (hx15.trans hx6)
            have kF := (hb.later hx16).keep
            have kS := (cS.later hx16).keep
            have hs1 : 1 + l.size + k.size ≤ gk := HG.out
            obtain ⟨vl2, vk2, bl2, bk2, hb2, hk1, hk2⟩ := HH.out.kid HSP.out HNE.out
            have HK1 := Lib.hid hk1
            have HK2 := Lib.hid hk2
            clear hk1 hk2
            rcases bit01 r.pa qn with g | g
            · have GG := Lib.hid g
              clear g
              refine wp_region_E 12 rfl (by kernel_rfl) (by kernel_rfl) ?_
              refine WE_q 0 rfl (by decide) (by kernel_rfl) rfl ?_; apply Exists.intro; refine ⟨fun w1 hx1 => ?_, ?_⟩
              · have hq1 := hx1.cells; go_simp; try go_bits
                first | with_reducible rfl | (refine (bit_any _ _ _ HQ.out).mono ?_; rintro e w' ⟨rfl, rfl⟩; exact ⟨by rw [GG.out], Ext.refl _⟩)
              simp only [Act.put, List.setIfInBounds_toArray, List.set_cons_zero, List.set_cons_succ]
              refine WE_q 1 rfl (by decide) (by kernel_rfl) rfl ?_; apply Exists.intro; refine ⟨fun w1 hx1 => ?_, ?_⟩
              · have hq1 := hx1.cells; go_simp; try go_bits
                first | with_reducible rfl | (refine (bit_any _ _ _ HQ.out).mono ?_; rintro e w' ⟨rfl, rfl⟩; exact ⟨by rw [GG.out], Ext.refl _⟩)
              simp only [Act.put, List.setIfInBounds_toArray, List.set_cons_zero, List.set_cons_succ]
              refine WE_q 2 rfl (by decide) (by kernel_rfl) rfl ?_; apply Exists.intro; refine ⟨fun w1 hx1 => ?_, ?_⟩
              · have hq1 := hx1.cells; go_simp; try go_bits
                first | with_reducible rfl | (refine (bit_any _ _ _ HQ.out).mono ?_; rintro e w' ⟨rfl, rfl⟩; exact ⟨by rw [GG.out], Ext.refl _⟩)
              simp only [Act.put, List.setIfInBounds_toArray, List.set_cons_zero, List.set_cons_succ]
              refine WE_q 3 rfl (by decide) (by kernel_rfl) rfl ?_; apply Exists.intro; refine ⟨fun w1 hx1 => ?_, ?_⟩
              · have hq1 := hx1.cells; go_simp; try go_bits
                first | with_reducible rfl | (refine (bit_any _ _ _ HQ.out).mono ?_; rintro e w' ⟨rfl, rfl⟩; exact ⟨by rw [GG.out], Ext.refl _⟩)
              simp only [Act.put, List.setIfInBounds_toArray, List.set_cons_zero, List.set_cons_succ]
              refine WE_q 4 rfl (by decide) (by kernel_rfl) rfl ?_; apply Exists.intro; refine ⟨fun w1 hx1 => ?_, ?_⟩
              · have hq1 := hx1.cells; go_simp; try go_bits
                first | with_reducible rfl | (refine (bit_any _ _ _ HQ.out).mono ?_; rintro e w' ⟨rfl, rfl⟩; exact ⟨by rw [GG.out], Ext.refl _⟩)
              simp only [Act.put, List.setIfInBounds_toArray, List.set_cons_zero, List.set_cons_succ]
              refine WE_q 5 rfl (by decide) (by kernel_rfl) rfl ?_; apply Exists.intro; refine ⟨fun w1 hx1 => ?_, ?_⟩
              · have hq1 := hx1.cells; go_simp; try go_bits
                first | with_reducible rfl | (refine (bit_any _ _ _ HQ.out).mono ?_; rintro e w' ⟨rfl, rfl⟩; exact ⟨by rw [GG.out], Ext.refl _⟩)
              simp only [Act.put, List.setIfInBounds_toArray, List.set_cons_zero, List.set_cons_succ]
              refine WE_q 6 rfl (by decide) (by kernel_rfl) rfl ?_; apply Exists.intro; refine ⟨fun w1 hx1 => ?_, ?_⟩
              · have hq1 := hx1.cells; go_simp; try go_bits
                first | with_reducible rfl | (refine (bit_any _ _ _ HQ.out).mono ?_; rintro e w' ⟨rfl, rfl⟩; exact ⟨by rw [GG.out], Ext.refl _⟩)
              simp only [Act.put, List.setIfInBounds_toArray, List.set_cons_zero, List.set_cons_succ]
              refine WE_q 7 rfl (by decide) (by kernel_rfl) rfl ?_; apply Exists.intro; refine ⟨fun w1 hx1 => ?_, ?_⟩
              · have hq1 := hx1.cells; go_simp; try go_bits
                first | with_reducible rfl | (refine (bit_any _ _ _ HQ.out).mono ?_; rintro e w' ⟨rfl, rfl⟩; exact ⟨by rw [GG.out], Ext.refl _⟩)
              simp only [Act.put, List.setIfInBounds_toArray, List.set_cons_zero, List.set_cons_succ]
              refine WE_q 8 rfl (by decide) (by kernel_rfl) rfl ?_; apply Exists.intro; refine ⟨fun w1 hx1 => ?_, ?_⟩
              · have hq1 := hx1.cells; go_simp; try go_bits
                first | with_reducible rfl | (refine (bit_any _ _ _ HQ.out).mono ?_; rintro e w' ⟨rfl, rfl⟩; exact ⟨by rw [GG.out], Ext.refl _⟩)
              simp only [Act.put, List.setIfInBounds_toArray, List.set_cons_zero, List.set_cons_succ]
              refine WE_q 9 rfl (by decide) (by kernel_rfl) rfl ?_; apply Exists.intro; refine ⟨fun w1 hx1 => ?_, ?_⟩
              · have hq1 := hx1.cells; go_simp; try go_bits
                first | with_reducible rfl | (refine (bit_any _ _ _ HQ.out).mono ?_; rintro e w' ⟨rfl, rfl⟩; exact ⟨by rw [GG.out], Ext.refl _⟩)
              simp only [Act.put, List.setIfInBounds_toArray, List.set_cons_zero, List.set_cons_succ]
              refine WE_q 10 rfl (by decide) (by kernel_rfl) rfl ?_; apply Exists.intro; refine ⟨fun w1 hx1 => ?_, ?_⟩
              · have hq1 := hx1.cells; go_simp; try go_bits
                first | with_reducible rfl | (refine (bit_any _ _ _ HQ.out).mono ?_; rintro e w' ⟨rfl, rfl⟩; exact ⟨by rw [GG.out], Ext.refl _⟩)
              simp only [Act.put, List.setIfInBounds_toArray, List.set_cons_zero, List.set_cons_succ]
              refine WE_q 11 rfl (by decide) (by kernel_rfl) rfl ?_; apply Exists.intro; refine ⟨fun w1 hx1 => ?_, ?_⟩
              · have hq1 := hx1.cells; go_simp; try go_bits
                first | with_reducible rfl | (refine (bit_any _ _ _ HQ.out).mono ?_; rintro e w' ⟨rfl, rfl⟩; exact ⟨by rw [GG.out], Ext.refl _⟩)
              simp only [Act.put, List.setIfInBounds_toArray, List.set_cons_zero, List.set_cons_succ]
              refine WE_done (by kernel_rfl) (fun w7 hx7 => ?_)
              (try simp only [List.drop_succ_cons, List.drop_zero])
              go_wp2_with fail
              go_roundg l.size
              case measure => omega
              case rel => exact ⟨b, 7, l, _, _, rfl, Nat.le_refl _, HK1.out GG.out, hx16.trans hx7⟩
            · have GG := Lib.hid g
              clear g
              refine wp_region_E 12 rfl (by kernel_rfl) (by kernel_rfl) ?_
              refine WE_q 0 rfl (by decide) (by kernel_rfl) rfl ?_; apply Exists.intro; refine ⟨fun w1 hx1 => ?_, ?_⟩
              · have hq1 := hx1.cells; go_simp; try go_bits
                first | with_reducible rfl | (refine (bit_any _ _ _ HQ.out).mono ?_; rintro e w' ⟨rfl, rfl⟩; exact ⟨by rw [GG.out], Ext.refl _⟩)
              simp only [Act.put, List.setIfInBounds_toArray, List.set_cons_zero, List.set_cons_succ]
              refine WE_q 1 rfl (by decide) (by kernel_rfl) rfl ?_; apply Exists.intro; refine ⟨fun w1 hx1 => ?_, ?_⟩
              · have hq1 := hx1.cells; go_simp; try go_bits
                first | with_reducible rfl | (refine (bit_any _ _ _ HQ.out).mono ?_; rintro e w' ⟨rfl, rfl⟩; exact ⟨by rw [GG.out], Ext.refl _⟩)
              simp only [Act.put, List.setIfInBounds_toArray, List.set_cons_zero, List.set_cons_succ]
              refine WE_q 2 rfl (by decide) (by kernel_rfl) rfl ?_; apply Exists.intro; refine ⟨fun w1 hx1 => ?_, ?_⟩
              · have hq1 := hx1.cells; go_simp; try go_bits
                first | with_reducible rfl | (refine (bit_any _ _ _ HQ.out).mono ?_; rintro e w' ⟨rfl, rfl⟩; exact ⟨by rw [GG.out], Ext.refl _⟩)
              simp only [Act.put, List.setIfInBounds_toArray, List.set_cons_zero, List.set_cons_succ]
              refine WE_q 3 rfl (by decide) (by kernel_rfl) rfl ?_; apply Exists.intro; refine ⟨fun w1 hx1 => ?_, ?_⟩
              · have hq1 := hx1.cells; go_simp; try go_bits
                first | with_reducible rfl | (refine (bit_any _ _ _ HQ.out).mono ?_; rintro e w' ⟨rfl, rfl⟩; exact ⟨by rw [GG.out], Ext.refl _⟩)
              simp only [Act.put, List.setIfInBounds_toArray, List.set_cons_zero, List.set_cons_succ]
              refine WE_q 4 rfl (by decide) (by kernel_rfl) rfl ?_; apply Exists.intro; refine ⟨fun w1 hx1 => ?_, ?_⟩
              · have hq1 := hx1.cells; go_simp; try go_bits
                first | with_reducible rfl | (refine (bit_any _ _ _ HQ.out).mono ?_; rintro e w' ⟨rfl, rfl⟩; exact ⟨by rw [GG.out], Ext.refl _⟩)
              simp only [Act.put, List.setIfInBounds_toArray, List.set_cons_zero, List.set_cons_succ]
              refine WE_q 5 rfl (by decide) (by kernel_rfl) rfl ?_; apply Exists.intro; refine ⟨fun w1 hx1 => ?_, ?_⟩
              · have hq1 := hx1.cells; go_simp; try go_bits
                first | with_reducible rfl | (refine (bit_any _ _ _ HQ.out).mono ?_; rintro e w' ⟨rfl, rfl⟩; exact ⟨by rw [GG.out], Ext.refl _⟩)
              simp only [Act.put, List.setIfInBounds_toArray, List.set_cons_zero, List.set_cons_succ]
              refine WE_q 6 rfl (by decide) (by kernel_rfl) rfl ?_; apply Exists.intro; refine ⟨fun w1 hx1 => ?_, ?_⟩
              · have hq1 := hx1.cells; go_simp; try go_bits
                first | with_reducible rfl | (refine (bit_any _ _ _ HQ.out).mono ?_; rintro e w' ⟨rfl, rfl⟩; exact ⟨by rw [GG.out], Ext.refl _⟩)
              simp only [Act.put, List.setIfInBounds_toArray, List.set_cons_zero, List.set_cons_succ]
              refine WE_q 7 rfl (by decide) (by kernel_rfl) rfl ?_; apply Exists.intro; refine ⟨fun w1 hx1 => ?_, ?_⟩
              · have hq1 := hx1.cells; go_simp; try go_bits
                first | with_reducible rfl | (refine (bit_any _ _ _ HQ.out).mono ?_; rintro e w' ⟨rfl, rfl⟩; exact ⟨by rw [GG.out], Ext.refl _⟩)
              simp only [Act.put, List.setIfInBounds_toArray, List.set_cons_zero, List.set_cons_succ]
              refine WE_q 8 rfl (by decide) (by kernel_rfl) rfl ?_; apply Exists.intro; refine ⟨fun w1 hx1 => ?_, ?_⟩
              · have hq1 := hx1.cells; go_simp; try go_bits
                first | with_reducible rfl | (refine (bit_any _ _ _ HQ.out).mono ?_; rintro e w' ⟨rfl, rfl⟩; exact ⟨by rw [GG.out], Ext.refl _⟩)
              simp only [Act.put, List.setIfInBounds_toArray, List.set_cons_zero, List.set_cons_succ]
              refine WE_q 9 rfl (by decide) (by kernel_rfl) rfl ?_; apply Exists.intro; refine ⟨fun w1 hx1 => ?_, ?_⟩
              · have hq1 := hx1.cells; go_simp; try go_bits
                first | with_reducible rfl | (refine (bit_any _ _ _ HQ.out).mono ?_; rintro e w' ⟨rfl, rfl⟩; exact ⟨by rw [GG.out], Ext.refl _⟩)
              simp only [Act.put, List.setIfInBounds_toArray, List.set_cons_zero, List.set_cons_succ]
              refine WE_q 10 rfl (by decide) (by kernel_rfl) rfl ?_; apply Exists.intro; refine ⟨fun w1 hx1 => ?_, ?_⟩
              · have hq1 := hx1.cells; go_simp; try go_bits
                first | with_reducible rfl | (refine (bit_any _ _ _ HQ.out).mono ?_; rintro e w' ⟨rfl, rfl⟩; exact ⟨by rw [GG.out], Ext.refl _⟩)
              simp only [Act.put, List.setIfInBounds_toArray, List.set_cons_zero, List.set_cons_succ]
              refine WE_q 11 rfl (by decide) (by kernel_rfl) rfl ?_; apply Exists.intro; refine ⟨fun w1 hx1 => ?_, ?_⟩
              · have hq1 := hx1.cells; go_simp; try go_bits
                first | with_reducible rfl | (refine (bit_any _ _ _ HQ.out).mono ?_; rintro e w' ⟨rfl, rfl⟩; exact ⟨by rw [GG.out], Ext.refl _⟩)
              simp only [Act.put, List.setIfInBounds_toArray, List.set_cons_zero, List.set_cons_succ]
              refine WE_done (by kernel_rfl) (fun w7 hx7 => ?_)
              (try simp only [List.drop_succ_cons, List.drop_zero])
              go_wp2_with fail
              go_roundg k.size
              case measure => omega
              case rel => exact ⟨b, 8, k, _, _, rfl, Nat.le_refl _, HK2.out GG.out, hx16.trans hx7⟩
        · have hspd : decide (meetA qa qn r.pa r.pl = qa ∧ meetN qa qn r.pa r.pl = qn) = false := decide_eq_false hsp
          refine wp_region_E 5 rfl (by kernel_rfl) (by kernel_rfl) ?_
          refine WE_q 0 rfl (by decide) (by kernel_rfl) rfl ?_; apply Exists.intro; refine ⟨fun w1 hx1 => ?_, ?_⟩
          · have hq1 := hx1.cells; go_simp; try go_bits
            first | with_reducible rfl
          simp only [Act.put, List.setIfInBounds_toArray, List.set_cons_zero, List.set_cons_succ]
          refine WE_q 1 rfl (by decide) (by kernel_rfl) rfl ?_; apply Exists.intro; refine ⟨fun w1 hx1 => ?_, ?_⟩
          · have hq1 := hx1.cells; go_simp; try go_bits
            first | with_reducible rfl
          simp only [Act.put, List.setIfInBounds_toArray, List.set_cons_zero, List.set_cons_succ]
          refine WE_q 2 rfl (by decide) (by kernel_rfl) rfl ?_; apply Exists.intro; refine ⟨fun w1 hx1 => ?_, ?_⟩
          · have hq1 := hx1.cells; go_simp; try go_bits
            first | with_reducible rfl
          simp only [Act.put, List.setIfInBounds_toArray, List.set_cons_zero, List.set_cons_succ]
          refine WE_q 3 rfl (by decide) (by kernel_rfl) rfl ?_; apply Exists.intro; refine ⟨fun w1 hx1 => ?_, ?_⟩
          · have hq1 := hx1.cells; go_simp; try go_bits
            first | with_reducible rfl
          simp only [Act.put, List.setIfInBounds_toArray, List.set_cons_zero, List.set_cons_succ]
          refine WE_q 4 rfl (by decide) (by kernel_rfl) rfl ?_; apply Exists.intro; refine ⟨fun w1 hx1 => ?_, ?_⟩
          · have hq1 := hx1.cells; go_simp; try go_bits
            first | with_reducible rfl
          simp only [Act.put, List.setIfInBounds_toArray, List.set_cons_zero, List.set_cons_succ]
          refine WE_done (by kernel_rfl) (fun w5 hx5 => ?_)
          (try simp only [List.drop_succ_cons, List.drop_zero])
          have HSP := Lib.hid hsp
          clear hsp
          go_wp2_with fail
          go_meet
          exact ⟨pb, po, _, _, _, rfl, hx.trans (hx4.trans hx5), HH.out, HSP.out⟩
  case rest =>
    obtain ⟨pb, po, sub, v2, bs2, rfl, hx, hHH, hstop⟩ := hcut
    have HH := Lib.hid hHH
    have HSTOP := Lib.hid hstop
    have kR := (cR.later hx).cells
    have kS := (cS.later hx).cells
    clear hHH hstop
    obtain ⟨pcs, PT, hpre⟩ := hole_pre hT0 HH.out HV.out hs hx
    have HPRE := Lib.hid hpre
    clear hpre
    go_wp2_with (first
      | (go_at_call 79; refine (hang_stop _ B tb v t.size pb po pcs PT _ r.pa r.pl r sub v2 bs2 HPRE.out HSTOP.out).mono ?_; rintro e w1 ⟨rfl, v3, bs3, hpost⟩; have HPOST := Lib.hid hpost; clear hpost))
    go_end0
    obtain ⟨⟨root, all, hF⟩, hbl⟩ := put_hung hT0 HH.out HSTOP.out hx HPOST.out
    exact ⟨rfl, root, all, hF, Below.trans (Below.mono hx0 (by omega)) hbl⟩
end Go.Proofs.Ytilaljdokpdcoaa
