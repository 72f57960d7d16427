/- The trie's Find, Depth and Size. Conditions: lengths are within 64 bits. -/
import Derived.Test.YtilaljdokpdcoaaTrieB
namespace Go.Proofs.Ytilaljdokpdcoaa
open Go.RowKit

def T.find (a : BitVec 32) : T → Option Rul → Option Rul
  | .nil, best => best
  | .node pa n r is l k, best => if holdsV pa n a then (if bitV a n = 0 then l.find a (if is then some r else best) else k.find a (if is then some r else best)) else best
def T.depth (a : BitVec 32) : T → Nat
  | .nil => 0
  | .node pa n _ _ l k => if holdsV pa n a then 1 + (if bitV a n = 0 then l.depth a else k.depth a) else 0
theorem T.depth_le (a : BitVec 32) : ∀ t : T, t.depth a ≤ t.size
  | .nil => Nat.le_refl _
  | .node _ _ _ _ l k => by
    have h1 := T.depth_le a l
    have h2 := T.depth_le a k
    unfold T.depth T.size
    split
    · split <;> omega
    · omega
/-- Block tb is a trie of the forks t, all of whose blocks are from B on, each once. -/
structure TrieAt (w : World) (B tb : Nat) (t : T) (v : Value) (bs : List Nat) : Prop where
  blk : Blk w tb [v, I t.size] 96
  tree : TreeAt w t v bs
  nodup : (tb :: bs).Nodup
  low : ∀ q ∈ tb :: bs, B ≤ q
  ok : t.Ok
theorem TrieAt.later {w w' : World} {B tb : Nat} {t : T} {v : Value} {bs : List Nat} (h : TrieAt w B tb t v bs) (hx : Ext w w') : TrieAt w' B tb t v bs :=
  ⟨h.blk.later hx, h.tree.later hx, h.nodup, h.low, h.ok⟩

set_option maxHeartbeats 2000000 in
theorem trieFind_any (w : World) (B tb : Nat) (t : T) (v : Value) (bs : List Nat) (a : BitVec 32) (h : TrieAt w B tb t v bs) :
    Calls Try.prog 48 #[.pointer (some ⟨tb, 0, none⟩), U a] w fun e w' => e = .returned (foundV (t.find a none)) ∧ Ext w w' := by
  have k0 := h.blk.cells
  have htb := h.blk.lt
  go_enter Try.func48, Try.ntmps48
  go_wp2_with fail
  go_loopg [7, 8] t.size (fun g d f wr => ∃ (sub : T) (v2 : Value) (bs2 : List Nat) (best : Option Rul), f = v2 ∧ d = .bool best.isSome ∧ TreeAt w sub v2 bs2 ∧ sub.Ok ∧ sub.size ≤ g ∧ Hid (sub.find a best = t.find a none) ∧
      Blk wr w.heap.size zeroR.cells 42 ∧ Blk wr (w.heap.size + 1) (resR best).cells 42 ∧ Ext w wr)
  case atStart => exact ⟨t, v, bs, none, rfl, rfl, h.tree, h.ok, Nat.le_refl _, rfl, (Blk.newAt zeroR.cells rfl).old _, Blk.newAt zeroR.cells (by simp), by (repeat (first | with_reducible exact Ext.refl _ | with_reducible assumption | with_reducible refine Ext.alloc ?_ _ | with_reducible refine Ext.drew ?_ | with_reducible refine Ext.drewN ?_ _ | (with_reducible refine Ext.setCellP ?_ ?_; focus (first | (simp; done) | (simp; omega) | omega))))⟩
  case round =>
    obtain ⟨sub, v2, bs2, best, rfl, rfl, ht, hok, hg, hc, hz, hbb, hx⟩ := hrel
    cases sub with
    | nil =>
      obtain ⟨rfl, rfl⟩ := ht
      have hzc := hz.cells
      have hzf := hz.frozen
      have hbc := hbb.cells
      have HC := Lib.hid (show best = t.find a none from hc.out)
      go_wp2
      refine bodyPost_ret (v := foundV best) ?_ rfl ⟨by rw [HC.out], by (repeat (first | with_reducible exact Ext.refl _ | with_reducible assumption | with_reducible refine Ext.alloc ?_ _ | with_reducible refine Ext.drew ?_ | with_reducible refine Ext.drewN ?_ _ | (with_reducible refine Ext.setCellP ?_ ?_; focus (first | (simp; done) | (simp; omega) | omega))))⟩
      simp [results, Try.results48, go_sem, hzc]
    | node pa n r is l k =>
      obtain ⟨b, bl, bk, vl, vk, rfl, rfl, hb, hl, hk⟩ := ht
      obtain ⟨hn0, okl, okk⟩ := hok
      have hn := hn0.in64
      clear hn0
      have HG := Lib.hid hg
      clear hg
      have k1 := (hb.later hx).keep
      have hb2 := hb.later hx
      have hblt := hb.lt
      have hzk := hz.keep
      have hzf := hz.keepF
      have hbk2 := hbb.keep
      have hbf := hbb.keepF
      by_cases hh : holdsV pa n a = true
      · have hc2 := Lib.hid (show (if bitV a n = 0 then l.find a (if is then some r else best) else k.find a (if is then some r else best)) = t.find a none by
          have := hc.out; simp only [T.find, hh, if_true] at this; exact this)
        clear hc
        cases is with
        | false =>
          go_wp2_with (first
            | (go_at_call 64; refine (spanHolds_any _ _ _ _ hn).mono ?_; rintro e w2 ⟨rfl, hx2⟩; have k2 := (hb2.later hx2).keep)
            | (go_at_call 65; refine (below_any _ _ _ _ _ _ _ _ _ (hb2.later hx2) hn).mono ?_; rintro e w3 ⟨rfl, hx3⟩))
          have hs1 : 1 + l.size + k.size ≤ gk := HG.out
          go_roundg (gk - 1)
          case measure => omega
          case rel =>
            have hx23 := hx2.trans hx3
            by_cases g : bitV a n = 0
            · exact ⟨l, vl, bl, best, by unfold kidV; rw [if_pos g], rfl, hl, okl, by omega, by have := hc2.out; rw [if_pos g] at this; exact this, hz.later hx23, hbb.later hx23, hx.trans hx23⟩
            · exact ⟨k, vk, bk, best, by unfold kidV; rw [if_neg g], rfl, hk, okk, by omega, by have := hc2.out; rw [if_neg g] at this; exact this, hz.later hx23, hbb.later hx23, hx.trans hx23⟩
        | true =>
          go_wp2_with (first
            | (go_at_call 64; refine (spanHolds_any _ _ _ _ hn).mono ?_; rintro e w2 ⟨rfl, hx2⟩; have hb3 := hb2.later hx2; have hz3 := hz.later hx2; have hbb3 := hbb.later hx2; have k2 := hb3.cells; have z2 := hbb3.cells; have z3 := hbb3.frozen)
            | (go_at_call 65; refine (below_any _ _ pa n r true vl vk _ (by (repeat (first | with_reducible assumption | with_reducible refine Blk.old ?_ _ | with_reducible refine Blk.drew ?_ | (with_reducible refine Blk.otherP ?_ ?_; focus (first | (simp; done) | (simp; omega)))))) hn).mono ?_; rintro e w3 ⟨rfl, hx3⟩))
          have hs1 : 1 + l.size + k.size ≤ gk := HG.out
          go_roundg (gk - 1)
          case measure => omega
          case rel =>
            have y1 : Ext w w3 := Ext.trans (by have := hx.trans hx2; (repeat (first | with_reducible exact Ext.refl _ | with_reducible assumption | with_reducible refine Ext.alloc ?_ _ | with_reducible refine Ext.drew ?_ | with_reducible refine Ext.drewN ?_ _ | (with_reducible refine Ext.setCellP ?_ ?_; focus (first | (simp; done) | (simp; omega) | omega))))) hx3
            have y2 : Blk w3 w.heap.size zeroR.cells 42 := Blk.later (by (repeat (first | with_reducible assumption | with_reducible refine Blk.old ?_ _ | with_reducible refine Blk.drew ?_ | (with_reducible refine Blk.otherP ?_ ?_; focus (first | (simp; done) | (simp; omega)))))) hx3
            have y3 : Blk w3 (w.heap.size + 1) (resR (some r)).cells 42 := Blk.later (by (repeat (first | with_reducible assumption | with_reducible refine Blk.old ?_ _ | with_reducible refine Blk.drew ?_ | (with_reducible refine Blk.otherP ?_ ?_; focus (first | (simp; done) | (simp; omega))) | with_reducible exact Row4.of (by with_reducible assumption) | refine Blk.set4 ?_ | with_reducible refine Row4.old ?_ _))) hx3
            by_cases g : bitV a n = 0
            · exact ⟨l, vl, bl, some r, by unfold kidV; rw [if_pos g], rfl, hl, okl, by omega, by have := hc2.out; rw [if_pos g] at this; exact this, y2, y3, y1⟩
            · exact ⟨k, vk, bk, some r, by unfold kidV; rw [if_neg g], rfl, hk, okk, by omega, by have := hc2.out; rw [if_neg g] at this; exact this, y2, y3, y1⟩
      · have hh2 : holdsV pa n a = false := by simpa using hh
        have HC := Lib.hid (show best = t.find a none by have := hc.out; simpa [T.find, hh2] using this)
        go_wp2_with (first
          | (go_at_call 64; refine (spanHolds_any _ _ _ _ hn).mono ?_; rintro e w2 ⟨rfl, hx2⟩; have k2 := (hb2.later hx2).keep; have z2 := (hz.later hx2).cells; have z3 := (hz.later hx2).frozen; have z4 := (hbb.later hx2).cells))
        refine bodyPost_ret (v := foundV best) ?_ rfl ⟨by rw [HC.out], ?_⟩
        · simp [results, Try.results48, go_sem, z2]
        · have := hx.trans hx2; (repeat (first | with_reducible exact Ext.refl _ | with_reducible assumption | with_reducible refine Ext.alloc ?_ _ | with_reducible refine Ext.drew ?_ | with_reducible refine Ext.drewN ?_ _ | (with_reducible refine Ext.setCellP ?_ ?_; focus (first | (simp; done) | (simp; omega) | omega))))
end Go.Proofs.Ytilaljdokpdcoaa
