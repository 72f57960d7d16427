/- A rule is put into the trie. Conditions: its prefix may be; the trie is not greater than 10^15 forks. -/
import Derived.Test.YtilaljdokpdcoaaTrieD
import Derived.Test.YtilaljdokpdcoaaBits
namespace Go.Proofs.Ytilaljdokpdcoaa
open Go.RowKit

def putT (pa : BitVec 32) (n : Int) (r : Rul) : T → T
  | .nil => hangT pa n r .nil
  | .node qa qn qr qi l k =>
    if meetA qa qn pa n = qa ∧ meetN qa qn pa n = qn then
      (if pa = qa ∧ n = qn then (if qi then .node qa qn qr qi l k else .node qa qn r true l k)
       else if bitV pa qn = 0 then .node qa qn qr qi (putT pa n r l) k else .node qa qn qr qi l (putT pa n r k))
    else hangT pa n r (.node qa qn qr qi l k)
theorem hang_ok {pa : BitVec 32} {n : Int} (r : Rul) (hv : Valid pa n) : ∀ {t : T}, t.Ok → (hangT pa n r t).Ok
  | .nil, _ => ⟨hv, trivial, trivial⟩
  | .node qa qn qr qi ql qk, h => by
    have hm := meet_valid hv h.1
    unfold hangT
    simp only
    split
    · split
      · exact ⟨hv, h, trivial⟩
      · exact ⟨hv, trivial, h⟩
    · split
      · exact ⟨hm, h, hv, trivial, trivial⟩
      · exact ⟨hm, ⟨hv, trivial, trivial⟩, h⟩
theorem put_ok {pa : BitVec 32} {n : Int} (r : Rul) (hv : Valid pa n) : ∀ {t : T}, t.Ok → (putT pa n r t).Ok
  | .nil, h => hang_ok r hv h
  | .node qa qn qr qi l k, h => by
    unfold putT
    split
    · split
      · split
        · exact h
        · exact h
      · split
        · exact ⟨h.1, put_ok r hv h.2.1, h.2.2⟩
        · exact ⟨h.1, h.2.1, put_ok r hv h.2.2⟩
    · exact hang_ok r hv h

theorem set_same {w : World} {pb po : Nat} {pcs : List Value} {PT : TypeId} {v : Value} (h : Blk w pb pcs PT) (hv : pcs[po]? = some v) (q : Nat) : (w.setCell ⟨pb, po, none⟩ v).heap[q]? = w.heap[q]? := by
  rw [heap_set]
  split
  · rename_i e
    simp only at e
    subst e
    unfold Blk at h
    rw [h]
    simp only [Option.map_some, Option.isSome_none, Bool.false_eq_true, if_false]
    congr 2
    apply Array.ext_getElem?
    intro k
    rw [Array.getElem?_setIfInBounds]
    split
    · rename_i e; subst e
      obtain ⟨h1, h2⟩ := List.getElem?_eq_some_iff.1 hv
      simp [h1, h2]
    · rfl
  · rfl
/-- w' is, in all old blocks but those of bs, w with the cell p and the size set. -/
def Turned (w w' : World) (pb po : Nat) (x : Value) (tb : Nat) (s : Int) (bs : List Nat) : Prop :=
  ∀ q, q < w.heap.size → q ∉ bs → w'.heap[q]? = ((w.setCell ⟨pb, po, none⟩ x).setCell ⟨tb, 1, none⟩ (I s)).heap[q]?
/-- The place of a part of a trie, at which a rule belongs: what becomes of the trie if that part is another one. -/
structure Hole (w : World) (B tb : Nat) (t : T) (pa : BitVec 32) (n : Int) (r : Rul) (pb po : Nat) (sub : T) (v2 : Value) (bs2 : List Nat) : Prop where
  tree : TreeAt w sub v2 bs2
  ok : sub.Ok
  place : ∃ pcs PT, Blk w pb pcs PT ∧ pcs[po]? = some v2
  alias : pb = tb → po = 0
  low : B ≤ pb
  apart : ∀ q ∈ bs2, q ≠ pb ∧ q ≠ tb
  nodup : bs2.Nodup
  lows : ∀ q ∈ bs2, B ≤ q
  back : ∀ (w' : World) (v' : Value) (bs' : List Nat) (s : Int), w.heap.size ≤ w'.heap.size → Turned w w' pb po v' tb s bs2 → TreeAt w' (putT pa n r sub) v' bs' → bs'.Nodup → (∀ q ∈ bs', q ∈ bs2 ∨ w.heap.size ≤ q) →
    ((putT pa n r sub).size : Int) - sub.size = s - t.size → ∃ root bsAll, TrieAt w' B tb (putT pa n r t) root bsAll
theorem Hole.top {w : World} {B tb : Nat} {t : T} {v : Value} {bs : List Nat} (pa : BitVec 32) (n : Int) (r : Rul) (hv : Valid pa n) (h : TrieAt w B tb t v bs) : Hole w B tb t pa n r tb 0 t v bs where
  tree := h.tree
  ok := h.ok
  place := ⟨_, _, h.blk, rfl⟩
  alias := fun _ => rfl
  low := h.low tb (by simp)
  apart := fun q hq => by
    have : q ≠ tb := fun e => (List.nodup_cons.1 h.nodup).1 (e ▸ hq)
    exact ⟨this, this⟩
  nodup := (List.nodup_cons.1 h.nodup).2
  lows := fun q hq => h.low q (by simp [hq])
  back := fun w' v' bs' s hs hT ht hn hf hz => by
    have hlt := h.blk.lt
    have htb : tb ∉ bs := (List.nodup_cons.1 h.nodup).1
    have hb : Blk w' tb [v', I s] 96 := by
      have h1 := (h.blk.set 0 v').set 1 (I s)
      unfold Blk at *
      rw [hT tb hlt htb]; exact h1
    refine ⟨v', bs', ⟨?_, ht, List.nodup_cons.2 ⟨fun hq => ?_, hn⟩, fun q hq => ?_, put_ok r hv h.ok⟩⟩
    · rw [show ((putT pa n r t).size : Int) = s by omega]; exact hb
    · rcases hf tb hq with h2 | h2
      · exact htb h2
      · omega
    · have hB := h.low tb (by simp)
      rcases List.mem_cons.1 hq with rfl | hq
      · exact hB
      · rcases hf q hq with h2 | h2
        · exact h.low q (by simp [h2])
        · omega
theorem turned_up {w w' : World} {pb po b i tb : Nat} {pcs : List Value} {PT : TypeId} {v2 v' : Value} {s : Int} {bs2 bs3 : List Nat} (hp : Blk w pb pcs PT) (hv : pcs[po]? = some v2) (hb : b ∈ bs2) (hs : ∀ q ∈ bs3, q ∈ bs2)
    (h : Turned w w' b i v' tb s bs3) : Turned w w' pb po v2 tb s bs2 := fun q hq hn => by
  have hqb : b ≠ q := fun e => hn (e ▸ hb)
  rw [h q hq fun h3 => hn (hs q h3)]
  have e1 : ((w.setCell ⟨b, i, none⟩ v').setCell ⟨tb, 1, none⟩ (I s)).heap[q]? = (w.setCell ⟨tb, 1, none⟩ (I s)).heap[q]? := by
    rw [heap_set (w.setCell ⟨b, i, none⟩ v'), heap_set w ⟨b, i, none⟩, heap_set w ⟨tb, 1, none⟩]
    simp only [hqb, if_false]
  have e2 : ((w.setCell ⟨pb, po, none⟩ v2).setCell ⟨tb, 1, none⟩ (I s)).heap[q]? = (w.setCell ⟨tb, 1, none⟩ (I s)).heap[q]? := by
    rw [heap_set (w.setCell ⟨pb, po, none⟩ v2), set_same hp hv, heap_set w ⟨tb, 1, none⟩]
  rw [e1, e2]
/-- From a part to one of its two kids. -/
theorem Hole.kid {w : World} {B tb : Nat} {t : T} {pa : BitVec 32} {n : Int} {r : Rul} {pb po : Nat} {qa : BitVec 32} {qn : Int} {qr : Rul} {qi : Bool} {l k : T} {b : Nat} {bs2 : List Nat}
    (h : Hole w B tb t pa n r pb po (.node qa qn qr qi l k) (.pointer (some ⟨b, 0, none⟩)) bs2)
    (hm : meetA qa qn pa n = qa ∧ meetN qa qn pa n = qn) (hne : ¬ (pa = qa ∧ n = qn)) :
    ∃ vl vk bl bk, Blk w b (forkC qa qn qr qi vl vk) 104 ∧
      (bitV pa qn = 0 → Hole w B tb t pa n r b 7 l vl bl) ∧ (bitV pa qn = 1 → Hole w B tb t pa n r b 8 k vk bk) := by
  obtain ⟨b', bl, bk, vl, vk, hb', rfl, hblk, hl, hk⟩ := h.tree
  simp only [Value.pointer.injEq, Option.some.injEq, Addr.mk.injEq, and_true] at hb'
  subst hb'
  obtain ⟨pcs, PT, hp, hg⟩ := h.place
  obtain ⟨n1, n2⟩ := List.nodup_cons.1 h.nodup
  obtain ⟨n3, n4, n5⟩ := List.nodup_append.1 n2
  have hbt : b ≠ tb := (h.apart b (by simp)).2
  have nl : b ∉ bl := fun hq => n1 (by simp [hq])
  have nk : b ∉ bk := fun hq => n1 (by simp [hq])
  have lb := hblk.lt
  refine ⟨vl, vk, bl, bk, hblk, fun g => ?_, fun g => ?_⟩
  · have hput : putT pa n r (.node qa qn qr qi l k) = .node qa qn qr qi (putT pa n r l) k := by
      rw [putT, if_pos hm, if_neg hne, if_pos g]
    refine ⟨hl, h.ok.2.1, ⟨_, _, hblk, rfl⟩, fun e => absurd e hbt, h.lows b (by simp), fun q hq => ⟨fun e => nl (e ▸ hq), (h.apart q (by simp [hq])).2⟩, n3, fun q hq => h.lows q (by simp [hq]), ?_⟩
    intro w' v' bs' s hs hT ht hn hf hz
    refine h.back w' _ (b :: (bs' ++ bk)) s hs (turned_up hp hg (by simp) (fun q hq => by simp [hq]) hT) ?_ ?_ ?_ ?_
    · rw [hput]
      refine ⟨b, bs', bk, v', vk, rfl, rfl, ?_, ht, hk.same fun q hq => ?_⟩
      · have h1 := (hblk.set 7 v').other (p := ⟨tb, 1, none⟩) (by exact fun e => hbt e.symm) (I s)
        unfold Blk at h1 ⊢
        rw [hT b lb nl]; exact h1
      · have q1 : q ∉ bl := fun h2 => n5 q h2 q hq rfl
        have q2 : tb ≠ q := fun e => (h.apart q (by simp [hq])).2 e.symm
        have q3 : b ≠ q := fun e => nk (e ▸ hq)
        rw [hT q (hk.lt q hq) q1, heap_set, heap_set]
        simp only [q2, q3, if_false]
    · refine List.nodup_cons.2 ⟨fun hq => ?_, List.nodup_append.2 ⟨hn, n4, fun x hx y hy e => ?_⟩⟩
      · rcases List.mem_append.1 hq with h2 | h2
        · rcases hf b h2 with h3 | h3
          · exact nl h3
          · omega
        · exact nk h2
      · subst e
        rcases hf x hx with h3 | h3
        · exact n5 x h3 x hy rfl
        · have := hk.lt x hy; omega
    · intro q hq
      simp only [List.mem_cons, List.mem_append] at hq ⊢
      rcases hq with rfl | h2 | h2
      · exact .inl (.inl rfl)
      · rcases hf q h2 with h3 | h3
        · exact .inl (.inr (.inl h3))
        · exact .inr h3
      · exact .inl (.inr (.inr h2))
    · rw [hput]; simp only [T.size]; omega
  · have hput : putT pa n r (.node qa qn qr qi l k) = .node qa qn qr qi l (putT pa n r k) := by
      rw [putT, if_pos hm, if_neg hne, if_neg (by omega)]
    refine ⟨hk, h.ok.2.2, ⟨_, _, hblk, rfl⟩, fun e => absurd e hbt, h.lows b (by simp), fun q hq => ⟨fun e => nk (e ▸ hq), (h.apart q (by simp [hq])).2⟩, n4, fun q hq => h.lows q (by simp [hq]), ?_⟩
    intro w' v' bs' s hs hT ht hn hf hz
    refine h.back w' _ (b :: (bl ++ bs')) s hs (turned_up hp hg (by simp) (fun q hq => by simp [hq]) hT) ?_ ?_ ?_ ?_
    · rw [hput]
      refine ⟨b, bl, bs', vl, v', rfl, rfl, ?_, hl.same fun q hq => ?_, ht⟩
      · have h1 := (hblk.set 8 v').other (p := ⟨tb, 1, none⟩) (by exact fun e => hbt e.symm) (I s)
        unfold Blk at h1 ⊢
        rw [hT b lb nk]; exact h1
      · have q1 : q ∉ bk := fun h2 => n5 q hq q h2 rfl
        have q2 : tb ≠ q := fun e => (h.apart q (by simp [hq])).2 e.symm
        have q3 : b ≠ q := fun e => nl (e ▸ hq)
        rw [hT q (hl.lt q hq) q1, heap_set, heap_set]
        simp only [q2, q3, if_false]
    · refine List.nodup_cons.2 ⟨fun hq => ?_, List.nodup_append.2 ⟨n3, hn, fun x hx y hy e => ?_⟩⟩
      · rcases List.mem_append.1 hq with h2 | h2
        · exact nl h2
        · rcases hf b h2 with h3 | h3
          · exact nk h3
          · omega
      · subst e
        rcases hf x hy with h3 | h3
        · exact n5 x hx x h3 rfl
        · have := hl.lt x hx; omega
    · intro q hq
      simp only [List.mem_cons, List.mem_append] at hq ⊢
      rcases hq with rfl | h2 | h2
      · exact .inl (.inl rfl)
      · exact .inl (.inr (.inl h2))
      · rcases hf q h2 with h3 | h3
        · exact .inl (.inr (.inr h3))
        · exact .inr h3
    · rw [hput]; simp only [T.size]; omega
/-- Where the walk down ends: the fork is to be hung there. -/
def Stop (pa : BitVec 32) (n : Int) : T → Prop
  | .nil => True
  | .node qa qn _ _ _ _ => ¬ (meetA qa qn pa n = qa ∧ meetN qa qn pa n = qn)
theorem stop_put {pa : BitVec 32} {n : Int} {r : Rul} {t : T} (h : Stop pa n t) : putT pa n r t = hangT pa n r t := by
  cases t with
  | nil => rfl
  | node => exact if_neg h
end Go.Proofs.Ytilaljdokpdcoaa
