/- TrieA, TrieB, TrieC, Bits, TrieD, TrieE: these texts in one. Conditions: each part names its own. -/
import Derived.Test.YtdpmnldmbnpfpaaDoorGRule
import Derived.Test.YtdpmnldmbnpfpaaDoorGPref
/- The trie's small functions: spans and forks. Conditions: whole numbers are within 64 bits. -/
namespace Go.Proofs.YtdpmnldmbnpfpaaDoor
open Go.RowKit

def meetN (a : BitVec 32) (m : Int) (b : BitVec 32) (n : Int) : Int := if commonV a b < (if n < m then n else m) then commonV a b else if n < m then n else m
theorem meetN_min (a : BitVec 32) (m : Int) (b : BitVec 32) (n : Int) : meetN a m b n = min (min m n) (commonV a b) := by unfold meetN; omega
def meetA (a : BitVec 32) (m : Int) (b : BitVec 32) (n : Int) : BitVec 32 := a &&& maskV (meetN a m b n)
end Go.Proofs.YtdpmnldmbnpfpaaDoor

/- The trie in memory, and what is found in it. Conditions: lengths are within 64 bits. -/
namespace Go.Proofs.YtdpmnldmbnpfpaaDoor
open Go.RowKit

/-- A trie's forks: prefix, rule, whether it is one's, and both forks below. -/
inductive T where
  | nil
  | node (pa : BitVec 32) (pn : Int) (r : Rul) (is : Bool) (l k : T)
def T.size : T → Nat
  | .nil => 0
  | .node _ _ _ _ l k => 1 + l.size + k.size
def T.Ok : T → Prop
  | .nil => True
  | .node pa n _ _ l k => Valid pa n ∧ l.Ok ∧ k.Ok
abbrev forkC (pa : BitVec 32) (n : Int) (r : Rul) (is : Bool) (vl vk : Value) : List Value := [U pa, I n, U r.pa, I r.pl, I r.act, I r.nx, .bool is, vl, vk]
def kidV (a : BitVec 32) (n : Int) (vl vk : Value) : Value := if bitV a n = 0 then vl else vk
end Go.Proofs.YtdpmnldmbnpfpaaDoor

/- The trie's Find, Depth and Size. Conditions: lengths are within 64 bits. -/
namespace Go.Proofs.YtdpmnldmbnpfpaaDoor
open Go.RowKit

def T.find (a : BitVec 32) : T → Option Rul → Option Rul
  | .nil, best => best
  | .node pa n r is l k, best => if holdsV pa n a then (if bitV a n = 0 then l.find a (if is then some r else best) else k.find a (if is then some r else best)) else best
def T.depth (a : BitVec 32) : T → Nat
  | .nil => 0
  | .node pa n _ _ l k => if holdsV pa n a then 1 + (if bitV a n = 0 then l.depth a else k.depth a) else 0
theorem T.depth_le (a : BitVec 32) : ∀ t : T, t.depth a ≤ t.size
  | .nil => Nat.le_refl _
  | .node _ _ _ _ l k => by
    have h1 := T.depth_le a l
    have h2 := T.depth_le a k
    unfold T.depth T.size
    split
    · split <;> omega
    · omega
end Go.Proofs.YtdpmnldmbnpfpaaDoor

/- Plain facts on the bits of addresses, counted from the highest: masks, prefixes, common bits. Conditions: none. -/
namespace Go.Proofs.YtdpmnldmbnpfpaaDoor
open Go.RowKit

theorem meetN_comm (a : BitVec 32) (m : Int) (b : BitVec 32) (n : Int) : meetN a m b n = meetN b n a m := by
  rw [meetN_min, meetN_min, common_comm]; omega
theorem meetA_comm (a : BitVec 32) (m : Int) (b : BitVec 32) (n : Int) : meetA a m b n = meetA b n a m := by
  unfold meetA
  rw [meetN_comm b n a m, and_mask_eq]
  intro i hi
  refine (common_msb a b).1 i ?_
  have : (clamp (meetN a m b n) : Int) ≤ commonV a b := by
    have hb := common_bd a b
    have h2 : meetN a m b n ≤ commonV a b := by rw [meetN_min]; omega
    unfold clamp
    split
    · omega
    · split <;> omega
  omega
theorem meet_valid {a : BitVec 32} {m : Int} {b : BitVec 32} {n : Int} (h1 : Valid a m) (h2 : Valid b n) : Valid (meetA a m b n) (meetN a m b n) := by
  have hc := common_bd a b
  obtain ⟨x0, x1, _⟩ := h1
  obtain ⟨y0, y1, _⟩ := h2
  refine ⟨by rw [meetN_min]; omega, by rw [meetN_min]; omega, ?_⟩
  unfold meetA
  rw [BitVec.and_assoc, BitVec.and_self]
/-- Where neither of two prefixes holds the other one they differ at the bit behind what both have. -/
theorem meet_bits {pa : BitVec 32} {n : Int} {qa : BitVec 32} {qn : Int} (h1 : Valid pa n) (h2 : Valid qa qn) (hp : ¬ (meetA pa n qa qn = pa ∧ meetN pa n qa qn = n))
    (hq : ¬ (meetA qa qn pa n = qa ∧ meetN qa qn pa n = qn)) : bitV pa (meetN pa n qa qn) ≠ bitV qa (meetN pa n qa qn) := by
  have hc := common_bd pa qa
  obtain ⟨x0, x1, x2⟩ := h1
  obtain ⟨y0, y1, y2⟩ := h2
  have e1 : meetN pa n qa qn ≠ n := fun e => hp ⟨by unfold meetA; rw [e, x2], e⟩
  have e2 : meetN qa qn pa n ≠ qn := fun e => hq ⟨by unfold meetA; rw [e, y2], e⟩
  rw [meetN_comm qa qn pa n] at e2
  rw [meetN_min] at e1 e2 ⊢
  have e3 : min (min n qn) (commonV pa qa) = commonV pa qa := by omega
  rw [e3]
  exact common_bits pa qa (by omega)
end Go.Proofs.YtdpmnldmbnpfpaaDoor

/- A fork is hung to its place in the trie. Conditions: the fork's prefix and the old one's differ at the bit behind what both have, where a new fork joins them. -/
namespace Go.Proofs.YtdpmnldmbnpfpaaDoor
open Go.RowKit

def hangT (pa : BitVec 32) (n : Int) (r : Rul) : T → T
  | .nil => .node pa n r true .nil .nil
  | .node qa qn qr qi ql qk =>
    let bN := meetN pa n qa qn
    let bA := meetA pa n qa qn
    if bA = pa ∧ bN = n then (if bitV qa bN = 0 then .node pa n r true (.node qa qn qr qi ql qk) .nil else .node pa n r true .nil (.node qa qn qr qi ql qk))
    else (if bitV qa bN = 0 then .node bA bN zeroR false (.node qa qn qr qi ql qk) (.node pa n r true .nil .nil) else .node bA bN zeroR false (.node pa n r true .nil .nil) (.node qa qn qr qi ql qk))
def hangK (pa : BitVec 32) (n : Int) : T → Int
  | .nil => 1
  | .node qa qn _ _ _ _ => if meetA pa n qa qn = pa ∧ meetN pa n qa qn = n then 1 else 2
theorem hang_size (pa : BitVec 32) (n : Int) (r : Rul) (t : T) : ((hangT pa n r t).size : Int) = t.size + hangK pa n t := by
  cases t with
  | nil => rfl
  | node qa qn qr qi ql qk =>
    unfold hangT hangK
    simp only
    split
    · split <;> simp only [T.size] <;> omega
    · split <;> simp only [T.size] <;> omega

theorem heap_set (w : World) (a : Addr) (v : Value) (q : Nat) : (w.setCell a v).heap[q]? = if a.block = q then (w.heap[q]?).map (fun o => match o with
      | .cells c elem frozen => .cells (if a.spot.isSome then c else c.setIfInBounds a.off v) elem frozen
      | o => o) else w.heap[q]? := by
  simp only [World.setCell, Array.getElem?_modify]
  rfl
theorem set_again (c : Array Value) (i j : Nat) (a b a' b' : Value) : (((c.setIfInBounds i a).setIfInBounds j b).setIfInBounds i a').setIfInBounds j b' = (c.setIfInBounds i a').setIfInBounds j b' := by
  apply Array.ext_getElem?
  intro k
  simp only [Array.getElem?_setIfInBounds, Array.size_setIfInBounds]
  repeat' split <;> simp_all
theorem upd_again {w x : World} {pb po tb q : Nat} {a a' b b' : Value} (h : x.heap[q]? = ((w.setCell ⟨pb, po, none⟩ a).setCell ⟨tb, 1, none⟩ b).heap[q]?) :
    ((x.setCell ⟨pb, po, none⟩ a').setCell ⟨tb, 1, none⟩ b').heap[q]? = ((w.setCell ⟨pb, po, none⟩ a').setCell ⟨tb, 1, none⟩ b').heap[q]? := by
  simp only [heap_set] at h ⊢
  rw [h]
  cases w.heap[q]? with
  | none => by_cases h1 : tb = q <;> by_cases h2 : pb = q <;> simp [h1, h2]
  | some o =>
    cases o <;> by_cases h1 : tb = q <;> by_cases h2 : pb = q <;> simp [h1, h2, set_again]
    all_goals (apply Array.ext_getElem?; intro k; simp only [Array.getElem?_setIfInBounds, Array.size_setIfInBounds]; repeat' split <;> simp_all)
/-- w' is w with p and the size set, and more blocks; but for block f. -/
structure Upd (w w' : World) (p : Addr) (x : Value) (tb : Nat) (s : Int) (f : Nat) : Prop where
  size : w.heap.size ≤ w'.heap.size
  blk : ∀ q, q < w.heap.size → q ≠ f → w'.heap[q]? = ((w.setCell p x).setCell ⟨tb, 1, none⟩ (I s)).heap[q]?
theorem Upd.later {w w1 w2 : World} {p : Addr} {x : Value} {tb : Nat} {s : Int} {f : Nat} (h : Upd w w1 p x tb s f) (hx : ∀ q, q < w1.heap.size → q ≠ f → w2.heap[q]? = w1.heap[q]?) (hs : w1.heap.size ≤ w2.heap.size) : Upd w w2 p x tb s f :=
  ⟨Nat.le_trans h.size hs, fun q h1 h2 => (hx q (Nat.lt_of_lt_of_le h1 h.size) h2).trans (h.blk q h1 h2)⟩

theorem bit_bd (a : BitVec 32) (i : Int) : 0 ≤ bitV a i ∧ bitV a i < 2 := by rcases bit01 a i with h | h <;> omega

end Go.Proofs.YtdpmnldmbnpfpaaDoor

/- A rule is put into the trie. Conditions: its prefix may be; the trie is not greater than 10^15 forks. -/
namespace Go.Proofs.YtdpmnldmbnpfpaaDoor
open Go.RowKit

def putT (pa : BitVec 32) (n : Int) (r : Rul) : T → T
  | .nil => hangT pa n r .nil
  | .node qa qn qr qi l k =>
    if meetA qa qn pa n = qa ∧ meetN qa qn pa n = qn then
      (if pa = qa ∧ n = qn then (if qi then .node qa qn qr qi l k else .node qa qn r true l k)
       else if bitV pa qn = 0 then .node qa qn qr qi (putT pa n r l) k else .node qa qn qr qi l (putT pa n r k))
    else hangT pa n r (.node qa qn qr qi l k)
theorem hang_ok {pa : BitVec 32} {n : Int} (r : Rul) (hv : Valid pa n) : ∀ {t : T}, t.Ok → (hangT pa n r t).Ok
  | .nil, _ => ⟨hv, trivial, trivial⟩
  | .node qa qn qr qi ql qk, h => by
    have hm := meet_valid hv h.1
    unfold hangT
    simp only
    split
    · split
      · exact ⟨hv, h, trivial⟩
      · exact ⟨hv, trivial, h⟩
    · split
      · exact ⟨hm, h, hv, trivial, trivial⟩
      · exact ⟨hm, ⟨hv, trivial, trivial⟩, h⟩
theorem put_ok {pa : BitVec 32} {n : Int} (r : Rul) (hv : Valid pa n) : ∀ {t : T}, t.Ok → (putT pa n r t).Ok
  | .nil, h => hang_ok r hv h
  | .node qa qn qr qi l k, h => by
    unfold putT
    split
    · split
      · split
        · exact h
        · exact h
      · split
        · exact ⟨h.1, put_ok r hv h.2.1, h.2.2⟩
        · exact ⟨h.1, h.2.1, put_ok r hv h.2.2⟩
    · exact hang_ok r hv h

theorem set_same {w : World} {pb po : Nat} {pcs : List Value} {PT : TypeId} {v : Value} (h : Blk w pb pcs PT) (hv : pcs[po]? = some v) (q : Nat) : (w.setCell ⟨pb, po, none⟩ v).heap[q]? = w.heap[q]? := by
  rw [heap_set]
  split
  · rename_i e
    simp only at e
    subst e
    unfold Blk at h
    rw [h]
    simp only [Option.map_some, Option.isSome_none, Bool.false_eq_true, if_false]
    congr 2
    apply Array.ext_getElem?
    intro k
    rw [Array.getElem?_setIfInBounds]
    split
    · rename_i e; subst e
      obtain ⟨h1, h2⟩ := List.getElem?_eq_some_iff.1 hv
      simp [h1, h2]
    · rfl
  · rfl
/-- w' is, in all old blocks but those of bs, w with the cell p and the size set. -/
def Turned (w w' : World) (pb po : Nat) (x : Value) (tb : Nat) (s : Int) (bs : List Nat) : Prop :=
  ∀ q, q < w.heap.size → q ∉ bs → w'.heap[q]? = ((w.setCell ⟨pb, po, none⟩ x).setCell ⟨tb, 1, none⟩ (I s)).heap[q]?
theorem turned_up {w w' : World} {pb po b i tb : Nat} {pcs : List Value} {PT : TypeId} {v2 v' : Value} {s : Int} {bs2 bs3 : List Nat} (hp : Blk w pb pcs PT) (hv : pcs[po]? = some v2) (hb : b ∈ bs2) (hs : ∀ q ∈ bs3, q ∈ bs2)
    (h : Turned w w' b i v' tb s bs3) : Turned w w' pb po v2 tb s bs2 := fun q hq hn => by
  have hqb : b ≠ q := fun e => hn (e ▸ hb)
  rw [h q hq fun h3 => hn (hs q h3)]
  have e1 : ((w.setCell ⟨b, i, none⟩ v').setCell ⟨tb, 1, none⟩ (I s)).heap[q]? = (w.setCell ⟨tb, 1, none⟩ (I s)).heap[q]? := by
    rw [heap_set (w.setCell ⟨b, i, none⟩ v'), heap_set w ⟨b, i, none⟩, heap_set w ⟨tb, 1, none⟩]
    simp only [hqb, if_false]
  have e2 : ((w.setCell ⟨pb, po, none⟩ v2).setCell ⟨tb, 1, none⟩ (I s)).heap[q]? = (w.setCell ⟨tb, 1, none⟩ (I s)).heap[q]? := by
    rw [heap_set (w.setCell ⟨pb, po, none⟩ v2), set_same hp hv, heap_set w ⟨tb, 1, none⟩]
  rw [e1, e2]
/-- Where the walk down ends: the fork is to be hung there. -/
def Stop (pa : BitVec 32) (n : Int) : T → Prop
  | .nil => True
  | .node qa qn _ _ _ _ => ¬ (meetA qa qn pa n = qa ∧ meetN qa qn pa n = qn)
theorem stop_put {pa : BitVec 32} {n : Int} {r : Rul} {t : T} (h : Stop pa n t) : putT pa n r t = hangT pa n r t := by
  cases t with
  | nil => rfl
  | node => exact if_neg h
end Go.Proofs.YtdpmnldmbnpfpaaDoor
