/- A fork is hung to its place in the trie. Conditions: the fork's prefix and the old one's differ at the bit behind what both have, where a new fork joins them. -/
import Derived.Test.YtilaljdokpdcoaaTrieC
namespace Go.Proofs.Ytilaljdokpdcoaa
open Go.RowKit

@[go_sem high] theorem span_neq (a b : BitVec 32) (m n : Int) (w : World) : (binOp .neq 101 (.agg #[U a, I m]) (.agg #[U b, I n])).run Try.prog w = .ok (.bool (!decide (a = b ∧ m = n))) w := by
  go_simp
  repeat' split <;> simp_all
@[go_sem high] theorem span_eql (a b : BitVec 32) (m n : Int) (w : World) : (binOp .eql 101 (.agg #[U a, I m]) (.agg #[U b, I n])).run Try.prog w = .ok (.bool (decide (a = b ∧ m = n))) w := by
  go_simp
  repeat' split <;> simp_all

def hangT (pa : BitVec 32) (n : Int) (r : Rul) : T → T
  | .nil => .node pa n r true .nil .nil
  | .node qa qn qr qi ql qk =>
    let bN := meetN pa n qa qn
    let bA := meetA pa n qa qn
    if bA = pa ∧ bN = n then (if bitV qa bN = 0 then .node pa n r true (.node qa qn qr qi ql qk) .nil else .node pa n r true .nil (.node qa qn qr qi ql qk))
    else (if bitV qa bN = 0 then .node bA bN zeroR false (.node qa qn qr qi ql qk) (.node pa n r true .nil .nil) else .node bA bN zeroR false (.node pa n r true .nil .nil) (.node qa qn qr qi ql qk))
def hangK (pa : BitVec 32) (n : Int) : T → Int
  | .nil => 1
  | .node qa qn _ _ _ _ => if meetA pa n qa qn = pa ∧ meetN pa n qa qn = n then 1 else 2
theorem hang_size (pa : BitVec 32) (n : Int) (r : Rul) (t : T) : ((hangT pa n r t).size : Int) = t.size + hangK pa n t := by
  cases t with
  | nil => rfl
  | node qa qn qr qi ql qk =>
    unfold hangT hangK
    simp only
    split
    · split <;> simp only [T.size] <;> omega
    · split <;> simp only [T.size] <;> omega

theorem heap_set (w : World) (a : Addr) (v : Value) (q : Nat) : (w.setCell a v).heap[q]? = if a.block = q then (w.heap[q]?).map (fun o => match o with
      | .cells c elem frozen => .cells (if a.spot.isSome then c else c.setIfInBounds a.off v) elem frozen
      | o => o) else w.heap[q]? := by
  simp only [World.setCell, Array.getElem?_modify]
  rfl
theorem set_again (c : Array Value) (i j : Nat) (a b a' b' : Value) : (((c.setIfInBounds i a).setIfInBounds j b).setIfInBounds i a').setIfInBounds j b' = (c.setIfInBounds i a').setIfInBounds j b' := by
  apply Array.ext_getElem?
  intro k
  simp only [Array.getElem?_setIfInBounds, Array.size_setIfInBounds]
  repeat' split <;> simp_all
theorem upd_again {w x : World} {pb po tb q : Nat} {a a' b b' : Value} (h : x.heap[q]? = ((w.setCell ⟨pb, po, none⟩ a).setCell ⟨tb, 1, none⟩ b).heap[q]?) :
    ((x.setCell ⟨pb, po, none⟩ a').setCell ⟨tb, 1, none⟩ b').heap[q]? = ((w.setCell ⟨pb, po, none⟩ a').setCell ⟨tb, 1, none⟩ b').heap[q]? := by
  simp only [heap_set] at h ⊢
  rw [h]
  cases w.heap[q]? with
  | none => by_cases h1 : tb = q <;> by_cases h2 : pb = q <;> simp [h1, h2]
  | some o =>
    cases o <;> by_cases h1 : tb = q <;> by_cases h2 : pb = q <;> simp [h1, h2, set_again]
    all_goals (apply Array.ext_getElem?; intro k; simp only [Array.getElem?_setIfInBounds, Array.size_setIfInBounds]; repeat' split <;> simp_all)
/-- w' is w with p and the size set, and more blocks; but for block f. -/
structure Upd (w w' : World) (p : Addr) (x : Value) (tb : Nat) (s : Int) (f : Nat) : Prop where
  size : w.heap.size ≤ w'.heap.size
  blk : ∀ q, q < w.heap.size → q ≠ f → w'.heap[q]? = ((w.setCell p x).setCell ⟨tb, 1, none⟩ (I s)).heap[q]?
theorem Upd.later {w w1 w2 : World} {p : Addr} {x : Value} {tb : Nat} {s : Int} {f : Nat} (h : Upd w w1 p x tb s f) (hx : ∀ q, q < w1.heap.size → q ≠ f → w2.heap[q]? = w1.heap[q]?) (hs : w1.heap.size ≤ w2.heap.size) : Upd w w2 p x tb s f :=
  ⟨Nat.le_trans h.size hs, fun q h1 h2 => (hx q (Nat.lt_of_lt_of_le h1 h.size) h2).trans (h.blk q h1 h2)⟩

structure HangPre (w : World) (B tb : Nat) (vt : Value) (sz : Int) (pb po : Nat) (pcs : List Value) (PT : TypeId) (fb : Nat) (pa : BitVec 32) (n : Int) (r : Rul) (old : T) (v : Value) (bs : List Nat) : Prop where
  blkT : Blk w tb [vt, I sz] 96
  blkP : Blk w pb pcs PT
  get : pcs[po]? = some v
  alias : pb = tb → po = 0
  blkF : Blk w fb (forkC pa n r true (.pointer none) (.pointer none)) 104
  tree : TreeAt w old v bs
  neT : fb ≠ tb
  neP : fb ≠ pb
  apart : ∀ q ∈ bs, q ≠ fb ∧ q ≠ pb ∧ q ≠ tb
  nodup : bs.Nodup
  lowT : B ≤ tb
  lowP : B ≤ pb
  lowF : B ≤ fb
  size0 : 0 ≤ sz
  size1 : sz ≤ 1000000000000000
  valid : Valid pa n
  ok : old.Ok
structure HangPost (w w' : World) (B tb pb po fb : Nat) (sz : Int) (pa : BitVec 32) (n : Int) (r : Rul) (old : T) (bs : List Nat) (v' : Value) (bs' : List Nat) : Prop where
  tree : TreeAt w' (hangT pa n r old) v' bs'
  from' : ∀ q ∈ bs', q ∈ bs ∨ q = fb ∨ w.heap.size ≤ q
  nodup : bs'.Nodup
  upd : Upd w w' ⟨pb, po, none⟩ v' tb (sz + hangK pa n old) fb
  below : Below B w w'

set_option maxHeartbeats 1000000 in
theorem hang_nil (w : World) (B tb : Nat) (vt : Value) (sz : Int) (pb po : Nat) (pcs : List Value) (PT : TypeId) (fb : Nat) (pa : BitVec 32) (n : Int) (r : Rul) (v : Value) (bs : List Nat)
    (h : HangPre w B tb vt sz pb po pcs PT fb pa n r .nil v bs) :
    Calls Try.prog 79 #[.pointer (some ⟨tb, 0, none⟩), .pointer (some ⟨pb, po, none⟩), .pointer (some ⟨fb, 0, none⟩)] w fun e w' =>
      e = .returned (.tuple #[]) ∧ ∃ v' bs', HangPost w w' B tb pb po fb sz pa n r .nil bs v' bs' := by
  have kT := h.blkT.cells
  have kTf := h.blkT.frozen
  have kP : w.cell? ⟨pb, po, none⟩ = some v := by rw [h.blkP.cells, h.get]
  have kPf := h.blkP.frozen
  obtain ⟨rfl, rfl⟩ := h.tree
  have s0 := h.size0
  have s1 := h.size1
  have fin : ∀ w', w' = ((w.setCell ⟨pb, po, none⟩ (.pointer (some ⟨fb, 0, none⟩))).setCell ⟨tb, 1, none⟩ (I (sz + 1))) → ∃ v' bs', HangPost w w' B tb pb po fb sz pa n r .nil [] v' bs' := by
    rintro w' rfl
    refine ⟨_, [fb], ⟨fb, [], [], _, _, rfl, rfl, (h.blkF.other (by exact fun e => h.neP e.symm) _).other (by exact fun e => h.neT e.symm) _, ⟨rfl, rfl⟩, ⟨rfl, rfl⟩⟩, fun q hq => .inr (.inl (by simpa using hq)), by simp,
      ⟨by simp [World.setCell], fun q _ _ => rfl⟩, ((Below.refl _ _).setCell h.lowP _).setCell h.lowT _⟩
  by_cases al : pb = tb
  · have := h.alias al
    subst al this
    clear kT
    have kT1 : w.cell? ⟨pb, 1, none⟩ = some (I sz) := by rw [h.blkT.cells]; rfl
    go_enter Try.func79, Try.ntmps79
    go_wp2
    exact bodyPost_ret (v := .tuple #[]) (results_none Try.results79 _ _ _) rfl ⟨rfl, fin _ rfl⟩
  · have al' : tb ≠ pb := fun e => al e.symm
    have kT1 : w.cell? ⟨tb, 1, none⟩ = some (I sz) := by rw [h.blkT.cells]; rfl
    clear kT
    go_enter Try.func79, Try.ntmps79
    go_wp2
    exact bodyPost_ret (v := .tuple #[]) (results_none Try.results79 _ _ _) rfl ⟨rfl, fin _ rfl⟩

/-- Behind 'place' and the size: what is known of the world. -/
structure HangMid (w W : World) (B tb pb po fb ob : Nat) (sz : Int) (pa : BitVec 32) (n : Int) (r : Rul) (qa : BitVec 32) (qn : Int) (qr : Rul) (qi : Bool) (vl vk : Value) : Prop where
  upd : Upd w W ⟨pb, po, none⟩ (.pointer (some ⟨fb, 0, none⟩)) tb (sz + 1) fb
  below : Below B w W
  size : w.heap.size = W.heap.size
  cF : Blk W fb (forkC pa n r true (.pointer none) (.pointer none)) 104
  cO : Blk W ob (forkC qa qn qr qi vl vk) 104
  rest : ∃ vt' pcs' PT', Blk W tb [vt', I (sz + 1)] 96 ∧ Blk W pb pcs' PT' ∧ pcs'[po]? = some (.pointer (some ⟨fb, 0, none⟩))
theorem bit_bd (a : BitVec 32) (i : Int) : 0 ≤ bitV a i ∧ bitV a i < 2 := by rcases bit01 a i with h | h <;> omega

theorem old_tree {w w' : World} {B tb : Nat} {vt : Value} {sz : Int} {pb po : Nat} {pcs : List Value} {PT : TypeId} {fb : Nat} {pa : BitVec 32} {n : Int} {r : Rul} {old : T} {v : Value} {bs : List Nat}
    (h : HangPre w B tb vt sz pb po pcs PT fb pa n r old v bs) {x : Value} {s : Int} (hU : Upd w w' ⟨pb, po, none⟩ x tb s fb) : TreeAt w' old v bs := by
  refine h.tree.same fun q hq => ?_
  obtain ⟨a1, a2, a3⟩ := h.apart q hq
  rw [hU.blk q (h.tree.lt q hq) a1, Below.heap_setCell _ _ _ _ (by exact a3), Below.heap_setCell _ _ _ _ (by exact a2)]
theorem hang_doneA {w W1 w6 : World} {B tb : Nat} {vt : Value} {sz : Int} {pb po : Nat} {pcs : List Value} {PT : TypeId} {fb : Nat} {pa : BitVec 32} {n : Int} {r : Rul} {bs : List Nat} {qa : BitVec 32} {qn : Int} {qr : Rul} {qi : Bool} {ql qk : T} {ob : Nat} {vl vk : Value}
    (h : HangPre w B tb vt sz pb po pcs PT fb pa n r (.node qa qn qr qi ql qk) (.pointer (some ⟨ob, 0, none⟩)) bs) (hM : HangMid w W1 B tb pb po fb ob sz pa n r qa qn qr qi vl vk) (hx : Ext W1 w6)
    (hsp : meetA pa n qa qn = pa ∧ meetN pa n qa qn = n) (i : Nat) (hi : i = if bitV qa (meetN pa n qa qn) = 0 then 7 else 8) :
    ∃ v' bs', HangPost w (w6.setCell ⟨fb, i, none⟩ (.pointer (some ⟨ob, 0, none⟩))) B tb pb po fb sz pa n r (.node qa qn qr qi ql qk) bs v' bs' := by
  have hU : Upd w (w6.setCell ⟨fb, i, none⟩ (.pointer (some ⟨ob, 0, none⟩))) ⟨pb, po, none⟩ (.pointer (some ⟨fb, 0, none⟩)) tb (sz + 1) fb :=
    hM.upd.later (fun q h1 h2 => by rw [Below.heap_setCell _ _ _ _ (by exact h2), Below.block hx q h1]) (by have := hx.size; simp [World.setCell]; exact this)
  have hT := old_tree h hU
  have hB : Below B w (w6.setCell ⟨fb, i, none⟩ (.pointer (some ⟨ob, 0, none⟩))) :=
    (hM.below.trans (Below.mono hx (Nat.le_trans (Nat.le_of_lt (Nat.lt_of_le_of_lt h.lowF h.blkF.lt)) (by rw [hM.size]; exact Nat.le_refl _)))).setCell h.lowF _
  have hF := (hM.cF.later hx).set i (.pointer (some ⟨ob, 0, none⟩))
  have hK : hangK pa n (.node qa qn qr qi ql qk) = 1 := if_pos hsp
  have hfb : fb ∉ bs := fun hq => (h.apart fb hq).1 rfl
  by_cases g : bitV qa (meetN pa n qa qn) = 0
  · rw [if_pos g] at hi
    subst hi
    refine ⟨.pointer (some ⟨fb, 0, none⟩), fb :: (bs ++ []), ⟨?_, ?_, ?_, ?_, hB⟩⟩
    · simp only [hangT, hsp, and_self, if_true]
      rw [hsp.2] at g
      simp only [g, if_true]
      exact ⟨fb, bs, [], _, _, rfl, rfl, hF, hT, rfl, rfl⟩
    · intro q hq
      simp only [List.append_nil, List.mem_cons] at hq
      rcases hq with rfl | hq
      · exact .inr (.inl rfl)
      · exact .inl hq
    · simp [hfb, h.nodup]
    · rw [hK]; exact hU
  · rw [if_neg g] at hi
    subst hi
    refine ⟨.pointer (some ⟨fb, 0, none⟩), fb :: ([] ++ bs), ⟨?_, ?_, ?_, ?_, hB⟩⟩
    · simp only [hangT, hsp, and_self, if_true]
      rw [hsp.2] at g
      simp only [g, if_false]
      exact ⟨fb, [], bs, _, _, rfl, rfl, hF, ⟨rfl, rfl⟩, hT⟩
    · intro q hq
      simp only [List.nil_append, List.mem_cons] at hq
      rcases hq with rfl | hq
      · exact .inr (.inl rfl)
      · exact .inl hq
    · simp [hfb, h.nodup]
    · rw [hK]; exact hU

/-- Behind the joining fork, its place and the size. -/
structure HangJ (w W : World) (B tb pb po fb ob sb jb i : Nat) (sz : Int) (pa : BitVec 32) (n : Int) (r : Rul) (qa : BitVec 32) (qn : Int) (qr : Rul) (qi : Bool) (vl vk : Value) : Prop where
  upd : Upd w W ⟨pb, po, none⟩ (.pointer (some ⟨jb, 0, none⟩)) tb (sz + 2) fb
  below : Below B w W
  cF : Blk W fb (forkC pa n r true (.pointer none) (.pointer none)) 104
  cO : Blk W ob (forkC qa qn qr qi vl vk) 104
  cJ : Blk W jb ((forkC (meetA pa n qa qn) (meetN pa n qa qn) zeroR false (.pointer none) (.pointer none)).set i (.pointer (some ⟨fb, 0, none⟩))) 104
  cS : Blk W sb [U (meetA pa n qa qn), I (meetN pa n qa qn)] 101
  cP : W.cell? ⟨pb, po, none⟩ = some (.pointer (some ⟨jb, 0, none⟩))
theorem hang_join {w W1 w7 : World} {B tb : Nat} {vt : Value} {sz : Int} {pb po : Nat} {pcs : List Value} {PT : TypeId} {fb : Nat} {pa : BitVec 32} {n : Int} {r : Rul} {bs : List Nat} {qa : BitVec 32} {qn : Int} {qr : Rul} {qi : Bool} {ql qk : T} {ob sb jb i : Nat} {vl vk : Value}
    (h : HangPre w B tb vt sz pb po pcs PT fb pa n r (.node qa qn qr qi ql qk) (.pointer (some ⟨ob, 0, none⟩)) bs) (hM : HangMid w W1 B tb pb po fb ob sz pa n r qa qn qr qi vl vk) (hx : Ext W1 w7)
    (hj : Blk w7 jb (forkC (meetA pa n qa qn) (meetN pa n qa qn) zeroR false (.pointer none) (.pointer none)) 104) (hjl : W1.heap.size ≤ jb) (hS : Blk w7 sb [U (meetA pa n qa qn), I (meetN pa n qa qn)] 101) (hsl : W1.heap.size ≤ sb) (hsj : sb < jb)
    (hob : ob < W1.heap.size) (o2 : ob ≠ pb) (o3 : ob ≠ tb) {W : World}
    (hW : W = (((w7.setCell ⟨jb, i, none⟩ (.pointer (some ⟨fb, 0, none⟩))).setCell ⟨pb, po, none⟩ (.pointer (some ⟨jb, 0, none⟩))).setCell ⟨tb, 1, none⟩ (I (sz + 2)))) :
    HangJ w W B tb pb po fb ob sb jb i sz pa n r qa qn qr qi vl vk := by
  subst hW
  have lt := h.blkT.lt
  have lp := h.blkP.lt
  have lf := h.blkF.lt
  have hz := hM.size
  obtain ⟨vt', pcs', PT', cT, cP, cg⟩ := hM.rest
  have hpo : po < pcs'.length := (List.getElem?_eq_some_iff.1 cg).1
  refine ⟨⟨?_, fun q h1 h2 => ?_⟩, ?_, ?_, ?_, ?_, ?_, ?_⟩
  · have := hx.size; simp [World.setCell]; omega
  · refine upd_again (a := .pointer (some ⟨fb, 0, none⟩)) (b := I (sz + 1)) ?_
    rw [Below.heap_setCell _ _ _ _ (by simp only; omega), Below.block hx q (by omega)]
    exact hM.upd.blk q h1 h2
  · exact (((hM.below.trans (Below.mono hx (by have := h.lowF; omega))).setCell (by have := h.lowF; simp only; omega) _).setCell h.lowP _).setCell h.lowT _
  · exact (((hM.cF.later hx).other (by simp only; omega) _).other (by exact fun e => h.neP e.symm) _).other (by exact fun e => h.neT e.symm) _
  · exact (((hM.cO.later hx).other (by simp only; omega) _).other (by exact fun e => o2 e.symm) _).other (by exact fun e => o3 e.symm) _
  · exact ((hj.set i _).other (by simp only; omega) _).other (by simp only; omega) _
  · exact ((hS.other (by simp only; omega) _).other (by simp only; omega) _).other (by simp only; omega) _
  · have b1 := ((cP.later hx).other (p := ⟨jb, i, none⟩) (by simp only; omega) (.pointer (some ⟨fb, 0, none⟩))).set po (.pointer (some ⟨jb, 0, none⟩))
    by_cases al : pb = tb
    · have := h.alias al
      subst al this
      rw [(b1.set 1 _).cells]; simp [hpo]
    · rw [(b1.other (by exact fun e => al e.symm) _).cells]; simp [hpo]
theorem hang_doneB {w W8 w9 : World} {B tb : Nat} {vt : Value} {sz : Int} {pb po : Nat} {pcs : List Value} {PT : TypeId} {fb : Nat} {pa : BitVec 32} {n : Int} {r : Rul} {bs : List Nat} {qa : BitVec 32} {qn : Int} {qr : Rul} {qi : Bool} {ql qk : T} {ob sb jb i j : Nat} {vl vk : Value}
    (h : HangPre w B tb vt sz pb po pcs PT fb pa n r (.node qa qn qr qi ql qk) (.pointer (some ⟨ob, 0, none⟩)) bs) (hJ : HangJ w W8 B tb pb po fb ob sb jb i sz pa n r qa qn qr qi vl vk) (hx : Ext W8 w9) (hjl : w.heap.size ≤ jb)
    (hsp : ¬ (meetA pa n qa qn = pa ∧ meetN pa n qa qn = n)) (hij : i = 7 ∧ j = 8 ∧ bitV qa (meetN pa n qa qn) = 1 ∨ i = 8 ∧ j = 7 ∧ bitV qa (meetN pa n qa qn) = 0) :
    ∃ v' bs', HangPost w (w9.setCell ⟨jb, j, none⟩ (.pointer (some ⟨ob, 0, none⟩))) B tb pb po fb sz pa n r (.node qa qn qr qi ql qk) bs v' bs' := by
  have lj := hJ.cJ.lt
  have hU : Upd w (w9.setCell ⟨jb, j, none⟩ (.pointer (some ⟨ob, 0, none⟩))) ⟨pb, po, none⟩ (.pointer (some ⟨jb, 0, none⟩)) tb (sz + 2) fb :=
    ⟨by have h1 := hJ.upd.size; have h2 := hx.size; simp [World.setCell]; omega, fun q h1 h2 => by
      rw [Below.heap_setCell _ _ _ _ (by simp only; omega), Below.block hx q (by omega)]; exact hJ.upd.blk q h1 h2⟩
  have hT := old_tree h hU
  have lf := h.blkF.lt
  have hB : Below B w (w9.setCell ⟨jb, j, none⟩ (.pointer (some ⟨ob, 0, none⟩))) :=
    (hJ.below.trans (Below.mono hx (by have := h.lowF; omega))).setCell (by have := h.lowF; simp only; omega) _
  have hF := (hJ.cF.later hx).other (p := ⟨jb, j, none⟩) (by simp only; omega) (.pointer (some ⟨ob, 0, none⟩))
  have hJJ := (hJ.cJ.later hx).set j (.pointer (some ⟨ob, 0, none⟩))
  have hK : hangK pa n (.node qa qn qr qi ql qk) = 2 := if_neg hsp
  have hfb : fb ∉ bs := fun hq => (h.apart fb hq).1 rfl
  have hjb : jb ∉ bs := fun hq => by have := h.tree.lt jb hq; omega
  have hfj : fb ≠ jb := by omega
  rcases hij with ⟨rfl, rfl, g⟩ | ⟨rfl, rfl, g⟩
  · refine ⟨.pointer (some ⟨jb, 0, none⟩), jb :: ([fb] ++ bs), ⟨?_, ?_, ?_, ?_, hB⟩⟩
    · simp only [hangT, hsp, if_false, g, Int.one_ne_zero]
      exact ⟨jb, [fb], bs, _, _, rfl, rfl, hJJ, ⟨fb, [], [], _, _, rfl, rfl, hF, ⟨rfl, rfl⟩, ⟨rfl, rfl⟩⟩, hT⟩
    · intro q hq
      simp only [List.cons_append, List.nil_append, List.mem_cons] at hq
      rcases hq with rfl | rfl | hq
      · exact .inr (.inr hjl)
      · exact .inr (.inl rfl)
      · exact .inl hq
    · simp [hfb, hjb, h.nodup, hfj.symm]
    · rw [hK]; exact hU
  · refine ⟨.pointer (some ⟨jb, 0, none⟩), jb :: (bs ++ [fb]), ⟨?_, ?_, ?_, ?_, hB⟩⟩
    · simp only [hangT, hsp, if_false, g, if_true]
      exact ⟨jb, bs, [fb], _, _, rfl, rfl, hJJ, hT, ⟨fb, [], [], _, _, rfl, rfl, hF, ⟨rfl, rfl⟩, ⟨rfl, rfl⟩⟩⟩
    · intro q hq
      simp only [List.mem_cons, List.mem_append, List.not_mem_nil, or_false] at hq
      rcases hq with rfl | hq | rfl
      · exact .inr (.inr hjl)
      · exact .inl hq
      · exact .inr (.inl rfl)
    · refine List.nodup_cons.2 ⟨by simp [hjb, hfj.symm], List.nodup_append.2 ⟨h.nodup, by simp, fun a ha b hb => ?_⟩⟩
      simp at hb; subst hb; exact fun e => hfb (e ▸ ha)
    · rw [hK]; exact hU

set_option maxHeartbeats 2000000 in
theorem hang_node (w : World) (B tb : Nat) (vt : Value) (sz : Int) (pb po : Nat) (pcs : List Value) (PT : TypeId) (fb : Nat) (pa : BitVec 32) (n : Int) (r : Rul) (v : Value) (bs : List Nat)
    (qa : BitVec 32) (qn : Int) (qr : Rul) (qi : Bool) (ql qk : T)
    (h : HangPre w B tb vt sz pb po pcs PT fb pa n r (.node qa qn qr qi ql qk) v bs)
    (hbit : ¬ (meetA pa n qa qn = pa ∧ meetN pa n qa qn = n) → bitV pa (meetN pa n qa qn) ≠ bitV qa (meetN pa n qa qn)) :
    Calls Try.prog 79 #[.pointer (some ⟨tb, 0, none⟩), .pointer (some ⟨pb, po, none⟩), .pointer (some ⟨fb, 0, none⟩)] w fun e w' =>
      e = .returned (.tuple #[]) ∧ ∃ v' bs', HangPost w w' B tb pb po fb sz pa n r (.node qa qn qr qi ql qk) bs v' bs' := by
  have kTf := h.blkT.frozen
  have kP : w.cell? ⟨pb, po, none⟩ = some v := by rw [h.blkP.cells, h.get]
  have kPf := h.blkP.frozen
  obtain ⟨ob, bl, bk, vl, vk, rfl, rfl, hob, hl, hk⟩ := h.tree
  have s0 := h.size0
  have s1 := h.size1
  have hm64 := h.valid.in64
  have hq64 := h.ok.1.in64
  obtain ⟨ap1, ap2, ap3⟩ := h.apart ob (by simp)
  have F1 : ∀ W, W = ((w.setCell ⟨pb, po, none⟩ (.pointer (some ⟨fb, 0, none⟩))).setCell ⟨tb, 1, none⟩ (I (sz + 1))) → HangMid w W B tb pb po fb ob sz pa n r qa qn qr qi vl vk := by
    rintro W rfl
    have b1 : Blk (w.setCell ⟨pb, po, none⟩ (.pointer (some ⟨fb, 0, none⟩))) pb (pcs.set po (.pointer (some ⟨fb, 0, none⟩))) PT := h.blkP.set po _
    have hpo : po < pcs.length := (List.getElem?_eq_some_iff.1 h.get).1
    refine ⟨⟨by simp [World.setCell], fun q _ _ => rfl⟩, ((Below.refl _ _).setCell h.lowP _).setCell h.lowT _, by simp [World.setCell], (h.blkF.other (by exact fun e => h.neP e.symm) _).other (by exact fun e => h.neT e.symm) _,
      (hob.other (by exact fun e => ap2 e.symm) _).other (by exact fun e => ap3 e.symm) _, ?_⟩
    by_cases al : pb = tb
    · have := h.alias al
      subst al this
      have b2 := (h.blkT.set 0 (.pointer (some ⟨fb, 0, none⟩))).set 1 (I (sz + 1))
      exact ⟨_, _, _, b2, b2, rfl⟩
    · exact ⟨_, _, _, (h.blkT.other (p := ⟨pb, po, none⟩) (by exact al) (.pointer (some ⟨fb, 0, none⟩))).set 1 (I (sz + 1)), b1.other (by exact fun e => al e.symm) _, by simp [hpo]⟩
  have kT1 : w.cell? ⟨tb, 1, none⟩ = some (I sz) := by rw [h.blkT.cells]; rfl
  have HP := Lib.hid h
  have hN : In64 (meetN pa n qa qn) := by
    have := common_bd pa qa
    rw [meetN_min]; obtain ⟨e1, e2⟩ := hm64; obtain ⟨e3, e4⟩ := hq64; unfold In64; omega
  have HN := Lib.hid hN
  have g1 := bit_bd pa (meetN pa n qa qn)
  have g2 := bit_bd qa (meetN pa n qa qn)
  have HM := Lib.hid hm64
  have HQ := Lib.hid hq64
  have HBIT := Lib.hid hbit
  have HL := Lib.hid hl
  have HK := Lib.hid hk
  have HF1 := Lib.hid F1
  have HAP := Lib.hid h.apart
  have ltb := h.blkT.lt
  have lpb := h.blkP.lt
  have lfb := h.blkF.lt
  have lob := hob.lt
  have al2 : pb = tb ∧ po = 0 ∨ tb ≠ pb := by
    by_cases al : pb = tb
    · exact .inl ⟨al, h.alias al⟩
    · exact .inr fun e => al e.symm
  clear h hN hm64 hq64 hbit hl hk F1 hob
  rcases al2 with ⟨rfl, rfl⟩ | al
  all_goals
    go_enter Try.func79, Try.ntmps79
    go_wp2_with fail
    refine hideW (Φ := fun W => Code.wp _ _ _ _ W) (fun W => HangMid w W B _ _ _ fb ob sz pa n r qa qn qr qi vl vk) (HF1.out _ rfl) (fun W1 hW => ?_)
    have HMid := Lib.hid hW
    obtain ⟨hU, hB, hsz, cF, cO, vt', pcs', PT', cT, cP, cg⟩ := hW
    have HZ := Lib.hid hsz
    clear hsz
    have kF := cF.keep
    have kO := cO.keep
    refine wp_region_E 10 rfl (by kernel_rfl) (by kernel_rfl) ?_
    refine WE_q 0 rfl (by decide) (by kernel_rfl) rfl ?_; apply Exists.intro; refine ⟨fun w1 hx1 => ?_, ?_⟩
    · have hq1 := hx1.cells; go_simp; try go_bits
      first | with_reducible rfl | (refine (spanMeet_any _ _ _ _ _ HM.out HQ.out).mono ?_; rintro e w' ⟨rfl, hx'⟩; exact ⟨rfl, hx'⟩)
    simp only [Act.put, List.setIfInBounds_toArray, List.set_cons_zero, List.set_cons_succ]
    refine WE_q 1 rfl (by decide) (by kernel_rfl) rfl ?_; apply Exists.intro; refine ⟨fun w1 hx1 => ?_, ?_⟩
    · have hq1 := hx1.cells; go_simp; try go_bits
      first | with_reducible rfl | (refine (spanMeet_any _ _ _ _ _ HM.out HQ.out).mono ?_; rintro e w' ⟨rfl, hx'⟩; exact ⟨rfl, hx'⟩)
    simp only [Act.put, List.setIfInBounds_toArray, List.set_cons_zero, List.set_cons_succ]
    refine WE_q 2 rfl (by decide) (by kernel_rfl) rfl ?_; apply Exists.intro; refine ⟨fun w1 hx1 => ?_, ?_⟩
    · have hq1 := hx1.cells; go_simp; try go_bits
      first | with_reducible rfl | (refine (spanMeet_any _ _ _ _ _ HM.out HQ.out).mono ?_; rintro e w' ⟨rfl, hx'⟩; exact ⟨rfl, hx'⟩)
    simp only [Act.put, List.setIfInBounds_toArray, List.set_cons_zero, List.set_cons_succ]
    refine WE_q 3 rfl (by decide) (by kernel_rfl) rfl ?_; apply Exists.intro; refine ⟨fun w1 hx1 => ?_, ?_⟩
    · have hq1 := hx1.cells; go_simp; try go_bits
      first | with_reducible rfl | (refine (spanMeet_any _ _ _ _ _ HM.out HQ.out).mono ?_; rintro e w' ⟨rfl, hx'⟩; exact ⟨rfl, hx'⟩)
    simp only [Act.put, List.setIfInBounds_toArray, List.set_cons_zero, List.set_cons_succ]
    refine WE_q 4 rfl (by decide) (by kernel_rfl) rfl ?_; apply Exists.intro; refine ⟨fun w1 hx1 => ?_, ?_⟩
    · have hq1 := hx1.cells; go_simp; try go_bits
      first | with_reducible rfl | (refine (spanMeet_any _ _ _ _ _ HM.out HQ.out).mono ?_; rintro e w' ⟨rfl, hx'⟩; exact ⟨rfl, hx'⟩)
    simp only [Act.put, List.setIfInBounds_toArray, List.set_cons_zero, List.set_cons_succ]
    refine WE_q 5 rfl (by decide) (by kernel_rfl) rfl ?_; apply Exists.intro; refine ⟨fun w1 hx1 => ?_, ?_⟩
    · have hq1 := hx1.cells; go_simp; try go_bits
      first | with_reducible rfl | (refine (spanMeet_any _ _ _ _ _ HM.out HQ.out).mono ?_; rintro e w' ⟨rfl, hx'⟩; exact ⟨rfl, hx'⟩)
    simp only [Act.put, List.setIfInBounds_toArray, List.set_cons_zero, List.set_cons_succ]
    refine WE_q 6 rfl (by decide) (by kernel_rfl) rfl ?_; apply Exists.intro; refine ⟨fun w1 hx1 => ?_, ?_⟩
    · have hq1 := hx1.cells; go_simp; try go_bits
      first | with_reducible rfl | (refine (spanMeet_any _ _ _ _ _ HM.out HQ.out).mono ?_; rintro e w' ⟨rfl, hx'⟩; exact ⟨rfl, hx'⟩)
    simp only [Act.put, List.setIfInBounds_toArray, List.set_cons_zero, List.set_cons_succ]
    refine WE_q 7 rfl (by decide) (by kernel_rfl) rfl ?_; apply Exists.intro; refine ⟨fun w1 hx1 => ?_, ?_⟩
    · have hq1 := hx1.cells; go_simp; try go_bits
      first | with_reducible rfl | (refine (spanMeet_any _ _ _ _ _ HM.out HQ.out).mono ?_; rintro e w' ⟨rfl, hx'⟩; exact ⟨rfl, hx'⟩)
    simp only [Act.put, List.setIfInBounds_toArray, List.set_cons_zero, List.set_cons_succ]
    refine WE_q 8 rfl (by decide) (by kernel_rfl) rfl ?_; apply Exists.intro; refine ⟨fun w1 hx1 => ?_, ?_⟩
    · have hq1 := hx1.cells; go_simp; try go_bits
      first | with_reducible rfl | (refine (spanMeet_any _ _ _ _ _ HM.out HQ.out).mono ?_; rintro e w' ⟨rfl, hx'⟩; exact ⟨rfl, hx'⟩)
    simp only [Act.put, List.setIfInBounds_toArray, List.set_cons_zero, List.set_cons_succ]
    refine WE_do 9 rfl (by decide) (by kernel_rfl) rfl (fun wa hxa K hK => ?_)
    go_simp
    refine hK _ _ ((Ext.refl _).alloc _) ?_
    clear hK K
    refine WE_done (by kernel_rfl) (fun wb hxb => ?_)
    (try simp only [List.drop_succ_cons, List.drop_zero])
    have hsa : W1.heap.size ≤ wa.heap.size := hxa.size
    have hx1b : Ext W1 wb := hxa.trans (((Ext.refl wa).alloc _).trans hxb)
    have cS : Blk wb wa.heap.size [.int .u32 0, .int .i64 0] 101 := Blk.later (by (repeat (first | with_reducible assumption | (with_reducible refine Blk.newAt _ ?_; focus (first | with_reducible rfl | (simp; done))) | with_reducible refine Blk.old ?_ _ | with_reducible refine Blk.drew ?_))) hxb
    have kS := cS.cells
    have kSf := cS.frozen
    clear hxa hxb
    go_wp2_with fail
    refine hideW (Φ := fun W => Code.wp _ _ _ _ W) (fun W => Ext W1 W ∧ Blk W wa.heap.size [U (meetA pa n qa qn), I (meetN pa n qa qn)] 101) ⟨?_, (cS.set 0 _).set 1 _⟩ (fun W4 hW4 => ?_)
    · exact Ext.setCellP hsa (Ext.setCellP hsa hx1b)
    obtain ⟨hx4, cS4⟩ := hW4
    clear cS kS kSf hx1b
    generalize wa.heap.size = sb at *
    clear wa wb
    have kS := cS4.keep
    have kF := (cF.later hx4).keep
    have kO := (cO.later hx4).keep
    by_cases hsp : meetA pa n qa qn = pa ∧ meetN pa n qa qn = n
    · have hspd : decide (meetA pa n qa qn = pa ∧ meetN pa n qa qn = n) = true := decide_eq_true hsp
      refine wp_region_E 5 rfl (by kernel_rfl) (by kernel_rfl) ?_
      refine WE_q 0 rfl (by decide) (by kernel_rfl) rfl ?_; apply Exists.intro; refine ⟨fun w1 hx1 => ?_, ?_⟩
      · have hq1 := hx1.cells; go_simp; try go_bits
        first | with_reducible rfl
      simp only [Act.put, List.setIfInBounds_toArray, List.set_cons_zero, List.set_cons_succ]
      refine WE_q 1 rfl (by decide) (by kernel_rfl) rfl ?_; apply Exists.intro; refine ⟨fun w1 hx1 => ?_, ?_⟩
      · have hq1 := hx1.cells; go_simp; try go_bits
        first | with_reducible rfl
      simp only [Act.put, List.setIfInBounds_toArray, List.set_cons_zero, List.set_cons_succ]
      refine WE_q 2 rfl (by decide) (by kernel_rfl) rfl ?_; apply Exists.intro; refine ⟨fun w1 hx1 => ?_, ?_⟩
      · have hq1 := hx1.cells; go_simp; try go_bits
        first | with_reducible rfl
      simp only [Act.put, List.setIfInBounds_toArray, List.set_cons_zero, List.set_cons_succ]
      refine WE_q 3 rfl (by decide) (by kernel_rfl) rfl ?_; apply Exists.intro; refine ⟨fun w1 hx1 => ?_, ?_⟩
      · have hq1 := hx1.cells; go_simp; try go_bits
        first | with_reducible rfl
      simp only [Act.put, List.setIfInBounds_toArray, List.set_cons_zero, List.set_cons_succ]
      refine WE_q 4 rfl (by decide) (by kernel_rfl) rfl ?_; apply Exists.intro; refine ⟨fun w1 hx1 => ?_, ?_⟩
      · have hq1 := hx1.cells; go_simp; try go_bits
        first | with_reducible rfl
      simp only [Act.put, List.setIfInBounds_toArray, List.set_cons_zero, List.set_cons_succ]
      refine WE_done (by kernel_rfl) (fun w5 hx5 => ?_)
      (try simp only [List.drop_succ_cons, List.drop_zero])
      have HSP := Lib.hid hsp
      clear hsp
      go_wp2_with fail
      have kS := (cS4.later hx5).keep
      have kF := (cF.later (hx4.trans hx5)).keep
      have kO := (cO.later (hx4.trans hx5)).keep
      have kP := Ext.keep (show w5.cell? ⟨_, _, none⟩ = some (.pointer (some ⟨fb, 0, none⟩)) by rw [(cP.later (hx4.trans hx5)).cells]; exact cg)
      refine wp_region_E 15 rfl (by kernel_rfl) (by kernel_rfl) ?_
      refine WE_q 0 rfl (by decide) (by kernel_rfl) rfl ?_; apply Exists.intro; refine ⟨fun w1 hx1 => ?_, ?_⟩
      · have hq1 := hx1.cells; go_simp; try go_bits
        first | with_reducible rfl | (refine (bit_any _ _ _ HN.out).mono ?_; rintro e w' ⟨rfl, rfl⟩; exact ⟨rfl, Ext.refl _⟩)
      simp only [Act.put, List.setIfInBounds_toArray, List.set_cons_zero, List.set_cons_succ]
      refine WE_q 1 rfl (by decide) (by kernel_rfl) rfl ?_; apply Exists.intro; refine ⟨fun w1 hx1 => ?_, ?_⟩
      · have hq1 := hx1.cells; go_simp; try go_bits
        first | with_reducible rfl | (refine (bit_any _ _ _ HN.out).mono ?_; rintro e w' ⟨rfl, rfl⟩; exact ⟨rfl, Ext.refl _⟩)
      simp only [Act.put, List.setIfInBounds_toArray, List.set_cons_zero, List.set_cons_succ]
      refine WE_q 2 rfl (by decide) (by kernel_rfl) rfl ?_; apply Exists.intro; refine ⟨fun w1 hx1 => ?_, ?_⟩
      · have hq1 := hx1.cells; go_simp; try go_bits
        first | with_reducible rfl | (refine (bit_any _ _ _ HN.out).mono ?_; rintro e w' ⟨rfl, rfl⟩; exact ⟨rfl, Ext.refl _⟩)
      simp only [Act.put, List.setIfInBounds_toArray, List.set_cons_zero, List.set_cons_succ]
      refine WE_q 3 rfl (by decide) (by kernel_rfl) rfl ?_; apply Exists.intro; refine ⟨fun w1 hx1 => ?_, ?_⟩
      · have hq1 := hx1.cells; go_simp; try go_bits
        first | with_reducible rfl | (refine (bit_any _ _ _ HN.out).mono ?_; rintro e w' ⟨rfl, rfl⟩; exact ⟨rfl, Ext.refl _⟩)
      simp only [Act.put, List.setIfInBounds_toArray, List.set_cons_zero, List.set_cons_succ]
      refine WE_q 4 rfl (by decide) (by kernel_rfl) rfl ?_; apply Exists.intro; refine ⟨fun w1 hx1 => ?_, ?_⟩
      · have hq1 := hx1.cells; go_simp; try go_bits
        first | with_reducible rfl | (refine (bit_any _ _ _ HN.out).mono ?_; rintro e w' ⟨rfl, rfl⟩; exact ⟨rfl, Ext.refl _⟩)
      simp only [Act.put, List.setIfInBounds_toArray, List.set_cons_zero, List.set_cons_succ]
      refine WE_q 5 rfl (by decide) (by kernel_rfl) rfl ?_; apply Exists.intro; refine ⟨fun w1 hx1 => ?_, ?_⟩
      · have hq1 := hx1.cells; go_simp; try go_bits
        first | with_reducible rfl | (refine (bit_any _ _ _ HN.out).mono ?_; rintro e w' ⟨rfl, rfl⟩; exact ⟨rfl, Ext.refl _⟩)
      simp only [Act.put, List.setIfInBounds_toArray, List.set_cons_zero, List.set_cons_succ]
      refine WE_q 6 rfl (by decide) (by kernel_rfl) rfl ?_; apply Exists.intro; refine ⟨fun w1 hx1 => ?_, ?_⟩
      · have hq1 := hx1.cells; go_simp; try go_bits
        first | with_reducible rfl | (refine (bit_any _ _ _ HN.out).mono ?_; rintro e w' ⟨rfl, rfl⟩; exact ⟨rfl, Ext.refl _⟩)
      simp only [Act.put, List.setIfInBounds_toArray, List.set_cons_zero, List.set_cons_succ]
      refine WE_q 7 rfl (by decide) (by kernel_rfl) rfl ?_; apply Exists.intro; refine ⟨fun w1 hx1 => ?_, ?_⟩
      · have hq1 := hx1.cells; go_simp; try go_bits
        first | with_reducible rfl | (refine (bit_any _ _ _ HN.out).mono ?_; rintro e w' ⟨rfl, rfl⟩; exact ⟨rfl, Ext.refl _⟩)
      simp only [Act.put, List.setIfInBounds_toArray, List.set_cons_zero, List.set_cons_succ]
      refine WE_q 8 rfl (by decide) (by kernel_rfl) rfl ?_; apply Exists.intro; refine ⟨fun w1 hx1 => ?_, ?_⟩
      · have hq1 := hx1.cells; go_simp; try go_bits
        first | with_reducible rfl | (refine (bit_any _ _ _ HN.out).mono ?_; rintro e w' ⟨rfl, rfl⟩; exact ⟨rfl, Ext.refl _⟩)
      simp only [Act.put, List.setIfInBounds_toArray, List.set_cons_zero, List.set_cons_succ]
      refine WE_q 9 rfl (by decide) (by kernel_rfl) rfl ?_; apply Exists.intro; refine ⟨fun w1 hx1 => ?_, ?_⟩
      · have hq1 := hx1.cells; go_simp; try go_bits
        first | with_reducible rfl | (refine (bit_any _ _ _ HN.out).mono ?_; rintro e w' ⟨rfl, rfl⟩; exact ⟨rfl, Ext.refl _⟩)
      simp only [Act.put, List.setIfInBounds_toArray, List.set_cons_zero, List.set_cons_succ]
      refine WE_q 10 rfl (by decide) (by kernel_rfl) rfl ?_; apply Exists.intro; refine ⟨fun w1 hx1 => ?_, ?_⟩
      · have hq1 := hx1.cells; go_simp; try go_bits
        first | with_reducible rfl | (refine (bit_any _ _ _ HN.out).mono ?_; rintro e w' ⟨rfl, rfl⟩; exact ⟨rfl, Ext.refl _⟩)
      simp only [Act.put, List.setIfInBounds_toArray, List.set_cons_zero, List.set_cons_succ]
      refine WE_q 11 rfl (by decide) (by kernel_rfl) rfl ?_; apply Exists.intro; refine ⟨fun w1 hx1 => ?_, ?_⟩
      · have hq1 := hx1.cells; go_simp; try go_bits
        first | with_reducible rfl | (refine (bit_any _ _ _ HN.out).mono ?_; rintro e w' ⟨rfl, rfl⟩; exact ⟨rfl, Ext.refl _⟩)
      simp only [Act.put, List.setIfInBounds_toArray, List.set_cons_zero, List.set_cons_succ]
      refine WE_q 12 rfl (by decide) (by kernel_rfl) rfl ?_; apply Exists.intro; refine ⟨fun w1 hx1 => ?_, ?_⟩
      · have hq1 := hx1.cells; go_simp; try go_bits
        first | with_reducible rfl | (refine (bit_any _ _ _ HN.out).mono ?_; rintro e w' ⟨rfl, rfl⟩; exact ⟨rfl, Ext.refl _⟩)
      simp only [Act.put, List.setIfInBounds_toArray, List.set_cons_zero, List.set_cons_succ]
      refine WE_q 13 rfl (by decide) (by kernel_rfl) rfl ?_; apply Exists.intro; refine ⟨fun w1 hx1 => ?_, ?_⟩
      · have hq1 := hx1.cells; go_simp; try go_bits
        first | with_reducible rfl | (refine (bit_any _ _ _ HN.out).mono ?_; rintro e w' ⟨rfl, rfl⟩; exact ⟨rfl, Ext.refl _⟩)
      simp only [Act.put, List.setIfInBounds_toArray, List.set_cons_zero, List.set_cons_succ]
      refine WE_q 14 rfl (by decide) (by kernel_rfl) rfl ?_; apply Exists.intro; refine ⟨fun w1 hx1 => ?_, ?_⟩
      · have hq1 := hx1.cells; go_simp; try go_bits
        first | with_reducible rfl | (refine (bit_any _ _ _ HN.out).mono ?_; rintro e w' ⟨rfl, rfl⟩; exact ⟨rfl, Ext.refl _⟩)
      simp only [Act.put, List.setIfInBounds_toArray, List.set_cons_zero, List.set_cons_succ]
      refine WE_done (by kernel_rfl) (fun w6 hx6 => ?_)
      (try simp only [List.drop_succ_cons, List.drop_zero])
      have hx16 : Ext W1 w6 := hx4.trans (hx5.trans hx6)
      have cF6 := cF.later hx16
      have kF := cF6.cells
      have kFf := cF6.frozen
      clear g1 g2
      rcases bit01 qa (meetN pa n qa qn) with g | g
      · have HG := Lib.hid g
        go_wp2
        go_end0
        exact ⟨rfl, hang_doneA HP.out HMid.out hx16 HSP.out 7 (by rw [if_pos HG.out])⟩
      · have HG := Lib.hid g
        go_wp2
        go_end0
        exact ⟨rfl, hang_doneA HP.out HMid.out hx16 HSP.out 8 (by rw [if_neg (by rw [HG.out]; omega)])⟩
    · have hspd : decide (meetA pa n qa qn = pa ∧ meetN pa n qa qn = n) = false := decide_eq_false hsp
      refine wp_region_E 5 rfl (by kernel_rfl) (by kernel_rfl) ?_
      refine WE_q 0 rfl (by decide) (by kernel_rfl) rfl ?_; apply Exists.intro; refine ⟨fun w1 hx1 => ?_, ?_⟩
      · have hq1 := hx1.cells; go_simp; try go_bits
        first | with_reducible rfl
      simp only [Act.put, List.setIfInBounds_toArray, List.set_cons_zero, List.set_cons_succ]
      refine WE_q 1 rfl (by decide) (by kernel_rfl) rfl ?_; apply Exists.intro; refine ⟨fun w1 hx1 => ?_, ?_⟩
      · have hq1 := hx1.cells; go_simp; try go_bits
        first | with_reducible rfl
      simp only [Act.put, List.setIfInBounds_toArray, List.set_cons_zero, List.set_cons_succ]
      refine WE_q 2 rfl (by decide) (by kernel_rfl) rfl ?_; apply Exists.intro; refine ⟨fun w1 hx1 => ?_, ?_⟩
      · have hq1 := hx1.cells; go_simp; try go_bits
        first | with_reducible rfl
      simp only [Act.put, List.setIfInBounds_toArray, List.set_cons_zero, List.set_cons_succ]
      refine WE_q 3 rfl (by decide) (by kernel_rfl) rfl ?_; apply Exists.intro; refine ⟨fun w1 hx1 => ?_, ?_⟩
      · have hq1 := hx1.cells; go_simp; try go_bits
        first | with_reducible rfl
      simp only [Act.put, List.setIfInBounds_toArray, List.set_cons_zero, List.set_cons_succ]
      refine WE_q 4 rfl (by decide) (by kernel_rfl) rfl ?_; apply Exists.intro; refine ⟨fun w1 hx1 => ?_, ?_⟩
      · have hq1 := hx1.cells; go_simp; try go_bits
        first | with_reducible rfl
      simp only [Act.put, List.setIfInBounds_toArray, List.set_cons_zero, List.set_cons_succ]
      refine WE_done (by kernel_rfl) (fun w5 hx5 => ?_)
      (try simp only [List.drop_succ_cons, List.drop_zero])
      have HSP := Lib.hid hsp
      clear hsp
      go_wp2_with fail
      refine hideW (Φ := fun W => Code.wp _ _ _ _ W) (fun W => Ext w5 W ∧ Blk W w5.heap.size (forkC (meetA pa n qa qn) (meetN pa n qa qn) zeroR false (.pointer none) (.pointer none)) 104) ⟨(Ext.refl _).alloc _, Blk.newAt (forkC (meetA pa n qa qn) (meetN pa n qa qn) zeroR false (.pointer none) (.pointer none)) rfl⟩ (fun W6 hW6 => ?_)
      obtain ⟨hx56, cJ⟩ := hW6
      have hx16 : Ext W1 W6 := hx4.trans (hx5.trans hx56)
      have hjl : W1.heap.size ≤ w5.heap.size := (hx4.trans hx5).size
      have hsj : sb < w5.heap.size := (cS4.later hx5).lt
      have cS6 := cS4.later (hx5.trans hx56)
      generalize w5.heap.size = jb at *
      clear hx4 hx5 hx56 cS4
      have kS := cS6.keep
      have kF := (cF.later hx16).keep
      have kO := (cO.later hx16).keep
      refine wp_region_E 13 rfl (by kernel_rfl) (by kernel_rfl) ?_
      refine WE_q 0 rfl (by decide) (by kernel_rfl) rfl ?_; apply Exists.intro; refine ⟨fun w1 hx1 => ?_, ?_⟩
      · have hq1 := hx1.cells; go_simp; try go_bits
        first | with_reducible rfl | (refine (bit_any _ _ _ HN.out).mono ?_; rintro e w' ⟨rfl, rfl⟩; exact ⟨rfl, Ext.refl _⟩)
      simp only [Act.put, List.setIfInBounds_toArray, List.set_cons_zero, List.set_cons_succ]
      refine WE_q 1 rfl (by decide) (by kernel_rfl) rfl ?_; apply Exists.intro; refine ⟨fun w1 hx1 => ?_, ?_⟩
      · have hq1 := hx1.cells; go_simp; try go_bits
        first | with_reducible rfl | (refine (bit_any _ _ _ HN.out).mono ?_; rintro e w' ⟨rfl, rfl⟩; exact ⟨rfl, Ext.refl _⟩)
      simp only [Act.put, List.setIfInBounds_toArray, List.set_cons_zero, List.set_cons_succ]
      refine WE_q 2 rfl (by decide) (by kernel_rfl) rfl ?_; apply Exists.intro; refine ⟨fun w1 hx1 => ?_, ?_⟩
      · have hq1 := hx1.cells; go_simp; try go_bits
        first | with_reducible rfl | (refine (bit_any _ _ _ HN.out).mono ?_; rintro e w' ⟨rfl, rfl⟩; exact ⟨rfl, Ext.refl _⟩)
      simp only [Act.put, List.setIfInBounds_toArray, List.set_cons_zero, List.set_cons_succ]
      refine WE_q 3 rfl (by decide) (by kernel_rfl) rfl ?_; apply Exists.intro; refine ⟨fun w1 hx1 => ?_, ?_⟩
      · have hq1 := hx1.cells; go_simp; try go_bits
        first | with_reducible rfl | (refine (bit_any _ _ _ HN.out).mono ?_; rintro e w' ⟨rfl, rfl⟩; exact ⟨rfl, Ext.refl _⟩)
      simp only [Act.put, List.setIfInBounds_toArray, List.set_cons_zero, List.set_cons_succ]
      refine WE_q 4 rfl (by decide) (by kernel_rfl) rfl ?_; apply Exists.intro; refine ⟨fun w1 hx1 => ?_, ?_⟩
      · have hq1 := hx1.cells; go_simp; try go_bits
        first | with_reducible rfl | (refine (bit_any _ _ _ HN.out).mono ?_; rintro e w' ⟨rfl, rfl⟩; exact ⟨rfl, Ext.refl _⟩)
      simp only [Act.put, List.setIfInBounds_toArray, List.set_cons_zero, List.set_cons_succ]
      refine WE_q 5 rfl (by decide) (by kernel_rfl) rfl ?_; apply Exists.intro; refine ⟨fun w1 hx1 => ?_, ?_⟩
      · have hq1 := hx1.cells; go_simp; try go_bits
        first | with_reducible rfl | (refine (bit_any _ _ _ HN.out).mono ?_; rintro e w' ⟨rfl, rfl⟩; exact ⟨rfl, Ext.refl _⟩)
      simp only [Act.put, List.setIfInBounds_toArray, List.set_cons_zero, List.set_cons_succ]
      refine WE_q 6 rfl (by decide) (by kernel_rfl) rfl ?_; apply Exists.intro; refine ⟨fun w1 hx1 => ?_, ?_⟩
      · have hq1 := hx1.cells; go_simp; try go_bits
        first | with_reducible rfl | (refine (bit_any _ _ _ HN.out).mono ?_; rintro e w' ⟨rfl, rfl⟩; exact ⟨rfl, Ext.refl _⟩)
      simp only [Act.put, List.setIfInBounds_toArray, List.set_cons_zero, List.set_cons_succ]
      refine WE_q 7 rfl (by decide) (by kernel_rfl) rfl ?_; apply Exists.intro; refine ⟨fun w1 hx1 => ?_, ?_⟩
      · have hq1 := hx1.cells; go_simp; try go_bits
        first | with_reducible rfl | (refine (bit_any _ _ _ HN.out).mono ?_; rintro e w' ⟨rfl, rfl⟩; exact ⟨rfl, Ext.refl _⟩)
      simp only [Act.put, List.setIfInBounds_toArray, List.set_cons_zero, List.set_cons_succ]
      refine WE_q 8 rfl (by decide) (by kernel_rfl) rfl ?_; apply Exists.intro; refine ⟨fun w1 hx1 => ?_, ?_⟩
      · have hq1 := hx1.cells; go_simp; try go_bits
        first | with_reducible rfl | (refine (bit_any _ _ _ HN.out).mono ?_; rintro e w' ⟨rfl, rfl⟩; exact ⟨rfl, Ext.refl _⟩)
      simp only [Act.put, List.setIfInBounds_toArray, List.set_cons_zero, List.set_cons_succ]
      refine WE_q 9 rfl (by decide) (by kernel_rfl) rfl ?_; apply Exists.intro; refine ⟨fun w1 hx1 => ?_, ?_⟩
      · have hq1 := hx1.cells; go_simp; try go_bits
        first | with_reducible rfl | (refine (bit_any _ _ _ HN.out).mono ?_; rintro e w' ⟨rfl, rfl⟩; exact ⟨rfl, Ext.refl _⟩)
      simp only [Act.put, List.setIfInBounds_toArray, List.set_cons_zero, List.set_cons_succ]
      refine WE_q 10 rfl (by decide) (by kernel_rfl) rfl ?_; apply Exists.intro; refine ⟨fun w1 hx1 => ?_, ?_⟩
      · have hq1 := hx1.cells; go_simp; try go_bits
        first | with_reducible rfl | (refine (bit_any _ _ _ HN.out).mono ?_; rintro e w' ⟨rfl, rfl⟩; exact ⟨rfl, Ext.refl _⟩)
      simp only [Act.put, List.setIfInBounds_toArray, List.set_cons_zero, List.set_cons_succ]
      refine WE_q 11 rfl (by decide) (by kernel_rfl) rfl ?_; apply Exists.intro; refine ⟨fun w1 hx1 => ?_, ?_⟩
      · have hq1 := hx1.cells; go_simp; try go_bits
        first | with_reducible rfl | (refine (bit_any _ _ _ HN.out).mono ?_; rintro e w' ⟨rfl, rfl⟩; exact ⟨rfl, Ext.refl _⟩)
      simp only [Act.put, List.setIfInBounds_toArray, List.set_cons_zero, List.set_cons_succ]
      refine WE_q 12 rfl (by decide) (by kernel_rfl) rfl ?_; apply Exists.intro; refine ⟨fun w1 hx1 => ?_, ?_⟩
      · have hq1 := hx1.cells; go_simp; try go_bits
        first | with_reducible rfl | (refine (bit_any _ _ _ HN.out).mono ?_; rintro e w' ⟨rfl, rfl⟩; exact ⟨rfl, Ext.refl _⟩)
      simp only [Act.put, List.setIfInBounds_toArray, List.set_cons_zero, List.set_cons_succ]
      refine WE_done (by kernel_rfl) (fun w7 hx7 => ?_)
      (try simp only [List.drop_succ_cons, List.drop_zero])
      have hx17 := hx16.trans hx7
      have cJ7 := cJ.later hx7
      have cS7 := cS6.later hx7
      have kJ := cJ7.cells
      have kJf := cJ7.frozen
      have cP7 := cP.later hx17
      have kPf' := cP7.frozen
      have cT7 := cT.later hx17
      have kTf' := cT7.frozen
      have hz1 := HZ.out
      have hp2 : pb < jb := by omega
      have ht2 := Nat.lt_of_lt_of_le ltb (show w.heap.size ≤ jb by omega)
      have kcg : w7.cell? ⟨pb, _, none⟩ = some (.pointer (some ⟨fb, 0, none⟩)) := (cP7.cells _).trans cg
      have kt1 := cT7.cells 1
      have HO := Lib.hid (show ob < W1.heap.size by omega)
      simp only [List.getElem?_cons_succ, List.getElem?_cons_zero] at kt1
      have hwj := Lib.hid (show w.heap.size ≤ jb by omega)
      clear cg hz1 kF kO kS kTf kPf
      have hgg : bitV pa (meetN pa n qa qn) = 0 ∧ bitV qa (meetN pa n qa qn) = 1 ∨ bitV pa (meetN pa n qa qn) = 1 ∧ bitV qa (meetN pa n qa qn) = 0 := by
        have := HBIT.out HSP.out
        rcases bit01 pa (meetN pa n qa qn) with e1 | e1 <;> rcases bit01 qa (meetN pa n qa qn) with e2 | e2 <;> omega
      clear g1 g2
      rcases hgg with ⟨ga, gb⟩ | ⟨ga, gb⟩
      · have GB := Lib.hid gb
        clear gb
        go_wp2_with fail
        refine hideW (Φ := fun W => Code.wp _ _ _ _ W) (fun W => HangJ w W B _ _ _ fb ob sb jb 7 sz pa n r qa qn qr qi vl vk) (hang_join HP.out HMid.out hx17 cJ7 hjl cS7 (by have := HZ.out; have := cS7.lt; omega) hsj HO.out ap2 ap3 ?_) (fun W8 hW8 => ?_)
        · rw [show sz + 2 = sz + 1 + 1 by omega]
        have HJ := Lib.hid hW8
        have kF := hW8.cF.keep
        have kO := hW8.cO.keep
        have kS := hW8.cS.keep
        have kP8 := Ext.keep hW8.cP
        clear hW8
        refine wp_region_E 15 rfl (by kernel_rfl) (by kernel_rfl) ?_
        refine WE_q 0 rfl (by decide) (by kernel_rfl) rfl ?_; apply Exists.intro; refine ⟨fun w1 hx1 => ?_, ?_⟩
        · have hq1 := hx1.cells; go_simp; try go_bits
          first | with_reducible rfl | (refine (bit_any _ _ _ HN.out).mono ?_; rintro e w' ⟨rfl, rfl⟩; exact ⟨by rw [GB.out], Ext.refl _⟩)
        simp only [Act.put, List.setIfInBounds_toArray, List.set_cons_zero, List.set_cons_succ]
        refine WE_q 1 rfl (by decide) (by kernel_rfl) rfl ?_; apply Exists.intro; refine ⟨fun w1 hx1 => ?_, ?_⟩
        · have hq1 := hx1.cells; go_simp; try go_bits
          first | with_reducible rfl | (refine (bit_any _ _ _ HN.out).mono ?_; rintro e w' ⟨rfl, rfl⟩; exact ⟨by rw [GB.out], Ext.refl _⟩)
        simp only [Act.put, List.setIfInBounds_toArray, List.set_cons_zero, List.set_cons_succ]
        refine WE_q 2 rfl (by decide) (by kernel_rfl) rfl ?_; apply Exists.intro; refine ⟨fun w1 hx1 => ?_, ?_⟩
        · have hq1 := hx1.cells; go_simp; try go_bits
          first | with_reducible rfl | (refine (bit_any _ _ _ HN.out).mono ?_; rintro e w' ⟨rfl, rfl⟩; exact ⟨by rw [GB.out], Ext.refl _⟩)
        simp only [Act.put, List.setIfInBounds_toArray, List.set_cons_zero, List.set_cons_succ]
        refine WE_q 3 rfl (by decide) (by kernel_rfl) rfl ?_; apply Exists.intro; refine ⟨fun w1 hx1 => ?_, ?_⟩
        · have hq1 := hx1.cells; go_simp; try go_bits
          first | with_reducible rfl | (refine (bit_any _ _ _ HN.out).mono ?_; rintro e w' ⟨rfl, rfl⟩; exact ⟨by rw [GB.out], Ext.refl _⟩)
        simp only [Act.put, List.setIfInBounds_toArray, List.set_cons_zero, List.set_cons_succ]
        refine WE_q 4 rfl (by decide) (by kernel_rfl) rfl ?_; apply Exists.intro; refine ⟨fun w1 hx1 => ?_, ?_⟩
        · have hq1 := hx1.cells; go_simp; try go_bits
          first | with_reducible rfl | (refine (bit_any _ _ _ HN.out).mono ?_; rintro e w' ⟨rfl, rfl⟩; exact ⟨by rw [GB.out], Ext.refl _⟩)
        simp only [Act.put, List.setIfInBounds_toArray, List.set_cons_zero, List.set_cons_succ]
        refine WE_q 5 rfl (by decide) (by kernel_rfl) rfl ?_; apply Exists.intro; refine ⟨fun w1 hx1 => ?_, ?_⟩
        · have hq1 := hx1.cells; go_simp; try go_bits
          first | with_reducible rfl | (refine (bit_any _ _ _ HN.out).mono ?_; rintro e w' ⟨rfl, rfl⟩; exact ⟨by rw [GB.out], Ext.refl _⟩)
        simp only [Act.put, List.setIfInBounds_toArray, List.set_cons_zero, List.set_cons_succ]
        refine WE_q 6 rfl (by decide) (by kernel_rfl) rfl ?_; apply Exists.intro; refine ⟨fun w1 hx1 => ?_, ?_⟩
        · have hq1 := hx1.cells; go_simp; try go_bits
          first | with_reducible rfl | (refine (bit_any _ _ _ HN.out).mono ?_; rintro e w' ⟨rfl, rfl⟩; exact ⟨by rw [GB.out], Ext.refl _⟩)
        simp only [Act.put, List.setIfInBounds_toArray, List.set_cons_zero, List.set_cons_succ]
        refine WE_q 7 rfl (by decide) (by kernel_rfl) rfl ?_; apply Exists.intro; refine ⟨fun w1 hx1 => ?_, ?_⟩
        · have hq1 := hx1.cells; go_simp; try go_bits
          first | with_reducible rfl | (refine (bit_any _ _ _ HN.out).mono ?_; rintro e w' ⟨rfl, rfl⟩; exact ⟨by rw [GB.out], Ext.refl _⟩)
        simp only [Act.put, List.setIfInBounds_toArray, List.set_cons_zero, List.set_cons_succ]
        refine WE_q 8 rfl (by decide) (by kernel_rfl) rfl ?_; apply Exists.intro; refine ⟨fun w1 hx1 => ?_, ?_⟩
        · have hq1 := hx1.cells; go_simp; try go_bits
          first | with_reducible rfl | (refine (bit_any _ _ _ HN.out).mono ?_; rintro e w' ⟨rfl, rfl⟩; exact ⟨by rw [GB.out], Ext.refl _⟩)
        simp only [Act.put, List.setIfInBounds_toArray, List.set_cons_zero, List.set_cons_succ]
        refine WE_q 9 rfl (by decide) (by kernel_rfl) rfl ?_; apply Exists.intro; refine ⟨fun w1 hx1 => ?_, ?_⟩
        · have hq1 := hx1.cells; go_simp; try go_bits
          first | with_reducible rfl | (refine (bit_any _ _ _ HN.out).mono ?_; rintro e w' ⟨rfl, rfl⟩; exact ⟨by rw [GB.out], Ext.refl _⟩)
        simp only [Act.put, List.setIfInBounds_toArray, List.set_cons_zero, List.set_cons_succ]
        refine WE_q 10 rfl (by decide) (by kernel_rfl) rfl ?_; apply Exists.intro; refine ⟨fun w1 hx1 => ?_, ?_⟩
        · have hq1 := hx1.cells; go_simp; try go_bits
          first | with_reducible rfl | (refine (bit_any _ _ _ HN.out).mono ?_; rintro e w' ⟨rfl, rfl⟩; exact ⟨by rw [GB.out], Ext.refl _⟩)
        simp only [Act.put, List.setIfInBounds_toArray, List.set_cons_zero, List.set_cons_succ]
        refine WE_q 11 rfl (by decide) (by kernel_rfl) rfl ?_; apply Exists.intro; refine ⟨fun w1 hx1 => ?_, ?_⟩
        · have hq1 := hx1.cells; go_simp; try go_bits
          first | with_reducible rfl | (refine (bit_any _ _ _ HN.out).mono ?_; rintro e w' ⟨rfl, rfl⟩; exact ⟨by rw [GB.out], Ext.refl _⟩)
        simp only [Act.put, List.setIfInBounds_toArray, List.set_cons_zero, List.set_cons_succ]
        refine WE_q 12 rfl (by decide) (by kernel_rfl) rfl ?_; apply Exists.intro; refine ⟨fun w1 hx1 => ?_, ?_⟩
        · have hq1 := hx1.cells; go_simp; try go_bits
          first | with_reducible rfl | (refine (bit_any _ _ _ HN.out).mono ?_; rintro e w' ⟨rfl, rfl⟩; exact ⟨by rw [GB.out], Ext.refl _⟩)
        simp only [Act.put, List.setIfInBounds_toArray, List.set_cons_zero, List.set_cons_succ]
        refine WE_q 13 rfl (by decide) (by kernel_rfl) rfl ?_; apply Exists.intro; refine ⟨fun w1 hx1 => ?_, ?_⟩
        · have hq1 := hx1.cells; go_simp; try go_bits
          first | with_reducible rfl | (refine (bit_any _ _ _ HN.out).mono ?_; rintro e w' ⟨rfl, rfl⟩; exact ⟨by rw [GB.out], Ext.refl _⟩)
        simp only [Act.put, List.setIfInBounds_toArray, List.set_cons_zero, List.set_cons_succ]
        refine WE_q 14 rfl (by decide) (by kernel_rfl) rfl ?_; apply Exists.intro; refine ⟨fun w1 hx1 => ?_, ?_⟩
        · have hq1 := hx1.cells; go_simp; try go_bits
          first | with_reducible rfl | (refine (bit_any _ _ _ HN.out).mono ?_; rintro e w' ⟨rfl, rfl⟩; exact ⟨by rw [GB.out], Ext.refl _⟩)
        simp only [Act.put, List.setIfInBounds_toArray, List.set_cons_zero, List.set_cons_succ]
        refine WE_done (by kernel_rfl) (fun w9 hx9 => ?_)
        (try simp only [List.drop_succ_cons, List.drop_zero])
        have cJ9 := HJ.out.cJ.later hx9
        have kJ9 := cJ9.cells
        have kJ9f := cJ9.frozen
        go_wp2
        go_end0
        exact ⟨rfl, hang_doneB HP.out HJ.out hx9 hwj.out HSP.out (.inl ⟨rfl, rfl, GB.out⟩)⟩
      · have GB := Lib.hid gb
        clear gb
        go_wp2_with fail
        refine hideW (Φ := fun W => Code.wp _ _ _ _ W) (fun W => HangJ w W B _ _ _ fb ob sb jb 8 sz pa n r qa qn qr qi vl vk) (hang_join HP.out HMid.out hx17 cJ7 hjl cS7 (by have := HZ.out; have := cS7.lt; omega) hsj HO.out ap2 ap3 ?_) (fun W8 hW8 => ?_)
        · rw [show sz + 2 = sz + 1 + 1 by omega]
        have HJ := Lib.hid hW8
        have kF := hW8.cF.keep
        have kO := hW8.cO.keep
        have kS := hW8.cS.keep
        have kP8 := Ext.keep hW8.cP
        clear hW8
        refine wp_region_E 15 rfl (by kernel_rfl) (by kernel_rfl) ?_
        refine WE_q 0 rfl (by decide) (by kernel_rfl) rfl ?_; apply Exists.intro; refine ⟨fun w1 hx1 => ?_, ?_⟩
        · have hq1 := hx1.cells; go_simp; try go_bits
          first | with_reducible rfl | (refine (bit_any _ _ _ HN.out).mono ?_; rintro e w' ⟨rfl, rfl⟩; exact ⟨by rw [GB.out], Ext.refl _⟩)
        simp only [Act.put, List.setIfInBounds_toArray, List.set_cons_zero, List.set_cons_succ]
        refine WE_q 1 rfl (by decide) (by kernel_rfl) rfl ?_; apply Exists.intro; refine ⟨fun w1 hx1 => ?_, ?_⟩
        · have hq1 := hx1.cells; go_simp; try go_bits
          first | with_reducible rfl | (refine (bit_any _ _ _ HN.out).mono ?_; rintro e w' ⟨rfl, rfl⟩; exact ⟨by rw [GB.out], Ext.refl _⟩)
        simp only [Act.put, List.setIfInBounds_toArray, List.set_cons_zero, List.set_cons_succ]
        refine WE_q 2 rfl (by decide) (by kernel_rfl) rfl ?_; apply Exists.intro; refine ⟨fun w1 hx1 => ?_, ?_⟩
        · have hq1 := hx1.cells; go_simp; try go_bits
          first | with_reducible rfl | (refine (bit_any _ _ _ HN.out).mono ?_; rintro e w' ⟨rfl, rfl⟩; exact ⟨by rw [GB.out], Ext.refl _⟩)
        simp only [Act.put, List.setIfInBounds_toArray, List.set_cons_zero, List.set_cons_succ]
        refine WE_q 3 rfl (by decide) (by kernel_rfl) rfl ?_; apply Exists.intro; refine ⟨fun w1 hx1 => ?_, ?_⟩
        · have hq1 := hx1.cells; go_simp; try go_bits
          first | with_reducible rfl | (refine (bit_any _ _ _ HN.out).mono ?_; rintro e w' ⟨rfl, rfl⟩; exact ⟨by rw [GB.out], Ext.refl _⟩)
        simp only [Act.put, List.setIfInBounds_toArray, List.set_cons_zero, List.set_cons_succ]
        refine WE_q 4 rfl (by decide) (by kernel_rfl) rfl ?_; apply Exists.intro; refine ⟨fun w1 hx1 => ?_, ?_⟩
        · have hq1 := hx1.cells; go_simp; try go_bits
          first | with_reducible rfl | (refine (bit_any _ _ _ HN.out).mono ?_; rintro e w' ⟨rfl, rfl⟩; exact ⟨by rw [GB.out], Ext.refl _⟩)
        simp only [Act.put, List.setIfInBounds_toArray, List.set_cons_zero, List.set_cons_succ]
        refine WE_q 5 rfl (by decide) (by kernel_rfl) rfl ?_; apply Exists.intro; refine ⟨fun w1 hx1 => ?_, ?_⟩
        · have hq1 := hx1.cells; go_simp; try go_bits
          first | with_reducible rfl | (refine (bit_any _ _ _ HN.out).mono ?_; rintro e w' ⟨rfl, rfl⟩; exact ⟨by rw [GB.out], Ext.refl _⟩)
        simp only [Act.put, List.setIfInBounds_toArray, List.set_cons_zero, List.set_cons_succ]
        refine WE_q 6 rfl (by decide) (by kernel_rfl) rfl ?_; apply Exists.intro; refine ⟨fun w1 hx1 => ?_, ?_⟩
        · have hq1 := hx1.cells; go_simp; try go_bits
          first | with_reducible rfl | (refine (bit_any _ _ _ HN.out).mono ?_; rintro e w' ⟨rfl, rfl⟩; exact ⟨by rw [GB.out], Ext.refl _⟩)
        simp only [Act.put, List.setIfInBounds_toArray, List.set_cons_zero, List.set_cons_succ]
        refine WE_q 7 rfl (by decide) (by kernel_rfl) rfl ?_; apply Exists.intro; refine ⟨fun w1 hx1 => ?_, ?_⟩
        · have hq1 := hx1.cells; go_simp; try go_bits
          first | with_reducible rfl | (refine (bit_any _ _ _ HN.out).mono ?_; rintro e w' ⟨rfl, rfl⟩; exact ⟨by rw [GB.out], Ext.refl _⟩)
        simp only [Act.put, List.setIfInBounds_toArray, List.set_cons_zero, List.set_cons_succ]
        refine WE_q 8 rfl (by decide) (by kernel_rfl) rfl ?_; apply Exists.intro; refine ⟨fun w1 hx1 => ?_, ?_⟩
        · have hq1 := hx1.cells; go_simp; try go_bits
          first | with_reducible rfl | (refine (bit_any _ _ _ HN.out).mono ?_; rintro e w' ⟨rfl, rfl⟩; exact ⟨by rw [GB.out], Ext.refl _⟩)
        simp only [Act.put, List.setIfInBounds_toArray, List.set_cons_zero, List.set_cons_succ]
        refine WE_q 9 rfl (by decide) (by kernel_rfl) rfl ?_; apply Exists.intro; refine ⟨fun w1 hx1 => ?_, ?_⟩
        · have hq1 := hx1.cells; go_simp; try go_bits
          first | with_reducible rfl | (refine (bit_any _ _ _ HN.out).mono ?_; rintro e w' ⟨rfl, rfl⟩; exact ⟨by rw [GB.out], Ext.refl _⟩)
        simp only [Act.put, List.setIfInBounds_toArray, List.set_cons_zero, List.set_cons_succ]
        refine WE_q 10 rfl (by decide) (by kernel_rfl) rfl ?_; apply Exists.intro; refine ⟨fun w1 hx1 => ?_, ?_⟩
        · have hq1 := hx1.cells; go_simp; try go_bits
          first | with_reducible rfl | (refine (bit_any _ _ _ HN.out).mono ?_; rintro e w' ⟨rfl, rfl⟩; exact ⟨by rw [GB.out], Ext.refl _⟩)
        simp only [Act.put, List.setIfInBounds_toArray, List.set_cons_zero, List.set_cons_succ]
        refine WE_q 11 rfl (by decide) (by kernel_rfl) rfl ?_; apply Exists.intro; refine ⟨fun w1 hx1 => ?_, ?_⟩
        · have hq1 := hx1.cells; go_simp; try go_bits
          first | with_reducible rfl | (refine (bit_any _ _ _ HN.out).mono ?_; rintro e w' ⟨rfl, rfl⟩; exact ⟨by rw [GB.out], Ext.refl _⟩)
        simp only [Act.put, List.setIfInBounds_toArray, List.set_cons_zero, List.set_cons_succ]
        refine WE_q 12 rfl (by decide) (by kernel_rfl) rfl ?_; apply Exists.intro; refine ⟨fun w1 hx1 => ?_, ?_⟩
        · have hq1 := hx1.cells; go_simp; try go_bits
          first | with_reducible rfl | (refine (bit_any _ _ _ HN.out).mono ?_; rintro e w' ⟨rfl, rfl⟩; exact ⟨by rw [GB.out], Ext.refl _⟩)
        simp only [Act.put, List.setIfInBounds_toArray, List.set_cons_zero, List.set_cons_succ]
        refine WE_q 13 rfl (by decide) (by kernel_rfl) rfl ?_; apply Exists.intro; refine ⟨fun w1 hx1 => ?_, ?_⟩
        · have hq1 := hx1.cells; go_simp; try go_bits
          first | with_reducible rfl | (refine (bit_any _ _ _ HN.out).mono ?_; rintro e w' ⟨rfl, rfl⟩; exact ⟨by rw [GB.out], Ext.refl _⟩)
        simp only [Act.put, List.setIfInBounds_toArray, List.set_cons_zero, List.set_cons_succ]
        refine WE_q 14 rfl (by decide) (by kernel_rfl) rfl ?_; apply Exists.intro; refine ⟨fun w1 hx1 => ?_, ?_⟩
        · have hq1 := hx1.cells; go_simp; try go_bits
          first | with_reducible rfl | (refine (bit_any _ _ _ HN.out).mono ?_; rintro e w' ⟨rfl, rfl⟩; exact ⟨by rw [GB.out], Ext.refl _⟩)
        simp only [Act.put, List.setIfInBounds_toArray, List.set_cons_zero, List.set_cons_succ]
        refine WE_done (by kernel_rfl) (fun w9 hx9 => ?_)
        (try simp only [List.drop_succ_cons, List.drop_zero])
        have cJ9 := HJ.out.cJ.later hx9
        have kJ9 := cJ9.cells
        have kJ9f := cJ9.frozen
        go_wp2
        go_end0
        exact ⟨rfl, hang_doneB HP.out HJ.out hx9 hwj.out HSP.out (.inr ⟨rfl, rfl, GB.out⟩)⟩
end Go.Proofs.Ytilaljdokpdcoaa
