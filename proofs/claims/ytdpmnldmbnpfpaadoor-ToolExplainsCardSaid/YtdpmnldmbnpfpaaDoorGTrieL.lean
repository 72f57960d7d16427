/- TrieF, TrieG, TrieL, TrieM, FitLaw, TrieN, TrieO: these texts in one. Conditions: each part names its own. -/
import Derived.Test.YtdpmnldmbnpfpaaDoorGTrie
import Derived.Test.YtdpmnldmbnpfpaaDoorGRule
/- A rule is put into the trie: the walk. Conditions: its prefix may be; the trie is not greater than 10^15 forks. -/
namespace Go.Proofs.YtdpmnldmbnpfpaaDoor
open Go.RowKit

theorem and_out {α β : Type} {P : α → β → Prop} {Q : Prop} (hq : Q) (h : ∃ a b, P a b) : ∃ a b, P a b ∧ Q := let ⟨a, b, h⟩ := h; ⟨a, b, h, hq⟩
end Go.Proofs.YtdpmnldmbnpfpaaDoor

/- A trie is built of rules. Conditions: whole numbers are within 64 bits; a million rules at most. -/
namespace Go.Proofs.YtdpmnldmbnpfpaaDoor
open Go.RowKit

def putOk (t : T) (r : Rul) : T := if mayV r.pa r.pl = 0 then putT r.pa r.pl r t else t
def buildT (l : List Rul) : T := l.foldl putOk .nil
theorem buildT_step (l : List Rul) (k : Nat) (h : k < l.length) : buildT (l.take (k + 1)) = putOk (buildT (l.take k)) l[k] := by
  unfold buildT
  rw [List.take_succ_eq_append_getElem h, List.foldl_append]; rfl
theorem put_size (pa : BitVec 32) (n : Int) (r : Rul) : ∀ t : T, (putT pa n r t).size ≤ t.size + 2
  | .nil => by unfold putT; simp [hangT, T.size]
  | .node qa qn qr qi l k => by
    have h1 := put_size pa n r l
    have h2 := put_size pa n r k
    have h3 := hang_size pa n r (.node qa qn qr qi l k)
    have h4 : hangK pa n (.node qa qn qr qi l k) ≤ 2 := by unfold hangK; split <;> omega
    unfold putT
    split
    · split
      · split <;> simp only [T.size] <;> omega
      · split <;> simp only [T.size] <;> omega
    · omega
theorem build_size (l : List Rul) (t : T) : (l.foldl putOk t).size ≤ t.size + 2 * l.length := by
  induction l generalizing t with
  | nil => simp
  | cons r l ih =>
    have h1 := ih (putOk t r)
    have h2 : (putOk t r).size ≤ t.size + 2 := by unfold putOk; split; exact put_size _ _ _ _; omega
    simp only [List.foldl_cons, List.length_cons]
    omega
theorem mayV_valid {a : BitVec 32} {n : Int} (h : mayV a n = 0) : Valid a n := by
  unfold mayV at h
  split at h
  · cases h
  · split at h
    · rename_i h1 h2
      refine ⟨by omega, by omega, ?_⟩
      apply BitVec.eq_of_getLsbD_eq
      intro i hi
      have := congrArg (fun x : BitVec 32 => x.getLsbD i) h2
      simp only [BitVec.getLsbD_and, BitVec.getLsbD_not, BitVec.getLsbD_zero] at this ⊢
      cases e : a.getLsbD i <;> cases e2 : (maskV n).getLsbD i <;> simp_all
    · cases h

end Go.Proofs.YtdpmnldmbnpfpaaDoor

/- Plain facts on tries: each fork holds all below it; which forks and rules there are. Conditions: prefixes may be. -/
namespace Go.Proofs.YtdpmnldmbnpfpaaDoor
open Go.RowKit

/-- qa/qn is longer than pa/n, which holds it, and its next bit is b. -/
structure Kid (pa : BitVec 32) (n : Int) (b : Int) (qa : BitVec 32) (qn : Int) : Prop where
  lt : n < qn
  bits : ∀ i : Nat, (i : Int) < n → qa.getMsbD i = pa.getMsbD i
  bit : bitV qa n = b
def T.All (P : BitVec 32 → Int → Prop) : T → Prop
  | .nil => True
  | .node pa n _ _ l k => P pa n ∧ l.All P ∧ k.All P
theorem T.All.mono {P Q : BitVec 32 → Int → Prop} (hpq : ∀ x n, P x n → Q x n) : ∀ {t : T}, t.All P → t.All Q
  | .nil, _ => trivial
  | .node .., h => ⟨hpq _ _ h.1, h.2.1.mono hpq, h.2.2.mono hpq⟩
theorem T.All.and {P Q : BitVec 32 → Int → Prop} : ∀ {t : T}, t.All P → t.All Q → t.All (fun x n => P x n ∧ Q x n)
  | .nil, _, _ => trivial
  | .node .., h, g => ⟨⟨h.1, g.1⟩, h.2.1.and g.2.1, h.2.2.and g.2.2⟩
def T.Wf : T → Prop
  | .nil => True
  | .node pa n r is l k => Valid pa n ∧ (is = true → r.pa = pa ∧ r.pl = n) ∧ (is = false → l ≠ .nil ∧ k ≠ .nil ∧ r = zeroR) ∧ l.All (Kid pa n 0) ∧ k.All (Kid pa n 1) ∧ l.Wf ∧ k.Wf
theorem T.Wf.ok : ∀ {t : T}, t.Wf → t.Ok
  | .nil, _ => trivial
  | .node .., h => ⟨h.1, h.2.2.2.2.2.1.ok, h.2.2.2.2.2.2.ok⟩
theorem ok_all : ∀ {t : T}, t.Ok → t.All Valid
  | .nil, _ => trivial
  | .node .., h => ⟨h.1, ok_all h.2.1, ok_all h.2.2⟩
theorem bit_eq {a b : BitVec 32} {i : Int} (h0 : 0 ≤ i) (h1 : i ≤ 31) : bitV a i = bitV b i ↔ a.getMsbD i.toNat = b.getMsbD i.toNat := by
  rw [bit_msb _ _ h0 h1, bit_msb _ _ h0 h1]
  cases a.getMsbD i.toNat <;> cases b.getMsbD i.toNat <;> simp
theorem meet_msb {x : BitVec 32} {xn : Int} {y : BitVec 32} {yn : Int} {i : Nat} (h : (i : Int) < meetN x xn y yn) (h1 : meetN x xn y yn ≤ 32) : (meetA x xn y yn).getMsbD i = x.getMsbD i := by
  unfold meetA
  rw [BitVec.getMsbD_and, mask_msb]
  have := clamp_id (n := meetN x xn y yn) (by omega) h1
  rw [decide_eq_true (by omega), Bool.and_true]
theorem kid_meet {pa : BitVec 32} {n b : Int} {x y : BitVec 32} {xn yn : Int} (h0 : 0 ≤ n) (hx : Kid pa n b x xn) (hy : Kid pa n b y yn) (vx : xn ≤ 32) : Kid pa n b (meetA x xn y yn) (meetN x xn y yn) := by
  have hc := common_bd x y
  have hm := common_msb x y
  have h1 : n < commonV x y := by
    rcases Int.lt_or_le n (commonV x y) with h | h
    · exact h
    · exfalso
      have hl := hx.lt
      refine hm.2 (by omega) ?_
      rcases Int.lt_or_eq_of_le h with h2 | h2
      · rw [hx.bits _ (by omega), hy.bits _ (by omega)]
      · rw [h2]; exact (bit_eq h0 (by omega)).1 (hx.bit.trans hy.bit.symm)
  have hl := hx.lt
  have hl2 := hy.lt
  have e := meetN_min x xn y yn
  refine ⟨by omega, fun i hi => ?_, ?_⟩
  · rw [meet_msb (by omega) (by omega)]; exact hx.bits i hi
  · rw [← hx.bit, bit_eq h0 (by omega), meet_msb (by omega) (by omega)]
theorem kid_trans {pa : BitVec 32} {n b : Int} {qa : BitVec 32} {qn c : Int} {x : BitVec 32} {xn : Int} (h0 : 0 ≤ n) (hq : qn ≤ 32) (h : Kid pa n b qa qn) (g : Kid qa qn c x xn) : Kid pa n b x xn := by
  have hl := h.lt
  have gl := g.lt
  refine ⟨by omega, fun i hi => ?_, ?_⟩
  · rw [g.bits i (by omega), h.bits i hi]
  · rw [← h.bit, bit_eq h0 (by omega), g.bits _ (by omega)]
/-- A prefix is held by another one, or what both have is shorter. -/
theorem kid_of {qa : BitVec 32} {qn : Int} {pa : BitVec 32} {n : Int} (hq : Valid qa qn) (hp : Valid pa n) (hm : meetN qa qn pa n = qn) (hne : ¬ (pa = qa ∧ n = qn)) : Kid qa qn (bitV pa qn) pa n := by
  have hc := common_bd qa pa
  have hb := common_msb qa pa
  obtain ⟨q0, q1, q2⟩ := hq
  obtain ⟨p0, p1, p2⟩ := hp
  have e := meetN_min qa qn pa n
  have hbits : ∀ i : Nat, (i : Int) < qn → pa.getMsbD i = qa.getMsbD i := fun i hi => (hb.1 i (by omega)).symm
  refine ⟨?_, hbits, rfl⟩
  rcases Int.lt_or_eq_of_le (show qn ≤ n by omega) with h | h
  · exact h
  · exfalso
    refine hne ⟨?_, h.symm⟩
    have c := clamp_id q0 q1
    rw [valid_iff] at q2
    rw [← h, valid_iff] at p2
    refine msb_ext fun i hi => ?_
    rcases Nat.lt_or_ge i (clamp qn) with h3 | h3
    · exact hbits i (by omega)
    · rw [p2 i h3, q2 i h3]
theorem kid_join {pa : BitVec 32} {n : Int} {qa : BitVec 32} {qn : Int} (hp : Valid pa n) (hm : meetN pa n qa qn ≠ n) : Kid (meetA pa n qa qn) (meetN pa n qa qn) (bitV pa (meetN pa n qa qn)) pa n := by
  have e := meetN_min pa n qa qn
  obtain ⟨p0, p1, p2⟩ := hp
  refine ⟨by omega, fun i hi => (meet_msb hi (by omega)).symm, rfl⟩
theorem meet_eq {pa : BitVec 32} {n : Int} {qa : BitVec 32} {qn : Int} (hp : Valid pa n) : (meetA pa n qa qn = pa ∧ meetN pa n qa qn = n) ↔ meetN pa n qa qn = n :=
  ⟨fun h => h.2, fun h => ⟨by unfold meetA; rw [h, hp.2.2], h⟩⟩

theorem hang_all {P : BitVec 32 → Int → Prop} {pa : BitVec 32} {n : Int} {r : Rul} : ∀ {t : T}, t.All P → P pa n → (∀ x xn, P x xn → P (meetA pa n x xn) (meetN pa n x xn)) → (hangT pa n r t).All P
  | .nil, _, hp, _ => ⟨hp, trivial, trivial⟩
  | .node qa qn qr qi l k, h, hp, hm => by
    unfold hangT
    simp only
    split
    · split
      · exact ⟨hp, h, trivial⟩
      · exact ⟨hp, trivial, h⟩
    · split
      · exact ⟨hm _ _ h.1, h, hp, trivial, trivial⟩
      · exact ⟨hm _ _ h.1, ⟨hp, trivial, trivial⟩, h⟩
theorem put_all {P : BitVec 32 → Int → Prop} {pa : BitVec 32} {n : Int} {r : Rul} (hp : P pa n) (hm : ∀ x xn, P x xn → P (meetA pa n x xn) (meetN pa n x xn)) : ∀ {t : T}, t.All P → (putT pa n r t).All P
  | .nil, h => hang_all h hp hm
  | .node qa qn qr qi l k, h => by
    unfold putT
    split
    · split
      · split
        · exact h
        · exact h
      · split
        · exact ⟨h.1, put_all hp hm h.2.1, h.2.2⟩
        · exact ⟨h.1, h.2.1, put_all hp hm h.2.2⟩
    · exact hang_all h hp hm
theorem put_ne (pa : BitVec 32) (n : Int) (r : Rul) (t : T) : putT pa n r t ≠ .nil := by
  cases t with
  | nil => unfold putT hangT; simp
  | node qa qn qr qi l k =>
    unfold putT
    split
    · split
      · split <;> simp
      · split <;> simp
    · unfold hangT
      simp only
      split <;> split <;> simp

theorem wf_hang {pa : BitVec 32} {n : Int} {r : Rul} (hp : Valid pa n) (hr : r.pa = pa ∧ r.pl = n) : ∀ {t : T}, t.Wf → Stop pa n t → (hangT pa n r t).Wf
  | .nil, _, _ => ⟨hp, fun _ => hr, fun h => (by cases h), trivial, trivial, trivial, trivial⟩
  | .node qa qn qr qi l k, h, hs => by
    have hq := h.1
    have hall : ∀ {ma : BitVec 32} {mn b : Int}, 0 ≤ mn → Kid ma mn b qa qn → (T.node qa qn qr qi l k).All (Kid ma mn b) := fun h0 hk =>
      ⟨hk, h.2.2.2.1.mono fun x xn hx => kid_trans h0 hq.2.1 hk hx, h.2.2.2.2.1.mono fun x xn hx => kid_trans h0 hq.2.1 hk hx⟩
    have hst : meetN qa qn pa n ≠ qn := fun e => hs ((meet_eq hq).2 e)
    unfold hangT
    simp only
    split
    · rename_i e
      have hk := kid_of hp hq e.2 fun e2 => hst (by rw [meetN_min, e2.1, e2.2]; have := common_bd pa pa; have e3 := meetN_min pa n qa qn; rw [e.2, e2.1, e2.2] at e3; omega)
      split
      · rename_i g
        rw [e.2] at g
        rw [g] at hk
        exact ⟨hp, fun _ => hr, fun h => (by cases h), hall hp.1 hk, trivial, h, trivial⟩
      · rename_i g
        rw [e.2] at g
        rw [show bitV qa n = 1 by rcases bit01 qa n with h | h <;> omega] at hk
        exact ⟨hp, fun _ => hr, fun h => (by cases h), trivial, hall hp.1 hk, trivial, h⟩
    · rename_i e
      have hm := meet_valid hp hq
      have kp := kid_join (qa := qa) (qn := qn) hp fun e2 => e ((meet_eq hp).2 e2)
      have kq := kid_join (qa := pa) (qn := n) hq hst
      rw [meetA_comm qa qn pa n, meetN_comm qa qn pa n] at kq
      have hb := meet_bits hp hq e hs
      have hpw : (T.node pa n r true .nil .nil).Wf := ⟨hp, fun _ => hr, fun h => (by cases h), trivial, trivial, trivial, trivial⟩
      split
      · rename_i g
        rw [g] at kq
        rw [show bitV pa (meetN pa n qa qn) = 1 by rcases bit01 pa (meetN pa n qa qn) with h | h <;> omega] at kp
        exact ⟨hm, fun h => (by cases h), fun _ => ⟨by simp, by simp, rfl⟩, hall hm.1 kq, ⟨kp, trivial, trivial⟩, h, hpw⟩
      · rename_i g
        have e1 : bitV qa (meetN pa n qa qn) = 1 := by rcases bit01 qa (meetN pa n qa qn) with h | h <;> omega
        rw [e1] at kq
        rw [show bitV pa (meetN pa n qa qn) = 0 by rcases bit01 pa (meetN pa n qa qn) with h | h <;> omega] at kp
        exact ⟨hm, fun h => (by cases h), fun _ => ⟨by simp, by simp, rfl⟩, ⟨kp, trivial, trivial⟩, hall hm.1 kq, hpw, h⟩
theorem wf_put {pa : BitVec 32} {n : Int} {r : Rul} (hp : Valid pa n) (hr : r.pa = pa ∧ r.pl = n) : ∀ {t : T}, t.Wf → (putT pa n r t).Wf
  | .nil, h => wf_hang hp hr h trivial
  | .node qa qn qr qi l k, h => by
    unfold putT
    split
    · rename_i e
      split
      · rename_i e2
        split
        · exact h
        · exact ⟨h.1, fun _ => by rw [← e2.1, ← e2.2]; exact hr, fun h => (by cases h), h.2.2.2.1, h.2.2.2.2.1, h.2.2.2.2.2.1, h.2.2.2.2.2.2⟩
      · rename_i e2
        have hk := kid_of h.1 hp e.2 e2
        split
        · rename_i g
          rw [g] at hk
          exact ⟨h.1, h.2.1, fun g2 => ⟨put_ne _ _ _ _, (h.2.2.1 g2).2⟩, put_all hk (fun x xn hx => kid_meet h.1.1 hk hx hp.2.1) h.2.2.2.1, h.2.2.2.2.1, wf_put hp hr h.2.2.2.2.2.1, h.2.2.2.2.2.2⟩
        · rename_i g
          rw [show bitV pa qn = 1 by rcases bit01 pa qn with h | h <;> omega] at hk
          exact ⟨h.1, h.2.1, fun g2 => ⟨(h.2.2.1 g2).1, put_ne _ _ _ _, (h.2.2.1 g2).2.2⟩, h.2.2.2.1, put_all hk (fun x xn hx => kid_meet h.1.1 hk hx hp.2.1) h.2.2.2.2.1, h.2.2.2.2.2.1, wf_put hp hr h.2.2.2.2.2.2⟩
    · rename_i e
      exact wf_hang hp hr h e
end Go.Proofs.YtdpmnldmbnpfpaaDoor

/- Plain facts on built tries: size, depth, what is found. Conditions: prefixes may be. -/
namespace Go.Proofs.YtdpmnldmbnpfpaaDoor
open Go.RowKit

def T.forks : T → List (BitVec 32 × Int)
  | .nil => []
  | .node pa n _ _ l k => (pa, n) :: (l.forks ++ k.forks)
def T.rules : T → List Rul
  | .nil => []
  | .node _ _ r is l k => (if is then [r] else []) ++ (l.rules ++ k.rules)
theorem size_forks : ∀ t : T, t.size = t.forks.length
  | .nil => rfl
  | .node _ _ _ _ l k => by simp only [T.size, T.forks, List.length_cons, List.length_append, size_forks l, size_forks k]; omega
/-- Rules put in keep the forks that there are. -/
theorem hang_count (p : BitVec 32 × Int → Bool) (pa : BitVec 32) (n : Int) (r : Rul) (t : T) : t.forks.countP p ≤ (hangT pa n r t).forks.countP p := by
  cases t with
  | nil => simp [T.forks]
  | node qa qn qr qi l k =>
    unfold hangT
    simp only
    split <;> split <;> simp only [T.forks, List.countP_cons, List.countP_append, List.countP_nil] <;> omega
theorem put_count (p : BitVec 32 × Int → Bool) (pa : BitVec 32) (n : Int) (r : Rul) : ∀ t : T, t.forks.countP p ≤ (putT pa n r t).forks.countP p
  | .nil => hang_count p pa n r .nil
  | .node qa qn qr qi l k => by
    have h1 := put_count p pa n r l
    have h2 := put_count p pa n r k
    unfold putT
    split
    · split
      · split <;> simp only [T.forks] <;> omega
      · split <;> simp only [T.forks, List.countP_cons, List.countP_append] <;> omega
    · exact hang_count p pa n r _
theorem putOk_count (p : BitVec 32 × Int → Bool) (t : T) (r : Rul) : t.forks.countP p ≤ (putOk t r).forks.countP p := by
  unfold putOk; split
  · exact put_count _ _ _ _ _
  · exact Nat.le_refl _
theorem fold_count (p : BitVec 32 × Int → Bool) : ∀ (l : List Rul) (t : T), t.forks.countP p ≤ (l.foldl putOk t).forks.countP p
  | [], _ => Nat.le_refl _
  | r :: l, t => Nat.le_trans (putOk_count p t r) (fold_count p l (putOk t r))
theorem take_count (p : BitVec 32 × Int → Bool) (l : List Rul) (k : Nat) : (buildT (l.take k)).forks.countP p ≤ (buildT l).forks.countP p := by
  unfold buildT
  conv => rhs; rw [← List.take_append_drop k l, List.foldl_append]
  exact fold_count p _ _
theorem take_size (l : List Rul) (k : Nat) : (buildT (l.take k)).size ≤ (buildT l).size := by
  have := take_count (fun _ => true) l k
  simpa [size_forks] using this
theorem wf_putOk {t : T} (r : Rul) (h : t.Wf) : (putOk t r).Wf := by
  unfold putOk; split
  · rename_i e; exact wf_put (mayV_valid e) ⟨rfl, rfl⟩ h
  · exact h
theorem wf_fold : ∀ (l : List Rul) (t : T), t.Wf → (l.foldl putOk t).Wf
  | [], _, h => h
  | r :: l, t, h => wf_fold l (putOk t r) (wf_putOk r h)
theorem wf_build (l : List Rul) : (buildT l).Wf := wf_fold l .nil trivial

theorem holds_msb {pa a : BitVec 32} {n : Int} (h : Valid pa n) : holdsV pa n a = true ↔ ∀ i : Nat, (i : Int) < n → pa.getMsbD i = a.getMsbD i := by
  have c := clamp_id h.1 h.2.1
  rw [holds_iff]
  exact ⟨fun g i hi => g i (by omega), fun g i hi => g i (by omega)⟩
theorem kid_holds {pa a : BitVec 32} {n b : Int} {x : BitVec 32} {xn : Int} (hp : Valid pa n) (hx : Valid x xn) (hk : Kid pa n b x xn) (h : holdsV x xn a = true) : holdsV pa n a = true ∧ bitV a n = b := by
  have hl := hk.lt
  have h0 := hp.1
  have h1 := hx.2.1
  rw [holds_msb hx] at h
  refine ⟨(holds_msb hp).2 fun i hi => by rw [← hk.bits i hi]; exact h i (by omega), ?_⟩
  rw [← hk.bit]
  exact (bit_eq h0 (by omega)).2 (h _ (by omega)).symm
theorem all_forks {P : BitVec 32 → Int → Prop} : ∀ {t : T}, t.All P → ∀ f ∈ t.forks, P f.1 f.2
  | .nil, _, f, hf => by cases hf
  | .node .., h, f, hf => by
    simp only [T.forks, List.mem_cons, List.mem_append] at hf
    rcases hf with rfl | hf | hf
    · exact h.1
    · exact all_forks h.2.1 f hf
    · exact all_forks h.2.2 f hf
abbrev holdsF (a : BitVec 32) (f : BitVec 32 × Int) : Bool := holdsV f.1 f.2 a
theorem none_count {pa a : BitVec 32} {n b : Int} (hp : Valid pa n) {t : T} (hv : t.Ok) (hk : t.All (Kid pa n b)) (h : holdsV pa n a = false ∨ bitV a n ≠ b) : t.forks.countP (holdsF a) = 0 := by
  rw [List.countP_eq_zero]
  intro f hf g
  have := kid_holds hp (all_forks (ok_all hv) f hf) (all_forks hk f hf) g
  rcases h with h | h
  · rw [h] at this; cases this.1
  · exact h this.2
theorem depth_count (a : BitVec 32) : ∀ {t : T}, t.Wf → t.depth a = t.forks.countP (holdsF a)
  | .nil, _ => rfl
  | .node pa n r is l k, h => by
    obtain ⟨hp, _, _, hl, hk, wl, wk⟩ := h
    have e1 := depth_count a wl
    have e2 := depth_count a wk
    have z1 := none_count (a := a) hp wl.ok hl
    have z2 := none_count (a := a) hp wk.ok hk
    simp only [T.depth, T.forks, List.countP_cons, List.countP_append]
    cases e : holdsV pa n a with
    | false => rw [z1 (.inl e), z2 (.inl e)]; simp [e]
    | true =>
      rcases bit01 a n with g | g
      · rw [z2 (.inr (by omega)), e1]; simp [g, e]; omega
      · rw [z1 (.inr (by omega)), e2]; simp [g, e]; omega
theorem take_depth (l : List Rul) (k : Nat) (a : BitVec 32) : (buildT (l.take k)).depth a ≤ (buildT l).depth a := by
  rw [depth_count a (wf_build _), depth_count a (wf_build _)]
  exact take_count _ l k

/-- What is found: the longest rule that holds the address. -/
def Longest (l : List Rul) (a : BitVec 32) (o : Option Rul) : Prop :=
  match o with
  | some r => r ∈ l ∧ holdsV r.pa r.pl a = true ∧ ∀ s ∈ l, holdsV s.pa s.pl a = true → s.pl ≤ r.pl
  | none => ∀ s ∈ l, holdsV s.pa s.pl a = false
theorem all_rules {P : BitVec 32 → Int → Prop} : ∀ {t : T}, t.Wf → t.All P → ∀ r ∈ t.rules, P r.pa r.pl
  | .nil, _, _, r, hr => by cases hr
  | .node pa n r0 is l k, h, g, r, hr => by
    simp only [T.rules, List.mem_append] at hr
    rcases hr with hr | hr | hr
    · cases is with
      | false => cases hr
      | true =>
        simp at hr; subst hr
        have := h.2.1 rfl
        rw [this.1, this.2]; exact g.1
    · exact all_rules h.2.2.2.2.2.1 g.2.1 r hr
    · exact all_rules h.2.2.2.2.2.2 g.2.2 r hr
theorem find_longest (a : BitVec 32) : ∀ {t : T}, t.Wf → ∀ best, (t.find a best = best ∧ ∀ s ∈ t.rules, holdsV s.pa s.pl a = false) ∨ (∃ r, t.find a best = some r ∧ Longest t.rules a (some r))
  | .nil, _, best => .inl ⟨rfl, fun s hs => by cases hs⟩
  | .node pa n r is l k, h, best => by
    have hw := h
    obtain ⟨hp, hi, _, hl, hk, wl, wk⟩ := h
    have none1 : ∀ {b : Int} {t : T}, t.Wf → t.All (Kid pa n b) → (holdsV pa n a = false ∨ bitV a n ≠ b) → ∀ s ∈ t.rules, holdsV s.pa s.pl a = false := fun wt ht hh s hs => by
      cases e : holdsV s.pa s.pl a with
      | false => rfl
      | true =>
        have := kid_holds hp (all_rules wt (ok_all wt.ok) s hs) (all_rules wt ht s hs) e
        rcases hh with h | h
        · rw [h] at this; cases this.1
        · exact absurd this.2 h
    cases e : holdsV pa n a with
    | false =>
      refine .inl ⟨by simp [T.find, e], fun s hs => ?_⟩
      simp only [T.rules, List.mem_append] at hs
      rcases hs with hs | hs | hs
      · cases is with
        | false => cases hs
        | true =>
          simp at hs; subst hs
          have := hi rfl
          rw [this.1, this.2]; exact e
      · exact none1 wl hl (.inl e) s hs
      · exact none1 wk hk (.inl e) s hs
    | true =>
      have key : ∀ {b : Int} (t u : T), t.Wf → u.Wf → t.All (Kid pa n b) → (∀ s ∈ u.rules, holdsV s.pa s.pl a = false) → (∀ s, s ∈ (T.node pa n r is l k).rules ↔ (is = true ∧ s = r) ∨ s ∈ t.rules ∨ s ∈ u.rules) →
          (T.node pa n r is l k).find a best = t.find a (if is then some r else best) →
          (∀ b, (t.find a b = b ∧ ∀ s ∈ t.rules, holdsV s.pa s.pl a = false) ∨ (∃ r, t.find a b = some r ∧ Longest t.rules a (some r))) →
          ((T.node pa n r is l k).find a best = best ∧ ∀ s ∈ (T.node pa n r is l k).rules, holdsV s.pa s.pl a = false) ∨ (∃ r', (T.node pa n r is l k).find a best = some r' ∧ Longest (T.node pa n r is l k).rules a (some r')) := by
        intro b t u wt wu ht hu hm hf ih
        rw [hf]
        rcases ih (if is then some r else best) with ⟨h1, h2⟩ | ⟨r2, h1, h2, h3, h4⟩
        · rw [h1]
          cases is with
          | false =>
            refine .inl ⟨rfl, fun s hs => ?_⟩
            rcases (hm s).1 hs with ⟨h, _⟩ | h | h
            · cases h
            · exact h2 s h
            · exact hu s h
          | true =>
            have hr := hi rfl
            refine .inr ⟨r, rfl, (hm r).2 (.inl ⟨rfl, rfl⟩), by rw [hr.1, hr.2]; exact e, fun s hs hh => ?_⟩
            rcases (hm s).1 hs with ⟨_, rfl⟩ | h | h
            · exact Int.le_refl _
            · rw [h2 s h] at hh; cases hh
            · rw [hu s h] at hh; cases hh
        · refine .inr ⟨r2, h1, (hm r2).2 (.inr (.inl h2)), h3, fun s hs hh => ?_⟩
          rcases (hm s).1 hs with ⟨g, rfl⟩ | h | h
          · have := (all_rules wt ht r2 h2).lt
            rw [(hi g).2]; omega
          · exact h4 s h hh
          · rw [hu s h] at hh; cases hh
      have hmem : ∀ s, s ∈ (T.node pa n r is l k).rules ↔ (is = true ∧ s = r) ∨ s ∈ l.rules ∨ s ∈ k.rules := fun s => by
        cases is <;> simp [T.rules]
      rcases bit01 a n with g | g
      · refine key (b := 0) l k wl wk hl (none1 wk hk (.inr (by omega))) hmem (by simp [T.find, e, g]) fun b => find_longest a wl b
      · refine key (b := 1) k l wk wl hk (none1 wl hl (.inr (by omega))) (fun s => by rw [hmem s]; simp only [or_comm (a := s ∈ l.rules)]) (by simp [T.find, e, g]) fun b => find_longest a wk b
theorem find_spec (a : BitVec 32) {t : T} (h : t.Wf) : Longest t.rules a (t.find a none) := by
  rcases find_longest a h none with ⟨h1, h2⟩ | ⟨r, h1, h2⟩
  · rw [h1]; exact h2
  · rw [h1]; exact h2
end Go.Proofs.YtdpmnldmbnpfpaaDoor

/- Plain facts on tables that may be: in order, each prefix once, each may be. Conditions: none. -/
namespace Go.Proofs.YtdpmnldmbnpfpaaDoor
open Go.RowKit

def ltP (a b : Rul) : Prop := cmpR a b < 0
theorem ltP_iff (a b : Rul) : ltP a b ↔ (uv a.pa < uv b.pa ∨ a.pa = b.pa ∧ a.pl < b.pl) := by
  unfold ltP cmpR
  rw [cmpV_eq]
  split
  · simp_all
  · rename_i h
    constructor
    · intro g; split at g <;> omega
    · intro g; exact absurd g h
theorem cmpR_zero (a b : Rul) : cmpR a b = 0 ↔ (a.pa = b.pa ∧ a.pl = b.pl) := by
  unfold cmpR
  rw [cmpV_eq]
  constructor
  · intro g
    split at g
    · omega
    · split at g
      · assumption
      · omega
  · rintro ⟨h1, h2⟩
    rw [h1, h2, if_neg (by omega), if_pos ⟨rfl, rfl⟩]
theorem ltP_not {a b : Rul} (h : ¬ ltP a b) (h0 : ¬ cmpR a b = 0) : ltP b a := by
  rw [ltP_iff] at h ⊢
  rw [cmpR_zero] at h0
  by_cases e : a.pa = b.pa
  · rw [e] at h h0 ⊢
    refine .inr ⟨rfl, ?_⟩
    have : ¬ a.pl < b.pl := fun g => h (.inr ⟨rfl, g⟩)
    have : ¬ a.pl = b.pl := fun g => h0 ⟨rfl, g⟩
    omega
  · have h1 : ¬ uv a.pa < uv b.pa := fun g => h (.inl g)
    have h2 : uv a.pa ≠ uv b.pa := fun g => e (by
      unfold uv at g
      exact BitVec.eq_of_toNat_eq (by omega))
    exact .inl (by omega)
theorem ltP_trans {a b c : Rul} (h1 : ltP a b) (h2 : ltP b c) : ltP a c := by
  rw [ltP_iff] at *
  rcases h1 with h1 | ⟨e1, h1⟩ <;> rcases h2 with h2 | ⟨e2, h2⟩
  · exact .inl (by omega)
  · exact .inl (by rw [← e2]; exact h1)
  · exact .inl (by rw [e1]; exact h2)
  · exact .inr ⟨e1.trans e2, by omega⟩
theorem ltP_ne {a b : Rul} (h : ltP a b) : ¬ (a.pa = b.pa ∧ a.pl = b.pl) := by
  intro g
  have := (cmpR_zero a b).2 g
  unfold ltP at h; omega
def Sorted (l : List Rul) : Prop := l.Pairwise ltP
theorem sorted_ins {out : List Rul} (h : Sorted out) (r : Rul) : Sorted (ins out r) := by
  unfold ins
  split
  · exact h
  · rename_i hne
    unfold Sorted at *
    have hd : ∀ x ∈ out.drop (insAt out r), ltP r x := by
      intro x hx
      obtain ⟨j, hj, rfl⟩ := List.mem_iff_getElem.1 hx
      rw [List.length_drop] at hj
      have hl : insAt out r < out.length := by omega
      have h0 : ltP r out[insAt out r] := ltP_not (insAt_end hl) (fun e => hne (by rw [List.getElem?_eq_getElem hl]; simp [e]))
      rw [List.getElem_drop]
      cases j with
      | zero => exact h0
      | succ j => exact ltP_trans h0 (List.pairwise_iff_getElem.1 h _ _ hl (by omega) (by omega))
    rw [List.pairwise_append, List.pairwise_cons]
    have ht : ∀ x ∈ out.take (insAt out r), ltP x r := by
      intro x hx
      obtain ⟨j, hj, rfl⟩ := List.mem_iff_getElem.1 hx
      rw [List.length_take] at hj
      rw [List.getElem_take]
      exact insAt_lt (by omega) (by omega)
    refine ⟨h.sublist (List.take_sublist _ _), ⟨hd, h.sublist (List.drop_sublist _ _)⟩, fun a ha b hb => ?_⟩
    rcases List.mem_cons.1 hb with rfl | hb
    · exact ht a ha
    · exact ltP_trans (ht a ha) (hd b hb)
theorem mem_ins {out : List Rul} {r x : Rul} (h : x ∈ ins out r) : x ∈ out ∨ x = r := by
  unfold ins at h
  split at h
  · exact .inl h
  · rw [List.mem_append, List.mem_cons] at h
    rcases h with h | h | h
    · exact .inl (List.mem_of_mem_take h)
    · exact .inr h
    · exact .inl (List.mem_of_mem_drop h)
theorem fold_sorted (nodes : Int) : ∀ (l out : List Rul), Sorted out → Sorted (l.foldl (fun out r => ins out (fitV r nodes)) out)
  | [], _, h => h
  | _ :: l, _, h => fold_sorted nodes l _ (sorted_ins h _)
theorem fold_mem (nodes : Int) {x : Rul} : ∀ (l out : List Rul), x ∈ l.foldl (fun out r => ins out (fitV r nodes)) out → x ∈ out ∨ ∃ r ∈ l, x = fitV r nodes
  | [], _, h => .inl h
  | r :: l, out, h => by
    rcases fold_mem nodes l _ h with h | ⟨r2, h1, h2⟩
    · rcases mem_ins h with h | h
      · exact .inl h
      · exact .inr ⟨r, by simp, h⟩
    · exact .inr ⟨r2, by simp [h1], h2⟩
theorem fold_len (nodes : Int) : ∀ (l out : List Rul), (l.foldl (fun out r => ins out (fitV r nodes)) out).length ≤ out.length + l.length
  | [], _ => Nat.le_refl _
  | r :: l, out => by
    have h1 := fold_len nodes l (ins out (fitV r nodes))
    have h2 := ins_len out (fitV r nodes)
    simp only [List.foldl_cons, List.length_cons]; omega
theorem fitL_sorted (l : List Rul) (nodes : Int) : Sorted (fitL l nodes) := fold_sorted nodes _ _ List.Pairwise.nil
theorem fitL_len (l : List Rul) (nodes : Int) : (fitL l nodes).length ≤ 20 := by
  have := fold_len nodes (l.take 20) []
  rw [List.length_take] at this
  unfold fitL
  simp only [List.length_nil] at this
  omega
theorem fitL_mem {l : List Rul} {nodes : Int} {x : Rul} (h : x ∈ fitL l nodes) : ∃ r, x = fitV r nodes := by
  rcases fold_mem nodes _ _ h with h | ⟨r, _, h⟩
  · cases h
  · exact ⟨r, h⟩
theorem fitV_valid (r : Rul) (nodes : Int) : Valid (fitV r nodes).pa (fitV r nodes).pl := by
  unfold fitV Valid
  simp only
  refine ⟨by omega, by omega, ?_⟩
  rw [BitVec.and_assoc, BitVec.and_self]
theorem fitV_ok (r : Rul) {nodes : Int} (h1 : 1 ≤ nodes) (h2 : nodes ≤ 100000) : (fitV r nodes).Ok := by
  have a := Int.emod_nonneg r.nx (show nodes ≠ 0 by omega)
  have b := Int.emod_lt_of_pos r.nx (show 0 < nodes by omega)
  refine ⟨?_, ?_, ?_⟩ <;> unfold fitV In64 <;> simp only
  · omega
  · split <;> omega
  · split <;> omega
theorem fitL_valid {l : List Rul} {nodes : Int} : ∀ x ∈ fitL l nodes, Valid x.pa x.pl := fun x hx => by
  obtain ⟨r, rfl⟩ := fitL_mem hx
  exact fitV_valid r nodes
theorem fitL_ok {l : List Rul} {nodes : Int} (h1 : 1 ≤ nodes) (h2 : nodes ≤ 100000) : RulesOk (fitL l nodes) := fun x hx => by
  obtain ⟨r, rfl⟩ := fitL_mem hx
  exact fitV_ok r h1 h2
end Go.Proofs.YtdpmnldmbnpfpaaDoor

/- Plain facts on tries of tables that may be: their rules. Conditions: prefixes may be, each once. -/
namespace Go.Proofs.YtdpmnldmbnpfpaaDoor
open Go.RowKit

abbrev Free (pa : BitVec 32) (n : Int) (l : List Rul) : Prop := ∀ y ∈ l, ¬ (y.pa = pa ∧ y.pl = n)
theorem hang_rules (pa : BitVec 32) (n : Int) (r : Rul) (t : T) : (hangT pa n r t).rules.Perm (r :: t.rules) := by
  cases t with
  | nil => exact List.Perm.refl _
  | node qa qn qr qi l k =>
    unfold hangT
    simp only
    split
    · split
      · simp only [T.rules, if_true, List.append_nil]; exact List.Perm.refl _
      · simp only [T.rules, if_true, List.nil_append]; exact List.Perm.refl _
    · split
      · simp only [T.rules, if_true, List.append_nil, List.nil_append, Bool.false_eq_true, if_false]
        exact List.perm_append_singleton r _
      · simp only [T.rules, if_true, List.append_nil, List.nil_append, Bool.false_eq_true, if_false]; exact List.Perm.refl _
theorem put_rules {pa : BitVec 32} {n : Int} {r : Rul} : ∀ {t : T}, t.Wf → Free pa n t.rules → (putT pa n r t).rules.Perm (r :: t.rules)
  | .nil, _, _ => hang_rules pa n r .nil
  | .node qa qn qr qi l k, h, hf => by
    unfold putT
    split
    · split
      · rename_i e
        split
        · rename_i g
          subst g
          exfalso
          have := h.2.1 rfl
          exact hf qr (by simp [T.rules]) ⟨this.1.trans e.1.symm, this.2.trans e.2.symm⟩
        · rename_i g
          simp only [T.rules, g, if_true, Bool.false_eq_true, if_false, List.nil_append]
          exact List.Perm.refl _
      · split
        · have ih := put_rules (r := r) h.2.2.2.2.2.1 fun y hy => hf y (by simp [T.rules, hy])
          simp only [T.rules]
          refine (List.Perm.append_left _ (List.Perm.append_right _ ih)).trans ?_
          exact List.perm_middle
        · have ih := put_rules (r := r) h.2.2.2.2.2.2 fun y hy => hf y (by simp [T.rules, hy])
          simp only [T.rules]
          refine (List.Perm.append_left _ (List.Perm.append_left _ ih)).trans ?_
          refine (List.Perm.append_left _ List.perm_middle).trans ?_
          exact List.perm_middle
    · exact hang_rules pa n r _
theorem valid_mayV {a : BitVec 32} {n : Int} (h : Valid a n) : mayV a n = 0 := by
  unfold mayV
  rw [if_neg (by have := h.1; have := h.2.1; omega), if_pos]
  have h2 := h.2.2
  apply BitVec.eq_of_getLsbD_eq
  intro i hi
  have := congrArg (fun x : BitVec 32 => x.getLsbD i) h2
  simp only [BitVec.getLsbD_and, BitVec.getLsbD_not, BitVec.getLsbD_zero] at this ⊢
  cases e : a.getLsbD i <;> cases e2 : (maskV n).getLsbD i <;> simp_all
theorem fold_rules : ∀ (l : List Rul) (t : T), t.Wf → (∀ r ∈ l, Valid r.pa r.pl) → l.Pairwise (fun a b => ¬ (a.pa = b.pa ∧ a.pl = b.pl)) → (∀ r ∈ l, Free r.pa r.pl t.rules) → (l.foldl putOk t).rules.Perm (l ++ t.rules)
  | [], _, _, _, _, _ => List.Perm.refl _
  | r :: l, t, h, hv, hd, hf => by
    have hp : putOk t r = putT r.pa r.pl r t := if_pos (valid_mayV (hv r (by simp)))
    have h1 := put_rules (r := r) h (hf r (by simp))
    rw [← hp] at h1
    obtain ⟨d1, d2⟩ := List.pairwise_cons.1 hd
    have h2 := fold_rules l (putOk t r) (wf_putOk r h) (fun x hx => hv x (by simp [hx])) d2 fun x hx y hy => by
      rcases List.mem_cons.1 (h1.mem_iff.1 hy) with rfl | hy
      · exact d1 x hx
      · exact hf x (by simp [hx]) y hy
    exact h2.trans ((List.Perm.append_left l h1).trans List.perm_middle)
/-- A table that may be. -/
structure Tab (l : List Rul) : Prop where
  valid : ∀ r ∈ l, Valid r.pa r.pl
  apart : l.Pairwise (fun a b => ¬ (a.pa = b.pa ∧ a.pl = b.pl))
theorem Tab.take {l : List Rul} (h : Tab l) (k : Nat) : Tab (l.take k) :=
  ⟨fun r hr => h.valid r (List.mem_of_mem_take hr), h.apart.sublist (List.take_sublist _ _)⟩
theorem fit_tab (l : List Rul) (nodes : Int) : Tab (fitL l nodes) := ⟨fitL_valid, (fitL_sorted l nodes).imp ltP_ne⟩
theorem build_rules {l : List Rul} (h : Tab l) : (buildT l).rules.Perm l := by
  have := fold_rules l .nil trivial h.valid h.apart (fun _ _ y hy => by cases hy)
  rw [T.rules, List.append_nil] at this
  exact this
theorem Longest.mem {l m : List Rul} {a : BitVec 32} {o : Option Rul} (hlm : ∀ x, x ∈ l ↔ x ∈ m) (h : Longest l a o) : Longest m a o := by
  cases o with
  | none => exact fun s hs => h s ((hlm s).2 hs)
  | some r => exact ⟨(hlm r).1 h.1, h.2.1, fun s hs => h.2.2 s ((hlm s).2 hs)⟩
theorem build_find {l : List Rul} (h : Tab l) (a : BitVec 32) : Longest l a ((buildT l).find a none) :=
  (find_spec a (wf_build l)).mem fun _ => (build_rules h).mem_iff
/-- Of a part of the rules none longer is found. -/
theorem longest_part {l m : List Rul} {a : BitVec 32} {o u : Option Rul} (hs : ∀ x ∈ m, x ∈ l) (ho : Longest l a o) (hu : Longest m a u) : (!u.isSome || (o.isSome && decide ((resR u).pl ≤ (resR o).pl))) = true := by
  cases u with
  | none => rfl
  | some s =>
    cases o with
    | none =>
      have h1 := ho s (hs s hu.1)
      rw [hu.2.1] at h1; cases h1
    | some r =>
      have := ho.2.2 s (hs s hu.1) hu.2.1
      show (false || (true && decide (s.pl ≤ r.pl))) = true
      rw [decide_eq_true this]; rfl
end Go.Proofs.YtdpmnldmbnpfpaaDoor

/- Plain facts: the trie and the scan find the same rule; how many forks there are. Conditions: prefixes may be, each once. -/
namespace Go.Proofs.YtdpmnldmbnpfpaaDoor
open Go.RowKit

theorem longest_step {l : List Rul} {a : BitVec 32} {o : Option Rul} (h : Longest l a o) (r : Rul) : Longest (l ++ [r]) a (findStep a o r) := by
  unfold findStep better
  cases e : holdsV r.pa r.pl a with
  | false =>
    simp only [Bool.false_and, Bool.false_eq_true, if_false]
    cases o with
    | none =>
      intro s hs
      rcases List.mem_append.1 hs with hs | hs
      · exact h s hs
      · simp at hs; subst hs; exact e
    | some b =>
      refine ⟨by simp [h.1], h.2.1, fun s hs hh => ?_⟩
      rcases List.mem_append.1 hs with hs | hs
      · exact h.2.2 s hs hh
      · simp at hs; subst hs; rw [e] at hh; cases hh
  | true =>
    cases o with
    | none =>
      simp only [Bool.true_and, Option.all_none, if_true]
      refine ⟨by simp, e, fun s hs hh => ?_⟩
      rcases List.mem_append.1 hs with hs | hs
      · rw [h s hs] at hh; cases hh
      · simp at hs; subst hs; exact Int.le_refl _
    | some b =>
      simp only [Bool.true_and, Option.all_some, decide_eq_true_eq]
      split
      · rename_i g
        refine ⟨by simp, e, fun s hs hh => ?_⟩
        rcases List.mem_append.1 hs with hs | hs
        · have := h.2.2 s hs hh; omega
        · simp at hs; subst hs; exact Int.le_refl _
      · rename_i g
        refine ⟨by simp [h.1], h.2.1, fun s hs hh => ?_⟩
        rcases List.mem_append.1 hs with hs | hs
        · exact h.2.2 s hs hh
        · simp at hs; subst hs; omega
theorem longest_fold {a : BitVec 32} : ∀ (m l : List Rul) (o : Option Rul), Longest l a o → Longest (l ++ m) a (m.foldl (findStep a) o)
  | [], l, o, h => by simpa using h
  | r :: m, l, o, h => by
    have := longest_fold m (l ++ [r]) _ (longest_step h r)
    rwa [List.append_assoc, List.singleton_append] at this
theorem findL_longest (l : List Rul) (a : BitVec 32) : Longest l a (findL l a) := by
  have := longest_fold (a := a) l [] none (fun s hs => by cases hs)
  rwa [List.nil_append] at this
theorem same_of {l : List Rul} (h : Tab l) {r s : Rul} (hr : r ∈ l) (hs : s ∈ l) (hp : r.pa = s.pa) (hn : r.pl = s.pl) : r = s := by
  obtain ⟨i, hi, rfl⟩ := List.mem_iff_getElem.1 hr
  obtain ⟨j, hj, rfl⟩ := List.mem_iff_getElem.1 hs
  rcases Nat.lt_trichotomy i j with g | g | g
  · exact absurd ⟨hp, hn⟩ (List.pairwise_iff_getElem.1 h.apart i j hi hj g)
  · subst g; rfl
  · exact absurd ⟨hp.symm, hn.symm⟩ (List.pairwise_iff_getElem.1 h.apart j i hj hi g)
theorem holds_same {p q a : BitVec 32} {n : Int} (hp : Valid p n) (hq : Valid q n) (h1 : holdsV p n a = true) (h2 : holdsV q n a = true) : p = q := by
  rw [holds_msb hp] at h1
  rw [holds_msb hq] at h2
  have c := clamp_id hp.1 hp.2.1
  have v1 := (valid_iff p n).1 hp.2.2
  have v2 := (valid_iff q n).1 hq.2.2
  refine msb_ext fun i _ => ?_
  rcases Nat.lt_or_ge i (clamp n) with g | g
  · rw [h1 i (by omega), h2 i (by omega)]
  · rw [v1 i g, v2 i g]
theorem longest_one {l : List Rul} (h : Tab l) {a : BitVec 32} {o u : Option Rul} (ho : Longest l a o) (hu : Longest l a u) : o = u := by
  cases o with
  | none =>
    cases u with
    | none => rfl
    | some s =>
      have h1 := ho s hu.1
      rw [hu.2.1] at h1; cases h1
  | some r =>
    cases u with
    | none =>
      have h1 := hu r ho.1
      rw [ho.2.1] at h1; cases h1
    | some s =>
      have e1 := ho.2.2 s hu.1 hu.2.1
      have e2 := hu.2.2 r ho.1 ho.2.1
      have hn : r.pl = s.pl := by omega
      have v := h.valid s hu.1
      have hp := holds_same (hn ▸ h.valid r ho.1) v (hn ▸ ho.2.1) hu.2.1
      rw [same_of h ho.1 hu.1 hp hn]
theorem find_scan {l : List Rul} (h : Tab l) (a : BitVec 32) : (buildT l).find a none = findL l a := longest_one h (build_find h a) (findL_longest l a)

theorem rules_size : ∀ {t : T}, t.Wf → t.rules.length ≤ t.size ∧ (t = .nil ∨ t.size + 1 ≤ 2 * t.rules.length)
  | .nil, _ => ⟨Nat.le_refl _, .inl rfl⟩
  | .node pa n r is l k, h => by
    have h1 := rules_size h.2.2.2.2.2.1
    have h2 := rules_size h.2.2.2.2.2.2
    cases is with
    | true =>
      simp only [T.rules, T.size, if_true, List.length_append, List.length_cons, List.length_nil]
      refine ⟨by omega, .inr ?_⟩
      have z1 : l.size + 1 ≤ 2 * l.rules.length ∨ l.size = 0 := h1.2.symm.imp id fun g => by rw [g]; rfl
      have z2 : k.size + 1 ≤ 2 * k.rules.length ∨ k.size = 0 := h2.2.symm.imp id fun g => by rw [g]; rfl
      omega
    | false =>
      have hn := h.2.2.1 rfl
      simp only [T.rules, T.size, Bool.false_eq_true, if_false, List.length_append, List.length_nil]
      refine ⟨by omega, .inr ?_⟩
      rcases h1.2 with g | g1
      · exact absurd g hn.1
      · rcases h2.2 with g | g2
        · exact absurd g hn.2.1
        · omega
theorem build_bounds {l : List Rul} (h : Tab l) : l.length ≤ (buildT l).size ∧ (l.length = 0 ∧ (buildT l).size = 0 ∨ 1 ≤ l.length ∧ (buildT l).size + 1 ≤ 2 * l.length) := by
  have h1 := rules_size (wf_build l)
  rw [(build_rules h).length_eq] at h1
  refine ⟨h1.1, ?_⟩
  rcases h1.2 with g | g
  · have hz : (buildT l).size = 0 := by rw [g]; rfl
    exact .inl ⟨by omega, hz⟩
  · exact .inr ⟨by omega, g⟩
end Go.Proofs.YtdpmnldmbnpfpaaDoor
