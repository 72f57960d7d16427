/- Plain facts on tries: each fork holds all below it; which forks and rules there are. Conditions: prefixes may be. -/
import Derived.Test.YtilaljdokpdcoaaTrieE
namespace Go.Proofs.Ytilaljdokpdcoaa
open Go.RowKit

/-- qa/qn is longer than pa/n, which holds it, and its next bit is b. -/
structure Kid (pa : BitVec 32) (n : Int) (b : Int) (qa : BitVec 32) (qn : Int) : Prop where
  lt : n < qn
  bits : ∀ i : Nat, (i : Int) < n → qa.getMsbD i = pa.getMsbD i
  bit : bitV qa n = b
def T.All (P : BitVec 32 → Int → Prop) : T → Prop
  | .nil => True
  | .node pa n _ _ l k => P pa n ∧ l.All P ∧ k.All P
theorem T.All.mono {P Q : BitVec 32 → Int → Prop} (hpq : ∀ x n, P x n → Q x n) : ∀ {t : T}, t.All P → t.All Q
  | .nil, _ => trivial
  | .node .., h => ⟨hpq _ _ h.1, h.2.1.mono hpq, h.2.2.mono hpq⟩
theorem T.All.and {P Q : BitVec 32 → Int → Prop} : ∀ {t : T}, t.All P → t.All Q → t.All (fun x n => P x n ∧ Q x n)
  | .nil, _, _ => trivial
  | .node .., h, g => ⟨⟨h.1, g.1⟩, h.2.1.and g.2.1, h.2.2.and g.2.2⟩
def T.Wf : T → Prop
  | .nil => True
  | .node pa n r is l k => Valid pa n ∧ (is = true → r.pa = pa ∧ r.pl = n) ∧ (is = false → l ≠ .nil ∧ k ≠ .nil ∧ r = zeroR) ∧ l.All (Kid pa n 0) ∧ k.All (Kid pa n 1) ∧ l.Wf ∧ k.Wf
theorem T.Wf.ok : ∀ {t : T}, t.Wf → t.Ok
  | .nil, _ => trivial
  | .node .., h => ⟨h.1, h.2.2.2.2.2.1.ok, h.2.2.2.2.2.2.ok⟩
theorem ok_all : ∀ {t : T}, t.Ok → t.All Valid
  | .nil, _ => trivial
  | .node .., h => ⟨h.1, ok_all h.2.1, ok_all h.2.2⟩
theorem bit_eq {a b : BitVec 32} {i : Int} (h0 : 0 ≤ i) (h1 : i ≤ 31) : bitV a i = bitV b i ↔ a.getMsbD i.toNat = b.getMsbD i.toNat := by
  rw [bit_msb _ _ h0 h1, bit_msb _ _ h0 h1]
  cases a.getMsbD i.toNat <;> cases b.getMsbD i.toNat <;> simp
theorem meet_msb {x : BitVec 32} {xn : Int} {y : BitVec 32} {yn : Int} {i : Nat} (h : (i : Int) < meetN x xn y yn) (h1 : meetN x xn y yn ≤ 32) : (meetA x xn y yn).getMsbD i = x.getMsbD i := by
  unfold meetA
  rw [BitVec.getMsbD_and, mask_msb]
  have := clamp_id (n := meetN x xn y yn) (by omega) h1
  rw [decide_eq_true (by omega), Bool.and_true]
theorem kid_meet {pa : BitVec 32} {n b : Int} {x y : BitVec 32} {xn yn : Int} (h0 : 0 ≤ n) (hx : Kid pa n b x xn) (hy : Kid pa n b y yn) (vx : xn ≤ 32) : Kid pa n b (meetA x xn y yn) (meetN x xn y yn) := by
  have hc := common_bd x y
  have hm := common_msb x y
  have h1 : n < commonV x y := by
    rcases Int.lt_or_le n (commonV x y) with h | h
    · exact h
    · exfalso
      have hl := hx.lt
      refine hm.2 (by omega) ?_
      rcases Int.lt_or_eq_of_le h with h2 | h2
      · rw [hx.bits _ (by omega), hy.bits _ (by omega)]
      · rw [h2]; exact (bit_eq h0 (by omega)).1 (hx.bit.trans hy.bit.symm)
  have hl := hx.lt
  have hl2 := hy.lt
  have e := meetN_min x xn y yn
  refine ⟨by omega, fun i hi => ?_, ?_⟩
  · rw [meet_msb (by omega) (by omega)]; exact hx.bits i hi
  · rw [← hx.bit, bit_eq h0 (by omega), meet_msb (by omega) (by omega)]
theorem kid_trans {pa : BitVec 32} {n b : Int} {qa : BitVec 32} {qn c : Int} {x : BitVec 32} {xn : Int} (h0 : 0 ≤ n) (hq : qn ≤ 32) (h : Kid pa n b qa qn) (g : Kid qa qn c x xn) : Kid pa n b x xn := by
  have hl := h.lt
  have gl := g.lt
  refine ⟨by omega, fun i hi => ?_, ?_⟩
  · rw [g.bits i (by omega), h.bits i hi]
  · rw [← h.bit, bit_eq h0 (by omega), g.bits _ (by omega)]
/-- A prefix is held by another one, or what both have is shorter. -/
theorem kid_of {qa : BitVec 32} {qn : Int} {pa : BitVec 32} {n : Int} (hq : Valid qa qn) (hp : Valid pa n) (hm : meetN qa qn pa n = qn) (hne : ¬ (pa = qa ∧ n = qn)) : Kid qa qn (bitV pa qn) pa n := by
  have hc := common_bd qa pa
  have hb := common_msb qa pa
  obtain ⟨q0, q1, q2⟩ := hq
  obtain ⟨p0, p1, p2⟩ := hp
  have e := meetN_min qa qn pa n
  have hbits : ∀ i : Nat, (i : Int) < qn → pa.getMsbD i = qa.getMsbD i := fun i hi => (hb.1 i (by omega)).symm
  refine ⟨?_, hbits, rfl⟩
  rcases Int.lt_or_eq_of_le (show qn ≤ n by omega) with h | h
  · exact h
  · exfalso
    refine hne ⟨?_, h.symm⟩
    have c := clamp_id q0 q1
    rw [valid_iff] at q2
    rw [← h, valid_iff] at p2
    refine msb_ext fun i hi => ?_
    rcases Nat.lt_or_ge i (clamp qn) with h3 | h3
    · exact hbits i (by omega)
    · rw [p2 i h3, q2 i h3]
theorem kid_join {pa : BitVec 32} {n : Int} {qa : BitVec 32} {qn : Int} (hp : Valid pa n) (hm : meetN pa n qa qn ≠ n) : Kid (meetA pa n qa qn) (meetN pa n qa qn) (bitV pa (meetN pa n qa qn)) pa n := by
  have e := meetN_min pa n qa qn
  obtain ⟨p0, p1, p2⟩ := hp
  refine ⟨by omega, fun i hi => (meet_msb hi (by omega)).symm, rfl⟩
theorem meet_eq {pa : BitVec 32} {n : Int} {qa : BitVec 32} {qn : Int} (hp : Valid pa n) : (meetA pa n qa qn = pa ∧ meetN pa n qa qn = n) ↔ meetN pa n qa qn = n :=
  ⟨fun h => h.2, fun h => ⟨by unfold meetA; rw [h, hp.2.2], h⟩⟩

theorem hang_all {P : BitVec 32 → Int → Prop} {pa : BitVec 32} {n : Int} {r : Rul} : ∀ {t : T}, t.All P → P pa n → (∀ x xn, P x xn → P (meetA pa n x xn) (meetN pa n x xn)) → (hangT pa n r t).All P
  | .nil, _, hp, _ => ⟨hp, trivial, trivial⟩
  | .node qa qn qr qi l k, h, hp, hm => by
    unfold hangT
    simp only
    split
    · split
      · exact ⟨hp, h, trivial⟩
      · exact ⟨hp, trivial, h⟩
    · split
      · exact ⟨hm _ _ h.1, h, hp, trivial, trivial⟩
      · exact ⟨hm _ _ h.1, ⟨hp, trivial, trivial⟩, h⟩
theorem put_all {P : BitVec 32 → Int → Prop} {pa : BitVec 32} {n : Int} {r : Rul} (hp : P pa n) (hm : ∀ x xn, P x xn → P (meetA pa n x xn) (meetN pa n x xn)) : ∀ {t : T}, t.All P → (putT pa n r t).All P
  | .nil, h => hang_all h hp hm
  | .node qa qn qr qi l k, h => by
    unfold putT
    split
    · split
      · split
        · exact h
        · exact h
      · split
        · exact ⟨h.1, put_all hp hm h.2.1, h.2.2⟩
        · exact ⟨h.1, h.2.1, put_all hp hm h.2.2⟩
    · exact hang_all h hp hm
theorem put_ne (pa : BitVec 32) (n : Int) (r : Rul) (t : T) : putT pa n r t ≠ .nil := by
  cases t with
  | nil => unfold putT hangT; simp
  | node qa qn qr qi l k =>
    unfold putT
    split
    · split
      · split <;> simp
      · split <;> simp
    · unfold hangT
      simp only
      split <;> split <;> simp

theorem wf_hang {pa : BitVec 32} {n : Int} {r : Rul} (hp : Valid pa n) (hr : r.pa = pa ∧ r.pl = n) : ∀ {t : T}, t.Wf → Stop pa n t → (hangT pa n r t).Wf
  | .nil, _, _ => ⟨hp, fun _ => hr, fun h => (by cases h), trivial, trivial, trivial, trivial⟩
  | .node qa qn qr qi l k, h, hs => by
    have hq := h.1
    have hall : ∀ {ma : BitVec 32} {mn b : Int}, 0 ≤ mn → Kid ma mn b qa qn → (T.node qa qn qr qi l k).All (Kid ma mn b) := fun h0 hk =>
      ⟨hk, h.2.2.2.1.mono fun x xn hx => kid_trans h0 hq.2.1 hk hx, h.2.2.2.2.1.mono fun x xn hx => kid_trans h0 hq.2.1 hk hx⟩
    have hst : meetN qa qn pa n ≠ qn := fun e => hs ((meet_eq hq).2 e)
    unfold hangT
    simp only
    split
    · rename_i e
      have hk := kid_of hp hq e.2 fun e2 => hst (by rw [meetN_min, e2.1, e2.2]; have := common_bd pa pa; have e3 := meetN_min pa n qa qn; rw [e.2, e2.1, e2.2] at e3; omega)
      split
      · rename_i g
        rw [e.2] at g
        rw [g] at hk
        exact ⟨hp, fun _ => hr, fun h => (by cases h), hall hp.1 hk, trivial, h, trivial⟩
      · rename_i g
        rw [e.2] at g
        rw [show bitV qa n = 1 by rcases bit01 qa n with h | h <;> omega] at hk
        exact ⟨hp, fun _ => hr, fun h => (by cases h), trivial, hall hp.1 hk, trivial, h⟩
    · rename_i e
      have hm := meet_valid hp hq
      have kp := kid_join (qa := qa) (qn := qn) hp fun e2 => e ((meet_eq hp).2 e2)
      have kq := kid_join (qa := pa) (qn := n) hq hst
      rw [meetA_comm qa qn pa n, meetN_comm qa qn pa n] at kq
      have hb := meet_bits hp hq e hs
      have hpw : (T.node pa n r true .nil .nil).Wf := ⟨hp, fun _ => hr, fun h => (by cases h), trivial, trivial, trivial, trivial⟩
      split
      · rename_i g
        rw [g] at kq
        rw [show bitV pa (meetN pa n qa qn) = 1 by rcases bit01 pa (meetN pa n qa qn) with h | h <;> omega] at kp
        exact ⟨hm, fun h => (by cases h), fun _ => ⟨by simp, by simp, rfl⟩, hall hm.1 kq, ⟨kp, trivial, trivial⟩, h, hpw⟩
      · rename_i g
        have e1 : bitV qa (meetN pa n qa qn) = 1 := by rcases bit01 qa (meetN pa n qa qn) with h | h <;> omega
        rw [e1] at kq
        rw [show bitV pa (meetN pa n qa qn) = 0 by rcases bit01 pa (meetN pa n qa qn) with h | h <;> omega] at kp
        exact ⟨hm, fun h => (by cases h), fun _ => ⟨by simp, by simp, rfl⟩, ⟨kp, trivial, trivial⟩, hall hm.1 kq, hpw, h⟩
theorem wf_put {pa : BitVec 32} {n : Int} {r : Rul} (hp : Valid pa n) (hr : r.pa = pa ∧ r.pl = n) : ∀ {t : T}, t.Wf → (putT pa n r t).Wf
  | .nil, h => wf_hang hp hr h trivial
  | .node qa qn qr qi l k, h => by
    unfold putT
    split
    · rename_i e
      split
      · rename_i e2
        split
        · exact h
        · exact ⟨h.1, fun _ => by rw [← e2.1, ← e2.2]; exact hr, fun h => (by cases h), h.2.2.2.1, h.2.2.2.2.1, h.2.2.2.2.2.1, h.2.2.2.2.2.2⟩
      · rename_i e2
        have hk := kid_of h.1 hp e.2 e2
        split
        · rename_i g
          rw [g] at hk
          exact ⟨h.1, h.2.1, fun g2 => ⟨put_ne _ _ _ _, (h.2.2.1 g2).2⟩, put_all hk (fun x xn hx => kid_meet h.1.1 hk hx hp.2.1) h.2.2.2.1, h.2.2.2.2.1, wf_put hp hr h.2.2.2.2.2.1, h.2.2.2.2.2.2⟩
        · rename_i g
          rw [show bitV pa qn = 1 by rcases bit01 pa qn with h | h <;> omega] at hk
          exact ⟨h.1, h.2.1, fun g2 => ⟨(h.2.2.1 g2).1, put_ne _ _ _ _, (h.2.2.1 g2).2.2⟩, h.2.2.2.1, put_all hk (fun x xn hx => kid_meet h.1.1 hk hx hp.2.1) h.2.2.2.2.1, h.2.2.2.2.2.1, wf_put hp hr h.2.2.2.2.2.2⟩
    · rename_i e
      exact wf_hang hp hr h e
end Go.Proofs.Ytilaljdokpdcoaa
