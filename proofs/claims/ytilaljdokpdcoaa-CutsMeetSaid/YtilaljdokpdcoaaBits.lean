/- Plain facts on the bits of addresses, counted from the highest: masks, prefixes, common bits. Conditions: none. -/
import Derived.Test.YtilaljdokpdcoaaTrieB
import Derived.Test.YtilaljdokpdcoaaBits0
namespace Go.Proofs.Ytilaljdokpdcoaa
open Go.RowKit

theorem meetN_comm (a : BitVec 32) (m : Int) (b : BitVec 32) (n : Int) : meetN a m b n = meetN b n a m := by
  rw [meetN_min, meetN_min, common_comm]; omega
theorem meetA_comm (a : BitVec 32) (m : Int) (b : BitVec 32) (n : Int) : meetA a m b n = meetA b n a m := by
  unfold meetA
  rw [meetN_comm b n a m, and_mask_eq]
  intro i hi
  refine (common_msb a b).1 i ?_
  have : (clamp (meetN a m b n) : Int) ≤ commonV a b := by
    have hb := common_bd a b
    have h2 : meetN a m b n ≤ commonV a b := by rw [meetN_min]; omega
    unfold clamp
    split
    · omega
    · split <;> omega
  omega
theorem meet_valid {a : BitVec 32} {m : Int} {b : BitVec 32} {n : Int} (h1 : Valid a m) (h2 : Valid b n) : Valid (meetA a m b n) (meetN a m b n) := by
  have hc := common_bd a b
  obtain ⟨x0, x1, _⟩ := h1
  obtain ⟨y0, y1, _⟩ := h2
  refine ⟨by rw [meetN_min]; omega, by rw [meetN_min]; omega, ?_⟩
  unfold meetA
  rw [BitVec.and_assoc, BitVec.and_self]
/-- Where neither of two prefixes holds the other one they differ at the bit behind what both have. -/
theorem meet_bits {pa : BitVec 32} {n : Int} {qa : BitVec 32} {qn : Int} (h1 : Valid pa n) (h2 : Valid qa qn) (hp : ¬ (meetA pa n qa qn = pa ∧ meetN pa n qa qn = n))
    (hq : ¬ (meetA qa qn pa n = qa ∧ meetN qa qn pa n = qn)) : bitV pa (meetN pa n qa qn) ≠ bitV qa (meetN pa n qa qn) := by
  have hc := common_bd pa qa
  obtain ⟨x0, x1, x2⟩ := h1
  obtain ⟨y0, y1, y2⟩ := h2
  have e1 : meetN pa n qa qn ≠ n := fun e => hp ⟨by unfold meetA; rw [e, x2], e⟩
  have e2 : meetN qa qn pa n ≠ qn := fun e => hq ⟨by unfold meetA; rw [e, y2], e⟩
  rw [meetN_comm qa qn pa n] at e2
  rw [meetN_min] at e1 e2 ⊢
  have e3 : min (min n qn) (commonV pa qa) = commonV pa qa := by omega
  rw [e3]
  exact common_bits pa qa (by omega)
end Go.Proofs.Ytilaljdokpdcoaa
