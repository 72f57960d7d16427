/- Plain laws for the law AtomsOne: networks whose nodes do all the same, whatever the address. Conditions: none. -/
import Derived.Test.YtamlalablblfeaaMadeT
import Derived.Test.YtamlalablblfeaaAtomsL
namespace Go.Proofs.Ytamlalablblfeaa
open Go Go.RowKit Go.Maps Go.Proofs

def allR (t : Nat) : Rul := ⟨0#32, 0, 1, t⟩
def atR (at_ : BitVec 32) (t : Nat) : Rul := ⟨at_, 8, 1, t⟩
def dropR (at_ : BitVec 32) : Rul := ⟨at_, 8, 3, 0⟩
theorem may8 (a : BitVec 32) : mayV (a &&& ~~~16777215#32) 8 = 0 := by
  unfold mayV
  rw [if_neg (by omega), if_pos]
  have h : ~~~maskV 8 = 16777215#32 := by decide +kernel
  rw [h, BitVec.and_assoc]
  have h2 : (~~~16777215#32 &&& 16777215#32 : BitVec 32) = 0#32 := by decide +kernel
  rw [h2]; simp
theorem may0 : mayV 0#32 0 = 0 := by decide +kernel
/-- What the law asks of each of its four networks. -/
structure OneNet (M : Nat) (L : List Rul) (c : Int) : Prop where
  may : netMayV (List.replicate M L) = 0
  ok : TablesOk (List.replicate M L)
  size : sizeN (List.replicate M L) ≤ 10000
  vec : ∀ a, vecV (List.replicate M L) a = List.replicate M c
theorem oneNet {M : Nat} {L : List Rul} {c : Int} (hM : M ≤ 64) (hl : L.length ≤ 20) (h1 : ∀ r ∈ L, ruleMayV r M = 0) (h2 : Sorted L) (h3 : RulesOk L) (h4 : ∀ a, (stepO L a).getD (-1) = c) : OneNet M L c :=
  ⟨rep_may hM hl (tabG_zero M L none h1 h2 (fun q h => by cases h)), rep_ok h3, rep_size hM hl, fun a => rep_vec (h4 a)⟩
theorem find_only {L : List Rul} {a : BitVec 32} {r : Rul} (h : findL L a = some r) : r ∈ L := by
  unfold findL at h
  suffices g : ∀ (l : List Rul) (o : Option Rul), l.foldl (findStep a) o = some r → o = some r ∨ r ∈ l by
    rcases g L none h with g | g
    · cases g
    · exact g
  intro l
  induction l with
  | nil => intro o h; exact .inl h
  | cons x l ih =>
    intro o h
    rcases ih _ h with g | g
    · unfold findStep at g
      split at g
      · cases g; exact .inr (by simp)
      · exact .inl g
    · exact .inr (List.mem_cons_of_mem _ g)
theorem one_none {M : Nat} (hM : M ≤ 64) : OneNet M [] (-1) :=
  oneNet hM (by simp) (fun r h => by cases h) List.Pairwise.nil (fun r h => by cases h) (fun _ => rfl)
theorem i64_small {n : Nat} (h : n ≤ 64) : In64 (n : Int) := by unfold In64; omega
theorem all_may {M t : Nat} (ht : t < M) : ruleMayV (allR t) M = 0 := by
  unfold ruleMayV allR
  simp only [may0]
  rw [if_neg (by omega), if_pos trivial, if_neg (by omega)]
theorem one_all {M t : Nat} (hM : M ≤ 64) (ht : t < M) : OneNet M [allR t] t := by
  refine oneNet hM (by simp) (fun r h => ?_) (by simp [Sorted]) (fun r h => ?_) (fun a => ?_)
  · simp only [List.mem_singleton] at h; subst h; exact all_may ht
  · simp only [List.mem_singleton] at h; subst h
    exact ⟨by unfold In64 allR; simp, by unfold In64 allR; simp, i64_small (by show t ≤ 64; omega)⟩
  · have h1 : findL [allR t] a = some (allR t) := by
      unfold findL findStep better allR
      have h : holdsV 0#32 0 a = true := by unfold holdsV; rw [show maskV 0 = 0#32 from by decide +kernel]; simp
      simp [h]
    unfold stepO
    rw [h1]; rfl
theorem one_more {M t : Nat} (hM : M ≤ 64) (ht : t < M) (a : BitVec 32) : OneNet M [allR t, atR (a &&& ~~~16777215#32) t] t := by
  refine oneNet hM (by simp) (fun r h => ?_) ?_ (fun r h => ?_) (fun b => ?_)
  · simp only [List.mem_cons, List.not_mem_nil, or_false] at h
    rcases h with rfl | rfl
    · exact all_may ht
    · unfold ruleMayV atR
      simp only [may8]
      rw [if_neg (by omega), if_pos trivial, if_neg (by omega)]
  · unfold Sorted
    simp only [List.pairwise_cons, List.mem_singleton, forall_eq, List.not_mem_nil, false_implies, implies_true, List.Pairwise.nil, and_true]
    rw [ltP_iff]
    by_cases h : a &&& ~~~16777215#32 = 0#32
    · exact .inr ⟨by unfold allR atR; exact h.symm, by unfold allR atR; simp⟩
    · left
      show uv 0#32 < uv (a &&& ~~~16777215#32)
      have h1 := uv_nonneg (a &&& ~~~16777215#32)
      have h2 : uv (a &&& ~~~16777215#32) ≠ uv 0#32 := fun e => h (uv_inj e)
      have := uv_zero
      omega
  · simp only [List.mem_cons, List.not_mem_nil, or_false] at h
    rcases h with rfl | rfl
    · exact ⟨by unfold In64 allR; simp, by unfold In64 allR; simp, i64_small (by show t ≤ 64; omega)⟩
    · exact ⟨by unfold In64 atR; simp, by unfold In64 atR; simp, i64_small (by show t ≤ 64; omega)⟩
  · have h1 : ∃ r, findL [allR t, atR (a &&& ~~~16777215#32) t] b = some r := by
      have h : holdsV 0#32 0 b = true := by unfold holdsV; rw [show maskV 0 = 0#32 from by decide +kernel]; simp
      unfold findL
      simp only [List.foldl_cons, List.foldl_nil]
      have e : findStep b none (allR t) = some (allR t) := by unfold findStep better allR; simp [h]
      rw [e]
      unfold findStep
      split
      · exact ⟨_, rfl⟩
      · exact ⟨_, rfl⟩
    obtain ⟨r, hr⟩ := h1
    unfold stepO
    rw [hr]
    have hm := find_only hr
    simp only [List.mem_cons, List.not_mem_nil, or_false] at hm
    rcases hm with rfl | rfl <;> rfl
theorem one_drop {M : Nat} (hM : M ≤ 64) (a : BitVec 32) : OneNet M [dropR (a &&& ~~~16777215#32)] (-1) := by
  refine oneNet hM (by simp) (fun r h => ?_) (by simp [Sorted]) (fun r h => ?_) (fun b => ?_)
  · simp only [List.mem_singleton] at h; subst h
    unfold ruleMayV dropR
    simp only [may8]
    rw [if_neg (by omega), if_neg (by omega), if_pos (.inr trivial), if_pos trivial]
  · simp only [List.mem_singleton] at h; subst h
    exact ⟨by unfold In64 dropR; simp, by unfold In64 dropR; simp, by unfold In64 dropR; simp⟩
  · unfold stepO
    cases h : findL [dropR (a &&& ~~~16777215#32)] b with
    | none => rfl
    | some r =>
      have hm := find_only h
      simp only [List.mem_singleton] at hm
      subst hm; rfl
theorem OneNet.ats {M : Nat} {L : List Rul} {c : Int} (h : OneNet M L c) {l : List (BitVec 32)} (hC : Cuts (List.replicate M L).flatten l) : atomsL (vecV (List.replicate M L)) l = ⟨[0#32], [0], [List.replicate M c]⟩ :=
  atoms_one hC.zero (fun a _ => h.vec a)
end Go.Proofs.Ytamlalablblfeaa
