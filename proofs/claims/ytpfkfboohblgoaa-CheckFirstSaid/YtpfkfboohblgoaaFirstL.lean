/- Plain laws for the law CheckFirst: which one of several things that are wrong is told. Conditions: none. -/
import Derived.Test.YtpfkfboohblgoaaEndsCL
namespace Go.Proofs.Ytpfkfboohblgoaa
open Go.RowKit

/-- M nodes, of which the first one sends all to node t. -/
def firN (M t : Nat) : List (List Rul) := oneN M 0 t
/-- The one part, of which the first rank is given. -/
def firR (M : Nat) (r : Int) : List Int := (List.replicate M 0).set 0 r
theorem firR_len (M : Nat) (r : Int) : (firR M r).length = M := by unfold firR; rw [List.length_set, List.length_replicate]
theorem firR_mem {M : Nat} {r : Int} : ∀ x ∈ firR M r, x = 0 ∨ x = r := fun x hx => by
  rcases List.mem_or_eq_of_mem_set hx with h | h
  · exact .inl (List.eq_of_mem_replicate h)
  · exact .inr h
theorem firR_at {M : Nat} {r : Int} (hM : 0 < M) (k : Nat) : (firR M r).getD k 0 = if k = 0 then r else 0 := by
  unfold firR
  rw [List.getD_eq_getElem?_getD, List.getElem?_set]
  by_cases h : k = 0
  · subst h
    rw [if_pos rfl, if_pos (by rw [List.length_replicate]; exact hM), if_pos rfl]; rfl
  · rw [if_neg (by omega), if_neg h, List.getElem?_replicate]
    split <;> rfl
/-- What is to be told. -/
def firW (M : Nat) (b1 b2 b4 : Bool) : Int × Int := if b4 then (0, 10) else if b2 then (0, 3) else if b1 then (0, 16) else if M = 1 then (0, 16) else (1, 0)
theorem fir_bad {M : Nat} (hM : 0 < M) (h64 : M ≤ 64) (c : Crt) (l : List (BitVec 32)) : ansV l (firN M M) c = (0, 10) := by
  have hn : netMayV (firN M M) = 10 := by
    unfold netMayV firN
    rw [if_neg (by have := oneN_size (M := M) (i := 0) (j := M) h64; rw [oneN_len]; omega)]
    obtain ⟨k, rfl⟩ : ∃ k, M = k + 1 := ⟨M - 1, by omega⟩
    show netG _ ([allR (k + 1)] :: List.replicate k []) = 10
    unfold netG
    have ht : tabMayV ((oneN (k + 1) 0 (k + 1)).length : Nat) [allR (k + 1)] = 10 := by
      rw [oneN_len]
      have hr : ruleMayV (allR (k + 1)) ((k + 1 : Nat) : Int) = 10 := by
        unfold ruleMayV allR
        simp only [may0]
        rw [if_neg (by omega), if_pos trivial, if_pos (by omega)]
      unfold tabMayV tabG
      rw [if_pos (by rw [hr]; decide), hr]
    rw [ht]; rfl
  unfold ansV
  rw [if_pos (by rw [hn]; decide), hn]
theorem meet_whole (p : Prt) (h0 : p.fr = 0#32) (h1 : p.up = 4294967295#32) : meetV [p] = 0 := by
  refine meetV_yes ?_
  unfold meetG
  rw [h0, h1]
  decide
theorem firR_ok {M : Nat} {r : Int} (hr : 0 ≤ r ∧ r < M) : rksV M [firR M r] = 0 :=
  rksV_zero _ _ fun q hq => by
    simp only [List.mem_singleton] at hq; subst hq
    refine ⟨by rw [firR_len], fun x hx => ?_⟩
    rcases firR_mem x hx with rfl | rfl <;> omega
theorem fir_form {M : Nat} (hM : 0 < M) (h64 : M ≤ 64) {c : Crt} (hv : c.vd = 1) (hd : c.dest ≠ 0#32) (l : List (BitVec 32)) : ansV l (firN M (M - 1)) c = (0, 3) := by
  have hc : certMayV ((firN M (M - 1)).length : Nat) c = 3 := by
    unfold certMayV freeV
    rw [if_pos hv, if_pos (.inl hd)]
  unfold ansV
  rw [if_neg (by unfold firN; rw [oneN_may h64 (by omega)]; simp), if_pos (by rw [hc]; decide), hc]
theorem fir_ranks {M : Nat} (hM : 0 < M) (h64 : M ≤ 64) {p : Prt} (h0 : p.fr = 0#32) (h1 : p.up = 4294967295#32) {r : Int} (hr : 0 ≤ r ∧ r < M) (l : List (BitVec 32)) :
    ansV l (firN M (M - 1)) ⟨1, [p], [firR M r], 0#32, []⟩ = if (if M - 1 = 0 then r else 0) < r then (1, 0) else (0, 16) := by
  have hf : FreeOk M ⟨1, [p], [firR M r], 0#32, []⟩ := ⟨rfl, rfl, rfl, (show 1 ≤ 8193 by decide), meet_whole p h0 h1, firR_ok hr⟩
  unfold firN
  rw [oneN_free h64 hM (by omega) hf rfl]
  have e : fallsV [firR M r] 0 (M - 1) = decide ((if M - 1 = 0 then r else 0) < r) := by
    unfold fallsV
    simp only [List.all_cons, List.all_nil, Bool.and_true, firR_at hM]
    rfl
  show (if fallsV [firR M r] 0 (M - 1) = true then _ else _) = _
  rw [e]
  by_cases g : (if M - 1 = 0 then r else 0) < r
  · rw [if_pos g, decide_eq_true g]; rfl
  · rw [if_neg g, decide_eq_false g]; rfl
/-- The law: what is told of the network and the certificate that are made. -/
theorem fir_law {M : Nat} (hM : 0 < M) (h64 : M ≤ 64) {p : Prt} (h0 : p.fr = 0#32) (h1 : p.up = 4294967295#32) (b1 b2 b4 : Bool) {d : BitVec 32} (hd : d ≠ 0#32) (l : List (BitVec 32)) :
    ansV l (firN M (if b4 then M else M - 1)) ⟨1, [p], [firR M (if b1 then 0 else (M : Int) - 1)], if b2 then d else 0#32, []⟩ = firW M b1 b2 b4 := by
  unfold firW
  cases b4
  · simp only [Bool.false_eq_true, if_false]
    cases b2
    · simp only [Bool.false_eq_true, if_false]
      cases b1
      · simp only [Bool.false_eq_true, if_false]
        rw [fir_ranks hM h64 h0 h1 (by omega)]
        by_cases g : M = 1
        · rw [if_pos g, if_neg (by subst g; simp)]
        · rw [if_neg g, if_pos (by rw [if_neg (by omega)]; omega)]
      · simp only [if_true]
        rw [fir_ranks hM h64 h0 h1 (by omega), if_neg (by split <;> omega)]
    · simp only [if_true]
      exact fir_form hM h64 rfl hd l
  · simp only [if_true]
    exact fir_bad hM h64 _ l
end Go.Proofs.Ytpfkfboohblgoaa
