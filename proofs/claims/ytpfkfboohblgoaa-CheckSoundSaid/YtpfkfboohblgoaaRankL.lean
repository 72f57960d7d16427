/- Plain laws of ranks: how far each node is from its end. Conditions: none. -/
import Derived.Test.YtpfkfboohblgoaaLoopsL
namespace Go.Proofs.Ytpfkfboohblgoaa

/-- So many steps lead to an end. -/
def RankIs (v : List Int) (x : Int) (m : Nat) : Prop := isN v (itv v m x) ∧ itv v (m + 1) x = -1
theorem RankIs.one {v : List Int} {x : Int} {m n : Nat} (h : RankIs v x m) (k : RankIs v x n) : m = n := by
  rcases Nat.lt_trichotomy m n with g | g | g
  · have := itv_stay h.2 (show m + 1 ≤ n by omega)
    have := k.1.1
    omega
  · exact g
  · have := itv_stay k.2 (show n + 1 ≤ m by omega)
    have := h.1.1
    omega
theorem RankIs.ends {v : List Int} {x : Int} {m : Nat} (h : RankIs v x m) : Ends v x := ⟨_, h.2⟩
theorem ends_rank {v : List Int} (hv : VOk v) {x : Int} (hx : isN v x) (h : Ends v x) : ∃ m, m < v.length ∧ RankIs v x m := by
  obtain ⟨k, h1, h2⟩ := least_nat (P := fun k => itv v k x = -1) h
  obtain ⟨k', hk', hk2⟩ := ends_short hv hx h
  have hle : k ≤ k' := by
    rcases Nat.lt_or_ge k' k with g | g
    · exact absurd hk2 (h2 k' g)
    · exact g
  cases k with
  | zero => have := hx.1; have e : x = -1 := h1; omega
  | succ m =>
    refine ⟨m, by omega, ?_, h1⟩
    exact (itv_ok hv hx m).resolve_left (h2 m (by omega))
theorem RankIs.lt {v : List Int} (hv : VOk v) {x : Int} (hx : isN v x) {m : Nat} (h : RankIs v x m) : m < v.length := by
  obtain ⟨n, h1, h2⟩ := ends_rank hv hx h.ends
  rw [h.one h2]; exact h1
theorem RankIs.step {v : List Int} {x : Int} {m : Nat} (h : RankIs v x m) (hs : nxv v x ≠ -1) : ∃ n, m = n + 1 ∧ RankIs v (nxv v x) n := by
  cases m with
  | zero => exact absurd h.2 hs
  | succ n => exact ⟨n, rfl, h⟩
theorem RankIs.back {v : List Int} {x : Int} {n : Nat} (h : RankIs v (nxv v x) n) : RankIs v x (n + 1) := h
theorem rank_end {v : List Int} {x : Int} (hx : isN v x) (hs : nxv v x = -1) : RankIs v x 0 := ⟨hx, hs⟩
/-- The ranks of all nodes. -/
def RanksIs (v : List Int) (rs : List Int) : Prop := rs.length = v.length ∧ ∀ k, k < v.length → ∃ m : Nat, rs[k]? = some (m : Int) ∧ RankIs v k m
theorem RanksIs.one {v a b : List Int} (h : RanksIs v a) (k : RanksIs v b) : a = b := by
  refine List.ext_getElem? fun i => ?_
  by_cases hi : i < v.length
  · obtain ⟨m, h1, h2⟩ := h.2 i hi
    obtain ⟨n, k1, k2⟩ := k.2 i hi
    rw [h1, k1, h2.one k2]
  · rw [List.getElem?_eq_none (by rw [h.1]; omega), List.getElem?_eq_none (by rw [k.1]; omega)]
theorem RanksIs.at {v rs : List Int} (h : RanksIs v rs) {x : Int} (hx : isN v x) : ∃ m : Nat, rs.getD x.toNat 0 = m ∧ RankIs v x m := by
  obtain ⟨m, h1, h2⟩ := h.2 x.toNat (by have := hx.1; have := hx.2; omega)
  rw [Int.toNat_of_nonneg hx.1] at h2
  exact ⟨m, by rw [List.getD_eq_getElem?_getD, h1]; rfl, h2⟩
theorem RanksIs.bd {v rs : List Int} (hv : VOk v) (h : RanksIs v rs) : ∀ x ∈ rs, 0 ≤ x ∧ x < v.length := fun x hx => by
  obtain ⟨i, hi, rfl⟩ := List.getElem_of_mem hx
  have hi' : i < v.length := by rw [← h.1]; exact hi
  obtain ⟨m, h1, h2⟩ := h.2 i hi'
  rw [List.getElem?_eq_getElem hi] at h1
  have := h2.lt hv ⟨by omega, by omega⟩
  rw [Option.some.inj h1]
  omega
theorem RanksIs.falls {v rs : List Int} (h : RanksIs v rs) (hv : VOk v) {x : Int} (hx : isN v x) (hs : nxv v x ≠ -1) : rs.getD x.toNat 0 = rs.getD (nxv v x).toNat 0 + 1 := by
  obtain ⟨m, h1, h2⟩ := h.at hx
  obtain ⟨n, h3, h4⟩ := h.at ((nxv_ok hv x).resolve_left hs)
  obtain ⟨q, rfl, h5⟩ := h2.step hs
  rw [h1, h3, h4.one h5]
  simp
theorem RanksIs.no {v rs : List Int} (h : RanksIs v rs) (hv : VOk v) : ∀ x, ¬ OnL v x := fun x hx => by
  obtain ⟨m, _, h2⟩ := h.at (hx.is hv)
  exact hx.not_ends h2.ends
theorem on_of_no_end {v : List Int} (hv : VOk v) {x : Int} (hx : isN v x) {k : Nat} (hk : v.length ≤ k) (h : itv v k x ≠ -1) : ∃ y, OnL v y :=
  Classical.byContradiction fun hc => by
    have he := ends_all hv (fun y hy => hc ⟨y, hy⟩) hx
    obtain ⟨j, h1, h2⟩ := ends_short hv hx he
    exact h (itv_stay h2 (Nat.le_trans h1 hk))
end Go.Proofs.Ytpfkfboohblgoaa
