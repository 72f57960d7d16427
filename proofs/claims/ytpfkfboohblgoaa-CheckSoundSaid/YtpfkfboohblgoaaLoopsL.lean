/- Plain laws of going round: a vector of next nodes, its loops, and its ends. Conditions: none. -/
import Derived.Test.YtpfkfboohblgoaaFallL
import Derived.Test.YtpfkfboohblgoaaGFitC
namespace Go.Proofs.Ytpfkfboohblgoaa

/-- There is a least number of those that there are. -/
theorem least_nat {P : Nat → Prop} (h : ∃ n, P n) : ∃ n, P n ∧ ∀ m, m < n → ¬ P m := by
  obtain ⟨n, hn⟩ := h
  induction n using Nat.strongRecOn with
  | ind n ih =>
    by_cases g : ∃ m, m < n ∧ P m
    · obtain ⟨m, hm, hp⟩ := g
      exact ih m hm hp
    · exact ⟨n, hn, fun m hm hp => g ⟨m, hm, hp⟩⟩
/-- The node behind one; -1 behind an end. -/
def nxv (v : List Int) (x : Int) : Int := if x < 0 then -1 else v.getD x.toNat (-1)
/-- A vector that may be. -/
def VOk (v : List Int) : Prop := ∀ x ∈ v, -1 ≤ x ∧ x < v.length
def isN (v : List Int) (x : Int) : Prop := 0 ≤ x ∧ x < v.length
def itv (v : List Int) : Nat → Int → Int
  | 0, x => x
  | k + 1, x => itv v k (nxv v x)
theorem nxv_neg (v : List Int) {x : Int} (h : x < 0) : nxv v x = -1 := by unfold nxv; rw [if_pos h]
theorem nxv_at {v : List Int} {k : Nat} (h : k < v.length) : nxv v k = v[k] := by
  unfold nxv
  rw [if_neg (by omega), Int.toNat_natCast, List.getD_eq_getElem?_getD, List.getElem?_eq_getElem h]; rfl
theorem nxv_ok {v : List Int} (h : VOk v) (x : Int) : nxv v x = -1 ∨ isN v (nxv v x) := by
  by_cases hx : x < 0
  · exact .inl (nxv_neg v hx)
  · unfold nxv
    rw [if_neg hx]
    by_cases hl : x.toNat < v.length
    · rw [List.getD_eq_getElem?_getD, List.getElem?_eq_getElem hl, Option.getD_some]
      have := h _ (List.getElem_mem hl)
      by_cases e : v[x.toNat] = -1
      · exact .inl e
      · exact .inr ⟨by omega, this.2⟩
    · rw [List.getD_eq_getElem?_getD, List.getElem?_eq_none (by omega)]; exact .inl rfl
theorem itv_out (v : List Int) : ∀ (k : Nat) (x : Int), itv v (k + 1) x = nxv v (itv v k x)
  | 0, _ => rfl
  | k + 1, x => by rw [show itv v (k + 1 + 1) x = itv v (k + 1) (nxv v x) from rfl, itv_out v k]; rfl
theorem itv_add (v : List Int) (a : Nat) : ∀ (b : Nat) (x : Int), itv v (a + b) x = itv v a (itv v b x)
  | 0, _ => rfl
  | b + 1, x => by rw [show a + (b + 1) = (a + b) + 1 from rfl]; exact itv_add v a b (nxv v x)
theorem itv_neg (v : List Int) : ∀ (k : Nat), itv v k (-1) = -1
  | 0 => rfl
  | k + 1 => by rw [show itv v (k + 1) (-1) = itv v k (nxv v (-1)) from rfl, nxv_neg v (by decide), itv_neg v k]
theorem itv_ok {v : List Int} (h : VOk v) {x : Int} (hx : isN v x) : ∀ k, itv v k x = -1 ∨ isN v (itv v k x)
  | 0 => .inr hx
  | k + 1 => by rw [itv_out]; exact nxv_ok h _
theorem itv_stay {v : List Int} {x : Int} {k : Nat} (h : itv v k x = -1) {j : Nat} (hj : k ≤ j) : itv v j x = -1 := by
  rw [show j = (j - k) + k by omega, itv_add, h, itv_neg]
/-- A node that goes round; one that ends. -/
def OnL (v : List Int) (x : Int) : Prop := 0 ≤ x ∧ ∃ k, 0 < k ∧ itv v k x = x
def Ends (v : List Int) (x : Int) : Prop := ∃ k, itv v k x = -1
theorem itv_mul {v : List Int} {x : Int} {k : Nat} (h : itv v k x = x) : ∀ m, itv v (m * k) x = x
  | 0 => by rw [Nat.zero_mul]; rfl
  | m + 1 => by rw [Nat.succ_mul, itv_add, h, itv_mul h m]
theorem OnL.not_ends {v : List Int} {x : Int} (h : OnL v x) : ¬ Ends v x := by
  rintro ⟨j, hj⟩
  obtain ⟨h0, k, hk, he⟩ := h
  have h1 := itv_mul he j
  have h2 : itv v (j * k) x = -1 := itv_stay hj (Nat.le_mul_of_pos_right j hk)
  omega
theorem OnL.is {v : List Int} (h : VOk v) {x : Int} (hx : OnL v x) : isN v x := by
  obtain ⟨h0, k, hk, he⟩ := hx
  obtain ⟨j, rfl⟩ : ∃ j, k = j + 1 := ⟨k - 1, by omega⟩
  rw [itv_out] at he
  rcases nxv_ok h (itv v j x) with g | g
  · rw [g] at he; omega
  · rw [he] at g; exact g
theorem OnL.next {v : List Int} (h : VOk v) {x : Int} (hx : OnL v x) : OnL v (nxv v x) := by
  have hn := hx.not_ends
  obtain ⟨h0, k, hk, he⟩ := hx
  refine ⟨?_, k, hk, ?_⟩
  · rcases nxv_ok h x with g | g
    · exact absurd ⟨1, g⟩ hn
    · exact g.1
  · rw [show itv v k (nxv v x) = itv v (k + 1) x from rfl, itv_out, he]
theorem OnL.it {v : List Int} (h : VOk v) {x : Int} (hx : OnL v x) : ∀ k, OnL v (itv v k x)
  | 0 => hx
  | k + 1 => by rw [itv_out]; exact (hx.it h k).next h
/-- How many steps lead round. -/
structure IsPer (v : List Int) (x : Int) (p : Nat) : Prop where
  pos : 0 < p
  back : itv v p x = x
  first : ∀ j, 0 < j → j < p → itv v j x ≠ x
theorem OnL.per {v : List Int} {x : Int} (h : OnL v x) : ∃ p, IsPer v x p := by
  obtain ⟨p, ⟨h1, h2⟩, h3⟩ := least_nat (P := fun k => 0 < k ∧ itv v k x = x) h.2
  exact ⟨p, h1, h2, fun j hj hjp he => h3 j hjp ⟨hj, he⟩⟩
theorem IsPer.on {v : List Int} {x : Int} {p : Nat} (h : IsPer v x p) (hx : 0 ≤ x) : OnL v x := ⟨hx, p, h.pos, h.back⟩
theorem IsPer.one {v : List Int} {x : Int} {p q : Nat} (h : IsPer v x p) (k : IsPer v x q) : p = q := by
  rcases Nat.lt_trichotomy p q with g | g | g
  · exact absurd h.back (k.first p h.pos g)
  · exact g
  · exact absurd k.back (h.first q k.pos g)
/-- The nodes behind one, so many. -/
def wayV (v : List Int) (x : Int) (k : Nat) : List Int := (List.range k).map fun j => itv v j x
theorem wayV_len (v : List Int) (x : Int) (k : Nat) : (wayV v x k).length = k := by unfold wayV; simp
theorem wayV_step (v : List Int) (x : Int) (k : Nat) : wayV v x (k + 1) = wayV v x k ++ [itv v k x] := by unfold wayV; rw [List.range_succ, List.map_append]; rfl
theorem wayV_mem {v : List Int} {x y : Int} {k : Nat} : y ∈ wayV v x k ↔ ∃ j, j < k ∧ itv v j x = y := by
  unfold wayV; rw [List.mem_map]; simp
theorem wayV_get? {v : List Int} {x : Int} {k j : Nat} (h : j < k) : (wayV v x k)[j]? = some (itv v j x) := by unfold wayV; simp [h]
theorem wayV_get {v : List Int} {x : Int} {k j : Nat} (h : j < (wayV v x k).length) : (wayV v x k)[j] = itv v j x :=
  Option.some.inj ((List.getElem?_eq_getElem h).symm.trans (wayV_get? (by rwa [wayV_len] at h)))
theorem IsPer.nodup {v : List Int} {x : Int} {p : Nat} (h : IsPer v x p) : (wayV v x p).Nodup := by
  rw [List.nodup_iff_pairwise_ne, List.pairwise_iff_getElem]
  intro i j hi hj hij e
  rw [wayV_get, wayV_get] at e
  rw [wayV_len] at hi hj
  have h1 : itv v ((p - j) + i) x = x := by rw [itv_add, e, ← itv_add, show p - j + j = p by omega, h.back]
  exact h.first _ (by omega) (by omega) h1
theorem IsPer.le {v : List Int} (hv : VOk v) {x : Int} {p : Nat} (h : IsPer v x p) (hx : 0 ≤ x) : p ≤ v.length := by
  have h1 := nodup_few v.length _ h.nodup fun y hy => by
    obtain ⟨j, _, rfl⟩ := wayV_mem.1 hy
    exact ((h.on hx).it hv j).is hv
  rwa [wayV_len] at h1
/-- A walk comes to an end, or to a node where it was. -/
theorem ends_or {v : List Int} (hv : VOk v) {x : Int} (hx : isN v x) : (∃ k, k ≤ v.length ∧ itv v k x = -1) ∨ ∃ i j, i < j ∧ j ≤ v.length ∧ itv v i x = itv v j x ∧ isN v (itv v i x) := by
  by_cases h : ∃ k, k ≤ v.length ∧ itv v k x = -1
  · exact .inl h
  · right
    have hall : ∀ k, k ≤ v.length → isN v (itv v k x) := fun k hk => (itv_ok hv hx k).resolve_left fun e => h ⟨k, hk, e⟩
    have hnd : ¬ (wayV v x (v.length + 1)).Nodup := fun hn => by
      have := nodup_few v.length _ hn fun y hy => by
        obtain ⟨j, hj, rfl⟩ := wayV_mem.1 hy
        exact hall j (by omega)
      rw [wayV_len] at this
      omega
    rw [List.nodup_iff_pairwise_ne, List.pairwise_iff_getElem] at hnd
    refine Classical.byContradiction fun hc => hnd fun i j hi hj hij e => hc ?_
    rw [wayV_len] at hi hj
    rw [wayV_get, wayV_get] at e
    exact ⟨i, j, hij, by omega, e, hall i (by omega)⟩
theorem on_of_eq {v : List Int} {x : Int} {i j : Nat} (hij : i < j) (he : itv v i x = itv v j x) (h0 : 0 ≤ itv v i x) : OnL v (itv v i x) :=
  ⟨h0, j - i, by omega, by rw [← itv_add, show j - i + i = j by omega, ← he]⟩
theorem ends_short {v : List Int} (hv : VOk v) {x : Int} (hx : isN v x) (h : Ends v x) : ∃ k, k ≤ v.length ∧ itv v k x = -1 := by
  rcases ends_or hv hx with g | ⟨i, j, hij, _, he, hi⟩
  · exact g
  · exfalso
    have ho := on_of_eq hij he hi.1
    obtain ⟨k, hk⟩ := h
    exact ho.not_ends ⟨k, by rw [← itv_add, Nat.add_comm, itv_add, hk, itv_neg]⟩
/-- All nodes end, just if none goes round. -/
theorem ends_all {v : List Int} (hv : VOk v) (h : ∀ x, ¬ OnL v x) {x : Int} (hx : isN v x) : Ends v x := by
  rcases ends_or hv hx with ⟨k, _, hk⟩ | ⟨i, j, hij, _, he, hi⟩
  · exact ⟨k, hk⟩
  · exact absurd (on_of_eq hij he hi.1) (h _)
/-- The least node that goes round. -/
def LeastL (v : List Int) (b : Int) : Prop := OnL v b ∧ ∀ x, OnL v x → b ≤ x
/-- What is told of a vector's loops. -/
def LoopIs (v : List Int) (l : List Int) : Prop := (l = [] ∧ ∀ x, ¬ OnL v x) ∨ ∃ b p, LeastL v b ∧ IsPer v b p ∧ l = wayV v b p
theorem LoopIs.one {v l l' : List Int} (h : LoopIs v l) (k : LoopIs v l') : l = l' := by
  rcases h with ⟨h1, h2⟩ | ⟨b, p, h1, h2, h3⟩
  · rcases k with ⟨k1, _⟩ | ⟨b', p', k1, _, _⟩
    · rw [h1, k1]
    · exact absurd k1.1 (h2 _)
  · rcases k with ⟨_, k2⟩ | ⟨b', p', k1, k2, k3⟩
    · exact absurd h1.1 (k2 _)
    · obtain rfl : b = b' := Int.le_antisymm (h1.2 _ k1.1) (k1.2 _ h1.1)
      obtain rfl := h2.one k2
      rw [h3, k3]
theorem LoopIs.nil {v : List Int} : LoopIs v [] ↔ ∀ x, ¬ OnL v x := by
  constructor
  · rintro (⟨_, h⟩ | ⟨b, p, _, h2, h3⟩)
    · exact h
    · have := congrArg List.length h3
      rw [wayV_len] at this
      have := h2.pos
      simp at *
      omega
  · exact fun h => .inl ⟨rfl, h⟩
theorem LoopIs.cons {v l : List Int} (h : LoopIs v l) (hl : l ≠ []) : ∃ b p, LeastL v b ∧ IsPer v b p ∧ l = wayV v b p := by
  rcases h with ⟨h1, _⟩ | h
  · exact absurd h1 hl
  · exact h
/-- Where ranks fall along each step none goes round. -/
theorem falls_no {v : List Int} (hv : VOk v) {rk : Int → Int} (h : ∀ x, isN v x → nxv v x ≠ -1 → rk (nxv v x) < rk x) : ∀ x, ¬ OnL v x := by
  intro x hx
  have key : ∀ k, rk (itv v (k + 1) x) < rk x := by
    intro k
    induction k with
    | zero =>
      have h1 := hx.next hv
      exact h x (hx.is hv) (fun e => by have := h1.1; omega)
    | succ k ih =>
      rw [itv_out]
      have h1 := hx.it hv (k + 1)
      have h2 := h1.next hv
      have h3 := h _ (h1.is hv) (fun e => by have := h2.1; omega)
      omega
  obtain ⟨h0, k, hk, he⟩ := hx
  have := key (k - 1)
  rw [show k - 1 + 1 = k by omega, he] at this
  omega
end Go.Proofs.Ytpfkfboohblgoaa
