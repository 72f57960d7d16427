/- Plain laws of marks: which nodes a walk came by, and the least node that goes round. Conditions: none. -/
import Derived.Test.YtpfkfboohblgoaaLoopsL
namespace Go.Proofs.Ytpfkfboohblgoaa

theorem IsPer.mod {v : List Int} {y : Int} {p : Nat} (h : IsPer v y p) (m : Nat) : itv v m y = itv v (m % p) y := by
  conv => lhs; rw [← Nat.mod_add_div m p, itv_add, Nat.mul_comm, itv_mul h.back]
theorem IsPer.in_way {v : List Int} {y : Int} {p : Nat} (h : IsPer v y p) (m : Nat) : itv v m y ∈ wayV v y p :=
  wayV_mem.2 ⟨m % p, Nat.mod_lt _ h.pos, (h.mod m).symm⟩
theorem OnL.reach {v : List Int} {x : Int} (h : OnL v x) (d : Nat) : ∃ m, itv v m (itv v d x) = x := by
  obtain ⟨_, p, hp, he⟩ := h
  refine ⟨d * p - d, ?_⟩
  rw [← itv_add, Nat.sub_add_cancel (Nat.le_mul_of_pos_right d hp), itv_mul he]
/-- The mark of a node: 0 for none. -/
def mkv (s : List Int) (x : Int) : Int := s.getD x.toNat 0
structure Marks (v : List Int) (u : Nat) (s : List Int) (found : Bool) (best : Int) : Prop where
  len : s.length = v.length
  bd : ∀ x, 0 ≤ mkv s x ∧ mkv s x ≤ u
  shut : ∀ x, isN v x → mkv s x ≠ 0 → nxv v x = -1 ∨ mkv s (nxv v x) ≠ 0
  all : ∀ x : Nat, x < u → mkv s x ≠ 0
  no : found = false → ∀ x, OnL v x → mkv s x = 0
  yes : found = true → OnL v best ∧ ∀ x, OnL v x → mkv s x ≠ 0 → best ≤ x
theorem mkv_rep (n : Nat) (x : Int) : mkv (List.replicate n 0) x = 0 := by
  unfold mkv
  rw [List.getD_eq_getElem?_getD, List.getElem?_replicate]
  split <;> rfl
theorem Marks.start (v : List Int) (best : Int) : Marks v 0 (List.replicate v.length 0) false best :=
  ⟨List.length_replicate, (fun x => by rw [mkv_rep]; decide), (fun x _ h => absurd (mkv_rep _ _) h), (fun x h => absurd h (Nat.not_lt_zero x)), (fun _ x _ => mkv_rep _ _), (fun h => by cases h)⟩
theorem Marks.done {v s : List Int} {found : Bool} {best : Int} (hv : VOk v) (h : Marks v v.length s found best) : (found = false → ∀ x, ¬ OnL v x) ∧ (found = true → LeastL v best) := by
  have hall : ∀ x, OnL v x → mkv s x ≠ 0 := fun x hx => by
    have h1 := hx.is hv
    have h2 := h.all x.toNat (by have := h1.1; have := h1.2; omega)
    rwa [Int.toNat_of_nonneg h1.1] at h2
  exact ⟨fun hf x hx => hall x hx (h.no hf x hx), fun hf => ⟨(h.yes hf).1, fun x hx => (h.yes hf).2 x hx (hall x hx)⟩⟩
theorem Marks.skip {v s : List Int} {u : Nat} {found : Bool} {best : Int} (h : Marks v u s found best) (hu : mkv s u ≠ 0) : Marks v (u + 1) s found best :=
  ⟨h.len, (fun x => by have := h.bd x; omega), h.shut, (fun x hx => by
    rcases Nat.lt_or_ge x u with g | g
    · exact h.all x g
    · rw [show x = u by omega]; exact hu), h.no, h.yes⟩
/-- A walk from u on that marks all nodes on its way. -/
structure Wlk (v : List Int) (u : Nat) (s s' : List Int) (k : Nat) : Prop where
  len : s'.length = v.length
  way : ∀ j, j < k → isN v (itv v j u) ∧ mkv s (itv v j u) = 0
  inj : (wayV v u k).Nodup
  mark : ∀ x, isN v x → mkv s' x = if x ∈ wayV v u k then (u : Int) + 1 else mkv s x
theorem Wlk.start {v s : List Int} {u : Nat} (h : s.length = v.length) : Wlk v u s s 0 :=
  ⟨h, (fun j hj => absurd hj (Nat.not_lt_zero j)), (by unfold wayV; simp), (fun x _ => by unfold wayV; simp)⟩
theorem Wlk.few {v s s' : List Int} {u k : Nat} (h : Wlk v u s s' k) : k ≤ v.length := by
  have := nodup_few v.length _ h.inj fun y hy => by
    obtain ⟨j, hj, rfl⟩ := wayV_mem.1 hy
    exact (h.way j hj).1
  rwa [wayV_len] at this
theorem mkv_set {s : List Int} {y x m : Int} (hy : 0 ≤ y ∧ y < s.length) (hx : 0 ≤ x) : mkv (s.set y.toNat m) x = if x = y then m else mkv s x := by
  unfold mkv
  rw [List.getD_eq_getElem?_getD, List.getElem?_set]
  by_cases e : x = y
  · subst e
    rw [if_pos rfl, if_pos rfl, if_pos (by omega)]; rfl
  · rw [if_neg (by omega), if_neg e, List.getD_eq_getElem?_getD]
theorem Wlk.step {v s s' : List Int} {u k : Nat} (h : Wlk v u s s' k) (hy : isN v (itv v k u)) (h0 : mkv s' (itv v k u) = 0) : Wlk v u s (s'.set (itv v k u).toNat ((u : Int) + 1)) (k + 1) := by
  have hm := h.mark _ hy
  have hnot : itv v k u ∉ wayV v u k := fun e => by rw [if_pos e] at hm; omega
  rw [if_neg hnot] at hm
  refine ⟨by rw [List.length_set]; exact h.len, fun j hj => ?_, ?_, fun x hx => ?_⟩
  · rcases Nat.lt_or_ge j k with g | g
    · exact h.way j g
    · rw [show j = k by omega]; exact ⟨hy, by rw [← hm, h0]⟩
  · rw [wayV_step, List.nodup_append]
    refine ⟨h.inj, by simp, fun a ha b hb => ?_⟩
    rw [List.mem_singleton] at hb; subst hb
    exact fun e => hnot (e ▸ ha)
  · rw [mkv_set ⟨hy.1, by rw [h.len]; exact hy.2⟩ hx.1, h.mark x hx, wayV_step]
    by_cases e : x = itv v k u
    · rw [if_pos e, if_pos (by rw [List.mem_append]; exact .inr (by simp [e]))]
    · rw [if_neg e]
      by_cases g : x ∈ wayV v u k
      · rw [if_pos g, if_pos (List.mem_append.2 (.inl g))]
      · rw [if_neg g, if_neg (by rw [List.mem_append, List.mem_singleton]; exact fun q => q.elim g e)]
theorem Wlk.marked {v s s' : List Int} {u k : Nat} (h : Wlk v u s s' k) {x : Int} (hx : isN v x) : mkv s' x ≠ 0 ↔ x ∈ wayV v u k ∨ mkv s x ≠ 0 := by
  rw [h.mark x hx]
  by_cases g : x ∈ wayV v u k
  · rw [if_pos g]; exact ⟨fun _ => .inl g, fun _ => by omega⟩
  · rw [if_neg g]; exact ⟨fun e => .inr e, fun e => e.resolve_left g⟩
theorem Wlk.bd {v s s' : List Int} {u k : Nat} (h : Wlk v u s s' k) (hb : ∀ x, 0 ≤ mkv s x ∧ mkv s x ≤ u) : ∀ x, 0 ≤ mkv s' x ∧ mkv s' x ≤ ((u + 1 : Nat) : Int) := by
  intro x
  by_cases hx : x.toNat < v.length
  · have e : mkv s' x = mkv s' (x.toNat : Int) := by unfold mkv; rw [Int.toNat_natCast]
    rw [e, h.mark _ ⟨by omega, by omega⟩]
    have := hb (x.toNat : Int)
    split <;> omega
  · unfold mkv
    rw [List.getD_eq_getElem?_getD, List.getElem?_eq_none (by rw [h.len]; omega)]
    simp; omega
/-- Behind a walk: what holds at whatever end it came to. -/
theorem Wlk.shut {v s s' : List Int} (hv : VOk v) {u k : Nat} (h : Wlk v u s s' k) (hs : ∀ x, isN v x → mkv s x ≠ 0 → nxv v x = -1 ∨ mkv s (nxv v x) ≠ 0) (hend : itv v k u = -1 ∨ isN v (itv v k u) ∧ mkv s' (itv v k u) ≠ 0) :
    ∀ x, isN v x → mkv s' x ≠ 0 → nxv v x = -1 ∨ mkv s' (nxv v x) ≠ 0 := by
  intro x hx hm
  rcases nxv_ok hv x with g | g
  · exact .inl g
  · rcases (h.marked hx).1 hm with q | q
    · obtain ⟨j, hj, rfl⟩ := wayV_mem.1 q
      rw [← itv_out] at g ⊢
      rcases Nat.lt_or_ge (j + 1) k with r | r
      · exact .inr ((h.marked g).2 (.inl (wayV_mem.2 ⟨j + 1, r, rfl⟩)))
      · rw [show j + 1 = k by omega]
        exact hend.imp id fun e => e.2
    · rcases hs x hx q with r | r
      · exact .inl r
      · exact .inr ((h.marked g).2 (.inr r))
theorem Wlk.all {v s s' : List Int} {u k : Nat} (h : Wlk v u s s' k) (hk : 0 < k) (hu : u < v.length) (ha : ∀ x : Nat, x < u → mkv s x ≠ 0) : ∀ x : Nat, x < u + 1 → mkv s' x ≠ 0 := by
  intro x hx
  refine (h.marked ⟨by omega, by omega⟩).2 ?_
  rcases Nat.lt_or_ge x u with g | g
  · exact .inr (ha x g)
  · exact .inl (wayV_mem.2 ⟨0, hk, by rw [show x = u by omega]; rfl⟩)
theorem Marks.old {v s s' : List Int} (hv : VOk v) {u k : Nat} {found : Bool} {best : Int} (h : Marks v u s found best) (w : Wlk v u s s' k) (hk : 0 < k) (hu : u < v.length)
    (hend : itv v k u = -1 ∨ isN v (itv v k u) ∧ mkv s' (itv v k u) ≠ 0) (hn : ∀ x, OnL v x → x ∉ wayV v u k) : Marks v (u + 1) s' found best := by
  have hold : ∀ x, OnL v x → mkv s' x = mkv s x := fun x hx => by rw [w.mark x (hx.is hv), if_neg (hn x hx)]
  exact ⟨w.len, w.bd h.bd, w.shut hv h.shut hend, w.all hk hu h.all, (fun hf x hx => by rw [hold x hx]; exact h.no hf x hx),
    (fun hf => ⟨(h.yes hf).1, fun x hx hm => (h.yes hf).2 x hx (by rw [← hold x hx]; exact hm)⟩)⟩
/-- The walk came to an end. -/
theorem Marks.out {v s s' : List Int} (hv : VOk v) {u k : Nat} {found : Bool} {best : Int} (h : Marks v u s found best) (w : Wlk v u s s' k) (hk : 0 < k) (hu : u < v.length) (he : itv v k u = -1) : Marks v (u + 1) s' found best :=
  h.old hv w hk hu (.inl he) fun x hx hm => by
    obtain ⟨j, hj, rfl⟩ := wayV_mem.1 hm
    exact hx.not_ends ⟨k - j, by rw [← itv_add, Nat.sub_add_cancel (Nat.le_of_lt hj)]; exact he⟩
theorem shut_all {v s : List Int} (hv : VOk v) (hs : ∀ x, isN v x → mkv s x ≠ 0 → nxv v x = -1 ∨ mkv s (nxv v x) ≠ 0) {y : Int} (hy : isN v y) (hm : mkv s y ≠ 0) : ∀ m, itv v m y = -1 ∨ (isN v (itv v m y) ∧ mkv s (itv v m y) ≠ 0)
  | 0 => .inr ⟨hy, hm⟩
  | m + 1 => by
    rw [itv_out]
    rcases shut_all hv hs hy hm m with g | ⟨g1, g2⟩
    · rw [g, nxv_neg v (by decide)]; exact .inl rfl
    · rcases nxv_ok hv (itv v m y) with q | q
      · exact .inl q
      · rcases hs _ g1 g2 with r | r
        · exact .inl r
        · exact .inr ⟨q, r⟩
/-- The walk came to where an elder walk was. -/
theorem Marks.met {v s s' : List Int} (hv : VOk v) {u k : Nat} {found : Bool} {best : Int} (h : Marks v u s found best) (w : Wlk v u s s' k) (hk : 0 < k) (hu : u < v.length) (hy : isN v (itv v k u)) (h0 : mkv s' (itv v k u) ≠ 0) (h1 : mkv s' (itv v k u) ≠ (u : Int) + 1) :
    Marks v (u + 1) s' found best :=
  h.old hv w hk hu (.inr ⟨hy, h0⟩) fun x hx hm => by
    obtain ⟨j, hj, rfl⟩ := wayV_mem.1 hm
    have hmy := w.mark _ hy
    have hny : itv v k u ∉ wayV v u k := fun e => h1 (by rw [hmy, if_pos e])
    rw [if_neg hny] at hmy
    have hsy : mkv s (itv v k u) ≠ 0 := by rw [← hmy]; exact h0
    obtain ⟨m, he⟩ := hx.reach (k - j)
    rw [← itv_add v (k - j) j, Nat.sub_add_cancel (Nat.le_of_lt hj)] at he
    rcases shut_all hv h.shut hy hsy m with g | ⟨_, g⟩
    · rw [g] at he
      have := hx.1
      omega
    · rw [he] at g
      exact g (w.way j hj).2
/-- The walk came to its own way: a loop, of which 'low' is the least node. -/
theorem Marks.loop {v s s' : List Int} (hv : VOk v) {u k : Nat} {found : Bool} {best : Int} (h : Marks v u s found best) (w : Wlk v u s s' k) (hk : 0 < k) (hu : u < v.length) (hy : isN v (itv v k u)) (h1 : mkv s' (itv v k u) = (u : Int) + 1) :
    ∃ p, IsPer v (itv v k u) p ∧ ∀ low, low ∈ wayV v (itv v k u) p → (∀ z ∈ wayV v (itv v k u) p, low ≤ z) → ∀ b, (found = false ∧ b = low ∨ found = true ∧ b = min best low) → Marks v (u + 1) s' true b := by
  have hmy := w.mark _ hy
  have hin : itv v k u ∈ wayV v u k := Classical.byContradiction fun e => by
    rw [if_neg e] at hmy
    have := (h.bd (itv v k u)).2
    omega
  obtain ⟨i, hi, hie⟩ := wayV_mem.1 hin
  have hon : OnL v (itv v k u) := by
    have := on_of_eq hi hie (by rw [hie]; exact hy.1)
    rwa [hie] at this
  obtain ⟨p, hp⟩ := hon.per
  refine ⟨p, hp, fun low hl hle b hb => ?_⟩
  obtain ⟨q, hq, rfl⟩ := wayV_mem.1 hl
  have hlo : OnL v (itv v q (itv v k u)) := hon.it hv q
  have hnew : ∀ x, OnL v x → x ∈ wayV v u k → itv v q (itv v k u) ≤ x := fun x hx hm => by
    obtain ⟨j, hj, rfl⟩ := wayV_mem.1 hm
    obtain ⟨m, he⟩ := hx.reach (k - j)
    rw [← itv_add v (k - j) j, Nat.sub_add_cancel (Nat.le_of_lt hj)] at he
    rw [← he]
    exact hle _ (hp.in_way m)
  refine ⟨w.len, w.bd h.bd, w.shut hv h.shut (.inr ⟨hy, by rw [h1]; omega⟩), w.all hk hu h.all, (fun hf => by cases hf), fun _ => ⟨?_, fun x hx hm => ?_⟩⟩
  · rcases hb with ⟨_, rfl⟩ | ⟨hf, rfl⟩
    · exact hlo
    · rcases Int.le_total best (itv v q (itv v k u)) with g | g
      · rw [Int.min_eq_left g]; exact (h.yes hf).1
      · rw [Int.min_eq_right g]; exact hlo
  · rcases (w.marked (hx.is hv)).1 hm with g | g
    · have := hnew x hx g
      rcases hb with ⟨_, rfl⟩ | ⟨_, rfl⟩ <;> omega
    · rcases hb with ⟨hf, _⟩ | ⟨hf, rfl⟩
      · exact absurd (h.no hf x hx) g
      · have := (h.yes hf).2 x hx g
        omega
end Go.Proofs.Ytpfkfboohblgoaa
