/- Slices of whatever element: what a slice expression and an append come to, said of the row that is read. Conditions: lengths within the model's bound. -/
import Derived.Test.YtilaljdokpdcoaaRegion
import Derived.Laws.AppendOwnNone
import Derived.Deep.AppendSrc
namespace Go.Proofs.Ytilaljdokpdcoaa
open Go.RowKit

/-- The slice value v reads, in elements of s cells, as the cells xs (n elements). -/
def Reads (w : World) (s : Nat) (v : Value) (n : Nat) (xs : List Value) : Prop :=
  xs.length = n * s ∧ ∃ a cap, v = .slice a n cap ∧ n ≤ cap ∧ cap ≤ maxLen ∧ (a = none → n = 0 ∧ cap = 0) ∧
    ∀ b, a = some b → (b.spot = none ∨ xs = []) ∧ ∀ j u, xs[j]? = some u → w.cell? ⟨b.block, b.off + j, none⟩ = some u
theorem Reads.later {w w' : World} {s : Nat} {v : Value} {n : Nat} {xs : List Value} (h : Reads w s v n xs) (hx : Ext w w') : Reads w' s v n xs := by
  obtain ⟨h0, a, cap, h1, h2, h3, h4, h5⟩ := h
  exact ⟨h0, a, cap, h1, h2, h3, h4, fun b hb => ⟨(h5 b hb).1, fun j u hj => hx.cell ((h5 b hb).2 j u hj)⟩⟩
theorem Reads.nil (w : World) (s : Nat) : Reads w s (.slice none 0 0) 0 [] :=
  ⟨by simp, none, 0, rfl, Nat.le_refl _, by unfold maxLen; omega, fun _ => ⟨rfl, rfl⟩, fun _ h => (by cases h)⟩
theorem Reads.made (w : World) (s : Nat) (e : TypeId) (n : Nat) (xs : List Value) (hn : xs.length = n * s) (hm : n ≤ maxLen) : Reads (w.alloc (.cells xs.toArray e)) s (.slice (some ⟨w.heap.size, 0, none⟩) n n) n xs :=
  ⟨hn, _, n, rfl, Nat.le_refl _, hm, fun h => (by cases h), fun b hb => (by
    cases hb
    refine ⟨.inl rfl, fun j u hj => ?_⟩
    rw [(Blk.new w xs e).cells]
    simpa using hj)⟩
theorem Reads.of_own {w : World} {B : Nat} {e : TypeId} {s : Nat} {v : Value} {n : Nat} {xs : List Value} (h : w.ownsRow B e s v n xs) : Reads w s v n xs := by
  have hh := h
  obtain ⟨h0, h1⟩ := h
  refine ⟨h0, ?_⟩
  rcases h1 with ⟨h1, h2⟩ | ⟨g, cap, cur, h1, h2, h3, h4, h5, h6, h7⟩
  · subst h2; exact ⟨none, 0, h1, Nat.le_refl _, by unfold maxLen; omega, fun _ => ⟨rfl, rfl⟩, fun _ h => (by cases h)⟩
  · refine ⟨_, cap, h1, h4, h5, fun h => (by cases h), fun b hb => ?_⟩
    cases hb
    refine ⟨.inl rfl, fun j u hj => ?_⟩
    have hj' : j < n * s := by
      rw [← h0]
      exact (List.getElem?_eq_some_iff.1 hj).1
    rw [← h7, List.getElem?_take_of_lt hj'] at hj
    simpa [World.cell?, h3] using hj

theorem own_later {w w' : World} {B : Nat} {e : TypeId} {s : Nat} {v : Value} {n : Nat} {xs : List Value} (h : w.ownsRow B e s v n xs) (hx : Ext w w') : w'.ownsRow B e s v n xs := by
  obtain ⟨h0, h1⟩ := h
  refine ⟨h0, ?_⟩
  rcases h1 with h1 | ⟨g, cap, cur, h1, h2, h3, h4⟩
  · exact .inl h1
  · refine .inr ⟨g, cap, cur, h1, h2, ?_, h4⟩
    have hg : g < w.heap.size := by
      rcases Nat.lt_or_ge g w.heap.size with h' | h'
      · exact h'
      · simp [Array.getElem?_eq_none h'] at h3
    rw [Below.block hx g hg, h3]
theorem own_made (w : World) (s : Nat) (e : TypeId) (n : Nat) (xs : List Value) (hn : xs.length = n * s) (hm : n ≤ maxLen) : (w.alloc (.cells xs.toArray e)).ownsRow w.heap.size e s (.slice (some ⟨w.heap.size, 0, none⟩) n n) n xs :=
  ⟨hn, .inr ⟨w.heap.size, n, xs.toArray, rfl, Nat.le_refl _, by unfold World.alloc; simp, Nat.le_refl _, hm, by simpa using hn, by rw [← hn]; simp⟩⟩
theorem own_low {w : World} {B B' : Nat} {e : TypeId} {s : Nat} {v : Value} {n : Nat} {xs : List Value} (h : w.ownsRow B e s v n xs) (hB : B' ≤ B) : w.ownsRow B' e s v n xs := by
  obtain ⟨h0, h1⟩ := h
  refine ⟨h0, ?_⟩
  rcases h1 with h1 | ⟨g, cap, cur, h1, h2, h3⟩
  · exact .inl h1
  · exact .inr ⟨g, cap, cur, h1, Nat.le_trans hB h2, h3⟩

/-- A piece of a slice, as a value that the walk does not look into. -/
def slv (s : Nat) (v : Value) (l h : Nat) : Value :=
  match v with
  | .slice a _ cap => sliced a l h cap s
  | v => v
theorem take_drop_get {α : Type} {xs : List α} {p q j : Nat} {u : α} (hj : ((xs.take q).drop p)[j]? = some u) : xs[p + j]? = some u := by
  rw [List.getElem?_drop] at hj
  rw [List.getElem?_take] at hj
  split at hj
  · exact hj
  · cases hj
theorem Reads.piece {w : World} {s : Nat} {v : Value} {n : Nat} {xs : List Value} (h : Reads w s v n xs) {l k : Nat} (hl : l ≤ k) (hk : k ≤ n) :
    Reads w s (slv s v l k) (k - l) ((xs.take (k * s)).drop (l * s)) := by
  obtain ⟨h0, a, cap, rfl, h2, h3, h4, h5⟩ := h
  refine ⟨?_, ?_⟩
  · have : k * s ≤ n * s := Nat.mul_le_mul_right _ hk
    rw [List.length_drop, List.length_take, h0, Nat.min_eq_left this, Nat.sub_mul]
  · refine ⟨if cap = l then a else a.map (·.add (l * s)), cap - l, rfl, by omega, by omega, fun hn => ?_, fun b hb => ?_⟩
    · by_cases hc : cap = l
      · omega
      · rw [if_neg hc] at hn
        have : a = none := by cases a with
          | none => rfl
          | some _ => cases hn
        have := h4 this
        omega
    · by_cases hc : cap = l
      · rw [if_pos hc] at hb
        have hkl : k = l := by omega
        subst hkl
        have hd : (xs.take (k * s)).drop (k * s) = [] := List.drop_of_length_le (by rw [List.length_take]; omega)
        refine ⟨.inr hd, fun j u hj => ?_⟩
        rw [hd] at hj
        cases hj
      · rw [if_neg hc] at hb
        cases a with
        | none => cases hb
        | some a =>
          obtain ⟨e1, e2⟩ := h5 a rfl
          simp only [Option.map_some, Option.some.injEq] at hb
          subst hb
          rcases e1 with e1 | e1
          case inr =>
            subst e1
            exact ⟨.inr (by simp), fun j u hj => (by simp at hj)⟩
          have hadd : a.add (l * s) = ⟨a.block, a.off + l * s, none⟩ := by
            unfold Addr.add
            split
            · rename_i h0; rw [h0]; cases a; simp_all
            · rfl
          rw [hadd]
          refine ⟨.inl rfl, fun j u hj => ?_⟩
          rw [Nat.add_assoc]
          exact e2 _ _ (take_drop_get hj)

section
variable {P : Program} {w : World} {ops : Array Oper} {rest : List Oper} {o : Oper} {a : Act} {Q : Exit → Act → World → Prop}
theorem wpList_of_run {v : Value} {w' : World} (hgd : o.guard = none) (hr : (execOp a.eval o).run P w = .ok (.value v) w') (h : wpList P ops Q rest (a.put o.dst v) w') : wpList P ops Q (o :: rest) a w := by
  refine wpList_plain hgd fun K hK => ?_
  unfold Oper.wp
  rw [hr]
  exact hK _ _ h
theorem quietE_of_run {v : Value} (hr : (execOp a.eval o).run P w = .ok (.value v) w) : Oper.quietE P w v ((execOp a.eval o).run P w) := by
  rw [hr]; exact ⟨Ext.refl _, rfl⟩
/-- 'x[l:]', 'x[:h]', 'x[l:h]' of a slice whose elements have s cells. -/
theorem run_slice_from {x l : Operand} {t e : TypeId} {s : Nat} (ho : o.op = .slice t x (some l) none none) (ht : P.underlying t = some (.slice e)) (hs : ∀ w, (sizeOf (P.elem t)).run P w = .ok s w)
    {ad : Option Addr} {n cap k : Nat} (hx : a.eval x = .slice ad n cap) (hl : a.eval l = .int .i64 (k : Int)) (hk : k ≤ n) :
    (execOp a.eval o).run P w = .ok (.value (slv s (.slice ad n cap) k n)) w := by
  simp only [execOp, ho, hx, hl, slv, Option.map_some, Option.map_none]
  simp [Instr.sliceAt, Instr.slice, run_underlying ht, Instr.sliceBounds, Instr.sliceBound, asIntOf, hk, sliced, Result.andThen]
  have := hs w
  simp [Program.elem, ht] at this
  simp [this]
theorem run_slice_to {x h : Operand} {t e : TypeId} {s : Nat} (ho : o.op = .slice t x none (some h) none) (ht : P.underlying t = some (.slice e)) (hs : ∀ w, (sizeOf (P.elem t)).run P w = .ok s w)
    {ad : Option Addr} {n cap k : Nat} (hx : a.eval x = .slice ad n cap) (hh : a.eval h = .int .i64 (k : Int)) (hk : k ≤ cap) :
    (execOp a.eval o).run P w = .ok (.value (slv s (.slice ad n cap) 0 k)) w := by
  simp only [execOp, ho, hx, hh, slv, Option.map_some, Option.map_none]
  simp [Instr.sliceAt, Instr.slice, run_underlying ht, Instr.sliceBounds, Instr.sliceBound, asIntOf, hk, sliced, Result.andThen]
  have := hs w
  simp [Program.elem, ht] at this
  simp [this]
theorem run_slice_mid {x l h : Operand} {t e : TypeId} {s : Nat} (ho : o.op = .slice t x (some l) (some h) none) (ht : P.underlying t = some (.slice e)) (hs : ∀ w, (sizeOf (P.elem t)).run P w = .ok s w)
    {ad : Option Addr} {n cap j k : Nat} (hx : a.eval x = .slice ad n cap) (hl : a.eval l = .int .i64 (j : Int)) (hh : a.eval h = .int .i64 (k : Int)) (hj : j ≤ k) (hk : k ≤ cap) :
    (execOp a.eval o).run P w = .ok (.value (slv s (.slice ad n cap) j k)) w := by
  simp only [execOp, ho, hx, hl, hh, slv, Option.map_some, Option.map_none]
  simp [Instr.sliceAt, Instr.slice, run_underlying ht, Instr.sliceBounds, Instr.sliceBound, asIntOf, hk, hj, sliced, Result.andThen]
  have := hs w
  simp [Program.elem, ht] at this
  simp [this]

theorem Ext.grown {W w w' : World} {B : Nat} {e : TypeId} {s : Nat} {v : Value} {n : Nat} {xs : List Value} (hx : Ext W w) (hg : w.grownBy w' v.ownBlock) (ho : w.ownsRow B e s v n xs) (hB : W.heap.size ≤ B) : Ext W w' :=
  Below.grown hx hg hx.size fun k hk => Nat.le_trans hB (ho.lt k hk).1

/-- 'append(v, x...)' onto a row of the call's own, whatever slice x is. -/
theorem wpList_app (hgd : o.guard = none) (s x : Operand) (t : TypeId)
    (ho : o.op = .call { callee := .builtin .append, args := #[s, x], argTypes := #[t, t] })
    (base : Nat) (e : TypeId) (z : Value) (size bytes : Nat) (ht : P.underlying t = some (.slice e)) (hi : (P.info? e).map (fun i => (i.zero, i.size, i.bytes)) = some (some z, size, bytes))
    (hzs : z.cells.size = size) (hsz : 0 < size) (hby : 0 < bytes)
    (v : Value) (n : Nat) (xs : List Value) (hs : a.eval s = v) (hown : w.ownsRow base e size v n xs)
    (sv : Value) (m : Nat) (news : List Value) (hx : a.eval x = sv) (hsrc : Reads w size sv m news) (h1 : ∀ u ∈ news, u.oneCell' = true)
    (hbytes : (n + m) * bytes ≤ 140737488355328) (hbase : base ≤ w.heap.size)
    (h : ∀ v' w', w'.ownsRow base e size v' (n + m) (xs ++ news) → w.grownBy w' v.ownBlock → wpList P ops Q rest (a.put o.dst v') w') : wpList P ops Q (o :: rest) a w := by
  obtain ⟨i, hi0, hi1, hi2, hi3⟩ := info_parts hi
  obtain ⟨h0, ao, cap, rfl, h2, h3, h4, h5⟩ := hsrc
  cases ao with
  | none =>
    obtain ⟨rfl, rfl⟩ := h4 rfl
    have hn : news = [] := List.eq_nil_of_length_eq_zero (by simpa using h0)
    subst hn
    refine wpList_append_own_none hgd s x t ho base e i size ht hi0 v n xs hs hown hx ?_
    exact h v w (by simpa using hown) ⟨rfl, rfl, rfl, Nat.le_refl _, fun _ _ _ => rfl⟩
  | some b =>
    obtain ⟨e1, e2⟩ := h5 b rfl
    refine wpList_append_own w hgd s x t ho base e i z size bytes ht hi0 hi1 hi2 hi3 hzs hsz v n xs hs hown b m cap news hx h0 (fun j u hj => ?_) h1 ?_ hbytes hbase (fun v' w' g1 g2 _ => h v' w' g1 g2)
    · have e3 : b.spot = none := by
        rcases e1 with e1 | e1
        · exact e1
        · rw [e1] at hj; cases hj
      have : b.add j = ⟨b.block, b.off + j, none⟩ := by
        unfold Addr.add
        split
        · rename_i h0; rw [h0]; cases b; simp_all
        · rfl
      rw [this]; exact e2 j u hj
    · unfold maxLen
      have : (n + m) * 1 ≤ (n + m) * bytes := Nat.mul_le_mul_left _ hby
      omega
end
end Go.Proofs.Ytilaljdokpdcoaa
