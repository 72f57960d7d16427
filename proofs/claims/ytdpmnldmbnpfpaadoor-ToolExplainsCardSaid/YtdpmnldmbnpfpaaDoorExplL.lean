/- Plain laws for ToolExplains: what is said of a rule tells which one it is, and what it does. Conditions: none. -/
import Derived.Test.YtdpmnldmbnpfpaaDoorGExp
namespace Go.Proofs.YtdpmnldmbnpfpaaDoor
open Go Go.RowKit Go.Maps Go.Proofs

/-- What is so of a rule that may be. -/
structure RulF (r : Rul) : Prop where
  pl : 0 ≤ r.pl ∧ r.pl ≤ 32
  act : r.act = 1 ∧ 0 ≤ r.nx ∨ r.act = 2 ∧ r.nx = 0 ∨ r.act = 3 ∧ r.nx = 0
theorem rul_full {r : Rul} {n : Int} (h : ruleMayV r n = 0) : RulF r := by
  unfold ruleMayV at h
  by_cases h0 : mayV r.pa r.pl = 0
  · rw [if_neg (by simp [h0])] at h
    have hp : 0 ≤ r.pl ∧ r.pl ≤ 32 := by
      unfold mayV at h0
      split at h0
      · cases h0
      · omega
    refine ⟨hp, ?_⟩
    split at h
    · split at h
      · cases h
      · rename_i ha hx
        exact .inl ⟨ha, by omega⟩
    · split at h
      · rename_i ha hb
        omega
      · cases h
  · rw [if_pos h0] at h; exact absurd h h0
theorem no32 {a : Nat} {n : Int} (h : 0 ≤ n) : (32 : UInt8) ∉ prefL a n := by
  obtain ⟨k, rfl⟩ : ∃ k : Nat, n = k := ⟨n.toNat, by omega⟩
  unfold prefL
  rw [itoa_nat]
  intro hm
  rcases List.mem_append.1 hm with hm | hm
  · rcases prN_mem hm with g | g
    · revert g; decide
    · revert g; decide
  · rcases List.mem_cons.1 hm with g | g
    · revert g; decide
    · have := dd_dig k _ g
      revert this; decide
theorem split_c {c : UInt8} : ∀ {p q : List UInt8} {x y : List UInt8}, c ∉ p → c ∉ q → p ++ c :: x = q ++ c :: y → p = q ∧ x = y
  | [], [], _, _, _, _, h => ⟨rfl, by simpa using h⟩
  | [], b :: q, _, _, _, hq, h => by
    simp only [List.nil_append, List.cons_append, List.cons.injEq] at h
    exact absurd (by rw [h.1]; simp) hq
  | a :: p, [], _, _, hp, _, h => by
    simp only [List.nil_append, List.cons_append, List.cons.injEq] at h
    exact absurd (by rw [h.1]; simp) hp
  | a :: p, b :: q, _, _, hp, hq, h => by
    simp only [List.cons_append, List.cons.injEq] at h
    obtain ⟨h1, h2⟩ := h
    obtain ⟨h3, h4⟩ := split_c (fun e => hp (List.mem_cons_of_mem _ e)) (fun e => hq (List.mem_cons_of_mem _ e)) h2
    exact ⟨by rw [h1, h3], h4⟩
def tailL (r : Rul) : List UInt8 := wordL.getD r.act.toNat [] ++ (if r.act = 1 then 32 :: Lib.itoa r.nx else [])
theorem said_split (r : Rul) : saidL r = prefL r.pa.toNat r.pl ++ 32 :: tailL r := by unfold saidL tailL; simp
theorem prefL_inj {a b : BitVec 32} {m n : Int} (hm : 0 ≤ m) (hn : 0 ≤ n) (h : prefL a.toNat m = prefL b.toNat n) : a = b ∧ m = n := by
  obtain ⟨j, rfl⟩ : ∃ k : Nat, m = k := ⟨m.toNat, by omega⟩
  obtain ⟨k, rfl⟩ : ∃ k : Nat, n = k := ⟨n.toNat, by omega⟩
  unfold prefL at h
  rw [itoa_nat, itoa_nat] at h
  have hs : ∀ x : Nat, (47 : UInt8) ∉ prN x := fun x hx => by
    rcases prN_mem hx with g | g
    · revert g; decide
    · revert g; decide
  obtain ⟨h1, h2⟩ := split_c (hs _) (hs _) h
  exact ⟨BitVec.eq_of_toNat_eq (prN_inj a.isLt b.isLt h1), by rw [dd_inj h2]⟩
theorem tail1 {r : Rul} (h : r.act = 1) : tailL r = [110, 101, 120, 116] ++ 32 :: Lib.itoa r.nx := by unfold tailL; rw [h]; rfl
theorem tail2 {r : Rul} (h : r.act = 2) : tailL r = [100, 101, 108, 105, 118, 101, 114] := by unfold tailL; rw [h]; rfl
theorem tail3 {r : Rul} (h : r.act = 3) : tailL r = [100, 114, 111, 112] := by unfold tailL; rw [h]; rfl
theorem tail_inj {r s : Rul} (hr : RulF r) (hs : RulF s) (h : tailL r = tailL s) : r.act = s.act ∧ r.nx = s.nx := by
  rcases hr.act with ⟨a1, a2⟩ | ⟨a1, a2⟩ | ⟨a1, a2⟩ <;> rcases hs.act with ⟨b1, b2⟩ | ⟨b1, b2⟩ | ⟨b1, b2⟩
  · rw [tail1 a1, tail1 b1] at h
    obtain ⟨j, hj⟩ : ∃ k : Nat, r.nx = k := ⟨r.nx.toNat, by omega⟩
    obtain ⟨k, hk⟩ : ∃ k : Nat, s.nx = k := ⟨s.nx.toNat, by omega⟩
    rw [hj, hk, itoa_nat, itoa_nat] at h
    refine ⟨by omega, ?_⟩
    have := dd_inj (by simpa using h)
    omega
  · rw [tail1 a1, tail2 b1] at h; simp at h
  · rw [tail1 a1, tail3 b1] at h; simp at h
  · rw [tail2 a1, tail1 b1] at h; simp at h
  · exact ⟨by omega, by omega⟩
  · rw [tail2 a1, tail3 b1] at h; simp at h
  · rw [tail3 a1, tail1 b1] at h; simp at h
  · rw [tail3 a1, tail2 b1] at h; simp at h
  · exact ⟨by omega, by omega⟩
theorem said_inj {r s : Rul} (hr : RulF r) (hs : RulF s) (h : saidL r = saidL s) : r = s := by
  rw [said_split, said_split] at h
  obtain ⟨h1, h2⟩ := split_c (no32 hr.pl.1) (no32 hs.pl.1) h
  obtain ⟨h3, h4⟩ := prefL_inj hr.pl.1 hs.pl.1 h1
  obtain ⟨h5, h6⟩ := tail_inj hr hs h2
  cases r; cases s
  simp only at h3 h4 h5 h6
  rw [h3, h4, h5, h6]
theorem said_not (r : Rul) : saidL r ≠ [45] := fun h => by
  have : (32 : UInt8) ∈ saidL r := by rw [said_split]; simp
  rw [h] at this
  revert this; decide
theorem explT_eq {l : List Rul} {a b : BitVec 32} {n : Int} (hm : ∀ r ∈ l, ruleMayV r n = 0) : explT l a = explT l b ↔ findL l a = findL l b := by
  unfold explT
  cases h1 : findL l a with
  | none =>
    cases h2 : findL l b with
    | none => simp
    | some s => simp only [reduceCtorEq, iff_false]; exact fun e => said_not s e.symm
  | some r =>
    cases h2 : findL l b with
    | none => simp only [reduceCtorEq, iff_false]; exact said_not r
    | some s =>
      simp only [Option.some.injEq]
      exact ⟨said_inj (rul_full (hm r (findL_mem h1))) (rul_full (hm s (findL_mem h2))), fun e => by rw [e]⟩
theorem explT_dash {l : List Rul} {a : BitVec 32} : explT l a = [45] ↔ findL l a = none := by
  unfold explT
  cases h1 : findL l a with
  | none => simp
  | some r => simp only [reduceCtorEq, iff_false]; exact said_not r
/-! ### Texts in texts -/
theorem infix_at {c : UInt8} {A B t : List UInt8} (hA : c ∉ A) : (c :: t) <:+: (A ++ c :: B) ↔ t <+: B ∨ (c :: t) <:+: B := by
  constructor
  · rintro ⟨p, q, h⟩
    rw [List.append_assoc, List.cons_append] at h
    rcases List.append_eq_append_iff.1 h with ⟨a', h1, h2⟩ | ⟨a', h1, h2⟩
    · cases a' with
      | nil =>
        simp only [List.nil_append, List.cons.injEq, true_and] at h2
        exact .inl ⟨q, h2⟩
      | cons x a' =>
        simp only [List.cons_append, List.cons.injEq] at h2
        exact absurd (by rw [h1, h2.1]; simp) hA
    · cases a' with
      | nil =>
        simp only [List.nil_append, List.cons.injEq, true_and] at h2
        exact .inl ⟨q, h2.symm⟩
      | cons x a' =>
        simp only [List.cons_append, List.cons.injEq] at h2
        exact .inr ⟨a', q, by rw [h2.2]; simp⟩
  · rintro (⟨q, h⟩ | ⟨p, q, h⟩)
    · exact ⟨A, q, by rw [← h]; simp⟩
    · exact ⟨A ++ c :: p, q, by rw [← h]; simp⟩
theorem infix_no {c : UInt8} {B t : List UInt8} (h : c ∉ B) : ¬ (c :: t) <:+: B := fun g => h (g.subset (List.mem_cons_self ..))
theorem itoa_digs {n : Int} (h : 0 ≤ n) : ∀ c ∈ Lib.itoa n, isDig c = true := by
  obtain ⟨k, rfl⟩ : ∃ k : Nat, n = k := ⟨n.toNat, by omega⟩
  rw [itoa_nat]; exact dd_dig k
theorem itoa_no {n : Int} (h : 0 ≤ n) {c : UInt8} (hc : isDig c = false) : c ∉ Lib.itoa n := fun hm => by rw [itoa_digs h c hm] at hc; cases hc
theorem no_pre {c : UInt8} {t B : List UInt8} (h : c ∉ B) : ¬ (c :: t) <+: B := fun g => h (g.subset (List.mem_cons_self ..))
theorem said_has {r : Rul} (hr : RulF r) (t : List UInt8) : (32 :: t) <:+: saidL r ↔ t <+: tailL r ∨ (32 :: t) <:+: tailL r := by
  rw [said_split]; exact infix_at (no32 hr.pl.1)
def nextT : List UInt8 := [32, 110, 101, 120, 116, 32]
def dropT : List UInt8 := [32, 100, 114, 111, 112]
def delivT : List UInt8 := [32, 100, 101, 108, 105, 118, 101, 114]
theorem said_next {r : Rul} (hr : RulF r) : nextT <:+: saidL r ↔ r.act = 1 := by
  unfold nextT
  rw [said_has hr]
  rcases hr.act with ⟨a1, a2⟩ | ⟨a1, a2⟩ | ⟨a1, a2⟩
  · rw [tail1 a1]
    exact ⟨fun _ => a1, fun _ => .inl ⟨Lib.itoa r.nx, rfl⟩⟩
  · rw [tail2 a1]
    refine ⟨fun h => ?_, fun h => by omega⟩
    rcases h with h | h
    · exact absurd h (by decide)
    · exact absurd h (infix_no (by decide))
  · rw [tail3 a1]
    refine ⟨fun h => ?_, fun h => by omega⟩
    rcases h with h | h
    · exact absurd h (by decide)
    · exact absurd h (infix_no (by decide))
theorem said_drop {r : Rul} (hr : RulF r) : dropT <:+: saidL r ↔ r.act = 3 := by
  unfold dropT
  rw [said_has hr]
  rcases hr.act with ⟨a1, a2⟩ | ⟨a1, a2⟩ | ⟨a1, a2⟩
  · rw [tail1 a1]
    refine ⟨fun h => ?_, fun h => by omega⟩
    rcases h with h | h
    · simp [List.cons_prefix_cons] at h
    · rcases (infix_at (by decide)).1 h with h | h
      · exact absurd h (no_pre (itoa_no a2 (by decide)))
      · exact absurd h (infix_no (itoa_no a2 (by decide)))
  · rw [tail2 a1]
    refine ⟨fun h => ?_, fun h => by omega⟩
    rcases h with h | h
    · exact absurd h (by decide)
    · exact absurd h (infix_no (by decide))
  · rw [tail3 a1]
    exact ⟨fun _ => a1, fun _ => .inl ⟨[], rfl⟩⟩
theorem said_deliv {r : Rul} (hr : RulF r) : delivT <:+: saidL r ↔ r.act = 2 := by
  unfold delivT
  rw [said_has hr]
  rcases hr.act with ⟨a1, a2⟩ | ⟨a1, a2⟩ | ⟨a1, a2⟩
  · rw [tail1 a1]
    refine ⟨fun h => ?_, fun h => by omega⟩
    rcases h with h | h
    · simp [List.cons_prefix_cons] at h
    · rcases (infix_at (by decide)).1 h with h | h
      · exact absurd h (no_pre (itoa_no a2 (by decide)))
      · exact absurd h (infix_no (itoa_no a2 (by decide)))
  · rw [tail2 a1]
    exact ⟨fun _ => a1, fun _ => .inl ⟨[], rfl⟩⟩
  · rw [tail3 a1]
    refine ⟨fun h => ?_, fun h => by omega⟩
    rcases h with h | h
    · exact absurd h (by decide)
    · exact absurd h (infix_no (by decide))
theorem dash_no (t : List UInt8) : ¬ (32 :: t) <:+: [45] := infix_no (by decide)
/-- Which rule is found, told by the text. -/
theorem explT_next {l : List Rul} {a : BitVec 32} {n : Int} (hm : ∀ r ∈ l, ruleMayV r n = 0) : nextT <:+: explT l a ↔ ∃ r, findL l a = some r ∧ r.act = 1 := by
  unfold explT
  cases h1 : findL l a with
  | none => simp only [reduceCtorEq, false_and, exists_false, iff_false]; exact dash_no _
  | some r => rw [said_next (rul_full (hm r (findL_mem h1)))]; exact ⟨fun h => ⟨r, rfl, h⟩, fun ⟨s, h, k⟩ => by cases h; exact k⟩
theorem explT_drop {l : List Rul} {a : BitVec 32} {n : Int} (hm : ∀ r ∈ l, ruleMayV r n = 0) : dropT <:+: explT l a ↔ ∃ r, findL l a = some r ∧ r.act = 3 := by
  unfold explT
  cases h1 : findL l a with
  | none => simp only [reduceCtorEq, false_and, exists_false, iff_false]; exact dash_no _
  | some r => rw [said_drop (rul_full (hm r (findL_mem h1)))]; exact ⟨fun h => ⟨r, rfl, h⟩, fun ⟨s, h, k⟩ => by cases h; exact k⟩
theorem explT_deliv {l : List Rul} {a : BitVec 32} {n : Int} (hm : ∀ r ∈ l, ruleMayV r n = 0) : delivT <:+: explT l a ↔ ∃ r, findL l a = some r ∧ r.act = 2 := by
  unfold explT
  cases h1 : findL l a with
  | none => simp only [reduceCtorEq, false_and, exists_false, iff_false]; exact dash_no _
  | some r => rw [said_deliv (rul_full (hm r (findL_mem h1)))]; exact ⟨fun h => ⟨r, rfl, h⟩, fun ⟨s, h, k⟩ => by cases h; exact k⟩
end Go.Proofs.YtdpmnldmbnpfpaaDoor
