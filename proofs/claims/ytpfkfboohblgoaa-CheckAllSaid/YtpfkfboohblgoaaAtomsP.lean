/- Plain laws of atoms; the map of vectors' places. Conditions: none. -/
import Derived.Test.YtpfkfboohblgoaaKeys
import Derived.Test.YtpfkfboohblgoaaGCuts
import Derived.Maps.OwnSet
namespace Go.Proofs.Ytpfkfboohblgoaa
open Go Go.RowKit Go.Maps Go.Proofs

/-! ### A vector's text -/
def VecB (u : List Int) : Prop := ∀ x ∈ u, -1 ≤ x ∧ x ≤ 65534
theorem byt_inj {a b : Int} (ha : 0 ≤ a ∧ a < 256) (hb : 0 ≤ b ∧ b < 256) (h : UInt8.ofNat a.toNat = UInt8.ofNat b.toNat) : a = b := by
  have h1 := congrArg UInt8.toNat h
  rw [UInt8.toNat_ofNat', UInt8.toNat_ofNat'] at h1
  omega
def keyB (u : List Int) : List UInt8 := (kvs u).map fun n => UInt8.ofNat n.toNat
theorem keyB_cons (x : Int) (u : List Int) : keyB (x :: u) = UInt8.ofNat ((x + 1) / 256).toNat :: UInt8.ofNat ((x + 1) % 256).toNat :: keyB u := rfl
theorem keyB_inj : ∀ {a b : List Int}, VecB a → VecB b → keyB a = keyB b → a = b
  | [], [], _, _, _ => rfl
  | [], y :: b, _, _, h => by rw [keyB_cons] at h; cases h
  | x :: a, [], _, _, h => by rw [keyB_cons] at h; cases h
  | x :: a, y :: b, ha, hb, h => by
    rw [keyB_cons, keyB_cons] at h
    obtain ⟨h1, h2⟩ := List.cons.inj h
    obtain ⟨h2, h3⟩ := List.cons.inj h2
    have hx := ha x (by simp)
    have hy := hb y (by simp)
    have e1 := byt_inj (by omega) (by omega) h1
    have e2 := byt_inj (by omega) (by omega) h2
    have e3 := keyB_inj (fun z hz => ha z (by simp [hz])) (fun z hz => hb z (by simp [hz])) h3
    rw [e3, show x = y by omega]
def keyL (u : List Int) : Lit := .string (keyB u)
theorem keyL_ne {a b : List Int} (ha : VecB a) (hb : VecB b) (h : a ≠ b) : keyL a ≠ keyL b := fun e => h (keyB_inj ha hb (by unfold keyL at e; simpa using e))
theorem keyOf_vec {u : List Int} (h : u.length ≤ 1000000) : keyOf Try.prog 9 (.string (strOfNums (kvs u))) = some (keyL u) := by
  rw [WideMaps.keyOf_string_mk Try.underlying9 (by rw [strOfNums_size, kvs_len]; unfold maxLen; omega), strOfNums_data]
  rfl
theorem lawS : Keyed Try.prog 9 := string_keyed Try.underlying9

/-! ### Atoms -/
structure Ats where
  fr : List (BitVec 32)
  wh : List Int
  vs : List (List Int)
def Ats.nil : Ats := ⟨[], [], []⟩
def Ats.last (s : Ats) : Int := s.wh.getLast?.getD (-1)
def idxV (vs : List (List Int)) (v : List Int) : Nat := vs.idxOf v
theorem idxV_in {vs : List (List Int)} {v : List Int} : v ∈ vs ↔ idxV vs v < vs.length := List.idxOf_lt_length_iff.symm
theorem idxV_out {vs : List (List Int)} {v : List Int} (h : v ∉ vs) : idxV vs v = vs.length := List.idxOf_eq_length h
theorem idxV_le (vs : List (List Int)) (v : List Int) : idxV vs v ≤ vs.length := List.idxOf_le_length
theorem idxV_get {vs : List (List Int)} {v : List Int} (h : idxV vs v < vs.length) : vs[idxV vs v] = v := List.getElem_idxOf h
theorem idxV_new {vs : List (List Int)} {v : List Int} (h : v ∉ vs) : idxV (vs ++ [v]) v = vs.length := by
  unfold idxV
  rw [List.idxOf_append, if_neg h, List.idxOf_cons_self]
  omega
theorem idxV_old {vs : List (List Int)} {u v : List Int} (h : u ∈ vs) : idxV (vs ++ [v]) u = idxV vs u := by
  unfold idxV
  rw [List.idxOf_append, if_pos h]
def atStep (vec : BitVec 32 → List Int) (s : Ats) (a : BitVec 32) : Ats :=
  if s.last = (idxV s.vs (vec a) : Int) then s
  else ⟨s.fr ++ [a], s.wh ++ [(idxV s.vs (vec a) : Int)], if vec a ∈ s.vs then s.vs else s.vs ++ [vec a]⟩
def atomsL (vec : BitVec 32 → List Int) (l : List (BitVec 32)) : Ats := l.foldl (atStep vec) Ats.nil
theorem atomsL_step {vec : BitVec 32 → List Int} {l : List (BitVec 32)} {k : Nat} (h : k < l.length) : atomsL vec (l.take (k + 1)) = atStep vec (atomsL vec (l.take k)) l[k] := by
  unfold atomsL
  rw [List.take_succ_eq_append_getElem h, List.foldl_append]; rfl
/-- What holds of atoms at each step. -/
structure AtsOk (s : Ats) : Prop where
  wh : ∀ k ∈ s.wh, 0 ≤ k ∧ k < s.vs.length
  len : s.fr.length = s.wh.length
  nodup : s.vs.Nodup
  short : s.vs.length ≤ s.wh.length
theorem AtsOk.nil : AtsOk Ats.nil := ⟨fun k h => (by cases h), rfl, List.nodup_nil, Nat.le_refl _⟩
theorem last_snoc (fr : List (BitVec 32)) (wh : List Int) (k : Int) (vs : List (List Int)) : (Ats.mk fr (wh ++ [k]) vs).last = k := by
  unfold Ats.last; simp
theorem AtsOk.last {s : Ats} (h : AtsOk s) : -1 ≤ s.last ∧ s.last < s.vs.length := by
  unfold Ats.last
  cases hg : s.wh.getLast? with
  | none => simp; omega
  | some k =>
    have := h.wh k (List.mem_of_getLast? hg)
    simp; omega
theorem AtsOk.step {s : Ats} (h : AtsOk s) (vec : BitVec 32 → List Int) (a : BitVec 32) : AtsOk (atStep vec s a) := by
  unfold atStep
  have hle := idxV_le s.vs (vec a)
  split
  · exact h
  · split
    · rename_i hm
      have hlt := idxV_in.1 hm
      refine ⟨fun k hk => ?_, by simp [h.len], h.nodup, by have := h.short; simp; omega⟩
      rcases List.mem_append.1 hk with g | g
      · exact h.wh k g
      · simp at g; subst g
        exact ⟨by omega, show ((idxV s.vs (vec a) : Nat) : Int) < ((s.vs.length : Nat) : Int) by omega⟩
    · rename_i hm
      refine ⟨fun k hk => ?_, by simp [h.len], ?_, by have := h.short; simp; omega⟩
      · simp only [List.length_append, List.length_cons, List.length_nil]
        rcases List.mem_append.1 hk with g | g
        · have := h.wh k g; omega
        · simp at g; subst g; constructor <;> omega
      · rw [List.nodup_append]
        exact ⟨h.nodup, by simp, fun x hx y hy e => by simp at hy; subst hy; subst e; exact hm hx⟩
theorem atsOk_all (vec : BitVec 32 → List Int) (l : List (BitVec 32)) : AtsOk (atomsL vec l) := by
  unfold atomsL
  suffices h : ∀ s, AtsOk s → AtsOk (l.foldl (atStep vec) s) from h _ AtsOk.nil
  induction l with
  | nil => exact fun s h => h
  | cons a l ih => exact fun s h => ih _ (h.step vec a)
theorem ats_few (vec : BitVec 32 → List Int) (l : List (BitVec 32)) : (atomsL vec l).fr.length ≤ l.length := by
  unfold atomsL
  suffices h : ∀ s : Ats, (l.foldl (atStep vec) s).fr.length ≤ s.fr.length + l.length by simpa [Ats.nil] using h Ats.nil
  induction l with
  | nil => intro s; simp
  | cons a l ih =>
    intro s
    have := ih (atStep vec s a)
    have h1 : (atStep vec s a).fr.length ≤ s.fr.length + 1 := by unfold atStep; split <;> simp
    rw [List.foldl_cons, List.length_cons]; omega
/-! ### The map of places -/
def MapV (w : World) (mb : Nat) (vs : List (List Int)) : Prop :=
  ∃ (n : Nat) (D : DataW Unit), w.ownsMap Try.prog 9 (plainElem Try.prog 3) mb n D ∧ n ≤ vs.length ∧
    ∀ u, VecB u → has D (keyL u) = decide (u ∈ vs) ∧ (u ∈ vs → D.atKey (keyL u) (.lit (.int .i64 0)) = .lit (.int .i64 (idxV vs u)))
theorem MapV.start (w : World) : MapV (w.alloc (.map #[] 0)) w.heap.size [] :=
  ⟨0, .map [], World.ownsMap_made _ _ _ _, Nat.le_refl _, fun u _ => ⟨rfl, fun h => by cases h⟩⟩
theorem MapV.put {w1 : World} {mb n : Nat} {D : DataW Unit} {vs : List (List Int)} {v : List Int} (hh : ∀ u, VecB u → has D (keyL u) = decide (u ∈ vs) ∧ (u ∈ vs → D.atKey (keyL u) (.lit (.int .i64 0)) = .lit (.int .i64 (idxV vs u))))
    (hn : n ≤ vs.length) (hD : IsMap D) (hv : VecB v) (hnew : v ∉ vs) (hown : w1.ownsMap Try.prog 9 (plainElem Try.prog 3) mb (n + 1) (D.put (keyL v) (.lit (.int .i64 vs.length)))) : MapV w1 mb (vs ++ [v]) := by
  refine ⟨n + 1, _, hown, by simp; omega, fun u hu => ?_⟩
  by_cases e : u = v
  · subst e
    refine ⟨?_, fun _ => ?_⟩
    · rw [has_put_same hD (by first | trivial | simp [WideAt.IsKeyLit, keyL])]
      simp
    · rw [atKey_put_same hD (by first | trivial | simp [WideAt.IsKeyLit, keyL]), idxV_new hnew]
  · have hne := keyL_ne hu hv e
    refine ⟨?_, fun hm => ?_⟩
    · rw [has_put_other hne, (hh u hu).1]
      simp [e]
    · have hm' : u ∈ vs := by simpa [e] using hm
      rw [atKey_put_other hne, (hh u hu).2 hm', idxV_old hm']
end Go.Proofs.Ytpfkfboohblgoaa
