/- CertP, CertF, SetI, CertMay, R17May: these texts in one. Conditions: each part names its own. -/
import Derived.Test.YtfldjlibnjgdaaaGMeet
import Derived.Maps.OwnSet
import Derived.Test.YtfldjlibnjgdaaaGAtB
/- Certificates: in memory, and whether one may be, in plain words. Conditions: none. -/
namespace Go.Proofs.Ytfldjlibnjgdaaa
open Go.RowKit

/-- A certificate: its parts as they lie there, with their ranks. -/
structure Crt where
  vd : Int
  ps : List Prt
  rks : List (List Int)
  dest : BitVec 32
  tr : List Int
structure CertAt (w : World) (pv tv : Value) (c : Crt) : Prop where
  parts : PartsAt w pv c.ps
  len : c.rks.length = c.ps.length
  rk : ∀ (i : Nat) (p : Prt) (r : List Int), c.ps[i]? = some p → c.rks[i]? = some r → IntsAt w p.rk r
  tr : IntsAt w tv c.tr
theorem CertAt.later {w w' : World} {pv tv : Value} {c : Crt} (h : CertAt w pv tv c) (hx : Ext w w') : CertAt w' pv tv c :=
  ⟨h.parts.later hx, h.len, fun i p r h1 h2 => (h.rk i p r h1 h2).later hx, h.tr.later hx⟩
def outB (n : Int) (x : Int) : Bool := decide (x < 0) || decide (n ≤ x)
def rksV (n : Int) : List (List Int) → Int
  | [] => 0
  | r :: t => if (r.length : Int) ≠ n then 1 else if r.any (outB n) then 16 else rksV n t
def freeV (n : Int) (c : Crt) : Int := if c.dest ≠ 0#32 ∨ 0 < c.tr.length then 3 else if 8193 < c.ps.length then 12 else if meetV c.ps ≠ 0 then 15 else rksV n c.rks
def trG (first : Int) : List Int → List Int → Bool
  | _, [] => false
  | seen, x :: t => decide (x ∈ seen) || (decide (x < first) || trG first (seen ++ [x]) t)
def loopsV (n : Int) (c : Crt) : Int := if 0 < c.ps.length then 3 else if c.tr.length = 0 ∨ n < (c.tr.length : Int) then 12 else if c.tr.any (outB n) then 10 else if trG (c.tr.headD 0) [] c.tr then 17 else 0
def certMayV (n : Int) (c : Crt) : Int := if c.vd = 1 then freeV n c else if c.vd = 2 then loopsV n c else 9
theorem meetV_two (ps : List Prt) : meetV ps = 0 ∨ meetV ps = 15 := by unfold meetV; split <;> simp
theorem rksV_step (n : Int) {rks : List (List Int)} {k : Nat} (h : k < rks.length) : rksV n (rks.drop k) = if (rks[k].length : Int) ≠ n then 1 else if rks[k].any (outB n) then 16 else rksV n (rks.drop (k + 1)) := by
  rw [List.drop_eq_getElem_cons h]; rfl
theorem rksV_end (n : Int) {rks : List (List Int)} {k : Nat} (h : rks.length ≤ k) : rksV n (rks.drop k) = 0 := by rw [List.drop_of_length_le h]; rfl
theorem trG_step (f : Int) {tr : List Int} {k : Nat} (h : k < tr.length) : trG f (tr.take k) (tr.drop k) = (decide (tr[k] ∈ tr.take k) || (decide (tr[k] < f) || trG f (tr.take (k + 1)) (tr.drop (k + 1)))) := by
  conv => lhs; rw [List.drop_eq_getElem_cons h]
  rw [List.take_succ_eq_append_getElem h]; rfl
theorem trG_end (f : Int) {tr : List Int} {k : Nat} (h : tr.length ≤ k) (s : List Int) : trG f s (tr.drop k) = false := by rw [List.drop_of_length_le h]; rfl
theorem any_no {l : List Int} {p : Int → Bool} {k : Nat} (h : ∀ x ∈ l.take k, p x = false) (hk : l.length ≤ k) : l.any p = false := by
  rw [List.take_of_length_le hk] at h
  rw [List.any_eq_false]
  intro x hx; rw [h x hx]; simp
theorem any_at {l : List Int} {p : Int → Bool} {k : Nat} (hk : k < l.length) (h : p l[k] = true) : l.any p = true := List.any_eq_true.2 ⟨_, List.getElem_mem hk, h⟩
theorem take_no {l : List Int} {p : Int → Bool} {k : Nat} (hk : k < l.length) (h : ∀ x ∈ l.take k, p x = false) (h1 : p l[k] = false) : ∀ x ∈ l.take (k + 1), p x = false := by
  rw [List.take_succ_eq_append_getElem hk]
  intro x hx
  rcases List.mem_append.1 hx with hx | hx
  · exact h x hx
  · simp only [List.mem_singleton] at hx; rw [hx]; exact h1
end Go.Proofs.Ytfldjlibnjgdaaa

/- Closures over how many nodes there are: cert.May's 'outside', slices.IndexFunc, slices.ContainsFunc. Conditions: none. -/
namespace Go.Proofs.Ytfldjlibnjgdaaa
open Go.RowKit

end Go.Proofs.Ytfldjlibnjgdaaa

/- Sets of whole numbers kept as map[int]bool. Conditions: none. -/
namespace Go.Proofs.Ytfldjlibnjgdaaa
open Go Go.RowKit Go.Maps Go.Proofs

def SetI (w : World) (mb : Nat) (seen : List Int) : Prop :=
  ∃ (n : Nat) (D : DataW Unit), w.ownsMap Try.prog 3 (plainElem Try.prog 4) mb n D ∧ n ≤ seen.length ∧ ∀ x, D.atKey (.int .i64 x) (.lit (.bool false)) = .lit (.bool (decide (x ∈ seen)))
theorem SetI.start (w : World) : SetI (w.alloc (.map #[] 0)) w.heap.size [] :=
  ⟨0, .map [], World.ownsMap_made _ _ _ _, Nat.le_refl _, fun _ => rfl⟩
theorem lawI : Keyed Try.prog 3 := int_keyed Try.underlying3
theorem wf64 {x : Int} (h : In64 x) : (Lit.int .i64 x).wf = true := by
  unfold In64 at h
  show (decide (-9223372036854775808 ≤ x) && decide (x ≤ 9223372036854775807)) = true
  rw [decide_eq_true h.1, decide_eq_true h.2]; rfl
theorem keyI {x : Int} (h : In64 x) : keyOf Try.prog 3 (.int .i64 x) = some (.int .i64 x) := keyOf_int_mk Try.underlying3 (wf64 h)
theorem zeroBool (w : World) : (zeroValue 4).run Try.prog w = .ok (.bool false) w := by kernel_rfl
theorem plain_bool_inv {P : Program} {e : TypeId} (he : P.underlying e = some .bool) {v : Value} {b : Bool} {ps : List MemPlace} (h : plainElem (H := Unit) P e v = some (.lit (.bool b), ps)) : v = .bool b := by
  unfold plainElem at h
  rw [he] at h
  cases v <;> simp at h
  rw [h.1]
theorem plainElem_bool_inv {v : Value} {b : Bool} {ps : List MemPlace} (h : plainElem (H := Unit) Try.prog 4 v = some (.lit (.bool b), ps)) : v = .bool b := plain_bool_inv Try.underlying4 h
theorem SetI.lt {w : World} {mb : Nat} {seen : List Int} (h : SetI w mb seen) : mb < w.heap.size := by
  obtain ⟨n, D, ⟨es, clock, hb, r⟩, h2, h3⟩ := h
  rcases Nat.lt_or_ge mb w.heap.size with h' | h'
  · exact h'
  · rw [Array.getElem?_eq_none h'] at hb; cases hb
theorem SetI.later {w w' : World} {mb : Nat} {seen : List Int} (h : SetI w mb seen) (hx : Ext w w') : SetI w' mb seen := by
  have hlt := h.lt
  obtain ⟨n, D, ⟨es, clock, hb, r⟩, h2, h3⟩ := h
  exact ⟨n, D, ⟨es, clock, by rw [Below.block hx mb hlt]; exact hb, r⟩, h2, h3⟩
theorem SetI.put {w w' : World} {mb n : Nat} {D : DataW Unit} {seen : List Int} {x : Int} (hown : w.ownsMap Try.prog 3 (plainElem Try.prog 4) mb n D) (hn : n ≤ seen.length) (hh : ∀ y, D.atKey (.int .i64 y) (.lit (.bool false)) = .lit (.bool (decide (y ∈ seen))))
    (ho : w'.ownsMap Try.prog 3 (plainElem Try.prog 4) mb (n + 1) (D.put (.int .i64 x) (.lit (.bool true)))) : SetI w' mb (seen ++ [x]) := by
  refine ⟨n + 1, _, ho, by simp; omega, fun y => ?_⟩
  by_cases e : y = x
  · subst e
    rw [atKey_put_same hown.isMap (by first | trivial | simp [WideAt.IsKeyLit])]
    simp
  · rw [atKey_put_other (by simp [e]), hh y]
    simp [e]
end Go.Proofs.Ytfldjlibnjgdaaa

/- cert.May: whether a certificate may be. Conditions: whole numbers are within 64 bits. -/
namespace Go.Proofs.Ytfldjlibnjgdaaa
open Go Go.RowKit Go.Maps Go.Proofs

theorem prt_form {w : World} {p : Prt} {r : List Int} (h : IntsAt w p.rk r) : p.rn = r.length := by
  obtain ⟨a, cap, h1, _⟩ := h.form
  simp only [Value.slice.injEq] at h1
  exact h1.2.1
end Go.Proofs.Ytfldjlibnjgdaaa

/- theseusref17.May: whether a certificate may be. Conditions: none. -/
namespace Go.Proofs.Ytfldjlibnjgdaaa
open Go Go.RowKit Go.Maps Go.Proofs

end Go.Proofs.Ytfldjlibnjgdaaa
