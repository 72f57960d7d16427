/- Arguments that came in: numbers, rows of two numbers. Conditions: none. -/
import Derived.Test.YtilaljdokpdcoaaRegion
import Derived.ProofKit
import Derived.OpenShut
namespace Go.Proofs.Ytilaljdokpdcoaa
open Go.ChangeShapes Go.WideShapes Go.ChangeAt Go.RowKit

theorem ownTry : ownKnob Try.prog.godebug = none := by kernel_rfl
theorem laidTry : laidOutB Try.prog = true := by kernel_rfl
theorem shutTrue {H : Type} {enc : TypeId × Value → H} {W : World} {base : Nat} {sp : Nat → Bool} {held : Bool} : DataW.Trod enc Try.prog W base sp held 4 (.bool true) (.lit (.bool true)) [] := ⟨1, by simp [DataW.trod, Value.cells, Try.underlying4]⟩
theorem int_in64w {n : Int} (h : (Lit.int .i64 n).wf = true) : -9223372036854775808 ≤ n ∧ n ≤ 9223372036854775807 := by
  have h1 : IntKind.i64.min = -9223372036854775808 := rfl
  have h2 : IntKind.i64.max = 9223372036854775807 := rfl
  simp only [Lit.wf, Bool.and_eq_true, decide_eq_true_eq] at h
  omega
theorem u32_inw {n : Int} (h : (Lit.int .u32 n).wf = true) : ∃ a : BitVec 32, n = uv a := by
  have h1 : IntKind.u32.min = 0 := rfl
  have h2 : IntKind.u32.max = 4294967295 := rfl
  simp only [Lit.wf, Bool.and_eq_true, decide_eq_true_eq] at h
  exact ⟨BitVec.ofInt 32 n, (uv_ofInt n (by omega) (by omega)).symm⟩
theorem u8_inw {n : Int} (h : (Lit.int .u8 n).wf = true) : ∃ k : Nat, n = k ∧ k < 256 := by
  have h1 : IntKind.u8.min = 0 := rfl
  have h2 : IntKind.u8.max = 255 := rfl
  simp only [Lit.wf, Bool.and_eq_true, decide_eq_true_eq] at h
  exact ⟨n.toNat, by omega, by omega⟩
theorem u16_inw {n : Int} (h : (Lit.int .u16 n).wf = true) : ∃ k : Nat, n = k ∧ k < 65536 := by
  have h1 : IntKind.u16.min = 0 := rfl
  have h2 : IntKind.u16.max = 65535 := rfl
  simp only [Lit.wf, Bool.and_eq_true, decide_eq_true_eq] at h
  exact ⟨n.toNat, by omega, by omega⟩
set_option maxRecDepth 100000 in
/-- An array of two numbers. -/
theorem open_arr2 {H : Type} {enc : TypeId × Value → H} {w : World} {base : Nat} {sp : Nat → Bool} {held : Bool} {t e : TypeId} {k : IntKind} {v : Value} {d : DataW H} {p : List MemPlace} {r : Reach} {b0 : Nat}
    (ht : Try.prog.underlying t = some (.array 2 e)) (he : Try.prog.underlying e = some (.int k)) (hce : Try.prog.cellsOf e = 1) (hct : Try.prog.cellsOf t = 2)
    (hval : Value.okWide Try.prog w r b0 t v) (h : DataW.Trod enc Try.prog w base sp held t v d p) : ∃ x y : Int, v = .agg #[.int k x, .int k y] ∧ (Lit.int k x).wf = true ∧ (Lit.int k y).wf = true := by
  unfold Value.okWide at hval
  rw [ht] at hval
  obtain ⟨cs, rfl, hn, _⟩ := hval
  rw [hct] at hn
  obtain ⟨l⟩ := cs
  match l, hn with
  | [c0, c1], _ =>
    obtain ⟨fuel, hf⟩ := h
    obtain ⟨xs, m, _, _, _, hl, hel⟩ := DataW.trod_array ht hf
    match xs, hl with
    | [y0, y1], _ =>
      have g0 := hel 0 (by omega)
      have g1 := hel 1 (by omega)
      rw [hce] at g0 g1
      obtain ⟨n0, e0, _, w0⟩ := DataW.trod_int he (show DataW.trod enc Try.prog w base sp held m e [c0] = some y0 from g0)
      obtain ⟨n1, e1, _, w1⟩ := DataW.trod_int he (show DataW.trod enc Try.prog w base sp held m e [c1] = some y1 from g1)
      simp only [List.cons.injEq, and_true] at e0 e1
      subst e0 e1
      exact ⟨n0, n1, rfl, w0, w1⟩
end Go.Proofs.Ytilaljdokpdcoaa
