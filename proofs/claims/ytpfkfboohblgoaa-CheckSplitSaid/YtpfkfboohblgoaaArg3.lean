/- An array of three numbers of 32 bits that came in. Conditions: none. -/
import Derived.Test.YtpfkfboohblgoaaGArg
namespace Go.Proofs.Ytpfkfboohblgoaa
open Go.ChangeShapes Go.WideShapes Go.ChangeAt Go.RowKit

set_option maxRecDepth 100000 in
/-- An array of three numbers. -/
theorem open_arr3 {H : Type} {enc : TypeId × Value → H} {w : World} {base : Nat} {sp : Nat → Bool} {held : Bool} {t e : TypeId} {k : IntKind} {v : Value} {d : DataW H} {p : List MemPlace} {r : Reach} {b0 : Nat}
    (ht : Try.prog.underlying t = some (.array 3 e)) (he : Try.prog.underlying e = some (.int k)) (hce : Try.prog.cellsOf e = 1) (hct : Try.prog.cellsOf t = 3)
    (hval : Value.okWide Try.prog w r b0 t v) (h : DataW.Trod enc Try.prog w base sp held t v d p) : ∃ x y z : Int, v = .agg #[.int k x, .int k y, .int k z] ∧ (Lit.int k x).wf = true ∧ (Lit.int k y).wf = true ∧ (Lit.int k z).wf = true := by
  unfold Value.okWide at hval
  rw [ht] at hval
  obtain ⟨cs, rfl, hn, _⟩ := hval
  rw [hct] at hn
  obtain ⟨l⟩ := cs
  match l, hn with
  | [c0, c1, c2], _ =>
    obtain ⟨fuel, hf⟩ := h
    obtain ⟨xs, m, _, _, _, hl, hel⟩ := DataW.trod_array ht hf
    match xs, hl with
    | [y0, y1, y2], _ =>
      have g0 := hel 0 (by omega)
      have g1 := hel 1 (by omega)
      have g2 := hel 2 (by omega)
      rw [hce] at g0 g1 g2
      obtain ⟨n0, e0, _, w0⟩ := DataW.trod_int he (show DataW.trod enc Try.prog w base sp held m e [c0] = some y0 from g0)
      obtain ⟨n1, e1, _, w1⟩ := DataW.trod_int he (show DataW.trod enc Try.prog w base sp held m e [c1] = some y1 from g1)
      obtain ⟨n2, e2, _, w2⟩ := DataW.trod_int he (show DataW.trod enc Try.prog w base sp held m e [c2] = some y2 from g2)
      simp only [List.cons.injEq, and_true] at e0 e1 e2
      subst e0 e1 e2
      exact ⟨n0, n1, n2, rfl, w0, w1, w2⟩
set_option maxRecDepth 100000 in
theorem open_arr3u32 {H : Type} {enc : TypeId × Value → H} {w : World} {base : Nat} {sp : Nat → Bool} {held : Bool} {v : Value} {d : DataW H} {p : List MemPlace} {r : Reach} {b0 : Nat}
    (hval : Value.okWide Try.prog w r b0 58 v) (h : DataW.Trod enc Try.prog w base sp held 58 v d p) : ∃ x y z : BitVec 32, v = .agg #[U x, U y, U z] := by
  obtain ⟨x, y, z, rfl, h1, h2, h3⟩ := open_arr3 Try.underlying58 Try.underlying26 (by kernel_rfl) (by kernel_rfl) hval h
  obtain ⟨x, rfl⟩ := u32_inw h1
  obtain ⟨y, rfl⟩ := u32_inw h2
  obtain ⟨z, rfl⟩ := u32_inw h3
  exact ⟨x, y, z, rfl⟩
end Go.Proofs.Ytpfkfboohblgoaa
