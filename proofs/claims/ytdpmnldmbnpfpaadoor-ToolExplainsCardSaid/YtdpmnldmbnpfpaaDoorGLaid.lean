/- LaidW: these texts in one. Conditions: each part names its own. -/
import Derived.Test.YtdpmnldmbnpfpaaDoorRows
import Derived.Test.YtdpmnldmbnpfpaaDoorGArg
import Derived.Test.YtdpmnldmbnpfpaaDoorGExp
import Derived.LaidMore
import Derived.Stop.Joined
import Derived.Stop.LaidErr
import Derived.Lib.LaidTab
/- The listed package-level variables: what the statements' condition gives, and that a start meets it. Conditions: none. -/
namespace Go.Proofs.YtdpmnldmbnpfpaaDoor
open Go.ChangeShapes Go.WideShapes Go.ChangeAt Go.RowKit

abbrev laidL {H : Type} : List (String × DataW H) := [("math/bits.deBruijn32tab", Rows.laid_math_bits_deBruijn32tab), ("math/bits.deBruijn64tab", Rows.laid_math_bits_deBruijn64tab), ("internal/strconv.uint64pow10", Rows.laid_internal_strconv_uint64pow10), ("theseus/tool.words", Rows.laid_theseus_tool_words)]
theorem door_met (os : Os) (args : Array Value) : laidMetH Tryd.prog laidL ((World.doorLaid Tryd.prog 24 os).forCall (fun _ _ => 0) ⟨#[], args, []⟩).memory :=
  laidMetH_of_parts3 (fuel := 8) (laidMet_of_run' 8 (by kernel_rfl) (by kernel_rfl)) (by kernel_rfl) (by kernel_rfl)
theorem gPowW : ∃ g, (Tryd.prog.globalNamed "internal/strconv.uint64pow10") = some g ∧ (Tryd.prog.globals[g]?).map (·.type) = some 116 := by
  have h : ((Tryd.prog.globalNamed "internal/strconv.uint64pow10").bind fun g => (Tryd.prog.globals[g]?).map (·.type)) = some 116 := by kernel_rfl
  cases hg : Tryd.prog.globalNamed "internal/strconv.uint64pow10" with
  | none => rw [hg] at h; cases h
  | some g => rw [hg] at h; exact ⟨g, rfl, h⟩
theorem tab_of_laid {W : World} (h : laidMetH Tryd.prog laidL W) : Tab10 W := by
  rw [MakeChecks.laidMetH_plain _ _ _ (by kernel_rfl)] at h
  have h2 := h.tail.tail
  obtain ⟨g, hg, hty⟩ := gPowW
  exact Lib.tabIs_of_head (g := g) (t := 116) (e := 109) (n := 20) hg hty Tryd.underlying116 Tryd.underlying109 (by kernel_rfl) (by kernel_rfl) h2
/-- An array of strings that reads as a row of texts holds those texts. -/
theorem cells_of_strs {H : Type} {enc : TypeId × Value → H} {P : Program} {w : World} {base : Nat} {sp : Nat → Bool} {held : Bool} {fuel : Nat} {t e : TypeId} {n : Nat} {cs : List Value} {ls : List (List UInt8)} {p : List MemPlace}
    (ht : P.underlying t = some (.array n e)) (he : P.underlying e = some .string) (hce : P.cellsOf e = 1) (hct : P.cellsOf t = n)
    (h : DataW.trod enc P w base sp held fuel t cs = some (.agg (ls.map fun l => .lit (.string l)), p)) : cs = ls.map S := by
  cases fuel with
  | zero => simp [DataW.trod] at h
  | succ fuel =>
    simp only [DataW.trod, ht, hce, hct, Nat.mul_one] at h
    split at h
    · rename_i hl
      obtain ⟨xs, hm, hx⟩ := Option.map_eq_some_iff.1 h
      have hxs : xs.map (·.1) = ls.map fun l => (DataW.lit (.string l) : DataW H) := by
        have := congrArg Prod.fst hx
        simpa using this
      have hxl : xs.length = n := by simpa using Lib.mapM_length hm
      have hzl : ls.length = n := by
        have := congrArg List.length hxs
        simp at this
        omega
      apply List.ext_getElem?
      intro i
      by_cases hi : i < n
      · obtain ⟨b, hb, hf⟩ := Lib.mapM_at hm i i (by simp [hi])
        obtain ⟨s, hc, rfl, _⟩ := DataW.trod_string he hf
        have h1 : cs[i]? = some (.string s) := by
          have := congrArg (·[0]?) hc
          simpa [List.getElem?_take, List.getElem?_drop] using this
        have h2 : (xs.map (·.1))[i]? = some (DataW.lit (.string s.data.toList) : DataW H) := by simp [hb]
        rw [hxs] at h2
        simp only [List.getElem?_map, Option.map_eq_some_iff, DataW.lit.injEq, Lit.string.injEq] at h2
        obtain ⟨l, hl', hll⟩ := h2
        subst hll
        simp [h1, hl', S]
      · rw [List.getElem?_eq_none (by omega), List.getElem?_eq_none (by simp; omega)]
    · cases h
theorem words_of_laid {W : World} (h : laidMetH Tryd.prog laidL W) : Words W := by
  rw [MakeChecks.laidMetH_plain _ _ _ (by kernel_rfl)] at h
  have h2 := h.tail.tail.tail
  obtain ⟨ps, ⟨g', t', cs, fuel, p, q, hg', ht', hvar, hd, _, _⟩, _⟩ := h2
  obtain rfl := Option.some.inj (gWords.symm.trans hg')
  obtain rfl := Option.some.inj ((show (Tryd.prog.globals[0]?).map (·.type) = some 68 by kernel_rfl).symm.trans ht')
  unfold Words
  rw [hvar, ← cells_of_strs (ls := wordL) Tryd.underlying68 Tryd.underlying9 (by kernel_rfl) (by kernel_rfl) hd]
end Go.Proofs.YtdpmnldmbnpfpaaDoor
