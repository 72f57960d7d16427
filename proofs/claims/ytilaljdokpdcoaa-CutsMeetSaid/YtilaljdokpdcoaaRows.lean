/-
  No cell of these rows narrows 'for every input' (looked for: loops, veiled, ifaces, maps, wideKeys, modest, calm, conditions, laid).
  DERIVED. THE GIVEN ROWS OF THIS SEAT. 12 by the template 'for every input the law returns true; each argument reads behind the call as it read before'; 0 by the template 'total and deterministic' (their statements: YtilaljdokpdcoaaTotals.lean).
  GIVEN WITH THE SEED: the statements are not yours to turn. If you find one false, say at which input.
  Laid BY PROGRAM, IN A SANDBOX (cutbox-rows.mjs): the forced cells as the released guide's own fill.sh prints them over the translation e489548f768b213e… (all of the seat's roots in one cut). By AI agents, Wed Nov 11 2026. No macro, syntax, notation, axiom, sorry.
-/
import Derived.Test.YtilaljdokpdcoaaChecked
import GoSem.Claim
import GoSem.ClaimJoined
import GoSem.ClaimMapViews
import Derived.JoinedTies
import Derived.KernelRfl
namespace Go.Proofs.Ytilaljdokpdcoaa
/- THE CELL 'sum', in the pinned program and in every row, IS THE sha256 OF THE DUMP (.gsa) THAT YtilaljdokpdcoaaProg.lean LOADS. Nothing in Lean hashes anything: it is a label: what it is worth is what the hold of that sum in a sandbox is worth. -/
noncomputable def Try.pinned : Pinned := { name := "ytilaljdokpdcoaa", sum := "e489548f768b213eb8e4a7759f7babaaba481670d2c8b46cf38cc4de61377f5e", checked := Try.checked }
namespace Rows
def none {H : Type} : Left H := { results := [], args := [] }

/-- 'theseuslaw13.VectorAll': WHATEVER THE INPUT: true; the input reads as it did. -/
def vectorAllSpec : ChangeSpec := { name := "vectorAll", fn := fun _ => fun
  | [d1, d2] => { results := [.lit (.bool true)], args := [d1, d2] }
  | _ => none }
def vectorAllRow : OpenClaim := { program := "ytilaljdokpdcoaa", sum := "e489548f768b213eb8e4a7759f7babaaba481670d2c8b46cf38cc4de61377f5e", func := "theseus/theseuslaw13.VectorAll", spec := "vectorAll", unfollowed := true, recurses := true, apart := false }
def VectorAllSaid : Prop := vectorAllRow.holds Try.pinned (OpenSpec.ofChange vectorAllSpec)

/-- ITS FALSE NEIGHBOUR: 'it returns false'. Refute it at one input. -/
def vectorAllWrong : ChangeSpec := { name := "vectorAll", fn := fun _ => fun
  | [d1, d2] => { results := [.lit (.bool false)], args := [d1, d2] }
  | _ => none }
def VectorAllWrongFalsely : Prop := vectorAllRow.holds Try.pinned (OpenSpec.ofChange vectorAllWrong)

/-- 'theseuslaw13.VectorPart': WHATEVER THE INPUT: true; the input reads as it did. -/
def vectorPartSpec : ChangeSpec := { name := "vectorPart", fn := fun _ => fun
  | [d1, d2, d3] => { results := [.lit (.bool true)], args := [d1, d2, d3] }
  | _ => none }
def vectorPartRow : OpenClaim := { program := "ytilaljdokpdcoaa", sum := "e489548f768b213eb8e4a7759f7babaaba481670d2c8b46cf38cc4de61377f5e", func := "theseus/theseuslaw13.VectorPart", spec := "vectorPart", unfollowed := true, recurses := true, apart := false }
def VectorPartSaid : Prop := vectorPartRow.holds Try.pinned (OpenSpec.ofChange vectorPartSpec)

/-- ITS FALSE NEIGHBOUR: 'it returns false'. Refute it at one input. -/
def vectorPartWrong : ChangeSpec := { name := "vectorPart", fn := fun _ => fun
  | [d1, d2, d3] => { results := [.lit (.bool false)], args := [d1, d2, d3] }
  | _ => none }
def VectorPartWrongFalsely : Prop := vectorPartRow.holds Try.pinned (OpenSpec.ofChange vectorPartWrong)

/-- 'theseuslaw13.VectorOwn': WHATEVER THE INPUT: true; the input reads as it did. -/
def vectorOwnSpec : ChangeSpec := { name := "vectorOwn", fn := fun _ => fun
  | [d1, d2, d3] => { results := [.lit (.bool true)], args := [d1, d2, d3] }
  | _ => none }
def vectorOwnRow : OpenClaim := { program := "ytilaljdokpdcoaa", sum := "e489548f768b213eb8e4a7759f7babaaba481670d2c8b46cf38cc4de61377f5e", func := "theseus/theseuslaw13.VectorOwn", spec := "vectorOwn", unfollowed := true, recurses := true, apart := false }
def VectorOwnSaid : Prop := vectorOwnRow.holds Try.pinned (OpenSpec.ofChange vectorOwnSpec)

/-- ITS FALSE NEIGHBOUR: 'it returns false'. Refute it at one input. -/
def vectorOwnWrong : ChangeSpec := { name := "vectorOwn", fn := fun _ => fun
  | [d1, d2, d3] => { results := [.lit (.bool false)], args := [d1, d2, d3] }
  | _ => none }
def VectorOwnWrongFalsely : Prop := vectorOwnRow.holds Try.pinned (OpenSpec.ofChange vectorOwnWrong)

/-- 'theseuslaw13.VectorOrder': WHATEVER THE INPUT: true; the input reads as it did. -/
def vectorOrderSpec : ChangeSpec := { name := "vectorOrder", fn := fun _ => fun
  | [d1, d2, d3] => { results := [.lit (.bool true)], args := [d1, d2, d3] }
  | _ => none }
def vectorOrderRow : OpenClaim := { program := "ytilaljdokpdcoaa", sum := "e489548f768b213eb8e4a7759f7babaaba481670d2c8b46cf38cc4de61377f5e", func := "theseus/theseuslaw13.VectorOrder", spec := "vectorOrder", unfollowed := true, recurses := true, apart := false }
def VectorOrderSaid : Prop := vectorOrderRow.holds Try.pinned (OpenSpec.ofChange vectorOrderSpec)

/-- ITS FALSE NEIGHBOUR: 'it returns false'. Refute it at one input. -/
def vectorOrderWrong : ChangeSpec := { name := "vectorOrder", fn := fun _ => fun
  | [d1, d2, d3] => { results := [.lit (.bool false)], args := [d1, d2, d3] }
  | _ => none }
def VectorOrderWrongFalsely : Prop := vectorOrderRow.holds Try.pinned (OpenSpec.ofChange vectorOrderWrong)

/-- 'theseuslaw12.CutsNeeded': WHATEVER THE INPUT: true; the input reads as it did. -/
def cutsNeededSpec : ChangeSpec := { name := "cutsNeeded", fn := fun _ => fun
  | [d] => { results := [.lit (.bool true)], args := [d] }
  | _ => none }
def cutsNeededRow : OpenClaim := { program := "ytilaljdokpdcoaa", sum := "e489548f768b213eb8e4a7759f7babaaba481670d2c8b46cf38cc4de61377f5e", func := "theseus/theseuslaw12.CutsNeeded", spec := "cutsNeeded", unfollowed := true, recurses := true, apart := false }
def CutsNeededSaid : Prop := cutsNeededRow.holds Try.pinned (OpenSpec.ofChange cutsNeededSpec)

/-- ITS FALSE NEIGHBOUR: 'it returns false'. Refute it at one input. -/
def cutsNeededWrong : ChangeSpec := { name := "cutsNeeded", fn := fun _ => fun
  | [d] => { results := [.lit (.bool false)], args := [d] }
  | _ => none }
def CutsNeededWrongFalsely : Prop := cutsNeededRow.holds Try.pinned (OpenSpec.ofChange cutsNeededWrong)

/-- 'theseuslaw12.CutsMeet': WHATEVER THE INPUT: true; the input reads as it did. -/
def cutsMeetSpec : ChangeSpec := { name := "cutsMeet", fn := fun _ => fun
  | [d1, d2] => { results := [.lit (.bool true)], args := [d1, d2] }
  | _ => none }
def cutsMeetRow : OpenClaim := { program := "ytilaljdokpdcoaa", sum := "e489548f768b213eb8e4a7759f7babaaba481670d2c8b46cf38cc4de61377f5e", func := "theseus/theseuslaw12.CutsMeet", spec := "cutsMeet", unfollowed := true, recurses := true, apart := false }
def CutsMeetSaid : Prop := cutsMeetRow.holds Try.pinned (OpenSpec.ofChange cutsMeetSpec)

/-- ITS FALSE NEIGHBOUR: 'it returns false'. Refute it at one input. -/
def cutsMeetWrong : ChangeSpec := { name := "cutsMeet", fn := fun _ => fun
  | [d1, d2] => { results := [.lit (.bool false)], args := [d1, d2] }
  | _ => none }
def CutsMeetWrongFalsely : Prop := cutsMeetRow.holds Try.pinned (OpenSpec.ofChange cutsMeetWrong)

/-- 'theseuslaw12.CutsRule': WHATEVER THE INPUT: true; the input reads as it did. -/
def cutsRuleSpec : ChangeSpec := { name := "cutsRule", fn := fun _ => fun
  | [d1, d2, d3] => { results := [.lit (.bool true)], args := [d1, d2, d3] }
  | _ => none }
def cutsRuleRow : OpenClaim := { program := "ytilaljdokpdcoaa", sum := "e489548f768b213eb8e4a7759f7babaaba481670d2c8b46cf38cc4de61377f5e", func := "theseus/theseuslaw12.CutsRule", spec := "cutsRule", unfollowed := true, recurses := true, apart := false }
def CutsRuleSaid : Prop := cutsRuleRow.holds Try.pinned (OpenSpec.ofChange cutsRuleSpec)

/-- ITS FALSE NEIGHBOUR: 'it returns false'. Refute it at one input. -/
def cutsRuleWrong : ChangeSpec := { name := "cutsRule", fn := fun _ => fun
  | [d1, d2, d3] => { results := [.lit (.bool false)], args := [d1, d2, d3] }
  | _ => none }
def CutsRuleWrongFalsely : Prop := cutsRuleRow.holds Try.pinned (OpenSpec.ofChange cutsRuleWrong)

/-- 'theseuslaw12.CutsJoin': WHATEVER THE INPUT: true; the input reads as it did. -/
def cutsJoinSpec : ChangeSpec := { name := "cutsJoin", fn := fun _ => fun
  | [d1, d2, d3] => { results := [.lit (.bool true)], args := [d1, d2, d3] }
  | _ => none }
def cutsJoinRow : OpenClaim := { program := "ytilaljdokpdcoaa", sum := "e489548f768b213eb8e4a7759f7babaaba481670d2c8b46cf38cc4de61377f5e", func := "theseus/theseuslaw12.CutsJoin", spec := "cutsJoin", unfollowed := true, recurses := true, apart := false }
def CutsJoinSaid : Prop := cutsJoinRow.holds Try.pinned (OpenSpec.ofChange cutsJoinSpec)

/-- ITS FALSE NEIGHBOUR: 'it returns false'. Refute it at one input. -/
def cutsJoinWrong : ChangeSpec := { name := "cutsJoin", fn := fun _ => fun
  | [d1, d2, d3] => { results := [.lit (.bool false)], args := [d1, d2, d3] }
  | _ => none }
def CutsJoinWrongFalsely : Prop := cutsJoinRow.holds Try.pinned (OpenSpec.ofChange cutsJoinWrong)

/-- 'theseuslaw12.CutsKeep': WHATEVER THE INPUT: true; the input reads as it did. -/
def cutsKeepSpec : ChangeSpec := { name := "cutsKeep", fn := fun _ => fun
  | [d1, d2] => { results := [.lit (.bool true)], args := [d1, d2] }
  | _ => none }
def cutsKeepRow : OpenClaim := { program := "ytilaljdokpdcoaa", sum := "e489548f768b213eb8e4a7759f7babaaba481670d2c8b46cf38cc4de61377f5e", func := "theseus/theseuslaw12.CutsKeep", spec := "cutsKeep", unfollowed := true, recurses := true, apart := false }
def CutsKeepSaid : Prop := cutsKeepRow.holds Try.pinned (OpenSpec.ofChange cutsKeepSpec)

/-- ITS FALSE NEIGHBOUR: 'it returns false'. Refute it at one input. -/
def cutsKeepWrong : ChangeSpec := { name := "cutsKeep", fn := fun _ => fun
  | [d1, d2] => { results := [.lit (.bool false)], args := [d1, d2] }
  | _ => none }
def CutsKeepWrongFalsely : Prop := cutsKeepRow.holds Try.pinned (OpenSpec.ofChange cutsKeepWrong)

/-- 'theseuslaw13.VectorCuts': WHATEVER THE INPUT: true; the input reads as it did. -/
def vectorCutsSpec : ChangeSpec := { name := "vectorCuts", fn := fun _ => fun
  | [d1, d2, d3] => { results := [.lit (.bool true)], args := [d1, d2, d3] }
  | _ => none }
def vectorCutsRow : OpenClaim := { program := "ytilaljdokpdcoaa", sum := "e489548f768b213eb8e4a7759f7babaaba481670d2c8b46cf38cc4de61377f5e", func := "theseus/theseuslaw13.VectorCuts", spec := "vectorCuts", unfollowed := true, recurses := true, apart := false }
def VectorCutsSaid : Prop := vectorCutsRow.holds Try.pinned (OpenSpec.ofChange vectorCutsSpec)

/-- ITS FALSE NEIGHBOUR: 'it returns false'. Refute it at one input. -/
def vectorCutsWrong : ChangeSpec := { name := "vectorCuts", fn := fun _ => fun
  | [d1, d2, d3] => { results := [.lit (.bool false)], args := [d1, d2, d3] }
  | _ => none }
def VectorCutsWrongFalsely : Prop := vectorCutsRow.holds Try.pinned (OpenSpec.ofChange vectorCutsWrong)

/-- 'theseuslaw13.VectorSteps': WHATEVER THE INPUT: true; the input reads as it did. -/
def vectorStepsSpec : ChangeSpec := { name := "vectorSteps", fn := fun _ => fun
  | [d1, d2] => { results := [.lit (.bool true)], args := [d1, d2] }
  | _ => none }
def vectorStepsRow : OpenClaim := { program := "ytilaljdokpdcoaa", sum := "e489548f768b213eb8e4a7759f7babaaba481670d2c8b46cf38cc4de61377f5e", func := "theseus/theseuslaw13.VectorSteps", spec := "vectorSteps", unfollowed := true, recurses := true, apart := false }
def VectorStepsSaid : Prop := vectorStepsRow.holds Try.pinned (OpenSpec.ofChange vectorStepsSpec)

/-- ITS FALSE NEIGHBOUR: 'it returns false'. Refute it at one input. -/
def vectorStepsWrong : ChangeSpec := { name := "vectorSteps", fn := fun _ => fun
  | [d1, d2] => { results := [.lit (.bool false)], args := [d1, d2] }
  | _ => none }
def VectorStepsWrongFalsely : Prop := vectorStepsRow.holds Try.pinned (OpenSpec.ofChange vectorStepsWrong)

/-- 'theseuslaw19.CoverSplit': WHATEVER THE INPUT: true; the input reads as it did. -/
def coverSplitSpec : ChangeSpec := { name := "coverSplit", fn := fun _ => fun
  | [d1, d2] => { results := [.lit (.bool true)], args := [d1, d2] }
  | _ => none }
def coverSplitRow : OpenClaim := { program := "ytilaljdokpdcoaa", sum := "e489548f768b213eb8e4a7759f7babaaba481670d2c8b46cf38cc4de61377f5e", func := "theseus/theseuslaw19.CoverSplit", spec := "coverSplit", unfollowed := true, recurses := true, apart := false }
def CoverSplitSaid : Prop := coverSplitRow.holds Try.pinned (OpenSpec.ofChange coverSplitSpec)

/-- ITS FALSE NEIGHBOUR: 'it returns false'. Refute it at one input. -/
def coverSplitWrong : ChangeSpec := { name := "coverSplit", fn := fun _ => fun
  | [d1, d2] => { results := [.lit (.bool false)], args := [d1, d2] }
  | _ => none }
def CoverSplitWrongFalsely : Prop := coverSplitRow.holds Try.pinned (OpenSpec.ofChange coverSplitWrong)

/- THE SECOND FORM. 'bulk': how many values and letters a reading holds, each counted each time it is reached (what is shared counts as often as it is met; a slice's spare places count too). A statement '..UptoSaid' is the law's where the arguments, and the package variables that the reading takes, are together of bulk at most 1048576: NARROWER than '..Said'. Prove '..Said' where nothing that the law and all that it calls make is longer than what came in: it says more and counts as full. Else prove '..UptoSaid'. A law counts once. -/
mutual
def uptoBulk {H : Type} : DataW H → Nat
  | .lit (.string bytes) => bytes.length + 1
  | .lit _ => 1
  | .nil => 1
  | .ptr d => uptoBulk d + 1
  | .slice elems spare => uptoBulkAll elems + uptoBulkAll spare + 1
  | .agg parts => uptoBulkAll parts + 1
  | .iface _ d => uptoBulk d + 1
  | .map entries => uptoBulkEntries entries + 1
  | .held _ => 1
def uptoBulkAll {H : Type} : List (DataW H) → Nat
  | [] => 0
  | d :: r => uptoBulk d + uptoBulkAll r
def uptoBulkEntries {H : Type} : List (Lit × DataW H) → Nat
  | [] => 0
  | x :: r => uptoBulkEntry x + uptoBulkEntries r
def uptoBulkEntry {H : Type} : Lit × DataW H → Nat
  | (.string bytes, d) => bytes.length + uptoBulk d + 1
  | (_, d) => uptoBulk d + 1
 end
def uptoSmall : (H : Type) → List (DataW H) → Bool := fun _ ds => decide (uptoBulkAll ds ≤ 1048576)
def OpenSpec.upto (s : _root_.Go.ChangeSpec) : _root_.Go.OpenSpec := { _root_.Go.OpenSpec.ofChange s with cond := some uptoSmall }

/-- 'theseuslaw13.VectorAll', WHERE WHAT IT READS IS OF BULK AT MOST 1048576: true; the input reads as it did. -/
def vectorAllUptoRow : OpenClaim := { program := "ytilaljdokpdcoaa", sum := "e489548f768b213eb8e4a7759f7babaaba481670d2c8b46cf38cc4de61377f5e", func := "theseus/theseuslaw13.VectorAll", spec := "vectorAll", unfollowed := true, recurses := true, apart := false, narrowed := true }
def VectorAllUptoSaid : Prop := vectorAllUptoRow.holds Try.pinned (OpenSpec.upto vectorAllSpec)

/-- 'theseuslaw13.VectorPart', WHERE WHAT IT READS IS OF BULK AT MOST 1048576: true; the input reads as it did. -/
def vectorPartUptoRow : OpenClaim := { program := "ytilaljdokpdcoaa", sum := "e489548f768b213eb8e4a7759f7babaaba481670d2c8b46cf38cc4de61377f5e", func := "theseus/theseuslaw13.VectorPart", spec := "vectorPart", unfollowed := true, recurses := true, apart := false, narrowed := true }
def VectorPartUptoSaid : Prop := vectorPartUptoRow.holds Try.pinned (OpenSpec.upto vectorPartSpec)

/-- 'theseuslaw13.VectorOwn', WHERE WHAT IT READS IS OF BULK AT MOST 1048576: true; the input reads as it did. -/
def vectorOwnUptoRow : OpenClaim := { program := "ytilaljdokpdcoaa", sum := "e489548f768b213eb8e4a7759f7babaaba481670d2c8b46cf38cc4de61377f5e", func := "theseus/theseuslaw13.VectorOwn", spec := "vectorOwn", unfollowed := true, recurses := true, apart := false, narrowed := true }
def VectorOwnUptoSaid : Prop := vectorOwnUptoRow.holds Try.pinned (OpenSpec.upto vectorOwnSpec)

/-- 'theseuslaw13.VectorOrder', WHERE WHAT IT READS IS OF BULK AT MOST 1048576: true; the input reads as it did. -/
def vectorOrderUptoRow : OpenClaim := { program := "ytilaljdokpdcoaa", sum := "e489548f768b213eb8e4a7759f7babaaba481670d2c8b46cf38cc4de61377f5e", func := "theseus/theseuslaw13.VectorOrder", spec := "vectorOrder", unfollowed := true, recurses := true, apart := false, narrowed := true }
def VectorOrderUptoSaid : Prop := vectorOrderUptoRow.holds Try.pinned (OpenSpec.upto vectorOrderSpec)

/-- 'theseuslaw12.CutsNeeded', WHERE WHAT IT READS IS OF BULK AT MOST 1048576: true; the input reads as it did. -/
def cutsNeededUptoRow : OpenClaim := { program := "ytilaljdokpdcoaa", sum := "e489548f768b213eb8e4a7759f7babaaba481670d2c8b46cf38cc4de61377f5e", func := "theseus/theseuslaw12.CutsNeeded", spec := "cutsNeeded", unfollowed := true, recurses := true, apart := false, narrowed := true }
def CutsNeededUptoSaid : Prop := cutsNeededUptoRow.holds Try.pinned (OpenSpec.upto cutsNeededSpec)

/-- 'theseuslaw12.CutsMeet', WHERE WHAT IT READS IS OF BULK AT MOST 1048576: true; the input reads as it did. -/
def cutsMeetUptoRow : OpenClaim := { program := "ytilaljdokpdcoaa", sum := "e489548f768b213eb8e4a7759f7babaaba481670d2c8b46cf38cc4de61377f5e", func := "theseus/theseuslaw12.CutsMeet", spec := "cutsMeet", unfollowed := true, recurses := true, apart := false, narrowed := true }
def CutsMeetUptoSaid : Prop := cutsMeetUptoRow.holds Try.pinned (OpenSpec.upto cutsMeetSpec)

/-- 'theseuslaw12.CutsRule', WHERE WHAT IT READS IS OF BULK AT MOST 1048576: true; the input reads as it did. -/
def cutsRuleUptoRow : OpenClaim := { program := "ytilaljdokpdcoaa", sum := "e489548f768b213eb8e4a7759f7babaaba481670d2c8b46cf38cc4de61377f5e", func := "theseus/theseuslaw12.CutsRule", spec := "cutsRule", unfollowed := true, recurses := true, apart := false, narrowed := true }
def CutsRuleUptoSaid : Prop := cutsRuleUptoRow.holds Try.pinned (OpenSpec.upto cutsRuleSpec)

/-- 'theseuslaw12.CutsJoin', WHERE WHAT IT READS IS OF BULK AT MOST 1048576: true; the input reads as it did. -/
def cutsJoinUptoRow : OpenClaim := { program := "ytilaljdokpdcoaa", sum := "e489548f768b213eb8e4a7759f7babaaba481670d2c8b46cf38cc4de61377f5e", func := "theseus/theseuslaw12.CutsJoin", spec := "cutsJoin", unfollowed := true, recurses := true, apart := false, narrowed := true }
def CutsJoinUptoSaid : Prop := cutsJoinUptoRow.holds Try.pinned (OpenSpec.upto cutsJoinSpec)

/-- 'theseuslaw12.CutsKeep', WHERE WHAT IT READS IS OF BULK AT MOST 1048576: true; the input reads as it did. -/
def cutsKeepUptoRow : OpenClaim := { program := "ytilaljdokpdcoaa", sum := "e489548f768b213eb8e4a7759f7babaaba481670d2c8b46cf38cc4de61377f5e", func := "theseus/theseuslaw12.CutsKeep", spec := "cutsKeep", unfollowed := true, recurses := true, apart := false, narrowed := true }
def CutsKeepUptoSaid : Prop := cutsKeepUptoRow.holds Try.pinned (OpenSpec.upto cutsKeepSpec)

/-- 'theseuslaw13.VectorCuts', WHERE WHAT IT READS IS OF BULK AT MOST 1048576: true; the input reads as it did. -/
def vectorCutsUptoRow : OpenClaim := { program := "ytilaljdokpdcoaa", sum := "e489548f768b213eb8e4a7759f7babaaba481670d2c8b46cf38cc4de61377f5e", func := "theseus/theseuslaw13.VectorCuts", spec := "vectorCuts", unfollowed := true, recurses := true, apart := false, narrowed := true }
def VectorCutsUptoSaid : Prop := vectorCutsUptoRow.holds Try.pinned (OpenSpec.upto vectorCutsSpec)

/-- 'theseuslaw13.VectorSteps', WHERE WHAT IT READS IS OF BULK AT MOST 1048576: true; the input reads as it did. -/
def vectorStepsUptoRow : OpenClaim := { program := "ytilaljdokpdcoaa", sum := "e489548f768b213eb8e4a7759f7babaaba481670d2c8b46cf38cc4de61377f5e", func := "theseus/theseuslaw13.VectorSteps", spec := "vectorSteps", unfollowed := true, recurses := true, apart := false, narrowed := true }
def VectorStepsUptoSaid : Prop := vectorStepsUptoRow.holds Try.pinned (OpenSpec.upto vectorStepsSpec)

/-- 'theseuslaw19.CoverSplit', WHERE WHAT IT READS IS OF BULK AT MOST 1048576: true; the input reads as it did. -/
def coverSplitUptoRow : OpenClaim := { program := "ytilaljdokpdcoaa", sum := "e489548f768b213eb8e4a7759f7babaaba481670d2c8b46cf38cc4de61377f5e", func := "theseus/theseuslaw19.CoverSplit", spec := "coverSplit", unfollowed := true, recurses := true, apart := false, narrowed := true }
def CoverSplitUptoSaid : Prop := coverSplitUptoRow.holds Try.pinned (OpenSpec.upto coverSplitSpec)

end Rows
end Go.Proofs.Ytilaljdokpdcoaa
