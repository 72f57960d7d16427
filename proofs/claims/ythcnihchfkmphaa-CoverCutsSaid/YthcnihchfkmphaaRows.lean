/-
  No cell of these rows narrows 'for every input' (looked for: loops, veiled, ifaces, maps, wideKeys, modest, calm, conditions, laid).
  DERIVED. THE GIVEN ROWS OF THIS SEAT. 16 by the template 'for every input the law returns true; each argument reads behind the call as it read before'; 0 by the template 'total and deterministic' (their statements: YthcnihchfkmphaaTotals.lean).
  GIVEN WITH THE SEED: the statements are not yours to turn. If you find one false, say at which input.
  Laid BY PROGRAM, IN A SANDBOX (cutbox-rows.mjs): the forced cells as the released guide's own fill.sh prints them over the translation a846647a8dfbbb01… (all of the seat's roots in one cut). By AI agents, Wed Nov 11 2026. No macro, syntax, notation, axiom, sorry.
-/
import Derived.Test.YthcnihchfkmphaaChecked
import GoSem.Claim
import GoSem.ClaimJoined
import GoSem.ClaimMapViews
import Derived.JoinedTies
import Derived.KernelRfl
namespace Go.Proofs.Ythcnihchfkmphaa
/- THE CELL 'sum', in the pinned program and in every row, IS THE sha256 OF THE DUMP (.gsa) THAT YthcnihchfkmphaaProg.lean LOADS. Nothing in Lean hashes anything: it is a label: what it is worth is what the hold of that sum in a sandbox is worth. -/
noncomputable def Try.pinned : Pinned := { name := "ythcnihchfkmphaa", sum := "a846647a8dfbbb011c086543513d3606a958fb6f68f419544e668d830547aa0c", checked := Try.checked }
namespace Rows
def none {H : Type} : Left H := { results := [], args := [] }

/-- 'theseuslaw12.CutsNeeded': WHATEVER THE INPUT: true; the input reads as it did. -/
def cutsNeededSpec : ChangeSpec := { name := "cutsNeeded", fn := fun _ => fun
  | [d] => { results := [.lit (.bool true)], args := [d] }
  | _ => none }
def cutsNeededRow : OpenClaim := { program := "ythcnihchfkmphaa", sum := "a846647a8dfbbb011c086543513d3606a958fb6f68f419544e668d830547aa0c", func := "theseus/theseuslaw12.CutsNeeded", spec := "cutsNeeded", unfollowed := true, recurses := true, apart := false }
def CutsNeededSaid : Prop := cutsNeededRow.holds Try.pinned (OpenSpec.ofChange cutsNeededSpec)

/-- ITS FALSE NEIGHBOUR: 'it returns false'. Refute it at one input. -/
def cutsNeededWrong : ChangeSpec := { name := "cutsNeeded", fn := fun _ => fun
  | [d] => { results := [.lit (.bool false)], args := [d] }
  | _ => none }
def CutsNeededWrongFalsely : Prop := cutsNeededRow.holds Try.pinned (OpenSpec.ofChange cutsNeededWrong)

/-- 'theseuslaw19.CoverSplit': WHATEVER THE INPUT: true; the input reads as it did. -/
def coverSplitSpec : ChangeSpec := { name := "coverSplit", fn := fun _ => fun
  | [d1, d2] => { results := [.lit (.bool true)], args := [d1, d2] }
  | _ => none }
def coverSplitRow : OpenClaim := { program := "ythcnihchfkmphaa", sum := "a846647a8dfbbb011c086543513d3606a958fb6f68f419544e668d830547aa0c", func := "theseus/theseuslaw19.CoverSplit", spec := "coverSplit", unfollowed := true, recurses := true, apart := false }
def CoverSplitSaid : Prop := coverSplitRow.holds Try.pinned (OpenSpec.ofChange coverSplitSpec)

/-- ITS FALSE NEIGHBOUR: 'it returns false'. Refute it at one input. -/
def coverSplitWrong : ChangeSpec := { name := "coverSplit", fn := fun _ => fun
  | [d1, d2] => { results := [.lit (.bool false)], args := [d1, d2] }
  | _ => none }
def CoverSplitWrongFalsely : Prop := coverSplitRow.holds Try.pinned (OpenSpec.ofChange coverSplitWrong)

/-- 'theseuslaw12.CutsJoin': WHATEVER THE INPUT: true; the input reads as it did. -/
def cutsJoinSpec : ChangeSpec := { name := "cutsJoin", fn := fun _ => fun
  | [d1, d2, d3] => { results := [.lit (.bool true)], args := [d1, d2, d3] }
  | _ => none }
def cutsJoinRow : OpenClaim := { program := "ythcnihchfkmphaa", sum := "a846647a8dfbbb011c086543513d3606a958fb6f68f419544e668d830547aa0c", func := "theseus/theseuslaw12.CutsJoin", spec := "cutsJoin", unfollowed := true, recurses := true, apart := false }
def CutsJoinSaid : Prop := cutsJoinRow.holds Try.pinned (OpenSpec.ofChange cutsJoinSpec)

/-- ITS FALSE NEIGHBOUR: 'it returns false'. Refute it at one input. -/
def cutsJoinWrong : ChangeSpec := { name := "cutsJoin", fn := fun _ => fun
  | [d1, d2, d3] => { results := [.lit (.bool false)], args := [d1, d2, d3] }
  | _ => none }
def CutsJoinWrongFalsely : Prop := cutsJoinRow.holds Try.pinned (OpenSpec.ofChange cutsJoinWrong)

/-- 'theseuslaw12.CutsKeep': WHATEVER THE INPUT: true; the input reads as it did. -/
def cutsKeepSpec : ChangeSpec := { name := "cutsKeep", fn := fun _ => fun
  | [d1, d2] => { results := [.lit (.bool true)], args := [d1, d2] }
  | _ => none }
def cutsKeepRow : OpenClaim := { program := "ythcnihchfkmphaa", sum := "a846647a8dfbbb011c086543513d3606a958fb6f68f419544e668d830547aa0c", func := "theseus/theseuslaw12.CutsKeep", spec := "cutsKeep", unfollowed := true, recurses := true, apart := false }
def CutsKeepSaid : Prop := cutsKeepRow.holds Try.pinned (OpenSpec.ofChange cutsKeepSpec)

/-- ITS FALSE NEIGHBOUR: 'it returns false'. Refute it at one input. -/
def cutsKeepWrong : ChangeSpec := { name := "cutsKeep", fn := fun _ => fun
  | [d1, d2] => { results := [.lit (.bool false)], args := [d1, d2] }
  | _ => none }
def CutsKeepWrongFalsely : Prop := cutsKeepRow.holds Try.pinned (OpenSpec.ofChange cutsKeepWrong)

/-- 'theseuslaw19.CoverCuts': WHATEVER THE INPUT: true; the input reads as it did. -/
def coverCutsSpec : ChangeSpec := { name := "coverCuts", fn := fun _ => fun
  | [d1, d2] => { results := [.lit (.bool true)], args := [d1, d2] }
  | _ => none }
def coverCutsRow : OpenClaim := { program := "ythcnihchfkmphaa", sum := "a846647a8dfbbb011c086543513d3606a958fb6f68f419544e668d830547aa0c", func := "theseus/theseuslaw19.CoverCuts", spec := "coverCuts", unfollowed := true, recurses := true, apart := false }
def CoverCutsSaid : Prop := coverCutsRow.holds Try.pinned (OpenSpec.ofChange coverCutsSpec)

/-- ITS FALSE NEIGHBOUR: 'it returns false'. Refute it at one input. -/
def coverCutsWrong : ChangeSpec := { name := "coverCuts", fn := fun _ => fun
  | [d1, d2] => { results := [.lit (.bool false)], args := [d1, d2] }
  | _ => none }
def CoverCutsWrongFalsely : Prop := coverCutsRow.holds Try.pinned (OpenSpec.ofChange coverCutsWrong)

/-- 'theseuslaw19.CoverAll': WHATEVER THE INPUT: true; the input reads as it did. -/
def coverAllSpec : ChangeSpec := { name := "coverAll", fn := fun _ => fun
  | [d1, d2, d3] => { results := [.lit (.bool true)], args := [d1, d2, d3] }
  | _ => none }
def coverAllRow : OpenClaim := { program := "ythcnihchfkmphaa", sum := "a846647a8dfbbb011c086543513d3606a958fb6f68f419544e668d830547aa0c", func := "theseus/theseuslaw19.CoverAll", spec := "coverAll", unfollowed := true, recurses := true, apart := false }
def CoverAllSaid : Prop := coverAllRow.holds Try.pinned (OpenSpec.ofChange coverAllSpec)

/-- ITS FALSE NEIGHBOUR: 'it returns false'. Refute it at one input. -/
def coverAllWrong : ChangeSpec := { name := "coverAll", fn := fun _ => fun
  | [d1, d2, d3] => { results := [.lit (.bool false)], args := [d1, d2, d3] }
  | _ => none }
def CoverAllWrongFalsely : Prop := coverAllRow.holds Try.pinned (OpenSpec.ofChange coverAllWrong)

/-- 'theseuslaw19.CoverPlaces': WHATEVER THE INPUT: true; the input reads as it did. -/
def coverPlacesSpec : ChangeSpec := { name := "coverPlaces", fn := fun _ => fun
  | [d1, d2, d3] => { results := [.lit (.bool true)], args := [d1, d2, d3] }
  | _ => none }
def coverPlacesRow : OpenClaim := { program := "ythcnihchfkmphaa", sum := "a846647a8dfbbb011c086543513d3606a958fb6f68f419544e668d830547aa0c", func := "theseus/theseuslaw19.CoverPlaces", spec := "coverPlaces", unfollowed := true, recurses := true, apart := false }
def CoverPlacesSaid : Prop := coverPlacesRow.holds Try.pinned (OpenSpec.ofChange coverPlacesSpec)

/-- ITS FALSE NEIGHBOUR: 'it returns false'. Refute it at one input. -/
def coverPlacesWrong : ChangeSpec := { name := "coverPlaces", fn := fun _ => fun
  | [d1, d2, d3] => { results := [.lit (.bool false)], args := [d1, d2, d3] }
  | _ => none }
def CoverPlacesWrongFalsely : Prop := coverPlacesRow.holds Try.pinned (OpenSpec.ofChange coverPlacesWrong)

/-- 'theseuslaw19.CoverFinds': WHATEVER THE INPUT: true; the input reads as it did. -/
def coverFindsSpec : ChangeSpec := { name := "coverFinds", fn := fun _ => fun
  | [d1, d2, d3] => { results := [.lit (.bool true)], args := [d1, d2, d3] }
  | _ => none }
def coverFindsRow : OpenClaim := { program := "ythcnihchfkmphaa", sum := "a846647a8dfbbb011c086543513d3606a958fb6f68f419544e668d830547aa0c", func := "theseus/theseuslaw19.CoverFinds", spec := "coverFinds", unfollowed := true, recurses := true, apart := false }
def CoverFindsSaid : Prop := coverFindsRow.holds Try.pinned (OpenSpec.ofChange coverFindsSpec)

/-- ITS FALSE NEIGHBOUR: 'it returns false'. Refute it at one input. -/
def coverFindsWrong : ChangeSpec := { name := "coverFinds", fn := fun _ => fun
  | [d1, d2, d3] => { results := [.lit (.bool false)], args := [d1, d2, d3] }
  | _ => none }
def CoverFindsWrongFalsely : Prop := coverFindsRow.holds Try.pinned (OpenSpec.ofChange coverFindsWrong)

/-- 'theseuslaw13.VectorCuts': WHATEVER THE INPUT: true; the input reads as it did. -/
def vectorCutsSpec : ChangeSpec := { name := "vectorCuts", fn := fun _ => fun
  | [d1, d2, d3] => { results := [.lit (.bool true)], args := [d1, d2, d3] }
  | _ => none }
def vectorCutsRow : OpenClaim := { program := "ythcnihchfkmphaa", sum := "a846647a8dfbbb011c086543513d3606a958fb6f68f419544e668d830547aa0c", func := "theseus/theseuslaw13.VectorCuts", spec := "vectorCuts", unfollowed := true, recurses := true, apart := false }
def VectorCutsSaid : Prop := vectorCutsRow.holds Try.pinned (OpenSpec.ofChange vectorCutsSpec)

/-- ITS FALSE NEIGHBOUR: 'it returns false'. Refute it at one input. -/
def vectorCutsWrong : ChangeSpec := { name := "vectorCuts", fn := fun _ => fun
  | [d1, d2, d3] => { results := [.lit (.bool false)], args := [d1, d2, d3] }
  | _ => none }
def VectorCutsWrongFalsely : Prop := vectorCutsRow.holds Try.pinned (OpenSpec.ofChange vectorCutsWrong)

/-- 'theseuslaw16.AtomsAll': WHATEVER THE INPUT: true; the input reads as it did. -/
def atomsAllSpec : ChangeSpec := { name := "atomsAll", fn := fun _ => fun
  | [d] => { results := [.lit (.bool true)], args := [d] }
  | _ => none }
def atomsAllRow : OpenClaim := { program := "ythcnihchfkmphaa", sum := "a846647a8dfbbb011c086543513d3606a958fb6f68f419544e668d830547aa0c", func := "theseus/theseuslaw16.AtomsAll", spec := "atomsAll", unfollowed := true, recurses := true, apart := false }
def AtomsAllSaid : Prop := atomsAllRow.holds Try.pinned (OpenSpec.ofChange atomsAllSpec)

/-- ITS FALSE NEIGHBOUR: 'it returns false'. Refute it at one input. -/
def atomsAllWrong : ChangeSpec := { name := "atomsAll", fn := fun _ => fun
  | [d] => { results := [.lit (.bool false)], args := [d] }
  | _ => none }
def AtomsAllWrongFalsely : Prop := atomsAllRow.holds Try.pinned (OpenSpec.ofChange atomsAllWrong)

/-- 'theseuslaw16.AtomsCuts': WHATEVER THE INPUT: true; the input reads as it did. -/
def atomsCutsSpec : ChangeSpec := { name := "atomsCuts", fn := fun _ => fun
  | [d] => { results := [.lit (.bool true)], args := [d] }
  | _ => none }
def atomsCutsRow : OpenClaim := { program := "ythcnihchfkmphaa", sum := "a846647a8dfbbb011c086543513d3606a958fb6f68f419544e668d830547aa0c", func := "theseus/theseuslaw16.AtomsCuts", spec := "atomsCuts", unfollowed := true, recurses := true, apart := false }
def AtomsCutsSaid : Prop := atomsCutsRow.holds Try.pinned (OpenSpec.ofChange atomsCutsSpec)

/-- ITS FALSE NEIGHBOUR: 'it returns false'. Refute it at one input. -/
def atomsCutsWrong : ChangeSpec := { name := "atomsCuts", fn := fun _ => fun
  | [d] => { results := [.lit (.bool false)], args := [d] }
  | _ => none }
def AtomsCutsWrongFalsely : Prop := atomsCutsRow.holds Try.pinned (OpenSpec.ofChange atomsCutsWrong)

/-- 'theseuslaw13.VectorSteps': WHATEVER THE INPUT: true; the input reads as it did. -/
def vectorStepsSpec : ChangeSpec := { name := "vectorSteps", fn := fun _ => fun
  | [d1, d2] => { results := [.lit (.bool true)], args := [d1, d2] }
  | _ => none }
def vectorStepsRow : OpenClaim := { program := "ythcnihchfkmphaa", sum := "a846647a8dfbbb011c086543513d3606a958fb6f68f419544e668d830547aa0c", func := "theseus/theseuslaw13.VectorSteps", spec := "vectorSteps", unfollowed := true, recurses := true, apart := false }
def VectorStepsSaid : Prop := vectorStepsRow.holds Try.pinned (OpenSpec.ofChange vectorStepsSpec)

/-- ITS FALSE NEIGHBOUR: 'it returns false'. Refute it at one input. -/
def vectorStepsWrong : ChangeSpec := { name := "vectorSteps", fn := fun _ => fun
  | [d1, d2] => { results := [.lit (.bool false)], args := [d1, d2] }
  | _ => none }
def VectorStepsWrongFalsely : Prop := vectorStepsRow.holds Try.pinned (OpenSpec.ofChange vectorStepsWrong)

/-- 'theseuslaw16.AtomsLeast': WHATEVER THE INPUT: true; the input reads as it did. -/
def atomsLeastSpec : ChangeSpec := { name := "atomsLeast", fn := fun _ => fun
  | [d] => { results := [.lit (.bool true)], args := [d] }
  | _ => none }
def atomsLeastRow : OpenClaim := { program := "ythcnihchfkmphaa", sum := "a846647a8dfbbb011c086543513d3606a958fb6f68f419544e668d830547aa0c", func := "theseus/theseuslaw16.AtomsLeast", spec := "atomsLeast", unfollowed := true, recurses := true, apart := false }
def AtomsLeastSaid : Prop := atomsLeastRow.holds Try.pinned (OpenSpec.ofChange atomsLeastSpec)

/-- ITS FALSE NEIGHBOUR: 'it returns false'. Refute it at one input. -/
def atomsLeastWrong : ChangeSpec := { name := "atomsLeast", fn := fun _ => fun
  | [d] => { results := [.lit (.bool false)], args := [d] }
  | _ => none }
def AtomsLeastWrongFalsely : Prop := atomsLeastRow.holds Try.pinned (OpenSpec.ofChange atomsLeastWrong)

/-- 'theseuslaw16.AtomsOne': WHATEVER THE INPUT: true; the input reads as it did. -/
def atomsOneSpec : ChangeSpec := { name := "atomsOne", fn := fun _ => fun
  | [d1, d2] => { results := [.lit (.bool true)], args := [d1, d2] }
  | _ => none }
def atomsOneRow : OpenClaim := { program := "ythcnihchfkmphaa", sum := "a846647a8dfbbb011c086543513d3606a958fb6f68f419544e668d830547aa0c", func := "theseus/theseuslaw16.AtomsOne", spec := "atomsOne", unfollowed := true, recurses := true, apart := false }
def AtomsOneSaid : Prop := atomsOneRow.holds Try.pinned (OpenSpec.ofChange atomsOneSpec)

/-- ITS FALSE NEIGHBOUR: 'it returns false'. Refute it at one input. -/
def atomsOneWrong : ChangeSpec := { name := "atomsOne", fn := fun _ => fun
  | [d1, d2] => { results := [.lit (.bool false)], args := [d1, d2] }
  | _ => none }
def AtomsOneWrongFalsely : Prop := atomsOneRow.holds Try.pinned (OpenSpec.ofChange atomsOneWrong)

/-- 'theseuslaw16.AtomsOwn': WHATEVER THE INPUT: true; the input reads as it did. -/
def atomsOwnSpec : ChangeSpec := { name := "atomsOwn", fn := fun _ => fun
  | [d1, d2] => { results := [.lit (.bool true)], args := [d1, d2] }
  | _ => none }
def atomsOwnRow : OpenClaim := { program := "ythcnihchfkmphaa", sum := "a846647a8dfbbb011c086543513d3606a958fb6f68f419544e668d830547aa0c", func := "theseus/theseuslaw16.AtomsOwn", spec := "atomsOwn", unfollowed := true, recurses := true, apart := false }
def AtomsOwnSaid : Prop := atomsOwnRow.holds Try.pinned (OpenSpec.ofChange atomsOwnSpec)

/-- ITS FALSE NEIGHBOUR: 'it returns false'. Refute it at one input. -/
def atomsOwnWrong : ChangeSpec := { name := "atomsOwn", fn := fun _ => fun
  | [d1, d2] => { results := [.lit (.bool false)], args := [d1, d2] }
  | _ => none }
def AtomsOwnWrongFalsely : Prop := atomsOwnRow.holds Try.pinned (OpenSpec.ofChange atomsOwnWrong)

/-- 'theseuslaw16.AtomsKeep': WHATEVER THE INPUT: true; the input reads as it did. -/
def atomsKeepSpec : ChangeSpec := { name := "atomsKeep", fn := fun _ => fun
  | [d1, d2] => { results := [.lit (.bool true)], args := [d1, d2] }
  | _ => none }
def atomsKeepRow : OpenClaim := { program := "ythcnihchfkmphaa", sum := "a846647a8dfbbb011c086543513d3606a958fb6f68f419544e668d830547aa0c", func := "theseus/theseuslaw16.AtomsKeep", spec := "atomsKeep", unfollowed := true, recurses := true, apart := false }
def AtomsKeepSaid : Prop := atomsKeepRow.holds Try.pinned (OpenSpec.ofChange atomsKeepSpec)

/-- ITS FALSE NEIGHBOUR: 'it returns false'. Refute it at one input. -/
def atomsKeepWrong : ChangeSpec := { name := "atomsKeep", fn := fun _ => fun
  | [d1, d2] => { results := [.lit (.bool false)], args := [d1, d2] }
  | _ => none }
def AtomsKeepWrongFalsely : Prop := atomsKeepRow.holds Try.pinned (OpenSpec.ofChange atomsKeepWrong)

/- THE SECOND FORM. 'bulk': how many values and letters a reading holds, each counted each time it is reached (what is shared counts as often as it is met; a slice's spare places count too). A statement '..UptoSaid' is the law's where the arguments, and the package variables that the reading takes, are together of bulk at most 1048576: NARROWER than '..Said'. Prove '..Said' where nothing that the law and all that it calls make is longer than what came in: it says more and counts as full. Else prove '..UptoSaid'. A law counts once. -/
mutual
def uptoBulk {H : Type} : DataW H → Nat
  | .lit (.string bytes) => bytes.length + 1
  | .lit _ => 1
  | .nil => 1
  | .ptr d => uptoBulk d + 1
  | .slice elems spare => uptoBulkAll elems + uptoBulkAll spare + 1
  | .agg parts => uptoBulkAll parts + 1
  | .iface _ d => uptoBulk d + 1
  | .map entries => uptoBulkEntries entries + 1
  | .held _ => 1
def uptoBulkAll {H : Type} : List (DataW H) → Nat
  | [] => 0
  | d :: r => uptoBulk d + uptoBulkAll r
def uptoBulkEntries {H : Type} : List (Lit × DataW H) → Nat
  | [] => 0
  | x :: r => uptoBulkEntry x + uptoBulkEntries r
def uptoBulkEntry {H : Type} : Lit × DataW H → Nat
  | (.string bytes, d) => bytes.length + uptoBulk d + 1
  | (_, d) => uptoBulk d + 1
 end
def uptoSmall : (H : Type) → List (DataW H) → Bool := fun _ ds => decide (uptoBulkAll ds ≤ 1048576)
def OpenSpec.upto (s : _root_.Go.ChangeSpec) : _root_.Go.OpenSpec := { _root_.Go.OpenSpec.ofChange s with cond := some uptoSmall }

/-- 'theseuslaw12.CutsNeeded', WHERE WHAT IT READS IS OF BULK AT MOST 1048576: true; the input reads as it did. -/
def cutsNeededUptoRow : OpenClaim := { program := "ythcnihchfkmphaa", sum := "a846647a8dfbbb011c086543513d3606a958fb6f68f419544e668d830547aa0c", func := "theseus/theseuslaw12.CutsNeeded", spec := "cutsNeeded", unfollowed := true, recurses := true, apart := false, narrowed := true }
def CutsNeededUptoSaid : Prop := cutsNeededUptoRow.holds Try.pinned (OpenSpec.upto cutsNeededSpec)

/-- 'theseuslaw19.CoverSplit', WHERE WHAT IT READS IS OF BULK AT MOST 1048576: true; the input reads as it did. -/
def coverSplitUptoRow : OpenClaim := { program := "ythcnihchfkmphaa", sum := "a846647a8dfbbb011c086543513d3606a958fb6f68f419544e668d830547aa0c", func := "theseus/theseuslaw19.CoverSplit", spec := "coverSplit", unfollowed := true, recurses := true, apart := false, narrowed := true }
def CoverSplitUptoSaid : Prop := coverSplitUptoRow.holds Try.pinned (OpenSpec.upto coverSplitSpec)

/-- 'theseuslaw12.CutsJoin', WHERE WHAT IT READS IS OF BULK AT MOST 1048576: true; the input reads as it did. -/
def cutsJoinUptoRow : OpenClaim := { program := "ythcnihchfkmphaa", sum := "a846647a8dfbbb011c086543513d3606a958fb6f68f419544e668d830547aa0c", func := "theseus/theseuslaw12.CutsJoin", spec := "cutsJoin", unfollowed := true, recurses := true, apart := false, narrowed := true }
def CutsJoinUptoSaid : Prop := cutsJoinUptoRow.holds Try.pinned (OpenSpec.upto cutsJoinSpec)

/-- 'theseuslaw12.CutsKeep', WHERE WHAT IT READS IS OF BULK AT MOST 1048576: true; the input reads as it did. -/
def cutsKeepUptoRow : OpenClaim := { program := "ythcnihchfkmphaa", sum := "a846647a8dfbbb011c086543513d3606a958fb6f68f419544e668d830547aa0c", func := "theseus/theseuslaw12.CutsKeep", spec := "cutsKeep", unfollowed := true, recurses := true, apart := false, narrowed := true }
def CutsKeepUptoSaid : Prop := cutsKeepUptoRow.holds Try.pinned (OpenSpec.upto cutsKeepSpec)

/-- 'theseuslaw19.CoverCuts', WHERE WHAT IT READS IS OF BULK AT MOST 1048576: true; the input reads as it did. -/
def coverCutsUptoRow : OpenClaim := { program := "ythcnihchfkmphaa", sum := "a846647a8dfbbb011c086543513d3606a958fb6f68f419544e668d830547aa0c", func := "theseus/theseuslaw19.CoverCuts", spec := "coverCuts", unfollowed := true, recurses := true, apart := false, narrowed := true }
def CoverCutsUptoSaid : Prop := coverCutsUptoRow.holds Try.pinned (OpenSpec.upto coverCutsSpec)

/-- 'theseuslaw19.CoverAll', WHERE WHAT IT READS IS OF BULK AT MOST 1048576: true; the input reads as it did. -/
def coverAllUptoRow : OpenClaim := { program := "ythcnihchfkmphaa", sum := "a846647a8dfbbb011c086543513d3606a958fb6f68f419544e668d830547aa0c", func := "theseus/theseuslaw19.CoverAll", spec := "coverAll", unfollowed := true, recurses := true, apart := false, narrowed := true }
def CoverAllUptoSaid : Prop := coverAllUptoRow.holds Try.pinned (OpenSpec.upto coverAllSpec)

/-- 'theseuslaw19.CoverPlaces', WHERE WHAT IT READS IS OF BULK AT MOST 1048576: true; the input reads as it did. -/
def coverPlacesUptoRow : OpenClaim := { program := "ythcnihchfkmphaa", sum := "a846647a8dfbbb011c086543513d3606a958fb6f68f419544e668d830547aa0c", func := "theseus/theseuslaw19.CoverPlaces", spec := "coverPlaces", unfollowed := true, recurses := true, apart := false, narrowed := true }
def CoverPlacesUptoSaid : Prop := coverPlacesUptoRow.holds Try.pinned (OpenSpec.upto coverPlacesSpec)

/-- 'theseuslaw19.CoverFinds', WHERE WHAT IT READS IS OF BULK AT MOST 1048576: true; the input reads as it did. -/
def coverFindsUptoRow : OpenClaim := { program := "ythcnihchfkmphaa", sum := "a846647a8dfbbb011c086543513d3606a958fb6f68f419544e668d830547aa0c", func := "theseus/theseuslaw19.CoverFinds", spec := "coverFinds", unfollowed := true, recurses := true, apart := false, narrowed := true }
def CoverFindsUptoSaid : Prop := coverFindsUptoRow.holds Try.pinned (OpenSpec.upto coverFindsSpec)

/-- 'theseuslaw13.VectorCuts', WHERE WHAT IT READS IS OF BULK AT MOST 1048576: true; the input reads as it did. -/
def vectorCutsUptoRow : OpenClaim := { program := "ythcnihchfkmphaa", sum := "a846647a8dfbbb011c086543513d3606a958fb6f68f419544e668d830547aa0c", func := "theseus/theseuslaw13.VectorCuts", spec := "vectorCuts", unfollowed := true, recurses := true, apart := false, narrowed := true }
def VectorCutsUptoSaid : Prop := vectorCutsUptoRow.holds Try.pinned (OpenSpec.upto vectorCutsSpec)

/-- 'theseuslaw16.AtomsAll', WHERE WHAT IT READS IS OF BULK AT MOST 1048576: true; the input reads as it did. -/
def atomsAllUptoRow : OpenClaim := { program := "ythcnihchfkmphaa", sum := "a846647a8dfbbb011c086543513d3606a958fb6f68f419544e668d830547aa0c", func := "theseus/theseuslaw16.AtomsAll", spec := "atomsAll", unfollowed := true, recurses := true, apart := false, narrowed := true }
def AtomsAllUptoSaid : Prop := atomsAllUptoRow.holds Try.pinned (OpenSpec.upto atomsAllSpec)

/-- 'theseuslaw16.AtomsCuts', WHERE WHAT IT READS IS OF BULK AT MOST 1048576: true; the input reads as it did. -/
def atomsCutsUptoRow : OpenClaim := { program := "ythcnihchfkmphaa", sum := "a846647a8dfbbb011c086543513d3606a958fb6f68f419544e668d830547aa0c", func := "theseus/theseuslaw16.AtomsCuts", spec := "atomsCuts", unfollowed := true, recurses := true, apart := false, narrowed := true }
def AtomsCutsUptoSaid : Prop := atomsCutsUptoRow.holds Try.pinned (OpenSpec.upto atomsCutsSpec)

/-- 'theseuslaw13.VectorSteps', WHERE WHAT IT READS IS OF BULK AT MOST 1048576: true; the input reads as it did. -/
def vectorStepsUptoRow : OpenClaim := { program := "ythcnihchfkmphaa", sum := "a846647a8dfbbb011c086543513d3606a958fb6f68f419544e668d830547aa0c", func := "theseus/theseuslaw13.VectorSteps", spec := "vectorSteps", unfollowed := true, recurses := true, apart := false, narrowed := true }
def VectorStepsUptoSaid : Prop := vectorStepsUptoRow.holds Try.pinned (OpenSpec.upto vectorStepsSpec)

/-- 'theseuslaw16.AtomsLeast', WHERE WHAT IT READS IS OF BULK AT MOST 1048576: true; the input reads as it did. -/
def atomsLeastUptoRow : OpenClaim := { program := "ythcnihchfkmphaa", sum := "a846647a8dfbbb011c086543513d3606a958fb6f68f419544e668d830547aa0c", func := "theseus/theseuslaw16.AtomsLeast", spec := "atomsLeast", unfollowed := true, recurses := true, apart := false, narrowed := true }
def AtomsLeastUptoSaid : Prop := atomsLeastUptoRow.holds Try.pinned (OpenSpec.upto atomsLeastSpec)

/-- 'theseuslaw16.AtomsOne', WHERE WHAT IT READS IS OF BULK AT MOST 1048576: true; the input reads as it did. -/
def atomsOneUptoRow : OpenClaim := { program := "ythcnihchfkmphaa", sum := "a846647a8dfbbb011c086543513d3606a958fb6f68f419544e668d830547aa0c", func := "theseus/theseuslaw16.AtomsOne", spec := "atomsOne", unfollowed := true, recurses := true, apart := false, narrowed := true }
def AtomsOneUptoSaid : Prop := atomsOneUptoRow.holds Try.pinned (OpenSpec.upto atomsOneSpec)

/-- 'theseuslaw16.AtomsOwn', WHERE WHAT IT READS IS OF BULK AT MOST 1048576: true; the input reads as it did. -/
def atomsOwnUptoRow : OpenClaim := { program := "ythcnihchfkmphaa", sum := "a846647a8dfbbb011c086543513d3606a958fb6f68f419544e668d830547aa0c", func := "theseus/theseuslaw16.AtomsOwn", spec := "atomsOwn", unfollowed := true, recurses := true, apart := false, narrowed := true }
def AtomsOwnUptoSaid : Prop := atomsOwnUptoRow.holds Try.pinned (OpenSpec.upto atomsOwnSpec)

/-- 'theseuslaw16.AtomsKeep', WHERE WHAT IT READS IS OF BULK AT MOST 1048576: true; the input reads as it did. -/
def atomsKeepUptoRow : OpenClaim := { program := "ythcnihchfkmphaa", sum := "a846647a8dfbbb011c086543513d3606a958fb6f68f419544e668d830547aa0c", func := "theseus/theseuslaw16.AtomsKeep", spec := "atomsKeep", unfollowed := true, recurses := true, apart := false, narrowed := true }
def AtomsKeepUptoSaid : Prop := atomsKeepUptoRow.holds Try.pinned (OpenSpec.upto atomsKeepSpec)

end Rows
end Go.Proofs.Ythcnihchfkmphaa
