/-
  No cell of these rows narrows 'for every input' (looked for: loops, veiled, ifaces, maps, wideKeys, modest, calm, conditions, laid).
  DERIVED. THE GIVEN ROWS OF THIS SEAT. 18 by the template 'for every input the law returns true; each argument reads behind the call as it read before'; 0 by the template 'total and deterministic' (their statements: YtamlalablblfeaaTotals.lean).
  GIVEN WITH THE SEED: the statements are not yours to turn. If you find one false, say at which input.
  Laid BY PROGRAM, IN A SANDBOX (cutbox-rows.mjs): the forced cells as the released guide's own fill.sh prints them over the translation 1e94a0ecf4357878… (all of the seat's roots in one cut). By AI agents, Wed Nov 11 2026. No macro, syntax, notation, axiom, sorry.
-/
import Derived.Test.YtamlalablblfeaaChecked
import GoSem.Claim
import GoSem.ClaimJoined
import GoSem.ClaimMapViews
import Derived.JoinedTies
import Derived.KernelRfl
namespace Go.Proofs.Ytamlalablblfeaa
/- THE CELL 'sum', in the pinned program and in every row, IS THE sha256 OF THE DUMP (.gsa) THAT YtamlalablblfeaaProg.lean LOADS. Nothing in Lean hashes anything: it is a label: what it is worth is what the hold of that sum in a sandbox is worth. -/
noncomputable def Try.pinned : Pinned := { name := "ytamlalablblfeaa", sum := "1e94a0ecf4357878fcf4627efda254dcd9138936a7b504c06a23ab8f2a41136f", checked := Try.checked }
namespace Rows
def none {H : Type} : Left H := { results := [], args := [] }

/-- 'theseuslaw16.AtomsAll': WHATEVER THE INPUT: true; the input reads as it did. -/
def atomsAllSpec : ChangeSpec := { name := "atomsAll", fn := fun _ => fun
  | [d] => { results := [.lit (.bool true)], args := [d] }
  | _ => none }
def atomsAllRow : OpenClaim := { program := "ytamlalablblfeaa", sum := "1e94a0ecf4357878fcf4627efda254dcd9138936a7b504c06a23ab8f2a41136f", func := "theseus/theseuslaw16.AtomsAll", spec := "atomsAll", unfollowed := true, recurses := true, apart := false }
def AtomsAllSaid : Prop := atomsAllRow.holds Try.pinned (OpenSpec.ofChange atomsAllSpec)

/-- ITS FALSE NEIGHBOUR: 'it returns false'. Refute it at one input. -/
def atomsAllWrong : ChangeSpec := { name := "atomsAll", fn := fun _ => fun
  | [d] => { results := [.lit (.bool false)], args := [d] }
  | _ => none }
def AtomsAllWrongFalsely : Prop := atomsAllRow.holds Try.pinned (OpenSpec.ofChange atomsAllWrong)

/-- 'theseuslaw16.AtomsCuts': WHATEVER THE INPUT: true; the input reads as it did. -/
def atomsCutsSpec : ChangeSpec := { name := "atomsCuts", fn := fun _ => fun
  | [d] => { results := [.lit (.bool true)], args := [d] }
  | _ => none }
def atomsCutsRow : OpenClaim := { program := "ytamlalablblfeaa", sum := "1e94a0ecf4357878fcf4627efda254dcd9138936a7b504c06a23ab8f2a41136f", func := "theseus/theseuslaw16.AtomsCuts", spec := "atomsCuts", unfollowed := true, recurses := true, apart := false }
def AtomsCutsSaid : Prop := atomsCutsRow.holds Try.pinned (OpenSpec.ofChange atomsCutsSpec)

/-- ITS FALSE NEIGHBOUR: 'it returns false'. Refute it at one input. -/
def atomsCutsWrong : ChangeSpec := { name := "atomsCuts", fn := fun _ => fun
  | [d] => { results := [.lit (.bool false)], args := [d] }
  | _ => none }
def AtomsCutsWrongFalsely : Prop := atomsCutsRow.holds Try.pinned (OpenSpec.ofChange atomsCutsWrong)

/-- 'theseuslaw16.AtomsLeast': WHATEVER THE INPUT: true; the input reads as it did. -/
def atomsLeastSpec : ChangeSpec := { name := "atomsLeast", fn := fun _ => fun
  | [d] => { results := [.lit (.bool true)], args := [d] }
  | _ => none }
def atomsLeastRow : OpenClaim := { program := "ytamlalablblfeaa", sum := "1e94a0ecf4357878fcf4627efda254dcd9138936a7b504c06a23ab8f2a41136f", func := "theseus/theseuslaw16.AtomsLeast", spec := "atomsLeast", unfollowed := true, recurses := true, apart := false }
def AtomsLeastSaid : Prop := atomsLeastRow.holds Try.pinned (OpenSpec.ofChange atomsLeastSpec)

/-- ITS FALSE NEIGHBOUR: 'it returns false'. Refute it at one input. -/
def atomsLeastWrong : ChangeSpec := { name := "atomsLeast", fn := fun _ => fun
  | [d] => { results := [.lit (.bool false)], args := [d] }
  | _ => none }
def AtomsLeastWrongFalsely : Prop := atomsLeastRow.holds Try.pinned (OpenSpec.ofChange atomsLeastWrong)

/-- 'theseuslaw16.AtomsOne': WHATEVER THE INPUT: true; the input reads as it did. -/
def atomsOneSpec : ChangeSpec := { name := "atomsOne", fn := fun _ => fun
  | [d1, d2] => { results := [.lit (.bool true)], args := [d1, d2] }
  | _ => none }
def atomsOneRow : OpenClaim := { program := "ytamlalablblfeaa", sum := "1e94a0ecf4357878fcf4627efda254dcd9138936a7b504c06a23ab8f2a41136f", func := "theseus/theseuslaw16.AtomsOne", spec := "atomsOne", unfollowed := true, recurses := true, apart := false }
def AtomsOneSaid : Prop := atomsOneRow.holds Try.pinned (OpenSpec.ofChange atomsOneSpec)

/-- ITS FALSE NEIGHBOUR: 'it returns false'. Refute it at one input. -/
def atomsOneWrong : ChangeSpec := { name := "atomsOne", fn := fun _ => fun
  | [d1, d2] => { results := [.lit (.bool false)], args := [d1, d2] }
  | _ => none }
def AtomsOneWrongFalsely : Prop := atomsOneRow.holds Try.pinned (OpenSpec.ofChange atomsOneWrong)

/-- 'theseuslaw16.AtomsOwn': WHATEVER THE INPUT: true; the input reads as it did. -/
def atomsOwnSpec : ChangeSpec := { name := "atomsOwn", fn := fun _ => fun
  | [d1, d2] => { results := [.lit (.bool true)], args := [d1, d2] }
  | _ => none }
def atomsOwnRow : OpenClaim := { program := "ytamlalablblfeaa", sum := "1e94a0ecf4357878fcf4627efda254dcd9138936a7b504c06a23ab8f2a41136f", func := "theseus/theseuslaw16.AtomsOwn", spec := "atomsOwn", unfollowed := true, recurses := true, apart := false }
def AtomsOwnSaid : Prop := atomsOwnRow.holds Try.pinned (OpenSpec.ofChange atomsOwnSpec)

/-- ITS FALSE NEIGHBOUR: 'it returns false'. Refute it at one input. -/
def atomsOwnWrong : ChangeSpec := { name := "atomsOwn", fn := fun _ => fun
  | [d1, d2] => { results := [.lit (.bool false)], args := [d1, d2] }
  | _ => none }
def AtomsOwnWrongFalsely : Prop := atomsOwnRow.holds Try.pinned (OpenSpec.ofChange atomsOwnWrong)

/-- 'theseuslaw16.AtomsKeep': WHATEVER THE INPUT: true; the input reads as it did. -/
def atomsKeepSpec : ChangeSpec := { name := "atomsKeep", fn := fun _ => fun
  | [d1, d2] => { results := [.lit (.bool true)], args := [d1, d2] }
  | _ => none }
def atomsKeepRow : OpenClaim := { program := "ytamlalablblfeaa", sum := "1e94a0ecf4357878fcf4627efda254dcd9138936a7b504c06a23ab8f2a41136f", func := "theseus/theseuslaw16.AtomsKeep", spec := "atomsKeep", unfollowed := true, recurses := true, apart := false }
def AtomsKeepSaid : Prop := atomsKeepRow.holds Try.pinned (OpenSpec.ofChange atomsKeepSpec)

/-- ITS FALSE NEIGHBOUR: 'it returns false'. Refute it at one input. -/
def atomsKeepWrong : ChangeSpec := { name := "atomsKeep", fn := fun _ => fun
  | [d1, d2] => { results := [.lit (.bool false)], args := [d1, d2] }
  | _ => none }
def AtomsKeepWrongFalsely : Prop := atomsKeepRow.holds Try.pinned (OpenSpec.ofChange atomsKeepWrong)

/-- 'theseuslaw20.CheckRanks': WHATEVER THE INPUT: true; the input reads as it did. -/
def checkRanksSpec : ChangeSpec := { name := "checkRanks", fn := fun _ => fun
  | [d1, d2] => { results := [.lit (.bool true)], args := [d1, d2] }
  | _ => none }
def checkRanksRow : OpenClaim := { program := "ytamlalablblfeaa", sum := "1e94a0ecf4357878fcf4627efda254dcd9138936a7b504c06a23ab8f2a41136f", func := "theseus/theseuslaw20.CheckRanks", spec := "checkRanks", unfollowed := true, recurses := true, apart := false }
def CheckRanksSaid : Prop := checkRanksRow.holds Try.pinned (OpenSpec.ofChange checkRanksSpec)

/-- ITS FALSE NEIGHBOUR: 'it returns false'. Refute it at one input. -/
def checkRanksWrong : ChangeSpec := { name := "checkRanks", fn := fun _ => fun
  | [d1, d2] => { results := [.lit (.bool false)], args := [d1, d2] }
  | _ => none }
def CheckRanksWrongFalsely : Prop := checkRanksRow.holds Try.pinned (OpenSpec.ofChange checkRanksWrong)

/-- 'theseuslaw20.CheckFirst': WHATEVER THE INPUT: true; the input reads as it did. -/
def checkFirstSpec : ChangeSpec := { name := "checkFirst", fn := fun _ => fun
  | [d1, d2, d3] => { results := [.lit (.bool true)], args := [d1, d2, d3] }
  | _ => none }
def checkFirstRow : OpenClaim := { program := "ytamlalablblfeaa", sum := "1e94a0ecf4357878fcf4627efda254dcd9138936a7b504c06a23ab8f2a41136f", func := "theseus/theseuslaw20.CheckFirst", spec := "checkFirst", unfollowed := true, recurses := true, apart := false }
def CheckFirstSaid : Prop := checkFirstRow.holds Try.pinned (OpenSpec.ofChange checkFirstSpec)

/-- ITS FALSE NEIGHBOUR: 'it returns false'. Refute it at one input. -/
def checkFirstWrong : ChangeSpec := { name := "checkFirst", fn := fun _ => fun
  | [d1, d2, d3] => { results := [.lit (.bool false)], args := [d1, d2, d3] }
  | _ => none }
def CheckFirstWrongFalsely : Prop := checkFirstRow.holds Try.pinned (OpenSpec.ofChange checkFirstWrong)

/-- 'theseuslaw20.CheckEnds': WHATEVER THE INPUT: true; the input reads as it did. -/
def checkEndsSpec : ChangeSpec := { name := "checkEnds", fn := fun _ => fun
  | [d1, d2] => { results := [.lit (.bool true)], args := [d1, d2] }
  | _ => none }
def checkEndsRow : OpenClaim := { program := "ytamlalablblfeaa", sum := "1e94a0ecf4357878fcf4627efda254dcd9138936a7b504c06a23ab8f2a41136f", func := "theseus/theseuslaw20.CheckEnds", spec := "checkEnds", unfollowed := true, recurses := true, apart := false }
def CheckEndsSaid : Prop := checkEndsRow.holds Try.pinned (OpenSpec.ofChange checkEndsSpec)

/-- ITS FALSE NEIGHBOUR: 'it returns false'. Refute it at one input. -/
def checkEndsWrong : ChangeSpec := { name := "checkEnds", fn := fun _ => fun
  | [d1, d2] => { results := [.lit (.bool false)], args := [d1, d2] }
  | _ => none }
def CheckEndsWrongFalsely : Prop := checkEndsRow.holds Try.pinned (OpenSpec.ofChange checkEndsWrong)

/-- 'theseuslaw20.CheckAll': WHATEVER THE INPUT: true; the input reads as it did. -/
def checkAllSpec : ChangeSpec := { name := "checkAll", fn := fun _ => fun
  | [d1, d2] => { results := [.lit (.bool true)], args := [d1, d2] }
  | _ => none }
def checkAllRow : OpenClaim := { program := "ytamlalablblfeaa", sum := "1e94a0ecf4357878fcf4627efda254dcd9138936a7b504c06a23ab8f2a41136f", func := "theseus/theseuslaw20.CheckAll", spec := "checkAll", unfollowed := true, recurses := true, apart := false }
def CheckAllSaid : Prop := checkAllRow.holds Try.pinned (OpenSpec.ofChange checkAllSpec)

/-- ITS FALSE NEIGHBOUR: 'it returns false'. Refute it at one input. -/
def checkAllWrong : ChangeSpec := { name := "checkAll", fn := fun _ => fun
  | [d1, d2] => { results := [.lit (.bool false)], args := [d1, d2] }
  | _ => none }
def CheckAllWrongFalsely : Prop := checkAllRow.holds Try.pinned (OpenSpec.ofChange checkAllWrong)

/-- 'theseuslaw20.CheckHolds': WHATEVER THE INPUT: true; the input reads as it did. -/
def checkHoldsSpec : ChangeSpec := { name := "checkHolds", fn := fun _ => fun
  | [d1, d2, d3] => { results := [.lit (.bool true)], args := [d1, d2, d3] }
  | _ => none }
def checkHoldsRow : OpenClaim := { program := "ytamlalablblfeaa", sum := "1e94a0ecf4357878fcf4627efda254dcd9138936a7b504c06a23ab8f2a41136f", func := "theseus/theseuslaw20.CheckHolds", spec := "checkHolds", unfollowed := true, recurses := true, apart := false }
def CheckHoldsSaid : Prop := checkHoldsRow.holds Try.pinned (OpenSpec.ofChange checkHoldsSpec)

/-- ITS FALSE NEIGHBOUR: 'it returns false'. Refute it at one input. -/
def checkHoldsWrong : ChangeSpec := { name := "checkHolds", fn := fun _ => fun
  | [d1, d2, d3] => { results := [.lit (.bool false)], args := [d1, d2, d3] }
  | _ => none }
def CheckHoldsWrongFalsely : Prop := checkHoldsRow.holds Try.pinned (OpenSpec.ofChange checkHoldsWrong)

/-- 'theseuslaw20.CheckSplit': WHATEVER THE INPUT: true; the input reads as it did. -/
def checkSplitSpec : ChangeSpec := { name := "checkSplit", fn := fun _ => fun
  | [d1, d2, d3] => { results := [.lit (.bool true)], args := [d1, d2, d3] }
  | _ => none }
def checkSplitRow : OpenClaim := { program := "ytamlalablblfeaa", sum := "1e94a0ecf4357878fcf4627efda254dcd9138936a7b504c06a23ab8f2a41136f", func := "theseus/theseuslaw20.CheckSplit", spec := "checkSplit", unfollowed := true, recurses := true, apart := false }
def CheckSplitSaid : Prop := checkSplitRow.holds Try.pinned (OpenSpec.ofChange checkSplitSpec)

/-- ITS FALSE NEIGHBOUR: 'it returns false'. Refute it at one input. -/
def checkSplitWrong : ChangeSpec := { name := "checkSplit", fn := fun _ => fun
  | [d1, d2, d3] => { results := [.lit (.bool false)], args := [d1, d2, d3] }
  | _ => none }
def CheckSplitWrongFalsely : Prop := checkSplitRow.holds Try.pinned (OpenSpec.ofChange checkSplitWrong)

/-- 'theseuslaw20.CheckTraces': WHATEVER THE INPUT: true; the input reads as it did. -/
def checkTracesSpec : ChangeSpec := { name := "checkTraces", fn := fun _ => fun
  | [d1, d2, d3] => { results := [.lit (.bool true)], args := [d1, d2, d3] }
  | _ => none }
def checkTracesRow : OpenClaim := { program := "ytamlalablblfeaa", sum := "1e94a0ecf4357878fcf4627efda254dcd9138936a7b504c06a23ab8f2a41136f", func := "theseus/theseuslaw20.CheckTraces", spec := "checkTraces", unfollowed := true, recurses := true, apart := false }
def CheckTracesSaid : Prop := checkTracesRow.holds Try.pinned (OpenSpec.ofChange checkTracesSpec)

/-- ITS FALSE NEIGHBOUR: 'it returns false'. Refute it at one input. -/
def checkTracesWrong : ChangeSpec := { name := "checkTraces", fn := fun _ => fun
  | [d1, d2, d3] => { results := [.lit (.bool false)], args := [d1, d2, d3] }
  | _ => none }
def CheckTracesWrongFalsely : Prop := checkTracesRow.holds Try.pinned (OpenSpec.ofChange checkTracesWrong)

/-- 'theseuslaw20.CheckSound': WHATEVER THE INPUT: true; the input reads as it did. -/
def checkSoundSpec : ChangeSpec := { name := "checkSound", fn := fun _ => fun
  | [d1, d2, d3] => { results := [.lit (.bool true)], args := [d1, d2, d3] }
  | _ => none }
def checkSoundRow : OpenClaim := { program := "ytamlalablblfeaa", sum := "1e94a0ecf4357878fcf4627efda254dcd9138936a7b504c06a23ab8f2a41136f", func := "theseus/theseuslaw20.CheckSound", spec := "checkSound", unfollowed := true, recurses := true, apart := false }
def CheckSoundSaid : Prop := checkSoundRow.holds Try.pinned (OpenSpec.ofChange checkSoundSpec)

/-- ITS FALSE NEIGHBOUR: 'it returns false'. Refute it at one input. -/
def checkSoundWrong : ChangeSpec := { name := "checkSound", fn := fun _ => fun
  | [d1, d2, d3] => { results := [.lit (.bool false)], args := [d1, d2, d3] }
  | _ => none }
def CheckSoundWrongFalsely : Prop := checkSoundRow.holds Try.pinned (OpenSpec.ofChange checkSoundWrong)

/-- 'theseuslaw21.AnalyzeSmall': WHATEVER THE INPUT: true; the input reads as it did. -/
def analyzeSmallSpec : ChangeSpec := { name := "analyzeSmall", fn := fun _ => fun
  | [d] => { results := [.lit (.bool true)], args := [d] }
  | _ => none }
def analyzeSmallRow : OpenClaim := { program := "ytamlalablblfeaa", sum := "1e94a0ecf4357878fcf4627efda254dcd9138936a7b504c06a23ab8f2a41136f", func := "theseus/theseuslaw21.AnalyzeSmall", spec := "analyzeSmall", unfollowed := true, recurses := true, apart := false }
def AnalyzeSmallSaid : Prop := analyzeSmallRow.holds Try.pinned (OpenSpec.ofChange analyzeSmallSpec)

/-- ITS FALSE NEIGHBOUR: 'it returns false'. Refute it at one input. -/
def analyzeSmallWrong : ChangeSpec := { name := "analyzeSmall", fn := fun _ => fun
  | [d] => { results := [.lit (.bool false)], args := [d] }
  | _ => none }
def AnalyzeSmallWrongFalsely : Prop := analyzeSmallRow.holds Try.pinned (OpenSpec.ofChange analyzeSmallWrong)

/-- 'theseuslaw21.AnalyzeWide': WHATEVER THE INPUT: true; the input reads as it did. -/
def analyzeWideSpec : ChangeSpec := { name := "analyzeWide", fn := fun _ => fun
  | [d] => { results := [.lit (.bool true)], args := [d] }
  | _ => none }
def analyzeWideRow : OpenClaim := { program := "ytamlalablblfeaa", sum := "1e94a0ecf4357878fcf4627efda254dcd9138936a7b504c06a23ab8f2a41136f", func := "theseus/theseuslaw21.AnalyzeWide", spec := "analyzeWide", unfollowed := true, recurses := true, apart := false }
def AnalyzeWideSaid : Prop := analyzeWideRow.holds Try.pinned (OpenSpec.ofChange analyzeWideSpec)

/-- ITS FALSE NEIGHBOUR: 'it returns false'. Refute it at one input. -/
def analyzeWideWrong : ChangeSpec := { name := "analyzeWide", fn := fun _ => fun
  | [d] => { results := [.lit (.bool false)], args := [d] }
  | _ => none }
def AnalyzeWideWrongFalsely : Prop := analyzeWideRow.holds Try.pinned (OpenSpec.ofChange analyzeWideWrong)

/-- 'theseuslaw21.AnalyzeRanks': WHATEVER THE INPUT: true; the input reads as it did. -/
def analyzeRanksSpec : ChangeSpec := { name := "analyzeRanks", fn := fun _ => fun
  | [d] => { results := [.lit (.bool true)], args := [d] }
  | _ => none }
def analyzeRanksRow : OpenClaim := { program := "ytamlalablblfeaa", sum := "1e94a0ecf4357878fcf4627efda254dcd9138936a7b504c06a23ab8f2a41136f", func := "theseus/theseuslaw21.AnalyzeRanks", spec := "analyzeRanks", unfollowed := true, recurses := true, apart := false }
def AnalyzeRanksSaid : Prop := analyzeRanksRow.holds Try.pinned (OpenSpec.ofChange analyzeRanksSpec)

/-- ITS FALSE NEIGHBOUR: 'it returns false'. Refute it at one input. -/
def analyzeRanksWrong : ChangeSpec := { name := "analyzeRanks", fn := fun _ => fun
  | [d] => { results := [.lit (.bool false)], args := [d] }
  | _ => none }
def AnalyzeRanksWrongFalsely : Prop := analyzeRanksRow.holds Try.pinned (OpenSpec.ofChange analyzeRanksWrong)

/-- 'theseuslaw21.AnalyzeCut': WHATEVER THE INPUT: true; the input reads as it did. -/
def analyzeCutSpec : ChangeSpec := { name := "analyzeCut", fn := fun _ => fun
  | [d] => { results := [.lit (.bool true)], args := [d] }
  | _ => none }
def analyzeCutRow : OpenClaim := { program := "ytamlalablblfeaa", sum := "1e94a0ecf4357878fcf4627efda254dcd9138936a7b504c06a23ab8f2a41136f", func := "theseus/theseuslaw21.AnalyzeCut", spec := "analyzeCut", unfollowed := true, recurses := true, apart := false }
def AnalyzeCutSaid : Prop := analyzeCutRow.holds Try.pinned (OpenSpec.ofChange analyzeCutSpec)

/-- ITS FALSE NEIGHBOUR: 'it returns false'. Refute it at one input. -/
def analyzeCutWrong : ChangeSpec := { name := "analyzeCut", fn := fun _ => fun
  | [d] => { results := [.lit (.bool false)], args := [d] }
  | _ => none }
def AnalyzeCutWrongFalsely : Prop := analyzeCutRow.holds Try.pinned (OpenSpec.ofChange analyzeCutWrong)

/- THE SECOND FORM. 'bulk': how many values and letters a reading holds, each counted each time it is reached (what is shared counts as often as it is met; a slice's spare places count too). A statement '..UptoSaid' is the law's where the arguments, and the package variables that the reading takes, are together of bulk at most 1048576: NARROWER than '..Said'. Prove '..Said' where nothing that the law and all that it calls make is longer than what came in: it says more and counts as full. Else prove '..UptoSaid'. A law counts once. -/
mutual
def uptoBulk {H : Type} : DataW H → Nat
  | .lit (.string bytes) => bytes.length + 1
  | .lit _ => 1
  | .nil => 1
  | .ptr d => uptoBulk d + 1
  | .slice elems spare => uptoBulkAll elems + uptoBulkAll spare + 1
  | .agg parts => uptoBulkAll parts + 1
  | .iface _ d => uptoBulk d + 1
  | .map entries => uptoBulkEntries entries + 1
  | .held _ => 1
def uptoBulkAll {H : Type} : List (DataW H) → Nat
  | [] => 0
  | d :: r => uptoBulk d + uptoBulkAll r
def uptoBulkEntries {H : Type} : List (Lit × DataW H) → Nat
  | [] => 0
  | x :: r => uptoBulkEntry x + uptoBulkEntries r
def uptoBulkEntry {H : Type} : Lit × DataW H → Nat
  | (.string bytes, d) => bytes.length + uptoBulk d + 1
  | (_, d) => uptoBulk d + 1
 end
def uptoSmall : (H : Type) → List (DataW H) → Bool := fun _ ds => decide (uptoBulkAll ds ≤ 1048576)
def OpenSpec.upto (s : _root_.Go.ChangeSpec) : _root_.Go.OpenSpec := { _root_.Go.OpenSpec.ofChange s with cond := some uptoSmall }

/-- 'theseuslaw16.AtomsAll', WHERE WHAT IT READS IS OF BULK AT MOST 1048576: true; the input reads as it did. -/
def atomsAllUptoRow : OpenClaim := { program := "ytamlalablblfeaa", sum := "1e94a0ecf4357878fcf4627efda254dcd9138936a7b504c06a23ab8f2a41136f", func := "theseus/theseuslaw16.AtomsAll", spec := "atomsAll", unfollowed := true, recurses := true, apart := false, narrowed := true }
def AtomsAllUptoSaid : Prop := atomsAllUptoRow.holds Try.pinned (OpenSpec.upto atomsAllSpec)

/-- 'theseuslaw16.AtomsCuts', WHERE WHAT IT READS IS OF BULK AT MOST 1048576: true; the input reads as it did. -/
def atomsCutsUptoRow : OpenClaim := { program := "ytamlalablblfeaa", sum := "1e94a0ecf4357878fcf4627efda254dcd9138936a7b504c06a23ab8f2a41136f", func := "theseus/theseuslaw16.AtomsCuts", spec := "atomsCuts", unfollowed := true, recurses := true, apart := false, narrowed := true }
def AtomsCutsUptoSaid : Prop := atomsCutsUptoRow.holds Try.pinned (OpenSpec.upto atomsCutsSpec)

/-- 'theseuslaw16.AtomsLeast', WHERE WHAT IT READS IS OF BULK AT MOST 1048576: true; the input reads as it did. -/
def atomsLeastUptoRow : OpenClaim := { program := "ytamlalablblfeaa", sum := "1e94a0ecf4357878fcf4627efda254dcd9138936a7b504c06a23ab8f2a41136f", func := "theseus/theseuslaw16.AtomsLeast", spec := "atomsLeast", unfollowed := true, recurses := true, apart := false, narrowed := true }
def AtomsLeastUptoSaid : Prop := atomsLeastUptoRow.holds Try.pinned (OpenSpec.upto atomsLeastSpec)

/-- 'theseuslaw16.AtomsOne', WHERE WHAT IT READS IS OF BULK AT MOST 1048576: true; the input reads as it did. -/
def atomsOneUptoRow : OpenClaim := { program := "ytamlalablblfeaa", sum := "1e94a0ecf4357878fcf4627efda254dcd9138936a7b504c06a23ab8f2a41136f", func := "theseus/theseuslaw16.AtomsOne", spec := "atomsOne", unfollowed := true, recurses := true, apart := false, narrowed := true }
def AtomsOneUptoSaid : Prop := atomsOneUptoRow.holds Try.pinned (OpenSpec.upto atomsOneSpec)

/-- 'theseuslaw16.AtomsOwn', WHERE WHAT IT READS IS OF BULK AT MOST 1048576: true; the input reads as it did. -/
def atomsOwnUptoRow : OpenClaim := { program := "ytamlalablblfeaa", sum := "1e94a0ecf4357878fcf4627efda254dcd9138936a7b504c06a23ab8f2a41136f", func := "theseus/theseuslaw16.AtomsOwn", spec := "atomsOwn", unfollowed := true, recurses := true, apart := false, narrowed := true }
def AtomsOwnUptoSaid : Prop := atomsOwnUptoRow.holds Try.pinned (OpenSpec.upto atomsOwnSpec)

/-- 'theseuslaw16.AtomsKeep', WHERE WHAT IT READS IS OF BULK AT MOST 1048576: true; the input reads as it did. -/
def atomsKeepUptoRow : OpenClaim := { program := "ytamlalablblfeaa", sum := "1e94a0ecf4357878fcf4627efda254dcd9138936a7b504c06a23ab8f2a41136f", func := "theseus/theseuslaw16.AtomsKeep", spec := "atomsKeep", unfollowed := true, recurses := true, apart := false, narrowed := true }
def AtomsKeepUptoSaid : Prop := atomsKeepUptoRow.holds Try.pinned (OpenSpec.upto atomsKeepSpec)

/-- 'theseuslaw20.CheckRanks', WHERE WHAT IT READS IS OF BULK AT MOST 1048576: true; the input reads as it did. -/
def checkRanksUptoRow : OpenClaim := { program := "ytamlalablblfeaa", sum := "1e94a0ecf4357878fcf4627efda254dcd9138936a7b504c06a23ab8f2a41136f", func := "theseus/theseuslaw20.CheckRanks", spec := "checkRanks", unfollowed := true, recurses := true, apart := false, narrowed := true }
def CheckRanksUptoSaid : Prop := checkRanksUptoRow.holds Try.pinned (OpenSpec.upto checkRanksSpec)

/-- 'theseuslaw20.CheckFirst', WHERE WHAT IT READS IS OF BULK AT MOST 1048576: true; the input reads as it did. -/
def checkFirstUptoRow : OpenClaim := { program := "ytamlalablblfeaa", sum := "1e94a0ecf4357878fcf4627efda254dcd9138936a7b504c06a23ab8f2a41136f", func := "theseus/theseuslaw20.CheckFirst", spec := "checkFirst", unfollowed := true, recurses := true, apart := false, narrowed := true }
def CheckFirstUptoSaid : Prop := checkFirstUptoRow.holds Try.pinned (OpenSpec.upto checkFirstSpec)

/-- 'theseuslaw20.CheckEnds', WHERE WHAT IT READS IS OF BULK AT MOST 1048576: true; the input reads as it did. -/
def checkEndsUptoRow : OpenClaim := { program := "ytamlalablblfeaa", sum := "1e94a0ecf4357878fcf4627efda254dcd9138936a7b504c06a23ab8f2a41136f", func := "theseus/theseuslaw20.CheckEnds", spec := "checkEnds", unfollowed := true, recurses := true, apart := false, narrowed := true }
def CheckEndsUptoSaid : Prop := checkEndsUptoRow.holds Try.pinned (OpenSpec.upto checkEndsSpec)

/-- 'theseuslaw20.CheckAll', WHERE WHAT IT READS IS OF BULK AT MOST 1048576: true; the input reads as it did. -/
def checkAllUptoRow : OpenClaim := { program := "ytamlalablblfeaa", sum := "1e94a0ecf4357878fcf4627efda254dcd9138936a7b504c06a23ab8f2a41136f", func := "theseus/theseuslaw20.CheckAll", spec := "checkAll", unfollowed := true, recurses := true, apart := false, narrowed := true }
def CheckAllUptoSaid : Prop := checkAllUptoRow.holds Try.pinned (OpenSpec.upto checkAllSpec)

/-- 'theseuslaw20.CheckHolds', WHERE WHAT IT READS IS OF BULK AT MOST 1048576: true; the input reads as it did. -/
def checkHoldsUptoRow : OpenClaim := { program := "ytamlalablblfeaa", sum := "1e94a0ecf4357878fcf4627efda254dcd9138936a7b504c06a23ab8f2a41136f", func := "theseus/theseuslaw20.CheckHolds", spec := "checkHolds", unfollowed := true, recurses := true, apart := false, narrowed := true }
def CheckHoldsUptoSaid : Prop := checkHoldsUptoRow.holds Try.pinned (OpenSpec.upto checkHoldsSpec)

/-- 'theseuslaw20.CheckSplit', WHERE WHAT IT READS IS OF BULK AT MOST 1048576: true; the input reads as it did. -/
def checkSplitUptoRow : OpenClaim := { program := "ytamlalablblfeaa", sum := "1e94a0ecf4357878fcf4627efda254dcd9138936a7b504c06a23ab8f2a41136f", func := "theseus/theseuslaw20.CheckSplit", spec := "checkSplit", unfollowed := true, recurses := true, apart := false, narrowed := true }
def CheckSplitUptoSaid : Prop := checkSplitUptoRow.holds Try.pinned (OpenSpec.upto checkSplitSpec)

/-- 'theseuslaw20.CheckTraces', WHERE WHAT IT READS IS OF BULK AT MOST 1048576: true; the input reads as it did. -/
def checkTracesUptoRow : OpenClaim := { program := "ytamlalablblfeaa", sum := "1e94a0ecf4357878fcf4627efda254dcd9138936a7b504c06a23ab8f2a41136f", func := "theseus/theseuslaw20.CheckTraces", spec := "checkTraces", unfollowed := true, recurses := true, apart := false, narrowed := true }
def CheckTracesUptoSaid : Prop := checkTracesUptoRow.holds Try.pinned (OpenSpec.upto checkTracesSpec)

/-- 'theseuslaw20.CheckSound', WHERE WHAT IT READS IS OF BULK AT MOST 1048576: true; the input reads as it did. -/
def checkSoundUptoRow : OpenClaim := { program := "ytamlalablblfeaa", sum := "1e94a0ecf4357878fcf4627efda254dcd9138936a7b504c06a23ab8f2a41136f", func := "theseus/theseuslaw20.CheckSound", spec := "checkSound", unfollowed := true, recurses := true, apart := false, narrowed := true }
def CheckSoundUptoSaid : Prop := checkSoundUptoRow.holds Try.pinned (OpenSpec.upto checkSoundSpec)

/-- 'theseuslaw21.AnalyzeSmall', WHERE WHAT IT READS IS OF BULK AT MOST 1048576: true; the input reads as it did. -/
def analyzeSmallUptoRow : OpenClaim := { program := "ytamlalablblfeaa", sum := "1e94a0ecf4357878fcf4627efda254dcd9138936a7b504c06a23ab8f2a41136f", func := "theseus/theseuslaw21.AnalyzeSmall", spec := "analyzeSmall", unfollowed := true, recurses := true, apart := false, narrowed := true }
def AnalyzeSmallUptoSaid : Prop := analyzeSmallUptoRow.holds Try.pinned (OpenSpec.upto analyzeSmallSpec)

/-- 'theseuslaw21.AnalyzeWide', WHERE WHAT IT READS IS OF BULK AT MOST 1048576: true; the input reads as it did. -/
def analyzeWideUptoRow : OpenClaim := { program := "ytamlalablblfeaa", sum := "1e94a0ecf4357878fcf4627efda254dcd9138936a7b504c06a23ab8f2a41136f", func := "theseus/theseuslaw21.AnalyzeWide", spec := "analyzeWide", unfollowed := true, recurses := true, apart := false, narrowed := true }
def AnalyzeWideUptoSaid : Prop := analyzeWideUptoRow.holds Try.pinned (OpenSpec.upto analyzeWideSpec)

/-- 'theseuslaw21.AnalyzeRanks', WHERE WHAT IT READS IS OF BULK AT MOST 1048576: true; the input reads as it did. -/
def analyzeRanksUptoRow : OpenClaim := { program := "ytamlalablblfeaa", sum := "1e94a0ecf4357878fcf4627efda254dcd9138936a7b504c06a23ab8f2a41136f", func := "theseus/theseuslaw21.AnalyzeRanks", spec := "analyzeRanks", unfollowed := true, recurses := true, apart := false, narrowed := true }
def AnalyzeRanksUptoSaid : Prop := analyzeRanksUptoRow.holds Try.pinned (OpenSpec.upto analyzeRanksSpec)

/-- 'theseuslaw21.AnalyzeCut', WHERE WHAT IT READS IS OF BULK AT MOST 1048576: true; the input reads as it did. -/
def analyzeCutUptoRow : OpenClaim := { program := "ytamlalablblfeaa", sum := "1e94a0ecf4357878fcf4627efda254dcd9138936a7b504c06a23ab8f2a41136f", func := "theseus/theseuslaw21.AnalyzeCut", spec := "analyzeCut", unfollowed := true, recurses := true, apart := false, narrowed := true }
def AnalyzeCutUptoSaid : Prop := analyzeCutUptoRow.holds Try.pinned (OpenSpec.upto analyzeCutSpec)

end Rows
end Go.Proofs.Ytamlalablblfeaa
