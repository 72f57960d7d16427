/-
  No cell of these rows narrows 'for every input' (looked for: loops, veiled, ifaces, maps, wideKeys, modest, calm, conditions, laid).
  DERIVED. THE GIVEN ROWS OF THIS SEAT. 12 by the template 'for every input the law returns true; each argument reads behind the call as it read before'; 0 by the template 'total and deterministic' (their statements: YtpfkfboohblgoaaTotals.lean).
  GIVEN WITH THE SEED: the statements are not yours to turn. If you find one false, say at which input.
  Laid BY PROGRAM, IN A SANDBOX (cutbox-rows.mjs): the forced cells as the released guide's own fill.sh prints them over the translation 0a147a96f4e0bfde… (all of the seat's roots in one cut). By AI agents, Wed Nov 11 2026. No macro, syntax, notation, axiom, sorry.
-/
import Derived.Test.YtpfkfboohblgoaaChecked
import GoSem.Claim
import GoSem.ClaimJoined
import GoSem.ClaimMapViews
import Derived.JoinedTies
import Derived.KernelRfl
namespace Go.Proofs.Ytpfkfboohblgoaa
/- THE CELL 'sum', in the pinned program and in every row, IS THE sha256 OF THE DUMP (.gsa) THAT YtpfkfboohblgoaaProg.lean LOADS. Nothing in Lean hashes anything: it is a label: what it is worth is what the hold of that sum in a sandbox is worth. -/
noncomputable def Try.pinned : Pinned := { name := "ytpfkfboohblgoaa", sum := "0a147a96f4e0bfde9b61bd4be77748f236646478f51428cd5dffe874102fc597", checked := Try.checked }
namespace Rows
def none {H : Type} : Left H := { results := [], args := [] }

/-- 'theseuslaw20.CheckRanks': WHATEVER THE INPUT: true; the input reads as it did. -/
def checkRanksSpec : ChangeSpec := { name := "checkRanks", fn := fun _ => fun
  | [d1, d2] => { results := [.lit (.bool true)], args := [d1, d2] }
  | _ => none }
def checkRanksRow : OpenClaim := { program := "ytpfkfboohblgoaa", sum := "0a147a96f4e0bfde9b61bd4be77748f236646478f51428cd5dffe874102fc597", func := "theseus/theseuslaw20.CheckRanks", spec := "checkRanks", unfollowed := true, recurses := true, apart := false }
def CheckRanksSaid : Prop := checkRanksRow.holds Try.pinned (OpenSpec.ofChange checkRanksSpec)

/-- ITS FALSE NEIGHBOUR: 'it returns false'. Refute it at one input. -/
def checkRanksWrong : ChangeSpec := { name := "checkRanks", fn := fun _ => fun
  | [d1, d2] => { results := [.lit (.bool false)], args := [d1, d2] }
  | _ => none }
def CheckRanksWrongFalsely : Prop := checkRanksRow.holds Try.pinned (OpenSpec.ofChange checkRanksWrong)

/-- 'theseuslaw20.CheckFirst': WHATEVER THE INPUT: true; the input reads as it did. -/
def checkFirstSpec : ChangeSpec := { name := "checkFirst", fn := fun _ => fun
  | [d1, d2, d3] => { results := [.lit (.bool true)], args := [d1, d2, d3] }
  | _ => none }
def checkFirstRow : OpenClaim := { program := "ytpfkfboohblgoaa", sum := "0a147a96f4e0bfde9b61bd4be77748f236646478f51428cd5dffe874102fc597", func := "theseus/theseuslaw20.CheckFirst", spec := "checkFirst", unfollowed := true, recurses := true, apart := false }
def CheckFirstSaid : Prop := checkFirstRow.holds Try.pinned (OpenSpec.ofChange checkFirstSpec)

/-- ITS FALSE NEIGHBOUR: 'it returns false'. Refute it at one input. -/
def checkFirstWrong : ChangeSpec := { name := "checkFirst", fn := fun _ => fun
  | [d1, d2, d3] => { results := [.lit (.bool false)], args := [d1, d2, d3] }
  | _ => none }
def CheckFirstWrongFalsely : Prop := checkFirstRow.holds Try.pinned (OpenSpec.ofChange checkFirstWrong)

/-- 'theseuslaw20.CheckEnds': WHATEVER THE INPUT: true; the input reads as it did. -/
def checkEndsSpec : ChangeSpec := { name := "checkEnds", fn := fun _ => fun
  | [d1, d2] => { results := [.lit (.bool true)], args := [d1, d2] }
  | _ => none }
def checkEndsRow : OpenClaim := { program := "ytpfkfboohblgoaa", sum := "0a147a96f4e0bfde9b61bd4be77748f236646478f51428cd5dffe874102fc597", func := "theseus/theseuslaw20.CheckEnds", spec := "checkEnds", unfollowed := true, recurses := true, apart := false }
def CheckEndsSaid : Prop := checkEndsRow.holds Try.pinned (OpenSpec.ofChange checkEndsSpec)

/-- ITS FALSE NEIGHBOUR: 'it returns false'. Refute it at one input. -/
def checkEndsWrong : ChangeSpec := { name := "checkEnds", fn := fun _ => fun
  | [d1, d2] => { results := [.lit (.bool false)], args := [d1, d2] }
  | _ => none }
def CheckEndsWrongFalsely : Prop := checkEndsRow.holds Try.pinned (OpenSpec.ofChange checkEndsWrong)

/-- 'theseuslaw20.CheckAll': WHATEVER THE INPUT: true; the input reads as it did. -/
def checkAllSpec : ChangeSpec := { name := "checkAll", fn := fun _ => fun
  | [d1, d2] => { results := [.lit (.bool true)], args := [d1, d2] }
  | _ => none }
def checkAllRow : OpenClaim := { program := "ytpfkfboohblgoaa", sum := "0a147a96f4e0bfde9b61bd4be77748f236646478f51428cd5dffe874102fc597", func := "theseus/theseuslaw20.CheckAll", spec := "checkAll", unfollowed := true, recurses := true, apart := false }
def CheckAllSaid : Prop := checkAllRow.holds Try.pinned (OpenSpec.ofChange checkAllSpec)

/-- ITS FALSE NEIGHBOUR: 'it returns false'. Refute it at one input. -/
def checkAllWrong : ChangeSpec := { name := "checkAll", fn := fun _ => fun
  | [d1, d2] => { results := [.lit (.bool false)], args := [d1, d2] }
  | _ => none }
def CheckAllWrongFalsely : Prop := checkAllRow.holds Try.pinned (OpenSpec.ofChange checkAllWrong)

/-- 'theseuslaw20.CheckHolds': WHATEVER THE INPUT: true; the input reads as it did. -/
def checkHoldsSpec : ChangeSpec := { name := "checkHolds", fn := fun _ => fun
  | [d1, d2, d3] => { results := [.lit (.bool true)], args := [d1, d2, d3] }
  | _ => none }
def checkHoldsRow : OpenClaim := { program := "ytpfkfboohblgoaa", sum := "0a147a96f4e0bfde9b61bd4be77748f236646478f51428cd5dffe874102fc597", func := "theseus/theseuslaw20.CheckHolds", spec := "checkHolds", unfollowed := true, recurses := true, apart := false }
def CheckHoldsSaid : Prop := checkHoldsRow.holds Try.pinned (OpenSpec.ofChange checkHoldsSpec)

/-- ITS FALSE NEIGHBOUR: 'it returns false'. Refute it at one input. -/
def checkHoldsWrong : ChangeSpec := { name := "checkHolds", fn := fun _ => fun
  | [d1, d2, d3] => { results := [.lit (.bool false)], args := [d1, d2, d3] }
  | _ => none }
def CheckHoldsWrongFalsely : Prop := checkHoldsRow.holds Try.pinned (OpenSpec.ofChange checkHoldsWrong)

/-- 'theseuslaw20.CheckSplit': WHATEVER THE INPUT: true; the input reads as it did. -/
def checkSplitSpec : ChangeSpec := { name := "checkSplit", fn := fun _ => fun
  | [d1, d2, d3] => { results := [.lit (.bool true)], args := [d1, d2, d3] }
  | _ => none }
def checkSplitRow : OpenClaim := { program := "ytpfkfboohblgoaa", sum := "0a147a96f4e0bfde9b61bd4be77748f236646478f51428cd5dffe874102fc597", func := "theseus/theseuslaw20.CheckSplit", spec := "checkSplit", unfollowed := true, recurses := true, apart := false }
def CheckSplitSaid : Prop := checkSplitRow.holds Try.pinned (OpenSpec.ofChange checkSplitSpec)

/-- ITS FALSE NEIGHBOUR: 'it returns false'. Refute it at one input. -/
def checkSplitWrong : ChangeSpec := { name := "checkSplit", fn := fun _ => fun
  | [d1, d2, d3] => { results := [.lit (.bool false)], args := [d1, d2, d3] }
  | _ => none }
def CheckSplitWrongFalsely : Prop := checkSplitRow.holds Try.pinned (OpenSpec.ofChange checkSplitWrong)

/-- 'theseuslaw20.CheckTraces': WHATEVER THE INPUT: true; the input reads as it did. -/
def checkTracesSpec : ChangeSpec := { name := "checkTraces", fn := fun _ => fun
  | [d1, d2, d3] => { results := [.lit (.bool true)], args := [d1, d2, d3] }
  | _ => none }
def checkTracesRow : OpenClaim := { program := "ytpfkfboohblgoaa", sum := "0a147a96f4e0bfde9b61bd4be77748f236646478f51428cd5dffe874102fc597", func := "theseus/theseuslaw20.CheckTraces", spec := "checkTraces", unfollowed := true, recurses := true, apart := false }
def CheckTracesSaid : Prop := checkTracesRow.holds Try.pinned (OpenSpec.ofChange checkTracesSpec)

/-- ITS FALSE NEIGHBOUR: 'it returns false'. Refute it at one input. -/
def checkTracesWrong : ChangeSpec := { name := "checkTraces", fn := fun _ => fun
  | [d1, d2, d3] => { results := [.lit (.bool false)], args := [d1, d2, d3] }
  | _ => none }
def CheckTracesWrongFalsely : Prop := checkTracesRow.holds Try.pinned (OpenSpec.ofChange checkTracesWrong)

/-- 'theseuslaw20.CheckSound': WHATEVER THE INPUT: true; the input reads as it did. -/
def checkSoundSpec : ChangeSpec := { name := "checkSound", fn := fun _ => fun
  | [d1, d2, d3] => { results := [.lit (.bool true)], args := [d1, d2, d3] }
  | _ => none }
def checkSoundRow : OpenClaim := { program := "ytpfkfboohblgoaa", sum := "0a147a96f4e0bfde9b61bd4be77748f236646478f51428cd5dffe874102fc597", func := "theseus/theseuslaw20.CheckSound", spec := "checkSound", unfollowed := true, recurses := true, apart := false }
def CheckSoundSaid : Prop := checkSoundRow.holds Try.pinned (OpenSpec.ofChange checkSoundSpec)

/-- ITS FALSE NEIGHBOUR: 'it returns false'. Refute it at one input. -/
def checkSoundWrong : ChangeSpec := { name := "checkSound", fn := fun _ => fun
  | [d1, d2, d3] => { results := [.lit (.bool false)], args := [d1, d2, d3] }
  | _ => none }
def CheckSoundWrongFalsely : Prop := checkSoundRow.holds Try.pinned (OpenSpec.ofChange checkSoundWrong)

/-- 'theseuslaw21.AnalyzeSmall': WHATEVER THE INPUT: true; the input reads as it did. -/
def analyzeSmallSpec : ChangeSpec := { name := "analyzeSmall", fn := fun _ => fun
  | [d] => { results := [.lit (.bool true)], args := [d] }
  | _ => none }
def analyzeSmallRow : OpenClaim := { program := "ytpfkfboohblgoaa", sum := "0a147a96f4e0bfde9b61bd4be77748f236646478f51428cd5dffe874102fc597", func := "theseus/theseuslaw21.AnalyzeSmall", spec := "analyzeSmall", unfollowed := true, recurses := true, apart := false }
def AnalyzeSmallSaid : Prop := analyzeSmallRow.holds Try.pinned (OpenSpec.ofChange analyzeSmallSpec)

/-- ITS FALSE NEIGHBOUR: 'it returns false'. Refute it at one input. -/
def analyzeSmallWrong : ChangeSpec := { name := "analyzeSmall", fn := fun _ => fun
  | [d] => { results := [.lit (.bool false)], args := [d] }
  | _ => none }
def AnalyzeSmallWrongFalsely : Prop := analyzeSmallRow.holds Try.pinned (OpenSpec.ofChange analyzeSmallWrong)

/-- 'theseuslaw21.AnalyzeWide': WHATEVER THE INPUT: true; the input reads as it did. -/
def analyzeWideSpec : ChangeSpec := { name := "analyzeWide", fn := fun _ => fun
  | [d] => { results := [.lit (.bool true)], args := [d] }
  | _ => none }
def analyzeWideRow : OpenClaim := { program := "ytpfkfboohblgoaa", sum := "0a147a96f4e0bfde9b61bd4be77748f236646478f51428cd5dffe874102fc597", func := "theseus/theseuslaw21.AnalyzeWide", spec := "analyzeWide", unfollowed := true, recurses := true, apart := false }
def AnalyzeWideSaid : Prop := analyzeWideRow.holds Try.pinned (OpenSpec.ofChange analyzeWideSpec)

/-- ITS FALSE NEIGHBOUR: 'it returns false'. Refute it at one input. -/
def analyzeWideWrong : ChangeSpec := { name := "analyzeWide", fn := fun _ => fun
  | [d] => { results := [.lit (.bool false)], args := [d] }
  | _ => none }
def AnalyzeWideWrongFalsely : Prop := analyzeWideRow.holds Try.pinned (OpenSpec.ofChange analyzeWideWrong)

/-- 'theseuslaw21.AnalyzeRanks': WHATEVER THE INPUT: true; the input reads as it did. -/
def analyzeRanksSpec : ChangeSpec := { name := "analyzeRanks", fn := fun _ => fun
  | [d] => { results := [.lit (.bool true)], args := [d] }
  | _ => none }
def analyzeRanksRow : OpenClaim := { program := "ytpfkfboohblgoaa", sum := "0a147a96f4e0bfde9b61bd4be77748f236646478f51428cd5dffe874102fc597", func := "theseus/theseuslaw21.AnalyzeRanks", spec := "analyzeRanks", unfollowed := true, recurses := true, apart := false }
def AnalyzeRanksSaid : Prop := analyzeRanksRow.holds Try.pinned (OpenSpec.ofChange analyzeRanksSpec)

/-- ITS FALSE NEIGHBOUR: 'it returns false'. Refute it at one input. -/
def analyzeRanksWrong : ChangeSpec := { name := "analyzeRanks", fn := fun _ => fun
  | [d] => { results := [.lit (.bool false)], args := [d] }
  | _ => none }
def AnalyzeRanksWrongFalsely : Prop := analyzeRanksRow.holds Try.pinned (OpenSpec.ofChange analyzeRanksWrong)

/-- 'theseuslaw21.AnalyzeCut': WHATEVER THE INPUT: true; the input reads as it did. -/
def analyzeCutSpec : ChangeSpec := { name := "analyzeCut", fn := fun _ => fun
  | [d] => { results := [.lit (.bool true)], args := [d] }
  | _ => none }
def analyzeCutRow : OpenClaim := { program := "ytpfkfboohblgoaa", sum := "0a147a96f4e0bfde9b61bd4be77748f236646478f51428cd5dffe874102fc597", func := "theseus/theseuslaw21.AnalyzeCut", spec := "analyzeCut", unfollowed := true, recurses := true, apart := false }
def AnalyzeCutSaid : Prop := analyzeCutRow.holds Try.pinned (OpenSpec.ofChange analyzeCutSpec)

/-- ITS FALSE NEIGHBOUR: 'it returns false'. Refute it at one input. -/
def analyzeCutWrong : ChangeSpec := { name := "analyzeCut", fn := fun _ => fun
  | [d] => { results := [.lit (.bool false)], args := [d] }
  | _ => none }
def AnalyzeCutWrongFalsely : Prop := analyzeCutRow.holds Try.pinned (OpenSpec.ofChange analyzeCutWrong)

/- THE SECOND FORM. 'bulk': how many values and letters a reading holds, each counted each time it is reached (what is shared counts as often as it is met; a slice's spare places count too). A statement '..UptoSaid' is the law's where the arguments, and the package variables that the reading takes, are together of bulk at most 1048576: NARROWER than '..Said'. Prove '..Said' where nothing that the law and all that it calls make is longer than what came in: it says more and counts as full. Else prove '..UptoSaid'. A law counts once. -/
mutual
def uptoBulk {H : Type} : DataW H → Nat
  | .lit (.string bytes) => bytes.length + 1
  | .lit _ => 1
  | .nil => 1
  | .ptr d => uptoBulk d + 1
  | .slice elems spare => uptoBulkAll elems + uptoBulkAll spare + 1
  | .agg parts => uptoBulkAll parts + 1
  | .iface _ d => uptoBulk d + 1
  | .map entries => uptoBulkEntries entries + 1
  | .held _ => 1
def uptoBulkAll {H : Type} : List (DataW H) → Nat
  | [] => 0
  | d :: r => uptoBulk d + uptoBulkAll r
def uptoBulkEntries {H : Type} : List (Lit × DataW H) → Nat
  | [] => 0
  | x :: r => uptoBulkEntry x + uptoBulkEntries r
def uptoBulkEntry {H : Type} : Lit × DataW H → Nat
  | (.string bytes, d) => bytes.length + uptoBulk d + 1
  | (_, d) => uptoBulk d + 1
 end
def uptoSmall : (H : Type) → List (DataW H) → Bool := fun _ ds => decide (uptoBulkAll ds ≤ 1048576)
def OpenSpec.upto (s : _root_.Go.ChangeSpec) : _root_.Go.OpenSpec := { _root_.Go.OpenSpec.ofChange s with cond := some uptoSmall }

/-- 'theseuslaw20.CheckRanks', WHERE WHAT IT READS IS OF BULK AT MOST 1048576: true; the input reads as it did. -/
def checkRanksUptoRow : OpenClaim := { program := "ytpfkfboohblgoaa", sum := "0a147a96f4e0bfde9b61bd4be77748f236646478f51428cd5dffe874102fc597", func := "theseus/theseuslaw20.CheckRanks", spec := "checkRanks", unfollowed := true, recurses := true, apart := false, narrowed := true }
def CheckRanksUptoSaid : Prop := checkRanksUptoRow.holds Try.pinned (OpenSpec.upto checkRanksSpec)

/-- 'theseuslaw20.CheckFirst', WHERE WHAT IT READS IS OF BULK AT MOST 1048576: true; the input reads as it did. -/
def checkFirstUptoRow : OpenClaim := { program := "ytpfkfboohblgoaa", sum := "0a147a96f4e0bfde9b61bd4be77748f236646478f51428cd5dffe874102fc597", func := "theseus/theseuslaw20.CheckFirst", spec := "checkFirst", unfollowed := true, recurses := true, apart := false, narrowed := true }
def CheckFirstUptoSaid : Prop := checkFirstUptoRow.holds Try.pinned (OpenSpec.upto checkFirstSpec)

/-- 'theseuslaw20.CheckEnds', WHERE WHAT IT READS IS OF BULK AT MOST 1048576: true; the input reads as it did. -/
def checkEndsUptoRow : OpenClaim := { program := "ytpfkfboohblgoaa", sum := "0a147a96f4e0bfde9b61bd4be77748f236646478f51428cd5dffe874102fc597", func := "theseus/theseuslaw20.CheckEnds", spec := "checkEnds", unfollowed := true, recurses := true, apart := false, narrowed := true }
def CheckEndsUptoSaid : Prop := checkEndsUptoRow.holds Try.pinned (OpenSpec.upto checkEndsSpec)

/-- 'theseuslaw20.CheckAll', WHERE WHAT IT READS IS OF BULK AT MOST 1048576: true; the input reads as it did. -/
def checkAllUptoRow : OpenClaim := { program := "ytpfkfboohblgoaa", sum := "0a147a96f4e0bfde9b61bd4be77748f236646478f51428cd5dffe874102fc597", func := "theseus/theseuslaw20.CheckAll", spec := "checkAll", unfollowed := true, recurses := true, apart := false, narrowed := true }
def CheckAllUptoSaid : Prop := checkAllUptoRow.holds Try.pinned (OpenSpec.upto checkAllSpec)

/-- 'theseuslaw20.CheckHolds', WHERE WHAT IT READS IS OF BULK AT MOST 1048576: true; the input reads as it did. -/
def checkHoldsUptoRow : OpenClaim := { program := "ytpfkfboohblgoaa", sum := "0a147a96f4e0bfde9b61bd4be77748f236646478f51428cd5dffe874102fc597", func := "theseus/theseuslaw20.CheckHolds", spec := "checkHolds", unfollowed := true, recurses := true, apart := false, narrowed := true }
def CheckHoldsUptoSaid : Prop := checkHoldsUptoRow.holds Try.pinned (OpenSpec.upto checkHoldsSpec)

/-- 'theseuslaw20.CheckSplit', WHERE WHAT IT READS IS OF BULK AT MOST 1048576: true; the input reads as it did. -/
def checkSplitUptoRow : OpenClaim := { program := "ytpfkfboohblgoaa", sum := "0a147a96f4e0bfde9b61bd4be77748f236646478f51428cd5dffe874102fc597", func := "theseus/theseuslaw20.CheckSplit", spec := "checkSplit", unfollowed := true, recurses := true, apart := false, narrowed := true }
def CheckSplitUptoSaid : Prop := checkSplitUptoRow.holds Try.pinned (OpenSpec.upto checkSplitSpec)

/-- 'theseuslaw20.CheckTraces', WHERE WHAT IT READS IS OF BULK AT MOST 1048576: true; the input reads as it did. -/
def checkTracesUptoRow : OpenClaim := { program := "ytpfkfboohblgoaa", sum := "0a147a96f4e0bfde9b61bd4be77748f236646478f51428cd5dffe874102fc597", func := "theseus/theseuslaw20.CheckTraces", spec := "checkTraces", unfollowed := true, recurses := true, apart := false, narrowed := true }
def CheckTracesUptoSaid : Prop := checkTracesUptoRow.holds Try.pinned (OpenSpec.upto checkTracesSpec)

/-- 'theseuslaw20.CheckSound', WHERE WHAT IT READS IS OF BULK AT MOST 1048576: true; the input reads as it did. -/
def checkSoundUptoRow : OpenClaim := { program := "ytpfkfboohblgoaa", sum := "0a147a96f4e0bfde9b61bd4be77748f236646478f51428cd5dffe874102fc597", func := "theseus/theseuslaw20.CheckSound", spec := "checkSound", unfollowed := true, recurses := true, apart := false, narrowed := true }
def CheckSoundUptoSaid : Prop := checkSoundUptoRow.holds Try.pinned (OpenSpec.upto checkSoundSpec)

/-- 'theseuslaw21.AnalyzeSmall', WHERE WHAT IT READS IS OF BULK AT MOST 1048576: true; the input reads as it did. -/
def analyzeSmallUptoRow : OpenClaim := { program := "ytpfkfboohblgoaa", sum := "0a147a96f4e0bfde9b61bd4be77748f236646478f51428cd5dffe874102fc597", func := "theseus/theseuslaw21.AnalyzeSmall", spec := "analyzeSmall", unfollowed := true, recurses := true, apart := false, narrowed := true }
def AnalyzeSmallUptoSaid : Prop := analyzeSmallUptoRow.holds Try.pinned (OpenSpec.upto analyzeSmallSpec)

/-- 'theseuslaw21.AnalyzeWide', WHERE WHAT IT READS IS OF BULK AT MOST 1048576: true; the input reads as it did. -/
def analyzeWideUptoRow : OpenClaim := { program := "ytpfkfboohblgoaa", sum := "0a147a96f4e0bfde9b61bd4be77748f236646478f51428cd5dffe874102fc597", func := "theseus/theseuslaw21.AnalyzeWide", spec := "analyzeWide", unfollowed := true, recurses := true, apart := false, narrowed := true }
def AnalyzeWideUptoSaid : Prop := analyzeWideUptoRow.holds Try.pinned (OpenSpec.upto analyzeWideSpec)

/-- 'theseuslaw21.AnalyzeRanks', WHERE WHAT IT READS IS OF BULK AT MOST 1048576: true; the input reads as it did. -/
def analyzeRanksUptoRow : OpenClaim := { program := "ytpfkfboohblgoaa", sum := "0a147a96f4e0bfde9b61bd4be77748f236646478f51428cd5dffe874102fc597", func := "theseus/theseuslaw21.AnalyzeRanks", spec := "analyzeRanks", unfollowed := true, recurses := true, apart := false, narrowed := true }
def AnalyzeRanksUptoSaid : Prop := analyzeRanksUptoRow.holds Try.pinned (OpenSpec.upto analyzeRanksSpec)

/-- 'theseuslaw21.AnalyzeCut', WHERE WHAT IT READS IS OF BULK AT MOST 1048576: true; the input reads as it did. -/
def analyzeCutUptoRow : OpenClaim := { program := "ytpfkfboohblgoaa", sum := "0a147a96f4e0bfde9b61bd4be77748f236646478f51428cd5dffe874102fc597", func := "theseus/theseuslaw21.AnalyzeCut", spec := "analyzeCut", unfollowed := true, recurses := true, apart := false, narrowed := true }
def AnalyzeCutUptoSaid : Prop := analyzeCutUptoRow.holds Try.pinned (OpenSpec.upto analyzeCutSpec)

end Rows
end Go.Proofs.Ytpfkfboohblgoaa
