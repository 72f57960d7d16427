/-
  No cell of these rows narrows 'for every input' (looked for: loops, veiled, ifaces, maps, wideKeys, modest, calm, conditions, laid).
  DERIVED. THE GIVEN ROWS OF THIS SEAT. 4 by the template 'for every input the law returns true; each argument reads behind the call as it read before'; 0 by the template 'total and deterministic' (their statements: YtfldjlibnjgdaaaTotals.lean).
  GIVEN WITH THE SEED: the statements are not yours to turn. If you find one false, say at which input.
  Laid BY PROGRAM, IN A SANDBOX (cutbox-rows.mjs): the forced cells as the released guide's own fill.sh prints them over the translation dd908cb699c67866… (all of the seat's roots in one cut). By AI agents, Wed Nov 11 2026. No macro, syntax, notation, axiom, sorry.
-/
import Derived.Test.YtfldjlibnjgdaaaChecked
import GoSem.Claim
import GoSem.ClaimJoined
import GoSem.ClaimMapViews
import Derived.JoinedTies
import Derived.KernelRfl
namespace Go.Proofs.Ytfldjlibnjgdaaa
/- THE CELL 'sum', in the pinned program and in every row, IS THE sha256 OF THE DUMP (.gsa) THAT YtfldjlibnjgdaaaProg.lean LOADS. Nothing in Lean hashes anything: it is a label: what it is worth is what the hold of that sum in a sandbox is worth. -/
noncomputable def Try.pinned : Pinned := { name := "ytfldjlibnjgdaaa", sum := "dd908cb699c678666e0b2a21dbef5f4b9d7edec33f788b38c0601f6144d6f539", checked := Try.checked }
namespace Rows
def none {H : Type} : Left H := { results := [], args := [] }

/-- 'theseuslaw21.AnalyzeSmall': WHATEVER THE INPUT: true; the input reads as it did. -/
def analyzeSmallSpec : ChangeSpec := { name := "analyzeSmall", fn := fun _ => fun
  | [d] => { results := [.lit (.bool true)], args := [d] }
  | _ => none }
def analyzeSmallRow : OpenClaim := { program := "ytfldjlibnjgdaaa", sum := "dd908cb699c678666e0b2a21dbef5f4b9d7edec33f788b38c0601f6144d6f539", func := "theseus/theseuslaw21.AnalyzeSmall", spec := "analyzeSmall", unfollowed := true, recurses := true, apart := false }
def AnalyzeSmallSaid : Prop := analyzeSmallRow.holds Try.pinned (OpenSpec.ofChange analyzeSmallSpec)

/-- ITS FALSE NEIGHBOUR: 'it returns false'. Refute it at one input. -/
def analyzeSmallWrong : ChangeSpec := { name := "analyzeSmall", fn := fun _ => fun
  | [d] => { results := [.lit (.bool false)], args := [d] }
  | _ => none }
def AnalyzeSmallWrongFalsely : Prop := analyzeSmallRow.holds Try.pinned (OpenSpec.ofChange analyzeSmallWrong)

/-- 'theseuslaw21.AnalyzeWide': WHATEVER THE INPUT: true; the input reads as it did. -/
def analyzeWideSpec : ChangeSpec := { name := "analyzeWide", fn := fun _ => fun
  | [d] => { results := [.lit (.bool true)], args := [d] }
  | _ => none }
def analyzeWideRow : OpenClaim := { program := "ytfldjlibnjgdaaa", sum := "dd908cb699c678666e0b2a21dbef5f4b9d7edec33f788b38c0601f6144d6f539", func := "theseus/theseuslaw21.AnalyzeWide", spec := "analyzeWide", unfollowed := true, recurses := true, apart := false }
def AnalyzeWideSaid : Prop := analyzeWideRow.holds Try.pinned (OpenSpec.ofChange analyzeWideSpec)

/-- ITS FALSE NEIGHBOUR: 'it returns false'. Refute it at one input. -/
def analyzeWideWrong : ChangeSpec := { name := "analyzeWide", fn := fun _ => fun
  | [d] => { results := [.lit (.bool false)], args := [d] }
  | _ => none }
def AnalyzeWideWrongFalsely : Prop := analyzeWideRow.holds Try.pinned (OpenSpec.ofChange analyzeWideWrong)

/-- 'theseuslaw21.AnalyzeRanks': WHATEVER THE INPUT: true; the input reads as it did. -/
def analyzeRanksSpec : ChangeSpec := { name := "analyzeRanks", fn := fun _ => fun
  | [d] => { results := [.lit (.bool true)], args := [d] }
  | _ => none }
def analyzeRanksRow : OpenClaim := { program := "ytfldjlibnjgdaaa", sum := "dd908cb699c678666e0b2a21dbef5f4b9d7edec33f788b38c0601f6144d6f539", func := "theseus/theseuslaw21.AnalyzeRanks", spec := "analyzeRanks", unfollowed := true, recurses := true, apart := false }
def AnalyzeRanksSaid : Prop := analyzeRanksRow.holds Try.pinned (OpenSpec.ofChange analyzeRanksSpec)

/-- ITS FALSE NEIGHBOUR: 'it returns false'. Refute it at one input. -/
def analyzeRanksWrong : ChangeSpec := { name := "analyzeRanks", fn := fun _ => fun
  | [d] => { results := [.lit (.bool false)], args := [d] }
  | _ => none }
def AnalyzeRanksWrongFalsely : Prop := analyzeRanksRow.holds Try.pinned (OpenSpec.ofChange analyzeRanksWrong)

/-- 'theseuslaw21.AnalyzeCut': WHATEVER THE INPUT: true; the input reads as it did. -/
def analyzeCutSpec : ChangeSpec := { name := "analyzeCut", fn := fun _ => fun
  | [d] => { results := [.lit (.bool true)], args := [d] }
  | _ => none }
def analyzeCutRow : OpenClaim := { program := "ytfldjlibnjgdaaa", sum := "dd908cb699c678666e0b2a21dbef5f4b9d7edec33f788b38c0601f6144d6f539", func := "theseus/theseuslaw21.AnalyzeCut", spec := "analyzeCut", unfollowed := true, recurses := true, apart := false }
def AnalyzeCutSaid : Prop := analyzeCutRow.holds Try.pinned (OpenSpec.ofChange analyzeCutSpec)

/-- ITS FALSE NEIGHBOUR: 'it returns false'. Refute it at one input. -/
def analyzeCutWrong : ChangeSpec := { name := "analyzeCut", fn := fun _ => fun
  | [d] => { results := [.lit (.bool false)], args := [d] }
  | _ => none }
def AnalyzeCutWrongFalsely : Prop := analyzeCutRow.holds Try.pinned (OpenSpec.ofChange analyzeCutWrong)

/- THE SECOND FORM. 'bulk': how many values and letters a reading holds, each counted each time it is reached (what is shared counts as often as it is met; a slice's spare places count too). A statement '..UptoSaid' is the law's where the arguments, and the package variables that the reading takes, are together of bulk at most 1048576: NARROWER than '..Said'. Prove '..Said' where nothing that the law and all that it calls make is longer than what came in: it says more and counts as full. Else prove '..UptoSaid'. A law counts once. -/
mutual
def uptoBulk {H : Type} : DataW H → Nat
  | .lit (.string bytes) => bytes.length + 1
  | .lit _ => 1
  | .nil => 1
  | .ptr d => uptoBulk d + 1
  | .slice elems spare => uptoBulkAll elems + uptoBulkAll spare + 1
  | .agg parts => uptoBulkAll parts + 1
  | .iface _ d => uptoBulk d + 1
  | .map entries => uptoBulkEntries entries + 1
  | .held _ => 1
def uptoBulkAll {H : Type} : List (DataW H) → Nat
  | [] => 0
  | d :: r => uptoBulk d + uptoBulkAll r
def uptoBulkEntries {H : Type} : List (Lit × DataW H) → Nat
  | [] => 0
  | x :: r => uptoBulkEntry x + uptoBulkEntries r
def uptoBulkEntry {H : Type} : Lit × DataW H → Nat
  | (.string bytes, d) => bytes.length + uptoBulk d + 1
  | (_, d) => uptoBulk d + 1
 end
def uptoSmall : (H : Type) → List (DataW H) → Bool := fun _ ds => decide (uptoBulkAll ds ≤ 1048576)
def OpenSpec.upto (s : _root_.Go.ChangeSpec) : _root_.Go.OpenSpec := { _root_.Go.OpenSpec.ofChange s with cond := some uptoSmall }

/-- 'theseuslaw21.AnalyzeSmall', WHERE WHAT IT READS IS OF BULK AT MOST 1048576: true; the input reads as it did. -/
def analyzeSmallUptoRow : OpenClaim := { program := "ytfldjlibnjgdaaa", sum := "dd908cb699c678666e0b2a21dbef5f4b9d7edec33f788b38c0601f6144d6f539", func := "theseus/theseuslaw21.AnalyzeSmall", spec := "analyzeSmall", unfollowed := true, recurses := true, apart := false, narrowed := true }
def AnalyzeSmallUptoSaid : Prop := analyzeSmallUptoRow.holds Try.pinned (OpenSpec.upto analyzeSmallSpec)

/-- 'theseuslaw21.AnalyzeWide', WHERE WHAT IT READS IS OF BULK AT MOST 1048576: true; the input reads as it did. -/
def analyzeWideUptoRow : OpenClaim := { program := "ytfldjlibnjgdaaa", sum := "dd908cb699c678666e0b2a21dbef5f4b9d7edec33f788b38c0601f6144d6f539", func := "theseus/theseuslaw21.AnalyzeWide", spec := "analyzeWide", unfollowed := true, recurses := true, apart := false, narrowed := true }
def AnalyzeWideUptoSaid : Prop := analyzeWideUptoRow.holds Try.pinned (OpenSpec.upto analyzeWideSpec)

/-- 'theseuslaw21.AnalyzeRanks', WHERE WHAT IT READS IS OF BULK AT MOST 1048576: true; the input reads as it did. -/
def analyzeRanksUptoRow : OpenClaim := { program := "ytfldjlibnjgdaaa", sum := "dd908cb699c678666e0b2a21dbef5f4b9d7edec33f788b38c0601f6144d6f539", func := "theseus/theseuslaw21.AnalyzeRanks", spec := "analyzeRanks", unfollowed := true, recurses := true, apart := false, narrowed := true }
def AnalyzeRanksUptoSaid : Prop := analyzeRanksUptoRow.holds Try.pinned (OpenSpec.upto analyzeRanksSpec)

/-- 'theseuslaw21.AnalyzeCut', WHERE WHAT IT READS IS OF BULK AT MOST 1048576: true; the input reads as it did. -/
def analyzeCutUptoRow : OpenClaim := { program := "ytfldjlibnjgdaaa", sum := "dd908cb699c678666e0b2a21dbef5f4b9d7edec33f788b38c0601f6144d6f539", func := "theseus/theseuslaw21.AnalyzeCut", spec := "analyzeCut", unfollowed := true, recurses := true, apart := false, narrowed := true }
def AnalyzeCutUptoSaid : Prop := analyzeCutUptoRow.holds Try.pinned (OpenSpec.upto analyzeCutSpec)

end Rows
end Go.Proofs.Ytfldjlibnjgdaaa
