/-
  No cell of these rows narrows 'for every input' (looked for: loops, veiled, ifaces, maps, wideKeys, modest, calm, conditions, laid).
  DERIVED. THE GIVEN ROWS OF THIS SEAT. 6 by the template 'for every input the law returns true; each argument reads behind the call as it read before'; 0 by the template 'total and deterministic' (their statements: YtgkefgibpbdepaaTotals.lean).
  GIVEN WITH THE SEED: the statements are not yours to turn. If you find one false, say at which input.
  Laid BY PROGRAM, IN A SANDBOX (cutbox-rows.mjs): the forced cells as the released guide's own fill.sh prints them over the translation 0de0107f6a73fa6e… (all of the seat's roots in one cut). By AI agents, Wed Nov 11 2026. No macro, syntax, notation, axiom, sorry.
-/
import Derived.Test.YtgkefgibpbdepaaChecked
import GoSem.Claim
import GoSem.ClaimJoined
import GoSem.ClaimMapViews
import Derived.JoinedTies
import Derived.KernelRfl
namespace Go.Proofs.Ytgkefgibpbdepaa
/- THE CELL 'sum', in the pinned program and in every row, IS THE sha256 OF THE DUMP (.gsa) THAT YtgkefgibpbdepaaProg.lean LOADS. Nothing in Lean hashes anything: it is a label: what it is worth is what the hold of that sum in a sandbox is worth. -/
noncomputable def Try.pinned : Pinned := { name := "ytgkefgibpbdepaa", sum := "0de0107f6a73fa6e38fd5ac56d2c291a097d5d6d0190027e6ec421f46ecd2629", checked := Try.checked }
namespace Rows
def none {H : Type} : Left H := { results := [], args := [] }

/-- 'theseuslaw11.TrieParts': WHATEVER THE INPUT: true; the input reads as it did. -/
def triePartsSpec : ChangeSpec := { name := "trieParts", fn := fun _ => fun
  | [d1, d2, d3] => { results := [.lit (.bool true)], args := [d1, d2, d3] }
  | _ => none }
def triePartsRow : OpenClaim := { program := "ytgkefgibpbdepaa", sum := "0de0107f6a73fa6e38fd5ac56d2c291a097d5d6d0190027e6ec421f46ecd2629", func := "theseus/theseuslaw11.TrieParts", spec := "trieParts", apart := false }
def TriePartsSaid : Prop := triePartsRow.holds Try.pinned (OpenSpec.ofChange triePartsSpec)

/-- ITS FALSE NEIGHBOUR: 'it returns false'. Refute it at one input. -/
def triePartsWrong : ChangeSpec := { name := "trieParts", fn := fun _ => fun
  | [d1, d2, d3] => { results := [.lit (.bool false)], args := [d1, d2, d3] }
  | _ => none }
def TriePartsWrongFalsely : Prop := triePartsRow.holds Try.pinned (OpenSpec.ofChange triePartsWrong)

/-- 'theseuslaw11.TrieScans': WHATEVER THE INPUT: true; the input reads as it did. -/
def trieScansSpec : ChangeSpec := { name := "trieScans", fn := fun _ => fun
  | [d1, d2, d3] => { results := [.lit (.bool true)], args := [d1, d2, d3] }
  | _ => none }
def trieScansRow : OpenClaim := { program := "ytgkefgibpbdepaa", sum := "0de0107f6a73fa6e38fd5ac56d2c291a097d5d6d0190027e6ec421f46ecd2629", func := "theseus/theseuslaw11.TrieScans", spec := "trieScans", apart := false }
def TrieScansSaid : Prop := trieScansRow.holds Try.pinned (OpenSpec.ofChange trieScansSpec)

/-- ITS FALSE NEIGHBOUR: 'it returns false'. Refute it at one input. -/
def trieScansWrong : ChangeSpec := { name := "trieScans", fn := fun _ => fun
  | [d1, d2, d3] => { results := [.lit (.bool false)], args := [d1, d2, d3] }
  | _ => none }
def TrieScansWrongFalsely : Prop := trieScansRow.holds Try.pinned (OpenSpec.ofChange trieScansWrong)

/-- 'theseuslaw11.TrieTurned': WHATEVER THE INPUT: true; the input reads as it did. -/
def trieTurnedSpec : ChangeSpec := { name := "trieTurned", fn := fun _ => fun
  | [d1, d2, d3] => { results := [.lit (.bool true)], args := [d1, d2, d3] }
  | _ => none }
def trieTurnedRow : OpenClaim := { program := "ytgkefgibpbdepaa", sum := "0de0107f6a73fa6e38fd5ac56d2c291a097d5d6d0190027e6ec421f46ecd2629", func := "theseus/theseuslaw11.TrieTurned", spec := "trieTurned", recurses := true, apart := false }
def TrieTurnedSaid : Prop := trieTurnedRow.holds Try.pinned (OpenSpec.ofChange trieTurnedSpec)

/-- ITS FALSE NEIGHBOUR: 'it returns false'. Refute it at one input. -/
def trieTurnedWrong : ChangeSpec := { name := "trieTurned", fn := fun _ => fun
  | [d1, d2, d3] => { results := [.lit (.bool false)], args := [d1, d2, d3] }
  | _ => none }
def TrieTurnedWrongFalsely : Prop := trieTurnedRow.holds Try.pinned (OpenSpec.ofChange trieTurnedWrong)

/-- 'theseuslaw13.VectorAll': WHATEVER THE INPUT: true; the input reads as it did. -/
def vectorAllSpec : ChangeSpec := { name := "vectorAll", fn := fun _ => fun
  | [d1, d2] => { results := [.lit (.bool true)], args := [d1, d2] }
  | _ => none }
def vectorAllRow : OpenClaim := { program := "ytgkefgibpbdepaa", sum := "0de0107f6a73fa6e38fd5ac56d2c291a097d5d6d0190027e6ec421f46ecd2629", func := "theseus/theseuslaw13.VectorAll", spec := "vectorAll", unfollowed := true, recurses := true, apart := false }
def VectorAllSaid : Prop := vectorAllRow.holds Try.pinned (OpenSpec.ofChange vectorAllSpec)

/-- ITS FALSE NEIGHBOUR: 'it returns false'. Refute it at one input. -/
def vectorAllWrong : ChangeSpec := { name := "vectorAll", fn := fun _ => fun
  | [d1, d2] => { results := [.lit (.bool false)], args := [d1, d2] }
  | _ => none }
def VectorAllWrongFalsely : Prop := vectorAllRow.holds Try.pinned (OpenSpec.ofChange vectorAllWrong)

/-- 'theseuslaw13.VectorPart': WHATEVER THE INPUT: true; the input reads as it did. -/
def vectorPartSpec : ChangeSpec := { name := "vectorPart", fn := fun _ => fun
  | [d1, d2, d3] => { results := [.lit (.bool true)], args := [d1, d2, d3] }
  | _ => none }
def vectorPartRow : OpenClaim := { program := "ytgkefgibpbdepaa", sum := "0de0107f6a73fa6e38fd5ac56d2c291a097d5d6d0190027e6ec421f46ecd2629", func := "theseus/theseuslaw13.VectorPart", spec := "vectorPart", unfollowed := true, recurses := true, apart := false }
def VectorPartSaid : Prop := vectorPartRow.holds Try.pinned (OpenSpec.ofChange vectorPartSpec)

/-- ITS FALSE NEIGHBOUR: 'it returns false'. Refute it at one input. -/
def vectorPartWrong : ChangeSpec := { name := "vectorPart", fn := fun _ => fun
  | [d1, d2, d3] => { results := [.lit (.bool false)], args := [d1, d2, d3] }
  | _ => none }
def VectorPartWrongFalsely : Prop := vectorPartRow.holds Try.pinned (OpenSpec.ofChange vectorPartWrong)

/-- 'theseuslaw13.VectorOwn': WHATEVER THE INPUT: true; the input reads as it did. -/
def vectorOwnSpec : ChangeSpec := { name := "vectorOwn", fn := fun _ => fun
  | [d1, d2, d3] => { results := [.lit (.bool true)], args := [d1, d2, d3] }
  | _ => none }
def vectorOwnRow : OpenClaim := { program := "ytgkefgibpbdepaa", sum := "0de0107f6a73fa6e38fd5ac56d2c291a097d5d6d0190027e6ec421f46ecd2629", func := "theseus/theseuslaw13.VectorOwn", spec := "vectorOwn", unfollowed := true, recurses := true, apart := false }
def VectorOwnSaid : Prop := vectorOwnRow.holds Try.pinned (OpenSpec.ofChange vectorOwnSpec)

/-- ITS FALSE NEIGHBOUR: 'it returns false'. Refute it at one input. -/
def vectorOwnWrong : ChangeSpec := { name := "vectorOwn", fn := fun _ => fun
  | [d1, d2, d3] => { results := [.lit (.bool false)], args := [d1, d2, d3] }
  | _ => none }
def VectorOwnWrongFalsely : Prop := vectorOwnRow.holds Try.pinned (OpenSpec.ofChange vectorOwnWrong)

/- THE SECOND FORM. 'bulk': how many values and letters a reading holds, each counted each time it is reached (what is shared counts as often as it is met; a slice's spare places count too). A statement '..UptoSaid' is the law's where the arguments, and the package variables that the reading takes, are together of bulk at most 1048576: NARROWER than '..Said'. Prove '..Said' where nothing that the law and all that it calls make is longer than what came in: it says more and counts as full. Else prove '..UptoSaid'. A law counts once. -/
mutual
def uptoBulk {H : Type} : DataW H → Nat
  | .lit (.string bytes) => bytes.length + 1
  | .lit _ => 1
  | .nil => 1
  | .ptr d => uptoBulk d + 1
  | .slice elems spare => uptoBulkAll elems + uptoBulkAll spare + 1
  | .agg parts => uptoBulkAll parts + 1
  | .iface _ d => uptoBulk d + 1
  | .map entries => uptoBulkEntries entries + 1
  | .held _ => 1
def uptoBulkAll {H : Type} : List (DataW H) → Nat
  | [] => 0
  | d :: r => uptoBulk d + uptoBulkAll r
def uptoBulkEntries {H : Type} : List (Lit × DataW H) → Nat
  | [] => 0
  | x :: r => uptoBulkEntry x + uptoBulkEntries r
def uptoBulkEntry {H : Type} : Lit × DataW H → Nat
  | (.string bytes, d) => bytes.length + uptoBulk d + 1
  | (_, d) => uptoBulk d + 1
 end
def uptoSmall : (H : Type) → List (DataW H) → Bool := fun _ ds => decide (uptoBulkAll ds ≤ 1048576)
def OpenSpec.upto (s : _root_.Go.ChangeSpec) : _root_.Go.OpenSpec := { _root_.Go.OpenSpec.ofChange s with cond := some uptoSmall }

/-- 'theseuslaw11.TrieParts', WHERE WHAT IT READS IS OF BULK AT MOST 1048576: true; the input reads as it did. -/
def triePartsUptoRow : OpenClaim := { program := "ytgkefgibpbdepaa", sum := "0de0107f6a73fa6e38fd5ac56d2c291a097d5d6d0190027e6ec421f46ecd2629", func := "theseus/theseuslaw11.TrieParts", spec := "trieParts", apart := false, narrowed := true }
def TriePartsUptoSaid : Prop := triePartsUptoRow.holds Try.pinned (OpenSpec.upto triePartsSpec)

/-- 'theseuslaw11.TrieScans', WHERE WHAT IT READS IS OF BULK AT MOST 1048576: true; the input reads as it did. -/
def trieScansUptoRow : OpenClaim := { program := "ytgkefgibpbdepaa", sum := "0de0107f6a73fa6e38fd5ac56d2c291a097d5d6d0190027e6ec421f46ecd2629", func := "theseus/theseuslaw11.TrieScans", spec := "trieScans", apart := false, narrowed := true }
def TrieScansUptoSaid : Prop := trieScansUptoRow.holds Try.pinned (OpenSpec.upto trieScansSpec)

/-- 'theseuslaw11.TrieTurned', WHERE WHAT IT READS IS OF BULK AT MOST 1048576: true; the input reads as it did. -/
def trieTurnedUptoRow : OpenClaim := { program := "ytgkefgibpbdepaa", sum := "0de0107f6a73fa6e38fd5ac56d2c291a097d5d6d0190027e6ec421f46ecd2629", func := "theseus/theseuslaw11.TrieTurned", spec := "trieTurned", recurses := true, apart := false, narrowed := true }
def TrieTurnedUptoSaid : Prop := trieTurnedUptoRow.holds Try.pinned (OpenSpec.upto trieTurnedSpec)

/-- 'theseuslaw13.VectorAll', WHERE WHAT IT READS IS OF BULK AT MOST 1048576: true; the input reads as it did. -/
def vectorAllUptoRow : OpenClaim := { program := "ytgkefgibpbdepaa", sum := "0de0107f6a73fa6e38fd5ac56d2c291a097d5d6d0190027e6ec421f46ecd2629", func := "theseus/theseuslaw13.VectorAll", spec := "vectorAll", unfollowed := true, recurses := true, apart := false, narrowed := true }
def VectorAllUptoSaid : Prop := vectorAllUptoRow.holds Try.pinned (OpenSpec.upto vectorAllSpec)

/-- 'theseuslaw13.VectorPart', WHERE WHAT IT READS IS OF BULK AT MOST 1048576: true; the input reads as it did. -/
def vectorPartUptoRow : OpenClaim := { program := "ytgkefgibpbdepaa", sum := "0de0107f6a73fa6e38fd5ac56d2c291a097d5d6d0190027e6ec421f46ecd2629", func := "theseus/theseuslaw13.VectorPart", spec := "vectorPart", unfollowed := true, recurses := true, apart := false, narrowed := true }
def VectorPartUptoSaid : Prop := vectorPartUptoRow.holds Try.pinned (OpenSpec.upto vectorPartSpec)

/-- 'theseuslaw13.VectorOwn', WHERE WHAT IT READS IS OF BULK AT MOST 1048576: true; the input reads as it did. -/
def vectorOwnUptoRow : OpenClaim := { program := "ytgkefgibpbdepaa", sum := "0de0107f6a73fa6e38fd5ac56d2c291a097d5d6d0190027e6ec421f46ecd2629", func := "theseus/theseuslaw13.VectorOwn", spec := "vectorOwn", unfollowed := true, recurses := true, apart := false, narrowed := true }
def VectorOwnUptoSaid : Prop := vectorOwnUptoRow.holds Try.pinned (OpenSpec.upto vectorOwnSpec)

end Rows
end Go.Proofs.Ytgkefgibpbdepaa
