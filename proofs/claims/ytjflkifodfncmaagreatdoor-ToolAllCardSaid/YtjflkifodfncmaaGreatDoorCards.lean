/-
  DERIVED. GIVEN WITH THE SEED: THE CARDS: each row of YtjflkifodfncmaaGreatDoorRows.lean that lists a variable, with what it lists TIED to the program's text (the seventh form; the later family's looks); each row that meets fmt, with fmt's text TOLD by the authors' own Lean function (tested against real Go, not proved from fmt's source: count such statements apart). THE CARD IS WHAT COUNTS. Prove the row's statement (the work); the ties are given (YtjflkifodfncmaaGreatDoorTie.lean); close each card by the builder's one call (the guide's Derived/Test/ToyasCard.lean, 'card_holds'). Laid BY PROGRAM, IN A SANDBOX (cutbox-door.mjs). By AI agents, Wed Nov 11 2026. No macro, syntax, notation, axiom, sorry.
-/
import Derived.Test.YtjflkifodfncmaaGreatDoorRows
import GoSem.ClaimSeven
namespace Go.Proofs.YtjflkifodfncmaaGreatDoor
namespace Rows

/-- THE TIED CARD OF 'theseuslaw22.ToolAll'. -/
def toolAllCard : Claim7 := { stood := { row := toolAllRow, standIns := [], harness := (true, "fb2c02d6b13f8c2e5ff913b1894f94f431d0d6941aeaebeab05692428750c819"), looks := false }, kinds := [], alts := [], laidByText := true, laidKinds := [.data, .data, .data, .data], laidTests := true, laidLooks := .later }
def ToolAllCardSaid : Prop := Claim7.holds Tryz.pinned (.plain (OpenSpec.ofChange toolAllSpec)) toolAllCard

/-- THE SECOND FORM's CARD OF 'theseuslaw22.ToolAll'. -/
def toolAllUptoCard : Claim7 := { stood := { row := toolAllUptoRow, standIns := [], harness := (true, "fb2c02d6b13f8c2e5ff913b1894f94f431d0d6941aeaebeab05692428750c819"), looks := false }, kinds := [], alts := [], laidByText := true, laidKinds := [.data, .data, .data, .data], laidTests := true, laidLooks := .later }
def ToolAllUptoCardSaid : Prop := Claim7.holds Tryz.pinned (.plain (OpenSpec.upto toolAllSpec)) toolAllUptoCard
end Rows
end Go.Proofs.YtjflkifodfncmaaGreatDoor
