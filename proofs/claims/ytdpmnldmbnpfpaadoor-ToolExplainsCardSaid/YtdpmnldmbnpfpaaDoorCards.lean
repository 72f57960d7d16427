/-
  DERIVED. GIVEN WITH THE SEED: THE CARDS: each row of YtdpmnldmbnpfpaaDoorRows.lean that lists a variable, with what it lists TIED to the program's text (the seventh form; the later family's looks); each row that meets fmt, with fmt's text TOLD by the authors' own Lean function (tested against real Go, not proved from fmt's source: count such statements apart). THE CARD IS WHAT COUNTS. Prove the row's statement (the work); the ties are given (YtdpmnldmbnpfpaaDoorTie.lean); close each card by the builder's one call (the guide's Derived/Test/ToyasCard.lean, 'card_holds'). Laid BY PROGRAM, IN A SANDBOX (cutbox-door.mjs). By AI agents, Wed Nov 11 2026. No macro, syntax, notation, axiom, sorry.
-/
import Derived.Test.YtdpmnldmbnpfpaaDoorRows
import GoSem.ClaimSeven
namespace Go.Proofs.YtdpmnldmbnpfpaaDoor
namespace Rows

/-- THE TIED CARD OF 'theseuslaw22.ToolExplains'. -/
def toolExplainsCard : Claim7 := { stood := { row := toolExplainsRow, standIns := [], harness := (true, "26d8afb6d7f766ddb8c2a32686db00ddfc29f906cb9a495f28aca49a45a26800"), looks := false }, kinds := [], alts := [], laidByText := true, laidKinds := [.data, .data, .data, .data], laidTests := true, laidLooks := .later }
def ToolExplainsCardSaid : Prop := Claim7.holds Tryd.pinned (.plain (OpenSpec.ofChange toolExplainsSpec)) toolExplainsCard

/-- THE SECOND FORM's CARD OF 'theseuslaw22.ToolExplains'. -/
def toolExplainsUptoCard : Claim7 := { stood := { row := toolExplainsUptoRow, standIns := [], harness := (true, "26d8afb6d7f766ddb8c2a32686db00ddfc29f906cb9a495f28aca49a45a26800"), looks := false }, kinds := [], alts := [], laidByText := true, laidKinds := [.data, .data, .data, .data], laidTests := true, laidLooks := .later }
def ToolExplainsUptoCardSaid : Prop := Claim7.holds Tryd.pinned (.plain (OpenSpec.upto toolExplainsSpec)) toolExplainsUptoCard
end Rows
end Go.Proofs.YtdpmnldmbnpfpaaDoor
