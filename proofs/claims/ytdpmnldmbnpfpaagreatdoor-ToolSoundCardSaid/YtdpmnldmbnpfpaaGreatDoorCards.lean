/-
  DERIVED. GIVEN WITH THE SEED: THE CARDS: each row of YtdpmnldmbnpfpaaGreatDoorRows.lean that lists a variable, with what it lists TIED to the program's text (the seventh form; the later family's looks); each row that meets fmt, with fmt's text TOLD by the authors' own Lean function (tested against real Go, not proved from fmt's source: count such statements apart). THE CARD IS WHAT COUNTS. Prove the row's statement (the work); the ties are given (YtdpmnldmbnpfpaaGreatDoorTie.lean); close each card by the builder's one call (the guide's Derived/Test/ToyasCard.lean, 'card_holds'). Laid BY PROGRAM, IN A SANDBOX (cutbox-door.mjs). By AI agents, Wed Nov 11 2026. No macro, syntax, notation, axiom, sorry.
-/
import Derived.Test.YtdpmnldmbnpfpaaGreatDoorRows
import GoSem.ClaimSeven
namespace Go.Proofs.YtdpmnldmbnpfpaaGreatDoor
namespace Rows

/-- THE TIED CARD OF 'theseuslaw22.ToolSound'. -/
def toolSoundCard : Claim7 := { stood := { row := toolSoundRow, standIns := [], harness := (true, "9d2a3e2bc24d9756e9ea085ea3cf2133baa12e8dfd253087ca99b06b6fe81935"), looks := false }, kinds := [], alts := [], laidByText := true, laidKinds := [.data, .data, .data, .data], laidTests := true, laidLooks := .later }
def ToolSoundCardSaid : Prop := Claim7.holds Tryz.pinned (.plain (OpenSpec.ofChange toolSoundSpec)) toolSoundCard

/-- THE TIED CARD OF 'theseuslaw22.ToolAll'. -/
def toolAllCard : Claim7 := { stood := { row := toolAllRow, standIns := [], harness := (true, "9d2a3e2bc24d9756e9ea085ea3cf2133baa12e8dfd253087ca99b06b6fe81935"), looks := false }, kinds := [], alts := [], laidByText := true, laidKinds := [.data, .data, .data, .data], laidTests := true, laidLooks := .later }
def ToolAllCardSaid : Prop := Claim7.holds Tryz.pinned (.plain (OpenSpec.ofChange toolAllSpec)) toolAllCard

/-- THE TIED CARD OF 'theseuslaw22.ToolSpoilt'. -/
def toolSpoiltCard : Claim7 := { stood := { row := toolSpoiltRow, standIns := [], harness := (true, "9d2a3e2bc24d9756e9ea085ea3cf2133baa12e8dfd253087ca99b06b6fe81935"), looks := false }, kinds := [], alts := [], laidByText := true, laidKinds := [.data, .data, .data, .data], laidTests := true, laidLooks := .later }
def ToolSpoiltCardSaid : Prop := Claim7.holds Tryz.pinned (.plain (OpenSpec.ofChange toolSpoiltSpec)) toolSpoiltCard

/-- THE TIED CARD OF 'theseuslaw22.ToolWhole'. -/
def toolWholeCard : Claim7 := { stood := { row := toolWholeRow, standIns := [], harness := (true, "9d2a3e2bc24d9756e9ea085ea3cf2133baa12e8dfd253087ca99b06b6fe81935"), looks := false }, kinds := [], alts := [], laidByText := true, laidKinds := [.data, .data, .data, .data], laidTests := true, laidLooks := .later }
def ToolWholeCardSaid : Prop := Claim7.holds Tryz.pinned (.plain (OpenSpec.ofChange toolWholeSpec)) toolWholeCard

/-- THE TIED CARD OF 'theseustop.TopRefused'. -/
def topRefusedCard : Claim7 := { stood := { row := topRefusedRow, standIns := [], harness := (true, "9d2a3e2bc24d9756e9ea085ea3cf2133baa12e8dfd253087ca99b06b6fe81935"), looks := false }, kinds := [], alts := [], laidByText := true, laidKinds := [.data, .data, .data, .data], laidTests := true, laidLooks := .later }
def TopRefusedCardSaid : Prop := Claim7.holds Tryz.pinned (.plain (OpenSpec.ofChange topRefusedSpec)) topRefusedCard

/-- THE TIED CARD OF 'theseustop.TopEmpty'. -/
def topEmptyCard : Claim7 := { stood := { row := topEmptyRow, standIns := [], harness := (true, "9d2a3e2bc24d9756e9ea085ea3cf2133baa12e8dfd253087ca99b06b6fe81935"), looks := false }, kinds := [], alts := [], laidByText := true, laidKinds := [.data, .data, .data, .data], laidTests := true, laidLooks := .later }
def TopEmptyCardSaid : Prop := Claim7.holds Tryz.pinned (.plain (OpenSpec.ofChange topEmptySpec)) topEmptyCard

/-- THE SECOND FORM's CARD OF 'theseuslaw22.ToolSound'. -/
def toolSoundUptoCard : Claim7 := { stood := { row := toolSoundUptoRow, standIns := [], harness := (true, "9d2a3e2bc24d9756e9ea085ea3cf2133baa12e8dfd253087ca99b06b6fe81935"), looks := false }, kinds := [], alts := [], laidByText := true, laidKinds := [.data, .data, .data, .data], laidTests := true, laidLooks := .later }
def ToolSoundUptoCardSaid : Prop := Claim7.holds Tryz.pinned (.plain (OpenSpec.upto toolSoundSpec)) toolSoundUptoCard

/-- THE SECOND FORM's CARD OF 'theseuslaw22.ToolAll'. -/
def toolAllUptoCard : Claim7 := { stood := { row := toolAllUptoRow, standIns := [], harness := (true, "9d2a3e2bc24d9756e9ea085ea3cf2133baa12e8dfd253087ca99b06b6fe81935"), looks := false }, kinds := [], alts := [], laidByText := true, laidKinds := [.data, .data, .data, .data], laidTests := true, laidLooks := .later }
def ToolAllUptoCardSaid : Prop := Claim7.holds Tryz.pinned (.plain (OpenSpec.upto toolAllSpec)) toolAllUptoCard

/-- THE SECOND FORM's CARD OF 'theseuslaw22.ToolSpoilt'. -/
def toolSpoiltUptoCard : Claim7 := { stood := { row := toolSpoiltUptoRow, standIns := [], harness := (true, "9d2a3e2bc24d9756e9ea085ea3cf2133baa12e8dfd253087ca99b06b6fe81935"), looks := false }, kinds := [], alts := [], laidByText := true, laidKinds := [.data, .data, .data, .data], laidTests := true, laidLooks := .later }
def ToolSpoiltUptoCardSaid : Prop := Claim7.holds Tryz.pinned (.plain (OpenSpec.upto toolSpoiltSpec)) toolSpoiltUptoCard

/-- THE SECOND FORM's CARD OF 'theseuslaw22.ToolWhole'. -/
def toolWholeUptoCard : Claim7 := { stood := { row := toolWholeUptoRow, standIns := [], harness := (true, "9d2a3e2bc24d9756e9ea085ea3cf2133baa12e8dfd253087ca99b06b6fe81935"), looks := false }, kinds := [], alts := [], laidByText := true, laidKinds := [.data, .data, .data, .data], laidTests := true, laidLooks := .later }
def ToolWholeUptoCardSaid : Prop := Claim7.holds Tryz.pinned (.plain (OpenSpec.upto toolWholeSpec)) toolWholeUptoCard

/-- THE SECOND FORM's CARD OF 'theseustop.TopRefused'. -/
def topRefusedUptoCard : Claim7 := { stood := { row := topRefusedUptoRow, standIns := [], harness := (true, "9d2a3e2bc24d9756e9ea085ea3cf2133baa12e8dfd253087ca99b06b6fe81935"), looks := false }, kinds := [], alts := [], laidByText := true, laidKinds := [.data, .data, .data, .data], laidTests := true, laidLooks := .later }
def TopRefusedUptoCardSaid : Prop := Claim7.holds Tryz.pinned (.plain (OpenSpec.upto topRefusedSpec)) topRefusedUptoCard

/-- THE SECOND FORM's CARD OF 'theseustop.TopEmpty'. -/
def topEmptyUptoCard : Claim7 := { stood := { row := topEmptyUptoRow, standIns := [], harness := (true, "9d2a3e2bc24d9756e9ea085ea3cf2133baa12e8dfd253087ca99b06b6fe81935"), looks := false }, kinds := [], alts := [], laidByText := true, laidKinds := [.data, .data, .data, .data], laidTests := true, laidLooks := .later }
def TopEmptyUptoCardSaid : Prop := Claim7.holds Tryz.pinned (.plain (OpenSpec.upto topEmptySpec)) topEmptyUptoCard
end Rows
end Go.Proofs.YtdpmnldmbnpfpaaGreatDoor
