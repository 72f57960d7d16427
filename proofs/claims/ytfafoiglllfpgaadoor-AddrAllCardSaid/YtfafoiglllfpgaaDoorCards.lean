/-
  DERIVED. GIVEN WITH THE SEED: THE CARDS: each row of YtfafoiglllfpgaaDoorRows.lean that lists a variable, with what it lists TIED to the program's text (the seventh form; the later family's looks); each row that meets fmt, with fmt's text TOLD by the authors' own Lean function (tested against real Go, not proved from fmt's source: count such statements apart). THE CARD IS WHAT COUNTS. Prove the row's statement (the work); the ties are given (YtfafoiglllfpgaaDoorTie.lean); close each card by the builder's one call (the guide's Derived/Test/ToyasCard.lean, 'card_holds'). Laid BY PROGRAM, IN A SANDBOX (cutbox-door.mjs). By AI agents, Wed Nov 11 2026. No macro, syntax, notation, axiom, sorry.
-/
import Derived.Test.YtfafoiglllfpgaaDoorRows
import GoSem.ClaimSeven
namespace Go.Proofs.YtfafoiglllfpgaaDoor
namespace Rows

/-- THE TIED CARD OF 'theseuslaw06.PrefixNest'. -/
def prefixNestCard : Claim7 := { stood := { row := prefixNestRow, standIns := [], harness := (true, "58998f57f058d52e2307ae06aced5983a4897691ca209826c4f40e05b618e571"), looks := false }, kinds := [], alts := [], laidByText := true, laidKinds := [.data, .data, .data], laidTests := true, laidLooks := .later }
def PrefixNestCardSaid : Prop := Claim7.holds Tryd.pinned (.plain (OpenSpec.ofChange prefixNestSpec)) prefixNestCard

/-- THE TIED CARD OF 'theseuslaw06.PrefixMasks'. -/
def prefixMasksCard : Claim7 := { stood := { row := prefixMasksRow, standIns := [], harness := (true, "58998f57f058d52e2307ae06aced5983a4897691ca209826c4f40e05b618e571"), looks := false }, kinds := [], alts := [], laidByText := true, laidKinds := [.data, .data, .data], laidTests := true, laidLooks := .later }
def PrefixMasksCardSaid : Prop := Claim7.holds Tryd.pinned (.plain (OpenSpec.ofChange prefixMasksSpec)) prefixMasksCard

/-- THE TIED CARD OF 'theseuslaw05.AddrBack'. -/
def addrBackCard : Claim7 := { stood := { row := addrBackRow, standIns := [], harness := (true, "58998f57f058d52e2307ae06aced5983a4897691ca209826c4f40e05b618e571"), looks := false }, kinds := [], alts := [], laidByText := true, laidKinds := [.data, .data, .data], laidTests := true, laidLooks := .later }
def AddrBackCardSaid : Prop := Claim7.holds Tryd.pinned (.plain (OpenSpec.ofChange addrBackSpec)) addrBackCard

/-- THE TIED CARD OF 'theseuslaw05.AddrParts'. -/
def addrPartsCard : Claim7 := { stood := { row := addrPartsRow, standIns := [], harness := (true, "58998f57f058d52e2307ae06aced5983a4897691ca209826c4f40e05b618e571"), looks := false }, kinds := [], alts := [], laidByText := true, laidKinds := [.data, .data, .data], laidTests := true, laidLooks := .later }
def AddrPartsCardSaid : Prop := Claim7.holds Tryd.pinned (.plain (OpenSpec.ofChange addrPartsSpec)) addrPartsCard

/-- THE TIED CARD OF 'theseuslaw06.PrefixCommon'. -/
def prefixCommonCard : Claim7 := { stood := { row := prefixCommonRow, standIns := [], harness := (true, "58998f57f058d52e2307ae06aced5983a4897691ca209826c4f40e05b618e571"), looks := false }, kinds := [], alts := [], laidByText := true, laidKinds := [.data, .data, .data], laidTests := true, laidLooks := .later }
def PrefixCommonCardSaid : Prop := Claim7.holds Tryd.pinned (.plain (OpenSpec.ofChange prefixCommonSpec)) prefixCommonCard

/-- THE TIED CARD OF 'theseuslaw06.PrefixEnds'. -/
def prefixEndsCard : Claim7 := { stood := { row := prefixEndsRow, standIns := [], harness := (true, "58998f57f058d52e2307ae06aced5983a4897691ca209826c4f40e05b618e571"), looks := false }, kinds := [], alts := [], laidByText := true, laidKinds := [.data, .data, .data], laidTests := true, laidLooks := .later }
def PrefixEndsCardSaid : Prop := Claim7.holds Tryd.pinned (.plain (OpenSpec.ofChange prefixEndsSpec)) prefixEndsCard

/-- THE TIED CARD OF 'theseuslaw06.PrefixOrder'. -/
def prefixOrderCard : Claim7 := { stood := { row := prefixOrderRow, standIns := [], harness := (true, "58998f57f058d52e2307ae06aced5983a4897691ca209826c4f40e05b618e571"), looks := false }, kinds := [], alts := [], laidByText := true, laidKinds := [.data, .data, .data], laidTests := true, laidLooks := .later }
def PrefixOrderCardSaid : Prop := Claim7.holds Tryd.pinned (.plain (OpenSpec.ofChange prefixOrderSpec)) prefixOrderCard

/-- THE TIED CARD OF 'theseuslaw05.AddrAll'. -/
def addrAllCard : Claim7 := { stood := { row := addrAllRow, standIns := [], harness := (true, "58998f57f058d52e2307ae06aced5983a4897691ca209826c4f40e05b618e571"), looks := false }, kinds := [], alts := [], laidByText := true, laidKinds := [.data, .data, .data], laidTests := true, laidLooks := .later }
def AddrAllCardSaid : Prop := Claim7.holds Tryd.pinned (.plain (OpenSpec.ofChange addrAllSpec)) addrAllCard

/-- THE TIED CARD OF 'theseuslaw05.AddrCommon'. -/
def addrCommonCard : Claim7 := { stood := { row := addrCommonRow, standIns := [], harness := (true, "58998f57f058d52e2307ae06aced5983a4897691ca209826c4f40e05b618e571"), looks := false }, kinds := [], alts := [], laidByText := true, laidKinds := [.data, .data, .data], laidTests := true, laidLooks := .later }
def AddrCommonCardSaid : Prop := Claim7.holds Tryd.pinned (.plain (OpenSpec.ofChange addrCommonSpec)) addrCommonCard

/-- THE TIED CARD OF 'theseuslaw05.AddrTurns'. -/
def addrTurnsCard : Claim7 := { stood := { row := addrTurnsRow, standIns := [], harness := (true, "58998f57f058d52e2307ae06aced5983a4897691ca209826c4f40e05b618e571"), looks := false }, kinds := [], alts := [], laidByText := true, laidKinds := [.data, .data, .data], laidTests := true, laidLooks := .later }
def AddrTurnsCardSaid : Prop := Claim7.holds Tryd.pinned (.plain (OpenSpec.ofChange addrTurnsSpec)) addrTurnsCard

/-- THE TIED CARD OF 'theseuslaw06.PrefixHalves'. -/
def prefixHalvesCard : Claim7 := { stood := { row := prefixHalvesRow, standIns := [], harness := (true, "58998f57f058d52e2307ae06aced5983a4897691ca209826c4f40e05b618e571"), looks := false }, kinds := [], alts := [], laidByText := true, laidKinds := [.data, .data, .data], laidTests := true, laidLooks := .later }
def PrefixHalvesCardSaid : Prop := Claim7.holds Tryd.pinned (.plain (OpenSpec.ofChange prefixHalvesSpec)) prefixHalvesCard

/-- THE TIED CARD OF 'theseuslaw06.PrefixTexts'. -/
def prefixTextsCard : Claim7 := { stood := { row := prefixTextsRow, standIns := [], harness := (true, "58998f57f058d52e2307ae06aced5983a4897691ca209826c4f40e05b618e571"), looks := false }, kinds := [], alts := [], laidByText := true, laidKinds := [.data, .data, .data], laidTests := true, laidLooks := .later }
def PrefixTextsCardSaid : Prop := Claim7.holds Tryd.pinned (.plain (OpenSpec.ofChange prefixTextsSpec)) prefixTextsCard

/-- THE TIED CARD OF 'theseuslaw06.PrefixAll'. -/
def prefixAllCard : Claim7 := { stood := { row := prefixAllRow, standIns := [], harness := (true, "58998f57f058d52e2307ae06aced5983a4897691ca209826c4f40e05b618e571"), looks := false }, kinds := [], alts := [], laidByText := true, laidKinds := [.data, .data, .data], laidTests := true, laidLooks := .later }
def PrefixAllCardSaid : Prop := Claim7.holds Tryd.pinned (.plain (OpenSpec.ofChange prefixAllSpec)) prefixAllCard

/-- THE SECOND FORM's CARD OF 'theseuslaw06.PrefixNest'. -/
def prefixNestUptoCard : Claim7 := { stood := { row := prefixNestUptoRow, standIns := [], harness := (true, "58998f57f058d52e2307ae06aced5983a4897691ca209826c4f40e05b618e571"), looks := false }, kinds := [], alts := [], laidByText := true, laidKinds := [.data, .data, .data], laidTests := true, laidLooks := .later }
def PrefixNestUptoCardSaid : Prop := Claim7.holds Tryd.pinned (.plain (OpenSpec.upto prefixNestSpec)) prefixNestUptoCard

/-- THE SECOND FORM's CARD OF 'theseuslaw06.PrefixMasks'. -/
def prefixMasksUptoCard : Claim7 := { stood := { row := prefixMasksUptoRow, standIns := [], harness := (true, "58998f57f058d52e2307ae06aced5983a4897691ca209826c4f40e05b618e571"), looks := false }, kinds := [], alts := [], laidByText := true, laidKinds := [.data, .data, .data], laidTests := true, laidLooks := .later }
def PrefixMasksUptoCardSaid : Prop := Claim7.holds Tryd.pinned (.plain (OpenSpec.upto prefixMasksSpec)) prefixMasksUptoCard

/-- THE SECOND FORM's CARD OF 'theseuslaw05.AddrBack'. -/
def addrBackUptoCard : Claim7 := { stood := { row := addrBackUptoRow, standIns := [], harness := (true, "58998f57f058d52e2307ae06aced5983a4897691ca209826c4f40e05b618e571"), looks := false }, kinds := [], alts := [], laidByText := true, laidKinds := [.data, .data, .data], laidTests := true, laidLooks := .later }
def AddrBackUptoCardSaid : Prop := Claim7.holds Tryd.pinned (.plain (OpenSpec.upto addrBackSpec)) addrBackUptoCard

/-- THE SECOND FORM's CARD OF 'theseuslaw05.AddrParts'. -/
def addrPartsUptoCard : Claim7 := { stood := { row := addrPartsUptoRow, standIns := [], harness := (true, "58998f57f058d52e2307ae06aced5983a4897691ca209826c4f40e05b618e571"), looks := false }, kinds := [], alts := [], laidByText := true, laidKinds := [.data, .data, .data], laidTests := true, laidLooks := .later }
def AddrPartsUptoCardSaid : Prop := Claim7.holds Tryd.pinned (.plain (OpenSpec.upto addrPartsSpec)) addrPartsUptoCard

/-- THE SECOND FORM's CARD OF 'theseuslaw06.PrefixCommon'. -/
def prefixCommonUptoCard : Claim7 := { stood := { row := prefixCommonUptoRow, standIns := [], harness := (true, "58998f57f058d52e2307ae06aced5983a4897691ca209826c4f40e05b618e571"), looks := false }, kinds := [], alts := [], laidByText := true, laidKinds := [.data, .data, .data], laidTests := true, laidLooks := .later }
def PrefixCommonUptoCardSaid : Prop := Claim7.holds Tryd.pinned (.plain (OpenSpec.upto prefixCommonSpec)) prefixCommonUptoCard

/-- THE SECOND FORM's CARD OF 'theseuslaw06.PrefixEnds'. -/
def prefixEndsUptoCard : Claim7 := { stood := { row := prefixEndsUptoRow, standIns := [], harness := (true, "58998f57f058d52e2307ae06aced5983a4897691ca209826c4f40e05b618e571"), looks := false }, kinds := [], alts := [], laidByText := true, laidKinds := [.data, .data, .data], laidTests := true, laidLooks := .later }
def PrefixEndsUptoCardSaid : Prop := Claim7.holds Tryd.pinned (.plain (OpenSpec.upto prefixEndsSpec)) prefixEndsUptoCard

/-- THE SECOND FORM's CARD OF 'theseuslaw06.PrefixOrder'. -/
def prefixOrderUptoCard : Claim7 := { stood := { row := prefixOrderUptoRow, standIns := [], harness := (true, "58998f57f058d52e2307ae06aced5983a4897691ca209826c4f40e05b618e571"), looks := false }, kinds := [], alts := [], laidByText := true, laidKinds := [.data, .data, .data], laidTests := true, laidLooks := .later }
def PrefixOrderUptoCardSaid : Prop := Claim7.holds Tryd.pinned (.plain (OpenSpec.upto prefixOrderSpec)) prefixOrderUptoCard

/-- THE SECOND FORM's CARD OF 'theseuslaw05.AddrAll'. -/
def addrAllUptoCard : Claim7 := { stood := { row := addrAllUptoRow, standIns := [], harness := (true, "58998f57f058d52e2307ae06aced5983a4897691ca209826c4f40e05b618e571"), looks := false }, kinds := [], alts := [], laidByText := true, laidKinds := [.data, .data, .data], laidTests := true, laidLooks := .later }
def AddrAllUptoCardSaid : Prop := Claim7.holds Tryd.pinned (.plain (OpenSpec.upto addrAllSpec)) addrAllUptoCard

/-- THE SECOND FORM's CARD OF 'theseuslaw05.AddrCommon'. -/
def addrCommonUptoCard : Claim7 := { stood := { row := addrCommonUptoRow, standIns := [], harness := (true, "58998f57f058d52e2307ae06aced5983a4897691ca209826c4f40e05b618e571"), looks := false }, kinds := [], alts := [], laidByText := true, laidKinds := [.data, .data, .data], laidTests := true, laidLooks := .later }
def AddrCommonUptoCardSaid : Prop := Claim7.holds Tryd.pinned (.plain (OpenSpec.upto addrCommonSpec)) addrCommonUptoCard

/-- THE SECOND FORM's CARD OF 'theseuslaw05.AddrTurns'. -/
def addrTurnsUptoCard : Claim7 := { stood := { row := addrTurnsUptoRow, standIns := [], harness := (true, "58998f57f058d52e2307ae06aced5983a4897691ca209826c4f40e05b618e571"), looks := false }, kinds := [], alts := [], laidByText := true, laidKinds := [.data, .data, .data], laidTests := true, laidLooks := .later }
def AddrTurnsUptoCardSaid : Prop := Claim7.holds Tryd.pinned (.plain (OpenSpec.upto addrTurnsSpec)) addrTurnsUptoCard

/-- THE SECOND FORM's CARD OF 'theseuslaw06.PrefixHalves'. -/
def prefixHalvesUptoCard : Claim7 := { stood := { row := prefixHalvesUptoRow, standIns := [], harness := (true, "58998f57f058d52e2307ae06aced5983a4897691ca209826c4f40e05b618e571"), looks := false }, kinds := [], alts := [], laidByText := true, laidKinds := [.data, .data, .data], laidTests := true, laidLooks := .later }
def PrefixHalvesUptoCardSaid : Prop := Claim7.holds Tryd.pinned (.plain (OpenSpec.upto prefixHalvesSpec)) prefixHalvesUptoCard

/-- THE SECOND FORM's CARD OF 'theseuslaw06.PrefixTexts'. -/
def prefixTextsUptoCard : Claim7 := { stood := { row := prefixTextsUptoRow, standIns := [], harness := (true, "58998f57f058d52e2307ae06aced5983a4897691ca209826c4f40e05b618e571"), looks := false }, kinds := [], alts := [], laidByText := true, laidKinds := [.data, .data, .data], laidTests := true, laidLooks := .later }
def PrefixTextsUptoCardSaid : Prop := Claim7.holds Tryd.pinned (.plain (OpenSpec.upto prefixTextsSpec)) prefixTextsUptoCard

/-- THE SECOND FORM's CARD OF 'theseuslaw06.PrefixAll'. -/
def prefixAllUptoCard : Claim7 := { stood := { row := prefixAllUptoRow, standIns := [], harness := (true, "58998f57f058d52e2307ae06aced5983a4897691ca209826c4f40e05b618e571"), looks := false }, kinds := [], alts := [], laidByText := true, laidKinds := [.data, .data, .data], laidTests := true, laidLooks := .later }
def PrefixAllUptoCardSaid : Prop := Claim7.holds Tryd.pinned (.plain (OpenSpec.upto prefixAllSpec)) prefixAllUptoCard
end Rows
end Go.Proofs.YtfafoiglllfpgaaDoor
