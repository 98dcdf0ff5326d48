/-
  DERIVED. GIVEN WITH THE SEED: THE CARDS: each row of YtjjdmiaonkailaaGreatDoorRows.lean that lists a variable, with what it lists TIED to the program's text (the seventh form; the later family's looks); each row that meets fmt, with fmt's text TOLD by the authors' own Lean function (tested against real Go, not proved from fmt's source: count such statements apart). THE CARD IS WHAT COUNTS. Prove the row's statement (the work); the ties are given (YtjjdmiaonkailaaGreatDoorTie.lean); close each card by the builder's one call (the guide's Derived/Test/ToyasCard.lean, 'card_holds'). Laid BY PROGRAM, IN A SANDBOX (cutbox-door.mjs). By AI agents, Wed Nov 11 2026. No macro, syntax, notation, axiom, sorry.
-/
import Derived.Test.YtjjdmiaonkailaaGreatDoorRows
import GoSem.ClaimSeven
namespace Go.Proofs.YtjjdmiaonkailaaGreatDoor
namespace Rows

/-- THE TIED CARD OF 'gumshoelaw04.JreadHigh'. -/
def jreadHighCard : Claim7 := { stood := { row := jreadHighRow, standIns := [], harness := (true, "2f77d230701276c138c64ee31b3c6cfbfe436fe1dce738f417345d02c07d8608"), looks := true }, kinds := [], alts := [], laidByText := true, laidKinds := [.data, .data, .data, .data, .handle, .listed, .data, .pinned], laidTests := true, laidLooks := .later }
def JreadHighCardSaid : Prop := Claim7.holds Tryz.pinned (.plain (OpenSpec.ofChange jreadHighSpec)) jreadHighCard

/-- THE TIED CARD OF 'gumshoelaw04.JreadErrors'. -/
def jreadErrorsCard : Claim7 := { stood := { row := jreadErrorsRow, standIns := [], harness := (true, "2f77d230701276c138c64ee31b3c6cfbfe436fe1dce738f417345d02c07d8608"), looks := true }, kinds := [], alts := [], laidByText := true, laidKinds := [.data, .data, .data, .data, .handle, .sentinel, .sentinel, .listed, .data, .pinned], laidTests := true, laidLooks := .later }
def JreadErrorsCardSaid : Prop := Claim7.holds Tryz.pinned (.plain (OpenSpec.ofChange jreadErrorsSpec)) jreadErrorsCard

/-- THE TIED CARD OF 'gumshoelaw04.JreadTold'. -/
def jreadToldCard : Claim7 := { stood := { row := jreadToldRow, standIns := [], harness := (true, "2f77d230701276c138c64ee31b3c6cfbfe436fe1dce738f417345d02c07d8608"), looks := true }, kinds := [], alts := [], laidByText := true, laidKinds := [.data, .data, .data, .data, .handle, .sentinel, .sentinel, .listed, .data, .pinned], laidTests := true, laidLooks := .later }
def JreadToldCardSaid : Prop := Claim7.holds Tryz.pinned (.plain (OpenSpec.ofChange jreadToldSpec)) jreadToldCard

/-- THE TIED CARD OF 'gumshoelaw04.JreadJoins'. -/
def jreadJoinsCard : Claim7 := { stood := { row := jreadJoinsRow, standIns := [], harness := (true, "2f77d230701276c138c64ee31b3c6cfbfe436fe1dce738f417345d02c07d8608"), looks := true }, kinds := [], alts := [], laidByText := true, laidKinds := [.data, .data, .data, .data, .handle, .sentinel, .sentinel, .listed, .data, .pinned], laidTests := true, laidLooks := .later }
def JreadJoinsCardSaid : Prop := Claim7.holds Tryz.pinned (.plain (OpenSpec.ofChange jreadJoinsSpec)) jreadJoinsCard

/-- THE TIED CARD OF 'gumshoelaw04.JreadSemis'. -/
def jreadSemisCard : Claim7 := { stood := { row := jreadSemisRow, standIns := [], harness := (true, "2f77d230701276c138c64ee31b3c6cfbfe436fe1dce738f417345d02c07d8608"), looks := true }, kinds := [], alts := [], laidByText := true, laidKinds := [.data, .data, .data, .data, .handle, .sentinel, .sentinel, .listed, .data, .pinned], laidTests := true, laidLooks := .later }
def JreadSemisCardSaid : Prop := Claim7.holds Tryz.pinned (.plain (OpenSpec.ofChange jreadSemisSpec)) jreadSemisCard

/-- THE TIED CARD OF 'gumshoelaw04.JreadBack'. -/
def jreadBackCard : Claim7 := { stood := { row := jreadBackRow, standIns := [], harness := (true, "2f77d230701276c138c64ee31b3c6cfbfe436fe1dce738f417345d02c07d8608"), looks := true }, kinds := [], alts := [], laidByText := true, laidKinds := [.data, .data, .data, .data, .handle, .sentinel, .sentinel, .listed, .data, .pinned], laidTests := true, laidLooks := .later }
def JreadBackCardSaid : Prop := Claim7.holds Tryz.pinned (.plain (OpenSpec.ofChange jreadBackSpec)) jreadBackCard

/-- THE SECOND FORM's CARD OF 'gumshoelaw04.JreadHigh'. -/
def jreadHighUptoCard : Claim7 := { stood := { row := jreadHighUptoRow, standIns := [], harness := (true, "2f77d230701276c138c64ee31b3c6cfbfe436fe1dce738f417345d02c07d8608"), looks := true }, kinds := [], alts := [], laidByText := true, laidKinds := [.data, .data, .data, .data, .handle, .listed, .data, .pinned], laidTests := true, laidLooks := .later }
def JreadHighUptoCardSaid : Prop := Claim7.holds Tryz.pinned (.plain (OpenSpec.upto jreadHighSpec)) jreadHighUptoCard

/-- THE SECOND FORM's CARD OF 'gumshoelaw04.JreadErrors'. -/
def jreadErrorsUptoCard : Claim7 := { stood := { row := jreadErrorsUptoRow, standIns := [], harness := (true, "2f77d230701276c138c64ee31b3c6cfbfe436fe1dce738f417345d02c07d8608"), looks := true }, kinds := [], alts := [], laidByText := true, laidKinds := [.data, .data, .data, .data, .handle, .sentinel, .sentinel, .listed, .data, .pinned], laidTests := true, laidLooks := .later }
def JreadErrorsUptoCardSaid : Prop := Claim7.holds Tryz.pinned (.plain (OpenSpec.upto jreadErrorsSpec)) jreadErrorsUptoCard

/-- THE SECOND FORM's CARD OF 'gumshoelaw04.JreadTold'. -/
def jreadToldUptoCard : Claim7 := { stood := { row := jreadToldUptoRow, standIns := [], harness := (true, "2f77d230701276c138c64ee31b3c6cfbfe436fe1dce738f417345d02c07d8608"), looks := true }, kinds := [], alts := [], laidByText := true, laidKinds := [.data, .data, .data, .data, .handle, .sentinel, .sentinel, .listed, .data, .pinned], laidTests := true, laidLooks := .later }
def JreadToldUptoCardSaid : Prop := Claim7.holds Tryz.pinned (.plain (OpenSpec.upto jreadToldSpec)) jreadToldUptoCard

/-- THE SECOND FORM's CARD OF 'gumshoelaw04.JreadJoins'. -/
def jreadJoinsUptoCard : Claim7 := { stood := { row := jreadJoinsUptoRow, standIns := [], harness := (true, "2f77d230701276c138c64ee31b3c6cfbfe436fe1dce738f417345d02c07d8608"), looks := true }, kinds := [], alts := [], laidByText := true, laidKinds := [.data, .data, .data, .data, .handle, .sentinel, .sentinel, .listed, .data, .pinned], laidTests := true, laidLooks := .later }
def JreadJoinsUptoCardSaid : Prop := Claim7.holds Tryz.pinned (.plain (OpenSpec.upto jreadJoinsSpec)) jreadJoinsUptoCard

/-- THE SECOND FORM's CARD OF 'gumshoelaw04.JreadSemis'. -/
def jreadSemisUptoCard : Claim7 := { stood := { row := jreadSemisUptoRow, standIns := [], harness := (true, "2f77d230701276c138c64ee31b3c6cfbfe436fe1dce738f417345d02c07d8608"), looks := true }, kinds := [], alts := [], laidByText := true, laidKinds := [.data, .data, .data, .data, .handle, .sentinel, .sentinel, .listed, .data, .pinned], laidTests := true, laidLooks := .later }
def JreadSemisUptoCardSaid : Prop := Claim7.holds Tryz.pinned (.plain (OpenSpec.upto jreadSemisSpec)) jreadSemisUptoCard

/-- THE SECOND FORM's CARD OF 'gumshoelaw04.JreadBack'. -/
def jreadBackUptoCard : Claim7 := { stood := { row := jreadBackUptoRow, standIns := [], harness := (true, "2f77d230701276c138c64ee31b3c6cfbfe436fe1dce738f417345d02c07d8608"), looks := true }, kinds := [], alts := [], laidByText := true, laidKinds := [.data, .data, .data, .data, .handle, .sentinel, .sentinel, .listed, .data, .pinned], laidTests := true, laidLooks := .later }
def JreadBackUptoCardSaid : Prop := Claim7.holds Tryz.pinned (.plain (OpenSpec.upto jreadBackSpec)) jreadBackUptoCard
end Rows
end Go.Proofs.YtjjdmiaonkailaaGreatDoor
