/-
  DERIVED. GIVEN WITH THE SEED: THE CARDS: each row of YtcidccifnaecaaaDoorRows.lean that lists a variable, with what it lists TIED to the program's text (the seventh form; the later family's looks); each row that meets fmt, with fmt's text TOLD by the authors' own Lean function (tested against real Go, not proved from fmt's source: count such statements apart). THE CARD IS WHAT COUNTS. Prove the row's statement (the work); the ties are given (YtcidccifnaecaaaDoorTie.lean); close each card by the builder's one call (the guide's Derived/Test/ToyasCard.lean, 'card_holds'). Laid BY PROGRAM, IN A SANDBOX (cutbox-door.mjs). By AI agents, Wed Nov 11 2026. No macro, syntax, notation, axiom, sorry.
-/
import Derived.Test.YtcidccifnaecaaaDoorRows
import GoSem.ClaimSeven
namespace Go.Proofs.YtcidccifnaecaaaDoor
namespace Rows

/-- THE TIED CARD OF 'gumshoelaw03.JtreeRight'. -/
def jtreeRightCard : Claim7 := { stood := { row := jtreeRightRow, standIns := [], harness := (true, "a23a5e182f941e82484997fcbd05eee8660efeeb42306a739ba9da4b6b184eac"), looks := true }, kinds := [], alts := [], laidByText := true, laidKinds := [.data, .data, .data, .data, .listed, .data, .pinned], laidTests := true, laidLooks := .later }
def JtreeRightCardSaid : Prop := Claim7.holds Tryd.pinned (.plain (OpenSpec.ofChange jtreeRightSpec)) jtreeRightCard

/-- THE TIED CARD OF 'gumshoelaw03.JtreeShows'. -/
def jtreeShowsCard : Claim7 := { stood := { row := jtreeShowsRow, standIns := [], harness := (true, "a23a5e182f941e82484997fcbd05eee8660efeeb42306a739ba9da4b6b184eac"), looks := true }, kinds := [], alts := [], laidByText := true, laidKinds := [.data, .data, .data, .data, .listed, .data, .pinned], laidTests := true, laidLooks := .later }
def JtreeShowsCardSaid : Prop := Claim7.holds Tryd.pinned (.plain (OpenSpec.ofChange jtreeShowsSpec)) jtreeShowsCard

/-- THE TIED CARD OF 'gumshoelaw03.JtreeParts'. -/
def jtreePartsCard : Claim7 := { stood := { row := jtreePartsRow, standIns := [], harness := (true, "a23a5e182f941e82484997fcbd05eee8660efeeb42306a739ba9da4b6b184eac"), looks := true }, kinds := [], alts := [], laidByText := true, laidKinds := [.data, .data, .data, .data, .listed, .data, .pinned], laidTests := true, laidLooks := .later }
def JtreePartsCardSaid : Prop := Claim7.holds Tryd.pinned (.plain (OpenSpec.ofChange jtreePartsSpec)) jtreePartsCard

/-- THE TIED CARD OF 'gumshoelaw03.JtreeHigh'. -/
def jtreeHighCard : Claim7 := { stood := { row := jtreeHighRow, standIns := [], harness := (true, "a23a5e182f941e82484997fcbd05eee8660efeeb42306a739ba9da4b6b184eac"), looks := true }, kinds := [], alts := [], laidByText := true, laidKinds := [.data, .data, .data, .data, .listed, .data, .pinned], laidTests := true, laidLooks := .later }
def JtreeHighCardSaid : Prop := Claim7.holds Tryd.pinned (.plain (OpenSpec.ofChange jtreeHighSpec)) jtreeHighCard

/-- THE TIED CARD OF 'gumshoelaw03.JtreeSames'. -/
def jtreeSamesCard : Claim7 := { stood := { row := jtreeSamesRow, standIns := [], harness := (true, "a23a5e182f941e82484997fcbd05eee8660efeeb42306a739ba9da4b6b184eac"), looks := true }, kinds := [], alts := [], laidByText := true, laidKinds := [.data, .data, .data, .data, .listed, .data, .pinned], laidTests := true, laidLooks := .later }
def JtreeSamesCardSaid : Prop := Claim7.holds Tryd.pinned (.plain (OpenSpec.ofChange jtreeSamesSpec)) jtreeSamesCard

/-- THE TIED CARD OF 'gumshoelaw03.JtreeApart'. -/
def jtreeApartCard : Claim7 := { stood := { row := jtreeApartRow, standIns := [], harness := (true, "a23a5e182f941e82484997fcbd05eee8660efeeb42306a739ba9da4b6b184eac"), looks := true }, kinds := [], alts := [], laidByText := true, laidKinds := [.data, .data, .data, .data, .listed, .data, .pinned], laidTests := true, laidLooks := .later }
def JtreeApartCardSaid : Prop := Claim7.holds Tryd.pinned (.plain (OpenSpec.ofChange jtreeApartSpec)) jtreeApartCard

/-- THE TIED CARD OF 'gumshoelaw03.JtreeWalks'. -/
def jtreeWalksCard : Claim7 := { stood := { row := jtreeWalksRow, standIns := [], harness := (true, "a23a5e182f941e82484997fcbd05eee8660efeeb42306a739ba9da4b6b184eac"), looks := true }, kinds := [], alts := [], laidByText := true, laidKinds := [.data, .data, .data, .data, .listed, .data, .pinned], laidTests := true, laidLooks := .later }
def JtreeWalksCardSaid : Prop := Claim7.holds Tryd.pinned (.plain (OpenSpec.ofChange jtreeWalksSpec)) jtreeWalksCard

/-- THE TIED CARD OF 'gumshoelaw02.JlexBlanks'. -/
def jlexBlanksCard : Claim7 := { stood := { row := jlexBlanksRow, standIns := [], harness := (true, "a23a5e182f941e82484997fcbd05eee8660efeeb42306a739ba9da4b6b184eac"), looks := true }, kinds := [], alts := [], laidByText := true, laidKinds := [.data, .data, .data, .data, .sentinel, .sentinel, .listed, .data, .pinned], laidTests := true, laidLooks := .later }
def JlexBlanksCardSaid : Prop := Claim7.holds Tryd.pinned (.plain (OpenSpec.ofChange jlexBlanksSpec)) jlexBlanksCard

/-- THE TIED CARD OF 'gumshoelaw02.JlexLines'. -/
def jlexLinesCard : Claim7 := { stood := { row := jlexLinesRow, standIns := [], harness := (true, "a23a5e182f941e82484997fcbd05eee8660efeeb42306a739ba9da4b6b184eac"), looks := true }, kinds := [], alts := [], laidByText := true, laidKinds := [.data, .data, .data, .data, .sentinel, .sentinel, .listed, .data, .pinned], laidTests := true, laidLooks := .later }
def JlexLinesCardSaid : Prop := Claim7.holds Tryd.pinned (.plain (OpenSpec.ofChange jlexLinesSpec)) jlexLinesCard

/-- THE TIED CARD OF 'gumshoelaw02.JlexLong'. -/
def jlexLongCard : Claim7 := { stood := { row := jlexLongRow, standIns := [], harness := (true, "a23a5e182f941e82484997fcbd05eee8660efeeb42306a739ba9da4b6b184eac"), looks := true }, kinds := [], alts := [], laidByText := true, laidKinds := [.data, .data, .data, .data, .sentinel, .sentinel, .listed, .data, .pinned], laidTests := true, laidLooks := .later }
def JlexLongCardSaid : Prop := Claim7.holds Tryd.pinned (.plain (OpenSpec.ofChange jlexLongSpec)) jlexLongCard

/-- THE TIED CARD OF 'gumshoelaw02.JlexJoins'. -/
def jlexJoinsCard : Claim7 := { stood := { row := jlexJoinsRow, standIns := [], harness := (true, "a23a5e182f941e82484997fcbd05eee8660efeeb42306a739ba9da4b6b184eac"), looks := true }, kinds := [], alts := [], laidByText := true, laidKinds := [.data, .data, .data, .data, .sentinel, .sentinel, .listed, .data, .pinned], laidTests := true, laidLooks := .later }
def JlexJoinsCardSaid : Prop := Claim7.holds Tryd.pinned (.plain (OpenSpec.ofChange jlexJoinsSpec)) jlexJoinsCard

/-- THE TIED CARD OF 'gumshoelaw02.JlexOne'. -/
def jlexOneCard : Claim7 := { stood := { row := jlexOneRow, standIns := [], harness := (true, "a23a5e182f941e82484997fcbd05eee8660efeeb42306a739ba9da4b6b184eac"), looks := true }, kinds := [], alts := [], laidByText := true, laidKinds := [.data, .data, .data, .data, .sentinel, .sentinel, .listed, .data, .pinned], laidTests := true, laidLooks := .later }
def JlexOneCardSaid : Prop := Claim7.holds Tryd.pinned (.plain (OpenSpec.ofChange jlexOneSpec)) jlexOneCard

/-- THE TIED CARD OF 'gumshoelaw02.JlexQuotes'. -/
def jlexQuotesCard : Claim7 := { stood := { row := jlexQuotesRow, standIns := [], harness := (true, "a23a5e182f941e82484997fcbd05eee8660efeeb42306a739ba9da4b6b184eac"), looks := true }, kinds := [], alts := [], laidByText := true, laidKinds := [.data, .data, .data, .data, .sentinel, .sentinel, .listed, .data, .pinned], laidTests := true, laidLooks := .later }
def JlexQuotesCardSaid : Prop := Claim7.holds Tryd.pinned (.plain (OpenSpec.ofChange jlexQuotesSpec)) jlexQuotesCard

/-- THE TIED CARD OF 'gumshoelaw02.JlexWords'. -/
def jlexWordsCard : Claim7 := { stood := { row := jlexWordsRow, standIns := [], harness := (true, "a23a5e182f941e82484997fcbd05eee8660efeeb42306a739ba9da4b6b184eac"), looks := true }, kinds := [], alts := [], laidByText := true, laidKinds := [.data, .data, .data, .data, .sentinel, .sentinel, .listed, .data, .pinned], laidTests := true, laidLooks := .later }
def JlexWordsCardSaid : Prop := Claim7.holds Tryd.pinned (.plain (OpenSpec.ofChange jlexWordsSpec)) jlexWordsCard

/-- THE SECOND FORM's CARD OF 'gumshoelaw03.JtreeRight'. -/
def jtreeRightUptoCard : Claim7 := { stood := { row := jtreeRightUptoRow, standIns := [], harness := (true, "a23a5e182f941e82484997fcbd05eee8660efeeb42306a739ba9da4b6b184eac"), looks := true }, kinds := [], alts := [], laidByText := true, laidKinds := [.data, .data, .data, .data, .listed, .data, .pinned], laidTests := true, laidLooks := .later }
def JtreeRightUptoCardSaid : Prop := Claim7.holds Tryd.pinned (.plain (OpenSpec.upto jtreeRightSpec)) jtreeRightUptoCard

/-- THE SECOND FORM's CARD OF 'gumshoelaw03.JtreeShows'. -/
def jtreeShowsUptoCard : Claim7 := { stood := { row := jtreeShowsUptoRow, standIns := [], harness := (true, "a23a5e182f941e82484997fcbd05eee8660efeeb42306a739ba9da4b6b184eac"), looks := true }, kinds := [], alts := [], laidByText := true, laidKinds := [.data, .data, .data, .data, .listed, .data, .pinned], laidTests := true, laidLooks := .later }
def JtreeShowsUptoCardSaid : Prop := Claim7.holds Tryd.pinned (.plain (OpenSpec.upto jtreeShowsSpec)) jtreeShowsUptoCard

/-- THE SECOND FORM's CARD OF 'gumshoelaw03.JtreeParts'. -/
def jtreePartsUptoCard : Claim7 := { stood := { row := jtreePartsUptoRow, standIns := [], harness := (true, "a23a5e182f941e82484997fcbd05eee8660efeeb42306a739ba9da4b6b184eac"), looks := true }, kinds := [], alts := [], laidByText := true, laidKinds := [.data, .data, .data, .data, .listed, .data, .pinned], laidTests := true, laidLooks := .later }
def JtreePartsUptoCardSaid : Prop := Claim7.holds Tryd.pinned (.plain (OpenSpec.upto jtreePartsSpec)) jtreePartsUptoCard

/-- THE SECOND FORM's CARD OF 'gumshoelaw03.JtreeHigh'. -/
def jtreeHighUptoCard : Claim7 := { stood := { row := jtreeHighUptoRow, standIns := [], harness := (true, "a23a5e182f941e82484997fcbd05eee8660efeeb42306a739ba9da4b6b184eac"), looks := true }, kinds := [], alts := [], laidByText := true, laidKinds := [.data, .data, .data, .data, .listed, .data, .pinned], laidTests := true, laidLooks := .later }
def JtreeHighUptoCardSaid : Prop := Claim7.holds Tryd.pinned (.plain (OpenSpec.upto jtreeHighSpec)) jtreeHighUptoCard

/-- THE SECOND FORM's CARD OF 'gumshoelaw03.JtreeSames'. -/
def jtreeSamesUptoCard : Claim7 := { stood := { row := jtreeSamesUptoRow, standIns := [], harness := (true, "a23a5e182f941e82484997fcbd05eee8660efeeb42306a739ba9da4b6b184eac"), looks := true }, kinds := [], alts := [], laidByText := true, laidKinds := [.data, .data, .data, .data, .listed, .data, .pinned], laidTests := true, laidLooks := .later }
def JtreeSamesUptoCardSaid : Prop := Claim7.holds Tryd.pinned (.plain (OpenSpec.upto jtreeSamesSpec)) jtreeSamesUptoCard

/-- THE SECOND FORM's CARD OF 'gumshoelaw03.JtreeApart'. -/
def jtreeApartUptoCard : Claim7 := { stood := { row := jtreeApartUptoRow, standIns := [], harness := (true, "a23a5e182f941e82484997fcbd05eee8660efeeb42306a739ba9da4b6b184eac"), looks := true }, kinds := [], alts := [], laidByText := true, laidKinds := [.data, .data, .data, .data, .listed, .data, .pinned], laidTests := true, laidLooks := .later }
def JtreeApartUptoCardSaid : Prop := Claim7.holds Tryd.pinned (.plain (OpenSpec.upto jtreeApartSpec)) jtreeApartUptoCard

/-- THE SECOND FORM's CARD OF 'gumshoelaw03.JtreeWalks'. -/
def jtreeWalksUptoCard : Claim7 := { stood := { row := jtreeWalksUptoRow, standIns := [], harness := (true, "a23a5e182f941e82484997fcbd05eee8660efeeb42306a739ba9da4b6b184eac"), looks := true }, kinds := [], alts := [], laidByText := true, laidKinds := [.data, .data, .data, .data, .listed, .data, .pinned], laidTests := true, laidLooks := .later }
def JtreeWalksUptoCardSaid : Prop := Claim7.holds Tryd.pinned (.plain (OpenSpec.upto jtreeWalksSpec)) jtreeWalksUptoCard

/-- THE SECOND FORM's CARD OF 'gumshoelaw02.JlexBlanks'. -/
def jlexBlanksUptoCard : Claim7 := { stood := { row := jlexBlanksUptoRow, standIns := [], harness := (true, "a23a5e182f941e82484997fcbd05eee8660efeeb42306a739ba9da4b6b184eac"), looks := true }, kinds := [], alts := [], laidByText := true, laidKinds := [.data, .data, .data, .data, .sentinel, .sentinel, .listed, .data, .pinned], laidTests := true, laidLooks := .later }
def JlexBlanksUptoCardSaid : Prop := Claim7.holds Tryd.pinned (.plain (OpenSpec.upto jlexBlanksSpec)) jlexBlanksUptoCard

/-- THE SECOND FORM's CARD OF 'gumshoelaw02.JlexLines'. -/
def jlexLinesUptoCard : Claim7 := { stood := { row := jlexLinesUptoRow, standIns := [], harness := (true, "a23a5e182f941e82484997fcbd05eee8660efeeb42306a739ba9da4b6b184eac"), looks := true }, kinds := [], alts := [], laidByText := true, laidKinds := [.data, .data, .data, .data, .sentinel, .sentinel, .listed, .data, .pinned], laidTests := true, laidLooks := .later }
def JlexLinesUptoCardSaid : Prop := Claim7.holds Tryd.pinned (.plain (OpenSpec.upto jlexLinesSpec)) jlexLinesUptoCard

/-- THE SECOND FORM's CARD OF 'gumshoelaw02.JlexLong'. -/
def jlexLongUptoCard : Claim7 := { stood := { row := jlexLongUptoRow, standIns := [], harness := (true, "a23a5e182f941e82484997fcbd05eee8660efeeb42306a739ba9da4b6b184eac"), looks := true }, kinds := [], alts := [], laidByText := true, laidKinds := [.data, .data, .data, .data, .sentinel, .sentinel, .listed, .data, .pinned], laidTests := true, laidLooks := .later }
def JlexLongUptoCardSaid : Prop := Claim7.holds Tryd.pinned (.plain (OpenSpec.upto jlexLongSpec)) jlexLongUptoCard

/-- THE SECOND FORM's CARD OF 'gumshoelaw02.JlexJoins'. -/
def jlexJoinsUptoCard : Claim7 := { stood := { row := jlexJoinsUptoRow, standIns := [], harness := (true, "a23a5e182f941e82484997fcbd05eee8660efeeb42306a739ba9da4b6b184eac"), looks := true }, kinds := [], alts := [], laidByText := true, laidKinds := [.data, .data, .data, .data, .sentinel, .sentinel, .listed, .data, .pinned], laidTests := true, laidLooks := .later }
def JlexJoinsUptoCardSaid : Prop := Claim7.holds Tryd.pinned (.plain (OpenSpec.upto jlexJoinsSpec)) jlexJoinsUptoCard

/-- THE SECOND FORM's CARD OF 'gumshoelaw02.JlexOne'. -/
def jlexOneUptoCard : Claim7 := { stood := { row := jlexOneUptoRow, standIns := [], harness := (true, "a23a5e182f941e82484997fcbd05eee8660efeeb42306a739ba9da4b6b184eac"), looks := true }, kinds := [], alts := [], laidByText := true, laidKinds := [.data, .data, .data, .data, .sentinel, .sentinel, .listed, .data, .pinned], laidTests := true, laidLooks := .later }
def JlexOneUptoCardSaid : Prop := Claim7.holds Tryd.pinned (.plain (OpenSpec.upto jlexOneSpec)) jlexOneUptoCard

/-- THE SECOND FORM's CARD OF 'gumshoelaw02.JlexQuotes'. -/
def jlexQuotesUptoCard : Claim7 := { stood := { row := jlexQuotesUptoRow, standIns := [], harness := (true, "a23a5e182f941e82484997fcbd05eee8660efeeb42306a739ba9da4b6b184eac"), looks := true }, kinds := [], alts := [], laidByText := true, laidKinds := [.data, .data, .data, .data, .sentinel, .sentinel, .listed, .data, .pinned], laidTests := true, laidLooks := .later }
def JlexQuotesUptoCardSaid : Prop := Claim7.holds Tryd.pinned (.plain (OpenSpec.upto jlexQuotesSpec)) jlexQuotesUptoCard

/-- THE SECOND FORM's CARD OF 'gumshoelaw02.JlexWords'. -/
def jlexWordsUptoCard : Claim7 := { stood := { row := jlexWordsUptoRow, standIns := [], harness := (true, "a23a5e182f941e82484997fcbd05eee8660efeeb42306a739ba9da4b6b184eac"), looks := true }, kinds := [], alts := [], laidByText := true, laidKinds := [.data, .data, .data, .data, .sentinel, .sentinel, .listed, .data, .pinned], laidTests := true, laidLooks := .later }
def JlexWordsUptoCardSaid : Prop := Claim7.holds Tryd.pinned (.plain (OpenSpec.upto jlexWordsSpec)) jlexWordsUptoCard
end Rows
end Go.Proofs.YtcidccifnaecaaaDoor
