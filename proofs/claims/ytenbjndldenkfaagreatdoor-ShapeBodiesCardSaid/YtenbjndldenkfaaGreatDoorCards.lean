/-
  DERIVED. GIVEN WITH THE SEED: THE CARDS: each row of YtenbjndldenkfaaGreatDoorRows.lean that lists a variable, with what it lists TIED to the program's text (the seventh form; the later family's looks); each row that meets fmt, with fmt's text TOLD by the authors' own Lean function (tested against real Go, not proved from fmt's source: count such statements apart). THE CARD IS WHAT COUNTS. Prove the row's statement (the work); the ties are given (YtenbjndldenkfaaGreatDoorTie.lean); close each card by the builder's one call (the guide's Derived/Test/ToyasCard.lean, 'card_holds'). Laid BY PROGRAM, IN A SANDBOX (cutbox-door.mjs). By AI agents, Wed Nov 11 2026. No macro, syntax, notation, axiom, sorry.
-/
import Derived.Test.YtenbjndldenkfaaGreatDoorRows
import GoSem.ClaimSeven
namespace Go.Proofs.YtenbjndldenkfaaGreatDoor
namespace Rows

/-- THE TIED CARD OF 'hamperlaw22.ShapeStrings'. -/
def shapeStringsCard : Claim7 := { stood := { row := shapeStringsRow, standIns := [], harness := (true, "71d412bebd7d9245dfa49d0c519e4f18a2bfdf120e7db20e776cc4bca974d7b4"), looks := true }, kinds := [], alts := [], laidByText := true, laidKinds := [.data, .data, .data, .data, .pinned], laidTests := true, laidLooks := .later }
def ShapeStringsCardSaid : Prop := Claim7.holds Tryz.pinned (.plain (OpenSpec.ofChange shapeStringsSpec)) shapeStringsCard

/-- THE TIED CARD OF 'hamperlaw22.ShapeBodies'. -/
def shapeBodiesCard : Claim7 := { stood := { row := shapeBodiesRow, standIns := [], harness := (true, "71d412bebd7d9245dfa49d0c519e4f18a2bfdf120e7db20e776cc4bca974d7b4"), looks := true }, kinds := [], alts := [], laidByText := true, laidKinds := [.data, .data, .data, .data, .pinned], laidTests := true, laidLooks := .later }
def ShapeBodiesCardSaid : Prop := Claim7.holds Tryz.pinned (.plain (OpenSpec.ofChange shapeBodiesSpec)) shapeBodiesCard

/-- THE TIED CARD OF 'hamperlaw22.ShapeEven'. -/
def shapeEvenCard : Claim7 := { stood := { row := shapeEvenRow, standIns := [], harness := (true, "71d412bebd7d9245dfa49d0c519e4f18a2bfdf120e7db20e776cc4bca974d7b4"), looks := true }, kinds := [], alts := [], laidByText := true, laidKinds := [.data, .data, .data, .data, .pinned], laidTests := true, laidLooks := .later }
def ShapeEvenCardSaid : Prop := Claim7.holds Tryz.pinned (.plain (OpenSpec.ofChange shapeEvenSpec)) shapeEvenCard

/-- THE TIED CARD OF 'hamperlaw22.ShapeQuotes'. -/
def shapeQuotesCard : Claim7 := { stood := { row := shapeQuotesRow, standIns := [], harness := (true, "71d412bebd7d9245dfa49d0c519e4f18a2bfdf120e7db20e776cc4bca974d7b4"), looks := true }, kinds := [], alts := [], laidByText := true, laidKinds := [.data, .data, .data, .data, .pinned], laidTests := true, laidLooks := .later }
def ShapeQuotesCardSaid : Prop := Claim7.holds Tryz.pinned (.plain (OpenSpec.ofChange shapeQuotesSpec)) shapeQuotesCard

/-- THE TIED CARD OF 'hamperlaw21.SectionWhole'. -/
def sectionWholeCard : Claim7 := { stood := { row := sectionWholeRow, standIns := [], harness := (true, "71d412bebd7d9245dfa49d0c519e4f18a2bfdf120e7db20e776cc4bca974d7b4"), looks := true }, kinds := [], alts := [], laidByText := true, laidKinds := [.data, .data, .data, .data, .sentinel, .sentinel, .pinned], laidTests := true, laidLooks := .later }
def SectionWholeCardSaid : Prop := Claim7.holds Tryz.pinned (.plain (OpenSpec.ofChange sectionWholeSpec)) sectionWholeCard

/-- THE TIED CARD OF 'hamperlaw21.SectionPicks'. -/
def sectionPicksCard : Claim7 := { stood := { row := sectionPicksRow, standIns := [], harness := (true, "71d412bebd7d9245dfa49d0c519e4f18a2bfdf120e7db20e776cc4bca974d7b4"), looks := true }, kinds := [], alts := [], laidByText := true, laidKinds := [.data, .data, .data, .data, .sentinel, .sentinel, .pinned], laidTests := true, laidLooks := .later }
def SectionPicksCardSaid : Prop := Claim7.holds Tryz.pinned (.plain (OpenSpec.ofChange sectionPicksSpec)) sectionPicksCard

/-- THE SECOND FORM's CARD OF 'hamperlaw22.ShapeStrings'. -/
def shapeStringsUptoCard : Claim7 := { stood := { row := shapeStringsUptoRow, standIns := [], harness := (true, "71d412bebd7d9245dfa49d0c519e4f18a2bfdf120e7db20e776cc4bca974d7b4"), looks := true }, kinds := [], alts := [], laidByText := true, laidKinds := [.data, .data, .data, .data, .pinned], laidTests := true, laidLooks := .later }
def ShapeStringsUptoCardSaid : Prop := Claim7.holds Tryz.pinned (.plain (OpenSpec.upto shapeStringsSpec)) shapeStringsUptoCard

/-- THE SECOND FORM's CARD OF 'hamperlaw22.ShapeBodies'. -/
def shapeBodiesUptoCard : Claim7 := { stood := { row := shapeBodiesUptoRow, standIns := [], harness := (true, "71d412bebd7d9245dfa49d0c519e4f18a2bfdf120e7db20e776cc4bca974d7b4"), looks := true }, kinds := [], alts := [], laidByText := true, laidKinds := [.data, .data, .data, .data, .pinned], laidTests := true, laidLooks := .later }
def ShapeBodiesUptoCardSaid : Prop := Claim7.holds Tryz.pinned (.plain (OpenSpec.upto shapeBodiesSpec)) shapeBodiesUptoCard

/-- THE SECOND FORM's CARD OF 'hamperlaw22.ShapeEven'. -/
def shapeEvenUptoCard : Claim7 := { stood := { row := shapeEvenUptoRow, standIns := [], harness := (true, "71d412bebd7d9245dfa49d0c519e4f18a2bfdf120e7db20e776cc4bca974d7b4"), looks := true }, kinds := [], alts := [], laidByText := true, laidKinds := [.data, .data, .data, .data, .pinned], laidTests := true, laidLooks := .later }
def ShapeEvenUptoCardSaid : Prop := Claim7.holds Tryz.pinned (.plain (OpenSpec.upto shapeEvenSpec)) shapeEvenUptoCard

/-- THE SECOND FORM's CARD OF 'hamperlaw22.ShapeQuotes'. -/
def shapeQuotesUptoCard : Claim7 := { stood := { row := shapeQuotesUptoRow, standIns := [], harness := (true, "71d412bebd7d9245dfa49d0c519e4f18a2bfdf120e7db20e776cc4bca974d7b4"), looks := true }, kinds := [], alts := [], laidByText := true, laidKinds := [.data, .data, .data, .data, .pinned], laidTests := true, laidLooks := .later }
def ShapeQuotesUptoCardSaid : Prop := Claim7.holds Tryz.pinned (.plain (OpenSpec.upto shapeQuotesSpec)) shapeQuotesUptoCard

/-- THE SECOND FORM's CARD OF 'hamperlaw21.SectionWhole'. -/
def sectionWholeUptoCard : Claim7 := { stood := { row := sectionWholeUptoRow, standIns := [], harness := (true, "71d412bebd7d9245dfa49d0c519e4f18a2bfdf120e7db20e776cc4bca974d7b4"), looks := true }, kinds := [], alts := [], laidByText := true, laidKinds := [.data, .data, .data, .data, .sentinel, .sentinel, .pinned], laidTests := true, laidLooks := .later }
def SectionWholeUptoCardSaid : Prop := Claim7.holds Tryz.pinned (.plain (OpenSpec.upto sectionWholeSpec)) sectionWholeUptoCard

/-- THE SECOND FORM's CARD OF 'hamperlaw21.SectionPicks'. -/
def sectionPicksUptoCard : Claim7 := { stood := { row := sectionPicksUptoRow, standIns := [], harness := (true, "71d412bebd7d9245dfa49d0c519e4f18a2bfdf120e7db20e776cc4bca974d7b4"), looks := true }, kinds := [], alts := [], laidByText := true, laidKinds := [.data, .data, .data, .data, .sentinel, .sentinel, .pinned], laidTests := true, laidLooks := .later }
def SectionPicksUptoCardSaid : Prop := Claim7.holds Tryz.pinned (.plain (OpenSpec.upto sectionPicksSpec)) sectionPicksUptoCard
end Rows
end Go.Proofs.YtenbjndldenkfaaGreatDoor
