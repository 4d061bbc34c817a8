/-
  DERIVED. GIVEN WITH THE SEED: THE CARDS: each row of YtenbjndldenkfaaDoorRows.lean that lists a variable, with what it lists TIED to the program's text (the seventh form; the later family's looks); each row that meets fmt, with fmt's text TOLD by the authors' own Lean function (tested against real Go, not proved from fmt's source: count such statements apart). THE CARD IS WHAT COUNTS. Prove the row's statement (the work); the ties are given (YtenbjndldenkfaaDoorTie.lean); close each card by the builder's one call (the guide's Derived/Test/ToyasCard.lean, 'card_holds'). Laid BY PROGRAM, IN A SANDBOX (cutbox-door.mjs). By AI agents, Wed Nov 11 2026. No macro, syntax, notation, axiom, sorry.
-/
import Derived.Test.YtenbjndldenkfaaDoorRows
import GoSem.ClaimSeven
namespace Go.Proofs.YtenbjndldenkfaaDoor
namespace Rows

/-- THE TIED CARD OF 'hamperlaw20.PartNumbers'. -/
def partNumbersCard : Claim7 := { stood := { row := partNumbersRow, standIns := [], harness := (true, "2118baaa158856f49ed60f7c683d04fe3dc4625933602c811290464a8954685a"), looks := false }, kinds := [], alts := [], laidByText := true, laidKinds := [.data, .pinned], laidTests := true, laidLooks := .later }
def PartNumbersCardSaid : Prop := Claim7.holds Tryd.pinned (.plain (OpenSpec.ofChange partNumbersSpec)) partNumbersCard

/-- THE TIED CARD OF 'hamperlaw20.PartMade'. -/
def partMadeCard : Claim7 := { stood := { row := partMadeRow, standIns := [], harness := (true, "2118baaa158856f49ed60f7c683d04fe3dc4625933602c811290464a8954685a"), looks := false }, kinds := [], alts := [], laidByText := true, laidKinds := [.data, .pinned], laidTests := true, laidLooks := .later }
def PartMadeCardSaid : Prop := Claim7.holds Tryd.pinned (.plain (OpenSpec.ofChange partMadeSpec)) partMadeCard

/-- THE SECOND FORM's CARD OF 'hamperlaw20.PartNumbers'. -/
def partNumbersUptoCard : Claim7 := { stood := { row := partNumbersUptoRow, standIns := [], harness := (true, "2118baaa158856f49ed60f7c683d04fe3dc4625933602c811290464a8954685a"), looks := false }, kinds := [], alts := [], laidByText := true, laidKinds := [.data, .pinned], laidTests := true, laidLooks := .later }
def PartNumbersUptoCardSaid : Prop := Claim7.holds Tryd.pinned (.plain (OpenSpec.upto partNumbersSpec)) partNumbersUptoCard

/-- THE SECOND FORM's CARD OF 'hamperlaw20.PartMade'. -/
def partMadeUptoCard : Claim7 := { stood := { row := partMadeUptoRow, standIns := [], harness := (true, "2118baaa158856f49ed60f7c683d04fe3dc4625933602c811290464a8954685a"), looks := false }, kinds := [], alts := [], laidByText := true, laidKinds := [.data, .pinned], laidTests := true, laidLooks := .later }
def PartMadeUptoCardSaid : Prop := Claim7.holds Tryd.pinned (.plain (OpenSpec.upto partMadeSpec)) partMadeUptoCard
end Rows
end Go.Proofs.YtenbjndldenkfaaDoor
