/-
  DERIVED. GIVEN WITH THE SEED: THE CARDS: each row of YtnllhddbgkeboaaDoorRows.lean that lists a variable, with what it lists TIED to the program's text (the seventh form; the later family's looks); each row that meets fmt, with fmt's text TOLD by the authors' own Lean function (tested against real Go, not proved from fmt's source: count such statements apart). THE CARD IS WHAT COUNTS. Prove the row's statement (the work); the ties are given (YtnllhddbgkeboaaDoorTie.lean); close each card by the builder's one call (the guide's Derived/Test/ToyasCard.lean, 'card_holds'). Laid BY PROGRAM, IN A SANDBOX (cutbox-door.mjs). By AI agents, Wed Nov 11 2026. No macro, syntax, notation, axiom, sorry.
-/
import Derived.Test.YtnllhddbgkeboaaDoorRows
import GoSem.ClaimSeven
namespace Go.Proofs.YtnllhddbgkeboaaDoor
namespace Rows

/-- THE TIED CARD OF 'hamperlaw19.ParamReads'. -/
def paramReadsCard : Claim7 := { stood := { row := paramReadsRow, standIns := [], harness := (true, "882045138da55700ae55ab7a82a0867883f75b8fcf451d4bdfb79a1a7b3d730a"), looks := false }, kinds := [], alts := [], laidByText := true, laidKinds := [.data, .pinned], laidTests := true, laidLooks := .later }
def ParamReadsCardSaid : Prop := Claim7.holds Tryd.pinned (.plain (OpenSpec.ofChange paramReadsSpec)) paramReadsCard

/-- THE TIED CARD OF 'hamperlaw19.ParamWhole'. -/
def paramWholeCard : Claim7 := { stood := { row := paramWholeRow, standIns := [], harness := (true, "882045138da55700ae55ab7a82a0867883f75b8fcf451d4bdfb79a1a7b3d730a"), looks := false }, kinds := [], alts := [], laidByText := true, laidKinds := [.data, .pinned], laidTests := true, laidLooks := .later }
def ParamWholeCardSaid : Prop := Claim7.holds Tryd.pinned (.plain (OpenSpec.ofChange paramWholeSpec)) paramWholeCard

/-- THE TIED CARD OF 'hamperlaw19.ParamFinds'. -/
def paramFindsCard : Claim7 := { stood := { row := paramFindsRow, standIns := [], harness := (true, "882045138da55700ae55ab7a82a0867883f75b8fcf451d4bdfb79a1a7b3d730a"), looks := false }, kinds := [], alts := [], laidByText := true, laidKinds := [.data, .pinned], laidTests := true, laidLooks := .later }
def ParamFindsCardSaid : Prop := Claim7.holds Tryd.pinned (.plain (OpenSpec.ofChange paramFindsSpec)) paramFindsCard

/-- THE TIED CARD OF 'hamperlaw19.ParamOrder'. -/
def paramOrderCard : Claim7 := { stood := { row := paramOrderRow, standIns := [], harness := (true, "882045138da55700ae55ab7a82a0867883f75b8fcf451d4bdfb79a1a7b3d730a"), looks := false }, kinds := [], alts := [], laidByText := true, laidKinds := [.data, .pinned], laidTests := true, laidLooks := .later }
def ParamOrderCardSaid : Prop := Claim7.holds Tryd.pinned (.plain (OpenSpec.ofChange paramOrderSpec)) paramOrderCard

/-- THE TIED CARD OF 'hamperlaw25.SeqsetOf'. -/
def seqsetOfCard : Claim7 := { stood := { row := seqsetOfRow, standIns := [], harness := (true, "882045138da55700ae55ab7a82a0867883f75b8fcf451d4bdfb79a1a7b3d730a"), looks := false }, kinds := [], alts := [], laidByText := true, laidKinds := [.data, .pinned], laidTests := true, laidLooks := .later }
def SeqsetOfCardSaid : Prop := Claim7.holds Tryd.pinned (.plain (OpenSpec.ofChange seqsetOfSpec)) seqsetOfCard

/-- THE TIED CARD OF 'hamperlaw25.SeqsetUnion'. -/
def seqsetUnionCard : Claim7 := { stood := { row := seqsetUnionRow, standIns := [], harness := (true, "882045138da55700ae55ab7a82a0867883f75b8fcf451d4bdfb79a1a7b3d730a"), looks := false }, kinds := [], alts := [], laidByText := true, laidKinds := [.data, .pinned], laidTests := true, laidLooks := .later }
def SeqsetUnionCardSaid : Prop := Claim7.holds Tryd.pinned (.plain (OpenSpec.ofChange seqsetUnionSpec)) seqsetUnionCard

/-- THE TIED CARD OF 'hamperlaw25.SeqsetLeast'. -/
def seqsetLeastCard : Claim7 := { stood := { row := seqsetLeastRow, standIns := [], harness := (true, "882045138da55700ae55ab7a82a0867883f75b8fcf451d4bdfb79a1a7b3d730a"), looks := false }, kinds := [], alts := [], laidByText := true, laidKinds := [.data, .pinned], laidTests := true, laidLooks := .later }
def SeqsetLeastCardSaid : Prop := Claim7.holds Tryd.pinned (.plain (OpenSpec.ofChange seqsetLeastSpec)) seqsetLeastCard

/-- THE TIED CARD OF 'hamperlaw25.SeqsetParses'. -/
def seqsetParsesCard : Claim7 := { stood := { row := seqsetParsesRow, standIns := [], harness := (true, "882045138da55700ae55ab7a82a0867883f75b8fcf451d4bdfb79a1a7b3d730a"), looks := false }, kinds := [], alts := [], laidByText := true, laidKinds := [.data, .data, .data, .data, .pinned], laidTests := true, laidLooks := .later }
def SeqsetParsesCardSaid : Prop := Claim7.holds Tryd.pinned (.plain (OpenSpec.ofChange seqsetParsesSpec)) seqsetParsesCard

/-- THE SECOND FORM's CARD OF 'hamperlaw19.ParamReads'. -/
def paramReadsUptoCard : Claim7 := { stood := { row := paramReadsUptoRow, standIns := [], harness := (true, "882045138da55700ae55ab7a82a0867883f75b8fcf451d4bdfb79a1a7b3d730a"), looks := false }, kinds := [], alts := [], laidByText := true, laidKinds := [.data, .pinned], laidTests := true, laidLooks := .later }
def ParamReadsUptoCardSaid : Prop := Claim7.holds Tryd.pinned (.plain (OpenSpec.upto paramReadsSpec)) paramReadsUptoCard

/-- THE SECOND FORM's CARD OF 'hamperlaw19.ParamWhole'. -/
def paramWholeUptoCard : Claim7 := { stood := { row := paramWholeUptoRow, standIns := [], harness := (true, "882045138da55700ae55ab7a82a0867883f75b8fcf451d4bdfb79a1a7b3d730a"), looks := false }, kinds := [], alts := [], laidByText := true, laidKinds := [.data, .pinned], laidTests := true, laidLooks := .later }
def ParamWholeUptoCardSaid : Prop := Claim7.holds Tryd.pinned (.plain (OpenSpec.upto paramWholeSpec)) paramWholeUptoCard

/-- THE SECOND FORM's CARD OF 'hamperlaw19.ParamFinds'. -/
def paramFindsUptoCard : Claim7 := { stood := { row := paramFindsUptoRow, standIns := [], harness := (true, "882045138da55700ae55ab7a82a0867883f75b8fcf451d4bdfb79a1a7b3d730a"), looks := false }, kinds := [], alts := [], laidByText := true, laidKinds := [.data, .pinned], laidTests := true, laidLooks := .later }
def ParamFindsUptoCardSaid : Prop := Claim7.holds Tryd.pinned (.plain (OpenSpec.upto paramFindsSpec)) paramFindsUptoCard

/-- THE SECOND FORM's CARD OF 'hamperlaw19.ParamOrder'. -/
def paramOrderUptoCard : Claim7 := { stood := { row := paramOrderUptoRow, standIns := [], harness := (true, "882045138da55700ae55ab7a82a0867883f75b8fcf451d4bdfb79a1a7b3d730a"), looks := false }, kinds := [], alts := [], laidByText := true, laidKinds := [.data, .pinned], laidTests := true, laidLooks := .later }
def ParamOrderUptoCardSaid : Prop := Claim7.holds Tryd.pinned (.plain (OpenSpec.upto paramOrderSpec)) paramOrderUptoCard

/-- THE SECOND FORM's CARD OF 'hamperlaw25.SeqsetOf'. -/
def seqsetOfUptoCard : Claim7 := { stood := { row := seqsetOfUptoRow, standIns := [], harness := (true, "882045138da55700ae55ab7a82a0867883f75b8fcf451d4bdfb79a1a7b3d730a"), looks := false }, kinds := [], alts := [], laidByText := true, laidKinds := [.data, .pinned], laidTests := true, laidLooks := .later }
def SeqsetOfUptoCardSaid : Prop := Claim7.holds Tryd.pinned (.plain (OpenSpec.upto seqsetOfSpec)) seqsetOfUptoCard

/-- THE SECOND FORM's CARD OF 'hamperlaw25.SeqsetUnion'. -/
def seqsetUnionUptoCard : Claim7 := { stood := { row := seqsetUnionUptoRow, standIns := [], harness := (true, "882045138da55700ae55ab7a82a0867883f75b8fcf451d4bdfb79a1a7b3d730a"), looks := false }, kinds := [], alts := [], laidByText := true, laidKinds := [.data, .pinned], laidTests := true, laidLooks := .later }
def SeqsetUnionUptoCardSaid : Prop := Claim7.holds Tryd.pinned (.plain (OpenSpec.upto seqsetUnionSpec)) seqsetUnionUptoCard

/-- THE SECOND FORM's CARD OF 'hamperlaw25.SeqsetLeast'. -/
def seqsetLeastUptoCard : Claim7 := { stood := { row := seqsetLeastUptoRow, standIns := [], harness := (true, "882045138da55700ae55ab7a82a0867883f75b8fcf451d4bdfb79a1a7b3d730a"), looks := false }, kinds := [], alts := [], laidByText := true, laidKinds := [.data, .pinned], laidTests := true, laidLooks := .later }
def SeqsetLeastUptoCardSaid : Prop := Claim7.holds Tryd.pinned (.plain (OpenSpec.upto seqsetLeastSpec)) seqsetLeastUptoCard

/-- THE SECOND FORM's CARD OF 'hamperlaw25.SeqsetParses'. -/
def seqsetParsesUptoCard : Claim7 := { stood := { row := seqsetParsesUptoRow, standIns := [], harness := (true, "882045138da55700ae55ab7a82a0867883f75b8fcf451d4bdfb79a1a7b3d730a"), looks := false }, kinds := [], alts := [], laidByText := true, laidKinds := [.data, .data, .data, .data, .pinned], laidTests := true, laidLooks := .later }
def SeqsetParsesUptoCardSaid : Prop := Claim7.holds Tryd.pinned (.plain (OpenSpec.upto seqsetParsesSpec)) seqsetParsesUptoCard
end Rows
end Go.Proofs.YtnllhddbgkeboaaDoor
