/-
  DERIVED. GIVEN WITH THE SEED: THE CARDS: each row of YtbaaokocnegdoaaGreatDoorRows.lean that lists a variable, with what it lists TIED to the program's text (the seventh form; the later family's looks); each row that meets fmt, with fmt's text TOLD by the authors' own Lean function (tested against real Go, not proved from fmt's source: count such statements apart). THE CARD IS WHAT COUNTS. Prove the row's statement (the work); the ties are given (YtbaaokocnegdoaaGreatDoorTie.lean); close each card by the builder's one call (the guide's Derived/Test/ToyasCard.lean, 'card_holds'). Laid BY PROGRAM, IN A SANDBOX (cutbox-door.mjs). By AI agents, Wed Nov 11 2026. No macro, syntax, notation, axiom, sorry.
-/
import Derived.Test.YtbaaokocnegdoaaGreatDoorRows
import GoSem.ClaimSeven
namespace Go.Proofs.YtbaaokocnegdoaaGreatDoor
namespace Rows

/-- THE TIED CARD OF 'manifoldlaw11.DelimitedValues'. -/
def delimitedValuesCard : Claim7 := { stood := { row := delimitedValuesRow, standIns := [], harness := (true, "87a0c3881f4b07dad0aba2799d2ca88705f76fe095d6c873a6e93c638e930ea5"), looks := true }, kinds := [], alts := [], laidByText := true, laidKinds := [.data, .data, .data, .data, .sentinel, .sentinel, .pinned], laidTests := true, laidLooks := .later }
def DelimitedValuesCardSaid : Prop := Claim7.holds Tryz.pinned (.plain (OpenSpec.ofChange delimitedValuesSpec)) delimitedValuesCard

/-- THE TIED CARD OF 'manifoldlaw11.DelimitedRepresentable'. -/
def delimitedRepresentableCard : Claim7 := { stood := { row := delimitedRepresentableRow, standIns := [], harness := (true, "87a0c3881f4b07dad0aba2799d2ca88705f76fe095d6c873a6e93c638e930ea5"), looks := true }, kinds := [], alts := [], laidByText := true, laidKinds := [.data, .data, .data, .data, .sentinel, .sentinel, .pinned], laidTests := true, laidLooks := .later }
def DelimitedRepresentableCardSaid : Prop := Claim7.holds Tryz.pinned (.plain (OpenSpec.ofChange delimitedRepresentableSpec)) delimitedRepresentableCard

/-- THE TIED CARD OF 'manifoldlaw11.DelimitedEncodes'. -/
def delimitedEncodesCard : Claim7 := { stood := { row := delimitedEncodesRow, standIns := [], harness := (true, "87a0c3881f4b07dad0aba2799d2ca88705f76fe095d6c873a6e93c638e930ea5"), looks := true }, kinds := [], alts := [], laidByText := true, laidKinds := [.data, .data, .data, .data, .sentinel, .sentinel, .pinned], laidTests := true, laidLooks := .later }
def DelimitedEncodesCardSaid : Prop := Claim7.holds Tryz.pinned (.plain (OpenSpec.ofChange delimitedEncodesSpec)) delimitedEncodesCard

/-- THE TIED CARD OF 'manifoldlaw11.DelimitedDecodes'. -/
def delimitedDecodesCard : Claim7 := { stood := { row := delimitedDecodesRow, standIns := [], harness := (true, "87a0c3881f4b07dad0aba2799d2ca88705f76fe095d6c873a6e93c638e930ea5"), looks := true }, kinds := [], alts := [], laidByText := true, laidKinds := [.data, .data, .data, .data, .sentinel, .sentinel, .pinned], laidTests := true, laidLooks := .later }
def DelimitedDecodesCardSaid : Prop := Claim7.holds Tryz.pinned (.plain (OpenSpec.ofChange delimitedDecodesSpec)) delimitedDecodesCard

/-- THE TIED CARD OF 'manifoldlaw11.DelimitedAgain'. -/
def delimitedAgainCard : Claim7 := { stood := { row := delimitedAgainRow, standIns := [], harness := (true, "87a0c3881f4b07dad0aba2799d2ca88705f76fe095d6c873a6e93c638e930ea5"), looks := true }, kinds := [], alts := [], laidByText := true, laidKinds := [.data, .data, .data, .data, .sentinel, .sentinel, .pinned], laidTests := true, laidLooks := .later }
def DelimitedAgainCardSaid : Prop := Claim7.holds Tryz.pinned (.plain (OpenSpec.ofChange delimitedAgainSpec)) delimitedAgainCard

/-- THE TIED CARD OF 'manifoldlaw11.DelimitedJoins'. -/
def delimitedJoinsCard : Claim7 := { stood := { row := delimitedJoinsRow, standIns := [], harness := (true, "87a0c3881f4b07dad0aba2799d2ca88705f76fe095d6c873a6e93c638e930ea5"), looks := true }, kinds := [], alts := [], laidByText := true, laidKinds := [.data, .data, .data, .data, .sentinel, .sentinel, .pinned], laidTests := true, laidLooks := .later }
def DelimitedJoinsCardSaid : Prop := Claim7.holds Tryz.pinned (.plain (OpenSpec.ofChange delimitedJoinsSpec)) delimitedJoinsCard

/-- THE TIED CARD OF 'manifoldlaw11.DelimitedSplits'. -/
def delimitedSplitsCard : Claim7 := { stood := { row := delimitedSplitsRow, standIns := [], harness := (true, "87a0c3881f4b07dad0aba2799d2ca88705f76fe095d6c873a6e93c638e930ea5"), looks := true }, kinds := [], alts := [], laidByText := true, laidKinds := [.data, .data, .data, .data, .sentinel, .sentinel, .pinned], laidTests := true, laidLooks := .later }
def DelimitedSplitsCardSaid : Prop := Claim7.holds Tryz.pinned (.plain (OpenSpec.ofChange delimitedSplitsSpec)) delimitedSplitsCard

/-- THE TIED CARD OF 'manifoldlaw11.DelimitedLong'. -/
def delimitedLongCard : Claim7 := { stood := { row := delimitedLongRow, standIns := [], harness := (true, "87a0c3881f4b07dad0aba2799d2ca88705f76fe095d6c873a6e93c638e930ea5"), looks := true }, kinds := [], alts := [], laidByText := true, laidKinds := [.data, .data, .data, .data, .sentinel, .sentinel, .pinned], laidTests := true, laidLooks := .later }
def DelimitedLongCardSaid : Prop := Claim7.holds Tryz.pinned (.plain (OpenSpec.ofChange delimitedLongSpec)) delimitedLongCard

/-- THE SECOND FORM's CARD OF 'manifoldlaw11.DelimitedValues'. -/
def delimitedValuesUptoCard : Claim7 := { stood := { row := delimitedValuesUptoRow, standIns := [], harness := (true, "87a0c3881f4b07dad0aba2799d2ca88705f76fe095d6c873a6e93c638e930ea5"), looks := true }, kinds := [], alts := [], laidByText := true, laidKinds := [.data, .data, .data, .data, .sentinel, .sentinel, .pinned], laidTests := true, laidLooks := .later }
def DelimitedValuesUptoCardSaid : Prop := Claim7.holds Tryz.pinned (.plain (OpenSpec.upto delimitedValuesSpec)) delimitedValuesUptoCard

/-- THE SECOND FORM's CARD OF 'manifoldlaw11.DelimitedRepresentable'. -/
def delimitedRepresentableUptoCard : Claim7 := { stood := { row := delimitedRepresentableUptoRow, standIns := [], harness := (true, "87a0c3881f4b07dad0aba2799d2ca88705f76fe095d6c873a6e93c638e930ea5"), looks := true }, kinds := [], alts := [], laidByText := true, laidKinds := [.data, .data, .data, .data, .sentinel, .sentinel, .pinned], laidTests := true, laidLooks := .later }
def DelimitedRepresentableUptoCardSaid : Prop := Claim7.holds Tryz.pinned (.plain (OpenSpec.upto delimitedRepresentableSpec)) delimitedRepresentableUptoCard

/-- THE SECOND FORM's CARD OF 'manifoldlaw11.DelimitedEncodes'. -/
def delimitedEncodesUptoCard : Claim7 := { stood := { row := delimitedEncodesUptoRow, standIns := [], harness := (true, "87a0c3881f4b07dad0aba2799d2ca88705f76fe095d6c873a6e93c638e930ea5"), looks := true }, kinds := [], alts := [], laidByText := true, laidKinds := [.data, .data, .data, .data, .sentinel, .sentinel, .pinned], laidTests := true, laidLooks := .later }
def DelimitedEncodesUptoCardSaid : Prop := Claim7.holds Tryz.pinned (.plain (OpenSpec.upto delimitedEncodesSpec)) delimitedEncodesUptoCard

/-- THE SECOND FORM's CARD OF 'manifoldlaw11.DelimitedDecodes'. -/
def delimitedDecodesUptoCard : Claim7 := { stood := { row := delimitedDecodesUptoRow, standIns := [], harness := (true, "87a0c3881f4b07dad0aba2799d2ca88705f76fe095d6c873a6e93c638e930ea5"), looks := true }, kinds := [], alts := [], laidByText := true, laidKinds := [.data, .data, .data, .data, .sentinel, .sentinel, .pinned], laidTests := true, laidLooks := .later }
def DelimitedDecodesUptoCardSaid : Prop := Claim7.holds Tryz.pinned (.plain (OpenSpec.upto delimitedDecodesSpec)) delimitedDecodesUptoCard

/-- THE SECOND FORM's CARD OF 'manifoldlaw11.DelimitedAgain'. -/
def delimitedAgainUptoCard : Claim7 := { stood := { row := delimitedAgainUptoRow, standIns := [], harness := (true, "87a0c3881f4b07dad0aba2799d2ca88705f76fe095d6c873a6e93c638e930ea5"), looks := true }, kinds := [], alts := [], laidByText := true, laidKinds := [.data, .data, .data, .data, .sentinel, .sentinel, .pinned], laidTests := true, laidLooks := .later }
def DelimitedAgainUptoCardSaid : Prop := Claim7.holds Tryz.pinned (.plain (OpenSpec.upto delimitedAgainSpec)) delimitedAgainUptoCard

/-- THE SECOND FORM's CARD OF 'manifoldlaw11.DelimitedJoins'. -/
def delimitedJoinsUptoCard : Claim7 := { stood := { row := delimitedJoinsUptoRow, standIns := [], harness := (true, "87a0c3881f4b07dad0aba2799d2ca88705f76fe095d6c873a6e93c638e930ea5"), looks := true }, kinds := [], alts := [], laidByText := true, laidKinds := [.data, .data, .data, .data, .sentinel, .sentinel, .pinned], laidTests := true, laidLooks := .later }
def DelimitedJoinsUptoCardSaid : Prop := Claim7.holds Tryz.pinned (.plain (OpenSpec.upto delimitedJoinsSpec)) delimitedJoinsUptoCard

/-- THE SECOND FORM's CARD OF 'manifoldlaw11.DelimitedSplits'. -/
def delimitedSplitsUptoCard : Claim7 := { stood := { row := delimitedSplitsUptoRow, standIns := [], harness := (true, "87a0c3881f4b07dad0aba2799d2ca88705f76fe095d6c873a6e93c638e930ea5"), looks := true }, kinds := [], alts := [], laidByText := true, laidKinds := [.data, .data, .data, .data, .sentinel, .sentinel, .pinned], laidTests := true, laidLooks := .later }
def DelimitedSplitsUptoCardSaid : Prop := Claim7.holds Tryz.pinned (.plain (OpenSpec.upto delimitedSplitsSpec)) delimitedSplitsUptoCard

/-- THE SECOND FORM's CARD OF 'manifoldlaw11.DelimitedLong'. -/
def delimitedLongUptoCard : Claim7 := { stood := { row := delimitedLongUptoRow, standIns := [], harness := (true, "87a0c3881f4b07dad0aba2799d2ca88705f76fe095d6c873a6e93c638e930ea5"), looks := true }, kinds := [], alts := [], laidByText := true, laidKinds := [.data, .data, .data, .data, .sentinel, .sentinel, .pinned], laidTests := true, laidLooks := .later }
def DelimitedLongUptoCardSaid : Prop := Claim7.holds Tryz.pinned (.plain (OpenSpec.upto delimitedLongSpec)) delimitedLongUptoCard
end Rows
end Go.Proofs.YtbaaokocnegdoaaGreatDoor
