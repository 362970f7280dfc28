/-
  DERIVED. GIVEN WITH THE SEED: THE CARDS: each row of YtedanlflegfomaaGreatDoorRows.lean that lists a variable, with what it lists TIED to the program's text (the seventh form; the later family's looks); each row that meets fmt, with fmt's text TOLD by the authors' own Lean function (tested against real Go, not proved from fmt's source: count such statements apart). THE CARD IS WHAT COUNTS. Prove the row's statement (the work); the ties are given (YtedanlflegfomaaGreatDoorTie.lean); close each card by the builder's one call (the guide's Derived/Test/ToyasCard.lean, 'card_holds'). Laid BY PROGRAM, IN A SANDBOX (cutbox-door.mjs). By AI agents, Wed Nov 11 2026. No macro, syntax, notation, axiom, sorry.
-/
import Derived.Test.YtedanlflegfomaaGreatDoorRows
import GoSem.ClaimSeven
namespace Go.Proofs.YtedanlflegfomaaGreatDoor
namespace Rows

/-- THE TIED CARD OF 'manifoldlaw12.FixedwidthRefuses'. -/
def fixedwidthRefusesCard : Claim7 := { stood := { row := fixedwidthRefusesRow, standIns := [], harness := (true, "a6f13ac26fcb78b41cd59b2fde913d3310214e06fc901beaf8ad3a2f7f75787e"), looks := true }, kinds := [], alts := [], laidByText := true, laidKinds := [.data, .data, .data, .data, .sentinel, .sentinel, .pinned], laidTests := true, laidLooks := .later }
def FixedwidthRefusesCardSaid : Prop := Claim7.holds Tryz.pinned (.plain (OpenSpec.ofChange fixedwidthRefusesSpec)) fixedwidthRefusesCard

/-- THE TIED CARD OF 'manifoldlaw12.FixedwidthCells'. -/
def fixedwidthCellsCard : Claim7 := { stood := { row := fixedwidthCellsRow, standIns := [], harness := (true, "a6f13ac26fcb78b41cd59b2fde913d3310214e06fc901beaf8ad3a2f7f75787e"), looks := true }, kinds := [], alts := [], laidByText := true, laidKinds := [.data, .data, .data, .data, .sentinel, .sentinel, .pinned], laidTests := true, laidLooks := .later }
def FixedwidthCellsCardSaid : Prop := Claim7.holds Tryz.pinned (.plain (OpenSpec.ofChange fixedwidthCellsSpec)) fixedwidthCellsCard

/-- THE TIED CARD OF 'manifoldlaw14.CodecNames'. -/
def codecNamesCard : Claim7 := { stood := { row := codecNamesRow, standIns := [], harness := (true, "a6f13ac26fcb78b41cd59b2fde913d3310214e06fc901beaf8ad3a2f7f75787e"), looks := true }, kinds := [], alts := [], laidByText := true, laidKinds := [.data, .data, .data, .data, .pinned], laidTests := true, laidLooks := .later }
def CodecNamesCardSaid : Prop := Claim7.holds Tryz.pinned (.plain (OpenSpec.ofChange codecNamesSpec)) codecNamesCard

/-- THE TIED CARD OF 'manifoldlaw14.CodecEquals'. -/
def codecEqualsCard : Claim7 := { stood := { row := codecEqualsRow, standIns := [], harness := (true, "a6f13ac26fcb78b41cd59b2fde913d3310214e06fc901beaf8ad3a2f7f75787e"), looks := true }, kinds := [], alts := [], laidByText := true, laidKinds := [.data, .data, .data, .data, .pinned], laidTests := true, laidLooks := .later }
def CodecEqualsCardSaid : Prop := Claim7.holds Tryz.pinned (.plain (OpenSpec.ofChange codecEqualsSpec)) codecEqualsCard

/-- THE SECOND FORM's CARD OF 'manifoldlaw12.FixedwidthRefuses'. -/
def fixedwidthRefusesUptoCard : Claim7 := { stood := { row := fixedwidthRefusesUptoRow, standIns := [], harness := (true, "a6f13ac26fcb78b41cd59b2fde913d3310214e06fc901beaf8ad3a2f7f75787e"), looks := true }, kinds := [], alts := [], laidByText := true, laidKinds := [.data, .data, .data, .data, .sentinel, .sentinel, .pinned], laidTests := true, laidLooks := .later }
def FixedwidthRefusesUptoCardSaid : Prop := Claim7.holds Tryz.pinned (.plain (OpenSpec.upto fixedwidthRefusesSpec)) fixedwidthRefusesUptoCard

/-- THE SECOND FORM's CARD OF 'manifoldlaw12.FixedwidthCells'. -/
def fixedwidthCellsUptoCard : Claim7 := { stood := { row := fixedwidthCellsUptoRow, standIns := [], harness := (true, "a6f13ac26fcb78b41cd59b2fde913d3310214e06fc901beaf8ad3a2f7f75787e"), looks := true }, kinds := [], alts := [], laidByText := true, laidKinds := [.data, .data, .data, .data, .sentinel, .sentinel, .pinned], laidTests := true, laidLooks := .later }
def FixedwidthCellsUptoCardSaid : Prop := Claim7.holds Tryz.pinned (.plain (OpenSpec.upto fixedwidthCellsSpec)) fixedwidthCellsUptoCard

/-- THE SECOND FORM's CARD OF 'manifoldlaw14.CodecNames'. -/
def codecNamesUptoCard : Claim7 := { stood := { row := codecNamesUptoRow, standIns := [], harness := (true, "a6f13ac26fcb78b41cd59b2fde913d3310214e06fc901beaf8ad3a2f7f75787e"), looks := true }, kinds := [], alts := [], laidByText := true, laidKinds := [.data, .data, .data, .data, .pinned], laidTests := true, laidLooks := .later }
def CodecNamesUptoCardSaid : Prop := Claim7.holds Tryz.pinned (.plain (OpenSpec.upto codecNamesSpec)) codecNamesUptoCard

/-- THE SECOND FORM's CARD OF 'manifoldlaw14.CodecEquals'. -/
def codecEqualsUptoCard : Claim7 := { stood := { row := codecEqualsUptoRow, standIns := [], harness := (true, "a6f13ac26fcb78b41cd59b2fde913d3310214e06fc901beaf8ad3a2f7f75787e"), looks := true }, kinds := [], alts := [], laidByText := true, laidKinds := [.data, .data, .data, .data, .pinned], laidTests := true, laidLooks := .later }
def CodecEqualsUptoCardSaid : Prop := Claim7.holds Tryz.pinned (.plain (OpenSpec.upto codecEqualsSpec)) codecEqualsUptoCard
end Rows
end Go.Proofs.YtedanlflegfomaaGreatDoor
