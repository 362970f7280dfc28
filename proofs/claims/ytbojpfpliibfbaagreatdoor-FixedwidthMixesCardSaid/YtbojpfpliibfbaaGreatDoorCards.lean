/-
  DERIVED. GIVEN WITH THE SEED: THE CARDS: each row of YtbojpfpliibfbaaGreatDoorRows.lean that lists a variable, with what it lists TIED to the program's text (the seventh form; the later family's looks); each row that meets fmt, with fmt's text TOLD by the authors' own Lean function (tested against real Go, not proved from fmt's source: count such statements apart). THE CARD IS WHAT COUNTS. Prove the row's statement (the work); the ties are given (YtbojpfpliibfbaaGreatDoorTie.lean); close each card by the builder's one call (the guide's Derived/Test/ToyasCard.lean, 'card_holds'). Laid BY PROGRAM, IN A SANDBOX (cutbox-door.mjs). By AI agents, Wed Nov 11 2026. No macro, syntax, notation, axiom, sorry.
-/
import Derived.Test.YtbojpfpliibfbaaGreatDoorRows
import GoSem.ClaimSeven
namespace Go.Proofs.YtbojpfpliibfbaaGreatDoor
namespace Rows

/-- THE TIED CARD OF 'manifoldlaw12.FixedwidthRepresentable'. -/
def fixedwidthRepresentableCard : Claim7 := { stood := { row := fixedwidthRepresentableRow, standIns := [], harness := (true, "ff22e9ca7fcdac9ddf1f7474d6fa5be19ec68ac0866aa67f934d5f9c0d329f51"), looks := true }, kinds := [], alts := [], laidByText := true, laidKinds := [.data, .data, .data, .data, .sentinel, .sentinel, .pinned], laidTests := true, laidLooks := .later }
def FixedwidthRepresentableCardSaid : Prop := Claim7.holds Tryz.pinned (.plain (OpenSpec.ofChange fixedwidthRepresentableSpec)) fixedwidthRepresentableCard

/-- THE TIED CARD OF 'manifoldlaw12.FixedwidthEncodes'. -/
def fixedwidthEncodesCard : Claim7 := { stood := { row := fixedwidthEncodesRow, standIns := [], harness := (true, "ff22e9ca7fcdac9ddf1f7474d6fa5be19ec68ac0866aa67f934d5f9c0d329f51"), looks := true }, kinds := [], alts := [], laidByText := true, laidKinds := [.data, .data, .data, .data, .sentinel, .sentinel, .pinned], laidTests := true, laidLooks := .later }
def FixedwidthEncodesCardSaid : Prop := Claim7.holds Tryz.pinned (.plain (OpenSpec.ofChange fixedwidthEncodesSpec)) fixedwidthEncodesCard

/-- THE TIED CARD OF 'manifoldlaw12.FixedwidthDecodes'. -/
def fixedwidthDecodesCard : Claim7 := { stood := { row := fixedwidthDecodesRow, standIns := [], harness := (true, "ff22e9ca7fcdac9ddf1f7474d6fa5be19ec68ac0866aa67f934d5f9c0d329f51"), looks := true }, kinds := [], alts := [], laidByText := true, laidKinds := [.data, .data, .data, .data, .sentinel, .sentinel, .pinned], laidTests := true, laidLooks := .later }
def FixedwidthDecodesCardSaid : Prop := Claim7.holds Tryz.pinned (.plain (OpenSpec.ofChange fixedwidthDecodesSpec)) fixedwidthDecodesCard

/-- THE TIED CARD OF 'manifoldlaw12.FixedwidthReturns'. -/
def fixedwidthReturnsCard : Claim7 := { stood := { row := fixedwidthReturnsRow, standIns := [], harness := (true, "ff22e9ca7fcdac9ddf1f7474d6fa5be19ec68ac0866aa67f934d5f9c0d329f51"), looks := true }, kinds := [], alts := [], laidByText := true, laidKinds := [.data, .data, .data, .data, .sentinel, .sentinel, .pinned], laidTests := true, laidLooks := .later }
def FixedwidthReturnsCardSaid : Prop := Claim7.holds Tryz.pinned (.plain (OpenSpec.ofChange fixedwidthReturnsSpec)) fixedwidthReturnsCard

/-- THE TIED CARD OF 'manifoldlaw12.FixedwidthCanonical'. -/
def fixedwidthCanonicalCard : Claim7 := { stood := { row := fixedwidthCanonicalRow, standIns := [], harness := (true, "ff22e9ca7fcdac9ddf1f7474d6fa5be19ec68ac0866aa67f934d5f9c0d329f51"), looks := true }, kinds := [], alts := [], laidByText := true, laidKinds := [.data, .data, .data, .data, .sentinel, .sentinel, .pinned], laidTests := true, laidLooks := .later }
def FixedwidthCanonicalCardSaid : Prop := Claim7.holds Tryz.pinned (.plain (OpenSpec.ofChange fixedwidthCanonicalSpec)) fixedwidthCanonicalCard

/-- THE TIED CARD OF 'manifoldlaw12.FixedwidthMixes'. -/
def fixedwidthMixesCard : Claim7 := { stood := { row := fixedwidthMixesRow, standIns := [], harness := (true, "ff22e9ca7fcdac9ddf1f7474d6fa5be19ec68ac0866aa67f934d5f9c0d329f51"), looks := true }, kinds := [], alts := [], laidByText := true, laidKinds := [.data, .data, .data, .data, .sentinel, .sentinel, .pinned], laidTests := true, laidLooks := .later }
def FixedwidthMixesCardSaid : Prop := Claim7.holds Tryz.pinned (.plain (OpenSpec.ofChange fixedwidthMixesSpec)) fixedwidthMixesCard

/-- THE TIED CARD OF 'manifoldlaw12.FixedwidthWidths'. -/
def fixedwidthWidthsCard : Claim7 := { stood := { row := fixedwidthWidthsRow, standIns := [], harness := (true, "ff22e9ca7fcdac9ddf1f7474d6fa5be19ec68ac0866aa67f934d5f9c0d329f51"), looks := true }, kinds := [], alts := [], laidByText := true, laidKinds := [.data, .data, .data, .data, .sentinel, .sentinel, .pinned], laidTests := true, laidLooks := .later }
def FixedwidthWidthsCardSaid : Prop := Claim7.holds Tryz.pinned (.plain (OpenSpec.ofChange fixedwidthWidthsSpec)) fixedwidthWidthsCard

/-- THE SECOND FORM's CARD OF 'manifoldlaw12.FixedwidthRepresentable'. -/
def fixedwidthRepresentableUptoCard : Claim7 := { stood := { row := fixedwidthRepresentableUptoRow, standIns := [], harness := (true, "ff22e9ca7fcdac9ddf1f7474d6fa5be19ec68ac0866aa67f934d5f9c0d329f51"), looks := true }, kinds := [], alts := [], laidByText := true, laidKinds := [.data, .data, .data, .data, .sentinel, .sentinel, .pinned], laidTests := true, laidLooks := .later }
def FixedwidthRepresentableUptoCardSaid : Prop := Claim7.holds Tryz.pinned (.plain (OpenSpec.upto fixedwidthRepresentableSpec)) fixedwidthRepresentableUptoCard

/-- THE SECOND FORM's CARD OF 'manifoldlaw12.FixedwidthEncodes'. -/
def fixedwidthEncodesUptoCard : Claim7 := { stood := { row := fixedwidthEncodesUptoRow, standIns := [], harness := (true, "ff22e9ca7fcdac9ddf1f7474d6fa5be19ec68ac0866aa67f934d5f9c0d329f51"), looks := true }, kinds := [], alts := [], laidByText := true, laidKinds := [.data, .data, .data, .data, .sentinel, .sentinel, .pinned], laidTests := true, laidLooks := .later }
def FixedwidthEncodesUptoCardSaid : Prop := Claim7.holds Tryz.pinned (.plain (OpenSpec.upto fixedwidthEncodesSpec)) fixedwidthEncodesUptoCard

/-- THE SECOND FORM's CARD OF 'manifoldlaw12.FixedwidthDecodes'. -/
def fixedwidthDecodesUptoCard : Claim7 := { stood := { row := fixedwidthDecodesUptoRow, standIns := [], harness := (true, "ff22e9ca7fcdac9ddf1f7474d6fa5be19ec68ac0866aa67f934d5f9c0d329f51"), looks := true }, kinds := [], alts := [], laidByText := true, laidKinds := [.data, .data, .data, .data, .sentinel, .sentinel, .pinned], laidTests := true, laidLooks := .later }
def FixedwidthDecodesUptoCardSaid : Prop := Claim7.holds Tryz.pinned (.plain (OpenSpec.upto fixedwidthDecodesSpec)) fixedwidthDecodesUptoCard

/-- THE SECOND FORM's CARD OF 'manifoldlaw12.FixedwidthReturns'. -/
def fixedwidthReturnsUptoCard : Claim7 := { stood := { row := fixedwidthReturnsUptoRow, standIns := [], harness := (true, "ff22e9ca7fcdac9ddf1f7474d6fa5be19ec68ac0866aa67f934d5f9c0d329f51"), looks := true }, kinds := [], alts := [], laidByText := true, laidKinds := [.data, .data, .data, .data, .sentinel, .sentinel, .pinned], laidTests := true, laidLooks := .later }
def FixedwidthReturnsUptoCardSaid : Prop := Claim7.holds Tryz.pinned (.plain (OpenSpec.upto fixedwidthReturnsSpec)) fixedwidthReturnsUptoCard

/-- THE SECOND FORM's CARD OF 'manifoldlaw12.FixedwidthCanonical'. -/
def fixedwidthCanonicalUptoCard : Claim7 := { stood := { row := fixedwidthCanonicalUptoRow, standIns := [], harness := (true, "ff22e9ca7fcdac9ddf1f7474d6fa5be19ec68ac0866aa67f934d5f9c0d329f51"), looks := true }, kinds := [], alts := [], laidByText := true, laidKinds := [.data, .data, .data, .data, .sentinel, .sentinel, .pinned], laidTests := true, laidLooks := .later }
def FixedwidthCanonicalUptoCardSaid : Prop := Claim7.holds Tryz.pinned (.plain (OpenSpec.upto fixedwidthCanonicalSpec)) fixedwidthCanonicalUptoCard

/-- THE SECOND FORM's CARD OF 'manifoldlaw12.FixedwidthMixes'. -/
def fixedwidthMixesUptoCard : Claim7 := { stood := { row := fixedwidthMixesUptoRow, standIns := [], harness := (true, "ff22e9ca7fcdac9ddf1f7474d6fa5be19ec68ac0866aa67f934d5f9c0d329f51"), looks := true }, kinds := [], alts := [], laidByText := true, laidKinds := [.data, .data, .data, .data, .sentinel, .sentinel, .pinned], laidTests := true, laidLooks := .later }
def FixedwidthMixesUptoCardSaid : Prop := Claim7.holds Tryz.pinned (.plain (OpenSpec.upto fixedwidthMixesSpec)) fixedwidthMixesUptoCard

/-- THE SECOND FORM's CARD OF 'manifoldlaw12.FixedwidthWidths'. -/
def fixedwidthWidthsUptoCard : Claim7 := { stood := { row := fixedwidthWidthsUptoRow, standIns := [], harness := (true, "ff22e9ca7fcdac9ddf1f7474d6fa5be19ec68ac0866aa67f934d5f9c0d329f51"), looks := true }, kinds := [], alts := [], laidByText := true, laidKinds := [.data, .data, .data, .data, .sentinel, .sentinel, .pinned], laidTests := true, laidLooks := .later }
def FixedwidthWidthsUptoCardSaid : Prop := Claim7.holds Tryz.pinned (.plain (OpenSpec.upto fixedwidthWidthsSpec)) fixedwidthWidthsUptoCard
end Rows
end Go.Proofs.YtbojpfpliibfbaaGreatDoor
