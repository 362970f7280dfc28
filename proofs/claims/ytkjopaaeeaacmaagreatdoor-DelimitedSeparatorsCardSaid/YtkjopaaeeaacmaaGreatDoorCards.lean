/-
  DERIVED. GIVEN WITH THE SEED: THE CARDS: each row of YtkjopaaeeaacmaaGreatDoorRows.lean that lists a variable, with what it lists TIED to the program's text (the seventh form; the later family's looks); each row that meets fmt, with fmt's text TOLD by the authors' own Lean function (tested against real Go, not proved from fmt's source: count such statements apart). THE CARD IS WHAT COUNTS. Prove the row's statement (the work); the ties are given (YtkjopaaeeaacmaaGreatDoorTie.lean); close each card by the builder's one call (the guide's Derived/Test/ToyasCard.lean, 'card_holds'). Laid BY PROGRAM, IN A SANDBOX (cutbox-door.mjs). By AI agents, Wed Nov 11 2026. No macro, syntax, notation, axiom, sorry.
-/
import Derived.Test.YtkjopaaeeaacmaaGreatDoorRows
import GoSem.ClaimSeven
namespace Go.Proofs.YtkjopaaeeaacmaaGreatDoor
namespace Rows

/-- THE TIED CARD OF 'manifoldlaw11.DelimitedSeparators'. -/
def delimitedSeparatorsCard : Claim7 := { stood := { row := delimitedSeparatorsRow, standIns := [], harness := (true, "bef7a53d85f32ccaf12ecee31fb259602e550500595099405e2121ff9ce3e236"), looks := true }, kinds := [], alts := [], laidByText := true, laidKinds := [.data, .data, .data, .data, .sentinel, .sentinel, .pinned], laidTests := true, laidLooks := .later }
def DelimitedSeparatorsCardSaid : Prop := Claim7.holds Tryz.pinned (.plain (OpenSpec.ofChange delimitedSeparatorsSpec)) delimitedSeparatorsCard

/-- THE SECOND FORM's CARD OF 'manifoldlaw11.DelimitedSeparators'. -/
def delimitedSeparatorsUptoCard : Claim7 := { stood := { row := delimitedSeparatorsUptoRow, standIns := [], harness := (true, "bef7a53d85f32ccaf12ecee31fb259602e550500595099405e2121ff9ce3e236"), looks := true }, kinds := [], alts := [], laidByText := true, laidKinds := [.data, .data, .data, .data, .sentinel, .sentinel, .pinned], laidTests := true, laidLooks := .later }
def DelimitedSeparatorsUptoCardSaid : Prop := Claim7.holds Tryz.pinned (.plain (OpenSpec.upto delimitedSeparatorsSpec)) delimitedSeparatorsUptoCard
end Rows
end Go.Proofs.YtkjopaaeeaacmaaGreatDoor
