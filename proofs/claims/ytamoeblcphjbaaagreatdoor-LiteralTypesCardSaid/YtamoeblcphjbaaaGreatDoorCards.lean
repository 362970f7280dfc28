/-
  DERIVED. GIVEN WITH THE SEED: THE CARDS: each row of YtamoeblcphjbaaaGreatDoorRows.lean that lists a variable, with what it lists TIED to the program's text (the seventh form; the later family's looks); each row that meets fmt, with fmt's text TOLD by the authors' own Lean function (tested against real Go, not proved from fmt's source: count such statements apart). THE CARD IS WHAT COUNTS. Prove the row's statement (the work); the ties are given (YtamoeblcphjbaaaGreatDoorTie.lean); close each card by the builder's one call (the guide's Derived/Test/ToyasCard.lean, 'card_holds'). Laid BY PROGRAM, IN A SANDBOX (cutbox-door.mjs). By AI agents, Wed Nov 11 2026. No macro, syntax, notation, axiom, sorry.
-/
import Derived.Test.YtamoeblcphjbaaaGreatDoorRows
import GoSem.ClaimSeven
namespace Go.Proofs.YtamoeblcphjbaaaGreatDoor
namespace Rows

/-- THE TIED CARD OF 'manifoldlaw13.LiteralTexts'. -/
def literalTextsCard : Claim7 := { stood := { row := literalTextsRow, standIns := [], harness := (true, "7636b584a2e9c8b9f029b978eb79aa6cf462f64580768fb04d120eb6e3b97ae5"), looks := true }, kinds := [], alts := [], laidByText := true, laidKinds := [.data, .data, .data, .data, .sentinel, .sentinel, .pinned], laidTests := true, laidLooks := .later }
def LiteralTextsCardSaid : Prop := Claim7.holds Tryz.pinned (.plain (OpenSpec.ofChange literalTextsSpec)) literalTextsCard

/-- THE TIED CARD OF 'manifoldlaw13.LiteralReads'. -/
def literalReadsCard : Claim7 := { stood := { row := literalReadsRow, standIns := [], harness := (true, "7636b584a2e9c8b9f029b978eb79aa6cf462f64580768fb04d120eb6e3b97ae5"), looks := true }, kinds := [], alts := [], laidByText := true, laidKinds := [.data, .data, .data, .data, .sentinel, .sentinel, .pinned], laidTests := true, laidLooks := .later }
def LiteralReadsCardSaid : Prop := Claim7.holds Tryz.pinned (.plain (OpenSpec.ofChange literalReadsSpec)) literalReadsCard

/-- THE TIED CARD OF 'manifoldlaw13.LiteralAgain'. -/
def literalAgainCard : Claim7 := { stood := { row := literalAgainRow, standIns := [], harness := (true, "7636b584a2e9c8b9f029b978eb79aa6cf462f64580768fb04d120eb6e3b97ae5"), looks := true }, kinds := [], alts := [], laidByText := true, laidKinds := [.data, .data, .data, .data, .sentinel, .sentinel, .pinned], laidTests := true, laidLooks := .later }
def LiteralAgainCardSaid : Prop := Claim7.holds Tryz.pinned (.plain (OpenSpec.ofChange literalAgainSpec)) literalAgainCard

/-- THE TIED CARD OF 'manifoldlaw13.LiteralFields'. -/
def literalFieldsCard : Claim7 := { stood := { row := literalFieldsRow, standIns := [], harness := (true, "7636b584a2e9c8b9f029b978eb79aa6cf462f64580768fb04d120eb6e3b97ae5"), looks := true }, kinds := [], alts := [], laidByText := true, laidKinds := [.data, .data, .data, .data, .sentinel, .sentinel, .pinned], laidTests := true, laidLooks := .later }
def LiteralFieldsCardSaid : Prop := Claim7.holds Tryz.pinned (.plain (OpenSpec.ofChange literalFieldsSpec)) literalFieldsCard

/-- THE TIED CARD OF 'manifoldlaw13.LiteralDiffers'. -/
def literalDiffersCard : Claim7 := { stood := { row := literalDiffersRow, standIns := [], harness := (true, "7636b584a2e9c8b9f029b978eb79aa6cf462f64580768fb04d120eb6e3b97ae5"), looks := true }, kinds := [], alts := [], laidByText := true, laidKinds := [.data, .data, .data, .data, .sentinel, .sentinel, .pinned], laidTests := true, laidLooks := .later }
def LiteralDiffersCardSaid : Prop := Claim7.holds Tryz.pinned (.plain (OpenSpec.ofChange literalDiffersSpec)) literalDiffersCard

/-- THE TIED CARD OF 'manifoldlaw13.LiteralQuotes'. -/
def literalQuotesCard : Claim7 := { stood := { row := literalQuotesRow, standIns := [], harness := (true, "7636b584a2e9c8b9f029b978eb79aa6cf462f64580768fb04d120eb6e3b97ae5"), looks := true }, kinds := [], alts := [], laidByText := true, laidKinds := [.data, .data, .data, .data, .sentinel, .sentinel, .pinned], laidTests := true, laidLooks := .later }
def LiteralQuotesCardSaid : Prop := Claim7.holds Tryz.pinned (.plain (OpenSpec.ofChange literalQuotesSpec)) literalQuotesCard

/-- THE TIED CARD OF 'manifoldlaw13.LiteralParses'. -/
def literalParsesCard : Claim7 := { stood := { row := literalParsesRow, standIns := [], harness := (true, "7636b584a2e9c8b9f029b978eb79aa6cf462f64580768fb04d120eb6e3b97ae5"), looks := true }, kinds := [], alts := [], laidByText := true, laidKinds := [.data, .data, .data, .data, .sentinel, .sentinel, .pinned], laidTests := true, laidLooks := .later }
def LiteralParsesCardSaid : Prop := Claim7.holds Tryz.pinned (.plain (OpenSpec.ofChange literalParsesSpec)) literalParsesCard

/-- THE TIED CARD OF 'manifoldlaw13.LiteralBlanks'. -/
def literalBlanksCard : Claim7 := { stood := { row := literalBlanksRow, standIns := [], harness := (true, "7636b584a2e9c8b9f029b978eb79aa6cf462f64580768fb04d120eb6e3b97ae5"), looks := true }, kinds := [], alts := [], laidByText := true, laidKinds := [.data, .data, .data, .data, .sentinel, .sentinel, .pinned], laidTests := true, laidLooks := .later }
def LiteralBlanksCardSaid : Prop := Claim7.holds Tryz.pinned (.plain (OpenSpec.ofChange literalBlanksSpec)) literalBlanksCard

/-- THE TIED CARD OF 'manifoldlaw13.LiteralTypes'. -/
def literalTypesCard : Claim7 := { stood := { row := literalTypesRow, standIns := [], harness := (true, "7636b584a2e9c8b9f029b978eb79aa6cf462f64580768fb04d120eb6e3b97ae5"), looks := true }, kinds := [], alts := [], laidByText := true, laidKinds := [.data, .data, .data, .data, .sentinel, .sentinel, .pinned], laidTests := true, laidLooks := .later }
def LiteralTypesCardSaid : Prop := Claim7.holds Tryz.pinned (.plain (OpenSpec.ofChange literalTypesSpec)) literalTypesCard

/-- THE SECOND FORM's CARD OF 'manifoldlaw13.LiteralTexts'. -/
def literalTextsUptoCard : Claim7 := { stood := { row := literalTextsUptoRow, standIns := [], harness := (true, "7636b584a2e9c8b9f029b978eb79aa6cf462f64580768fb04d120eb6e3b97ae5"), looks := true }, kinds := [], alts := [], laidByText := true, laidKinds := [.data, .data, .data, .data, .sentinel, .sentinel, .pinned], laidTests := true, laidLooks := .later }
def LiteralTextsUptoCardSaid : Prop := Claim7.holds Tryz.pinned (.plain (OpenSpec.upto literalTextsSpec)) literalTextsUptoCard

/-- THE SECOND FORM's CARD OF 'manifoldlaw13.LiteralReads'. -/
def literalReadsUptoCard : Claim7 := { stood := { row := literalReadsUptoRow, standIns := [], harness := (true, "7636b584a2e9c8b9f029b978eb79aa6cf462f64580768fb04d120eb6e3b97ae5"), looks := true }, kinds := [], alts := [], laidByText := true, laidKinds := [.data, .data, .data, .data, .sentinel, .sentinel, .pinned], laidTests := true, laidLooks := .later }
def LiteralReadsUptoCardSaid : Prop := Claim7.holds Tryz.pinned (.plain (OpenSpec.upto literalReadsSpec)) literalReadsUptoCard

/-- THE SECOND FORM's CARD OF 'manifoldlaw13.LiteralAgain'. -/
def literalAgainUptoCard : Claim7 := { stood := { row := literalAgainUptoRow, standIns := [], harness := (true, "7636b584a2e9c8b9f029b978eb79aa6cf462f64580768fb04d120eb6e3b97ae5"), looks := true }, kinds := [], alts := [], laidByText := true, laidKinds := [.data, .data, .data, .data, .sentinel, .sentinel, .pinned], laidTests := true, laidLooks := .later }
def LiteralAgainUptoCardSaid : Prop := Claim7.holds Tryz.pinned (.plain (OpenSpec.upto literalAgainSpec)) literalAgainUptoCard

/-- THE SECOND FORM's CARD OF 'manifoldlaw13.LiteralFields'. -/
def literalFieldsUptoCard : Claim7 := { stood := { row := literalFieldsUptoRow, standIns := [], harness := (true, "7636b584a2e9c8b9f029b978eb79aa6cf462f64580768fb04d120eb6e3b97ae5"), looks := true }, kinds := [], alts := [], laidByText := true, laidKinds := [.data, .data, .data, .data, .sentinel, .sentinel, .pinned], laidTests := true, laidLooks := .later }
def LiteralFieldsUptoCardSaid : Prop := Claim7.holds Tryz.pinned (.plain (OpenSpec.upto literalFieldsSpec)) literalFieldsUptoCard

/-- THE SECOND FORM's CARD OF 'manifoldlaw13.LiteralDiffers'. -/
def literalDiffersUptoCard : Claim7 := { stood := { row := literalDiffersUptoRow, standIns := [], harness := (true, "7636b584a2e9c8b9f029b978eb79aa6cf462f64580768fb04d120eb6e3b97ae5"), looks := true }, kinds := [], alts := [], laidByText := true, laidKinds := [.data, .data, .data, .data, .sentinel, .sentinel, .pinned], laidTests := true, laidLooks := .later }
def LiteralDiffersUptoCardSaid : Prop := Claim7.holds Tryz.pinned (.plain (OpenSpec.upto literalDiffersSpec)) literalDiffersUptoCard

/-- THE SECOND FORM's CARD OF 'manifoldlaw13.LiteralQuotes'. -/
def literalQuotesUptoCard : Claim7 := { stood := { row := literalQuotesUptoRow, standIns := [], harness := (true, "7636b584a2e9c8b9f029b978eb79aa6cf462f64580768fb04d120eb6e3b97ae5"), looks := true }, kinds := [], alts := [], laidByText := true, laidKinds := [.data, .data, .data, .data, .sentinel, .sentinel, .pinned], laidTests := true, laidLooks := .later }
def LiteralQuotesUptoCardSaid : Prop := Claim7.holds Tryz.pinned (.plain (OpenSpec.upto literalQuotesSpec)) literalQuotesUptoCard

/-- THE SECOND FORM's CARD OF 'manifoldlaw13.LiteralParses'. -/
def literalParsesUptoCard : Claim7 := { stood := { row := literalParsesUptoRow, standIns := [], harness := (true, "7636b584a2e9c8b9f029b978eb79aa6cf462f64580768fb04d120eb6e3b97ae5"), looks := true }, kinds := [], alts := [], laidByText := true, laidKinds := [.data, .data, .data, .data, .sentinel, .sentinel, .pinned], laidTests := true, laidLooks := .later }
def LiteralParsesUptoCardSaid : Prop := Claim7.holds Tryz.pinned (.plain (OpenSpec.upto literalParsesSpec)) literalParsesUptoCard

/-- THE SECOND FORM's CARD OF 'manifoldlaw13.LiteralBlanks'. -/
def literalBlanksUptoCard : Claim7 := { stood := { row := literalBlanksUptoRow, standIns := [], harness := (true, "7636b584a2e9c8b9f029b978eb79aa6cf462f64580768fb04d120eb6e3b97ae5"), looks := true }, kinds := [], alts := [], laidByText := true, laidKinds := [.data, .data, .data, .data, .sentinel, .sentinel, .pinned], laidTests := true, laidLooks := .later }
def LiteralBlanksUptoCardSaid : Prop := Claim7.holds Tryz.pinned (.plain (OpenSpec.upto literalBlanksSpec)) literalBlanksUptoCard

/-- THE SECOND FORM's CARD OF 'manifoldlaw13.LiteralTypes'. -/
def literalTypesUptoCard : Claim7 := { stood := { row := literalTypesUptoRow, standIns := [], harness := (true, "7636b584a2e9c8b9f029b978eb79aa6cf462f64580768fb04d120eb6e3b97ae5"), looks := true }, kinds := [], alts := [], laidByText := true, laidKinds := [.data, .data, .data, .data, .sentinel, .sentinel, .pinned], laidTests := true, laidLooks := .later }
def LiteralTypesUptoCardSaid : Prop := Claim7.holds Tryz.pinned (.plain (OpenSpec.upto literalTypesSpec)) literalTypesUptoCard
end Rows
end Go.Proofs.YtamoeblcphjbaaaGreatDoor
