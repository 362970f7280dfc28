/-
  DERIVED. GIVEN WITH THE SEED: THE CARDS: each row of YtfepkhlgopjaoaaGreatDoorRows.lean that lists a variable, with what it lists TIED to the program's text (the seventh form; the later family's looks); each row that meets fmt, with fmt's text TOLD by the authors' own Lean function (tested against real Go, not proved from fmt's source: count such statements apart). THE CARD IS WHAT COUNTS. Prove the row's statement (the work); the ties are given (YtfepkhlgopjaoaaGreatDoorTie.lean); close each card by the builder's one call (the guide's Derived/Test/ToyasCard.lean, 'card_holds'). Laid BY PROGRAM, IN A SANDBOX (cutbox-door.mjs). By AI agents, Wed Nov 11 2026. No macro, syntax, notation, axiom, sorry.
-/
import Derived.Test.YtfepkhlgopjaoaaGreatDoorRows
import GoSem.ClaimSeven
namespace Go.Proofs.YtfepkhlgopjaoaaGreatDoor
namespace Rows

/-- THE TIED CARD OF 'manifoldlaw14.CodecChecks'. -/
def codecChecksCard : Claim7 := { stood := { row := codecChecksRow, standIns := [], harness := (true, "0094718a5d242608f78f13af5e343a3bf8a8237908a5a5ec63280cefaf41bc2b"), looks := true }, kinds := [], alts := [], laidByText := true, laidKinds := [.data, .data, .data, .data, .pinned], laidTests := true, laidLooks := .later }
def CodecChecksCardSaid : Prop := Claim7.holds Tryz.pinned (.plain (OpenSpec.ofChange codecChecksSpec)) codecChecksCard

/-- THE TIED CARD OF 'manifoldlaw14.CodecEncodes'. -/
def codecEncodesCard : Claim7 := { stood := { row := codecEncodesRow, standIns := [], harness := (true, "0094718a5d242608f78f13af5e343a3bf8a8237908a5a5ec63280cefaf41bc2b"), looks := true }, kinds := [], alts := [], laidByText := true, laidKinds := [.data, .data, .data, .data, .pinned], laidTests := true, laidLooks := .later }
def CodecEncodesCardSaid : Prop := Claim7.holds Tryz.pinned (.plain (OpenSpec.ofChange codecEncodesSpec)) codecEncodesCard

/-- THE TIED CARD OF 'manifoldlaw14.CodecFits'. -/
def codecFitsCard : Claim7 := { stood := { row := codecFitsRow, standIns := [], harness := (true, "0094718a5d242608f78f13af5e343a3bf8a8237908a5a5ec63280cefaf41bc2b"), looks := true }, kinds := [], alts := [], laidByText := true, laidKinds := [.data, .data, .data, .data, .pinned], laidTests := true, laidLooks := .later }
def CodecFitsCardSaid : Prop := Claim7.holds Tryz.pinned (.plain (OpenSpec.ofChange codecFitsSpec)) codecFitsCard

/-- THE TIED CARD OF 'manifoldlaw14.CodecDetects'. -/
def codecDetectsCard : Claim7 := { stood := { row := codecDetectsRow, standIns := [], harness := (true, "0094718a5d242608f78f13af5e343a3bf8a8237908a5a5ec63280cefaf41bc2b"), looks := true }, kinds := [], alts := [], laidByText := true, laidKinds := [.data, .data, .data, .data, .sentinel, .sentinel, .pinned], laidTests := true, laidLooks := .later }
def CodecDetectsCardSaid : Prop := Claim7.holds Tryz.pinned (.plain (OpenSpec.ofChange codecDetectsSpec)) codecDetectsCard

/-- THE TIED CARD OF 'manifoldlaw14.CodecDecodes'. -/
def codecDecodesCard : Claim7 := { stood := { row := codecDecodesRow, standIns := [], harness := (true, "0094718a5d242608f78f13af5e343a3bf8a8237908a5a5ec63280cefaf41bc2b"), looks := true }, kinds := [], alts := [], laidByText := true, laidKinds := [.data, .data, .data, .data, .sentinel, .sentinel, .pinned], laidTests := true, laidLooks := .later }
def CodecDecodesCardSaid : Prop := Claim7.holds Tryz.pinned (.plain (OpenSpec.ofChange codecDecodesSpec)) codecDecodesCard

/-- THE TIED CARD OF 'manifoldlaw14.CodecUsual'. -/
def codecUsualCard : Claim7 := { stood := { row := codecUsualRow, standIns := [], harness := (true, "0094718a5d242608f78f13af5e343a3bf8a8237908a5a5ec63280cefaf41bc2b"), looks := true }, kinds := [], alts := [], laidByText := true, laidKinds := [.data, .data, .data, .data, .pinned], laidTests := true, laidLooks := .later }
def CodecUsualCardSaid : Prop := Claim7.holds Tryz.pinned (.plain (OpenSpec.ofChange codecUsualSpec)) codecUsualCard

/-- THE SECOND FORM's CARD OF 'manifoldlaw14.CodecChecks'. -/
def codecChecksUptoCard : Claim7 := { stood := { row := codecChecksUptoRow, standIns := [], harness := (true, "0094718a5d242608f78f13af5e343a3bf8a8237908a5a5ec63280cefaf41bc2b"), looks := true }, kinds := [], alts := [], laidByText := true, laidKinds := [.data, .data, .data, .data, .pinned], laidTests := true, laidLooks := .later }
def CodecChecksUptoCardSaid : Prop := Claim7.holds Tryz.pinned (.plain (OpenSpec.upto codecChecksSpec)) codecChecksUptoCard

/-- THE SECOND FORM's CARD OF 'manifoldlaw14.CodecEncodes'. -/
def codecEncodesUptoCard : Claim7 := { stood := { row := codecEncodesUptoRow, standIns := [], harness := (true, "0094718a5d242608f78f13af5e343a3bf8a8237908a5a5ec63280cefaf41bc2b"), looks := true }, kinds := [], alts := [], laidByText := true, laidKinds := [.data, .data, .data, .data, .pinned], laidTests := true, laidLooks := .later }
def CodecEncodesUptoCardSaid : Prop := Claim7.holds Tryz.pinned (.plain (OpenSpec.upto codecEncodesSpec)) codecEncodesUptoCard

/-- THE SECOND FORM's CARD OF 'manifoldlaw14.CodecFits'. -/
def codecFitsUptoCard : Claim7 := { stood := { row := codecFitsUptoRow, standIns := [], harness := (true, "0094718a5d242608f78f13af5e343a3bf8a8237908a5a5ec63280cefaf41bc2b"), looks := true }, kinds := [], alts := [], laidByText := true, laidKinds := [.data, .data, .data, .data, .pinned], laidTests := true, laidLooks := .later }
def CodecFitsUptoCardSaid : Prop := Claim7.holds Tryz.pinned (.plain (OpenSpec.upto codecFitsSpec)) codecFitsUptoCard

/-- THE SECOND FORM's CARD OF 'manifoldlaw14.CodecDetects'. -/
def codecDetectsUptoCard : Claim7 := { stood := { row := codecDetectsUptoRow, standIns := [], harness := (true, "0094718a5d242608f78f13af5e343a3bf8a8237908a5a5ec63280cefaf41bc2b"), looks := true }, kinds := [], alts := [], laidByText := true, laidKinds := [.data, .data, .data, .data, .sentinel, .sentinel, .pinned], laidTests := true, laidLooks := .later }
def CodecDetectsUptoCardSaid : Prop := Claim7.holds Tryz.pinned (.plain (OpenSpec.upto codecDetectsSpec)) codecDetectsUptoCard

/-- THE SECOND FORM's CARD OF 'manifoldlaw14.CodecDecodes'. -/
def codecDecodesUptoCard : Claim7 := { stood := { row := codecDecodesUptoRow, standIns := [], harness := (true, "0094718a5d242608f78f13af5e343a3bf8a8237908a5a5ec63280cefaf41bc2b"), looks := true }, kinds := [], alts := [], laidByText := true, laidKinds := [.data, .data, .data, .data, .sentinel, .sentinel, .pinned], laidTests := true, laidLooks := .later }
def CodecDecodesUptoCardSaid : Prop := Claim7.holds Tryz.pinned (.plain (OpenSpec.upto codecDecodesSpec)) codecDecodesUptoCard

/-- THE SECOND FORM's CARD OF 'manifoldlaw14.CodecUsual'. -/
def codecUsualUptoCard : Claim7 := { stood := { row := codecUsualUptoRow, standIns := [], harness := (true, "0094718a5d242608f78f13af5e343a3bf8a8237908a5a5ec63280cefaf41bc2b"), looks := true }, kinds := [], alts := [], laidByText := true, laidKinds := [.data, .data, .data, .data, .pinned], laidTests := true, laidLooks := .later }
def CodecUsualUptoCardSaid : Prop := Claim7.holds Tryz.pinned (.plain (OpenSpec.upto codecUsualSpec)) codecUsualUptoCard
end Rows
end Go.Proofs.YtfepkhlgopjaoaaGreatDoor
