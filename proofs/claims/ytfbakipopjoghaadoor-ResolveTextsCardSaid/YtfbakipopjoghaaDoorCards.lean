/-
  DERIVED. GIVEN WITH THE SEED: THE CARDS: each row of YtfbakipopjoghaaDoorRows.lean that lists a variable, with what it lists TIED to the program's text (the seventh form; the later family's looks); each row that meets fmt, with fmt's text TOLD by the authors' own Lean function (tested against real Go, not proved from fmt's source: count such statements apart). THE CARD IS WHAT COUNTS. Prove the row's statement (the work); the ties are given (YtfbakipopjoghaaDoorTie.lean); close each card by the builder's one call (the guide's Derived/Test/ToyasCard.lean, 'card_holds'). Laid BY PROGRAM, IN A SANDBOX (cutbox-door.mjs). By AI agents, Wed Nov 11 2026. No macro, syntax, notation, axiom, sorry.
-/
import Derived.Test.YtfbakipopjoghaaDoorRows
import GoSem.ClaimSeven
namespace Go.Proofs.YtfbakipopjoghaaDoor
namespace Rows

/-- THE TIED CARD OF 'manifoldlaw23.ResolveEnds'. -/
def resolveEndsCard : Claim7 := { stood := { row := resolveEndsRow, standIns := [], harness := (true, "f8b0003a701ebbfe971d219b3d671f21a752b32c7f500f165cd03878d288093a"), looks := false }, kinds := [], alts := [], laidByText := true, laidKinds := [.data, .data, .data], laidTests := true, laidLooks := .later }
def ResolveEndsCardSaid : Prop := Claim7.holds Tryd.pinned (.plain (OpenSpec.ofChange resolveEndsSpec)) resolveEndsCard

/-- THE TIED CARD OF 'manifoldlaw23.ResolveAutomatic'. -/
def resolveAutomaticCard : Claim7 := { stood := { row := resolveAutomaticRow, standIns := [], harness := (true, "f8b0003a701ebbfe971d219b3d671f21a752b32c7f500f165cd03878d288093a"), looks := false }, kinds := [], alts := [], laidByText := true, laidKinds := [.data, .data, .data], laidTests := true, laidLooks := .later }
def ResolveAutomaticCardSaid : Prop := Claim7.holds Tryd.pinned (.plain (OpenSpec.ofChange resolveAutomaticSpec)) resolveAutomaticCard

/-- THE TIED CARD OF 'manifoldlaw23.ResolveLookups'. -/
def resolveLookupsCard : Claim7 := { stood := { row := resolveLookupsRow, standIns := [], harness := (true, "f8b0003a701ebbfe971d219b3d671f21a752b32c7f500f165cd03878d288093a"), looks := false }, kinds := [], alts := [], laidByText := true, laidKinds := [.data, .data, .data], laidTests := true, laidLooks := .later }
def ResolveLookupsCardSaid : Prop := Claim7.holds Tryd.pinned (.plain (OpenSpec.ofChange resolveLookupsSpec)) resolveLookupsCard

/-- THE TIED CARD OF 'manifoldlaw23.ResolveSchemas'. -/
def resolveSchemasCard : Claim7 := { stood := { row := resolveSchemasRow, standIns := [], harness := (true, "f8b0003a701ebbfe971d219b3d671f21a752b32c7f500f165cd03878d288093a"), looks := false }, kinds := [], alts := [], laidByText := true, laidKinds := [.data, .data, .data], laidTests := true, laidLooks := .later }
def ResolveSchemasCardSaid : Prop := Claim7.holds Tryd.pinned (.plain (OpenSpec.ofChange resolveSchemasSpec)) resolveSchemasCard

/-- THE TIED CARD OF 'manifoldlaw23.ResolveTexts'. -/
def resolveTextsCard : Claim7 := { stood := { row := resolveTextsRow, standIns := [], harness := (true, "f8b0003a701ebbfe971d219b3d671f21a752b32c7f500f165cd03878d288093a"), looks := false }, kinds := [], alts := [], laidByText := true, laidKinds := [.data, .data, .data], laidTests := true, laidLooks := .later }
def ResolveTextsCardSaid : Prop := Claim7.holds Tryd.pinned (.plain (OpenSpec.ofChange resolveTextsSpec)) resolveTextsCard

/-- THE TIED CARD OF 'manifoldlaw23.ResolveOrders'. -/
def resolveOrdersCard : Claim7 := { stood := { row := resolveOrdersRow, standIns := [], harness := (true, "f8b0003a701ebbfe971d219b3d671f21a752b32c7f500f165cd03878d288093a"), looks := false }, kinds := [], alts := [], laidByText := true, laidKinds := [.data, .data, .data], laidTests := true, laidLooks := .later }
def ResolveOrdersCardSaid : Prop := Claim7.holds Tryd.pinned (.plain (OpenSpec.ofChange resolveOrdersSpec)) resolveOrdersCard

/-- THE TIED CARD OF 'manifoldlaw23.ResolveWalks'. -/
def resolveWalksCard : Claim7 := { stood := { row := resolveWalksRow, standIns := [], harness := (true, "f8b0003a701ebbfe971d219b3d671f21a752b32c7f500f165cd03878d288093a"), looks := false }, kinds := [], alts := [], laidByText := true, laidKinds := [.data, .data, .data], laidTests := true, laidLooks := .later }
def ResolveWalksCardSaid : Prop := Claim7.holds Tryd.pinned (.plain (OpenSpec.ofChange resolveWalksSpec)) resolveWalksCard

/-- THE TIED CARD OF 'manifoldlaw23.ResolveNames'. -/
def resolveNamesCard : Claim7 := { stood := { row := resolveNamesRow, standIns := [], harness := (true, "f8b0003a701ebbfe971d219b3d671f21a752b32c7f500f165cd03878d288093a"), looks := false }, kinds := [], alts := [], laidByText := true, laidKinds := [.data, .data, .data], laidTests := true, laidLooks := .later }
def ResolveNamesCardSaid : Prop := Claim7.holds Tryd.pinned (.plain (OpenSpec.ofChange resolveNamesSpec)) resolveNamesCard

/-- THE SECOND FORM's CARD OF 'manifoldlaw23.ResolveEnds'. -/
def resolveEndsUptoCard : Claim7 := { stood := { row := resolveEndsUptoRow, standIns := [], harness := (true, "f8b0003a701ebbfe971d219b3d671f21a752b32c7f500f165cd03878d288093a"), looks := false }, kinds := [], alts := [], laidByText := true, laidKinds := [.data, .data, .data], laidTests := true, laidLooks := .later }
def ResolveEndsUptoCardSaid : Prop := Claim7.holds Tryd.pinned (.plain (OpenSpec.upto resolveEndsSpec)) resolveEndsUptoCard

/-- THE SECOND FORM's CARD OF 'manifoldlaw23.ResolveAutomatic'. -/
def resolveAutomaticUptoCard : Claim7 := { stood := { row := resolveAutomaticUptoRow, standIns := [], harness := (true, "f8b0003a701ebbfe971d219b3d671f21a752b32c7f500f165cd03878d288093a"), looks := false }, kinds := [], alts := [], laidByText := true, laidKinds := [.data, .data, .data], laidTests := true, laidLooks := .later }
def ResolveAutomaticUptoCardSaid : Prop := Claim7.holds Tryd.pinned (.plain (OpenSpec.upto resolveAutomaticSpec)) resolveAutomaticUptoCard

/-- THE SECOND FORM's CARD OF 'manifoldlaw23.ResolveLookups'. -/
def resolveLookupsUptoCard : Claim7 := { stood := { row := resolveLookupsUptoRow, standIns := [], harness := (true, "f8b0003a701ebbfe971d219b3d671f21a752b32c7f500f165cd03878d288093a"), looks := false }, kinds := [], alts := [], laidByText := true, laidKinds := [.data, .data, .data], laidTests := true, laidLooks := .later }
def ResolveLookupsUptoCardSaid : Prop := Claim7.holds Tryd.pinned (.plain (OpenSpec.upto resolveLookupsSpec)) resolveLookupsUptoCard

/-- THE SECOND FORM's CARD OF 'manifoldlaw23.ResolveSchemas'. -/
def resolveSchemasUptoCard : Claim7 := { stood := { row := resolveSchemasUptoRow, standIns := [], harness := (true, "f8b0003a701ebbfe971d219b3d671f21a752b32c7f500f165cd03878d288093a"), looks := false }, kinds := [], alts := [], laidByText := true, laidKinds := [.data, .data, .data], laidTests := true, laidLooks := .later }
def ResolveSchemasUptoCardSaid : Prop := Claim7.holds Tryd.pinned (.plain (OpenSpec.upto resolveSchemasSpec)) resolveSchemasUptoCard

/-- THE SECOND FORM's CARD OF 'manifoldlaw23.ResolveTexts'. -/
def resolveTextsUptoCard : Claim7 := { stood := { row := resolveTextsUptoRow, standIns := [], harness := (true, "f8b0003a701ebbfe971d219b3d671f21a752b32c7f500f165cd03878d288093a"), looks := false }, kinds := [], alts := [], laidByText := true, laidKinds := [.data, .data, .data], laidTests := true, laidLooks := .later }
def ResolveTextsUptoCardSaid : Prop := Claim7.holds Tryd.pinned (.plain (OpenSpec.upto resolveTextsSpec)) resolveTextsUptoCard

/-- THE SECOND FORM's CARD OF 'manifoldlaw23.ResolveOrders'. -/
def resolveOrdersUptoCard : Claim7 := { stood := { row := resolveOrdersUptoRow, standIns := [], harness := (true, "f8b0003a701ebbfe971d219b3d671f21a752b32c7f500f165cd03878d288093a"), looks := false }, kinds := [], alts := [], laidByText := true, laidKinds := [.data, .data, .data], laidTests := true, laidLooks := .later }
def ResolveOrdersUptoCardSaid : Prop := Claim7.holds Tryd.pinned (.plain (OpenSpec.upto resolveOrdersSpec)) resolveOrdersUptoCard

/-- THE SECOND FORM's CARD OF 'manifoldlaw23.ResolveWalks'. -/
def resolveWalksUptoCard : Claim7 := { stood := { row := resolveWalksUptoRow, standIns := [], harness := (true, "f8b0003a701ebbfe971d219b3d671f21a752b32c7f500f165cd03878d288093a"), looks := false }, kinds := [], alts := [], laidByText := true, laidKinds := [.data, .data, .data], laidTests := true, laidLooks := .later }
def ResolveWalksUptoCardSaid : Prop := Claim7.holds Tryd.pinned (.plain (OpenSpec.upto resolveWalksSpec)) resolveWalksUptoCard

/-- THE SECOND FORM's CARD OF 'manifoldlaw23.ResolveNames'. -/
def resolveNamesUptoCard : Claim7 := { stood := { row := resolveNamesUptoRow, standIns := [], harness := (true, "f8b0003a701ebbfe971d219b3d671f21a752b32c7f500f165cd03878d288093a"), looks := false }, kinds := [], alts := [], laidByText := true, laidKinds := [.data, .data, .data], laidTests := true, laidLooks := .later }
def ResolveNamesUptoCardSaid : Prop := Claim7.holds Tryd.pinned (.plain (OpenSpec.upto resolveNamesSpec)) resolveNamesUptoCard
end Rows
end Go.Proofs.YtfbakipopjoghaaDoor
