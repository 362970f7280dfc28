/-
  DERIVED. GIVEN WITH THE SEED: THE CARDS: each row of YtikmckfppnmlnaaDoorRows.lean that lists a variable, with what it lists TIED to the program's text (the seventh form; the later family's looks); each row that meets fmt, with fmt's text TOLD by the authors' own Lean function (tested against real Go, not proved from fmt's source: count such statements apart). THE CARD IS WHAT COUNTS. Prove the row's statement (the work); the ties are given (YtikmckfppnmlnaaDoorTie.lean); close each card by the builder's one call (the guide's Derived/Test/ToyasCard.lean, 'card_holds'). Laid BY PROGRAM, IN A SANDBOX (cutbox-door.mjs). By AI agents, Wed Nov 11 2026. No macro, syntax, notation, axiom, sorry.
-/
import Derived.Test.YtikmckfppnmlnaaDoorRows
import GoSem.ClaimSeven
namespace Go.Proofs.YtikmckfppnmlnaaDoor
namespace Rows

/-- THE TIED CARD OF 'manifoldlaw23.ResolveNames'. -/
def resolveNamesCard : Claim7 := { stood := { row := resolveNamesRow, standIns := [], harness := (true, "d4a6c8a7ebb5073f6d2754831ae9ae772fc053b7bba1d4d9df52fd3b0ee7a0d1"), looks := false }, kinds := [], alts := [], laidByText := true, laidKinds := [.data, .data, .data], laidTests := true, laidLooks := .later }
def ResolveNamesCardSaid : Prop := Claim7.holds Tryd.pinned (.plain (OpenSpec.ofChange resolveNamesSpec)) resolveNamesCard

/-- THE TIED CARD OF 'manifoldlaw07.FitMisfits'. -/
def fitMisfitsCard : Claim7 := { stood := { row := fitMisfitsRow, standIns := [], harness := (true, "d4a6c8a7ebb5073f6d2754831ae9ae772fc053b7bba1d4d9df52fd3b0ee7a0d1"), looks := false }, kinds := [], alts := [], laidByText := true, laidKinds := [.data, .data, .data, .data, .pinned], laidTests := true, laidLooks := .later }
def FitMisfitsCardSaid : Prop := Claim7.holds Tryd.pinned (.plain (OpenSpec.ofChange fitMisfitsSpec)) fitMisfitsCard

/-- THE TIED CARD OF 'manifoldlaw07.FitWidens'. -/
def fitWidensCard : Claim7 := { stood := { row := fitWidensRow, standIns := [], harness := (true, "d4a6c8a7ebb5073f6d2754831ae9ae772fc053b7bba1d4d9df52fd3b0ee7a0d1"), looks := false }, kinds := [], alts := [], laidByText := true, laidKinds := [.data, .data, .data, .data, .pinned], laidTests := true, laidLooks := .later }
def FitWidensCardSaid : Prop := Claim7.holds Tryd.pinned (.plain (OpenSpec.ofChange fitWidensSpec)) fitWidensCard

/-- THE TIED CARD OF 'manifoldlaw07.FitLimit'. -/
def fitLimitCard : Claim7 := { stood := { row := fitLimitRow, standIns := [], harness := (true, "d4a6c8a7ebb5073f6d2754831ae9ae772fc053b7bba1d4d9df52fd3b0ee7a0d1"), looks := false }, kinds := [], alts := [], laidByText := true, laidKinds := [.data, .data, .data, .data, .pinned], laidTests := true, laidLooks := .later }
def FitLimitCardSaid : Prop := Claim7.holds Tryd.pinned (.plain (OpenSpec.ofChange fitLimitSpec)) fitLimitCard

/-- THE TIED CARD OF 'manifoldlaw07.FitFlat'. -/
def fitFlatCard : Claim7 := { stood := { row := fitFlatRow, standIns := [], harness := (true, "d4a6c8a7ebb5073f6d2754831ae9ae772fc053b7bba1d4d9df52fd3b0ee7a0d1"), looks := false }, kinds := [], alts := [], laidByText := true, laidKinds := [.data, .data, .data, .data, .pinned], laidTests := true, laidLooks := .later }
def FitFlatCardSaid : Prop := Claim7.holds Tryd.pinned (.plain (OpenSpec.ofChange fitFlatSpec)) fitFlatCard

/-- THE TIED CARD OF 'manifoldlaw07.FitNames'. -/
def fitNamesCard : Claim7 := { stood := { row := fitNamesRow, standIns := [], harness := (true, "d4a6c8a7ebb5073f6d2754831ae9ae772fc053b7bba1d4d9df52fd3b0ee7a0d1"), looks := false }, kinds := [], alts := [], laidByText := true, laidKinds := [.data, .data, .data, .data, .pinned], laidTests := true, laidLooks := .later }
def FitNamesCardSaid : Prop := Claim7.holds Tryd.pinned (.plain (OpenSpec.ofChange fitNamesSpec)) fitNamesCard

/-- THE TIED CARD OF 'manifoldlaw07.FitReduces'. -/
def fitReducesCard : Claim7 := { stood := { row := fitReducesRow, standIns := [], harness := (true, "d4a6c8a7ebb5073f6d2754831ae9ae772fc053b7bba1d4d9df52fd3b0ee7a0d1"), looks := false }, kinds := [], alts := [], laidByText := true, laidKinds := [.data, .data, .data, .data, .pinned], laidTests := true, laidLooks := .later }
def FitReducesCardSaid : Prop := Claim7.holds Tryd.pinned (.plain (OpenSpec.ofChange fitReducesSpec)) fitReducesCard

/-- THE TIED CARD OF 'manifoldlaw07.FitBack'. -/
def fitBackCard : Claim7 := { stood := { row := fitBackRow, standIns := [], harness := (true, "d4a6c8a7ebb5073f6d2754831ae9ae772fc053b7bba1d4d9df52fd3b0ee7a0d1"), looks := false }, kinds := [], alts := [], laidByText := true, laidKinds := [.data, .data, .data, .data, .pinned], laidTests := true, laidLooks := .later }
def FitBackCardSaid : Prop := Claim7.holds Tryd.pinned (.plain (OpenSpec.ofChange fitBackSpec)) fitBackCard

/-- THE TIED CARD OF 'manifoldlaw07.FitReducesSame'. -/
def fitReducesSameCard : Claim7 := { stood := { row := fitReducesSameRow, standIns := [], harness := (true, "d4a6c8a7ebb5073f6d2754831ae9ae772fc053b7bba1d4d9df52fd3b0ee7a0d1"), looks := false }, kinds := [], alts := [], laidByText := true, laidKinds := [.data, .data, .data, .data, .pinned], laidTests := true, laidLooks := .later }
def FitReducesSameCardSaid : Prop := Claim7.holds Tryd.pinned (.plain (OpenSpec.ofChange fitReducesSameSpec)) fitReducesSameCard

/-- THE SECOND FORM's CARD OF 'manifoldlaw23.ResolveNames'. -/
def resolveNamesUptoCard : Claim7 := { stood := { row := resolveNamesUptoRow, standIns := [], harness := (true, "d4a6c8a7ebb5073f6d2754831ae9ae772fc053b7bba1d4d9df52fd3b0ee7a0d1"), looks := false }, kinds := [], alts := [], laidByText := true, laidKinds := [.data, .data, .data], laidTests := true, laidLooks := .later }
def ResolveNamesUptoCardSaid : Prop := Claim7.holds Tryd.pinned (.plain (OpenSpec.upto resolveNamesSpec)) resolveNamesUptoCard

/-- THE SECOND FORM's CARD OF 'manifoldlaw07.FitMisfits'. -/
def fitMisfitsUptoCard : Claim7 := { stood := { row := fitMisfitsUptoRow, standIns := [], harness := (true, "d4a6c8a7ebb5073f6d2754831ae9ae772fc053b7bba1d4d9df52fd3b0ee7a0d1"), looks := false }, kinds := [], alts := [], laidByText := true, laidKinds := [.data, .data, .data, .data, .pinned], laidTests := true, laidLooks := .later }
def FitMisfitsUptoCardSaid : Prop := Claim7.holds Tryd.pinned (.plain (OpenSpec.upto fitMisfitsSpec)) fitMisfitsUptoCard

/-- THE SECOND FORM's CARD OF 'manifoldlaw07.FitWidens'. -/
def fitWidensUptoCard : Claim7 := { stood := { row := fitWidensUptoRow, standIns := [], harness := (true, "d4a6c8a7ebb5073f6d2754831ae9ae772fc053b7bba1d4d9df52fd3b0ee7a0d1"), looks := false }, kinds := [], alts := [], laidByText := true, laidKinds := [.data, .data, .data, .data, .pinned], laidTests := true, laidLooks := .later }
def FitWidensUptoCardSaid : Prop := Claim7.holds Tryd.pinned (.plain (OpenSpec.upto fitWidensSpec)) fitWidensUptoCard

/-- THE SECOND FORM's CARD OF 'manifoldlaw07.FitLimit'. -/
def fitLimitUptoCard : Claim7 := { stood := { row := fitLimitUptoRow, standIns := [], harness := (true, "d4a6c8a7ebb5073f6d2754831ae9ae772fc053b7bba1d4d9df52fd3b0ee7a0d1"), looks := false }, kinds := [], alts := [], laidByText := true, laidKinds := [.data, .data, .data, .data, .pinned], laidTests := true, laidLooks := .later }
def FitLimitUptoCardSaid : Prop := Claim7.holds Tryd.pinned (.plain (OpenSpec.upto fitLimitSpec)) fitLimitUptoCard

/-- THE SECOND FORM's CARD OF 'manifoldlaw07.FitFlat'. -/
def fitFlatUptoCard : Claim7 := { stood := { row := fitFlatUptoRow, standIns := [], harness := (true, "d4a6c8a7ebb5073f6d2754831ae9ae772fc053b7bba1d4d9df52fd3b0ee7a0d1"), looks := false }, kinds := [], alts := [], laidByText := true, laidKinds := [.data, .data, .data, .data, .pinned], laidTests := true, laidLooks := .later }
def FitFlatUptoCardSaid : Prop := Claim7.holds Tryd.pinned (.plain (OpenSpec.upto fitFlatSpec)) fitFlatUptoCard

/-- THE SECOND FORM's CARD OF 'manifoldlaw07.FitNames'. -/
def fitNamesUptoCard : Claim7 := { stood := { row := fitNamesUptoRow, standIns := [], harness := (true, "d4a6c8a7ebb5073f6d2754831ae9ae772fc053b7bba1d4d9df52fd3b0ee7a0d1"), looks := false }, kinds := [], alts := [], laidByText := true, laidKinds := [.data, .data, .data, .data, .pinned], laidTests := true, laidLooks := .later }
def FitNamesUptoCardSaid : Prop := Claim7.holds Tryd.pinned (.plain (OpenSpec.upto fitNamesSpec)) fitNamesUptoCard

/-- THE SECOND FORM's CARD OF 'manifoldlaw07.FitReduces'. -/
def fitReducesUptoCard : Claim7 := { stood := { row := fitReducesUptoRow, standIns := [], harness := (true, "d4a6c8a7ebb5073f6d2754831ae9ae772fc053b7bba1d4d9df52fd3b0ee7a0d1"), looks := false }, kinds := [], alts := [], laidByText := true, laidKinds := [.data, .data, .data, .data, .pinned], laidTests := true, laidLooks := .later }
def FitReducesUptoCardSaid : Prop := Claim7.holds Tryd.pinned (.plain (OpenSpec.upto fitReducesSpec)) fitReducesUptoCard

/-- THE SECOND FORM's CARD OF 'manifoldlaw07.FitBack'. -/
def fitBackUptoCard : Claim7 := { stood := { row := fitBackUptoRow, standIns := [], harness := (true, "d4a6c8a7ebb5073f6d2754831ae9ae772fc053b7bba1d4d9df52fd3b0ee7a0d1"), looks := false }, kinds := [], alts := [], laidByText := true, laidKinds := [.data, .data, .data, .data, .pinned], laidTests := true, laidLooks := .later }
def FitBackUptoCardSaid : Prop := Claim7.holds Tryd.pinned (.plain (OpenSpec.upto fitBackSpec)) fitBackUptoCard

/-- THE SECOND FORM's CARD OF 'manifoldlaw07.FitReducesSame'. -/
def fitReducesSameUptoCard : Claim7 := { stood := { row := fitReducesSameUptoRow, standIns := [], harness := (true, "d4a6c8a7ebb5073f6d2754831ae9ae772fc053b7bba1d4d9df52fd3b0ee7a0d1"), looks := false }, kinds := [], alts := [], laidByText := true, laidKinds := [.data, .data, .data, .data, .pinned], laidTests := true, laidLooks := .later }
def FitReducesSameUptoCardSaid : Prop := Claim7.holds Tryd.pinned (.plain (OpenSpec.upto fitReducesSameSpec)) fitReducesSameUptoCard
end Rows
end Go.Proofs.YtikmckfppnmlnaaDoor
