/-
  DERIVED. GIVEN WITH THE SEED: THE CARDS: each row of YtngchmkoadaecaaGreatDoorRows.lean that lists a variable, with what it lists TIED to the program's text (the seventh form; the later family's looks); each row that meets fmt, with fmt's text TOLD by the authors' own Lean function (tested against real Go, not proved from fmt's source: count such statements apart). THE CARD IS WHAT COUNTS. Prove the row's statement (the work); the ties are given (YtngchmkoadaecaaGreatDoorTie.lean); close each card by the builder's one call (the guide's Derived/Test/ToyasCard.lean, 'card_holds'). Laid BY PROGRAM, IN A SANDBOX (cutbox-door.mjs). By AI agents, Wed Nov 11 2026. No macro, syntax, notation, axiom, sorry.
-/
import Derived.Test.YtngchmkoadaecaaGreatDoorRows
import GoSem.ClaimSeven
namespace Go.Proofs.YtngchmkoadaecaaGreatDoor
namespace Rows

/-- THE TIED CARD OF 'manifoldlaw23.ResolveProblems'. -/
def resolveProblemsCard : Claim7 := { stood := { row := resolveProblemsRow, standIns := [], harness := (true, "572a9da4ff411a23f0c2564f0d1aec5890f687f78df10622adc428177dd27b0d"), looks := false }, kinds := [], alts := [], laidByText := true, laidKinds := [.data, .data, .data, .data, .pinned], laidTests := true, laidLooks := .later }
def ResolveProblemsCardSaid : Prop := Claim7.holds Tryz.pinned (.plain (OpenSpec.ofChange resolveProblemsSpec)) resolveProblemsCard

/-- THE TIED CARD OF 'manifoldlaw23.ResolveClean'. -/
def resolveCleanCard : Claim7 := { stood := { row := resolveCleanRow, standIns := [], harness := (true, "572a9da4ff411a23f0c2564f0d1aec5890f687f78df10622adc428177dd27b0d"), looks := false }, kinds := [], alts := [], laidByText := true, laidKinds := [.data, .data, .data, .data, .pinned], laidTests := true, laidLooks := .later }
def ResolveCleanCardSaid : Prop := Claim7.holds Tryz.pinned (.plain (OpenSpec.ofChange resolveCleanSpec)) resolveCleanCard

/-- THE SECOND FORM's CARD OF 'manifoldlaw23.ResolveProblems'. -/
def resolveProblemsUptoCard : Claim7 := { stood := { row := resolveProblemsUptoRow, standIns := [], harness := (true, "572a9da4ff411a23f0c2564f0d1aec5890f687f78df10622adc428177dd27b0d"), looks := false }, kinds := [], alts := [], laidByText := true, laidKinds := [.data, .data, .data, .data, .pinned], laidTests := true, laidLooks := .later }
def ResolveProblemsUptoCardSaid : Prop := Claim7.holds Tryz.pinned (.plain (OpenSpec.upto resolveProblemsSpec)) resolveProblemsUptoCard

/-- THE SECOND FORM's CARD OF 'manifoldlaw23.ResolveClean'. -/
def resolveCleanUptoCard : Claim7 := { stood := { row := resolveCleanUptoRow, standIns := [], harness := (true, "572a9da4ff411a23f0c2564f0d1aec5890f687f78df10622adc428177dd27b0d"), looks := false }, kinds := [], alts := [], laidByText := true, laidKinds := [.data, .data, .data, .data, .pinned], laidTests := true, laidLooks := .later }
def ResolveCleanUptoCardSaid : Prop := Claim7.holds Tryz.pinned (.plain (OpenSpec.upto resolveCleanSpec)) resolveCleanUptoCard
end Rows
end Go.Proofs.YtngchmkoadaecaaGreatDoor
