/-
  DERIVED. GIVEN WITH THE SEED: THE CARDS: each row of YtjoiflokekebkaaDoorRows.lean that lists a variable, with what it lists TIED to the program's text (the seventh form; the later family's looks); each row that meets fmt, with fmt's text TOLD by the authors' own Lean function (tested against real Go, not proved from fmt's source: count such statements apart). THE CARD IS WHAT COUNTS. Prove the row's statement (the work); the ties are given (YtjoiflokekebkaaDoorTie.lean); close each card by the builder's one call (the guide's Derived/Test/ToyasCard.lean, 'card_holds'). Laid BY PROGRAM, IN A SANDBOX (cutbox-door.mjs). By AI agents, Wed Nov 11 2026. No macro, syntax, notation, axiom, sorry.
-/
import Derived.Test.YtjoiflokekebkaaDoorRows
import GoSem.ClaimSeven
namespace Go.Proofs.YtjoiflokekebkaaDoor
namespace Rows

/-- THE TIED CARD OF 'cocoonlaw06.ParsePlaces'. -/
def parsePlacesCard : Claim7 := { stood := { row := parsePlacesRow, standIns := [], harness := (true, "b18687e5811056045a4030db6968956a63025175b05bb33265462650824c464e"), looks := true }, kinds := [], alts := [], laidByText := true, laidKinds := [.data, .data, .data, .sentinel, .sentinel], laidTests := true, laidLooks := .later }
def ParsePlacesCardSaid : Prop := Claim7.holds Tryd.pinned (.plain (OpenSpec.ofChange parsePlacesSpec)) parsePlacesCard

/-- THE TIED CARD OF 'cocoonlaw06.ParseCuts'. -/
def parseCutsCard : Claim7 := { stood := { row := parseCutsRow, standIns := [], harness := (true, "b18687e5811056045a4030db6968956a63025175b05bb33265462650824c464e"), looks := true }, kinds := [], alts := [], laidByText := true, laidKinds := [.data, .data, .data, .sentinel, .sentinel], laidTests := true, laidLooks := .later }
def ParseCutsCardSaid : Prop := Claim7.holds Tryd.pinned (.plain (OpenSpec.ofChange parseCutsSpec)) parseCutsCard

/-- THE SECOND FORM's CARD OF 'cocoonlaw06.ParsePlaces'. -/
def parsePlacesUptoCard : Claim7 := { stood := { row := parsePlacesUptoRow, standIns := [], harness := (true, "b18687e5811056045a4030db6968956a63025175b05bb33265462650824c464e"), looks := true }, kinds := [], alts := [], laidByText := true, laidKinds := [.data, .data, .data, .sentinel, .sentinel], laidTests := true, laidLooks := .later }
def ParsePlacesUptoCardSaid : Prop := Claim7.holds Tryd.pinned (.plain (OpenSpec.upto parsePlacesSpec)) parsePlacesUptoCard

/-- THE SECOND FORM's CARD OF 'cocoonlaw06.ParseCuts'. -/
def parseCutsUptoCard : Claim7 := { stood := { row := parseCutsUptoRow, standIns := [], harness := (true, "b18687e5811056045a4030db6968956a63025175b05bb33265462650824c464e"), looks := true }, kinds := [], alts := [], laidByText := true, laidKinds := [.data, .data, .data, .sentinel, .sentinel], laidTests := true, laidLooks := .later }
def ParseCutsUptoCardSaid : Prop := Claim7.holds Tryd.pinned (.plain (OpenSpec.upto parseCutsSpec)) parseCutsUptoCard
end Rows
end Go.Proofs.YtjoiflokekebkaaDoor
