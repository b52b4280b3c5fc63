/-
  DERIVED. GIVEN WITH THE SEED: THE CARDS: each row of YtaaoeaenhjaijaaDoorRows.lean that lists a variable, with what it lists TIED to the program's text (the seventh form; the later family's looks); each row that meets fmt, with fmt's text TOLD by the authors' own Lean function (tested against real Go, not proved from fmt's source: count such statements apart). THE CARD IS WHAT COUNTS. Prove the row's statement (the work); the ties are given (YtaaoeaenhjaijaaDoorTie.lean); close each card by the builder's one call (the guide's Derived/Test/ToyasCard.lean, 'card_holds'). Laid BY PROGRAM, IN A SANDBOX (cutbox-door.mjs). By AI agents, Wed Nov 11 2026. No macro, syntax, notation, axiom, sorry.
-/
import Derived.Test.YtaaoeaenhjaijaaDoorRows
import GoSem.ClaimSeven
namespace Go.Proofs.YtaaoeaenhjaijaaDoor
namespace Rows

/-- THE TIED CARD OF 'cocoonlaw04.LexisLexes'. -/
def lexisLexesCard : Claim7 := { stood := { row := lexisLexesRow, standIns := [], harness := (true, "ddda70d33019e87f0703c012108ef98b898999fa982d023941ef7c674db79b79"), looks := true }, kinds := [], alts := [], laidByText := true, laidKinds := [.data, .data, .data, .sentinel, .sentinel], laidTests := true, laidLooks := .later }
def LexisLexesCardSaid : Prop := Claim7.holds Tryd.pinned (.plain (OpenSpec.ofChange lexisLexesSpec)) lexisLexesCard

/-- THE TIED CARD OF 'cocoonlaw04.LexisWords'. -/
def lexisWordsCard : Claim7 := { stood := { row := lexisWordsRow, standIns := [], harness := (true, "ddda70d33019e87f0703c012108ef98b898999fa982d023941ef7c674db79b79"), looks := true }, kinds := [], alts := [], laidByText := true, laidKinds := [.data, .data, .data, .sentinel, .sentinel], laidTests := true, laidLooks := .later }
def LexisWordsCardSaid : Prop := Claim7.holds Tryd.pinned (.plain (OpenSpec.ofChange lexisWordsSpec)) lexisWordsCard

/-- THE TIED CARD OF 'cocoonlaw04.LexisPlaces'. -/
def lexisPlacesCard : Claim7 := { stood := { row := lexisPlacesRow, standIns := [], harness := (true, "ddda70d33019e87f0703c012108ef98b898999fa982d023941ef7c674db79b79"), looks := true }, kinds := [], alts := [], laidByText := true, laidKinds := [.data, .data, .data, .sentinel, .sentinel], laidTests := true, laidLooks := .later }
def LexisPlacesCardSaid : Prop := Claim7.holds Tryd.pinned (.plain (OpenSpec.ofChange lexisPlacesSpec)) lexisPlacesCard

/-- THE TIED CARD OF 'cocoonlaw04.LexisGlue'. -/
def lexisGlueCard : Claim7 := { stood := { row := lexisGlueRow, standIns := [], harness := (true, "ddda70d33019e87f0703c012108ef98b898999fa982d023941ef7c674db79b79"), looks := true }, kinds := [], alts := [], laidByText := true, laidKinds := [.data, .data, .data, .sentinel, .sentinel], laidTests := true, laidLooks := .later }
def LexisGlueCardSaid : Prop := Claim7.holds Tryd.pinned (.plain (OpenSpec.ofChange lexisGlueSpec)) lexisGlueCard

/-- THE TIED CARD OF 'cocoonlaw04.LexisOne'. -/
def lexisOneCard : Claim7 := { stood := { row := lexisOneRow, standIns := [], harness := (true, "ddda70d33019e87f0703c012108ef98b898999fa982d023941ef7c674db79b79"), looks := true }, kinds := [], alts := [], laidByText := true, laidKinds := [.data, .data, .data, .sentinel, .sentinel], laidTests := true, laidLooks := .later }
def LexisOneCardSaid : Prop := Claim7.holds Tryd.pinned (.plain (OpenSpec.ofChange lexisOneSpec)) lexisOneCard

/-- THE TIED CARD OF 'cocoonlaw04.LexisNumbers'. -/
def lexisNumbersCard : Claim7 := { stood := { row := lexisNumbersRow, standIns := [], harness := (true, "ddda70d33019e87f0703c012108ef98b898999fa982d023941ef7c674db79b79"), looks := true }, kinds := [], alts := [], laidByText := true, laidKinds := [.data, .data, .data, .sentinel, .sentinel], laidTests := true, laidLooks := .later }
def LexisNumbersCardSaid : Prop := Claim7.holds Tryd.pinned (.plain (OpenSpec.ofChange lexisNumbersSpec)) lexisNumbersCard

/-- THE SECOND FORM's CARD OF 'cocoonlaw04.LexisLexes'. -/
def lexisLexesUptoCard : Claim7 := { stood := { row := lexisLexesUptoRow, standIns := [], harness := (true, "ddda70d33019e87f0703c012108ef98b898999fa982d023941ef7c674db79b79"), looks := true }, kinds := [], alts := [], laidByText := true, laidKinds := [.data, .data, .data, .sentinel, .sentinel], laidTests := true, laidLooks := .later }
def LexisLexesUptoCardSaid : Prop := Claim7.holds Tryd.pinned (.plain (OpenSpec.upto lexisLexesSpec)) lexisLexesUptoCard

/-- THE SECOND FORM's CARD OF 'cocoonlaw04.LexisWords'. -/
def lexisWordsUptoCard : Claim7 := { stood := { row := lexisWordsUptoRow, standIns := [], harness := (true, "ddda70d33019e87f0703c012108ef98b898999fa982d023941ef7c674db79b79"), looks := true }, kinds := [], alts := [], laidByText := true, laidKinds := [.data, .data, .data, .sentinel, .sentinel], laidTests := true, laidLooks := .later }
def LexisWordsUptoCardSaid : Prop := Claim7.holds Tryd.pinned (.plain (OpenSpec.upto lexisWordsSpec)) lexisWordsUptoCard

/-- THE SECOND FORM's CARD OF 'cocoonlaw04.LexisPlaces'. -/
def lexisPlacesUptoCard : Claim7 := { stood := { row := lexisPlacesUptoRow, standIns := [], harness := (true, "ddda70d33019e87f0703c012108ef98b898999fa982d023941ef7c674db79b79"), looks := true }, kinds := [], alts := [], laidByText := true, laidKinds := [.data, .data, .data, .sentinel, .sentinel], laidTests := true, laidLooks := .later }
def LexisPlacesUptoCardSaid : Prop := Claim7.holds Tryd.pinned (.plain (OpenSpec.upto lexisPlacesSpec)) lexisPlacesUptoCard

/-- THE SECOND FORM's CARD OF 'cocoonlaw04.LexisGlue'. -/
def lexisGlueUptoCard : Claim7 := { stood := { row := lexisGlueUptoRow, standIns := [], harness := (true, "ddda70d33019e87f0703c012108ef98b898999fa982d023941ef7c674db79b79"), looks := true }, kinds := [], alts := [], laidByText := true, laidKinds := [.data, .data, .data, .sentinel, .sentinel], laidTests := true, laidLooks := .later }
def LexisGlueUptoCardSaid : Prop := Claim7.holds Tryd.pinned (.plain (OpenSpec.upto lexisGlueSpec)) lexisGlueUptoCard

/-- THE SECOND FORM's CARD OF 'cocoonlaw04.LexisOne'. -/
def lexisOneUptoCard : Claim7 := { stood := { row := lexisOneUptoRow, standIns := [], harness := (true, "ddda70d33019e87f0703c012108ef98b898999fa982d023941ef7c674db79b79"), looks := true }, kinds := [], alts := [], laidByText := true, laidKinds := [.data, .data, .data, .sentinel, .sentinel], laidTests := true, laidLooks := .later }
def LexisOneUptoCardSaid : Prop := Claim7.holds Tryd.pinned (.plain (OpenSpec.upto lexisOneSpec)) lexisOneUptoCard

/-- THE SECOND FORM's CARD OF 'cocoonlaw04.LexisNumbers'. -/
def lexisNumbersUptoCard : Claim7 := { stood := { row := lexisNumbersUptoRow, standIns := [], harness := (true, "ddda70d33019e87f0703c012108ef98b898999fa982d023941ef7c674db79b79"), looks := true }, kinds := [], alts := [], laidByText := true, laidKinds := [.data, .data, .data, .sentinel, .sentinel], laidTests := true, laidLooks := .later }
def LexisNumbersUptoCardSaid : Prop := Claim7.holds Tryd.pinned (.plain (OpenSpec.upto lexisNumbersSpec)) lexisNumbersUptoCard
end Rows
end Go.Proofs.YtaaoeaenhjaijaaDoor
