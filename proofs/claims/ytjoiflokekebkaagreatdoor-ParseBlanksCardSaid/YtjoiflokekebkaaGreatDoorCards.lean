/-
  DERIVED. GIVEN WITH THE SEED: THE CARDS: each row of YtjoiflokekebkaaGreatDoorRows.lean that lists a variable, with what it lists TIED to the program's text (the seventh form; the later family's looks); each row that meets fmt, with fmt's text TOLD by the authors' own Lean function (tested against real Go, not proved from fmt's source: count such statements apart). THE CARD IS WHAT COUNTS. Prove the row's statement (the work); the ties are given (YtjoiflokekebkaaGreatDoorTie.lean); close each card by the builder's one call (the guide's Derived/Test/ToyasCard.lean, 'card_holds'). Laid BY PROGRAM, IN A SANDBOX (cutbox-door.mjs). By AI agents, Wed Nov 11 2026. No macro, syntax, notation, axiom, sorry.
-/
import Derived.Test.YtjoiflokekebkaaGreatDoorRows
import GoSem.ClaimSeven
namespace Go.Proofs.YtjoiflokekebkaaGreatDoor
namespace Rows

/-- THE TIED CARD OF 'cocoonlaw08.CheckNames'. -/
def checkNamesCard : Claim7 := { stood := { row := checkNamesRow, standIns := [], harness := (true, "9ea107d5e702dd7a728d7a65a4094f5d6f5bac373fd61dcb75489db7093f3376"), looks := true }, kinds := [], alts := [], laidByText := true, laidKinds := [.data, .data, .data, .sentinel, .sentinel], laidTests := true, laidLooks := .later }
def CheckNamesCardSaid : Prop := Claim7.holds Tryz.pinned (.plain (OpenSpec.ofChange checkNamesSpec)) checkNamesCard

/-- THE TIED CARD OF 'cocoonlaw08.CheckAlone'. -/
def checkAloneCard : Claim7 := { stood := { row := checkAloneRow, standIns := [], harness := (true, "9ea107d5e702dd7a728d7a65a4094f5d6f5bac373fd61dcb75489db7093f3376"), looks := true }, kinds := [], alts := [], laidByText := true, laidKinds := [.data, .data, .data, .sentinel, .sentinel], laidTests := true, laidLooks := .later }
def CheckAloneCardSaid : Prop := Claim7.holds Tryz.pinned (.plain (OpenSpec.ofChange checkAloneSpec)) checkAloneCard

/-- THE TIED CARD OF 'cocoonlaw06.ParseReads'. -/
def parseReadsCard : Claim7 := { stood := { row := parseReadsRow, standIns := [], harness := (true, "9ea107d5e702dd7a728d7a65a4094f5d6f5bac373fd61dcb75489db7093f3376"), looks := true }, kinds := [], alts := [], laidByText := true, laidKinds := [.data, .data, .data, .sentinel, .sentinel], laidTests := true, laidLooks := .later }
def ParseReadsCardSaid : Prop := Claim7.holds Tryz.pinned (.plain (OpenSpec.ofChange parseReadsSpec)) parseReadsCard

/-- THE TIED CARD OF 'cocoonlaw06.ParseGlue'. -/
def parseGlueCard : Claim7 := { stood := { row := parseGlueRow, standIns := [], harness := (true, "9ea107d5e702dd7a728d7a65a4094f5d6f5bac373fd61dcb75489db7093f3376"), looks := true }, kinds := [], alts := [], laidByText := true, laidKinds := [.data, .data, .data, .sentinel, .sentinel], laidTests := true, laidLooks := .later }
def ParseGlueCardSaid : Prop := Claim7.holds Tryz.pinned (.plain (OpenSpec.ofChange parseGlueSpec)) parseGlueCard

/-- THE TIED CARD OF 'cocoonlaw06.ParseBlanks'. -/
def parseBlanksCard : Claim7 := { stood := { row := parseBlanksRow, standIns := [], harness := (true, "9ea107d5e702dd7a728d7a65a4094f5d6f5bac373fd61dcb75489db7093f3376"), looks := true }, kinds := [], alts := [], laidByText := true, laidKinds := [.data, .data, .data, .sentinel, .sentinel], laidTests := true, laidLooks := .later }
def ParseBlanksCardSaid : Prop := Claim7.holds Tryz.pinned (.plain (OpenSpec.ofChange parseBlanksSpec)) parseBlanksCard

/-- THE TIED CARD OF 'cocoonlaw07.KindsChecks'. -/
def kindsChecksCard : Claim7 := { stood := { row := kindsChecksRow, standIns := [], harness := (true, "9ea107d5e702dd7a728d7a65a4094f5d6f5bac373fd61dcb75489db7093f3376"), looks := true }, kinds := [], alts := [], laidByText := true, laidKinds := [.data, .data, .data, .sentinel, .sentinel], laidTests := true, laidLooks := .later }
def KindsChecksCardSaid : Prop := Claim7.holds Tryz.pinned (.plain (OpenSpec.ofChange kindsChecksSpec)) kindsChecksCard

/-- THE TIED CARD OF 'cocoonlaw07.KindsAdds'. -/
def kindsAddsCard : Claim7 := { stood := { row := kindsAddsRow, standIns := [], harness := (true, "9ea107d5e702dd7a728d7a65a4094f5d6f5bac373fd61dcb75489db7093f3376"), looks := true }, kinds := [], alts := [], laidByText := true, laidKinds := [.data, .data, .data, .sentinel, .sentinel], laidTests := true, laidLooks := .later }
def KindsAddsCardSaid : Prop := Claim7.holds Tryz.pinned (.plain (OpenSpec.ofChange kindsAddsSpec)) kindsAddsCard

/-- THE TIED CARD OF 'cocoonlaw07.KindsMore'. -/
def kindsMoreCard : Claim7 := { stood := { row := kindsMoreRow, standIns := [], harness := (true, "9ea107d5e702dd7a728d7a65a4094f5d6f5bac373fd61dcb75489db7093f3376"), looks := true }, kinds := [], alts := [], laidByText := true, laidKinds := [.data, .data, .data, .sentinel, .sentinel], laidTests := true, laidLooks := .later }
def KindsMoreCardSaid : Prop := Claim7.holds Tryz.pinned (.plain (OpenSpec.ofChange kindsMoreSpec)) kindsMoreCard

/-- THE TIED CARD OF 'cocoonlaw07.KindsOrder'. -/
def kindsOrderCard : Claim7 := { stood := { row := kindsOrderRow, standIns := [], harness := (true, "9ea107d5e702dd7a728d7a65a4094f5d6f5bac373fd61dcb75489db7093f3376"), looks := true }, kinds := [], alts := [], laidByText := true, laidKinds := [.data, .data, .data, .sentinel, .sentinel], laidTests := true, laidLooks := .later }
def KindsOrderCardSaid : Prop := Claim7.holds Tryz.pinned (.plain (OpenSpec.ofChange kindsOrderSpec)) kindsOrderCard

/-- THE TIED CARD OF 'cocoonlaw07.KindsBox'. -/
def kindsBoxCard : Claim7 := { stood := { row := kindsBoxRow, standIns := [], harness := (true, "9ea107d5e702dd7a728d7a65a4094f5d6f5bac373fd61dcb75489db7093f3376"), looks := true }, kinds := [], alts := [], laidByText := true, laidKinds := [.data, .data, .data, .sentinel, .sentinel], laidTests := true, laidLooks := .later }
def KindsBoxCardSaid : Prop := Claim7.holds Tryz.pinned (.plain (OpenSpec.ofChange kindsBoxSpec)) kindsBoxCard

/-- THE TIED CARD OF 'cocoonlaw08.CheckTexts'. -/
def checkTextsCard : Claim7 := { stood := { row := checkTextsRow, standIns := [], harness := (true, "9ea107d5e702dd7a728d7a65a4094f5d6f5bac373fd61dcb75489db7093f3376"), looks := true }, kinds := [], alts := [], laidByText := true, laidKinds := [.data, .data, .data, .sentinel, .sentinel], laidTests := true, laidLooks := .later }
def CheckTextsCardSaid : Prop := Claim7.holds Tryz.pinned (.plain (OpenSpec.ofChange checkTextsSpec)) checkTextsCard

/-- THE TIED CARD OF 'cocoonlaw08.CheckMore'. -/
def checkMoreCard : Claim7 := { stood := { row := checkMoreRow, standIns := [], harness := (true, "9ea107d5e702dd7a728d7a65a4094f5d6f5bac373fd61dcb75489db7093f3376"), looks := true }, kinds := [], alts := [], laidByText := true, laidKinds := [.data, .data, .data, .sentinel, .sentinel], laidTests := true, laidLooks := .later }
def CheckMoreCardSaid : Prop := Claim7.holds Tryz.pinned (.plain (OpenSpec.ofChange checkMoreSpec)) checkMoreCard

/-- THE TIED CARD OF 'cocoonlaw08.CheckUses'. -/
def checkUsesCard : Claim7 := { stood := { row := checkUsesRow, standIns := [], harness := (true, "9ea107d5e702dd7a728d7a65a4094f5d6f5bac373fd61dcb75489db7093f3376"), looks := true }, kinds := [], alts := [], laidByText := true, laidKinds := [.data, .data, .data, .sentinel, .sentinel], laidTests := true, laidLooks := .later }
def CheckUsesCardSaid : Prop := Claim7.holds Tryz.pinned (.plain (OpenSpec.ofChange checkUsesSpec)) checkUsesCard

/-- THE TIED CARD OF 'cocoonlaw08.CheckEnds'. -/
def checkEndsCard : Claim7 := { stood := { row := checkEndsRow, standIns := [], harness := (true, "9ea107d5e702dd7a728d7a65a4094f5d6f5bac373fd61dcb75489db7093f3376"), looks := true }, kinds := [], alts := [], laidByText := true, laidKinds := [.data, .data, .data, .sentinel, .sentinel], laidTests := true, laidLooks := .later }
def CheckEndsCardSaid : Prop := Claim7.holds Tryz.pinned (.plain (OpenSpec.ofChange checkEndsSpec)) checkEndsCard

/-- THE SECOND FORM's CARD OF 'cocoonlaw08.CheckNames'. -/
def checkNamesUptoCard : Claim7 := { stood := { row := checkNamesUptoRow, standIns := [], harness := (true, "9ea107d5e702dd7a728d7a65a4094f5d6f5bac373fd61dcb75489db7093f3376"), looks := true }, kinds := [], alts := [], laidByText := true, laidKinds := [.data, .data, .data, .sentinel, .sentinel], laidTests := true, laidLooks := .later }
def CheckNamesUptoCardSaid : Prop := Claim7.holds Tryz.pinned (.plain (OpenSpec.upto checkNamesSpec)) checkNamesUptoCard

/-- THE SECOND FORM's CARD OF 'cocoonlaw08.CheckAlone'. -/
def checkAloneUptoCard : Claim7 := { stood := { row := checkAloneUptoRow, standIns := [], harness := (true, "9ea107d5e702dd7a728d7a65a4094f5d6f5bac373fd61dcb75489db7093f3376"), looks := true }, kinds := [], alts := [], laidByText := true, laidKinds := [.data, .data, .data, .sentinel, .sentinel], laidTests := true, laidLooks := .later }
def CheckAloneUptoCardSaid : Prop := Claim7.holds Tryz.pinned (.plain (OpenSpec.upto checkAloneSpec)) checkAloneUptoCard

/-- THE SECOND FORM's CARD OF 'cocoonlaw06.ParseReads'. -/
def parseReadsUptoCard : Claim7 := { stood := { row := parseReadsUptoRow, standIns := [], harness := (true, "9ea107d5e702dd7a728d7a65a4094f5d6f5bac373fd61dcb75489db7093f3376"), looks := true }, kinds := [], alts := [], laidByText := true, laidKinds := [.data, .data, .data, .sentinel, .sentinel], laidTests := true, laidLooks := .later }
def ParseReadsUptoCardSaid : Prop := Claim7.holds Tryz.pinned (.plain (OpenSpec.upto parseReadsSpec)) parseReadsUptoCard

/-- THE SECOND FORM's CARD OF 'cocoonlaw06.ParseGlue'. -/
def parseGlueUptoCard : Claim7 := { stood := { row := parseGlueUptoRow, standIns := [], harness := (true, "9ea107d5e702dd7a728d7a65a4094f5d6f5bac373fd61dcb75489db7093f3376"), looks := true }, kinds := [], alts := [], laidByText := true, laidKinds := [.data, .data, .data, .sentinel, .sentinel], laidTests := true, laidLooks := .later }
def ParseGlueUptoCardSaid : Prop := Claim7.holds Tryz.pinned (.plain (OpenSpec.upto parseGlueSpec)) parseGlueUptoCard

/-- THE SECOND FORM's CARD OF 'cocoonlaw06.ParseBlanks'. -/
def parseBlanksUptoCard : Claim7 := { stood := { row := parseBlanksUptoRow, standIns := [], harness := (true, "9ea107d5e702dd7a728d7a65a4094f5d6f5bac373fd61dcb75489db7093f3376"), looks := true }, kinds := [], alts := [], laidByText := true, laidKinds := [.data, .data, .data, .sentinel, .sentinel], laidTests := true, laidLooks := .later }
def ParseBlanksUptoCardSaid : Prop := Claim7.holds Tryz.pinned (.plain (OpenSpec.upto parseBlanksSpec)) parseBlanksUptoCard

/-- THE SECOND FORM's CARD OF 'cocoonlaw07.KindsChecks'. -/
def kindsChecksUptoCard : Claim7 := { stood := { row := kindsChecksUptoRow, standIns := [], harness := (true, "9ea107d5e702dd7a728d7a65a4094f5d6f5bac373fd61dcb75489db7093f3376"), looks := true }, kinds := [], alts := [], laidByText := true, laidKinds := [.data, .data, .data, .sentinel, .sentinel], laidTests := true, laidLooks := .later }
def KindsChecksUptoCardSaid : Prop := Claim7.holds Tryz.pinned (.plain (OpenSpec.upto kindsChecksSpec)) kindsChecksUptoCard

/-- THE SECOND FORM's CARD OF 'cocoonlaw07.KindsAdds'. -/
def kindsAddsUptoCard : Claim7 := { stood := { row := kindsAddsUptoRow, standIns := [], harness := (true, "9ea107d5e702dd7a728d7a65a4094f5d6f5bac373fd61dcb75489db7093f3376"), looks := true }, kinds := [], alts := [], laidByText := true, laidKinds := [.data, .data, .data, .sentinel, .sentinel], laidTests := true, laidLooks := .later }
def KindsAddsUptoCardSaid : Prop := Claim7.holds Tryz.pinned (.plain (OpenSpec.upto kindsAddsSpec)) kindsAddsUptoCard

/-- THE SECOND FORM's CARD OF 'cocoonlaw07.KindsMore'. -/
def kindsMoreUptoCard : Claim7 := { stood := { row := kindsMoreUptoRow, standIns := [], harness := (true, "9ea107d5e702dd7a728d7a65a4094f5d6f5bac373fd61dcb75489db7093f3376"), looks := true }, kinds := [], alts := [], laidByText := true, laidKinds := [.data, .data, .data, .sentinel, .sentinel], laidTests := true, laidLooks := .later }
def KindsMoreUptoCardSaid : Prop := Claim7.holds Tryz.pinned (.plain (OpenSpec.upto kindsMoreSpec)) kindsMoreUptoCard

/-- THE SECOND FORM's CARD OF 'cocoonlaw07.KindsOrder'. -/
def kindsOrderUptoCard : Claim7 := { stood := { row := kindsOrderUptoRow, standIns := [], harness := (true, "9ea107d5e702dd7a728d7a65a4094f5d6f5bac373fd61dcb75489db7093f3376"), looks := true }, kinds := [], alts := [], laidByText := true, laidKinds := [.data, .data, .data, .sentinel, .sentinel], laidTests := true, laidLooks := .later }
def KindsOrderUptoCardSaid : Prop := Claim7.holds Tryz.pinned (.plain (OpenSpec.upto kindsOrderSpec)) kindsOrderUptoCard

/-- THE SECOND FORM's CARD OF 'cocoonlaw07.KindsBox'. -/
def kindsBoxUptoCard : Claim7 := { stood := { row := kindsBoxUptoRow, standIns := [], harness := (true, "9ea107d5e702dd7a728d7a65a4094f5d6f5bac373fd61dcb75489db7093f3376"), looks := true }, kinds := [], alts := [], laidByText := true, laidKinds := [.data, .data, .data, .sentinel, .sentinel], laidTests := true, laidLooks := .later }
def KindsBoxUptoCardSaid : Prop := Claim7.holds Tryz.pinned (.plain (OpenSpec.upto kindsBoxSpec)) kindsBoxUptoCard

/-- THE SECOND FORM's CARD OF 'cocoonlaw08.CheckTexts'. -/
def checkTextsUptoCard : Claim7 := { stood := { row := checkTextsUptoRow, standIns := [], harness := (true, "9ea107d5e702dd7a728d7a65a4094f5d6f5bac373fd61dcb75489db7093f3376"), looks := true }, kinds := [], alts := [], laidByText := true, laidKinds := [.data, .data, .data, .sentinel, .sentinel], laidTests := true, laidLooks := .later }
def CheckTextsUptoCardSaid : Prop := Claim7.holds Tryz.pinned (.plain (OpenSpec.upto checkTextsSpec)) checkTextsUptoCard

/-- THE SECOND FORM's CARD OF 'cocoonlaw08.CheckMore'. -/
def checkMoreUptoCard : Claim7 := { stood := { row := checkMoreUptoRow, standIns := [], harness := (true, "9ea107d5e702dd7a728d7a65a4094f5d6f5bac373fd61dcb75489db7093f3376"), looks := true }, kinds := [], alts := [], laidByText := true, laidKinds := [.data, .data, .data, .sentinel, .sentinel], laidTests := true, laidLooks := .later }
def CheckMoreUptoCardSaid : Prop := Claim7.holds Tryz.pinned (.plain (OpenSpec.upto checkMoreSpec)) checkMoreUptoCard

/-- THE SECOND FORM's CARD OF 'cocoonlaw08.CheckUses'. -/
def checkUsesUptoCard : Claim7 := { stood := { row := checkUsesUptoRow, standIns := [], harness := (true, "9ea107d5e702dd7a728d7a65a4094f5d6f5bac373fd61dcb75489db7093f3376"), looks := true }, kinds := [], alts := [], laidByText := true, laidKinds := [.data, .data, .data, .sentinel, .sentinel], laidTests := true, laidLooks := .later }
def CheckUsesUptoCardSaid : Prop := Claim7.holds Tryz.pinned (.plain (OpenSpec.upto checkUsesSpec)) checkUsesUptoCard

/-- THE SECOND FORM's CARD OF 'cocoonlaw08.CheckEnds'. -/
def checkEndsUptoCard : Claim7 := { stood := { row := checkEndsUptoRow, standIns := [], harness := (true, "9ea107d5e702dd7a728d7a65a4094f5d6f5bac373fd61dcb75489db7093f3376"), looks := true }, kinds := [], alts := [], laidByText := true, laidKinds := [.data, .data, .data, .sentinel, .sentinel], laidTests := true, laidLooks := .later }
def CheckEndsUptoCardSaid : Prop := Claim7.holds Tryz.pinned (.plain (OpenSpec.upto checkEndsSpec)) checkEndsUptoCard
end Rows
end Go.Proofs.YtjoiflokekebkaaGreatDoor
