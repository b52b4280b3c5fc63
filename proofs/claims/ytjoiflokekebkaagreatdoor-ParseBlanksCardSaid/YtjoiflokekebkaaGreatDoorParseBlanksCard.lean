/- The card of ParseBlanks: its closed facts, one by one. -/
import Derived.Test.YtjoiflokekebkaaGreatDoorCards
import Derived.ProofKit
import Derived.SevenTiedAt
set_option linter.all false
namespace Go.Proofs.YtjoiflokekebkaaGreatDoor.parseBlanksDone
theorem goes : false = Rows.parseBlanksRow.goesBy Tryz.pinned.checked.prog := by kernel_rfl
theorem wft : Rows.parseBlanksRow.wfByText (OpenSpec.ofChange Rows.parseBlanksSpec) = true := by kernel_rfl
theorem mainis : Tryz.pinned.checked.prog.mainIs = some (Rows.parseBlanksCard.stood.harness.1, Rows.parseBlanksCard.stood.harness.2.toList) := by kernel_rfl
theorem looks : Rows.parseBlanksCard.stood.looks = Tryz.pinned.checked.prog.looks [] := by kernel_rfl
theorem fnum : Tryz.prog.funcNamed "cocoon/cocoonlaw06.ParseBlanks" = some 7 := by kernel_rfl
end Go.Proofs.YtjoiflokekebkaaGreatDoor.parseBlanksDone
