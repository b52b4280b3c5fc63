/- The card of ParseGlue: its closed facts, one by one. -/
import Derived.Test.YtjoiflokekebkaaGreatDoorCards
import Derived.ProofKit
import Derived.SevenTiedAt
set_option linter.all false
namespace Go.Proofs.YtjoiflokekebkaaGreatDoor.parseGlueDone
theorem goes : false = Rows.parseGlueRow.goesBy Tryz.pinned.checked.prog := by kernel_rfl
theorem wft : Rows.parseGlueRow.wfByText (OpenSpec.ofChange Rows.parseGlueSpec) = true := by kernel_rfl
theorem mainis : Tryz.pinned.checked.prog.mainIs = some (Rows.parseGlueCard.stood.harness.1, Rows.parseGlueCard.stood.harness.2.toList) := by kernel_rfl
theorem looks : Rows.parseGlueCard.stood.looks = Tryz.pinned.checked.prog.looks [] := by kernel_rfl
theorem fnum : Tryz.prog.funcNamed "cocoon/cocoonlaw06.ParseGlue" = some 6 := by kernel_rfl
end Go.Proofs.YtjoiflokekebkaaGreatDoor.parseGlueDone
