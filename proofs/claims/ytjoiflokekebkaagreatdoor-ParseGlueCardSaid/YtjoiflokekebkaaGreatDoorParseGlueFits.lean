/- The row of ParseGlue: its closed facts, one by one. -/
import Derived.Test.YtjoiflokekebkaaGreatDoorRows
import Derived.ProofKit
import Derived.JoinedOf
set_option linter.all false
namespace Go.Proofs.YtjoiflokekebkaaGreatDoor.parseGlueDone
theorem and_i {a b : Bool} (ha : a = true) (hb : b = true) : (a && b) = true := by rw [ha, hb]; rfl
theorem reach1 : (Rows.parseGlueRow.inPlace == Tryz.pinned.checked.prog.inPlace 6) = true := by kernel_rfl
theorem reach2 : (Rows.parseGlueRow.unfollowed == Tryz.pinned.checked.prog.unfollowed 6) = true := by kernel_rfl
theorem reach3 : (Rows.parseGlueRow.recurses == Tryz.pinned.checked.prog.recurses 6) = true := by kernel_rfl
theorem reach4 : (Rows.parseGlueRow.named == Tryz.pinned.checked.prog.varsNamed 6) = true := by kernel_rfl
theorem closed : joinedFacts Tryz.pinned.checked.prog 6 Tryz.f6 Rows.parseGlueSpec Rows.parseGlueRow = true := by
  unfold joinedFacts
  repeat' (with_reducible refine and_i ?_ ?_)
  all_goals first | with_reducible exact reach1 | with_reducible exact reach2 | with_reducible exact reach3 | with_reducible exact reach4 | kernel_rfl
theorem inst : Tryz.f6.isInstance Tryz.pinned.checked.prog Rows.parseGlueRow.origin Rows.parseGlueRow.targs := of_decide_eq_true (by kernel_rfl)
theorem wrap : Tryz.f6.isWrapper Tryz.pinned.checked.prog Rows.parseGlueRow.wrapper Rows.parseGlueRow.mainSum := by unfold Func.isWrapper; rw [if_neg (by decide +kernel)]; exact ⟨rfl, rfl⟩
theorem fnamed : Tryz.pinned.checked.prog.funcNamed Rows.parseGlueRow.func = some 6 := by kernel_rfl
end Go.Proofs.YtjoiflokekebkaaGreatDoor.parseGlueDone
