/- The row of ParseBlanks: its closed facts, one by one. -/
import Derived.Test.YtjoiflokekebkaaGreatDoorRows
import Derived.ProofKit
import Derived.JoinedOf
set_option linter.all false
namespace Go.Proofs.YtjoiflokekebkaaGreatDoor.parseBlanksDone
theorem and_i {a b : Bool} (ha : a = true) (hb : b = true) : (a && b) = true := by rw [ha, hb]; rfl
theorem reach1 : (Rows.parseBlanksRow.inPlace == Tryz.pinned.checked.prog.inPlace 7) = true := by kernel_rfl
theorem reach2 : (Rows.parseBlanksRow.unfollowed == Tryz.pinned.checked.prog.unfollowed 7) = true := by kernel_rfl
theorem reach3 : (Rows.parseBlanksRow.recurses == Tryz.pinned.checked.prog.recurses 7) = true := by kernel_rfl
theorem reach4 : (Rows.parseBlanksRow.named == Tryz.pinned.checked.prog.varsNamed 7) = true := by kernel_rfl
theorem closed : joinedFacts Tryz.pinned.checked.prog 7 Tryz.f7 Rows.parseBlanksSpec Rows.parseBlanksRow = true := by
  unfold joinedFacts
  repeat' (with_reducible refine and_i ?_ ?_)
  all_goals first | with_reducible exact reach1 | with_reducible exact reach2 | with_reducible exact reach3 | with_reducible exact reach4 | kernel_rfl
theorem inst : Tryz.f7.isInstance Tryz.pinned.checked.prog Rows.parseBlanksRow.origin Rows.parseBlanksRow.targs := of_decide_eq_true (by kernel_rfl)
theorem wrap : Tryz.f7.isWrapper Tryz.pinned.checked.prog Rows.parseBlanksRow.wrapper Rows.parseBlanksRow.mainSum := by unfold Func.isWrapper; rw [if_neg (by decide +kernel)]; exact ⟨rfl, rfl⟩
theorem fnamed : Tryz.pinned.checked.prog.funcNamed Rows.parseBlanksRow.func = some 7 := by kernel_rfl
end Go.Proofs.YtjoiflokekebkaaGreatDoor.parseBlanksDone
