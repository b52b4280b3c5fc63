/- What the listed variables hold: the variable strconv.ErrRange; a start that fits. -/
import Derived.Test.YtjoiflokekebkaaGreatDoorRows
import Derived.Test.YtjoiflokekebkaaGreatDoorM1
import Derived.ProofKit
import Derived.LaidMore
import Derived.OpenShut
import Derived.Stop.Joined
import Derived.Stop.LaidErr
import Derived.MakeChecks
set_option linter.all false
namespace Go.Proofs.YtjoiflokekebkaaGreatDoor
open Go.ChangeShapes Go.WideShapes Go.ChangeAt Go.RowKit

theorem own : ownKnob Tryz.prog.godebug = none := by kernel_rfl
theorem laidOut : laidOutB Tryz.prog = true := by kernel_rfl
theorem gER : Tryz.prog.globalNamed "strconv.ErrRange" = some 2 := by kernel_rfl
theorem gERType : (Tryz.prog.globals[2]?).map (·.type) = some 188 := by kernel_rfl
theorem cellsErr : Tryz.prog.cellsOf 273 = 1 := by kernel_rfl
theorem cellsStr : Tryz.prog.cellsOf 9 = 1 := by kernel_rfl
theorem star : "*" ++ "errors.errorString" = "*errors.errorString" := by decide
theorem rowErr (u : TypeId) (h : Tryz.prog.typeName? 3 u = some "*errors.errorString") : u = 271 :=
  typeName_ptr_named (nm := "errors.errorString") (by rw [star]; kernel_rfl) (by kernel_rfl) (by decide) u (by rw [star]; exact h)

abbrev laidL := Rows.parseReadsRow.laid
theorem door_met (os : Os) (args : Array Value) : laidMetH Tryz.prog laidL ((World.doorLaid Tryz.prog 275 os).forCall (fun _ _ => 0) ⟨#[], args, []⟩).memory :=
  laidMetH_of_parts3 (fuel := 8) (laidMet_of_run' 8 (by kernel_rfl) (by kernel_rfl)) (by kernel_rfl) (by kernel_rfl)

theorem hasErr_of_laid {W : World} (h : laidMetH Tryz.prog laidL W) : HasErr W := by
  rw [MakeChecks.laidMetH_plain _ _ _ (by kernel_rfl)] at h
  obtain ⟨a1, s1, hv1, -, -, -⟩ := laid_sentinel (laidMet.tail (laidMet.tail (laidMet.tail h))) gER gERType Tryz.underlying188 rowErr Tryz.underlying271 Tryz.underlying273 rfl rfl Tryz.underlying9 cellsErr cellsStr
  have h0 := World.var?_cell gER hv1 0
  exact ⟨_, by simpa using h0, .inr ⟨_, _, rfl⟩⟩
end Go.Proofs.YtjoiflokekebkaaGreatDoor
