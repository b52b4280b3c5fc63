-- Made by wip/tools/give.py of this repo out of Lean's print of the program; Lean checks it.
import Derived.Test.YthgnbeeobhfeaaaProg
import Derived.Below
import Derived.Deep.Draws
import Derived.Deep.AppendLies
import Derived.Maps.AppendAt
import Derived.OwnWalk
import Derived.Laws.BytesArg
import Derived.Laws.MakeOwn
import Derived.Laws.OwnMore
import Derived.Deep.OwnRows
import Derived.Tactics
import Derived.Lib.ConvBytes
import Derived.Laws.Slices
import Derived.WalkKit
import Derived.KernelRfl
import Derived.RowKit3
import Derived.Deep.LoopGhost
import Derived.Deep.QuietTactic
import Derived.BigQuiet
import Derived.WideLaws
import Derived.Deep.DeepCutAuto
import Derived.Deep.CutBlock
import Derived.Deep.RegionHeld3
import Derived.Laws.Rows
import Derived.Lib.AppendStr
import Derived.ArgAppend
import Derived.Laws.IdiomCopy
import Derived.OrdersHeld
import Derived.Laws.BitsLemmas
import Derived.RowKit
import Derived.Test.YthgnbeeobhfeaaaWWords
import Derived.Test.YthgnbeeobhfeaaaWLast
import Derived.Test.YthgnbeeobhfeaaaWTab
import Derived.Test.YthgnbeeobhfeaaaWQPut
import Derived.Test.YthgnbeeobhfeaaaWApart
import Derived.Test.YthgnbeeobhfeaaaWArr
import Derived.Test.YthgnbeeobhfeaaaWZeros
import Derived.Test.YthgnbeeobhfeaaaWFoot
import Derived.Test.YthgnbeeobhfeaaaWKept
import Derived.Test.YthgnbeeobhfeaaaWShare
import Derived.Test.YthgnbeeobhfeaaaWN
import Derived.Test.YthgnbeeobhfeaaaWFootNe
import Derived.Test.YthgnbeeobhfeaaaWEqStruct
import Derived.Test.YthgnbeeobhfeaaaWRepsOne
import Derived.Test.YthgnbeeobhfeaaaWInv
import Derived.Test.YthgnbeeobhfeaaaWInvWords
import Derived.Test.YthgnbeeobhfeaaaWGuard
import Derived.Test.YthgnbeeobhfeaaaWNEv
import Derived.Test.YthgnbeeobhfeaaaWMore
namespace Go.Proofs.Ythgnbeeobhfeaaa.T
open Go.RowKit Go.Proofs.YthgnbeeobhfeaaaW.PrintWords Go.Proofs.YthgnbeeobhfeaaaW.PrintLast Go.Proofs.YthgnbeeobhfeaaaW.PrintMore
attribute [local go_sem] max2_int min2_int max_two min_two max_three min_three max_four min_four   -- for this text's walks alone
set_option linter.unusedVariables false
set_option linter.unusedSimpArgs false



def errW : Option Int → Value
  | none => .nilIface
  | some c => .iface 0 (.int .i64 c)
theorem errW_none : errW none = .nilIface := rfl
theorem errW_some (c : Int) : errW (some c) = .iface 0 (.int .i64 c) := rfl

theorem info3 : (Try.prog.info? 3).map (fun i => (i.zero, i.size, i.bytes)) = some (some (.int .i64 0), 1, 8) := by kernel_rfl
theorem info4 : (Try.prog.info? 4).map (fun i => (i.zero, i.size, i.bytes)) = some (some (.bool false), 1, 1) := by kernel_rfl
theorem info42 : (Try.prog.info? 42).map (fun i => (i.zero, i.size, i.bytes)) = some (some (.slice none 0 0), 1, 24) := by kernel_rfl
theorem info44 : (Try.prog.info? 44).map (fun i => (i.zero, i.size, i.bytes)) = some (some (.slice none 0 0), 1, 24) := by kernel_rfl
theorem info66 : (Try.prog.info? 66).map (fun i => (i.zero, i.size, i.bytes)) = some (some (.agg #[(.int .i64 0), (.int .i64 0), (.slice none 0 0), (.slice none 0 0)]), 4, 64) := by kernel_rfl
theorem info90 : (Try.prog.info? 90).map (fun i => (i.zero, i.size, i.bytes)) = some (some (.agg #[(.int .i64 0), (.int .i64 0), (.slice none 0 0), (.slice none 0 0)]), 4, 64) := by kernel_rfl
-- the values' own types
/-! #### struct type 140, nested in itself -/
structure S140 where
  f0 : Int
  f1 : ByteArray
  f2 : (List S140)
/-! #### struct type 142 -/
structure S142 where
  f0 : ByteArray
  f1 : S140
/-! #### struct type 48 -/
structure S48 where
  f0 : Int
  f1 : (List Int)
def z48 : S48 := ⟨(0 : Int), ([] : List Int)⟩
def k48 : Kd S48 := Kd.iso (Kd.pair (Kd.int .i64) (Kd.slice 3 (Kd.int .i64))) (fun x : S48 => (x.f0, x.f1))
theorem k48_open {w : World} {x : S48} {cs : List Value} (h : k48.K w x cs) : ∃ A1 c1, cs = [.int .i64 x.f0, .slice A1 x.f1.length c1] ∧ x.f1.length ≤ c1 ∧ (Kd.int .i64).C w A1 x.f1.length x.f1 := by
  obtain ⟨_, _, rfl, rfl, ⟨A1, c1, rfl, l1, g1⟩⟩ := h
  exact ⟨A1, c1, rfl, l1, g1⟩
theorem k48_mk (w : World) (x : S48) {A1 : Option Addr} {c1 : Nat} (l1 : x.f1.length ≤ c1) (g1 : (Kd.int .i64).C w A1 x.f1.length x.f1) : k48.K w x [.int .i64 x.f0, .slice A1 x.f1.length c1] := ⟨[.int .i64 x.f0], [.slice A1 x.f1.length c1], rfl, rfl, ⟨A1, c1, rfl, l1, g1⟩⟩
/-! #### struct type 54 -/
structure S54 where
  f0 : Bool
  f1 : Int
  f2 : Bool
  f3 : S48
def z54 : S54 := ⟨false, (0 : Int), false, z48⟩
def k54 : Kd S54 := Kd.iso (Kd.pair Kd.bool (Kd.pair (Kd.int .i64) (Kd.pair Kd.bool k48))) (fun x : S54 => (x.f0, x.f1, x.f2, x.f3))
theorem k54_open {w : World} {x : S54} {cs : List Value} (h : k54.K w x cs) : ∃ A4 c4, cs = [.bool x.f0, .int .i64 x.f1, .bool x.f2, .int .i64 x.f3.f0, .slice A4 x.f3.f1.length c4] ∧ x.f3.f1.length ≤ c4 ∧ (Kd.int .i64).C w A4 x.f3.f1.length x.f3.f1 := by
  obtain ⟨_, _, rfl, rfl, ⟨_, _, rfl, rfl, ⟨_, _, rfl, rfl, s3⟩⟩⟩ := h
  obtain ⟨A4, c4, rfl, l4, g4⟩ := k48_open s3
  exact ⟨A4, c4, rfl, l4, g4⟩
theorem k54_mk (w : World) (x : S54) {A4 : Option Addr} {c4 : Nat} (l4 : x.f3.f1.length ≤ c4) (g4 : (Kd.int .i64).C w A4 x.f3.f1.length x.f3.f1) : k54.K w x [.bool x.f0, .int .i64 x.f1, .bool x.f2, .int .i64 x.f3.f0, .slice A4 x.f3.f1.length c4] := ⟨[.bool x.f0], [.int .i64 x.f1, .bool x.f2, .int .i64 x.f3.f0, .slice A4 x.f3.f1.length c4], rfl, rfl, ⟨[.int .i64 x.f1], [.bool x.f2, .int .i64 x.f3.f0, .slice A4 x.f3.f1.length c4], rfl, rfl, ⟨[.bool x.f2], [.int .i64 x.f3.f0, .slice A4 x.f3.f1.length c4], rfl, rfl, (k48_mk w x.f3 l4 g4)⟩⟩⟩
/-! #### struct type 52 -/
structure S52 where
  f0 : Int
  f1 : (List S54)
  f2 : S48
  f3 : Int
  f4 : Int
def z52 : S52 := ⟨(0 : Int), ([] : List S54), z48, (0 : Int), (0 : Int)⟩
def k52 : Kd S52 := Kd.iso (Kd.pair (Kd.int .i64) (Kd.pair (Kd.slice 54 k54) (Kd.pair k48 (Kd.pair (Kd.int .i64) (Kd.int .i64))))) (fun x : S52 => (x.f0, x.f1, x.f2, x.f3, x.f4))
theorem k52_open {w : World} {x : S52} {cs : List Value} (h : k52.K w x cs) : ∃ A1 c1 A3 c3, cs = [.int .i64 x.f0, .slice A1 x.f1.length c1, .int .i64 x.f2.f0, .slice A3 x.f2.f1.length c3, .int .i64 x.f3, .int .i64 x.f4] ∧ x.f1.length ≤ c1 ∧ k54.C w A1 x.f1.length x.f1 ∧ x.f2.f1.length ≤ c3 ∧ (Kd.int .i64).C w A3 x.f2.f1.length x.f2.f1 := by
  obtain ⟨_, _, rfl, rfl, ⟨_, _, rfl, ⟨A1, c1, rfl, l1, g1⟩, ⟨_, _, rfl, s2, ⟨_, _, rfl, rfl, rfl⟩⟩⟩⟩ := h
  obtain ⟨A3, c3, rfl, l3, g3⟩ := k48_open s2
  exact ⟨A1, c1, A3, c3, rfl, l1, g1, l3, g3⟩
theorem k52_mk (w : World) (x : S52) {A1 : Option Addr} {c1 : Nat} (l1 : x.f1.length ≤ c1) (g1 : k54.C w A1 x.f1.length x.f1) {A3 : Option Addr} {c3 : Nat} (l3 : x.f2.f1.length ≤ c3) (g3 : (Kd.int .i64).C w A3 x.f2.f1.length x.f2.f1) : k52.K w x [.int .i64 x.f0, .slice A1 x.f1.length c1, .int .i64 x.f2.f0, .slice A3 x.f2.f1.length c3, .int .i64 x.f3, .int .i64 x.f4] := ⟨[.int .i64 x.f0], [.slice A1 x.f1.length c1, .int .i64 x.f2.f0, .slice A3 x.f2.f1.length c3, .int .i64 x.f3, .int .i64 x.f4], rfl, rfl, ⟨[.slice A1 x.f1.length c1], [.int .i64 x.f2.f0, .slice A3 x.f2.f1.length c3, .int .i64 x.f3, .int .i64 x.f4], rfl, ⟨A1, c1, rfl, l1, g1⟩, ⟨[.int .i64 x.f2.f0, .slice A3 x.f2.f1.length c3], [.int .i64 x.f3, .int .i64 x.f4], rfl, (k48_mk w x.f2 l3 g3), ⟨[.int .i64 x.f3], [.int .i64 x.f4], rfl, rfl, rfl⟩⟩⟩⟩
/-! #### struct type 71 -/
structure S71 where
  f0 : Int
  f1 : Int
  f2 : S48
  f3 : S52
  f4 : S54
def z71 : S71 := ⟨(0 : Int), (0 : Int), z48, z52, z54⟩
def k71 : Kd S71 := Kd.iso (Kd.pair (Kd.int .i64) (Kd.pair (Kd.int .i64) (Kd.pair k48 (Kd.pair k52 k54)))) (fun x : S71 => (x.f0, x.f1, x.f2, x.f3, x.f4))
theorem k71_mk (w : World) (x : S71) {A3 : Option Addr} {c3 : Nat} (l3 : x.f2.f1.length ≤ c3) (g3 : (Kd.int .i64).C w A3 x.f2.f1.length x.f2.f1) {A5 : Option Addr} {c5 : Nat} (l5 : x.f3.f1.length ≤ c5) (g5 : k54.C w A5 x.f3.f1.length x.f3.f1) {A7 : Option Addr} {c7 : Nat} (l7 : x.f3.f2.f1.length ≤ c7) (g7 : (Kd.int .i64).C w A7 x.f3.f2.f1.length x.f3.f2.f1) {A14 : Option Addr} {c14 : Nat} (l14 : x.f4.f3.f1.length ≤ c14) (g14 : (Kd.int .i64).C w A14 x.f4.f3.f1.length x.f4.f3.f1) : k71.K w x [.int .i64 x.f0, .int .i64 x.f1, .int .i64 x.f2.f0, .slice A3 x.f2.f1.length c3, .int .i64 x.f3.f0, .slice A5 x.f3.f1.length c5, .int .i64 x.f3.f2.f0, .slice A7 x.f3.f2.f1.length c7, .int .i64 x.f3.f3, .int .i64 x.f3.f4, .bool x.f4.f0, .int .i64 x.f4.f1, .bool x.f4.f2, .int .i64 x.f4.f3.f0, .slice A14 x.f4.f3.f1.length c14] := ⟨[.int .i64 x.f0], [.int .i64 x.f1, .int .i64 x.f2.f0, .slice A3 x.f2.f1.length c3, .int .i64 x.f3.f0, .slice A5 x.f3.f1.length c5, .int .i64 x.f3.f2.f0, .slice A7 x.f3.f2.f1.length c7, .int .i64 x.f3.f3, .int .i64 x.f3.f4, .bool x.f4.f0, .int .i64 x.f4.f1, .bool x.f4.f2, .int .i64 x.f4.f3.f0, .slice A14 x.f4.f3.f1.length c14], rfl, rfl, ⟨[.int .i64 x.f1], [.int .i64 x.f2.f0, .slice A3 x.f2.f1.length c3, .int .i64 x.f3.f0, .slice A5 x.f3.f1.length c5, .int .i64 x.f3.f2.f0, .slice A7 x.f3.f2.f1.length c7, .int .i64 x.f3.f3, .int .i64 x.f3.f4, .bool x.f4.f0, .int .i64 x.f4.f1, .bool x.f4.f2, .int .i64 x.f4.f3.f0, .slice A14 x.f4.f3.f1.length c14], rfl, rfl, ⟨[.int .i64 x.f2.f0, .slice A3 x.f2.f1.length c3], [.int .i64 x.f3.f0, .slice A5 x.f3.f1.length c5, .int .i64 x.f3.f2.f0, .slice A7 x.f3.f2.f1.length c7, .int .i64 x.f3.f3, .int .i64 x.f3.f4, .bool x.f4.f0, .int .i64 x.f4.f1, .bool x.f4.f2, .int .i64 x.f4.f3.f0, .slice A14 x.f4.f3.f1.length c14], rfl, (k48_mk w x.f2 l3 g3), ⟨[.int .i64 x.f3.f0, .slice A5 x.f3.f1.length c5, .int .i64 x.f3.f2.f0, .slice A7 x.f3.f2.f1.length c7, .int .i64 x.f3.f3, .int .i64 x.f3.f4], [.bool x.f4.f0, .int .i64 x.f4.f1, .bool x.f4.f2, .int .i64 x.f4.f3.f0, .slice A14 x.f4.f3.f1.length c14], rfl, (k52_mk w x.f3 l5 g5 l7 g7), (k54_mk w x.f4 l14 g14)⟩⟩⟩⟩
/-! #### struct type 56 -/
structure S56 where
  f0 : Int
  f1 : Int
  f2 : S48
  f3 : S52
  f4 : S54
  f5 : (List Int)
def z56 : S56 := ⟨(0 : Int), (0 : Int), z48, z52, z54, ([] : List Int)⟩
def k56 : Kd S56 := Kd.iso (Kd.pair (Kd.int .i64) (Kd.pair (Kd.int .i64) (Kd.pair k48 (Kd.pair k52 (Kd.pair k54 (Kd.slice 3 (Kd.int .i64))))))) (fun x : S56 => (x.f0, x.f1, x.f2, x.f3, x.f4, x.f5))
theorem k56_open {w : World} {x : S56} {cs : List Value} (h : k56.K w x cs) : ∃ A3 c3 A5 c5 A7 c7 A14 c14 A15 c15, cs = [.int .i64 x.f0, .int .i64 x.f1, .int .i64 x.f2.f0, .slice A3 x.f2.f1.length c3, .int .i64 x.f3.f0, .slice A5 x.f3.f1.length c5, .int .i64 x.f3.f2.f0, .slice A7 x.f3.f2.f1.length c7, .int .i64 x.f3.f3, .int .i64 x.f3.f4, .bool x.f4.f0, .int .i64 x.f4.f1, .bool x.f4.f2, .int .i64 x.f4.f3.f0, .slice A14 x.f4.f3.f1.length c14, .slice A15 x.f5.length c15] ∧ x.f2.f1.length ≤ c3 ∧ (Kd.int .i64).C w A3 x.f2.f1.length x.f2.f1 ∧ x.f3.f1.length ≤ c5 ∧ k54.C w A5 x.f3.f1.length x.f3.f1 ∧ x.f3.f2.f1.length ≤ c7 ∧ (Kd.int .i64).C w A7 x.f3.f2.f1.length x.f3.f2.f1 ∧ x.f4.f3.f1.length ≤ c14 ∧ (Kd.int .i64).C w A14 x.f4.f3.f1.length x.f4.f3.f1 ∧ x.f5.length ≤ c15 ∧ (Kd.int .i64).C w A15 x.f5.length x.f5 := by
  obtain ⟨_, _, rfl, rfl, ⟨_, _, rfl, rfl, ⟨_, _, rfl, s2, ⟨_, _, rfl, s4, ⟨_, _, rfl, s10, ⟨A15, c15, rfl, l15, g15⟩⟩⟩⟩⟩⟩ := h
  obtain ⟨A3, c3, rfl, l3, g3⟩ := k48_open s2
  obtain ⟨A5, c5, A7, c7, rfl, l5, g5, l7, g7⟩ := k52_open s4
  obtain ⟨A14, c14, rfl, l14, g14⟩ := k54_open s10
  exact ⟨A3, c3, A5, c5, A7, c7, A14, c14, A15, c15, rfl, l3, g3, l5, g5, l7, g7, l14, g14, l15, g15⟩
theorem k56_mk (w : World) (x : S56) {A3 : Option Addr} {c3 : Nat} (l3 : x.f2.f1.length ≤ c3) (g3 : (Kd.int .i64).C w A3 x.f2.f1.length x.f2.f1) {A5 : Option Addr} {c5 : Nat} (l5 : x.f3.f1.length ≤ c5) (g5 : k54.C w A5 x.f3.f1.length x.f3.f1) {A7 : Option Addr} {c7 : Nat} (l7 : x.f3.f2.f1.length ≤ c7) (g7 : (Kd.int .i64).C w A7 x.f3.f2.f1.length x.f3.f2.f1) {A14 : Option Addr} {c14 : Nat} (l14 : x.f4.f3.f1.length ≤ c14) (g14 : (Kd.int .i64).C w A14 x.f4.f3.f1.length x.f4.f3.f1) {A15 : Option Addr} {c15 : Nat} (l15 : x.f5.length ≤ c15) (g15 : (Kd.int .i64).C w A15 x.f5.length x.f5) : k56.K w x [.int .i64 x.f0, .int .i64 x.f1, .int .i64 x.f2.f0, .slice A3 x.f2.f1.length c3, .int .i64 x.f3.f0, .slice A5 x.f3.f1.length c5, .int .i64 x.f3.f2.f0, .slice A7 x.f3.f2.f1.length c7, .int .i64 x.f3.f3, .int .i64 x.f3.f4, .bool x.f4.f0, .int .i64 x.f4.f1, .bool x.f4.f2, .int .i64 x.f4.f3.f0, .slice A14 x.f4.f3.f1.length c14, .slice A15 x.f5.length c15] := ⟨[.int .i64 x.f0], [.int .i64 x.f1, .int .i64 x.f2.f0, .slice A3 x.f2.f1.length c3, .int .i64 x.f3.f0, .slice A5 x.f3.f1.length c5, .int .i64 x.f3.f2.f0, .slice A7 x.f3.f2.f1.length c7, .int .i64 x.f3.f3, .int .i64 x.f3.f4, .bool x.f4.f0, .int .i64 x.f4.f1, .bool x.f4.f2, .int .i64 x.f4.f3.f0, .slice A14 x.f4.f3.f1.length c14, .slice A15 x.f5.length c15], rfl, rfl, ⟨[.int .i64 x.f1], [.int .i64 x.f2.f0, .slice A3 x.f2.f1.length c3, .int .i64 x.f3.f0, .slice A5 x.f3.f1.length c5, .int .i64 x.f3.f2.f0, .slice A7 x.f3.f2.f1.length c7, .int .i64 x.f3.f3, .int .i64 x.f3.f4, .bool x.f4.f0, .int .i64 x.f4.f1, .bool x.f4.f2, .int .i64 x.f4.f3.f0, .slice A14 x.f4.f3.f1.length c14, .slice A15 x.f5.length c15], rfl, rfl, ⟨[.int .i64 x.f2.f0, .slice A3 x.f2.f1.length c3], [.int .i64 x.f3.f0, .slice A5 x.f3.f1.length c5, .int .i64 x.f3.f2.f0, .slice A7 x.f3.f2.f1.length c7, .int .i64 x.f3.f3, .int .i64 x.f3.f4, .bool x.f4.f0, .int .i64 x.f4.f1, .bool x.f4.f2, .int .i64 x.f4.f3.f0, .slice A14 x.f4.f3.f1.length c14, .slice A15 x.f5.length c15], rfl, (k48_mk w x.f2 l3 g3), ⟨[.int .i64 x.f3.f0, .slice A5 x.f3.f1.length c5, .int .i64 x.f3.f2.f0, .slice A7 x.f3.f2.f1.length c7, .int .i64 x.f3.f3, .int .i64 x.f3.f4], [.bool x.f4.f0, .int .i64 x.f4.f1, .bool x.f4.f2, .int .i64 x.f4.f3.f0, .slice A14 x.f4.f3.f1.length c14, .slice A15 x.f5.length c15], rfl, (k52_mk w x.f3 l5 g5 l7 g7), ⟨[.bool x.f4.f0, .int .i64 x.f4.f1, .bool x.f4.f2, .int .i64 x.f4.f3.f0, .slice A14 x.f4.f3.f1.length c14], [.slice A15 x.f5.length c15], rfl, (k54_mk w x.f4 l14 g14), ⟨A15, c15, rfl, l15, g15⟩⟩⟩⟩⟩⟩
/-! #### struct type 58 -/
structure S58 where
  f0 : (List S71)
  f1 : S56
def z58 : S58 := ⟨([] : List S71), z56⟩
def k58 : Kd S58 := Kd.iso (Kd.pair (Kd.slice 71 k71) k56) (fun x : S58 => (x.f0, x.f1))
theorem k58_open {w : World} {x : S58} {cs : List Value} (h : k58.K w x cs) : ∃ A0 c0 A4 c4 A6 c6 A8 c8 A15 c15 A16 c16, cs = [.slice A0 x.f0.length c0, .int .i64 x.f1.f0, .int .i64 x.f1.f1, .int .i64 x.f1.f2.f0, .slice A4 x.f1.f2.f1.length c4, .int .i64 x.f1.f3.f0, .slice A6 x.f1.f3.f1.length c6, .int .i64 x.f1.f3.f2.f0, .slice A8 x.f1.f3.f2.f1.length c8, .int .i64 x.f1.f3.f3, .int .i64 x.f1.f3.f4, .bool x.f1.f4.f0, .int .i64 x.f1.f4.f1, .bool x.f1.f4.f2, .int .i64 x.f1.f4.f3.f0, .slice A15 x.f1.f4.f3.f1.length c15, .slice A16 x.f1.f5.length c16] ∧ x.f0.length ≤ c0 ∧ k71.C w A0 x.f0.length x.f0 ∧ x.f1.f2.f1.length ≤ c4 ∧ (Kd.int .i64).C w A4 x.f1.f2.f1.length x.f1.f2.f1 ∧ x.f1.f3.f1.length ≤ c6 ∧ k54.C w A6 x.f1.f3.f1.length x.f1.f3.f1 ∧ x.f1.f3.f2.f1.length ≤ c8 ∧ (Kd.int .i64).C w A8 x.f1.f3.f2.f1.length x.f1.f3.f2.f1 ∧ x.f1.f4.f3.f1.length ≤ c15 ∧ (Kd.int .i64).C w A15 x.f1.f4.f3.f1.length x.f1.f4.f3.f1 ∧ x.f1.f5.length ≤ c16 ∧ (Kd.int .i64).C w A16 x.f1.f5.length x.f1.f5 := by
  obtain ⟨_, _, rfl, ⟨A0, c0, rfl, l0, g0⟩, s1⟩ := h
  obtain ⟨A4, c4, A6, c6, A8, c8, A15, c15, A16, c16, rfl, l4, g4, l6, g6, l8, g8, l15, g15, l16, g16⟩ := k56_open s1
  exact ⟨A0, c0, A4, c4, A6, c6, A8, c8, A15, c15, A16, c16, rfl, l0, g0, l4, g4, l6, g6, l8, g8, l15, g15, l16, g16⟩
theorem k58_mk (w : World) (x : S58) {A0 : Option Addr} {c0 : Nat} (l0 : x.f0.length ≤ c0) (g0 : k71.C w A0 x.f0.length x.f0) {A4 : Option Addr} {c4 : Nat} (l4 : x.f1.f2.f1.length ≤ c4) (g4 : (Kd.int .i64).C w A4 x.f1.f2.f1.length x.f1.f2.f1) {A6 : Option Addr} {c6 : Nat} (l6 : x.f1.f3.f1.length ≤ c6) (g6 : k54.C w A6 x.f1.f3.f1.length x.f1.f3.f1) {A8 : Option Addr} {c8 : Nat} (l8 : x.f1.f3.f2.f1.length ≤ c8) (g8 : (Kd.int .i64).C w A8 x.f1.f3.f2.f1.length x.f1.f3.f2.f1) {A15 : Option Addr} {c15 : Nat} (l15 : x.f1.f4.f3.f1.length ≤ c15) (g15 : (Kd.int .i64).C w A15 x.f1.f4.f3.f1.length x.f1.f4.f3.f1) {A16 : Option Addr} {c16 : Nat} (l16 : x.f1.f5.length ≤ c16) (g16 : (Kd.int .i64).C w A16 x.f1.f5.length x.f1.f5) : k58.K w x [.slice A0 x.f0.length c0, .int .i64 x.f1.f0, .int .i64 x.f1.f1, .int .i64 x.f1.f2.f0, .slice A4 x.f1.f2.f1.length c4, .int .i64 x.f1.f3.f0, .slice A6 x.f1.f3.f1.length c6, .int .i64 x.f1.f3.f2.f0, .slice A8 x.f1.f3.f2.f1.length c8, .int .i64 x.f1.f3.f3, .int .i64 x.f1.f3.f4, .bool x.f1.f4.f0, .int .i64 x.f1.f4.f1, .bool x.f1.f4.f2, .int .i64 x.f1.f4.f3.f0, .slice A15 x.f1.f4.f3.f1.length c15, .slice A16 x.f1.f5.length c16] := ⟨[.slice A0 x.f0.length c0], [.int .i64 x.f1.f0, .int .i64 x.f1.f1, .int .i64 x.f1.f2.f0, .slice A4 x.f1.f2.f1.length c4, .int .i64 x.f1.f3.f0, .slice A6 x.f1.f3.f1.length c6, .int .i64 x.f1.f3.f2.f0, .slice A8 x.f1.f3.f2.f1.length c8, .int .i64 x.f1.f3.f3, .int .i64 x.f1.f3.f4, .bool x.f1.f4.f0, .int .i64 x.f1.f4.f1, .bool x.f1.f4.f2, .int .i64 x.f1.f4.f3.f0, .slice A15 x.f1.f4.f3.f1.length c15, .slice A16 x.f1.f5.length c16], rfl, ⟨A0, c0, rfl, l0, g0⟩, (k56_mk w x.f1 l4 g4 l6 g6 l8 g8 l15 g15 l16 g16)⟩
def rd_T58 (xs : List S58) (i : Int) : S58 := xs.getD i.toNat z58
theorem at_T58 {w : World} {A : Option Addr} {n : Nat} {xs : List S58} (h : Kd.C k58 w A n xs) (i : Int) (h0 : 0 ≤ i) (h1 : i < n) : ∃ ad A0 c0 A4 c4 A6 c6 A8 c8 A15 c15 A16 c16, A = some ad ∧ w.cell? (ad.add (i.toNat * 17)) = some (.slice A0 (rd_T58 xs i).f0.length c0) ∧ w.cell? ⟨(ad.add (i.toNat * 17)).block, (ad.add (i.toNat * 17)).off + 1, none⟩ = some (.int .i64 (rd_T58 xs i).f1.f0) ∧ w.cell? ⟨(ad.add (i.toNat * 17)).block, (ad.add (i.toNat * 17)).off + 2, none⟩ = some (.int .i64 (rd_T58 xs i).f1.f1) ∧ w.cell? ⟨(ad.add (i.toNat * 17)).block, (ad.add (i.toNat * 17)).off + 3, none⟩ = some (.int .i64 (rd_T58 xs i).f1.f2.f0) ∧ w.cell? ⟨(ad.add (i.toNat * 17)).block, (ad.add (i.toNat * 17)).off + 4, none⟩ = some (.slice A4 (rd_T58 xs i).f1.f2.f1.length c4) ∧ w.cell? ⟨(ad.add (i.toNat * 17)).block, (ad.add (i.toNat * 17)).off + 5, none⟩ = some (.int .i64 (rd_T58 xs i).f1.f3.f0) ∧ w.cell? ⟨(ad.add (i.toNat * 17)).block, (ad.add (i.toNat * 17)).off + 6, none⟩ = some (.slice A6 (rd_T58 xs i).f1.f3.f1.length c6) ∧ w.cell? ⟨(ad.add (i.toNat * 17)).block, (ad.add (i.toNat * 17)).off + 7, none⟩ = some (.int .i64 (rd_T58 xs i).f1.f3.f2.f0) ∧ w.cell? ⟨(ad.add (i.toNat * 17)).block, (ad.add (i.toNat * 17)).off + 8, none⟩ = some (.slice A8 (rd_T58 xs i).f1.f3.f2.f1.length c8) ∧ w.cell? ⟨(ad.add (i.toNat * 17)).block, (ad.add (i.toNat * 17)).off + 9, none⟩ = some (.int .i64 (rd_T58 xs i).f1.f3.f3) ∧ w.cell? ⟨(ad.add (i.toNat * 17)).block, (ad.add (i.toNat * 17)).off + 10, none⟩ = some (.int .i64 (rd_T58 xs i).f1.f3.f4) ∧ w.cell? ⟨(ad.add (i.toNat * 17)).block, (ad.add (i.toNat * 17)).off + 11, none⟩ = some (.bool (rd_T58 xs i).f1.f4.f0) ∧ w.cell? ⟨(ad.add (i.toNat * 17)).block, (ad.add (i.toNat * 17)).off + 12, none⟩ = some (.int .i64 (rd_T58 xs i).f1.f4.f1) ∧ w.cell? ⟨(ad.add (i.toNat * 17)).block, (ad.add (i.toNat * 17)).off + 13, none⟩ = some (.bool (rd_T58 xs i).f1.f4.f2) ∧ w.cell? ⟨(ad.add (i.toNat * 17)).block, (ad.add (i.toNat * 17)).off + 14, none⟩ = some (.int .i64 (rd_T58 xs i).f1.f4.f3.f0) ∧ w.cell? ⟨(ad.add (i.toNat * 17)).block, (ad.add (i.toNat * 17)).off + 15, none⟩ = some (.slice A15 (rd_T58 xs i).f1.f4.f3.f1.length c15) ∧ w.cell? ⟨(ad.add (i.toNat * 17)).block, (ad.add (i.toNat * 17)).off + 16, none⟩ = some (.slice A16 (rd_T58 xs i).f1.f5.length c16) ∧ (rd_T58 xs i).f0.length ≤ c0 ∧ k71.C w A0 (rd_T58 xs i).f0.length (rd_T58 xs i).f0 ∧ (rd_T58 xs i).f1.f2.f1.length ≤ c4 ∧ (Kd.int .i64).C w A4 (rd_T58 xs i).f1.f2.f1.length (rd_T58 xs i).f1.f2.f1 ∧ (rd_T58 xs i).f1.f3.f1.length ≤ c6 ∧ k54.C w A6 (rd_T58 xs i).f1.f3.f1.length (rd_T58 xs i).f1.f3.f1 ∧ (rd_T58 xs i).f1.f3.f2.f1.length ≤ c8 ∧ (Kd.int .i64).C w A8 (rd_T58 xs i).f1.f3.f2.f1.length (rd_T58 xs i).f1.f3.f2.f1 ∧ (rd_T58 xs i).f1.f4.f3.f1.length ≤ c15 ∧ (Kd.int .i64).C w A15 (rd_T58 xs i).f1.f4.f3.f1.length (rd_T58 xs i).f1.f4.f3.f1 ∧ (rd_T58 xs i).f1.f5.length ≤ c16 ∧ (Kd.int .i64).C w A16 (rd_T58 xs i).f1.f5.length (rd_T58 xs i).f1.f5 := by
  obtain ⟨ad, c, e, _, hK, hc0⟩ := Kd.C_get h z58 i h0 h1
  have hc : ∀ j u, c[j]? = some u → w.cell? (ad.add (i.toNat * 17 + j)) = some u := hc0
  obtain ⟨A0, c0, A4, c4, A6, c6, A8, c8, A15, c15, A16, c16, rfl, l0, g0, l4, g4, l6, g6, l8, g8, l15, g15, l16, g16⟩ := k58_open hK
  exact ⟨ad, A0, c0, A4, c4, A6, c6, A8, c8, A15, c15, A16, c16, e, hc 0 _ rfl, by rw [← add_field _ _ 1 (by omega)]; exact hc 1 _ rfl, by rw [← add_field _ _ 2 (by omega)]; exact hc 2 _ rfl, by rw [← add_field _ _ 3 (by omega)]; exact hc 3 _ rfl, by rw [← add_field _ _ 4 (by omega)]; exact hc 4 _ rfl, by rw [← add_field _ _ 5 (by omega)]; exact hc 5 _ rfl, by rw [← add_field _ _ 6 (by omega)]; exact hc 6 _ rfl, by rw [← add_field _ _ 7 (by omega)]; exact hc 7 _ rfl, by rw [← add_field _ _ 8 (by omega)]; exact hc 8 _ rfl, by rw [← add_field _ _ 9 (by omega)]; exact hc 9 _ rfl, by rw [← add_field _ _ 10 (by omega)]; exact hc 10 _ rfl, by rw [← add_field _ _ 11 (by omega)]; exact hc 11 _ rfl, by rw [← add_field _ _ 12 (by omega)]; exact hc 12 _ rfl, by rw [← add_field _ _ 13 (by omega)]; exact hc 13 _ rfl, by rw [← add_field _ _ 14 (by omega)]; exact hc 14 _ rfl, by rw [← add_field _ _ 15 (by omega)]; exact hc 15 _ rfl, by rw [← add_field _ _ 16 (by omega)]; exact hc 16 _ rfl, l0, g0, l4, g4, l6, g6, l8, g8, l15, g15, l16, g16⟩

/-! #### struct type 66 -/
structure S66 where
  f0 : Int
  f1 : Int
  f2 : (List Int)
  f3 : (List Int)
def z66 : S66 := ⟨(0 : Int), (0 : Int), ([] : List Int), ([] : List Int)⟩
def k66 : Kd S66 := Kd.iso (Kd.pair (Kd.int .i64) (Kd.pair (Kd.int .i64) (Kd.pair (Kd.slice 3 (Kd.int .i64)) (Kd.slice 3 (Kd.int .i64))))) (fun x : S66 => (x.f0, x.f1, x.f2, x.f3))
theorem k66_open {w : World} {x : S66} {cs : List Value} (h : k66.K w x cs) : ∃ A2 c2 A3 c3, cs = [.int .i64 x.f0, .int .i64 x.f1, .slice A2 x.f2.length c2, .slice A3 x.f3.length c3] ∧ x.f2.length ≤ c2 ∧ (Kd.int .i64).C w A2 x.f2.length x.f2 ∧ x.f3.length ≤ c3 ∧ (Kd.int .i64).C w A3 x.f3.length x.f3 := by
  obtain ⟨_, _, rfl, rfl, ⟨_, _, rfl, rfl, ⟨_, _, rfl, ⟨A2, c2, rfl, l2, g2⟩, ⟨A3, c3, rfl, l3, g3⟩⟩⟩⟩ := h
  exact ⟨A2, c2, A3, c3, rfl, l2, g2, l3, g3⟩
theorem k66_mk (w : World) (x : S66) {A2 : Option Addr} {c2 : Nat} (l2 : x.f2.length ≤ c2) (g2 : (Kd.int .i64).C w A2 x.f2.length x.f2) {A3 : Option Addr} {c3 : Nat} (l3 : x.f3.length ≤ c3) (g3 : (Kd.int .i64).C w A3 x.f3.length x.f3) : k66.K w x [.int .i64 x.f0, .int .i64 x.f1, .slice A2 x.f2.length c2, .slice A3 x.f3.length c3] := ⟨[.int .i64 x.f0], [.int .i64 x.f1, .slice A2 x.f2.length c2, .slice A3 x.f3.length c3], rfl, rfl, ⟨[.int .i64 x.f1], [.slice A2 x.f2.length c2, .slice A3 x.f3.length c3], rfl, rfl, ⟨[.slice A2 x.f2.length c2], [.slice A3 x.f3.length c3], rfl, ⟨A2, c2, rfl, l2, g2⟩, ⟨A3, c3, rfl, l3, g3⟩⟩⟩⟩
def rd_T66 (xs : List S66) (i : Int) : S66 := xs.getD i.toNat z66
theorem at_T66 {w : World} {A : Option Addr} {n : Nat} {xs : List S66} (h : Kd.C k66 w A n xs) (i : Int) (h0 : 0 ≤ i) (h1 : i < n) : ∃ ad A2 c2 A3 c3, A = some ad ∧ w.cell? (ad.add (i.toNat * 4)) = some (.int .i64 (rd_T66 xs i).f0) ∧ w.cell? ⟨(ad.add (i.toNat * 4)).block, (ad.add (i.toNat * 4)).off + 1, none⟩ = some (.int .i64 (rd_T66 xs i).f1) ∧ w.cell? ⟨(ad.add (i.toNat * 4)).block, (ad.add (i.toNat * 4)).off + 2, none⟩ = some (.slice A2 (rd_T66 xs i).f2.length c2) ∧ w.cell? ⟨(ad.add (i.toNat * 4)).block, (ad.add (i.toNat * 4)).off + 3, none⟩ = some (.slice A3 (rd_T66 xs i).f3.length c3) ∧ (rd_T66 xs i).f2.length ≤ c2 ∧ (Kd.int .i64).C w A2 (rd_T66 xs i).f2.length (rd_T66 xs i).f2 ∧ (rd_T66 xs i).f3.length ≤ c3 ∧ (Kd.int .i64).C w A3 (rd_T66 xs i).f3.length (rd_T66 xs i).f3 := by
  obtain ⟨ad, c, e, _, hK, hc0⟩ := Kd.C_get h z66 i h0 h1
  have hc : ∀ j u, c[j]? = some u → w.cell? (ad.add (i.toNat * 4 + j)) = some u := hc0
  obtain ⟨A2, c2, A3, c3, rfl, l2, g2, l3, g3⟩ := k66_open hK
  exact ⟨ad, A2, c2, A3, c3, e, hc 0 _ rfl, by rw [← add_field _ _ 1 (by omega)]; exact hc 1 _ rfl, by rw [← add_field _ _ 2 (by omega)]; exact hc 2 _ rfl, by rw [← add_field _ _ 3 (by omega)]; exact hc 3 _ rfl, l2, g2, l3, g3⟩

/-! #### struct type 90 -/
structure S90 where
  f0 : Int
  f1 : Int
  f2 : (List Int)
  f3 : (List Int)
def z90 : S90 := ⟨(0 : Int), (0 : Int), ([] : List Int), ([] : List Int)⟩
def k90 : Kd S90 := Kd.iso (Kd.pair (Kd.int .i64) (Kd.pair (Kd.int .i64) (Kd.pair (Kd.slice 3 (Kd.int .i64)) (Kd.slice 3 (Kd.int .i64))))) (fun x : S90 => (x.f0, x.f1, x.f2, x.f3))
theorem k90_open {w : World} {x : S90} {cs : List Value} (h : k90.K w x cs) : ∃ A2 c2 A3 c3, cs = [.int .i64 x.f0, .int .i64 x.f1, .slice A2 x.f2.length c2, .slice A3 x.f3.length c3] ∧ x.f2.length ≤ c2 ∧ (Kd.int .i64).C w A2 x.f2.length x.f2 ∧ x.f3.length ≤ c3 ∧ (Kd.int .i64).C w A3 x.f3.length x.f3 := by
  obtain ⟨_, _, rfl, rfl, ⟨_, _, rfl, rfl, ⟨_, _, rfl, ⟨A2, c2, rfl, l2, g2⟩, ⟨A3, c3, rfl, l3, g3⟩⟩⟩⟩ := h
  exact ⟨A2, c2, A3, c3, rfl, l2, g2, l3, g3⟩
theorem k90_mk (w : World) (x : S90) {A2 : Option Addr} {c2 : Nat} (l2 : x.f2.length ≤ c2) (g2 : (Kd.int .i64).C w A2 x.f2.length x.f2) {A3 : Option Addr} {c3 : Nat} (l3 : x.f3.length ≤ c3) (g3 : (Kd.int .i64).C w A3 x.f3.length x.f3) : k90.K w x [.int .i64 x.f0, .int .i64 x.f1, .slice A2 x.f2.length c2, .slice A3 x.f3.length c3] := ⟨[.int .i64 x.f0], [.int .i64 x.f1, .slice A2 x.f2.length c2, .slice A3 x.f3.length c3], rfl, rfl, ⟨[.int .i64 x.f1], [.slice A2 x.f2.length c2, .slice A3 x.f3.length c3], rfl, rfl, ⟨[.slice A2 x.f2.length c2], [.slice A3 x.f3.length c3], rfl, ⟨A2, c2, rfl, l2, g2⟩, ⟨A3, c3, rfl, l3, g3⟩⟩⟩⟩
theorem k90_mkF (W : World) (ok : Nat → Prop) (x : S90) {A2 : Option Addr} {c2 : Nat} (l2 : x.f2.length ≤ c2) (g2 : Kd.F (Kd.int .i64) W ok A2 x.f2.length x.f2) {A3 : Option Addr} {c3 : Nat} (l3 : x.f3.length ≤ c3) (g3 : Kd.F (Kd.int .i64) W ok A3 x.f3.length x.f3) : Kd.FK k90 W ok x [.int .i64 x.f0, .int .i64 x.f1, .slice A2 x.f2.length c2, .slice A3 x.f3.length c3] := fun W2 hW => k90_mk W2 x l2 (g2 W2 hW) l3 (g3 W2 hW)
def rd_T90 (xs : List S90) (i : Int) : S90 := xs.getD i.toNat z90
theorem at_T90 {w : World} {A : Option Addr} {n : Nat} {xs : List S90} (h : Kd.C k90 w A n xs) (i : Int) (h0 : 0 ≤ i) (h1 : i < n) : ∃ ad A2 c2 A3 c3, A = some ad ∧ w.cell? (ad.add (i.toNat * 4)) = some (.int .i64 (rd_T90 xs i).f0) ∧ w.cell? ⟨(ad.add (i.toNat * 4)).block, (ad.add (i.toNat * 4)).off + 1, none⟩ = some (.int .i64 (rd_T90 xs i).f1) ∧ w.cell? ⟨(ad.add (i.toNat * 4)).block, (ad.add (i.toNat * 4)).off + 2, none⟩ = some (.slice A2 (rd_T90 xs i).f2.length c2) ∧ w.cell? ⟨(ad.add (i.toNat * 4)).block, (ad.add (i.toNat * 4)).off + 3, none⟩ = some (.slice A3 (rd_T90 xs i).f3.length c3) ∧ (rd_T90 xs i).f2.length ≤ c2 ∧ (Kd.int .i64).C w A2 (rd_T90 xs i).f2.length (rd_T90 xs i).f2 ∧ (rd_T90 xs i).f3.length ≤ c3 ∧ (Kd.int .i64).C w A3 (rd_T90 xs i).f3.length (rd_T90 xs i).f3 := by
  obtain ⟨ad, c, e, _, hK, hc0⟩ := Kd.C_get h z90 i h0 h1
  have hc : ∀ j u, c[j]? = some u → w.cell? (ad.add (i.toNat * 4 + j)) = some u := hc0
  obtain ⟨A2, c2, A3, c3, rfl, l2, g2, l3, g3⟩ := k90_open hK
  exact ⟨ad, A2, c2, A3, c3, e, hc 0 _ rfl, by rw [← add_field _ _ 1 (by omega)]; exact hc 1 _ rfl, by rw [← add_field _ _ 2 (by omega)]; exact hc 2 _ rfl, by rw [← add_field _ _ 3 (by omega)]; exact hc 3 _ rfl, l2, g2, l3, g3⟩

end Go.Proofs.Ythgnbeeobhfeaaa.T
