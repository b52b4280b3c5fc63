-- Made by wip/tools/give.py of this repo out of Lean's print of the program; Lean checks it.
import Derived.Test.YthgnbeeobhfeaaaProg
import Derived.Below
import Derived.Deep.Draws
import Derived.Deep.AppendLies
import Derived.Maps.AppendAt
import Derived.OwnWalk
import Derived.Laws.BytesArg
import Derived.Laws.MakeOwn
import Derived.Laws.OwnMore
import Derived.Deep.OwnRows
import Derived.Tactics
import Derived.Lib.ConvBytes
import Derived.Laws.Slices
import Derived.WalkKit
import Derived.KernelRfl
import Derived.RowKit3
import Derived.Deep.LoopGhost
import Derived.Deep.QuietTactic
import Derived.BigQuiet
import Derived.WideLaws
import Derived.Deep.DeepCutAuto
import Derived.Deep.CutBlock
import Derived.Deep.RegionHeld3
import Derived.Laws.Rows
import Derived.Lib.AppendStr
import Derived.ArgAppend
import Derived.Laws.IdiomCopy
import Derived.OrdersHeld
import Derived.Laws.BitsLemmas
import Derived.RowKit
import Derived.Test.YthgnbeeobhfeaaaWWords
import Derived.Test.YthgnbeeobhfeaaaWLast
import Derived.Test.YthgnbeeobhfeaaaWTab
import Derived.Test.YthgnbeeobhfeaaaWFour
import Derived.Test.YthgnbeeobhfeaaaWQPut
import Derived.Test.YthgnbeeobhfeaaaWApart
import Derived.Test.YthgnbeeobhfeaaaWArr
import Derived.Test.YthgnbeeobhfeaaaWZeros
import Derived.Test.YthgnbeeobhfeaaaWFoot
import Derived.Test.YthgnbeeobhfeaaaWKept
import Derived.Test.YthgnbeeobhfeaaaWShare
import Derived.Test.YthgnbeeobhfeaaaWN
import Derived.Test.YthgnbeeobhfeaaaWFootNe
import Derived.Test.YthgnbeeobhfeaaaWAt
import Derived.Test.YthgnbeeobhfeaaaWEqStruct
import Derived.Test.YthgnbeeobhfeaaaWRepsOne
import Derived.Test.YthgnbeeobhfeaaaWInv
import Derived.Test.YthgnbeeobhfeaaaWInvWords
import Derived.Test.YthgnbeeobhfeaaaWGuard
import Derived.Test.YthgnbeeobhfeaaaWNEv
import Derived.Test.YthgnbeeobhfeaaaWMore
namespace Go.Proofs.Ythgnbeeobhfeaaa.T
open Go.RowKit Go.Proofs.YthgnbeeobhfeaaaW.PrintWords Go.Proofs.YthgnbeeobhfeaaaW.PrintLast Go.Proofs.YthgnbeeobhfeaaaW.PrintMore
attribute [local go_sem] max2_int min2_int max_two min_two max_three min_three max_four min_four   -- for this text's walks alone
set_option linter.unusedVariables false
set_option linter.unusedSimpArgs false



def errW : Option Int → Value
  | none => .nilIface
  | some c => .iface 0 (.int .i64 c)
theorem errW_none : errW none = .nilIface := rfl
theorem errW_some (c : Int) : errW (some c) = .iface 0 (.int .i64 c) := rfl

theorem info3 : (Try.prog.info? 3).map (fun i => (i.zero, i.size, i.bytes)) = some (some (.int .i64 0), 1, 8) := by kernel_rfl
theorem info4 : (Try.prog.info? 4).map (fun i => (i.zero, i.size, i.bytes)) = some (some (.bool false), 1, 1) := by kernel_rfl
theorem info42 : (Try.prog.info? 42).map (fun i => (i.zero, i.size, i.bytes)) = some (some (.slice none 0 0), 1, 24) := by kernel_rfl
theorem info44 : (Try.prog.info? 44).map (fun i => (i.zero, i.size, i.bytes)) = some (some (.slice none 0 0), 1, 24) := by kernel_rfl
theorem info66 : (Try.prog.info? 66).map (fun i => (i.zero, i.size, i.bytes)) = some (some (.agg #[(.int .i64 0), (.int .i64 0), (.slice none 0 0), (.slice none 0 0)]), 4, 64) := by kernel_rfl
theorem info90 : (Try.prog.info? 90).map (fun i => (i.zero, i.size, i.bytes)) = some (some (.agg #[(.int .i64 0), (.int .i64 0), (.slice none 0 0), (.slice none 0 0)]), 4, 64) := by kernel_rfl
-- the values' own types
/-! #### struct type 140, nested in itself -/
structure S140 where
  f0 : Int
  f1 : ByteArray
  f2 : (List S140)
def z140 : S140 := ⟨(0 : Int), (⟨#[]⟩ : ByteArray), ([] : List S140)⟩
def F140 (d : Kd S140) : Kd S140 := Kd.iso (Kd.pair (Kd.int .i64) (Kd.pair Kd.string (Kd.slice 140 d))) (fun x : S140 => (x.f0, x.f1, x.f2))
theorem mono140 : Kd.Mono F140 := Kd.mono_iso _ (Kd.mono_pair (Kd.mono_const _) (Kd.mono_pair (Kd.mono_const _) (Kd.mono_slice 140 Kd.mono_id)))
theorem sub140 : Kd.Sub F140 [140] := Kd.sub_iso _ (Kd.sub_pair (Kd.sub_const _ (by decide)) (Kd.sub_pair (Kd.sub_const _ (by decide)) (Kd.sub_slice 140 (by decide) Kd.sub_id)))
theorem sz140 : ∀ n, (Kd.upto F140 3 [140] n).sz = 3 := Kd.upto_sz (fun _ => rfl)
def k140 : Kd S140 := Kd.fix F140 3 [140] sz140 (Kd.upto_E sub140)
theorem k140_heap : Kd.Heap k140 := Kd.heap_fix (fun _ h_ => Kd.heap_iso _ (Kd.heap_pair (Kd.heap_int .i64) (Kd.heap_pair Kd.heap_string (Kd.heap_slice 140 h_))))
theorem k140_open {w : World} {x : S140} {cs : List Value} (h : k140.K w x cs) : ∃ A2 c2, cs = [.int .i64 x.f0, .string x.f1, .slice A2 x.f2.length c2] ∧ x.f2.length ≤ c2 ∧ k140.C w A2 x.f2.length x.f2 := by
  obtain ⟨n, h⟩ := h
  cases n with
  | zero => exact h.elim
  | succ n =>
    obtain ⟨_, _, rfl, rfl, ⟨_, _, rfl, rfl, ⟨A2, c2, rfl, l2, g2⟩⟩⟩ := h
    exact ⟨A2, c2, rfl, l2, Kd.fix_C g2⟩
theorem k140_openM {w : World} {base : Nat} {ok : Nat → Prop} {x : S140} {cs : List Value} (h : k140.M w base ok x cs) : ∃ v2, cs = [.int .i64 x.f0, .string x.f1, v2] ∧ k140.R 140 w base ok v2 x.f2 := by
  obtain ⟨n, h⟩ := h
  cases n with
  | zero => exact h.elim
  | succ n =>
    obtain ⟨_, _, rfl, rfl, ⟨_, _, rfl, rfl, ⟨v2, rfl, g2⟩⟩⟩ := h
    exact ⟨v2, rfl, Kd.fix_R g2⟩
theorem k140_mk (w : World) (x : S140) {A2 : Option Addr} {c2 : Nat} (l2 : x.f2.length ≤ c2) (g2 : k140.C w A2 x.f2.length x.f2) : k140.K w x [.int .i64 x.f0, .string x.f1, .slice A2 x.f2.length c2] := by
  obtain ⟨n2, q2⟩ := Kd.fix_C_back mono140 g2
  have r2 := Kd.upto_C_le mono140 sz140 (show n2 ≤ n2 by omega) q2
  exact ⟨n2 + 1, ⟨[.int .i64 x.f0], [.string x.f1, .slice A2 x.f2.length c2], rfl, rfl, ⟨[.string x.f1], [.slice A2 x.f2.length c2], rfl, rfl, ⟨A2, c2, rfl, l2, r2⟩⟩⟩⟩
theorem k140_mkM (w : World) (base : Nat) (ok : Nat → Prop) (x : S140) {v2 : Value} (g2 : k140.R 140 w base ok v2 x.f2) : k140.M w base ok x [.int .i64 x.f0, .string x.f1, v2] := by
  obtain ⟨n2, q2⟩ := Kd.fix_R_back mono140 g2
  have r2 := Kd.upto_R_le mono140 sz140 (show n2 ≤ n2 by omega) q2
  exact ⟨n2 + 1, ⟨[.int .i64 x.f0], [.string x.f1, v2], rfl, rfl, ⟨[.string x.f1], [v2], rfl, rfl, ⟨v2, rfl, r2⟩⟩⟩⟩
theorem k140_openF {W : World} {ok : Nat → Prop} {x : S140} {cs : List Value} (h : Kd.FK k140 W ok x cs) : ∃ A2 c2, cs = [.int .i64 x.f0, .string x.f1, .slice A2 x.f2.length c2] ∧ x.f2.length ≤ c2 ∧ Kd.F k140 W ok A2 x.f2.length x.f2 := by
  obtain ⟨A2, c2, rfl, l2, _⟩ := k140_open (Kd.FK_now h)
  exact ⟨A2, c2, rfl, l2, (fun W' hW => by obtain ⟨A2_, c2_, he, l2_, g2_⟩ := k140_open (h W' hW); injection (Option.some.inj (show some (Value.slice A2 x.f2.length c2) = some (Value.slice A2_ x.f2.length c2_) from congrArg (fun l => l[2]?) he)) with ha_ _ _; rw [ha_]; exact g2_)⟩
theorem k140_mkF (W : World) (ok : Nat → Prop) (x : S140) {A2 : Option Addr} {c2 : Nat} (l2 : x.f2.length ≤ c2) (g2 : Kd.F k140 W ok A2 x.f2.length x.f2) : Kd.FK k140 W ok x [.int .i64 x.f0, .string x.f1, .slice A2 x.f2.length c2] := fun W2 hW => k140_mk W2 x l2 (g2 W2 hW)
def rd_T140 (xs : List S140) (i : Int) : S140 := xs.getD i.toNat z140
theorem at_T140 {w : World} {A : Option Addr} {n : Nat} {xs : List S140} (h : Kd.C k140 w A n xs) (i : Int) (h0 : 0 ≤ i) (h1 : i < n) : ∃ ad A2 c2, A = some ad ∧ w.cell? (ad.add (i.toNat * 3)) = some (.int .i64 (rd_T140 xs i).f0) ∧ w.cell? ⟨(ad.add (i.toNat * 3)).block, (ad.add (i.toNat * 3)).off + 1, none⟩ = some (.string (rd_T140 xs i).f1) ∧ w.cell? ⟨(ad.add (i.toNat * 3)).block, (ad.add (i.toNat * 3)).off + 2, none⟩ = some (.slice A2 (rd_T140 xs i).f2.length c2) ∧ (rd_T140 xs i).f2.length ≤ c2 ∧ k140.C w A2 (rd_T140 xs i).f2.length (rd_T140 xs i).f2 := by
  obtain ⟨ad, c, e, _, hK, hc0⟩ := Kd.C_get h z140 i h0 h1
  have hc : ∀ j u, c[j]? = some u → w.cell? (ad.add (i.toNat * 3 + j)) = some u := hc0
  obtain ⟨A2, c2, rfl, l2, g2⟩ := k140_open hK
  exact ⟨ad, A2, c2, e, hc 0 _ rfl, by rw [← add_field _ _ 1 (by omega)]; exact hc 1 _ rfl, by rw [← add_field _ _ 2 (by omega)]; exact hc 2 _ rfl, l2, g2⟩

/-! #### struct type 142 -/
structure S142 where
  f0 : ByteArray
  f1 : S140
def z142 : S142 := ⟨(⟨#[]⟩ : ByteArray), z140⟩
def k142 : Kd S142 := Kd.iso (Kd.pair Kd.string k140) (fun x : S142 => (x.f0, x.f1))
theorem k142_heap : Kd.Heap k142 := Kd.heap_iso _ (Kd.heap_pair Kd.heap_string k140_heap)
theorem k142_open {w : World} {x : S142} {cs : List Value} (h : k142.K w x cs) : ∃ A3 c3, cs = [.string x.f0, .int .i64 x.f1.f0, .string x.f1.f1, .slice A3 x.f1.f2.length c3] ∧ x.f1.f2.length ≤ c3 ∧ k140.C w A3 x.f1.f2.length x.f1.f2 := by
  obtain ⟨_, _, rfl, rfl, s1⟩ := h
  obtain ⟨A3, c3, rfl, l3, g3⟩ := k140_open s1
  exact ⟨A3, c3, rfl, l3, g3⟩
theorem k142_openM {w : World} {base : Nat} {ok : Nat → Prop} {x : S142} {cs : List Value} (h : k142.M w base ok x cs) : ∃ v3, cs = [.string x.f0, .int .i64 x.f1.f0, .string x.f1.f1, v3] ∧ k140.R 140 w base ok v3 x.f1.f2 := by
  obtain ⟨_, _, rfl, rfl, s1⟩ := h
  obtain ⟨v3, rfl, g3⟩ := k140_openM s1
  exact ⟨v3, rfl, g3⟩
theorem k142_mk (w : World) (x : S142) {A3 : Option Addr} {c3 : Nat} (l3 : x.f1.f2.length ≤ c3) (g3 : k140.C w A3 x.f1.f2.length x.f1.f2) : k142.K w x [.string x.f0, .int .i64 x.f1.f0, .string x.f1.f1, .slice A3 x.f1.f2.length c3] := ⟨[.string x.f0], [.int .i64 x.f1.f0, .string x.f1.f1, .slice A3 x.f1.f2.length c3], rfl, rfl, (k140_mk w x.f1 l3 g3)⟩
theorem k142_mkM (w : World) (base : Nat) (ok : Nat → Prop) (x : S142) {v3 : Value} (g3 : k140.R 140 w base ok v3 x.f1.f2) : k142.M w base ok x [.string x.f0, .int .i64 x.f1.f0, .string x.f1.f1, v3] := ⟨[.string x.f0], [.int .i64 x.f1.f0, .string x.f1.f1, v3], rfl, rfl, (k140_mkM w base ok x.f1 g3)⟩
theorem k142_openF {W : World} {ok : Nat → Prop} {x : S142} {cs : List Value} (h : Kd.FK k142 W ok x cs) : ∃ A3 c3, cs = [.string x.f0, .int .i64 x.f1.f0, .string x.f1.f1, .slice A3 x.f1.f2.length c3] ∧ x.f1.f2.length ≤ c3 ∧ Kd.F k140 W ok A3 x.f1.f2.length x.f1.f2 := by
  obtain ⟨A3, c3, rfl, l3, _⟩ := k142_open (Kd.FK_now h)
  exact ⟨A3, c3, rfl, l3, (fun W' hW => by obtain ⟨A3_, c3_, he, l3_, g3_⟩ := k142_open (h W' hW); injection (Option.some.inj (show some (Value.slice A3 x.f1.f2.length c3) = some (Value.slice A3_ x.f1.f2.length c3_) from congrArg (fun l => l[3]?) he)) with ha_ _ _; rw [ha_]; exact g3_)⟩
theorem k142_mkF (W : World) (ok : Nat → Prop) (x : S142) {A3 : Option Addr} {c3 : Nat} (l3 : x.f1.f2.length ≤ c3) (g3 : Kd.F k140 W ok A3 x.f1.f2.length x.f1.f2) : Kd.FK k142 W ok x [.string x.f0, .int .i64 x.f1.f0, .string x.f1.f1, .slice A3 x.f1.f2.length c3] := fun W2 hW => k142_mk W2 x l3 (g3 W2 hW)
def rd_T142 (xs : List S142) (i : Int) : S142 := xs.getD i.toNat z142
theorem at_T142 {w : World} {A : Option Addr} {n : Nat} {xs : List S142} (h : Kd.C k142 w A n xs) (i : Int) (h0 : 0 ≤ i) (h1 : i < n) : ∃ ad A3 c3, A = some ad ∧ w.cell? (ad.add (i.toNat * 4)) = some (.string (rd_T142 xs i).f0) ∧ w.cell? ⟨(ad.add (i.toNat * 4)).block, (ad.add (i.toNat * 4)).off + 1, none⟩ = some (.int .i64 (rd_T142 xs i).f1.f0) ∧ w.cell? ⟨(ad.add (i.toNat * 4)).block, (ad.add (i.toNat * 4)).off + 2, none⟩ = some (.string (rd_T142 xs i).f1.f1) ∧ w.cell? ⟨(ad.add (i.toNat * 4)).block, (ad.add (i.toNat * 4)).off + 3, none⟩ = some (.slice A3 (rd_T142 xs i).f1.f2.length c3) ∧ (rd_T142 xs i).f1.f2.length ≤ c3 ∧ k140.C w A3 (rd_T142 xs i).f1.f2.length (rd_T142 xs i).f1.f2 := by
  obtain ⟨ad, c, e, _, hK, hc0⟩ := Kd.C_get h z142 i h0 h1
  have hc : ∀ j u, c[j]? = some u → w.cell? (ad.add (i.toNat * 4 + j)) = some u := hc0
  obtain ⟨A3, c3, rfl, l3, g3⟩ := k142_open hK
  exact ⟨ad, A3, c3, e, hc 0 _ rfl, by rw [← add_field _ _ 1 (by omega)]; exact hc 1 _ rfl, by rw [← add_field _ _ 2 (by omega)]; exact hc 2 _ rfl, by rw [← add_field _ _ 3 (by omega)]; exact hc 3 _ rfl, l3, g3⟩

def rd_L5 (xs : List (List S142)) (i : Int) : (List S142) := xs.getD i.toNat ([] : List S142)
theorem at_L5 {w : World} {A : Option Addr} {n : Nat} {xs : List (List S142)} (h : Kd.C (Kd.slice 142 k142) w A n xs) (i : Int) (h0 : 0 ≤ i) (h1 : i < n) : ∃ ad A0 c0, A = some ad ∧ w.cell? (ad.add i.toNat) = some (.slice A0 (rd_L5 xs i).length c0) ∧ (rd_L5 xs i).length ≤ c0 ∧ k142.C w A0 (rd_L5 xs i).length (rd_L5 xs i) := by
  obtain ⟨ad, c, e, _, hK, hc0⟩ := Kd.C_get h ([] : List S142) i h0 h1
  have hc : ∀ j u, c[j]? = some u → w.cell? (ad.add (i.toNat * 1 + j)) = some u := hc0
  obtain ⟨A0, c0, rfl, l0, g0⟩ := hK
  exact ⟨ad, A0, c0, e, by have hq := hc 0 _ rfl; rwa [Nat.mul_one, Nat.add_zero] at hq, l0, g0⟩

def rd_L6 (xs : List (List Int)) (i : Int) : (List Int) := xs.getD i.toNat ([] : List Int)
theorem at_L6 {w : World} {A : Option Addr} {n : Nat} {xs : List (List Int)} (h : Kd.C (Kd.slice 3 (Kd.int .i64)) w A n xs) (i : Int) (h0 : 0 ≤ i) (h1 : i < n) : ∃ ad A0 c0, A = some ad ∧ w.cell? (ad.add i.toNat) = some (.slice A0 (rd_L6 xs i).length c0) ∧ (rd_L6 xs i).length ≤ c0 ∧ (Kd.int .i64).C w A0 (rd_L6 xs i).length (rd_L6 xs i) := by
  obtain ⟨ad, c, e, _, hK, hc0⟩ := Kd.C_get h ([] : List Int) i h0 h1
  have hc : ∀ j u, c[j]? = some u → w.cell? (ad.add (i.toNat * 1 + j)) = some u := hc0
  obtain ⟨A0, c0, rfl, l0, g0⟩ := hK
  exact ⟨ad, A0, c0, e, by have hq := hc 0 _ rfl; rwa [Nat.mul_one, Nat.add_zero] at hq, l0, g0⟩

/-! #### struct type 48 -/
structure S48 where
  f0 : Int
  f1 : (List Int)
def z48 : S48 := ⟨(0 : Int), ([] : List Int)⟩
def k48 : Kd S48 := Kd.iso (Kd.pair (Kd.int .i64) (Kd.slice 3 (Kd.int .i64))) (fun x : S48 => (x.f0, x.f1))
theorem k48_heap : Kd.Heap k48 := Kd.heap_iso _ (Kd.heap_pair (Kd.heap_int .i64) (Kd.heap_slice 3 (Kd.heap_int .i64)))
theorem k48_open {w : World} {x : S48} {cs : List Value} (h : k48.K w x cs) : ∃ A1 c1, cs = [.int .i64 x.f0, .slice A1 x.f1.length c1] ∧ x.f1.length ≤ c1 ∧ (Kd.int .i64).C w A1 x.f1.length x.f1 := by
  obtain ⟨_, _, rfl, rfl, ⟨A1, c1, rfl, l1, g1⟩⟩ := h
  exact ⟨A1, c1, rfl, l1, g1⟩
theorem k48_openM {w : World} {base : Nat} {ok : Nat → Prop} {x : S48} {cs : List Value} (h : k48.M w base ok x cs) : ∃ v1, cs = [.int .i64 x.f0, v1] ∧ (Kd.int .i64).R 3 w base ok v1 x.f1 := by
  obtain ⟨_, _, rfl, rfl, ⟨v1, rfl, g1⟩⟩ := h
  exact ⟨v1, rfl, g1⟩
theorem k48_mk (w : World) (x : S48) {A1 : Option Addr} {c1 : Nat} (l1 : x.f1.length ≤ c1) (g1 : (Kd.int .i64).C w A1 x.f1.length x.f1) : k48.K w x [.int .i64 x.f0, .slice A1 x.f1.length c1] := ⟨[.int .i64 x.f0], [.slice A1 x.f1.length c1], rfl, rfl, ⟨A1, c1, rfl, l1, g1⟩⟩
theorem k48_mkM (w : World) (base : Nat) (ok : Nat → Prop) (x : S48) {v1 : Value} (g1 : (Kd.int .i64).R 3 w base ok v1 x.f1) : k48.M w base ok x [.int .i64 x.f0, v1] := ⟨[.int .i64 x.f0], [v1], rfl, rfl, ⟨v1, rfl, g1⟩⟩
theorem k48_openF {W : World} {ok : Nat → Prop} {x : S48} {cs : List Value} (h : Kd.FK k48 W ok x cs) : ∃ A1 c1, cs = [.int .i64 x.f0, .slice A1 x.f1.length c1] ∧ x.f1.length ≤ c1 ∧ Kd.F (Kd.int .i64) W ok A1 x.f1.length x.f1 := by
  obtain ⟨A1, c1, rfl, l1, _⟩ := k48_open (Kd.FK_now h)
  exact ⟨A1, c1, rfl, l1, (fun W' hW => by obtain ⟨A1_, c1_, he, l1_, g1_⟩ := k48_open (h W' hW); injection (Option.some.inj (show some (Value.slice A1 x.f1.length c1) = some (Value.slice A1_ x.f1.length c1_) from congrArg (fun l => l[1]?) he)) with ha_ _ _; rw [ha_]; exact g1_)⟩
theorem k48_mkF (W : World) (ok : Nat → Prop) (x : S48) {A1 : Option Addr} {c1 : Nat} (l1 : x.f1.length ≤ c1) (g1 : Kd.F (Kd.int .i64) W ok A1 x.f1.length x.f1) : Kd.FK k48 W ok x [.int .i64 x.f0, .slice A1 x.f1.length c1] := fun W2 hW => k48_mk W2 x l1 (g1 W2 hW)
def rd_T48 (xs : List S48) (i : Int) : S48 := xs.getD i.toNat z48
theorem at_T48 {w : World} {A : Option Addr} {n : Nat} {xs : List S48} (h : Kd.C k48 w A n xs) (i : Int) (h0 : 0 ≤ i) (h1 : i < n) : ∃ ad A1 c1, A = some ad ∧ w.cell? (ad.add (i.toNat * 2)) = some (.int .i64 (rd_T48 xs i).f0) ∧ w.cell? ⟨(ad.add (i.toNat * 2)).block, (ad.add (i.toNat * 2)).off + 1, none⟩ = some (.slice A1 (rd_T48 xs i).f1.length c1) ∧ (rd_T48 xs i).f1.length ≤ c1 ∧ (Kd.int .i64).C w A1 (rd_T48 xs i).f1.length (rd_T48 xs i).f1 := by
  obtain ⟨ad, c, e, _, hK, hc0⟩ := Kd.C_get h z48 i h0 h1
  have hc : ∀ j u, c[j]? = some u → w.cell? (ad.add (i.toNat * 2 + j)) = some u := hc0
  obtain ⟨A1, c1, rfl, l1, g1⟩ := k48_open hK
  exact ⟨ad, A1, c1, e, hc 0 _ rfl, by rw [← add_field _ _ 1 (by omega)]; exact hc 1 _ rfl, l1, g1⟩

/-! #### struct type 54 -/
structure S54 where
  f0 : Bool
  f1 : Int
  f2 : Bool
  f3 : S48
def z54 : S54 := ⟨false, (0 : Int), false, z48⟩
def k54 : Kd S54 := Kd.iso (Kd.pair Kd.bool (Kd.pair (Kd.int .i64) (Kd.pair Kd.bool k48))) (fun x : S54 => (x.f0, x.f1, x.f2, x.f3))
theorem k54_heap : Kd.Heap k54 := Kd.heap_iso _ (Kd.heap_pair Kd.heap_bool (Kd.heap_pair (Kd.heap_int .i64) (Kd.heap_pair Kd.heap_bool k48_heap)))
theorem k54_open {w : World} {x : S54} {cs : List Value} (h : k54.K w x cs) : ∃ A4 c4, cs = [.bool x.f0, .int .i64 x.f1, .bool x.f2, .int .i64 x.f3.f0, .slice A4 x.f3.f1.length c4] ∧ x.f3.f1.length ≤ c4 ∧ (Kd.int .i64).C w A4 x.f3.f1.length x.f3.f1 := by
  obtain ⟨_, _, rfl, rfl, ⟨_, _, rfl, rfl, ⟨_, _, rfl, rfl, s3⟩⟩⟩ := h
  obtain ⟨A4, c4, rfl, l4, g4⟩ := k48_open s3
  exact ⟨A4, c4, rfl, l4, g4⟩
theorem k54_openM {w : World} {base : Nat} {ok : Nat → Prop} {x : S54} {cs : List Value} (h : k54.M w base ok x cs) : ∃ v4, cs = [.bool x.f0, .int .i64 x.f1, .bool x.f2, .int .i64 x.f3.f0, v4] ∧ (Kd.int .i64).R 3 w base ok v4 x.f3.f1 := by
  obtain ⟨_, _, rfl, rfl, ⟨_, _, rfl, rfl, ⟨_, _, rfl, rfl, s3⟩⟩⟩ := h
  obtain ⟨v4, rfl, g4⟩ := k48_openM s3
  exact ⟨v4, rfl, g4⟩
theorem k54_mk (w : World) (x : S54) {A4 : Option Addr} {c4 : Nat} (l4 : x.f3.f1.length ≤ c4) (g4 : (Kd.int .i64).C w A4 x.f3.f1.length x.f3.f1) : k54.K w x [.bool x.f0, .int .i64 x.f1, .bool x.f2, .int .i64 x.f3.f0, .slice A4 x.f3.f1.length c4] := ⟨[.bool x.f0], [.int .i64 x.f1, .bool x.f2, .int .i64 x.f3.f0, .slice A4 x.f3.f1.length c4], rfl, rfl, ⟨[.int .i64 x.f1], [.bool x.f2, .int .i64 x.f3.f0, .slice A4 x.f3.f1.length c4], rfl, rfl, ⟨[.bool x.f2], [.int .i64 x.f3.f0, .slice A4 x.f3.f1.length c4], rfl, rfl, (k48_mk w x.f3 l4 g4)⟩⟩⟩
theorem k54_mkM (w : World) (base : Nat) (ok : Nat → Prop) (x : S54) {v4 : Value} (g4 : (Kd.int .i64).R 3 w base ok v4 x.f3.f1) : k54.M w base ok x [.bool x.f0, .int .i64 x.f1, .bool x.f2, .int .i64 x.f3.f0, v4] := ⟨[.bool x.f0], [.int .i64 x.f1, .bool x.f2, .int .i64 x.f3.f0, v4], rfl, rfl, ⟨[.int .i64 x.f1], [.bool x.f2, .int .i64 x.f3.f0, v4], rfl, rfl, ⟨[.bool x.f2], [.int .i64 x.f3.f0, v4], rfl, rfl, (k48_mkM w base ok x.f3 g4)⟩⟩⟩
theorem k54_openF {W : World} {ok : Nat → Prop} {x : S54} {cs : List Value} (h : Kd.FK k54 W ok x cs) : ∃ A4 c4, cs = [.bool x.f0, .int .i64 x.f1, .bool x.f2, .int .i64 x.f3.f0, .slice A4 x.f3.f1.length c4] ∧ x.f3.f1.length ≤ c4 ∧ Kd.F (Kd.int .i64) W ok A4 x.f3.f1.length x.f3.f1 := by
  obtain ⟨A4, c4, rfl, l4, _⟩ := k54_open (Kd.FK_now h)
  exact ⟨A4, c4, rfl, l4, (fun W' hW => by obtain ⟨A4_, c4_, he, l4_, g4_⟩ := k54_open (h W' hW); injection (Option.some.inj (show some (Value.slice A4 x.f3.f1.length c4) = some (Value.slice A4_ x.f3.f1.length c4_) from congrArg (fun l => l[4]?) he)) with ha_ _ _; rw [ha_]; exact g4_)⟩
theorem k54_mkF (W : World) (ok : Nat → Prop) (x : S54) {A4 : Option Addr} {c4 : Nat} (l4 : x.f3.f1.length ≤ c4) (g4 : Kd.F (Kd.int .i64) W ok A4 x.f3.f1.length x.f3.f1) : Kd.FK k54 W ok x [.bool x.f0, .int .i64 x.f1, .bool x.f2, .int .i64 x.f3.f0, .slice A4 x.f3.f1.length c4] := fun W2 hW => k54_mk W2 x l4 (g4 W2 hW)
def rd_T54 (xs : List S54) (i : Int) : S54 := xs.getD i.toNat z54
theorem at_T54 {w : World} {A : Option Addr} {n : Nat} {xs : List S54} (h : Kd.C k54 w A n xs) (i : Int) (h0 : 0 ≤ i) (h1 : i < n) : ∃ ad A4 c4, A = some ad ∧ w.cell? (ad.add (i.toNat * 5)) = some (.bool (rd_T54 xs i).f0) ∧ w.cell? ⟨(ad.add (i.toNat * 5)).block, (ad.add (i.toNat * 5)).off + 1, none⟩ = some (.int .i64 (rd_T54 xs i).f1) ∧ w.cell? ⟨(ad.add (i.toNat * 5)).block, (ad.add (i.toNat * 5)).off + 2, none⟩ = some (.bool (rd_T54 xs i).f2) ∧ w.cell? ⟨(ad.add (i.toNat * 5)).block, (ad.add (i.toNat * 5)).off + 3, none⟩ = some (.int .i64 (rd_T54 xs i).f3.f0) ∧ w.cell? ⟨(ad.add (i.toNat * 5)).block, (ad.add (i.toNat * 5)).off + 4, none⟩ = some (.slice A4 (rd_T54 xs i).f3.f1.length c4) ∧ (rd_T54 xs i).f3.f1.length ≤ c4 ∧ (Kd.int .i64).C w A4 (rd_T54 xs i).f3.f1.length (rd_T54 xs i).f3.f1 := by
  obtain ⟨ad, c, e, _, hK, hc0⟩ := Kd.C_get h z54 i h0 h1
  have hc : ∀ j u, c[j]? = some u → w.cell? (ad.add (i.toNat * 5 + j)) = some u := hc0
  obtain ⟨A4, c4, rfl, l4, g4⟩ := k54_open hK
  exact ⟨ad, A4, c4, e, hc 0 _ rfl, by rw [← add_field _ _ 1 (by omega)]; exact hc 1 _ rfl, by rw [← add_field _ _ 2 (by omega)]; exact hc 2 _ rfl, by rw [← add_field _ _ 3 (by omega)]; exact hc 3 _ rfl, by rw [← add_field _ _ 4 (by omega)]; exact hc 4 _ rfl, l4, g4⟩

def rd_L9 (xs : List (List S54)) (i : Int) : (List S54) := xs.getD i.toNat ([] : List S54)
theorem at_L9 {w : World} {A : Option Addr} {n : Nat} {xs : List (List S54)} (h : Kd.C (Kd.slice 54 k54) w A n xs) (i : Int) (h0 : 0 ≤ i) (h1 : i < n) : ∃ ad A0 c0, A = some ad ∧ w.cell? (ad.add i.toNat) = some (.slice A0 (rd_L9 xs i).length c0) ∧ (rd_L9 xs i).length ≤ c0 ∧ k54.C w A0 (rd_L9 xs i).length (rd_L9 xs i) := by
  obtain ⟨ad, c, e, _, hK, hc0⟩ := Kd.C_get h ([] : List S54) i h0 h1
  have hc : ∀ j u, c[j]? = some u → w.cell? (ad.add (i.toNat * 1 + j)) = some u := hc0
  obtain ⟨A0, c0, rfl, l0, g0⟩ := hK
  exact ⟨ad, A0, c0, e, by have hq := hc 0 _ rfl; rwa [Nat.mul_one, Nat.add_zero] at hq, l0, g0⟩

/-! #### struct type 52 -/
structure S52 where
  f0 : Int
  f1 : (List S54)
  f2 : S48
  f3 : Int
  f4 : Int
def z52 : S52 := ⟨(0 : Int), ([] : List S54), z48, (0 : Int), (0 : Int)⟩
def k52 : Kd S52 := Kd.iso (Kd.pair (Kd.int .i64) (Kd.pair (Kd.slice 54 k54) (Kd.pair k48 (Kd.pair (Kd.int .i64) (Kd.int .i64))))) (fun x : S52 => (x.f0, x.f1, x.f2, x.f3, x.f4))
theorem k52_heap : Kd.Heap k52 := Kd.heap_iso _ (Kd.heap_pair (Kd.heap_int .i64) (Kd.heap_pair (Kd.heap_slice 54 k54_heap) (Kd.heap_pair k48_heap (Kd.heap_pair (Kd.heap_int .i64) (Kd.heap_int .i64)))))
theorem k52_open {w : World} {x : S52} {cs : List Value} (h : k52.K w x cs) : ∃ A1 c1 A3 c3, cs = [.int .i64 x.f0, .slice A1 x.f1.length c1, .int .i64 x.f2.f0, .slice A3 x.f2.f1.length c3, .int .i64 x.f3, .int .i64 x.f4] ∧ x.f1.length ≤ c1 ∧ k54.C w A1 x.f1.length x.f1 ∧ x.f2.f1.length ≤ c3 ∧ (Kd.int .i64).C w A3 x.f2.f1.length x.f2.f1 := by
  obtain ⟨_, _, rfl, rfl, ⟨_, _, rfl, ⟨A1, c1, rfl, l1, g1⟩, ⟨_, _, rfl, s2, ⟨_, _, rfl, rfl, rfl⟩⟩⟩⟩ := h
  obtain ⟨A3, c3, rfl, l3, g3⟩ := k48_open s2
  exact ⟨A1, c1, A3, c3, rfl, l1, g1, l3, g3⟩
theorem k52_openM {w : World} {base : Nat} {ok : Nat → Prop} {x : S52} {cs : List Value} (h : k52.M w base ok x cs) : ∃ v1 v3, cs = [.int .i64 x.f0, v1, .int .i64 x.f2.f0, v3, .int .i64 x.f3, .int .i64 x.f4] ∧ k54.R 54 w base ok v1 x.f1 ∧ (Kd.int .i64).R 3 w base ok v3 x.f2.f1 := by
  obtain ⟨_, _, rfl, rfl, ⟨_, _, rfl, ⟨v1, rfl, g1⟩, ⟨_, _, rfl, s2, ⟨_, _, rfl, rfl, rfl⟩⟩⟩⟩ := h
  obtain ⟨v3, rfl, g3⟩ := k48_openM s2
  exact ⟨v1, v3, rfl, g1, g3⟩
theorem k52_mk (w : World) (x : S52) {A1 : Option Addr} {c1 : Nat} (l1 : x.f1.length ≤ c1) (g1 : k54.C w A1 x.f1.length x.f1) {A3 : Option Addr} {c3 : Nat} (l3 : x.f2.f1.length ≤ c3) (g3 : (Kd.int .i64).C w A3 x.f2.f1.length x.f2.f1) : k52.K w x [.int .i64 x.f0, .slice A1 x.f1.length c1, .int .i64 x.f2.f0, .slice A3 x.f2.f1.length c3, .int .i64 x.f3, .int .i64 x.f4] := ⟨[.int .i64 x.f0], [.slice A1 x.f1.length c1, .int .i64 x.f2.f0, .slice A3 x.f2.f1.length c3, .int .i64 x.f3, .int .i64 x.f4], rfl, rfl, ⟨[.slice A1 x.f1.length c1], [.int .i64 x.f2.f0, .slice A3 x.f2.f1.length c3, .int .i64 x.f3, .int .i64 x.f4], rfl, ⟨A1, c1, rfl, l1, g1⟩, ⟨[.int .i64 x.f2.f0, .slice A3 x.f2.f1.length c3], [.int .i64 x.f3, .int .i64 x.f4], rfl, (k48_mk w x.f2 l3 g3), ⟨[.int .i64 x.f3], [.int .i64 x.f4], rfl, rfl, rfl⟩⟩⟩⟩
theorem k52_mkM (w : World) (base : Nat) (ok : Nat → Prop) (x : S52) {v1 : Value} (g1 : k54.R 54 w base ok v1 x.f1) {v3 : Value} (g3 : (Kd.int .i64).R 3 w base ok v3 x.f2.f1) : k52.M w base ok x [.int .i64 x.f0, v1, .int .i64 x.f2.f0, v3, .int .i64 x.f3, .int .i64 x.f4] := ⟨[.int .i64 x.f0], [v1, .int .i64 x.f2.f0, v3, .int .i64 x.f3, .int .i64 x.f4], rfl, rfl, ⟨[v1], [.int .i64 x.f2.f0, v3, .int .i64 x.f3, .int .i64 x.f4], rfl, ⟨v1, rfl, g1⟩, ⟨[.int .i64 x.f2.f0, v3], [.int .i64 x.f3, .int .i64 x.f4], rfl, (k48_mkM w base ok x.f2 g3), ⟨[.int .i64 x.f3], [.int .i64 x.f4], rfl, rfl, rfl⟩⟩⟩⟩
theorem k52_openF {W : World} {ok : Nat → Prop} {x : S52} {cs : List Value} (h : Kd.FK k52 W ok x cs) : ∃ A1 c1 A3 c3, cs = [.int .i64 x.f0, .slice A1 x.f1.length c1, .int .i64 x.f2.f0, .slice A3 x.f2.f1.length c3, .int .i64 x.f3, .int .i64 x.f4] ∧ x.f1.length ≤ c1 ∧ Kd.F k54 W ok A1 x.f1.length x.f1 ∧ x.f2.f1.length ≤ c3 ∧ Kd.F (Kd.int .i64) W ok A3 x.f2.f1.length x.f2.f1 := by
  obtain ⟨A1, c1, A3, c3, rfl, l1, _, l3, _⟩ := k52_open (Kd.FK_now h)
  exact ⟨A1, c1, A3, c3, rfl, l1, (fun W' hW => by obtain ⟨A1_, c1_, A3_, c3_, he, l1_, g1_, l3_, g3_⟩ := k52_open (h W' hW); injection (Option.some.inj (show some (Value.slice A1 x.f1.length c1) = some (Value.slice A1_ x.f1.length c1_) from congrArg (fun l => l[1]?) he)) with ha_ _ _; rw [ha_]; exact g1_), l3, (fun W' hW => by obtain ⟨A1_, c1_, A3_, c3_, he, l1_, g1_, l3_, g3_⟩ := k52_open (h W' hW); injection (Option.some.inj (show some (Value.slice A3 x.f2.f1.length c3) = some (Value.slice A3_ x.f2.f1.length c3_) from congrArg (fun l => l[3]?) he)) with ha_ _ _; rw [ha_]; exact g3_)⟩
theorem k52_mkF (W : World) (ok : Nat → Prop) (x : S52) {A1 : Option Addr} {c1 : Nat} (l1 : x.f1.length ≤ c1) (g1 : Kd.F k54 W ok A1 x.f1.length x.f1) {A3 : Option Addr} {c3 : Nat} (l3 : x.f2.f1.length ≤ c3) (g3 : Kd.F (Kd.int .i64) W ok A3 x.f2.f1.length x.f2.f1) : Kd.FK k52 W ok x [.int .i64 x.f0, .slice A1 x.f1.length c1, .int .i64 x.f2.f0, .slice A3 x.f2.f1.length c3, .int .i64 x.f3, .int .i64 x.f4] := fun W2 hW => k52_mk W2 x l1 (g1 W2 hW) l3 (g3 W2 hW)
def rd_T52 (xs : List S52) (i : Int) : S52 := xs.getD i.toNat z52
theorem at_T52 {w : World} {A : Option Addr} {n : Nat} {xs : List S52} (h : Kd.C k52 w A n xs) (i : Int) (h0 : 0 ≤ i) (h1 : i < n) : ∃ ad A1 c1 A3 c3, A = some ad ∧ w.cell? (ad.add (i.toNat * 6)) = some (.int .i64 (rd_T52 xs i).f0) ∧ w.cell? ⟨(ad.add (i.toNat * 6)).block, (ad.add (i.toNat * 6)).off + 1, none⟩ = some (.slice A1 (rd_T52 xs i).f1.length c1) ∧ w.cell? ⟨(ad.add (i.toNat * 6)).block, (ad.add (i.toNat * 6)).off + 2, none⟩ = some (.int .i64 (rd_T52 xs i).f2.f0) ∧ w.cell? ⟨(ad.add (i.toNat * 6)).block, (ad.add (i.toNat * 6)).off + 3, none⟩ = some (.slice A3 (rd_T52 xs i).f2.f1.length c3) ∧ w.cell? ⟨(ad.add (i.toNat * 6)).block, (ad.add (i.toNat * 6)).off + 4, none⟩ = some (.int .i64 (rd_T52 xs i).f3) ∧ w.cell? ⟨(ad.add (i.toNat * 6)).block, (ad.add (i.toNat * 6)).off + 5, none⟩ = some (.int .i64 (rd_T52 xs i).f4) ∧ (rd_T52 xs i).f1.length ≤ c1 ∧ k54.C w A1 (rd_T52 xs i).f1.length (rd_T52 xs i).f1 ∧ (rd_T52 xs i).f2.f1.length ≤ c3 ∧ (Kd.int .i64).C w A3 (rd_T52 xs i).f2.f1.length (rd_T52 xs i).f2.f1 := by
  obtain ⟨ad, c, e, _, hK, hc0⟩ := Kd.C_get h z52 i h0 h1
  have hc : ∀ j u, c[j]? = some u → w.cell? (ad.add (i.toNat * 6 + j)) = some u := hc0
  obtain ⟨A1, c1, A3, c3, rfl, l1, g1, l3, g3⟩ := k52_open hK
  exact ⟨ad, A1, c1, A3, c3, e, hc 0 _ rfl, by rw [← add_field _ _ 1 (by omega)]; exact hc 1 _ rfl, by rw [← add_field _ _ 2 (by omega)]; exact hc 2 _ rfl, by rw [← add_field _ _ 3 (by omega)]; exact hc 3 _ rfl, by rw [← add_field _ _ 4 (by omega)]; exact hc 4 _ rfl, by rw [← add_field _ _ 5 (by omega)]; exact hc 5 _ rfl, l1, g1, l3, g3⟩

/-! #### struct type 71 -/
structure S71 where
  f0 : Int
  f1 : Int
  f2 : S48
  f3 : S52
  f4 : S54
def z71 : S71 := ⟨(0 : Int), (0 : Int), z48, z52, z54⟩
def k71 : Kd S71 := Kd.iso (Kd.pair (Kd.int .i64) (Kd.pair (Kd.int .i64) (Kd.pair k48 (Kd.pair k52 k54)))) (fun x : S71 => (x.f0, x.f1, x.f2, x.f3, x.f4))
theorem k71_heap : Kd.Heap k71 := Kd.heap_iso _ (Kd.heap_pair (Kd.heap_int .i64) (Kd.heap_pair (Kd.heap_int .i64) (Kd.heap_pair k48_heap (Kd.heap_pair k52_heap k54_heap))))
theorem k71_open {w : World} {x : S71} {cs : List Value} (h : k71.K w x cs) : ∃ A3 c3 A5 c5 A7 c7 A14 c14, cs = [.int .i64 x.f0, .int .i64 x.f1, .int .i64 x.f2.f0, .slice A3 x.f2.f1.length c3, .int .i64 x.f3.f0, .slice A5 x.f3.f1.length c5, .int .i64 x.f3.f2.f0, .slice A7 x.f3.f2.f1.length c7, .int .i64 x.f3.f3, .int .i64 x.f3.f4, .bool x.f4.f0, .int .i64 x.f4.f1, .bool x.f4.f2, .int .i64 x.f4.f3.f0, .slice A14 x.f4.f3.f1.length c14] ∧ x.f2.f1.length ≤ c3 ∧ (Kd.int .i64).C w A3 x.f2.f1.length x.f2.f1 ∧ x.f3.f1.length ≤ c5 ∧ k54.C w A5 x.f3.f1.length x.f3.f1 ∧ x.f3.f2.f1.length ≤ c7 ∧ (Kd.int .i64).C w A7 x.f3.f2.f1.length x.f3.f2.f1 ∧ x.f4.f3.f1.length ≤ c14 ∧ (Kd.int .i64).C w A14 x.f4.f3.f1.length x.f4.f3.f1 := by
  obtain ⟨_, _, rfl, rfl, ⟨_, _, rfl, rfl, ⟨_, _, rfl, s2, ⟨_, _, rfl, s4, s10⟩⟩⟩⟩ := h
  obtain ⟨A3, c3, rfl, l3, g3⟩ := k48_open s2
  obtain ⟨A5, c5, A7, c7, rfl, l5, g5, l7, g7⟩ := k52_open s4
  obtain ⟨A14, c14, rfl, l14, g14⟩ := k54_open s10
  exact ⟨A3, c3, A5, c5, A7, c7, A14, c14, rfl, l3, g3, l5, g5, l7, g7, l14, g14⟩
theorem k71_openM {w : World} {base : Nat} {ok : Nat → Prop} {x : S71} {cs : List Value} (h : k71.M w base ok x cs) : ∃ v3 v5 v7 v14, cs = [.int .i64 x.f0, .int .i64 x.f1, .int .i64 x.f2.f0, v3, .int .i64 x.f3.f0, v5, .int .i64 x.f3.f2.f0, v7, .int .i64 x.f3.f3, .int .i64 x.f3.f4, .bool x.f4.f0, .int .i64 x.f4.f1, .bool x.f4.f2, .int .i64 x.f4.f3.f0, v14] ∧ (Kd.int .i64).R 3 w base ok v3 x.f2.f1 ∧ k54.R 54 w base ok v5 x.f3.f1 ∧ (Kd.int .i64).R 3 w base ok v7 x.f3.f2.f1 ∧ (Kd.int .i64).R 3 w base ok v14 x.f4.f3.f1 := by
  obtain ⟨_, _, rfl, rfl, ⟨_, _, rfl, rfl, ⟨_, _, rfl, s2, ⟨_, _, rfl, s4, s10⟩⟩⟩⟩ := h
  obtain ⟨v3, rfl, g3⟩ := k48_openM s2
  obtain ⟨v5, v7, rfl, g5, g7⟩ := k52_openM s4
  obtain ⟨v14, rfl, g14⟩ := k54_openM s10
  exact ⟨v3, v5, v7, v14, rfl, g3, g5, g7, g14⟩
theorem k71_mk (w : World) (x : S71) {A3 : Option Addr} {c3 : Nat} (l3 : x.f2.f1.length ≤ c3) (g3 : (Kd.int .i64).C w A3 x.f2.f1.length x.f2.f1) {A5 : Option Addr} {c5 : Nat} (l5 : x.f3.f1.length ≤ c5) (g5 : k54.C w A5 x.f3.f1.length x.f3.f1) {A7 : Option Addr} {c7 : Nat} (l7 : x.f3.f2.f1.length ≤ c7) (g7 : (Kd.int .i64).C w A7 x.f3.f2.f1.length x.f3.f2.f1) {A14 : Option Addr} {c14 : Nat} (l14 : x.f4.f3.f1.length ≤ c14) (g14 : (Kd.int .i64).C w A14 x.f4.f3.f1.length x.f4.f3.f1) : k71.K w x [.int .i64 x.f0, .int .i64 x.f1, .int .i64 x.f2.f0, .slice A3 x.f2.f1.length c3, .int .i64 x.f3.f0, .slice A5 x.f3.f1.length c5, .int .i64 x.f3.f2.f0, .slice A7 x.f3.f2.f1.length c7, .int .i64 x.f3.f3, .int .i64 x.f3.f4, .bool x.f4.f0, .int .i64 x.f4.f1, .bool x.f4.f2, .int .i64 x.f4.f3.f0, .slice A14 x.f4.f3.f1.length c14] := ⟨[.int .i64 x.f0], [.int .i64 x.f1, .int .i64 x.f2.f0, .slice A3 x.f2.f1.length c3, .int .i64 x.f3.f0, .slice A5 x.f3.f1.length c5, .int .i64 x.f3.f2.f0, .slice A7 x.f3.f2.f1.length c7, .int .i64 x.f3.f3, .int .i64 x.f3.f4, .bool x.f4.f0, .int .i64 x.f4.f1, .bool x.f4.f2, .int .i64 x.f4.f3.f0, .slice A14 x.f4.f3.f1.length c14], rfl, rfl, ⟨[.int .i64 x.f1], [.int .i64 x.f2.f0, .slice A3 x.f2.f1.length c3, .int .i64 x.f3.f0, .slice A5 x.f3.f1.length c5, .int .i64 x.f3.f2.f0, .slice A7 x.f3.f2.f1.length c7, .int .i64 x.f3.f3, .int .i64 x.f3.f4, .bool x.f4.f0, .int .i64 x.f4.f1, .bool x.f4.f2, .int .i64 x.f4.f3.f0, .slice A14 x.f4.f3.f1.length c14], rfl, rfl, ⟨[.int .i64 x.f2.f0, .slice A3 x.f2.f1.length c3], [.int .i64 x.f3.f0, .slice A5 x.f3.f1.length c5, .int .i64 x.f3.f2.f0, .slice A7 x.f3.f2.f1.length c7, .int .i64 x.f3.f3, .int .i64 x.f3.f4, .bool x.f4.f0, .int .i64 x.f4.f1, .bool x.f4.f2, .int .i64 x.f4.f3.f0, .slice A14 x.f4.f3.f1.length c14], rfl, (k48_mk w x.f2 l3 g3), ⟨[.int .i64 x.f3.f0, .slice A5 x.f3.f1.length c5, .int .i64 x.f3.f2.f0, .slice A7 x.f3.f2.f1.length c7, .int .i64 x.f3.f3, .int .i64 x.f3.f4], [.bool x.f4.f0, .int .i64 x.f4.f1, .bool x.f4.f2, .int .i64 x.f4.f3.f0, .slice A14 x.f4.f3.f1.length c14], rfl, (k52_mk w x.f3 l5 g5 l7 g7), (k54_mk w x.f4 l14 g14)⟩⟩⟩⟩
theorem k71_mkM (w : World) (base : Nat) (ok : Nat → Prop) (x : S71) {v3 : Value} (g3 : (Kd.int .i64).R 3 w base ok v3 x.f2.f1) {v5 : Value} (g5 : k54.R 54 w base ok v5 x.f3.f1) {v7 : Value} (g7 : (Kd.int .i64).R 3 w base ok v7 x.f3.f2.f1) {v14 : Value} (g14 : (Kd.int .i64).R 3 w base ok v14 x.f4.f3.f1) : k71.M w base ok x [.int .i64 x.f0, .int .i64 x.f1, .int .i64 x.f2.f0, v3, .int .i64 x.f3.f0, v5, .int .i64 x.f3.f2.f0, v7, .int .i64 x.f3.f3, .int .i64 x.f3.f4, .bool x.f4.f0, .int .i64 x.f4.f1, .bool x.f4.f2, .int .i64 x.f4.f3.f0, v14] := ⟨[.int .i64 x.f0], [.int .i64 x.f1, .int .i64 x.f2.f0, v3, .int .i64 x.f3.f0, v5, .int .i64 x.f3.f2.f0, v7, .int .i64 x.f3.f3, .int .i64 x.f3.f4, .bool x.f4.f0, .int .i64 x.f4.f1, .bool x.f4.f2, .int .i64 x.f4.f3.f0, v14], rfl, rfl, ⟨[.int .i64 x.f1], [.int .i64 x.f2.f0, v3, .int .i64 x.f3.f0, v5, .int .i64 x.f3.f2.f0, v7, .int .i64 x.f3.f3, .int .i64 x.f3.f4, .bool x.f4.f0, .int .i64 x.f4.f1, .bool x.f4.f2, .int .i64 x.f4.f3.f0, v14], rfl, rfl, ⟨[.int .i64 x.f2.f0, v3], [.int .i64 x.f3.f0, v5, .int .i64 x.f3.f2.f0, v7, .int .i64 x.f3.f3, .int .i64 x.f3.f4, .bool x.f4.f0, .int .i64 x.f4.f1, .bool x.f4.f2, .int .i64 x.f4.f3.f0, v14], rfl, (k48_mkM w base ok x.f2 g3), ⟨[.int .i64 x.f3.f0, v5, .int .i64 x.f3.f2.f0, v7, .int .i64 x.f3.f3, .int .i64 x.f3.f4], [.bool x.f4.f0, .int .i64 x.f4.f1, .bool x.f4.f2, .int .i64 x.f4.f3.f0, v14], rfl, (k52_mkM w base ok x.f3 g5 g7), (k54_mkM w base ok x.f4 g14)⟩⟩⟩⟩
theorem k71_openF {W : World} {ok : Nat → Prop} {x : S71} {cs : List Value} (h : Kd.FK k71 W ok x cs) : ∃ A3 c3 A5 c5 A7 c7 A14 c14, cs = [.int .i64 x.f0, .int .i64 x.f1, .int .i64 x.f2.f0, .slice A3 x.f2.f1.length c3, .int .i64 x.f3.f0, .slice A5 x.f3.f1.length c5, .int .i64 x.f3.f2.f0, .slice A7 x.f3.f2.f1.length c7, .int .i64 x.f3.f3, .int .i64 x.f3.f4, .bool x.f4.f0, .int .i64 x.f4.f1, .bool x.f4.f2, .int .i64 x.f4.f3.f0, .slice A14 x.f4.f3.f1.length c14] ∧ x.f2.f1.length ≤ c3 ∧ Kd.F (Kd.int .i64) W ok A3 x.f2.f1.length x.f2.f1 ∧ x.f3.f1.length ≤ c5 ∧ Kd.F k54 W ok A5 x.f3.f1.length x.f3.f1 ∧ x.f3.f2.f1.length ≤ c7 ∧ Kd.F (Kd.int .i64) W ok A7 x.f3.f2.f1.length x.f3.f2.f1 ∧ x.f4.f3.f1.length ≤ c14 ∧ Kd.F (Kd.int .i64) W ok A14 x.f4.f3.f1.length x.f4.f3.f1 := by
  obtain ⟨A3, c3, A5, c5, A7, c7, A14, c14, rfl, l3, _, l5, _, l7, _, l14, _⟩ := k71_open (Kd.FK_now h)
  exact ⟨A3, c3, A5, c5, A7, c7, A14, c14, rfl, l3, (fun W' hW => by obtain ⟨A3_, c3_, A5_, c5_, A7_, c7_, A14_, c14_, he, l3_, g3_, l5_, g5_, l7_, g7_, l14_, g14_⟩ := k71_open (h W' hW); injection (Option.some.inj (show some (Value.slice A3 x.f2.f1.length c3) = some (Value.slice A3_ x.f2.f1.length c3_) from congrArg (fun l => l[3]?) he)) with ha_ _ _; rw [ha_]; exact g3_), l5, (fun W' hW => by obtain ⟨A3_, c3_, A5_, c5_, A7_, c7_, A14_, c14_, he, l3_, g3_, l5_, g5_, l7_, g7_, l14_, g14_⟩ := k71_open (h W' hW); injection (Option.some.inj (show some (Value.slice A5 x.f3.f1.length c5) = some (Value.slice A5_ x.f3.f1.length c5_) from congrArg (fun l => l[5]?) he)) with ha_ _ _; rw [ha_]; exact g5_), l7, (fun W' hW => by obtain ⟨A3_, c3_, A5_, c5_, A7_, c7_, A14_, c14_, he, l3_, g3_, l5_, g5_, l7_, g7_, l14_, g14_⟩ := k71_open (h W' hW); injection (Option.some.inj (show some (Value.slice A7 x.f3.f2.f1.length c7) = some (Value.slice A7_ x.f3.f2.f1.length c7_) from congrArg (fun l => l[7]?) he)) with ha_ _ _; rw [ha_]; exact g7_), l14, (fun W' hW => by obtain ⟨A3_, c3_, A5_, c5_, A7_, c7_, A14_, c14_, he, l3_, g3_, l5_, g5_, l7_, g7_, l14_, g14_⟩ := k71_open (h W' hW); injection (Option.some.inj (show some (Value.slice A14 x.f4.f3.f1.length c14) = some (Value.slice A14_ x.f4.f3.f1.length c14_) from congrArg (fun l => l[14]?) he)) with ha_ _ _; rw [ha_]; exact g14_)⟩
theorem k71_mkF (W : World) (ok : Nat → Prop) (x : S71) {A3 : Option Addr} {c3 : Nat} (l3 : x.f2.f1.length ≤ c3) (g3 : Kd.F (Kd.int .i64) W ok A3 x.f2.f1.length x.f2.f1) {A5 : Option Addr} {c5 : Nat} (l5 : x.f3.f1.length ≤ c5) (g5 : Kd.F k54 W ok A5 x.f3.f1.length x.f3.f1) {A7 : Option Addr} {c7 : Nat} (l7 : x.f3.f2.f1.length ≤ c7) (g7 : Kd.F (Kd.int .i64) W ok A7 x.f3.f2.f1.length x.f3.f2.f1) {A14 : Option Addr} {c14 : Nat} (l14 : x.f4.f3.f1.length ≤ c14) (g14 : Kd.F (Kd.int .i64) W ok A14 x.f4.f3.f1.length x.f4.f3.f1) : Kd.FK k71 W ok x [.int .i64 x.f0, .int .i64 x.f1, .int .i64 x.f2.f0, .slice A3 x.f2.f1.length c3, .int .i64 x.f3.f0, .slice A5 x.f3.f1.length c5, .int .i64 x.f3.f2.f0, .slice A7 x.f3.f2.f1.length c7, .int .i64 x.f3.f3, .int .i64 x.f3.f4, .bool x.f4.f0, .int .i64 x.f4.f1, .bool x.f4.f2, .int .i64 x.f4.f3.f0, .slice A14 x.f4.f3.f1.length c14] := fun W2 hW => k71_mk W2 x l3 (g3 W2 hW) l5 (g5 W2 hW) l7 (g7 W2 hW) l14 (g14 W2 hW)
def rd_T71 (xs : List S71) (i : Int) : S71 := xs.getD i.toNat z71
theorem at_T71 {w : World} {A : Option Addr} {n : Nat} {xs : List S71} (h : Kd.C k71 w A n xs) (i : Int) (h0 : 0 ≤ i) (h1 : i < n) : ∃ ad A3 c3 A5 c5 A7 c7 A14 c14, A = some ad ∧ w.cell? (ad.add (i.toNat * 15)) = some (.int .i64 (rd_T71 xs i).f0) ∧ w.cell? ⟨(ad.add (i.toNat * 15)).block, (ad.add (i.toNat * 15)).off + 1, none⟩ = some (.int .i64 (rd_T71 xs i).f1) ∧ w.cell? ⟨(ad.add (i.toNat * 15)).block, (ad.add (i.toNat * 15)).off + 2, none⟩ = some (.int .i64 (rd_T71 xs i).f2.f0) ∧ w.cell? ⟨(ad.add (i.toNat * 15)).block, (ad.add (i.toNat * 15)).off + 3, none⟩ = some (.slice A3 (rd_T71 xs i).f2.f1.length c3) ∧ w.cell? ⟨(ad.add (i.toNat * 15)).block, (ad.add (i.toNat * 15)).off + 4, none⟩ = some (.int .i64 (rd_T71 xs i).f3.f0) ∧ w.cell? ⟨(ad.add (i.toNat * 15)).block, (ad.add (i.toNat * 15)).off + 5, none⟩ = some (.slice A5 (rd_T71 xs i).f3.f1.length c5) ∧ w.cell? ⟨(ad.add (i.toNat * 15)).block, (ad.add (i.toNat * 15)).off + 6, none⟩ = some (.int .i64 (rd_T71 xs i).f3.f2.f0) ∧ w.cell? ⟨(ad.add (i.toNat * 15)).block, (ad.add (i.toNat * 15)).off + 7, none⟩ = some (.slice A7 (rd_T71 xs i).f3.f2.f1.length c7) ∧ w.cell? ⟨(ad.add (i.toNat * 15)).block, (ad.add (i.toNat * 15)).off + 8, none⟩ = some (.int .i64 (rd_T71 xs i).f3.f3) ∧ w.cell? ⟨(ad.add (i.toNat * 15)).block, (ad.add (i.toNat * 15)).off + 9, none⟩ = some (.int .i64 (rd_T71 xs i).f3.f4) ∧ w.cell? ⟨(ad.add (i.toNat * 15)).block, (ad.add (i.toNat * 15)).off + 10, none⟩ = some (.bool (rd_T71 xs i).f4.f0) ∧ w.cell? ⟨(ad.add (i.toNat * 15)).block, (ad.add (i.toNat * 15)).off + 11, none⟩ = some (.int .i64 (rd_T71 xs i).f4.f1) ∧ w.cell? ⟨(ad.add (i.toNat * 15)).block, (ad.add (i.toNat * 15)).off + 12, none⟩ = some (.bool (rd_T71 xs i).f4.f2) ∧ w.cell? ⟨(ad.add (i.toNat * 15)).block, (ad.add (i.toNat * 15)).off + 13, none⟩ = some (.int .i64 (rd_T71 xs i).f4.f3.f0) ∧ w.cell? ⟨(ad.add (i.toNat * 15)).block, (ad.add (i.toNat * 15)).off + 14, none⟩ = some (.slice A14 (rd_T71 xs i).f4.f3.f1.length c14) ∧ (rd_T71 xs i).f2.f1.length ≤ c3 ∧ (Kd.int .i64).C w A3 (rd_T71 xs i).f2.f1.length (rd_T71 xs i).f2.f1 ∧ (rd_T71 xs i).f3.f1.length ≤ c5 ∧ k54.C w A5 (rd_T71 xs i).f3.f1.length (rd_T71 xs i).f3.f1 ∧ (rd_T71 xs i).f3.f2.f1.length ≤ c7 ∧ (Kd.int .i64).C w A7 (rd_T71 xs i).f3.f2.f1.length (rd_T71 xs i).f3.f2.f1 ∧ (rd_T71 xs i).f4.f3.f1.length ≤ c14 ∧ (Kd.int .i64).C w A14 (rd_T71 xs i).f4.f3.f1.length (rd_T71 xs i).f4.f3.f1 := by
  obtain ⟨ad, c, e, _, hK, hc0⟩ := Kd.C_get h z71 i h0 h1
  have hc : ∀ j u, c[j]? = some u → w.cell? (ad.add (i.toNat * 15 + j)) = some u := hc0
  obtain ⟨A3, c3, A5, c5, A7, c7, A14, c14, rfl, l3, g3, l5, g5, l7, g7, l14, g14⟩ := k71_open hK
  exact ⟨ad, A3, c3, A5, c5, A7, c7, A14, c14, e, hc 0 _ rfl, by rw [← add_field _ _ 1 (by omega)]; exact hc 1 _ rfl, by rw [← add_field _ _ 2 (by omega)]; exact hc 2 _ rfl, by rw [← add_field _ _ 3 (by omega)]; exact hc 3 _ rfl, by rw [← add_field _ _ 4 (by omega)]; exact hc 4 _ rfl, by rw [← add_field _ _ 5 (by omega)]; exact hc 5 _ rfl, by rw [← add_field _ _ 6 (by omega)]; exact hc 6 _ rfl, by rw [← add_field _ _ 7 (by omega)]; exact hc 7 _ rfl, by rw [← add_field _ _ 8 (by omega)]; exact hc 8 _ rfl, by rw [← add_field _ _ 9 (by omega)]; exact hc 9 _ rfl, by rw [← add_field _ _ 10 (by omega)]; exact hc 10 _ rfl, by rw [← add_field _ _ 11 (by omega)]; exact hc 11 _ rfl, by rw [← add_field _ _ 12 (by omega)]; exact hc 12 _ rfl, by rw [← add_field _ _ 13 (by omega)]; exact hc 13 _ rfl, by rw [← add_field _ _ 14 (by omega)]; exact hc 14 _ rfl, l3, g3, l5, g5, l7, g7, l14, g14⟩

def rd_L12 (xs : List (List S71)) (i : Int) : (List S71) := xs.getD i.toNat ([] : List S71)
theorem at_L12 {w : World} {A : Option Addr} {n : Nat} {xs : List (List S71)} (h : Kd.C (Kd.slice 71 k71) w A n xs) (i : Int) (h0 : 0 ≤ i) (h1 : i < n) : ∃ ad A0 c0, A = some ad ∧ w.cell? (ad.add i.toNat) = some (.slice A0 (rd_L12 xs i).length c0) ∧ (rd_L12 xs i).length ≤ c0 ∧ k71.C w A0 (rd_L12 xs i).length (rd_L12 xs i) := by
  obtain ⟨ad, c, e, _, hK, hc0⟩ := Kd.C_get h ([] : List S71) i h0 h1
  have hc : ∀ j u, c[j]? = some u → w.cell? (ad.add (i.toNat * 1 + j)) = some u := hc0
  obtain ⟨A0, c0, rfl, l0, g0⟩ := hK
  exact ⟨ad, A0, c0, e, by have hq := hc 0 _ rfl; rwa [Nat.mul_one, Nat.add_zero] at hq, l0, g0⟩

/-! #### struct type 56 -/
structure S56 where
  f0 : Int
  f1 : Int
  f2 : S48
  f3 : S52
  f4 : S54
  f5 : (List Int)
def z56 : S56 := ⟨(0 : Int), (0 : Int), z48, z52, z54, ([] : List Int)⟩
def k56 : Kd S56 := Kd.iso (Kd.pair (Kd.int .i64) (Kd.pair (Kd.int .i64) (Kd.pair k48 (Kd.pair k52 (Kd.pair k54 (Kd.slice 3 (Kd.int .i64))))))) (fun x : S56 => (x.f0, x.f1, x.f2, x.f3, x.f4, x.f5))
theorem k56_heap : Kd.Heap k56 := Kd.heap_iso _ (Kd.heap_pair (Kd.heap_int .i64) (Kd.heap_pair (Kd.heap_int .i64) (Kd.heap_pair k48_heap (Kd.heap_pair k52_heap (Kd.heap_pair k54_heap (Kd.heap_slice 3 (Kd.heap_int .i64)))))))
theorem k56_open {w : World} {x : S56} {cs : List Value} (h : k56.K w x cs) : ∃ A3 c3 A5 c5 A7 c7 A14 c14 A15 c15, cs = [.int .i64 x.f0, .int .i64 x.f1, .int .i64 x.f2.f0, .slice A3 x.f2.f1.length c3, .int .i64 x.f3.f0, .slice A5 x.f3.f1.length c5, .int .i64 x.f3.f2.f0, .slice A7 x.f3.f2.f1.length c7, .int .i64 x.f3.f3, .int .i64 x.f3.f4, .bool x.f4.f0, .int .i64 x.f4.f1, .bool x.f4.f2, .int .i64 x.f4.f3.f0, .slice A14 x.f4.f3.f1.length c14, .slice A15 x.f5.length c15] ∧ x.f2.f1.length ≤ c3 ∧ (Kd.int .i64).C w A3 x.f2.f1.length x.f2.f1 ∧ x.f3.f1.length ≤ c5 ∧ k54.C w A5 x.f3.f1.length x.f3.f1 ∧ x.f3.f2.f1.length ≤ c7 ∧ (Kd.int .i64).C w A7 x.f3.f2.f1.length x.f3.f2.f1 ∧ x.f4.f3.f1.length ≤ c14 ∧ (Kd.int .i64).C w A14 x.f4.f3.f1.length x.f4.f3.f1 ∧ x.f5.length ≤ c15 ∧ (Kd.int .i64).C w A15 x.f5.length x.f5 := by
  obtain ⟨_, _, rfl, rfl, ⟨_, _, rfl, rfl, ⟨_, _, rfl, s2, ⟨_, _, rfl, s4, ⟨_, _, rfl, s10, ⟨A15, c15, rfl, l15, g15⟩⟩⟩⟩⟩⟩ := h
  obtain ⟨A3, c3, rfl, l3, g3⟩ := k48_open s2
  obtain ⟨A5, c5, A7, c7, rfl, l5, g5, l7, g7⟩ := k52_open s4
  obtain ⟨A14, c14, rfl, l14, g14⟩ := k54_open s10
  exact ⟨A3, c3, A5, c5, A7, c7, A14, c14, A15, c15, rfl, l3, g3, l5, g5, l7, g7, l14, g14, l15, g15⟩
theorem k56_openM {w : World} {base : Nat} {ok : Nat → Prop} {x : S56} {cs : List Value} (h : k56.M w base ok x cs) : ∃ v3 v5 v7 v14 v15, cs = [.int .i64 x.f0, .int .i64 x.f1, .int .i64 x.f2.f0, v3, .int .i64 x.f3.f0, v5, .int .i64 x.f3.f2.f0, v7, .int .i64 x.f3.f3, .int .i64 x.f3.f4, .bool x.f4.f0, .int .i64 x.f4.f1, .bool x.f4.f2, .int .i64 x.f4.f3.f0, v14, v15] ∧ (Kd.int .i64).R 3 w base ok v3 x.f2.f1 ∧ k54.R 54 w base ok v5 x.f3.f1 ∧ (Kd.int .i64).R 3 w base ok v7 x.f3.f2.f1 ∧ (Kd.int .i64).R 3 w base ok v14 x.f4.f3.f1 ∧ (Kd.int .i64).R 3 w base ok v15 x.f5 := by
  obtain ⟨_, _, rfl, rfl, ⟨_, _, rfl, rfl, ⟨_, _, rfl, s2, ⟨_, _, rfl, s4, ⟨_, _, rfl, s10, ⟨v15, rfl, g15⟩⟩⟩⟩⟩⟩ := h
  obtain ⟨v3, rfl, g3⟩ := k48_openM s2
  obtain ⟨v5, v7, rfl, g5, g7⟩ := k52_openM s4
  obtain ⟨v14, rfl, g14⟩ := k54_openM s10
  exact ⟨v3, v5, v7, v14, v15, rfl, g3, g5, g7, g14, g15⟩
theorem k56_mk (w : World) (x : S56) {A3 : Option Addr} {c3 : Nat} (l3 : x.f2.f1.length ≤ c3) (g3 : (Kd.int .i64).C w A3 x.f2.f1.length x.f2.f1) {A5 : Option Addr} {c5 : Nat} (l5 : x.f3.f1.length ≤ c5) (g5 : k54.C w A5 x.f3.f1.length x.f3.f1) {A7 : Option Addr} {c7 : Nat} (l7 : x.f3.f2.f1.length ≤ c7) (g7 : (Kd.int .i64).C w A7 x.f3.f2.f1.length x.f3.f2.f1) {A14 : Option Addr} {c14 : Nat} (l14 : x.f4.f3.f1.length ≤ c14) (g14 : (Kd.int .i64).C w A14 x.f4.f3.f1.length x.f4.f3.f1) {A15 : Option Addr} {c15 : Nat} (l15 : x.f5.length ≤ c15) (g15 : (Kd.int .i64).C w A15 x.f5.length x.f5) : k56.K w x [.int .i64 x.f0, .int .i64 x.f1, .int .i64 x.f2.f0, .slice A3 x.f2.f1.length c3, .int .i64 x.f3.f0, .slice A5 x.f3.f1.length c5, .int .i64 x.f3.f2.f0, .slice A7 x.f3.f2.f1.length c7, .int .i64 x.f3.f3, .int .i64 x.f3.f4, .bool x.f4.f0, .int .i64 x.f4.f1, .bool x.f4.f2, .int .i64 x.f4.f3.f0, .slice A14 x.f4.f3.f1.length c14, .slice A15 x.f5.length c15] := ⟨[.int .i64 x.f0], [.int .i64 x.f1, .int .i64 x.f2.f0, .slice A3 x.f2.f1.length c3, .int .i64 x.f3.f0, .slice A5 x.f3.f1.length c5, .int .i64 x.f3.f2.f0, .slice A7 x.f3.f2.f1.length c7, .int .i64 x.f3.f3, .int .i64 x.f3.f4, .bool x.f4.f0, .int .i64 x.f4.f1, .bool x.f4.f2, .int .i64 x.f4.f3.f0, .slice A14 x.f4.f3.f1.length c14, .slice A15 x.f5.length c15], rfl, rfl, ⟨[.int .i64 x.f1], [.int .i64 x.f2.f0, .slice A3 x.f2.f1.length c3, .int .i64 x.f3.f0, .slice A5 x.f3.f1.length c5, .int .i64 x.f3.f2.f0, .slice A7 x.f3.f2.f1.length c7, .int .i64 x.f3.f3, .int .i64 x.f3.f4, .bool x.f4.f0, .int .i64 x.f4.f1, .bool x.f4.f2, .int .i64 x.f4.f3.f0, .slice A14 x.f4.f3.f1.length c14, .slice A15 x.f5.length c15], rfl, rfl, ⟨[.int .i64 x.f2.f0, .slice A3 x.f2.f1.length c3], [.int .i64 x.f3.f0, .slice A5 x.f3.f1.length c5, .int .i64 x.f3.f2.f0, .slice A7 x.f3.f2.f1.length c7, .int .i64 x.f3.f3, .int .i64 x.f3.f4, .bool x.f4.f0, .int .i64 x.f4.f1, .bool x.f4.f2, .int .i64 x.f4.f3.f0, .slice A14 x.f4.f3.f1.length c14, .slice A15 x.f5.length c15], rfl, (k48_mk w x.f2 l3 g3), ⟨[.int .i64 x.f3.f0, .slice A5 x.f3.f1.length c5, .int .i64 x.f3.f2.f0, .slice A7 x.f3.f2.f1.length c7, .int .i64 x.f3.f3, .int .i64 x.f3.f4], [.bool x.f4.f0, .int .i64 x.f4.f1, .bool x.f4.f2, .int .i64 x.f4.f3.f0, .slice A14 x.f4.f3.f1.length c14, .slice A15 x.f5.length c15], rfl, (k52_mk w x.f3 l5 g5 l7 g7), ⟨[.bool x.f4.f0, .int .i64 x.f4.f1, .bool x.f4.f2, .int .i64 x.f4.f3.f0, .slice A14 x.f4.f3.f1.length c14], [.slice A15 x.f5.length c15], rfl, (k54_mk w x.f4 l14 g14), ⟨A15, c15, rfl, l15, g15⟩⟩⟩⟩⟩⟩
theorem k56_mkM (w : World) (base : Nat) (ok : Nat → Prop) (x : S56) {v3 : Value} (g3 : (Kd.int .i64).R 3 w base ok v3 x.f2.f1) {v5 : Value} (g5 : k54.R 54 w base ok v5 x.f3.f1) {v7 : Value} (g7 : (Kd.int .i64).R 3 w base ok v7 x.f3.f2.f1) {v14 : Value} (g14 : (Kd.int .i64).R 3 w base ok v14 x.f4.f3.f1) {v15 : Value} (g15 : (Kd.int .i64).R 3 w base ok v15 x.f5) : k56.M w base ok x [.int .i64 x.f0, .int .i64 x.f1, .int .i64 x.f2.f0, v3, .int .i64 x.f3.f0, v5, .int .i64 x.f3.f2.f0, v7, .int .i64 x.f3.f3, .int .i64 x.f3.f4, .bool x.f4.f0, .int .i64 x.f4.f1, .bool x.f4.f2, .int .i64 x.f4.f3.f0, v14, v15] := ⟨[.int .i64 x.f0], [.int .i64 x.f1, .int .i64 x.f2.f0, v3, .int .i64 x.f3.f0, v5, .int .i64 x.f3.f2.f0, v7, .int .i64 x.f3.f3, .int .i64 x.f3.f4, .bool x.f4.f0, .int .i64 x.f4.f1, .bool x.f4.f2, .int .i64 x.f4.f3.f0, v14, v15], rfl, rfl, ⟨[.int .i64 x.f1], [.int .i64 x.f2.f0, v3, .int .i64 x.f3.f0, v5, .int .i64 x.f3.f2.f0, v7, .int .i64 x.f3.f3, .int .i64 x.f3.f4, .bool x.f4.f0, .int .i64 x.f4.f1, .bool x.f4.f2, .int .i64 x.f4.f3.f0, v14, v15], rfl, rfl, ⟨[.int .i64 x.f2.f0, v3], [.int .i64 x.f3.f0, v5, .int .i64 x.f3.f2.f0, v7, .int .i64 x.f3.f3, .int .i64 x.f3.f4, .bool x.f4.f0, .int .i64 x.f4.f1, .bool x.f4.f2, .int .i64 x.f4.f3.f0, v14, v15], rfl, (k48_mkM w base ok x.f2 g3), ⟨[.int .i64 x.f3.f0, v5, .int .i64 x.f3.f2.f0, v7, .int .i64 x.f3.f3, .int .i64 x.f3.f4], [.bool x.f4.f0, .int .i64 x.f4.f1, .bool x.f4.f2, .int .i64 x.f4.f3.f0, v14, v15], rfl, (k52_mkM w base ok x.f3 g5 g7), ⟨[.bool x.f4.f0, .int .i64 x.f4.f1, .bool x.f4.f2, .int .i64 x.f4.f3.f0, v14], [v15], rfl, (k54_mkM w base ok x.f4 g14), ⟨v15, rfl, g15⟩⟩⟩⟩⟩⟩
theorem k56_openF {W : World} {ok : Nat → Prop} {x : S56} {cs : List Value} (h : Kd.FK k56 W ok x cs) : ∃ A3 c3 A5 c5 A7 c7 A14 c14 A15 c15, cs = [.int .i64 x.f0, .int .i64 x.f1, .int .i64 x.f2.f0, .slice A3 x.f2.f1.length c3, .int .i64 x.f3.f0, .slice A5 x.f3.f1.length c5, .int .i64 x.f3.f2.f0, .slice A7 x.f3.f2.f1.length c7, .int .i64 x.f3.f3, .int .i64 x.f3.f4, .bool x.f4.f0, .int .i64 x.f4.f1, .bool x.f4.f2, .int .i64 x.f4.f3.f0, .slice A14 x.f4.f3.f1.length c14, .slice A15 x.f5.length c15] ∧ x.f2.f1.length ≤ c3 ∧ Kd.F (Kd.int .i64) W ok A3 x.f2.f1.length x.f2.f1 ∧ x.f3.f1.length ≤ c5 ∧ Kd.F k54 W ok A5 x.f3.f1.length x.f3.f1 ∧ x.f3.f2.f1.length ≤ c7 ∧ Kd.F (Kd.int .i64) W ok A7 x.f3.f2.f1.length x.f3.f2.f1 ∧ x.f4.f3.f1.length ≤ c14 ∧ Kd.F (Kd.int .i64) W ok A14 x.f4.f3.f1.length x.f4.f3.f1 ∧ x.f5.length ≤ c15 ∧ Kd.F (Kd.int .i64) W ok A15 x.f5.length x.f5 := by
  obtain ⟨A3, c3, A5, c5, A7, c7, A14, c14, A15, c15, rfl, l3, _, l5, _, l7, _, l14, _, l15, _⟩ := k56_open (Kd.FK_now h)
  exact ⟨A3, c3, A5, c5, A7, c7, A14, c14, A15, c15, rfl, l3, (fun W' hW => by obtain ⟨A3_, c3_, A5_, c5_, A7_, c7_, A14_, c14_, A15_, c15_, he, l3_, g3_, l5_, g5_, l7_, g7_, l14_, g14_, l15_, g15_⟩ := k56_open (h W' hW); injection (Option.some.inj (show some (Value.slice A3 x.f2.f1.length c3) = some (Value.slice A3_ x.f2.f1.length c3_) from congrArg (fun l => l[3]?) he)) with ha_ _ _; rw [ha_]; exact g3_), l5, (fun W' hW => by obtain ⟨A3_, c3_, A5_, c5_, A7_, c7_, A14_, c14_, A15_, c15_, he, l3_, g3_, l5_, g5_, l7_, g7_, l14_, g14_, l15_, g15_⟩ := k56_open (h W' hW); injection (Option.some.inj (show some (Value.slice A5 x.f3.f1.length c5) = some (Value.slice A5_ x.f3.f1.length c5_) from congrArg (fun l => l[5]?) he)) with ha_ _ _; rw [ha_]; exact g5_), l7, (fun W' hW => by obtain ⟨A3_, c3_, A5_, c5_, A7_, c7_, A14_, c14_, A15_, c15_, he, l3_, g3_, l5_, g5_, l7_, g7_, l14_, g14_, l15_, g15_⟩ := k56_open (h W' hW); injection (Option.some.inj (show some (Value.slice A7 x.f3.f2.f1.length c7) = some (Value.slice A7_ x.f3.f2.f1.length c7_) from congrArg (fun l => l[7]?) he)) with ha_ _ _; rw [ha_]; exact g7_), l14, (fun W' hW => by obtain ⟨A3_, c3_, A5_, c5_, A7_, c7_, A14_, c14_, A15_, c15_, he, l3_, g3_, l5_, g5_, l7_, g7_, l14_, g14_, l15_, g15_⟩ := k56_open (h W' hW); injection (Option.some.inj (show some (Value.slice A14 x.f4.f3.f1.length c14) = some (Value.slice A14_ x.f4.f3.f1.length c14_) from congrArg (fun l => l[14]?) he)) with ha_ _ _; rw [ha_]; exact g14_), l15, (fun W' hW => by obtain ⟨A3_, c3_, A5_, c5_, A7_, c7_, A14_, c14_, A15_, c15_, he, l3_, g3_, l5_, g5_, l7_, g7_, l14_, g14_, l15_, g15_⟩ := k56_open (h W' hW); injection (Option.some.inj (show some (Value.slice A15 x.f5.length c15) = some (Value.slice A15_ x.f5.length c15_) from congrArg (fun l => l[15]?) he)) with ha_ _ _; rw [ha_]; exact g15_)⟩
theorem k56_mkF (W : World) (ok : Nat → Prop) (x : S56) {A3 : Option Addr} {c3 : Nat} (l3 : x.f2.f1.length ≤ c3) (g3 : Kd.F (Kd.int .i64) W ok A3 x.f2.f1.length x.f2.f1) {A5 : Option Addr} {c5 : Nat} (l5 : x.f3.f1.length ≤ c5) (g5 : Kd.F k54 W ok A5 x.f3.f1.length x.f3.f1) {A7 : Option Addr} {c7 : Nat} (l7 : x.f3.f2.f1.length ≤ c7) (g7 : Kd.F (Kd.int .i64) W ok A7 x.f3.f2.f1.length x.f3.f2.f1) {A14 : Option Addr} {c14 : Nat} (l14 : x.f4.f3.f1.length ≤ c14) (g14 : Kd.F (Kd.int .i64) W ok A14 x.f4.f3.f1.length x.f4.f3.f1) {A15 : Option Addr} {c15 : Nat} (l15 : x.f5.length ≤ c15) (g15 : Kd.F (Kd.int .i64) W ok A15 x.f5.length x.f5) : Kd.FK k56 W ok x [.int .i64 x.f0, .int .i64 x.f1, .int .i64 x.f2.f0, .slice A3 x.f2.f1.length c3, .int .i64 x.f3.f0, .slice A5 x.f3.f1.length c5, .int .i64 x.f3.f2.f0, .slice A7 x.f3.f2.f1.length c7, .int .i64 x.f3.f3, .int .i64 x.f3.f4, .bool x.f4.f0, .int .i64 x.f4.f1, .bool x.f4.f2, .int .i64 x.f4.f3.f0, .slice A14 x.f4.f3.f1.length c14, .slice A15 x.f5.length c15] := fun W2 hW => k56_mk W2 x l3 (g3 W2 hW) l5 (g5 W2 hW) l7 (g7 W2 hW) l14 (g14 W2 hW) l15 (g15 W2 hW)
def rd_T56 (xs : List S56) (i : Int) : S56 := xs.getD i.toNat z56
theorem at_T56 {w : World} {A : Option Addr} {n : Nat} {xs : List S56} (h : Kd.C k56 w A n xs) (i : Int) (h0 : 0 ≤ i) (h1 : i < n) : ∃ ad A3 c3 A5 c5 A7 c7 A14 c14 A15 c15, A = some ad ∧ w.cell? (ad.add (i.toNat * 16)) = some (.int .i64 (rd_T56 xs i).f0) ∧ w.cell? ⟨(ad.add (i.toNat * 16)).block, (ad.add (i.toNat * 16)).off + 1, none⟩ = some (.int .i64 (rd_T56 xs i).f1) ∧ w.cell? ⟨(ad.add (i.toNat * 16)).block, (ad.add (i.toNat * 16)).off + 2, none⟩ = some (.int .i64 (rd_T56 xs i).f2.f0) ∧ w.cell? ⟨(ad.add (i.toNat * 16)).block, (ad.add (i.toNat * 16)).off + 3, none⟩ = some (.slice A3 (rd_T56 xs i).f2.f1.length c3) ∧ w.cell? ⟨(ad.add (i.toNat * 16)).block, (ad.add (i.toNat * 16)).off + 4, none⟩ = some (.int .i64 (rd_T56 xs i).f3.f0) ∧ w.cell? ⟨(ad.add (i.toNat * 16)).block, (ad.add (i.toNat * 16)).off + 5, none⟩ = some (.slice A5 (rd_T56 xs i).f3.f1.length c5) ∧ w.cell? ⟨(ad.add (i.toNat * 16)).block, (ad.add (i.toNat * 16)).off + 6, none⟩ = some (.int .i64 (rd_T56 xs i).f3.f2.f0) ∧ w.cell? ⟨(ad.add (i.toNat * 16)).block, (ad.add (i.toNat * 16)).off + 7, none⟩ = some (.slice A7 (rd_T56 xs i).f3.f2.f1.length c7) ∧ w.cell? ⟨(ad.add (i.toNat * 16)).block, (ad.add (i.toNat * 16)).off + 8, none⟩ = some (.int .i64 (rd_T56 xs i).f3.f3) ∧ w.cell? ⟨(ad.add (i.toNat * 16)).block, (ad.add (i.toNat * 16)).off + 9, none⟩ = some (.int .i64 (rd_T56 xs i).f3.f4) ∧ w.cell? ⟨(ad.add (i.toNat * 16)).block, (ad.add (i.toNat * 16)).off + 10, none⟩ = some (.bool (rd_T56 xs i).f4.f0) ∧ w.cell? ⟨(ad.add (i.toNat * 16)).block, (ad.add (i.toNat * 16)).off + 11, none⟩ = some (.int .i64 (rd_T56 xs i).f4.f1) ∧ w.cell? ⟨(ad.add (i.toNat * 16)).block, (ad.add (i.toNat * 16)).off + 12, none⟩ = some (.bool (rd_T56 xs i).f4.f2) ∧ w.cell? ⟨(ad.add (i.toNat * 16)).block, (ad.add (i.toNat * 16)).off + 13, none⟩ = some (.int .i64 (rd_T56 xs i).f4.f3.f0) ∧ w.cell? ⟨(ad.add (i.toNat * 16)).block, (ad.add (i.toNat * 16)).off + 14, none⟩ = some (.slice A14 (rd_T56 xs i).f4.f3.f1.length c14) ∧ w.cell? ⟨(ad.add (i.toNat * 16)).block, (ad.add (i.toNat * 16)).off + 15, none⟩ = some (.slice A15 (rd_T56 xs i).f5.length c15) ∧ (rd_T56 xs i).f2.f1.length ≤ c3 ∧ (Kd.int .i64).C w A3 (rd_T56 xs i).f2.f1.length (rd_T56 xs i).f2.f1 ∧ (rd_T56 xs i).f3.f1.length ≤ c5 ∧ k54.C w A5 (rd_T56 xs i).f3.f1.length (rd_T56 xs i).f3.f1 ∧ (rd_T56 xs i).f3.f2.f1.length ≤ c7 ∧ (Kd.int .i64).C w A7 (rd_T56 xs i).f3.f2.f1.length (rd_T56 xs i).f3.f2.f1 ∧ (rd_T56 xs i).f4.f3.f1.length ≤ c14 ∧ (Kd.int .i64).C w A14 (rd_T56 xs i).f4.f3.f1.length (rd_T56 xs i).f4.f3.f1 ∧ (rd_T56 xs i).f5.length ≤ c15 ∧ (Kd.int .i64).C w A15 (rd_T56 xs i).f5.length (rd_T56 xs i).f5 := by
  obtain ⟨ad, c, e, _, hK, hc0⟩ := Kd.C_get h z56 i h0 h1
  have hc : ∀ j u, c[j]? = some u → w.cell? (ad.add (i.toNat * 16 + j)) = some u := hc0
  obtain ⟨A3, c3, A5, c5, A7, c7, A14, c14, A15, c15, rfl, l3, g3, l5, g5, l7, g7, l14, g14, l15, g15⟩ := k56_open hK
  exact ⟨ad, A3, c3, A5, c5, A7, c7, A14, c14, A15, c15, e, hc 0 _ rfl, by rw [← add_field _ _ 1 (by omega)]; exact hc 1 _ rfl, by rw [← add_field _ _ 2 (by omega)]; exact hc 2 _ rfl, by rw [← add_field _ _ 3 (by omega)]; exact hc 3 _ rfl, by rw [← add_field _ _ 4 (by omega)]; exact hc 4 _ rfl, by rw [← add_field _ _ 5 (by omega)]; exact hc 5 _ rfl, by rw [← add_field _ _ 6 (by omega)]; exact hc 6 _ rfl, by rw [← add_field _ _ 7 (by omega)]; exact hc 7 _ rfl, by rw [← add_field _ _ 8 (by omega)]; exact hc 8 _ rfl, by rw [← add_field _ _ 9 (by omega)]; exact hc 9 _ rfl, by rw [← add_field _ _ 10 (by omega)]; exact hc 10 _ rfl, by rw [← add_field _ _ 11 (by omega)]; exact hc 11 _ rfl, by rw [← add_field _ _ 12 (by omega)]; exact hc 12 _ rfl, by rw [← add_field _ _ 13 (by omega)]; exact hc 13 _ rfl, by rw [← add_field _ _ 14 (by omega)]; exact hc 14 _ rfl, by rw [← add_field _ _ 15 (by omega)]; exact hc 15 _ rfl, l3, g3, l5, g5, l7, g7, l14, g14, l15, g15⟩

/-! #### struct type 58 -/
structure S58 where
  f0 : (List S71)
  f1 : S56
def z58 : S58 := ⟨([] : List S71), z56⟩
def k58 : Kd S58 := Kd.iso (Kd.pair (Kd.slice 71 k71) k56) (fun x : S58 => (x.f0, x.f1))
theorem k58_heap : Kd.Heap k58 := Kd.heap_iso _ (Kd.heap_pair (Kd.heap_slice 71 k71_heap) k56_heap)
theorem k58_open {w : World} {x : S58} {cs : List Value} (h : k58.K w x cs) : ∃ A0 c0 A4 c4 A6 c6 A8 c8 A15 c15 A16 c16, cs = [.slice A0 x.f0.length c0, .int .i64 x.f1.f0, .int .i64 x.f1.f1, .int .i64 x.f1.f2.f0, .slice A4 x.f1.f2.f1.length c4, .int .i64 x.f1.f3.f0, .slice A6 x.f1.f3.f1.length c6, .int .i64 x.f1.f3.f2.f0, .slice A8 x.f1.f3.f2.f1.length c8, .int .i64 x.f1.f3.f3, .int .i64 x.f1.f3.f4, .bool x.f1.f4.f0, .int .i64 x.f1.f4.f1, .bool x.f1.f4.f2, .int .i64 x.f1.f4.f3.f0, .slice A15 x.f1.f4.f3.f1.length c15, .slice A16 x.f1.f5.length c16] ∧ x.f0.length ≤ c0 ∧ k71.C w A0 x.f0.length x.f0 ∧ x.f1.f2.f1.length ≤ c4 ∧ (Kd.int .i64).C w A4 x.f1.f2.f1.length x.f1.f2.f1 ∧ x.f1.f3.f1.length ≤ c6 ∧ k54.C w A6 x.f1.f3.f1.length x.f1.f3.f1 ∧ x.f1.f3.f2.f1.length ≤ c8 ∧ (Kd.int .i64).C w A8 x.f1.f3.f2.f1.length x.f1.f3.f2.f1 ∧ x.f1.f4.f3.f1.length ≤ c15 ∧ (Kd.int .i64).C w A15 x.f1.f4.f3.f1.length x.f1.f4.f3.f1 ∧ x.f1.f5.length ≤ c16 ∧ (Kd.int .i64).C w A16 x.f1.f5.length x.f1.f5 := by
  obtain ⟨_, _, rfl, ⟨A0, c0, rfl, l0, g0⟩, s1⟩ := h
  obtain ⟨A4, c4, A6, c6, A8, c8, A15, c15, A16, c16, rfl, l4, g4, l6, g6, l8, g8, l15, g15, l16, g16⟩ := k56_open s1
  exact ⟨A0, c0, A4, c4, A6, c6, A8, c8, A15, c15, A16, c16, rfl, l0, g0, l4, g4, l6, g6, l8, g8, l15, g15, l16, g16⟩
theorem k58_openM {w : World} {base : Nat} {ok : Nat → Prop} {x : S58} {cs : List Value} (h : k58.M w base ok x cs) : ∃ v0 v4 v6 v8 v15 v16, cs = [v0, .int .i64 x.f1.f0, .int .i64 x.f1.f1, .int .i64 x.f1.f2.f0, v4, .int .i64 x.f1.f3.f0, v6, .int .i64 x.f1.f3.f2.f0, v8, .int .i64 x.f1.f3.f3, .int .i64 x.f1.f3.f4, .bool x.f1.f4.f0, .int .i64 x.f1.f4.f1, .bool x.f1.f4.f2, .int .i64 x.f1.f4.f3.f0, v15, v16] ∧ k71.R 71 w base ok v0 x.f0 ∧ (Kd.int .i64).R 3 w base ok v4 x.f1.f2.f1 ∧ k54.R 54 w base ok v6 x.f1.f3.f1 ∧ (Kd.int .i64).R 3 w base ok v8 x.f1.f3.f2.f1 ∧ (Kd.int .i64).R 3 w base ok v15 x.f1.f4.f3.f1 ∧ (Kd.int .i64).R 3 w base ok v16 x.f1.f5 := by
  obtain ⟨_, _, rfl, ⟨v0, rfl, g0⟩, s1⟩ := h
  obtain ⟨v4, v6, v8, v15, v16, rfl, g4, g6, g8, g15, g16⟩ := k56_openM s1
  exact ⟨v0, v4, v6, v8, v15, v16, rfl, g0, g4, g6, g8, g15, g16⟩
theorem k58_mk (w : World) (x : S58) {A0 : Option Addr} {c0 : Nat} (l0 : x.f0.length ≤ c0) (g0 : k71.C w A0 x.f0.length x.f0) {A4 : Option Addr} {c4 : Nat} (l4 : x.f1.f2.f1.length ≤ c4) (g4 : (Kd.int .i64).C w A4 x.f1.f2.f1.length x.f1.f2.f1) {A6 : Option Addr} {c6 : Nat} (l6 : x.f1.f3.f1.length ≤ c6) (g6 : k54.C w A6 x.f1.f3.f1.length x.f1.f3.f1) {A8 : Option Addr} {c8 : Nat} (l8 : x.f1.f3.f2.f1.length ≤ c8) (g8 : (Kd.int .i64).C w A8 x.f1.f3.f2.f1.length x.f1.f3.f2.f1) {A15 : Option Addr} {c15 : Nat} (l15 : x.f1.f4.f3.f1.length ≤ c15) (g15 : (Kd.int .i64).C w A15 x.f1.f4.f3.f1.length x.f1.f4.f3.f1) {A16 : Option Addr} {c16 : Nat} (l16 : x.f1.f5.length ≤ c16) (g16 : (Kd.int .i64).C w A16 x.f1.f5.length x.f1.f5) : k58.K w x [.slice A0 x.f0.length c0, .int .i64 x.f1.f0, .int .i64 x.f1.f1, .int .i64 x.f1.f2.f0, .slice A4 x.f1.f2.f1.length c4, .int .i64 x.f1.f3.f0, .slice A6 x.f1.f3.f1.length c6, .int .i64 x.f1.f3.f2.f0, .slice A8 x.f1.f3.f2.f1.length c8, .int .i64 x.f1.f3.f3, .int .i64 x.f1.f3.f4, .bool x.f1.f4.f0, .int .i64 x.f1.f4.f1, .bool x.f1.f4.f2, .int .i64 x.f1.f4.f3.f0, .slice A15 x.f1.f4.f3.f1.length c15, .slice A16 x.f1.f5.length c16] := ⟨[.slice A0 x.f0.length c0], [.int .i64 x.f1.f0, .int .i64 x.f1.f1, .int .i64 x.f1.f2.f0, .slice A4 x.f1.f2.f1.length c4, .int .i64 x.f1.f3.f0, .slice A6 x.f1.f3.f1.length c6, .int .i64 x.f1.f3.f2.f0, .slice A8 x.f1.f3.f2.f1.length c8, .int .i64 x.f1.f3.f3, .int .i64 x.f1.f3.f4, .bool x.f1.f4.f0, .int .i64 x.f1.f4.f1, .bool x.f1.f4.f2, .int .i64 x.f1.f4.f3.f0, .slice A15 x.f1.f4.f3.f1.length c15, .slice A16 x.f1.f5.length c16], rfl, ⟨A0, c0, rfl, l0, g0⟩, (k56_mk w x.f1 l4 g4 l6 g6 l8 g8 l15 g15 l16 g16)⟩
theorem k58_mkM (w : World) (base : Nat) (ok : Nat → Prop) (x : S58) {v0 : Value} (g0 : k71.R 71 w base ok v0 x.f0) {v4 : Value} (g4 : (Kd.int .i64).R 3 w base ok v4 x.f1.f2.f1) {v6 : Value} (g6 : k54.R 54 w base ok v6 x.f1.f3.f1) {v8 : Value} (g8 : (Kd.int .i64).R 3 w base ok v8 x.f1.f3.f2.f1) {v15 : Value} (g15 : (Kd.int .i64).R 3 w base ok v15 x.f1.f4.f3.f1) {v16 : Value} (g16 : (Kd.int .i64).R 3 w base ok v16 x.f1.f5) : k58.M w base ok x [v0, .int .i64 x.f1.f0, .int .i64 x.f1.f1, .int .i64 x.f1.f2.f0, v4, .int .i64 x.f1.f3.f0, v6, .int .i64 x.f1.f3.f2.f0, v8, .int .i64 x.f1.f3.f3, .int .i64 x.f1.f3.f4, .bool x.f1.f4.f0, .int .i64 x.f1.f4.f1, .bool x.f1.f4.f2, .int .i64 x.f1.f4.f3.f0, v15, v16] := ⟨[v0], [.int .i64 x.f1.f0, .int .i64 x.f1.f1, .int .i64 x.f1.f2.f0, v4, .int .i64 x.f1.f3.f0, v6, .int .i64 x.f1.f3.f2.f0, v8, .int .i64 x.f1.f3.f3, .int .i64 x.f1.f3.f4, .bool x.f1.f4.f0, .int .i64 x.f1.f4.f1, .bool x.f1.f4.f2, .int .i64 x.f1.f4.f3.f0, v15, v16], rfl, ⟨v0, rfl, g0⟩, (k56_mkM w base ok x.f1 g4 g6 g8 g15 g16)⟩
theorem k58_openF {W : World} {ok : Nat → Prop} {x : S58} {cs : List Value} (h : Kd.FK k58 W ok x cs) : ∃ A0 c0 A4 c4 A6 c6 A8 c8 A15 c15 A16 c16, cs = [.slice A0 x.f0.length c0, .int .i64 x.f1.f0, .int .i64 x.f1.f1, .int .i64 x.f1.f2.f0, .slice A4 x.f1.f2.f1.length c4, .int .i64 x.f1.f3.f0, .slice A6 x.f1.f3.f1.length c6, .int .i64 x.f1.f3.f2.f0, .slice A8 x.f1.f3.f2.f1.length c8, .int .i64 x.f1.f3.f3, .int .i64 x.f1.f3.f4, .bool x.f1.f4.f0, .int .i64 x.f1.f4.f1, .bool x.f1.f4.f2, .int .i64 x.f1.f4.f3.f0, .slice A15 x.f1.f4.f3.f1.length c15, .slice A16 x.f1.f5.length c16] ∧ x.f0.length ≤ c0 ∧ Kd.F k71 W ok A0 x.f0.length x.f0 ∧ x.f1.f2.f1.length ≤ c4 ∧ Kd.F (Kd.int .i64) W ok A4 x.f1.f2.f1.length x.f1.f2.f1 ∧ x.f1.f3.f1.length ≤ c6 ∧ Kd.F k54 W ok A6 x.f1.f3.f1.length x.f1.f3.f1 ∧ x.f1.f3.f2.f1.length ≤ c8 ∧ Kd.F (Kd.int .i64) W ok A8 x.f1.f3.f2.f1.length x.f1.f3.f2.f1 ∧ x.f1.f4.f3.f1.length ≤ c15 ∧ Kd.F (Kd.int .i64) W ok A15 x.f1.f4.f3.f1.length x.f1.f4.f3.f1 ∧ x.f1.f5.length ≤ c16 ∧ Kd.F (Kd.int .i64) W ok A16 x.f1.f5.length x.f1.f5 := by
  obtain ⟨A0, c0, A4, c4, A6, c6, A8, c8, A15, c15, A16, c16, rfl, l0, _, l4, _, l6, _, l8, _, l15, _, l16, _⟩ := k58_open (Kd.FK_now h)
  exact ⟨A0, c0, A4, c4, A6, c6, A8, c8, A15, c15, A16, c16, rfl, l0, (fun W' hW => by obtain ⟨A0_, c0_, A4_, c4_, A6_, c6_, A8_, c8_, A15_, c15_, A16_, c16_, he, l0_, g0_, l4_, g4_, l6_, g6_, l8_, g8_, l15_, g15_, l16_, g16_⟩ := k58_open (h W' hW); injection (Option.some.inj (show some (Value.slice A0 x.f0.length c0) = some (Value.slice A0_ x.f0.length c0_) from congrArg (fun l => l[0]?) he)) with ha_ _ _; rw [ha_]; exact g0_), l4, (fun W' hW => by obtain ⟨A0_, c0_, A4_, c4_, A6_, c6_, A8_, c8_, A15_, c15_, A16_, c16_, he, l0_, g0_, l4_, g4_, l6_, g6_, l8_, g8_, l15_, g15_, l16_, g16_⟩ := k58_open (h W' hW); injection (Option.some.inj (show some (Value.slice A4 x.f1.f2.f1.length c4) = some (Value.slice A4_ x.f1.f2.f1.length c4_) from congrArg (fun l => l[4]?) he)) with ha_ _ _; rw [ha_]; exact g4_), l6, (fun W' hW => by obtain ⟨A0_, c0_, A4_, c4_, A6_, c6_, A8_, c8_, A15_, c15_, A16_, c16_, he, l0_, g0_, l4_, g4_, l6_, g6_, l8_, g8_, l15_, g15_, l16_, g16_⟩ := k58_open (h W' hW); injection (Option.some.inj (show some (Value.slice A6 x.f1.f3.f1.length c6) = some (Value.slice A6_ x.f1.f3.f1.length c6_) from congrArg (fun l => l[6]?) he)) with ha_ _ _; rw [ha_]; exact g6_), l8, (fun W' hW => by obtain ⟨A0_, c0_, A4_, c4_, A6_, c6_, A8_, c8_, A15_, c15_, A16_, c16_, he, l0_, g0_, l4_, g4_, l6_, g6_, l8_, g8_, l15_, g15_, l16_, g16_⟩ := k58_open (h W' hW); injection (Option.some.inj (show some (Value.slice A8 x.f1.f3.f2.f1.length c8) = some (Value.slice A8_ x.f1.f3.f2.f1.length c8_) from congrArg (fun l => l[8]?) he)) with ha_ _ _; rw [ha_]; exact g8_), l15, (fun W' hW => by obtain ⟨A0_, c0_, A4_, c4_, A6_, c6_, A8_, c8_, A15_, c15_, A16_, c16_, he, l0_, g0_, l4_, g4_, l6_, g6_, l8_, g8_, l15_, g15_, l16_, g16_⟩ := k58_open (h W' hW); injection (Option.some.inj (show some (Value.slice A15 x.f1.f4.f3.f1.length c15) = some (Value.slice A15_ x.f1.f4.f3.f1.length c15_) from congrArg (fun l => l[15]?) he)) with ha_ _ _; rw [ha_]; exact g15_), l16, (fun W' hW => by obtain ⟨A0_, c0_, A4_, c4_, A6_, c6_, A8_, c8_, A15_, c15_, A16_, c16_, he, l0_, g0_, l4_, g4_, l6_, g6_, l8_, g8_, l15_, g15_, l16_, g16_⟩ := k58_open (h W' hW); injection (Option.some.inj (show some (Value.slice A16 x.f1.f5.length c16) = some (Value.slice A16_ x.f1.f5.length c16_) from congrArg (fun l => l[16]?) he)) with ha_ _ _; rw [ha_]; exact g16_)⟩
theorem k58_mkF (W : World) (ok : Nat → Prop) (x : S58) {A0 : Option Addr} {c0 : Nat} (l0 : x.f0.length ≤ c0) (g0 : Kd.F k71 W ok A0 x.f0.length x.f0) {A4 : Option Addr} {c4 : Nat} (l4 : x.f1.f2.f1.length ≤ c4) (g4 : Kd.F (Kd.int .i64) W ok A4 x.f1.f2.f1.length x.f1.f2.f1) {A6 : Option Addr} {c6 : Nat} (l6 : x.f1.f3.f1.length ≤ c6) (g6 : Kd.F k54 W ok A6 x.f1.f3.f1.length x.f1.f3.f1) {A8 : Option Addr} {c8 : Nat} (l8 : x.f1.f3.f2.f1.length ≤ c8) (g8 : Kd.F (Kd.int .i64) W ok A8 x.f1.f3.f2.f1.length x.f1.f3.f2.f1) {A15 : Option Addr} {c15 : Nat} (l15 : x.f1.f4.f3.f1.length ≤ c15) (g15 : Kd.F (Kd.int .i64) W ok A15 x.f1.f4.f3.f1.length x.f1.f4.f3.f1) {A16 : Option Addr} {c16 : Nat} (l16 : x.f1.f5.length ≤ c16) (g16 : Kd.F (Kd.int .i64) W ok A16 x.f1.f5.length x.f1.f5) : Kd.FK k58 W ok x [.slice A0 x.f0.length c0, .int .i64 x.f1.f0, .int .i64 x.f1.f1, .int .i64 x.f1.f2.f0, .slice A4 x.f1.f2.f1.length c4, .int .i64 x.f1.f3.f0, .slice A6 x.f1.f3.f1.length c6, .int .i64 x.f1.f3.f2.f0, .slice A8 x.f1.f3.f2.f1.length c8, .int .i64 x.f1.f3.f3, .int .i64 x.f1.f3.f4, .bool x.f1.f4.f0, .int .i64 x.f1.f4.f1, .bool x.f1.f4.f2, .int .i64 x.f1.f4.f3.f0, .slice A15 x.f1.f4.f3.f1.length c15, .slice A16 x.f1.f5.length c16] := fun W2 hW => k58_mk W2 x l0 (g0 W2 hW) l4 (g4 W2 hW) l6 (g6 W2 hW) l8 (g8 W2 hW) l15 (g15 W2 hW) l16 (g16 W2 hW)
def rd_T58 (xs : List S58) (i : Int) : S58 := xs.getD i.toNat z58
theorem at_T58 {w : World} {A : Option Addr} {n : Nat} {xs : List S58} (h : Kd.C k58 w A n xs) (i : Int) (h0 : 0 ≤ i) (h1 : i < n) : ∃ ad A0 c0 A4 c4 A6 c6 A8 c8 A15 c15 A16 c16, A = some ad ∧ w.cell? (ad.add (i.toNat * 17)) = some (.slice A0 (rd_T58 xs i).f0.length c0) ∧ w.cell? ⟨(ad.add (i.toNat * 17)).block, (ad.add (i.toNat * 17)).off + 1, none⟩ = some (.int .i64 (rd_T58 xs i).f1.f0) ∧ w.cell? ⟨(ad.add (i.toNat * 17)).block, (ad.add (i.toNat * 17)).off + 2, none⟩ = some (.int .i64 (rd_T58 xs i).f1.f1) ∧ w.cell? ⟨(ad.add (i.toNat * 17)).block, (ad.add (i.toNat * 17)).off + 3, none⟩ = some (.int .i64 (rd_T58 xs i).f1.f2.f0) ∧ w.cell? ⟨(ad.add (i.toNat * 17)).block, (ad.add (i.toNat * 17)).off + 4, none⟩ = some (.slice A4 (rd_T58 xs i).f1.f2.f1.length c4) ∧ w.cell? ⟨(ad.add (i.toNat * 17)).block, (ad.add (i.toNat * 17)).off + 5, none⟩ = some (.int .i64 (rd_T58 xs i).f1.f3.f0) ∧ w.cell? ⟨(ad.add (i.toNat * 17)).block, (ad.add (i.toNat * 17)).off + 6, none⟩ = some (.slice A6 (rd_T58 xs i).f1.f3.f1.length c6) ∧ w.cell? ⟨(ad.add (i.toNat * 17)).block, (ad.add (i.toNat * 17)).off + 7, none⟩ = some (.int .i64 (rd_T58 xs i).f1.f3.f2.f0) ∧ w.cell? ⟨(ad.add (i.toNat * 17)).block, (ad.add (i.toNat * 17)).off + 8, none⟩ = some (.slice A8 (rd_T58 xs i).f1.f3.f2.f1.length c8) ∧ w.cell? ⟨(ad.add (i.toNat * 17)).block, (ad.add (i.toNat * 17)).off + 9, none⟩ = some (.int .i64 (rd_T58 xs i).f1.f3.f3) ∧ w.cell? ⟨(ad.add (i.toNat * 17)).block, (ad.add (i.toNat * 17)).off + 10, none⟩ = some (.int .i64 (rd_T58 xs i).f1.f3.f4) ∧ w.cell? ⟨(ad.add (i.toNat * 17)).block, (ad.add (i.toNat * 17)).off + 11, none⟩ = some (.bool (rd_T58 xs i).f1.f4.f0) ∧ w.cell? ⟨(ad.add (i.toNat * 17)).block, (ad.add (i.toNat * 17)).off + 12, none⟩ = some (.int .i64 (rd_T58 xs i).f1.f4.f1) ∧ w.cell? ⟨(ad.add (i.toNat * 17)).block, (ad.add (i.toNat * 17)).off + 13, none⟩ = some (.bool (rd_T58 xs i).f1.f4.f2) ∧ w.cell? ⟨(ad.add (i.toNat * 17)).block, (ad.add (i.toNat * 17)).off + 14, none⟩ = some (.int .i64 (rd_T58 xs i).f1.f4.f3.f0) ∧ w.cell? ⟨(ad.add (i.toNat * 17)).block, (ad.add (i.toNat * 17)).off + 15, none⟩ = some (.slice A15 (rd_T58 xs i).f1.f4.f3.f1.length c15) ∧ w.cell? ⟨(ad.add (i.toNat * 17)).block, (ad.add (i.toNat * 17)).off + 16, none⟩ = some (.slice A16 (rd_T58 xs i).f1.f5.length c16) ∧ (rd_T58 xs i).f0.length ≤ c0 ∧ k71.C w A0 (rd_T58 xs i).f0.length (rd_T58 xs i).f0 ∧ (rd_T58 xs i).f1.f2.f1.length ≤ c4 ∧ (Kd.int .i64).C w A4 (rd_T58 xs i).f1.f2.f1.length (rd_T58 xs i).f1.f2.f1 ∧ (rd_T58 xs i).f1.f3.f1.length ≤ c6 ∧ k54.C w A6 (rd_T58 xs i).f1.f3.f1.length (rd_T58 xs i).f1.f3.f1 ∧ (rd_T58 xs i).f1.f3.f2.f1.length ≤ c8 ∧ (Kd.int .i64).C w A8 (rd_T58 xs i).f1.f3.f2.f1.length (rd_T58 xs i).f1.f3.f2.f1 ∧ (rd_T58 xs i).f1.f4.f3.f1.length ≤ c15 ∧ (Kd.int .i64).C w A15 (rd_T58 xs i).f1.f4.f3.f1.length (rd_T58 xs i).f1.f4.f3.f1 ∧ (rd_T58 xs i).f1.f5.length ≤ c16 ∧ (Kd.int .i64).C w A16 (rd_T58 xs i).f1.f5.length (rd_T58 xs i).f1.f5 := by
  obtain ⟨ad, c, e, _, hK, hc0⟩ := Kd.C_get h z58 i h0 h1
  have hc : ∀ j u, c[j]? = some u → w.cell? (ad.add (i.toNat * 17 + j)) = some u := hc0
  obtain ⟨A0, c0, A4, c4, A6, c6, A8, c8, A15, c15, A16, c16, rfl, l0, g0, l4, g4, l6, g6, l8, g8, l15, g15, l16, g16⟩ := k58_open hK
  exact ⟨ad, A0, c0, A4, c4, A6, c6, A8, c8, A15, c15, A16, c16, e, hc 0 _ rfl, by rw [← add_field _ _ 1 (by omega)]; exact hc 1 _ rfl, by rw [← add_field _ _ 2 (by omega)]; exact hc 2 _ rfl, by rw [← add_field _ _ 3 (by omega)]; exact hc 3 _ rfl, by rw [← add_field _ _ 4 (by omega)]; exact hc 4 _ rfl, by rw [← add_field _ _ 5 (by omega)]; exact hc 5 _ rfl, by rw [← add_field _ _ 6 (by omega)]; exact hc 6 _ rfl, by rw [← add_field _ _ 7 (by omega)]; exact hc 7 _ rfl, by rw [← add_field _ _ 8 (by omega)]; exact hc 8 _ rfl, by rw [← add_field _ _ 9 (by omega)]; exact hc 9 _ rfl, by rw [← add_field _ _ 10 (by omega)]; exact hc 10 _ rfl, by rw [← add_field _ _ 11 (by omega)]; exact hc 11 _ rfl, by rw [← add_field _ _ 12 (by omega)]; exact hc 12 _ rfl, by rw [← add_field _ _ 13 (by omega)]; exact hc 13 _ rfl, by rw [← add_field _ _ 14 (by omega)]; exact hc 14 _ rfl, by rw [← add_field _ _ 15 (by omega)]; exact hc 15 _ rfl, by rw [← add_field _ _ 16 (by omega)]; exact hc 16 _ rfl, l0, g0, l4, g4, l6, g6, l8, g8, l15, g15, l16, g16⟩

def rd_L15 (xs : List (List S58)) (i : Int) : (List S58) := xs.getD i.toNat ([] : List S58)
theorem at_L15 {w : World} {A : Option Addr} {n : Nat} {xs : List (List S58)} (h : Kd.C (Kd.slice 58 k58) w A n xs) (i : Int) (h0 : 0 ≤ i) (h1 : i < n) : ∃ ad A0 c0, A = some ad ∧ w.cell? (ad.add i.toNat) = some (.slice A0 (rd_L15 xs i).length c0) ∧ (rd_L15 xs i).length ≤ c0 ∧ k58.C w A0 (rd_L15 xs i).length (rd_L15 xs i) := by
  obtain ⟨ad, c, e, _, hK, hc0⟩ := Kd.C_get h ([] : List S58) i h0 h1
  have hc : ∀ j u, c[j]? = some u → w.cell? (ad.add (i.toNat * 1 + j)) = some u := hc0
  obtain ⟨A0, c0, rfl, l0, g0⟩ := hK
  exact ⟨ad, A0, c0, e, by have hq := hc 0 _ rfl; rwa [Nat.mul_one, Nat.add_zero] at hq, l0, g0⟩

def rd_L16 (xs : List (List (List Int))) (i : Int) : (List (List Int)) := xs.getD i.toNat ([] : List (List Int))
theorem at_L16 {w : World} {A : Option Addr} {n : Nat} {xs : List (List (List Int))} (h : Kd.C (Kd.slice 42 (Kd.slice 3 (Kd.int .i64))) w A n xs) (i : Int) (h0 : 0 ≤ i) (h1 : i < n) : ∃ ad A0 c0, A = some ad ∧ w.cell? (ad.add i.toNat) = some (.slice A0 (rd_L16 xs i).length c0) ∧ (rd_L16 xs i).length ≤ c0 ∧ (Kd.slice 3 (Kd.int .i64)).C w A0 (rd_L16 xs i).length (rd_L16 xs i) := by
  obtain ⟨ad, c, e, _, hK, hc0⟩ := Kd.C_get h ([] : List (List Int)) i h0 h1
  have hc : ∀ j u, c[j]? = some u → w.cell? (ad.add (i.toNat * 1 + j)) = some u := hc0
  obtain ⟨A0, c0, rfl, l0, g0⟩ := hK
  exact ⟨ad, A0, c0, e, by have hq := hc 0 _ rfl; rwa [Nat.mul_one, Nat.add_zero] at hq, l0, g0⟩

def rd_L17 (xs : List (List Bool)) (i : Int) : (List Bool) := xs.getD i.toNat ([] : List Bool)
theorem at_L17 {w : World} {A : Option Addr} {n : Nat} {xs : List (List Bool)} (h : Kd.C (Kd.slice 4 Kd.bool) w A n xs) (i : Int) (h0 : 0 ≤ i) (h1 : i < n) : ∃ ad A0 c0, A = some ad ∧ w.cell? (ad.add i.toNat) = some (.slice A0 (rd_L17 xs i).length c0) ∧ (rd_L17 xs i).length ≤ c0 ∧ Kd.bool.C w A0 (rd_L17 xs i).length (rd_L17 xs i) := by
  obtain ⟨ad, c, e, _, hK, hc0⟩ := Kd.C_get h ([] : List Bool) i h0 h1
  have hc : ∀ j u, c[j]? = some u → w.cell? (ad.add (i.toNat * 1 + j)) = some u := hc0
  obtain ⟨A0, c0, rfl, l0, g0⟩ := hK
  exact ⟨ad, A0, c0, e, by have hq := hc 0 _ rfl; rwa [Nat.mul_one, Nat.add_zero] at hq, l0, g0⟩

/-! #### struct type 66 -/
structure S66 where
  f0 : Int
  f1 : Int
  f2 : (List Int)
  f3 : (List Int)
def z66 : S66 := ⟨(0 : Int), (0 : Int), ([] : List Int), ([] : List Int)⟩
def k66 : Kd S66 := Kd.iso (Kd.pair (Kd.int .i64) (Kd.pair (Kd.int .i64) (Kd.pair (Kd.slice 3 (Kd.int .i64)) (Kd.slice 3 (Kd.int .i64))))) (fun x : S66 => (x.f0, x.f1, x.f2, x.f3))
theorem k66_heap : Kd.Heap k66 := Kd.heap_iso _ (Kd.heap_pair (Kd.heap_int .i64) (Kd.heap_pair (Kd.heap_int .i64) (Kd.heap_pair (Kd.heap_slice 3 (Kd.heap_int .i64)) (Kd.heap_slice 3 (Kd.heap_int .i64)))))
theorem k66_open {w : World} {x : S66} {cs : List Value} (h : k66.K w x cs) : ∃ A2 c2 A3 c3, cs = [.int .i64 x.f0, .int .i64 x.f1, .slice A2 x.f2.length c2, .slice A3 x.f3.length c3] ∧ x.f2.length ≤ c2 ∧ (Kd.int .i64).C w A2 x.f2.length x.f2 ∧ x.f3.length ≤ c3 ∧ (Kd.int .i64).C w A3 x.f3.length x.f3 := by
  obtain ⟨_, _, rfl, rfl, ⟨_, _, rfl, rfl, ⟨_, _, rfl, ⟨A2, c2, rfl, l2, g2⟩, ⟨A3, c3, rfl, l3, g3⟩⟩⟩⟩ := h
  exact ⟨A2, c2, A3, c3, rfl, l2, g2, l3, g3⟩
theorem k66_openM {w : World} {base : Nat} {ok : Nat → Prop} {x : S66} {cs : List Value} (h : k66.M w base ok x cs) : ∃ v2 v3, cs = [.int .i64 x.f0, .int .i64 x.f1, v2, v3] ∧ (Kd.int .i64).R 3 w base ok v2 x.f2 ∧ (Kd.int .i64).R 3 w base ok v3 x.f3 := by
  obtain ⟨_, _, rfl, rfl, ⟨_, _, rfl, rfl, ⟨_, _, rfl, ⟨v2, rfl, g2⟩, ⟨v3, rfl, g3⟩⟩⟩⟩ := h
  exact ⟨v2, v3, rfl, g2, g3⟩
theorem k66_mk (w : World) (x : S66) {A2 : Option Addr} {c2 : Nat} (l2 : x.f2.length ≤ c2) (g2 : (Kd.int .i64).C w A2 x.f2.length x.f2) {A3 : Option Addr} {c3 : Nat} (l3 : x.f3.length ≤ c3) (g3 : (Kd.int .i64).C w A3 x.f3.length x.f3) : k66.K w x [.int .i64 x.f0, .int .i64 x.f1, .slice A2 x.f2.length c2, .slice A3 x.f3.length c3] := ⟨[.int .i64 x.f0], [.int .i64 x.f1, .slice A2 x.f2.length c2, .slice A3 x.f3.length c3], rfl, rfl, ⟨[.int .i64 x.f1], [.slice A2 x.f2.length c2, .slice A3 x.f3.length c3], rfl, rfl, ⟨[.slice A2 x.f2.length c2], [.slice A3 x.f3.length c3], rfl, ⟨A2, c2, rfl, l2, g2⟩, ⟨A3, c3, rfl, l3, g3⟩⟩⟩⟩
theorem k66_mkM (w : World) (base : Nat) (ok : Nat → Prop) (x : S66) {v2 : Value} (g2 : (Kd.int .i64).R 3 w base ok v2 x.f2) {v3 : Value} (g3 : (Kd.int .i64).R 3 w base ok v3 x.f3) : k66.M w base ok x [.int .i64 x.f0, .int .i64 x.f1, v2, v3] := ⟨[.int .i64 x.f0], [.int .i64 x.f1, v2, v3], rfl, rfl, ⟨[.int .i64 x.f1], [v2, v3], rfl, rfl, ⟨[v2], [v3], rfl, ⟨v2, rfl, g2⟩, ⟨v3, rfl, g3⟩⟩⟩⟩
theorem k66_openF {W : World} {ok : Nat → Prop} {x : S66} {cs : List Value} (h : Kd.FK k66 W ok x cs) : ∃ A2 c2 A3 c3, cs = [.int .i64 x.f0, .int .i64 x.f1, .slice A2 x.f2.length c2, .slice A3 x.f3.length c3] ∧ x.f2.length ≤ c2 ∧ Kd.F (Kd.int .i64) W ok A2 x.f2.length x.f2 ∧ x.f3.length ≤ c3 ∧ Kd.F (Kd.int .i64) W ok A3 x.f3.length x.f3 := by
  obtain ⟨A2, c2, A3, c3, rfl, l2, _, l3, _⟩ := k66_open (Kd.FK_now h)
  exact ⟨A2, c2, A3, c3, rfl, l2, (fun W' hW => by obtain ⟨A2_, c2_, A3_, c3_, he, l2_, g2_, l3_, g3_⟩ := k66_open (h W' hW); injection (Option.some.inj (show some (Value.slice A2 x.f2.length c2) = some (Value.slice A2_ x.f2.length c2_) from congrArg (fun l => l[2]?) he)) with ha_ _ _; rw [ha_]; exact g2_), l3, (fun W' hW => by obtain ⟨A2_, c2_, A3_, c3_, he, l2_, g2_, l3_, g3_⟩ := k66_open (h W' hW); injection (Option.some.inj (show some (Value.slice A3 x.f3.length c3) = some (Value.slice A3_ x.f3.length c3_) from congrArg (fun l => l[3]?) he)) with ha_ _ _; rw [ha_]; exact g3_)⟩
theorem k66_mkF (W : World) (ok : Nat → Prop) (x : S66) {A2 : Option Addr} {c2 : Nat} (l2 : x.f2.length ≤ c2) (g2 : Kd.F (Kd.int .i64) W ok A2 x.f2.length x.f2) {A3 : Option Addr} {c3 : Nat} (l3 : x.f3.length ≤ c3) (g3 : Kd.F (Kd.int .i64) W ok A3 x.f3.length x.f3) : Kd.FK k66 W ok x [.int .i64 x.f0, .int .i64 x.f1, .slice A2 x.f2.length c2, .slice A3 x.f3.length c3] := fun W2 hW => k66_mk W2 x l2 (g2 W2 hW) l3 (g3 W2 hW)
def rd_T66 (xs : List S66) (i : Int) : S66 := xs.getD i.toNat z66
theorem at_T66 {w : World} {A : Option Addr} {n : Nat} {xs : List S66} (h : Kd.C k66 w A n xs) (i : Int) (h0 : 0 ≤ i) (h1 : i < n) : ∃ ad A2 c2 A3 c3, A = some ad ∧ w.cell? (ad.add (i.toNat * 4)) = some (.int .i64 (rd_T66 xs i).f0) ∧ w.cell? ⟨(ad.add (i.toNat * 4)).block, (ad.add (i.toNat * 4)).off + 1, none⟩ = some (.int .i64 (rd_T66 xs i).f1) ∧ w.cell? ⟨(ad.add (i.toNat * 4)).block, (ad.add (i.toNat * 4)).off + 2, none⟩ = some (.slice A2 (rd_T66 xs i).f2.length c2) ∧ w.cell? ⟨(ad.add (i.toNat * 4)).block, (ad.add (i.toNat * 4)).off + 3, none⟩ = some (.slice A3 (rd_T66 xs i).f3.length c3) ∧ (rd_T66 xs i).f2.length ≤ c2 ∧ (Kd.int .i64).C w A2 (rd_T66 xs i).f2.length (rd_T66 xs i).f2 ∧ (rd_T66 xs i).f3.length ≤ c3 ∧ (Kd.int .i64).C w A3 (rd_T66 xs i).f3.length (rd_T66 xs i).f3 := by
  obtain ⟨ad, c, e, _, hK, hc0⟩ := Kd.C_get h z66 i h0 h1
  have hc : ∀ j u, c[j]? = some u → w.cell? (ad.add (i.toNat * 4 + j)) = some u := hc0
  obtain ⟨A2, c2, A3, c3, rfl, l2, g2, l3, g3⟩ := k66_open hK
  exact ⟨ad, A2, c2, A3, c3, e, hc 0 _ rfl, by rw [← add_field _ _ 1 (by omega)]; exact hc 1 _ rfl, by rw [← add_field _ _ 2 (by omega)]; exact hc 2 _ rfl, by rw [← add_field _ _ 3 (by omega)]; exact hc 3 _ rfl, l2, g2, l3, g3⟩

def rd_L19 (xs : List (List S66)) (i : Int) : (List S66) := xs.getD i.toNat ([] : List S66)
theorem at_L19 {w : World} {A : Option Addr} {n : Nat} {xs : List (List S66)} (h : Kd.C (Kd.slice 66 k66) w A n xs) (i : Int) (h0 : 0 ≤ i) (h1 : i < n) : ∃ ad A0 c0, A = some ad ∧ w.cell? (ad.add i.toNat) = some (.slice A0 (rd_L19 xs i).length c0) ∧ (rd_L19 xs i).length ≤ c0 ∧ k66.C w A0 (rd_L19 xs i).length (rd_L19 xs i) := by
  obtain ⟨ad, c, e, _, hK, hc0⟩ := Kd.C_get h ([] : List S66) i h0 h1
  have hc : ∀ j u, c[j]? = some u → w.cell? (ad.add (i.toNat * 1 + j)) = some u := hc0
  obtain ⟨A0, c0, rfl, l0, g0⟩ := hK
  exact ⟨ad, A0, c0, e, by have hq := hc 0 _ rfl; rwa [Nat.mul_one, Nat.add_zero] at hq, l0, g0⟩

def rd_L20 (xs : List (List (List Bool))) (i : Int) : (List (List Bool)) := xs.getD i.toNat ([] : List (List Bool))
theorem at_L20 {w : World} {A : Option Addr} {n : Nat} {xs : List (List (List Bool))} (h : Kd.C (Kd.slice 26 (Kd.slice 4 Kd.bool)) w A n xs) (i : Int) (h0 : 0 ≤ i) (h1 : i < n) : ∃ ad A0 c0, A = some ad ∧ w.cell? (ad.add i.toNat) = some (.slice A0 (rd_L20 xs i).length c0) ∧ (rd_L20 xs i).length ≤ c0 ∧ (Kd.slice 4 Kd.bool).C w A0 (rd_L20 xs i).length (rd_L20 xs i) := by
  obtain ⟨ad, c, e, _, hK, hc0⟩ := Kd.C_get h ([] : List (List Bool)) i h0 h1
  have hc : ∀ j u, c[j]? = some u → w.cell? (ad.add (i.toNat * 1 + j)) = some u := hc0
  obtain ⟨A0, c0, rfl, l0, g0⟩ := hK
  exact ⟨ad, A0, c0, e, by have hq := hc 0 _ rfl; rwa [Nat.mul_one, Nat.add_zero] at hq, l0, g0⟩

def rd_L21 (xs : List (List (List (List Bool)))) (i : Int) : (List (List (List Bool))) := xs.getD i.toNat ([] : List (List (List Bool)))
theorem at_L21 {w : World} {A : Option Addr} {n : Nat} {xs : List (List (List (List Bool)))} (h : Kd.C (Kd.slice 44 (Kd.slice 26 (Kd.slice 4 Kd.bool))) w A n xs) (i : Int) (h0 : 0 ≤ i) (h1 : i < n) : ∃ ad A0 c0, A = some ad ∧ w.cell? (ad.add i.toNat) = some (.slice A0 (rd_L21 xs i).length c0) ∧ (rd_L21 xs i).length ≤ c0 ∧ (Kd.slice 26 (Kd.slice 4 Kd.bool)).C w A0 (rd_L21 xs i).length (rd_L21 xs i) := by
  obtain ⟨ad, c, e, _, hK, hc0⟩ := Kd.C_get h ([] : List (List (List Bool))) i h0 h1
  have hc : ∀ j u, c[j]? = some u → w.cell? (ad.add (i.toNat * 1 + j)) = some u := hc0
  obtain ⟨A0, c0, rfl, l0, g0⟩ := hK
  exact ⟨ad, A0, c0, e, by have hq := hc 0 _ rfl; rwa [Nat.mul_one, Nat.add_zero] at hq, l0, g0⟩

/-! #### struct type 90 -/
structure S90 where
  f0 : Int
  f1 : Int
  f2 : (List Int)
  f3 : (List Int)
def z90 : S90 := ⟨(0 : Int), (0 : Int), ([] : List Int), ([] : List Int)⟩
def k90 : Kd S90 := Kd.iso (Kd.pair (Kd.int .i64) (Kd.pair (Kd.int .i64) (Kd.pair (Kd.slice 3 (Kd.int .i64)) (Kd.slice 3 (Kd.int .i64))))) (fun x : S90 => (x.f0, x.f1, x.f2, x.f3))
theorem k90_heap : Kd.Heap k90 := Kd.heap_iso _ (Kd.heap_pair (Kd.heap_int .i64) (Kd.heap_pair (Kd.heap_int .i64) (Kd.heap_pair (Kd.heap_slice 3 (Kd.heap_int .i64)) (Kd.heap_slice 3 (Kd.heap_int .i64)))))
theorem k90_open {w : World} {x : S90} {cs : List Value} (h : k90.K w x cs) : ∃ A2 c2 A3 c3, cs = [.int .i64 x.f0, .int .i64 x.f1, .slice A2 x.f2.length c2, .slice A3 x.f3.length c3] ∧ x.f2.length ≤ c2 ∧ (Kd.int .i64).C w A2 x.f2.length x.f2 ∧ x.f3.length ≤ c3 ∧ (Kd.int .i64).C w A3 x.f3.length x.f3 := by
  obtain ⟨_, _, rfl, rfl, ⟨_, _, rfl, rfl, ⟨_, _, rfl, ⟨A2, c2, rfl, l2, g2⟩, ⟨A3, c3, rfl, l3, g3⟩⟩⟩⟩ := h
  exact ⟨A2, c2, A3, c3, rfl, l2, g2, l3, g3⟩
theorem k90_openM {w : World} {base : Nat} {ok : Nat → Prop} {x : S90} {cs : List Value} (h : k90.M w base ok x cs) : ∃ v2 v3, cs = [.int .i64 x.f0, .int .i64 x.f1, v2, v3] ∧ (Kd.int .i64).R 3 w base ok v2 x.f2 ∧ (Kd.int .i64).R 3 w base ok v3 x.f3 := by
  obtain ⟨_, _, rfl, rfl, ⟨_, _, rfl, rfl, ⟨_, _, rfl, ⟨v2, rfl, g2⟩, ⟨v3, rfl, g3⟩⟩⟩⟩ := h
  exact ⟨v2, v3, rfl, g2, g3⟩
theorem k90_mk (w : World) (x : S90) {A2 : Option Addr} {c2 : Nat} (l2 : x.f2.length ≤ c2) (g2 : (Kd.int .i64).C w A2 x.f2.length x.f2) {A3 : Option Addr} {c3 : Nat} (l3 : x.f3.length ≤ c3) (g3 : (Kd.int .i64).C w A3 x.f3.length x.f3) : k90.K w x [.int .i64 x.f0, .int .i64 x.f1, .slice A2 x.f2.length c2, .slice A3 x.f3.length c3] := ⟨[.int .i64 x.f0], [.int .i64 x.f1, .slice A2 x.f2.length c2, .slice A3 x.f3.length c3], rfl, rfl, ⟨[.int .i64 x.f1], [.slice A2 x.f2.length c2, .slice A3 x.f3.length c3], rfl, rfl, ⟨[.slice A2 x.f2.length c2], [.slice A3 x.f3.length c3], rfl, ⟨A2, c2, rfl, l2, g2⟩, ⟨A3, c3, rfl, l3, g3⟩⟩⟩⟩
theorem k90_mkM (w : World) (base : Nat) (ok : Nat → Prop) (x : S90) {v2 : Value} (g2 : (Kd.int .i64).R 3 w base ok v2 x.f2) {v3 : Value} (g3 : (Kd.int .i64).R 3 w base ok v3 x.f3) : k90.M w base ok x [.int .i64 x.f0, .int .i64 x.f1, v2, v3] := ⟨[.int .i64 x.f0], [.int .i64 x.f1, v2, v3], rfl, rfl, ⟨[.int .i64 x.f1], [v2, v3], rfl, rfl, ⟨[v2], [v3], rfl, ⟨v2, rfl, g2⟩, ⟨v3, rfl, g3⟩⟩⟩⟩
theorem k90_openF {W : World} {ok : Nat → Prop} {x : S90} {cs : List Value} (h : Kd.FK k90 W ok x cs) : ∃ A2 c2 A3 c3, cs = [.int .i64 x.f0, .int .i64 x.f1, .slice A2 x.f2.length c2, .slice A3 x.f3.length c3] ∧ x.f2.length ≤ c2 ∧ Kd.F (Kd.int .i64) W ok A2 x.f2.length x.f2 ∧ x.f3.length ≤ c3 ∧ Kd.F (Kd.int .i64) W ok A3 x.f3.length x.f3 := by
  obtain ⟨A2, c2, A3, c3, rfl, l2, _, l3, _⟩ := k90_open (Kd.FK_now h)
  exact ⟨A2, c2, A3, c3, rfl, l2, (fun W' hW => by obtain ⟨A2_, c2_, A3_, c3_, he, l2_, g2_, l3_, g3_⟩ := k90_open (h W' hW); injection (Option.some.inj (show some (Value.slice A2 x.f2.length c2) = some (Value.slice A2_ x.f2.length c2_) from congrArg (fun l => l[2]?) he)) with ha_ _ _; rw [ha_]; exact g2_), l3, (fun W' hW => by obtain ⟨A2_, c2_, A3_, c3_, he, l2_, g2_, l3_, g3_⟩ := k90_open (h W' hW); injection (Option.some.inj (show some (Value.slice A3 x.f3.length c3) = some (Value.slice A3_ x.f3.length c3_) from congrArg (fun l => l[3]?) he)) with ha_ _ _; rw [ha_]; exact g3_)⟩
theorem k90_mkF (W : World) (ok : Nat → Prop) (x : S90) {A2 : Option Addr} {c2 : Nat} (l2 : x.f2.length ≤ c2) (g2 : Kd.F (Kd.int .i64) W ok A2 x.f2.length x.f2) {A3 : Option Addr} {c3 : Nat} (l3 : x.f3.length ≤ c3) (g3 : Kd.F (Kd.int .i64) W ok A3 x.f3.length x.f3) : Kd.FK k90 W ok x [.int .i64 x.f0, .int .i64 x.f1, .slice A2 x.f2.length c2, .slice A3 x.f3.length c3] := fun W2 hW => k90_mk W2 x l2 (g2 W2 hW) l3 (g3 W2 hW)
def rd_T90 (xs : List S90) (i : Int) : S90 := xs.getD i.toNat z90
theorem at_T90 {w : World} {A : Option Addr} {n : Nat} {xs : List S90} (h : Kd.C k90 w A n xs) (i : Int) (h0 : 0 ≤ i) (h1 : i < n) : ∃ ad A2 c2 A3 c3, A = some ad ∧ w.cell? (ad.add (i.toNat * 4)) = some (.int .i64 (rd_T90 xs i).f0) ∧ w.cell? ⟨(ad.add (i.toNat * 4)).block, (ad.add (i.toNat * 4)).off + 1, none⟩ = some (.int .i64 (rd_T90 xs i).f1) ∧ w.cell? ⟨(ad.add (i.toNat * 4)).block, (ad.add (i.toNat * 4)).off + 2, none⟩ = some (.slice A2 (rd_T90 xs i).f2.length c2) ∧ w.cell? ⟨(ad.add (i.toNat * 4)).block, (ad.add (i.toNat * 4)).off + 3, none⟩ = some (.slice A3 (rd_T90 xs i).f3.length c3) ∧ (rd_T90 xs i).f2.length ≤ c2 ∧ (Kd.int .i64).C w A2 (rd_T90 xs i).f2.length (rd_T90 xs i).f2 ∧ (rd_T90 xs i).f3.length ≤ c3 ∧ (Kd.int .i64).C w A3 (rd_T90 xs i).f3.length (rd_T90 xs i).f3 := by
  obtain ⟨ad, c, e, _, hK, hc0⟩ := Kd.C_get h z90 i h0 h1
  have hc : ∀ j u, c[j]? = some u → w.cell? (ad.add (i.toNat * 4 + j)) = some u := hc0
  obtain ⟨A2, c2, A3, c3, rfl, l2, g2, l3, g3⟩ := k90_open hK
  exact ⟨ad, A2, c2, A3, c3, e, hc 0 _ rfl, by rw [← add_field _ _ 1 (by omega)]; exact hc 1 _ rfl, by rw [← add_field _ _ 2 (by omega)]; exact hc 2 _ rfl, by rw [← add_field _ _ 3 (by omega)]; exact hc 3 _ rfl, l2, g2, l3, g3⟩

def rd_L23 (xs : List (List S90)) (i : Int) : (List S90) := xs.getD i.toNat ([] : List S90)
theorem at_L23 {w : World} {A : Option Addr} {n : Nat} {xs : List (List S90)} (h : Kd.C (Kd.slice 90 k90) w A n xs) (i : Int) (h0 : 0 ≤ i) (h1 : i < n) : ∃ ad A0 c0, A = some ad ∧ w.cell? (ad.add i.toNat) = some (.slice A0 (rd_L23 xs i).length c0) ∧ (rd_L23 xs i).length ≤ c0 ∧ k90.C w A0 (rd_L23 xs i).length (rd_L23 xs i) := by
  obtain ⟨ad, c, e, _, hK, hc0⟩ := Kd.C_get h ([] : List S90) i h0 h1
  have hc : ∀ j u, c[j]? = some u → w.cell? (ad.add (i.toNat * 1 + j)) = some u := hc0
  obtain ⟨A0, c0, rfl, l0, g0⟩ := hK
  exact ⟨ad, A0, c0, e, by have hq := hc 0 _ rfl; rwa [Nat.mul_one, Nat.add_zero] at hq, l0, g0⟩

end Go.Proofs.Ythgnbeeobhfeaaa.T
