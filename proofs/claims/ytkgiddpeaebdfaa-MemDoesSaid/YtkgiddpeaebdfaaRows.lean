/-
  No cell of these rows narrows 'for every input' (looked for: loops, veiled, ifaces, maps, wideKeys, modest, calm, conditions, laid).
  DERIVED. THE GIVEN ROWS OF THIS SEAT. 8 by the template 'for every input the law returns true; each argument reads behind the call as it read before'; 0 by the template 'total and deterministic' (their statements: YtkgiddpeaebdfaaTotals.lean).
  GIVEN WITH THE SEED: the statements are not yours to turn. If you find one false, say at which input.
  Laid BY PROGRAM, IN A SANDBOX (cutbox-rows.mjs): the forced cells as the released guide's own fill.sh prints them over the translation ef258bfa71c02788… (all of the seat's roots in one cut). By AI agents, Wed Nov 11 2026. No macro, syntax, notation, axiom, sorry.
-/
import Derived.Test.YtkgiddpeaebdfaaChecked
import GoSem.Claim
import GoSem.ClaimJoined
import GoSem.ClaimMapViews
import Derived.JoinedTies
import Derived.KernelRfl
namespace Go.Proofs.Ytkgiddpeaebdfaa
/- THE CELL 'sum', in the pinned program and in every row, IS THE sha256 OF THE DUMP (.gsa) THAT YtkgiddpeaebdfaaProg.lean LOADS. Nothing in Lean hashes anything: it is a label: what it is worth is what the hold of that sum in a sandbox is worth. -/
noncomputable def Try.pinned : Pinned := { name := "ytkgiddpeaebdfaa", sum := "ef258bfa71c027889784d580bb43ee7e5d016139583503218b4d917a12789593", checked := Try.checked }
namespace Rows
def none {H : Type} : Left H := { results := [], args := [] }

/-- 'cocoonlaw01.MemOff': WHATEVER THE INPUT: true; the input reads as it did. -/
def memOffSpec : ChangeSpec := { name := "memOff", fn := fun _ => fun
  | [d1, d2] => { results := [.lit (.bool true)], args := [d1, d2] }
  | _ => none }
def memOffRow : OpenClaim := { program := "ytkgiddpeaebdfaa", sum := "ef258bfa71c027889784d580bb43ee7e5d016139583503218b4d917a12789593", func := "cocoon/cocoonlaw01.MemOff", spec := "memOff", apart := false }
def MemOffSaid : Prop := memOffRow.holds Try.pinned (OpenSpec.ofChange memOffSpec)

/-- ITS FALSE NEIGHBOUR: 'it returns false'. Refute it at one input. -/
def memOffWrong : ChangeSpec := { name := "memOff", fn := fun _ => fun
  | [d1, d2] => { results := [.lit (.bool false)], args := [d1, d2] }
  | _ => none }
def MemOffWrongFalsely : Prop := memOffRow.holds Try.pinned (OpenSpec.ofChange memOffWrong)

/-- 'cocoonlaw01.MemClear': WHATEVER THE INPUT: true; the input reads as it did. -/
def memClearSpec : ChangeSpec := { name := "memClear", fn := fun _ => fun
  | [d1, d2, d3] => { results := [.lit (.bool true)], args := [d1, d2, d3] }
  | _ => none }
def memClearRow : OpenClaim := { program := "ytkgiddpeaebdfaa", sum := "ef258bfa71c027889784d580bb43ee7e5d016139583503218b4d917a12789593", func := "cocoon/cocoonlaw01.MemClear", spec := "memClear", apart := false }
def MemClearSaid : Prop := memClearRow.holds Try.pinned (OpenSpec.ofChange memClearSpec)

/-- ITS FALSE NEIGHBOUR: 'it returns false'. Refute it at one input. -/
def memClearWrong : ChangeSpec := { name := "memClear", fn := fun _ => fun
  | [d1, d2, d3] => { results := [.lit (.bool false)], args := [d1, d2, d3] }
  | _ => none }
def MemClearWrongFalsely : Prop := memClearRow.holds Try.pinned (OpenSpec.ofChange memClearWrong)

/-- 'cocoonlaw01.MemRoom': WHATEVER THE INPUT: true; the input reads as it did. -/
def memRoomSpec : ChangeSpec := { name := "memRoom", fn := fun _ => fun
  | [d1, d2] => { results := [.lit (.bool true)], args := [d1, d2] }
  | _ => none }
def memRoomRow : OpenClaim := { program := "ytkgiddpeaebdfaa", sum := "ef258bfa71c027889784d580bb43ee7e5d016139583503218b4d917a12789593", func := "cocoon/cocoonlaw01.MemRoom", spec := "memRoom", apart := false }
def MemRoomSaid : Prop := memRoomRow.holds Try.pinned (OpenSpec.ofChange memRoomSpec)

/-- ITS FALSE NEIGHBOUR: 'it returns false'. Refute it at one input. -/
def memRoomWrong : ChangeSpec := { name := "memRoom", fn := fun _ => fun
  | [d1, d2] => { results := [.lit (.bool false)], args := [d1, d2] }
  | _ => none }
def MemRoomWrongFalsely : Prop := memRoomRow.holds Try.pinned (OpenSpec.ofChange memRoomWrong)

/-- 'cocoonlaw01.MemApart': WHATEVER THE INPUT: true; the input reads as it did. -/
def memApartSpec : ChangeSpec := { name := "memApart", fn := fun _ => fun
  | [d1, d2, d3, d4, d5] => { results := [.lit (.bool true)], args := [d1, d2, d3, d4, d5] }
  | _ => none }
def memApartRow : OpenClaim := { program := "ytkgiddpeaebdfaa", sum := "ef258bfa71c027889784d580bb43ee7e5d016139583503218b4d917a12789593", func := "cocoon/cocoonlaw01.MemApart", spec := "memApart", apart := false }
def MemApartSaid : Prop := memApartRow.holds Try.pinned (OpenSpec.ofChange memApartSpec)

/-- ITS FALSE NEIGHBOUR: 'it returns false'. Refute it at one input. -/
def memApartWrong : ChangeSpec := { name := "memApart", fn := fun _ => fun
  | [d1, d2, d3, d4, d5] => { results := [.lit (.bool false)], args := [d1, d2, d3, d4, d5] }
  | _ => none }
def MemApartWrongFalsely : Prop := memApartRow.holds Try.pinned (OpenSpec.ofChange memApartWrong)

/-- 'cocoonlaw01.MemCopies': WHATEVER THE INPUT: true; the input reads as it did. -/
def memCopiesSpec : ChangeSpec := { name := "memCopies", fn := fun _ => fun
  | [d1, d2, d3, d4, d5] => { results := [.lit (.bool true)], args := [d1, d2, d3, d4, d5] }
  | _ => none }
def memCopiesRow : OpenClaim := { program := "ytkgiddpeaebdfaa", sum := "ef258bfa71c027889784d580bb43ee7e5d016139583503218b4d917a12789593", func := "cocoon/cocoonlaw01.MemCopies", spec := "memCopies", apart := false }
def MemCopiesSaid : Prop := memCopiesRow.holds Try.pinned (OpenSpec.ofChange memCopiesSpec)

/-- ITS FALSE NEIGHBOUR: 'it returns false'. Refute it at one input. -/
def memCopiesWrong : ChangeSpec := { name := "memCopies", fn := fun _ => fun
  | [d1, d2, d3, d4, d5] => { results := [.lit (.bool false)], args := [d1, d2, d3, d4, d5] }
  | _ => none }
def MemCopiesWrongFalsely : Prop := memCopiesRow.holds Try.pinned (OpenSpec.ofChange memCopiesWrong)

/-- 'cocoonlaw01.MemDoes': WHATEVER THE INPUT: true; the input reads as it did. -/
def memDoesSpec : ChangeSpec := { name := "memDoes", fn := fun _ => fun
  | [d1, d2] => { results := [.lit (.bool true)], args := [d1, d2] }
  | _ => none }
def memDoesRow : OpenClaim := { program := "ytkgiddpeaebdfaa", sum := "ef258bfa71c027889784d580bb43ee7e5d016139583503218b4d917a12789593", func := "cocoon/cocoonlaw01.MemDoes", spec := "memDoes", apart := false }
def MemDoesSaid : Prop := memDoesRow.holds Try.pinned (OpenSpec.ofChange memDoesSpec)

/-- ITS FALSE NEIGHBOUR: 'it returns false'. Refute it at one input. -/
def memDoesWrong : ChangeSpec := { name := "memDoes", fn := fun _ => fun
  | [d1, d2] => { results := [.lit (.bool false)], args := [d1, d2] }
  | _ => none }
def MemDoesWrongFalsely : Prop := memDoesRow.holds Try.pinned (OpenSpec.ofChange memDoesWrong)

/-- 'cocoonlaw01.MemKeeps': WHATEVER THE INPUT: true; the input reads as it did. -/
def memKeepsSpec : ChangeSpec := { name := "memKeeps", fn := fun _ => fun
  | [d1, d2, d3, d4] => { results := [.lit (.bool true)], args := [d1, d2, d3, d4] }
  | _ => none }
def memKeepsRow : OpenClaim := { program := "ytkgiddpeaebdfaa", sum := "ef258bfa71c027889784d580bb43ee7e5d016139583503218b4d917a12789593", func := "cocoon/cocoonlaw01.MemKeeps", spec := "memKeeps", apart := false }
def MemKeepsSaid : Prop := memKeepsRow.holds Try.pinned (OpenSpec.ofChange memKeepsSpec)

/-- ITS FALSE NEIGHBOUR: 'it returns false'. Refute it at one input. -/
def memKeepsWrong : ChangeSpec := { name := "memKeeps", fn := fun _ => fun
  | [d1, d2, d3, d4] => { results := [.lit (.bool false)], args := [d1, d2, d3, d4] }
  | _ => none }
def MemKeepsWrongFalsely : Prop := memKeepsRow.holds Try.pinned (OpenSpec.ofChange memKeepsWrong)

/-- 'cocoonlaw01.MemFreed': WHATEVER THE INPUT: true; the input reads as it did. -/
def memFreedSpec : ChangeSpec := { name := "memFreed", fn := fun _ => fun
  | [d1, d2, d3, d4] => { results := [.lit (.bool true)], args := [d1, d2, d3, d4] }
  | _ => none }
def memFreedRow : OpenClaim := { program := "ytkgiddpeaebdfaa", sum := "ef258bfa71c027889784d580bb43ee7e5d016139583503218b4d917a12789593", func := "cocoon/cocoonlaw01.MemFreed", spec := "memFreed", apart := false }
def MemFreedSaid : Prop := memFreedRow.holds Try.pinned (OpenSpec.ofChange memFreedSpec)

/-- ITS FALSE NEIGHBOUR: 'it returns false'. Refute it at one input. -/
def memFreedWrong : ChangeSpec := { name := "memFreed", fn := fun _ => fun
  | [d1, d2, d3, d4] => { results := [.lit (.bool false)], args := [d1, d2, d3, d4] }
  | _ => none }
def MemFreedWrongFalsely : Prop := memFreedRow.holds Try.pinned (OpenSpec.ofChange memFreedWrong)

/- THE SECOND FORM. 'bulk': how many values and letters a reading holds, each counted each time it is reached (what is shared counts as often as it is met; a slice's spare places count too). A statement '..UptoSaid' is the law's where the arguments, and the package variables that the reading takes, are together of bulk at most 1048576: NARROWER than '..Said'. Prove '..Said' where nothing that the law and all that it calls make is longer than what came in: it says more and counts as full. Else prove '..UptoSaid'. A law counts once. -/
mutual
def uptoBulk {H : Type} : DataW H → Nat
  | .lit (.string bytes) => bytes.length + 1
  | .lit _ => 1
  | .nil => 1
  | .ptr d => uptoBulk d + 1
  | .slice elems spare => uptoBulkAll elems + uptoBulkAll spare + 1
  | .agg parts => uptoBulkAll parts + 1
  | .iface _ d => uptoBulk d + 1
  | .map entries => uptoBulkEntries entries + 1
  | .held _ => 1
def uptoBulkAll {H : Type} : List (DataW H) → Nat
  | [] => 0
  | d :: r => uptoBulk d + uptoBulkAll r
def uptoBulkEntries {H : Type} : List (Lit × DataW H) → Nat
  | [] => 0
  | x :: r => uptoBulkEntry x + uptoBulkEntries r
def uptoBulkEntry {H : Type} : Lit × DataW H → Nat
  | (.string bytes, d) => bytes.length + uptoBulk d + 1
  | (_, d) => uptoBulk d + 1
 end
def uptoSmall : (H : Type) → List (DataW H) → Bool := fun _ ds => decide (uptoBulkAll ds ≤ 1048576)
def OpenSpec.upto (s : _root_.Go.ChangeSpec) : _root_.Go.OpenSpec := { _root_.Go.OpenSpec.ofChange s with cond := some uptoSmall }

/-- 'cocoonlaw01.MemOff', WHERE WHAT IT READS IS OF BULK AT MOST 1048576: true; the input reads as it did. -/
def memOffUptoRow : OpenClaim := { program := "ytkgiddpeaebdfaa", sum := "ef258bfa71c027889784d580bb43ee7e5d016139583503218b4d917a12789593", func := "cocoon/cocoonlaw01.MemOff", spec := "memOff", apart := false, narrowed := true }
def MemOffUptoSaid : Prop := memOffUptoRow.holds Try.pinned (OpenSpec.upto memOffSpec)

/-- 'cocoonlaw01.MemClear', WHERE WHAT IT READS IS OF BULK AT MOST 1048576: true; the input reads as it did. -/
def memClearUptoRow : OpenClaim := { program := "ytkgiddpeaebdfaa", sum := "ef258bfa71c027889784d580bb43ee7e5d016139583503218b4d917a12789593", func := "cocoon/cocoonlaw01.MemClear", spec := "memClear", apart := false, narrowed := true }
def MemClearUptoSaid : Prop := memClearUptoRow.holds Try.pinned (OpenSpec.upto memClearSpec)

/-- 'cocoonlaw01.MemRoom', WHERE WHAT IT READS IS OF BULK AT MOST 1048576: true; the input reads as it did. -/
def memRoomUptoRow : OpenClaim := { program := "ytkgiddpeaebdfaa", sum := "ef258bfa71c027889784d580bb43ee7e5d016139583503218b4d917a12789593", func := "cocoon/cocoonlaw01.MemRoom", spec := "memRoom", apart := false, narrowed := true }
def MemRoomUptoSaid : Prop := memRoomUptoRow.holds Try.pinned (OpenSpec.upto memRoomSpec)

/-- 'cocoonlaw01.MemApart', WHERE WHAT IT READS IS OF BULK AT MOST 1048576: true; the input reads as it did. -/
def memApartUptoRow : OpenClaim := { program := "ytkgiddpeaebdfaa", sum := "ef258bfa71c027889784d580bb43ee7e5d016139583503218b4d917a12789593", func := "cocoon/cocoonlaw01.MemApart", spec := "memApart", apart := false, narrowed := true }
def MemApartUptoSaid : Prop := memApartUptoRow.holds Try.pinned (OpenSpec.upto memApartSpec)

/-- 'cocoonlaw01.MemCopies', WHERE WHAT IT READS IS OF BULK AT MOST 1048576: true; the input reads as it did. -/
def memCopiesUptoRow : OpenClaim := { program := "ytkgiddpeaebdfaa", sum := "ef258bfa71c027889784d580bb43ee7e5d016139583503218b4d917a12789593", func := "cocoon/cocoonlaw01.MemCopies", spec := "memCopies", apart := false, narrowed := true }
def MemCopiesUptoSaid : Prop := memCopiesUptoRow.holds Try.pinned (OpenSpec.upto memCopiesSpec)

/-- 'cocoonlaw01.MemDoes', WHERE WHAT IT READS IS OF BULK AT MOST 1048576: true; the input reads as it did. -/
def memDoesUptoRow : OpenClaim := { program := "ytkgiddpeaebdfaa", sum := "ef258bfa71c027889784d580bb43ee7e5d016139583503218b4d917a12789593", func := "cocoon/cocoonlaw01.MemDoes", spec := "memDoes", apart := false, narrowed := true }
def MemDoesUptoSaid : Prop := memDoesUptoRow.holds Try.pinned (OpenSpec.upto memDoesSpec)

/-- 'cocoonlaw01.MemKeeps', WHERE WHAT IT READS IS OF BULK AT MOST 1048576: true; the input reads as it did. -/
def memKeepsUptoRow : OpenClaim := { program := "ytkgiddpeaebdfaa", sum := "ef258bfa71c027889784d580bb43ee7e5d016139583503218b4d917a12789593", func := "cocoon/cocoonlaw01.MemKeeps", spec := "memKeeps", apart := false, narrowed := true }
def MemKeepsUptoSaid : Prop := memKeepsUptoRow.holds Try.pinned (OpenSpec.upto memKeepsSpec)

/-- 'cocoonlaw01.MemFreed', WHERE WHAT IT READS IS OF BULK AT MOST 1048576: true; the input reads as it did. -/
def memFreedUptoRow : OpenClaim := { program := "ytkgiddpeaebdfaa", sum := "ef258bfa71c027889784d580bb43ee7e5d016139583503218b4d917a12789593", func := "cocoon/cocoonlaw01.MemFreed", spec := "memFreed", apart := false, narrowed := true }
def MemFreedUptoSaid : Prop := memFreedUptoRow.holds Try.pinned (OpenSpec.upto memFreedSpec)

end Rows
end Go.Proofs.Ytkgiddpeaebdfaa
