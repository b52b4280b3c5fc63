/-
  NARROWER THAN 'FOR EVERY INPUT', by the rows' own cells (each row's printed sentence says how): GraphFlows: loops · GraphBacks: loops · GraphGoes: loops · GraphWay: loops · GraphMore: loops · GraphBackWay: loops · GraphTurned: loops.
  DERIVED. THE GIVEN ROWS OF THIS SEAT. 7 by the template 'for every input the law returns true; each argument reads behind the call as it read before'; 0 by the template 'total and deterministic' (their statements: YthgnbeeobhfeaaaTotals.lean).
  GIVEN WITH THE SEED: the statements are not yours to turn. If you find one false, say at which input.
  Laid BY PROGRAM, IN A SANDBOX (cutbox-rows.mjs): the forced cells as the released guide's own fill.sh prints them over the translation 6db3ef9860a922f4… (all of the seat's roots in one cut). By AI agents, Wed Nov 11 2026. No macro, syntax, notation, axiom, sorry.
-/
import Derived.Test.YthgnbeeobhfeaaaChecked
import GoSem.Claim
import GoSem.ClaimJoined
import GoSem.ClaimMapViews
import Derived.JoinedTies
import Derived.KernelRfl
namespace Go.Proofs.Ythgnbeeobhfeaaa
/- THE CELL 'sum', in the pinned program and in every row, IS THE sha256 OF THE DUMP (.gsa) THAT YthgnbeeobhfeaaaProg.lean LOADS. Nothing in Lean hashes anything: it is a label: what it is worth is what the hold of that sum in a sandbox is worth. -/
noncomputable def Try.pinned : Pinned := { name := "ythgnbeeobhfeaaa", sum := "6db3ef9860a922f4213d2d8ca9508530fa5f68a505eedfab528dc58620aa4020", checked := Try.checked }
namespace Rows
def none {H : Type} : Left H := { results := [], args := [] }

/-- 'cocoonlaw11.GraphFlows': WHATEVER THE INPUT: true; the input reads as it did. -/
def graphFlowsSpec : ChangeSpec := { name := "graphFlows", fn := fun _ => fun
  | [d1, d2, d3, d4, d5] => { results := [.lit (.bool true)], args := [d1, d2, d3, d4, d5] }
  | _ => none }
def graphFlowsRow : OpenClaim := { program := "ythgnbeeobhfeaaa", sum := "6db3ef9860a922f4213d2d8ca9508530fa5f68a505eedfab528dc58620aa4020", func := "cocoon/cocoonlaw11.GraphFlows", spec := "graphFlows", unfollowed := true, recurses := true, loops := true, plainKeys := false, apart := false }
def GraphFlowsSaid : Prop := graphFlowsRow.holds Try.pinned (OpenSpec.ofChange graphFlowsSpec)

/-- ITS FALSE NEIGHBOUR: 'it returns false'. Refute it at one input. -/
def graphFlowsWrong : ChangeSpec := { name := "graphFlows", fn := fun _ => fun
  | [d1, d2, d3, d4, d5] => { results := [.lit (.bool false)], args := [d1, d2, d3, d4, d5] }
  | _ => none }
def GraphFlowsWrongFalsely : Prop := graphFlowsRow.holds Try.pinned (OpenSpec.ofChange graphFlowsWrong)

/-- 'cocoonlaw11.GraphBacks': WHATEVER THE INPUT: true; the input reads as it did. -/
def graphBacksSpec : ChangeSpec := { name := "graphBacks", fn := fun _ => fun
  | [d1, d2, d3] => { results := [.lit (.bool true)], args := [d1, d2, d3] }
  | _ => none }
def graphBacksRow : OpenClaim := { program := "ythgnbeeobhfeaaa", sum := "6db3ef9860a922f4213d2d8ca9508530fa5f68a505eedfab528dc58620aa4020", func := "cocoon/cocoonlaw11.GraphBacks", spec := "graphBacks", unfollowed := true, recurses := true, loops := true, plainKeys := false, apart := false }
def GraphBacksSaid : Prop := graphBacksRow.holds Try.pinned (OpenSpec.ofChange graphBacksSpec)

/-- ITS FALSE NEIGHBOUR: 'it returns false'. Refute it at one input. -/
def graphBacksWrong : ChangeSpec := { name := "graphBacks", fn := fun _ => fun
  | [d1, d2, d3] => { results := [.lit (.bool false)], args := [d1, d2, d3] }
  | _ => none }
def GraphBacksWrongFalsely : Prop := graphBacksRow.holds Try.pinned (OpenSpec.ofChange graphBacksWrong)

/-- 'cocoonlaw11.GraphGoes': WHATEVER THE INPUT: true; the input reads as it did. -/
def graphGoesSpec : ChangeSpec := { name := "graphGoes", fn := fun _ => fun
  | [d] => { results := [.lit (.bool true)], args := [d] }
  | _ => none }
def graphGoesRow : OpenClaim := { program := "ythgnbeeobhfeaaa", sum := "6db3ef9860a922f4213d2d8ca9508530fa5f68a505eedfab528dc58620aa4020", func := "cocoon/cocoonlaw11.GraphGoes", spec := "graphGoes", unfollowed := true, recurses := true, loops := true, plainKeys := false, apart := false }
def GraphGoesSaid : Prop := graphGoesRow.holds Try.pinned (OpenSpec.ofChange graphGoesSpec)

/-- ITS FALSE NEIGHBOUR: 'it returns false'. Refute it at one input. -/
def graphGoesWrong : ChangeSpec := { name := "graphGoes", fn := fun _ => fun
  | [d] => { results := [.lit (.bool false)], args := [d] }
  | _ => none }
def GraphGoesWrongFalsely : Prop := graphGoesRow.holds Try.pinned (OpenSpec.ofChange graphGoesWrong)

/-- 'cocoonlaw11.GraphWay': WHATEVER THE INPUT: true; the input reads as it did. -/
def graphWaySpec : ChangeSpec := { name := "graphWay", fn := fun _ => fun
  | [d1, d2, d3, d4, d5] => { results := [.lit (.bool true)], args := [d1, d2, d3, d4, d5] }
  | _ => none }
def graphWayRow : OpenClaim := { program := "ythgnbeeobhfeaaa", sum := "6db3ef9860a922f4213d2d8ca9508530fa5f68a505eedfab528dc58620aa4020", func := "cocoon/cocoonlaw11.GraphWay", spec := "graphWay", unfollowed := true, recurses := true, loops := true, plainKeys := false, apart := false }
def GraphWaySaid : Prop := graphWayRow.holds Try.pinned (OpenSpec.ofChange graphWaySpec)

/-- ITS FALSE NEIGHBOUR: 'it returns false'. Refute it at one input. -/
def graphWayWrong : ChangeSpec := { name := "graphWay", fn := fun _ => fun
  | [d1, d2, d3, d4, d5] => { results := [.lit (.bool false)], args := [d1, d2, d3, d4, d5] }
  | _ => none }
def GraphWayWrongFalsely : Prop := graphWayRow.holds Try.pinned (OpenSpec.ofChange graphWayWrong)

/-- 'cocoonlaw11.GraphMore': WHATEVER THE INPUT: true; the input reads as it did. -/
def graphMoreSpec : ChangeSpec := { name := "graphMore", fn := fun _ => fun
  | [d1, d2, d3, d4, d5, d6] => { results := [.lit (.bool true)], args := [d1, d2, d3, d4, d5, d6] }
  | _ => none }
def graphMoreRow : OpenClaim := { program := "ythgnbeeobhfeaaa", sum := "6db3ef9860a922f4213d2d8ca9508530fa5f68a505eedfab528dc58620aa4020", func := "cocoon/cocoonlaw11.GraphMore", spec := "graphMore", unfollowed := true, recurses := true, loops := true, plainKeys := false, apart := false }
def GraphMoreSaid : Prop := graphMoreRow.holds Try.pinned (OpenSpec.ofChange graphMoreSpec)

/-- ITS FALSE NEIGHBOUR: 'it returns false'. Refute it at one input. -/
def graphMoreWrong : ChangeSpec := { name := "graphMore", fn := fun _ => fun
  | [d1, d2, d3, d4, d5, d6] => { results := [.lit (.bool false)], args := [d1, d2, d3, d4, d5, d6] }
  | _ => none }
def GraphMoreWrongFalsely : Prop := graphMoreRow.holds Try.pinned (OpenSpec.ofChange graphMoreWrong)

/-- 'cocoonlaw11.GraphBackWay': WHATEVER THE INPUT: true; the input reads as it did. -/
def graphBackWaySpec : ChangeSpec := { name := "graphBackWay", fn := fun _ => fun
  | [d1, d2, d3, d4, d5] => { results := [.lit (.bool true)], args := [d1, d2, d3, d4, d5] }
  | _ => none }
def graphBackWayRow : OpenClaim := { program := "ythgnbeeobhfeaaa", sum := "6db3ef9860a922f4213d2d8ca9508530fa5f68a505eedfab528dc58620aa4020", func := "cocoon/cocoonlaw11.GraphBackWay", spec := "graphBackWay", unfollowed := true, recurses := true, loops := true, plainKeys := false, apart := false }
def GraphBackWaySaid : Prop := graphBackWayRow.holds Try.pinned (OpenSpec.ofChange graphBackWaySpec)

/-- ITS FALSE NEIGHBOUR: 'it returns false'. Refute it at one input. -/
def graphBackWayWrong : ChangeSpec := { name := "graphBackWay", fn := fun _ => fun
  | [d1, d2, d3, d4, d5] => { results := [.lit (.bool false)], args := [d1, d2, d3, d4, d5] }
  | _ => none }
def GraphBackWayWrongFalsely : Prop := graphBackWayRow.holds Try.pinned (OpenSpec.ofChange graphBackWayWrong)

/-- 'cocoonlaw11.GraphTurned': WHATEVER THE INPUT: true; the input reads as it did. -/
def graphTurnedSpec : ChangeSpec := { name := "graphTurned", fn := fun _ => fun
  | [d1, d2, d3, d4] => { results := [.lit (.bool true)], args := [d1, d2, d3, d4] }
  | _ => none }
def graphTurnedRow : OpenClaim := { program := "ythgnbeeobhfeaaa", sum := "6db3ef9860a922f4213d2d8ca9508530fa5f68a505eedfab528dc58620aa4020", func := "cocoon/cocoonlaw11.GraphTurned", spec := "graphTurned", unfollowed := true, recurses := true, loops := true, plainKeys := false, apart := false }
def GraphTurnedSaid : Prop := graphTurnedRow.holds Try.pinned (OpenSpec.ofChange graphTurnedSpec)

/-- ITS FALSE NEIGHBOUR: 'it returns false'. Refute it at one input. -/
def graphTurnedWrong : ChangeSpec := { name := "graphTurned", fn := fun _ => fun
  | [d1, d2, d3, d4] => { results := [.lit (.bool false)], args := [d1, d2, d3, d4] }
  | _ => none }
def GraphTurnedWrongFalsely : Prop := graphTurnedRow.holds Try.pinned (OpenSpec.ofChange graphTurnedWrong)

/- THE SECOND FORM. 'bulk': how many values and letters a reading holds, each counted each time it is reached (what is shared counts as often as it is met; a slice's spare places count too). A statement '..UptoSaid' is the law's where the arguments, and the package variables that the reading takes, are together of bulk at most 1048576: NARROWER than '..Said'. Prove '..Said' where nothing that the law and all that it calls make is longer than what came in: it says more and counts as full. Else prove '..UptoSaid'. A law counts once. -/
mutual
def uptoBulk {H : Type} : DataW H → Nat
  | .lit (.string bytes) => bytes.length + 1
  | .lit _ => 1
  | .nil => 1
  | .ptr d => uptoBulk d + 1
  | .slice elems spare => uptoBulkAll elems + uptoBulkAll spare + 1
  | .agg parts => uptoBulkAll parts + 1
  | .iface _ d => uptoBulk d + 1
  | .map entries => uptoBulkEntries entries + 1
  | .held _ => 1
def uptoBulkAll {H : Type} : List (DataW H) → Nat
  | [] => 0
  | d :: r => uptoBulk d + uptoBulkAll r
def uptoBulkEntries {H : Type} : List (Lit × DataW H) → Nat
  | [] => 0
  | x :: r => uptoBulkEntry x + uptoBulkEntries r
def uptoBulkEntry {H : Type} : Lit × DataW H → Nat
  | (.string bytes, d) => bytes.length + uptoBulk d + 1
  | (_, d) => uptoBulk d + 1
 end
def uptoSmall : (H : Type) → List (DataW H) → Bool := fun _ ds => decide (uptoBulkAll ds ≤ 1048576)
def OpenSpec.upto (s : _root_.Go.ChangeSpec) : _root_.Go.OpenSpec := { _root_.Go.OpenSpec.ofChange s with cond := some uptoSmall }

/-- 'cocoonlaw11.GraphFlows', WHERE WHAT IT READS IS OF BULK AT MOST 1048576: true; the input reads as it did. -/
def graphFlowsUptoRow : OpenClaim := { program := "ythgnbeeobhfeaaa", sum := "6db3ef9860a922f4213d2d8ca9508530fa5f68a505eedfab528dc58620aa4020", func := "cocoon/cocoonlaw11.GraphFlows", spec := "graphFlows", unfollowed := true, recurses := true, loops := true, plainKeys := false, apart := false, narrowed := true }
def GraphFlowsUptoSaid : Prop := graphFlowsUptoRow.holds Try.pinned (OpenSpec.upto graphFlowsSpec)

/-- 'cocoonlaw11.GraphBacks', WHERE WHAT IT READS IS OF BULK AT MOST 1048576: true; the input reads as it did. -/
def graphBacksUptoRow : OpenClaim := { program := "ythgnbeeobhfeaaa", sum := "6db3ef9860a922f4213d2d8ca9508530fa5f68a505eedfab528dc58620aa4020", func := "cocoon/cocoonlaw11.GraphBacks", spec := "graphBacks", unfollowed := true, recurses := true, loops := true, plainKeys := false, apart := false, narrowed := true }
def GraphBacksUptoSaid : Prop := graphBacksUptoRow.holds Try.pinned (OpenSpec.upto graphBacksSpec)

/-- 'cocoonlaw11.GraphGoes', WHERE WHAT IT READS IS OF BULK AT MOST 1048576: true; the input reads as it did. -/
def graphGoesUptoRow : OpenClaim := { program := "ythgnbeeobhfeaaa", sum := "6db3ef9860a922f4213d2d8ca9508530fa5f68a505eedfab528dc58620aa4020", func := "cocoon/cocoonlaw11.GraphGoes", spec := "graphGoes", unfollowed := true, recurses := true, loops := true, plainKeys := false, apart := false, narrowed := true }
def GraphGoesUptoSaid : Prop := graphGoesUptoRow.holds Try.pinned (OpenSpec.upto graphGoesSpec)

/-- 'cocoonlaw11.GraphWay', WHERE WHAT IT READS IS OF BULK AT MOST 1048576: true; the input reads as it did. -/
def graphWayUptoRow : OpenClaim := { program := "ythgnbeeobhfeaaa", sum := "6db3ef9860a922f4213d2d8ca9508530fa5f68a505eedfab528dc58620aa4020", func := "cocoon/cocoonlaw11.GraphWay", spec := "graphWay", unfollowed := true, recurses := true, loops := true, plainKeys := false, apart := false, narrowed := true }
def GraphWayUptoSaid : Prop := graphWayUptoRow.holds Try.pinned (OpenSpec.upto graphWaySpec)

/-- 'cocoonlaw11.GraphMore', WHERE WHAT IT READS IS OF BULK AT MOST 1048576: true; the input reads as it did. -/
def graphMoreUptoRow : OpenClaim := { program := "ythgnbeeobhfeaaa", sum := "6db3ef9860a922f4213d2d8ca9508530fa5f68a505eedfab528dc58620aa4020", func := "cocoon/cocoonlaw11.GraphMore", spec := "graphMore", unfollowed := true, recurses := true, loops := true, plainKeys := false, apart := false, narrowed := true }
def GraphMoreUptoSaid : Prop := graphMoreUptoRow.holds Try.pinned (OpenSpec.upto graphMoreSpec)

/-- 'cocoonlaw11.GraphBackWay', WHERE WHAT IT READS IS OF BULK AT MOST 1048576: true; the input reads as it did. -/
def graphBackWayUptoRow : OpenClaim := { program := "ythgnbeeobhfeaaa", sum := "6db3ef9860a922f4213d2d8ca9508530fa5f68a505eedfab528dc58620aa4020", func := "cocoon/cocoonlaw11.GraphBackWay", spec := "graphBackWay", unfollowed := true, recurses := true, loops := true, plainKeys := false, apart := false, narrowed := true }
def GraphBackWayUptoSaid : Prop := graphBackWayUptoRow.holds Try.pinned (OpenSpec.upto graphBackWaySpec)

/-- 'cocoonlaw11.GraphTurned', WHERE WHAT IT READS IS OF BULK AT MOST 1048576: true; the input reads as it did. -/
def graphTurnedUptoRow : OpenClaim := { program := "ythgnbeeobhfeaaa", sum := "6db3ef9860a922f4213d2d8ca9508530fa5f68a505eedfab528dc58620aa4020", func := "cocoon/cocoonlaw11.GraphTurned", spec := "graphTurned", unfollowed := true, recurses := true, loops := true, plainKeys := false, apart := false, narrowed := true }
def GraphTurnedUptoSaid : Prop := graphTurnedUptoRow.holds Try.pinned (OpenSpec.upto graphTurnedSpec)

end Rows
end Go.Proofs.Ythgnbeeobhfeaaa
