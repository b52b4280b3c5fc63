/-
  NARROWER THAN 'FOR EVERY INPUT', by the rows' own cells (each row's printed sentence says how): CheckNames: loops, laid · CheckAlone: loops, laid · ParseReads: laid · ParseGlue: laid · ParseBlanks: laid · KindsChecks: loops, laid · KindsAdds: loops, laid · KindsMore: loops, laid · KindsOrder: loops, laid · KindsBox: loops, laid · CheckTexts: laid · CheckMore: loops, laid · CheckUses: loops, laid · CheckEnds: loops, laid.
  DERIVED. THE GIVEN ROWS OF THIS SEAT. 14 by the template 'for every input the law returns true; each argument reads behind the call as it read before'; 0 by the template 'total and deterministic' (their statements: YtjoiflokekebkaaGreatDoorTotals.lean).
  GIVEN WITH THE SEED: the statements are not yours to turn. If you find one false, say at which input.
  Laid BY PROGRAM, IN A SANDBOX (cutbox-rows.mjs): the forced cells as the released guide's own fill.sh prints them over the translation e7896fac7dfbd8de… (all of the seat's roots in one cut). By AI agents, Wed Nov 11 2026. No macro, syntax, notation, axiom, sorry.
-/
import Derived.Test.YtjoiflokekebkaaGreatDoorChecked
import GoSem.Claim
import GoSem.ClaimJoined
import GoSem.ClaimMapViews
import Derived.JoinedTies
import Derived.KernelRfl
namespace Go.Proofs.YtjoiflokekebkaaGreatDoor
/- THE CELL 'sum', in the pinned program and in every row, IS THE sha256 OF THE DUMP (.gsa) THAT YtjoiflokekebkaaGreatDoorProg.lean LOADS. Nothing in Lean hashes anything: it is a label: what it is worth is what the hold of that sum in a sandbox is worth. -/
noncomputable def Tryz.pinned : Pinned := { name := "ytjoiflokekebkaagreatdoor", sum := "e7896fac7dfbd8debf3deab1b46a5626c5ee2c23a6273113ae0ef0717d8d4c73", checked := Tryz.checked }
namespace Rows
def none {H : Type} : Left H := { results := [], args := [] }

/- WHAT THE LISTED PACKAGE-LEVEL VARIABLES READ AS WHEN THE CALL BEGINS. Each datum BY PROGRAM (the guide's laid-datum.mjs) off the statement by which the dump's own 'gosem.cut.vars' lays the variable. In a bare row this is a premise. The card (YtjoiflokekebkaaGreatDoorCards.lean) ties it to the program's text. -/
def laid_math_bits_deBruijn32tab {H : Type} : DataW H := .agg [.lit (.int .u8 0), .lit (.int .u8 1), .lit (.int .u8 28), .lit (.int .u8 2), .lit (.int .u8 29), .lit (.int .u8 14), .lit (.int .u8 24), .lit (.int .u8 3), .lit (.int .u8 30), .lit (.int .u8 22), .lit (.int .u8 20), .lit (.int .u8 15), .lit (.int .u8 25), .lit (.int .u8 17), .lit (.int .u8 4), .lit (.int .u8 8), .lit (.int .u8 31), .lit (.int .u8 27), .lit (.int .u8 13), .lit (.int .u8 23), .lit (.int .u8 21), .lit (.int .u8 19), .lit (.int .u8 16), .lit (.int .u8 7), .lit (.int .u8 26), .lit (.int .u8 12), .lit (.int .u8 18), .lit (.int .u8 6), .lit (.int .u8 11), .lit (.int .u8 5), .lit (.int .u8 10), .lit (.int .u8 9)]
def laid_math_bits_deBruijn64tab {H : Type} : DataW H := .agg [.lit (.int .u8 0), .lit (.int .u8 1), .lit (.int .u8 56), .lit (.int .u8 2), .lit (.int .u8 57), .lit (.int .u8 49), .lit (.int .u8 28), .lit (.int .u8 3), .lit (.int .u8 61), .lit (.int .u8 58), .lit (.int .u8 42), .lit (.int .u8 50), .lit (.int .u8 38), .lit (.int .u8 29), .lit (.int .u8 17), .lit (.int .u8 4), .lit (.int .u8 62), .lit (.int .u8 47), .lit (.int .u8 59), .lit (.int .u8 36), .lit (.int .u8 45), .lit (.int .u8 43), .lit (.int .u8 51), .lit (.int .u8 22), .lit (.int .u8 53), .lit (.int .u8 39), .lit (.int .u8 33), .lit (.int .u8 30), .lit (.int .u8 24), .lit (.int .u8 18), .lit (.int .u8 12), .lit (.int .u8 5), .lit (.int .u8 63), .lit (.int .u8 55), .lit (.int .u8 48), .lit (.int .u8 27), .lit (.int .u8 60), .lit (.int .u8 41), .lit (.int .u8 37), .lit (.int .u8 16), .lit (.int .u8 46), .lit (.int .u8 35), .lit (.int .u8 44), .lit (.int .u8 21), .lit (.int .u8 52), .lit (.int .u8 32), .lit (.int .u8 23), .lit (.int .u8 11), .lit (.int .u8 54), .lit (.int .u8 26), .lit (.int .u8 40), .lit (.int .u8 15), .lit (.int .u8 34), .lit (.int .u8 20), .lit (.int .u8 31), .lit (.int .u8 10), .lit (.int .u8 25), .lit (.int .u8 14), .lit (.int .u8 19), .lit (.int .u8 9), .lit (.int .u8 13), .lit (.int .u8 8), .lit (.int .u8 7), .lit (.int .u8 6)]
def laid_internal_strconv_uint64pow10 {H : Type} : DataW H := .agg [.lit (.int .u64 1), .lit (.int .u64 10), .lit (.int .u64 100), .lit (.int .u64 1000), .lit (.int .u64 10000), .lit (.int .u64 100000), .lit (.int .u64 1000000), .lit (.int .u64 10000000), .lit (.int .u64 100000000), .lit (.int .u64 1000000000), .lit (.int .u64 10000000000), .lit (.int .u64 100000000000), .lit (.int .u64 1000000000000), .lit (.int .u64 10000000000000), .lit (.int .u64 100000000000000), .lit (.int .u64 1000000000000000), .lit (.int .u64 10000000000000000), .lit (.int .u64 100000000000000000), .lit (.int .u64 1000000000000000000), .lit (.int .u64 10000000000000000000)]
def laid_strconv_ErrRange {H : Type} : DataW H := .iface "*errors.errorString" (.ptr (.agg [.lit (.string [118, 97, 108, 117, 101, 32, 111, 117, 116, 32, 111, 102, 32, 114, 97, 110, 103, 101])]))
def laid_strconv_ErrSyntax {H : Type} : DataW H := .iface "*errors.errorString" (.ptr (.agg [.lit (.string [105, 110, 118, 97, 108, 105, 100, 32, 115, 121, 110, 116, 97, 120])]))

/-- 'cocoonlaw08.CheckNames': WHATEVER THE INPUT: true; the input reads as it did. -/
def checkNamesSpec : ChangeSpec := { name := "checkNames", fn := fun _ => fun
  | [d1, d2, d3, d4] => { results := [.lit (.bool true)], args := [d1, d2, d3, d4] }
  | _ => none }
def checkNamesRow : OpenClaim := { program := "ytjoiflokekebkaagreatdoor", sum := "e7896fac7dfbd8debf3deab1b46a5626c5ee2c23a6273113ae0ef0717d8d4c73", func := "cocoon/cocoonlaw08.CheckNames", spec := "checkNames", inPlace := ["internal/bytealg.IndexByteString"], unfollowed := true, recurses := true, named := ["strconv.ErrSyntax", "strconv.ErrRange", "internal/strconv.uint64pow10", "math/bits.deBruijn32tab", "math/bits.deBruijn64tab"], loops := true, plainKeys := false, apart := false, laid := [("math/bits.deBruijn32tab", laid_math_bits_deBruijn32tab), ("math/bits.deBruijn64tab", laid_math_bits_deBruijn64tab), ("internal/strconv.uint64pow10", laid_internal_strconv_uint64pow10), ("strconv.ErrRange", laid_strconv_ErrRange), ("strconv.ErrSyntax", laid_strconv_ErrSyntax)] }
def CheckNamesSaid : Prop := checkNamesRow.holds Tryz.pinned (OpenSpec.ofChange checkNamesSpec)

/-- ITS FALSE NEIGHBOUR: 'it returns false'. Refute it at one input. -/
def checkNamesWrong : ChangeSpec := { name := "checkNames", fn := fun _ => fun
  | [d1, d2, d3, d4] => { results := [.lit (.bool false)], args := [d1, d2, d3, d4] }
  | _ => none }
def CheckNamesWrongFalsely : Prop := checkNamesRow.holds Tryz.pinned (OpenSpec.ofChange checkNamesWrong)

/-- 'cocoonlaw08.CheckAlone': WHATEVER THE INPUT: true; the input reads as it did. -/
def checkAloneSpec : ChangeSpec := { name := "checkAlone", fn := fun _ => fun
  | [d] => { results := [.lit (.bool true)], args := [d] }
  | _ => none }
def checkAloneRow : OpenClaim := { program := "ytjoiflokekebkaagreatdoor", sum := "e7896fac7dfbd8debf3deab1b46a5626c5ee2c23a6273113ae0ef0717d8d4c73", func := "cocoon/cocoonlaw08.CheckAlone", spec := "checkAlone", inPlace := ["internal/bytealg.IndexByteString"], unfollowed := true, recurses := true, named := ["strconv.ErrSyntax", "strconv.ErrRange", "internal/strconv.uint64pow10", "math/bits.deBruijn32tab", "math/bits.deBruijn64tab"], loops := true, plainKeys := false, apart := false, laid := [("math/bits.deBruijn32tab", laid_math_bits_deBruijn32tab), ("math/bits.deBruijn64tab", laid_math_bits_deBruijn64tab), ("internal/strconv.uint64pow10", laid_internal_strconv_uint64pow10), ("strconv.ErrRange", laid_strconv_ErrRange), ("strconv.ErrSyntax", laid_strconv_ErrSyntax)] }
def CheckAloneSaid : Prop := checkAloneRow.holds Tryz.pinned (OpenSpec.ofChange checkAloneSpec)

/-- ITS FALSE NEIGHBOUR: 'it returns false'. Refute it at one input. -/
def checkAloneWrong : ChangeSpec := { name := "checkAlone", fn := fun _ => fun
  | [d] => { results := [.lit (.bool false)], args := [d] }
  | _ => none }
def CheckAloneWrongFalsely : Prop := checkAloneRow.holds Tryz.pinned (OpenSpec.ofChange checkAloneWrong)

/-- 'cocoonlaw06.ParseReads': WHATEVER THE INPUT: true; the input reads as it did. -/
def parseReadsSpec : ChangeSpec := { name := "parseReads", fn := fun _ => fun
  | [d] => { results := [.lit (.bool true)], args := [d] }
  | _ => none }
def parseReadsRow : OpenClaim := { program := "ytjoiflokekebkaagreatdoor", sum := "e7896fac7dfbd8debf3deab1b46a5626c5ee2c23a6273113ae0ef0717d8d4c73", func := "cocoon/cocoonlaw06.ParseReads", spec := "parseReads", inPlace := ["internal/bytealg.IndexByteString"], unfollowed := true, recurses := true, named := ["strconv.ErrSyntax", "strconv.ErrRange", "internal/strconv.uint64pow10", "math/bits.deBruijn32tab", "math/bits.deBruijn64tab"], plainKeys := false, apart := false, laid := [("math/bits.deBruijn32tab", laid_math_bits_deBruijn32tab), ("math/bits.deBruijn64tab", laid_math_bits_deBruijn64tab), ("internal/strconv.uint64pow10", laid_internal_strconv_uint64pow10), ("strconv.ErrRange", laid_strconv_ErrRange), ("strconv.ErrSyntax", laid_strconv_ErrSyntax)] }
def ParseReadsSaid : Prop := parseReadsRow.holds Tryz.pinned (OpenSpec.ofChange parseReadsSpec)

/-- ITS FALSE NEIGHBOUR: 'it returns false'. Refute it at one input. -/
def parseReadsWrong : ChangeSpec := { name := "parseReads", fn := fun _ => fun
  | [d] => { results := [.lit (.bool false)], args := [d] }
  | _ => none }
def ParseReadsWrongFalsely : Prop := parseReadsRow.holds Tryz.pinned (OpenSpec.ofChange parseReadsWrong)

/-- 'cocoonlaw06.ParseGlue': WHATEVER THE INPUT: true; the input reads as it did. -/
def parseGlueSpec : ChangeSpec := { name := "parseGlue", fn := fun _ => fun
  | [d1, d2] => { results := [.lit (.bool true)], args := [d1, d2] }
  | _ => none }
def parseGlueRow : OpenClaim := { program := "ytjoiflokekebkaagreatdoor", sum := "e7896fac7dfbd8debf3deab1b46a5626c5ee2c23a6273113ae0ef0717d8d4c73", func := "cocoon/cocoonlaw06.ParseGlue", spec := "parseGlue", inPlace := ["internal/bytealg.IndexByteString"], unfollowed := true, recurses := true, named := ["strconv.ErrSyntax", "strconv.ErrRange", "internal/strconv.uint64pow10", "math/bits.deBruijn32tab", "math/bits.deBruijn64tab"], plainKeys := false, apart := false, laid := [("math/bits.deBruijn32tab", laid_math_bits_deBruijn32tab), ("math/bits.deBruijn64tab", laid_math_bits_deBruijn64tab), ("internal/strconv.uint64pow10", laid_internal_strconv_uint64pow10), ("strconv.ErrRange", laid_strconv_ErrRange), ("strconv.ErrSyntax", laid_strconv_ErrSyntax)] }
def ParseGlueSaid : Prop := parseGlueRow.holds Tryz.pinned (OpenSpec.ofChange parseGlueSpec)

/-- ITS FALSE NEIGHBOUR: 'it returns false'. Refute it at one input. -/
def parseGlueWrong : ChangeSpec := { name := "parseGlue", fn := fun _ => fun
  | [d1, d2] => { results := [.lit (.bool false)], args := [d1, d2] }
  | _ => none }
def ParseGlueWrongFalsely : Prop := parseGlueRow.holds Tryz.pinned (OpenSpec.ofChange parseGlueWrong)

/-- 'cocoonlaw06.ParseBlanks': WHATEVER THE INPUT: true; the input reads as it did. -/
def parseBlanksSpec : ChangeSpec := { name := "parseBlanks", fn := fun _ => fun
  | [d] => { results := [.lit (.bool true)], args := [d] }
  | _ => none }
def parseBlanksRow : OpenClaim := { program := "ytjoiflokekebkaagreatdoor", sum := "e7896fac7dfbd8debf3deab1b46a5626c5ee2c23a6273113ae0ef0717d8d4c73", func := "cocoon/cocoonlaw06.ParseBlanks", spec := "parseBlanks", inPlace := ["internal/bytealg.IndexByteString"], unfollowed := true, recurses := true, named := ["strconv.ErrSyntax", "strconv.ErrRange", "internal/strconv.uint64pow10", "math/bits.deBruijn32tab", "math/bits.deBruijn64tab"], plainKeys := false, apart := false, laid := [("math/bits.deBruijn32tab", laid_math_bits_deBruijn32tab), ("math/bits.deBruijn64tab", laid_math_bits_deBruijn64tab), ("internal/strconv.uint64pow10", laid_internal_strconv_uint64pow10), ("strconv.ErrRange", laid_strconv_ErrRange), ("strconv.ErrSyntax", laid_strconv_ErrSyntax)] }
def ParseBlanksSaid : Prop := parseBlanksRow.holds Tryz.pinned (OpenSpec.ofChange parseBlanksSpec)

/-- ITS FALSE NEIGHBOUR: 'it returns false'. Refute it at one input. -/
def parseBlanksWrong : ChangeSpec := { name := "parseBlanks", fn := fun _ => fun
  | [d] => { results := [.lit (.bool false)], args := [d] }
  | _ => none }
def ParseBlanksWrongFalsely : Prop := parseBlanksRow.holds Tryz.pinned (OpenSpec.ofChange parseBlanksWrong)

/-- 'cocoonlaw07.KindsChecks': WHATEVER THE INPUT: true; the input reads as it did. -/
def kindsChecksSpec : ChangeSpec := { name := "kindsChecks", fn := fun _ => fun
  | [d] => { results := [.lit (.bool true)], args := [d] }
  | _ => none }
def kindsChecksRow : OpenClaim := { program := "ytjoiflokekebkaagreatdoor", sum := "e7896fac7dfbd8debf3deab1b46a5626c5ee2c23a6273113ae0ef0717d8d4c73", func := "cocoon/cocoonlaw07.KindsChecks", spec := "kindsChecks", inPlace := ["internal/bytealg.IndexByteString"], unfollowed := true, recurses := true, named := ["strconv.ErrSyntax", "strconv.ErrRange", "internal/strconv.uint64pow10", "math/bits.deBruijn32tab", "math/bits.deBruijn64tab"], loops := true, plainKeys := false, apart := false, laid := [("math/bits.deBruijn32tab", laid_math_bits_deBruijn32tab), ("math/bits.deBruijn64tab", laid_math_bits_deBruijn64tab), ("internal/strconv.uint64pow10", laid_internal_strconv_uint64pow10), ("strconv.ErrRange", laid_strconv_ErrRange), ("strconv.ErrSyntax", laid_strconv_ErrSyntax)] }
def KindsChecksSaid : Prop := kindsChecksRow.holds Tryz.pinned (OpenSpec.ofChange kindsChecksSpec)

/-- ITS FALSE NEIGHBOUR: 'it returns false'. Refute it at one input. -/
def kindsChecksWrong : ChangeSpec := { name := "kindsChecks", fn := fun _ => fun
  | [d] => { results := [.lit (.bool false)], args := [d] }
  | _ => none }
def KindsChecksWrongFalsely : Prop := kindsChecksRow.holds Tryz.pinned (OpenSpec.ofChange kindsChecksWrong)

/-- 'cocoonlaw07.KindsAdds': WHATEVER THE INPUT: true; the input reads as it did. -/
def kindsAddsSpec : ChangeSpec := { name := "kindsAdds", fn := fun _ => fun
  | [d] => { results := [.lit (.bool true)], args := [d] }
  | _ => none }
def kindsAddsRow : OpenClaim := { program := "ytjoiflokekebkaagreatdoor", sum := "e7896fac7dfbd8debf3deab1b46a5626c5ee2c23a6273113ae0ef0717d8d4c73", func := "cocoon/cocoonlaw07.KindsAdds", spec := "kindsAdds", inPlace := ["internal/bytealg.IndexByteString"], unfollowed := true, recurses := true, named := ["strconv.ErrSyntax", "strconv.ErrRange", "internal/strconv.uint64pow10", "math/bits.deBruijn32tab", "math/bits.deBruijn64tab"], loops := true, plainKeys := false, apart := false, laid := [("math/bits.deBruijn32tab", laid_math_bits_deBruijn32tab), ("math/bits.deBruijn64tab", laid_math_bits_deBruijn64tab), ("internal/strconv.uint64pow10", laid_internal_strconv_uint64pow10), ("strconv.ErrRange", laid_strconv_ErrRange), ("strconv.ErrSyntax", laid_strconv_ErrSyntax)] }
def KindsAddsSaid : Prop := kindsAddsRow.holds Tryz.pinned (OpenSpec.ofChange kindsAddsSpec)

/-- ITS FALSE NEIGHBOUR: 'it returns false'. Refute it at one input. -/
def kindsAddsWrong : ChangeSpec := { name := "kindsAdds", fn := fun _ => fun
  | [d] => { results := [.lit (.bool false)], args := [d] }
  | _ => none }
def KindsAddsWrongFalsely : Prop := kindsAddsRow.holds Tryz.pinned (OpenSpec.ofChange kindsAddsWrong)

/-- 'cocoonlaw07.KindsMore': WHATEVER THE INPUT: true; the input reads as it did. -/
def kindsMoreSpec : ChangeSpec := { name := "kindsMore", fn := fun _ => fun
  | [d1, d2, d3] => { results := [.lit (.bool true)], args := [d1, d2, d3] }
  | _ => none }
def kindsMoreRow : OpenClaim := { program := "ytjoiflokekebkaagreatdoor", sum := "e7896fac7dfbd8debf3deab1b46a5626c5ee2c23a6273113ae0ef0717d8d4c73", func := "cocoon/cocoonlaw07.KindsMore", spec := "kindsMore", inPlace := ["internal/bytealg.IndexByteString"], unfollowed := true, recurses := true, named := ["strconv.ErrSyntax", "strconv.ErrRange", "internal/strconv.uint64pow10", "math/bits.deBruijn32tab", "math/bits.deBruijn64tab"], loops := true, plainKeys := false, apart := false, laid := [("math/bits.deBruijn32tab", laid_math_bits_deBruijn32tab), ("math/bits.deBruijn64tab", laid_math_bits_deBruijn64tab), ("internal/strconv.uint64pow10", laid_internal_strconv_uint64pow10), ("strconv.ErrRange", laid_strconv_ErrRange), ("strconv.ErrSyntax", laid_strconv_ErrSyntax)] }
def KindsMoreSaid : Prop := kindsMoreRow.holds Tryz.pinned (OpenSpec.ofChange kindsMoreSpec)

/-- ITS FALSE NEIGHBOUR: 'it returns false'. Refute it at one input. -/
def kindsMoreWrong : ChangeSpec := { name := "kindsMore", fn := fun _ => fun
  | [d1, d2, d3] => { results := [.lit (.bool false)], args := [d1, d2, d3] }
  | _ => none }
def KindsMoreWrongFalsely : Prop := kindsMoreRow.holds Tryz.pinned (OpenSpec.ofChange kindsMoreWrong)

/-- 'cocoonlaw07.KindsOrder': WHATEVER THE INPUT: true; the input reads as it did. -/
def kindsOrderSpec : ChangeSpec := { name := "kindsOrder", fn := fun _ => fun
  | [d1, d2] => { results := [.lit (.bool true)], args := [d1, d2] }
  | _ => none }
def kindsOrderRow : OpenClaim := { program := "ytjoiflokekebkaagreatdoor", sum := "e7896fac7dfbd8debf3deab1b46a5626c5ee2c23a6273113ae0ef0717d8d4c73", func := "cocoon/cocoonlaw07.KindsOrder", spec := "kindsOrder", inPlace := ["internal/bytealg.IndexByteString"], unfollowed := true, recurses := true, named := ["strconv.ErrSyntax", "strconv.ErrRange", "internal/strconv.uint64pow10", "math/bits.deBruijn32tab", "math/bits.deBruijn64tab"], loops := true, plainKeys := false, apart := false, laid := [("math/bits.deBruijn32tab", laid_math_bits_deBruijn32tab), ("math/bits.deBruijn64tab", laid_math_bits_deBruijn64tab), ("internal/strconv.uint64pow10", laid_internal_strconv_uint64pow10), ("strconv.ErrRange", laid_strconv_ErrRange), ("strconv.ErrSyntax", laid_strconv_ErrSyntax)] }
def KindsOrderSaid : Prop := kindsOrderRow.holds Tryz.pinned (OpenSpec.ofChange kindsOrderSpec)

/-- ITS FALSE NEIGHBOUR: 'it returns false'. Refute it at one input. -/
def kindsOrderWrong : ChangeSpec := { name := "kindsOrder", fn := fun _ => fun
  | [d1, d2] => { results := [.lit (.bool false)], args := [d1, d2] }
  | _ => none }
def KindsOrderWrongFalsely : Prop := kindsOrderRow.holds Tryz.pinned (OpenSpec.ofChange kindsOrderWrong)

/-- 'cocoonlaw07.KindsBox': WHATEVER THE INPUT: true; the input reads as it did. -/
def kindsBoxSpec : ChangeSpec := { name := "kindsBox", fn := fun _ => fun
  | [d1, d2] => { results := [.lit (.bool true)], args := [d1, d2] }
  | _ => none }
def kindsBoxRow : OpenClaim := { program := "ytjoiflokekebkaagreatdoor", sum := "e7896fac7dfbd8debf3deab1b46a5626c5ee2c23a6273113ae0ef0717d8d4c73", func := "cocoon/cocoonlaw07.KindsBox", spec := "kindsBox", inPlace := ["internal/bytealg.IndexByteString"], unfollowed := true, recurses := true, named := ["strconv.ErrSyntax", "strconv.ErrRange", "internal/strconv.uint64pow10", "math/bits.deBruijn32tab", "math/bits.deBruijn64tab"], loops := true, plainKeys := false, apart := false, laid := [("math/bits.deBruijn32tab", laid_math_bits_deBruijn32tab), ("math/bits.deBruijn64tab", laid_math_bits_deBruijn64tab), ("internal/strconv.uint64pow10", laid_internal_strconv_uint64pow10), ("strconv.ErrRange", laid_strconv_ErrRange), ("strconv.ErrSyntax", laid_strconv_ErrSyntax)] }
def KindsBoxSaid : Prop := kindsBoxRow.holds Tryz.pinned (OpenSpec.ofChange kindsBoxSpec)

/-- ITS FALSE NEIGHBOUR: 'it returns false'. Refute it at one input. -/
def kindsBoxWrong : ChangeSpec := { name := "kindsBox", fn := fun _ => fun
  | [d1, d2] => { results := [.lit (.bool false)], args := [d1, d2] }
  | _ => none }
def KindsBoxWrongFalsely : Prop := kindsBoxRow.holds Tryz.pinned (OpenSpec.ofChange kindsBoxWrong)

/-- 'cocoonlaw08.CheckTexts': WHATEVER THE INPUT: true; the input reads as it did. -/
def checkTextsSpec : ChangeSpec := { name := "checkTexts", fn := fun _ => fun
  | [d] => { results := [.lit (.bool true)], args := [d] }
  | _ => none }
def checkTextsRow : OpenClaim := { program := "ytjoiflokekebkaagreatdoor", sum := "e7896fac7dfbd8debf3deab1b46a5626c5ee2c23a6273113ae0ef0717d8d4c73", func := "cocoon/cocoonlaw08.CheckTexts", spec := "checkTexts", inPlace := ["internal/bytealg.IndexByteString"], unfollowed := true, recurses := true, named := ["strconv.ErrSyntax", "strconv.ErrRange", "internal/strconv.uint64pow10", "math/bits.deBruijn32tab", "math/bits.deBruijn64tab"], plainKeys := false, apart := false, laid := [("math/bits.deBruijn32tab", laid_math_bits_deBruijn32tab), ("math/bits.deBruijn64tab", laid_math_bits_deBruijn64tab), ("internal/strconv.uint64pow10", laid_internal_strconv_uint64pow10), ("strconv.ErrRange", laid_strconv_ErrRange), ("strconv.ErrSyntax", laid_strconv_ErrSyntax)] }
def CheckTextsSaid : Prop := checkTextsRow.holds Tryz.pinned (OpenSpec.ofChange checkTextsSpec)

/-- ITS FALSE NEIGHBOUR: 'it returns false'. Refute it at one input. -/
def checkTextsWrong : ChangeSpec := { name := "checkTexts", fn := fun _ => fun
  | [d] => { results := [.lit (.bool false)], args := [d] }
  | _ => none }
def CheckTextsWrongFalsely : Prop := checkTextsRow.holds Tryz.pinned (OpenSpec.ofChange checkTextsWrong)

/-- 'cocoonlaw08.CheckMore': WHATEVER THE INPUT: true; the input reads as it did. -/
def checkMoreSpec : ChangeSpec := { name := "checkMore", fn := fun _ => fun
  | [d] => { results := [.lit (.bool true)], args := [d] }
  | _ => none }
def checkMoreRow : OpenClaim := { program := "ytjoiflokekebkaagreatdoor", sum := "e7896fac7dfbd8debf3deab1b46a5626c5ee2c23a6273113ae0ef0717d8d4c73", func := "cocoon/cocoonlaw08.CheckMore", spec := "checkMore", inPlace := ["internal/bytealg.IndexByteString"], unfollowed := true, recurses := true, named := ["strconv.ErrSyntax", "strconv.ErrRange", "internal/strconv.uint64pow10", "math/bits.deBruijn32tab", "math/bits.deBruijn64tab"], loops := true, plainKeys := false, apart := false, laid := [("math/bits.deBruijn32tab", laid_math_bits_deBruijn32tab), ("math/bits.deBruijn64tab", laid_math_bits_deBruijn64tab), ("internal/strconv.uint64pow10", laid_internal_strconv_uint64pow10), ("strconv.ErrRange", laid_strconv_ErrRange), ("strconv.ErrSyntax", laid_strconv_ErrSyntax)] }
def CheckMoreSaid : Prop := checkMoreRow.holds Tryz.pinned (OpenSpec.ofChange checkMoreSpec)

/-- ITS FALSE NEIGHBOUR: 'it returns false'. Refute it at one input. -/
def checkMoreWrong : ChangeSpec := { name := "checkMore", fn := fun _ => fun
  | [d] => { results := [.lit (.bool false)], args := [d] }
  | _ => none }
def CheckMoreWrongFalsely : Prop := checkMoreRow.holds Tryz.pinned (OpenSpec.ofChange checkMoreWrong)

/-- 'cocoonlaw08.CheckUses': WHATEVER THE INPUT: true; the input reads as it did. -/
def checkUsesSpec : ChangeSpec := { name := "checkUses", fn := fun _ => fun
  | [d1, d2, d3] => { results := [.lit (.bool true)], args := [d1, d2, d3] }
  | _ => none }
def checkUsesRow : OpenClaim := { program := "ytjoiflokekebkaagreatdoor", sum := "e7896fac7dfbd8debf3deab1b46a5626c5ee2c23a6273113ae0ef0717d8d4c73", func := "cocoon/cocoonlaw08.CheckUses", spec := "checkUses", inPlace := ["internal/bytealg.IndexByteString"], unfollowed := true, recurses := true, named := ["strconv.ErrSyntax", "strconv.ErrRange", "internal/strconv.uint64pow10", "math/bits.deBruijn32tab", "math/bits.deBruijn64tab"], loops := true, plainKeys := false, apart := false, laid := [("math/bits.deBruijn32tab", laid_math_bits_deBruijn32tab), ("math/bits.deBruijn64tab", laid_math_bits_deBruijn64tab), ("internal/strconv.uint64pow10", laid_internal_strconv_uint64pow10), ("strconv.ErrRange", laid_strconv_ErrRange), ("strconv.ErrSyntax", laid_strconv_ErrSyntax)] }
def CheckUsesSaid : Prop := checkUsesRow.holds Tryz.pinned (OpenSpec.ofChange checkUsesSpec)

/-- ITS FALSE NEIGHBOUR: 'it returns false'. Refute it at one input. -/
def checkUsesWrong : ChangeSpec := { name := "checkUses", fn := fun _ => fun
  | [d1, d2, d3] => { results := [.lit (.bool false)], args := [d1, d2, d3] }
  | _ => none }
def CheckUsesWrongFalsely : Prop := checkUsesRow.holds Tryz.pinned (OpenSpec.ofChange checkUsesWrong)

/-- 'cocoonlaw08.CheckEnds': WHATEVER THE INPUT: true; the input reads as it did. -/
def checkEndsSpec : ChangeSpec := { name := "checkEnds", fn := fun _ => fun
  | [d1, d2] => { results := [.lit (.bool true)], args := [d1, d2] }
  | _ => none }
def checkEndsRow : OpenClaim := { program := "ytjoiflokekebkaagreatdoor", sum := "e7896fac7dfbd8debf3deab1b46a5626c5ee2c23a6273113ae0ef0717d8d4c73", func := "cocoon/cocoonlaw08.CheckEnds", spec := "checkEnds", inPlace := ["internal/bytealg.IndexByteString"], unfollowed := true, recurses := true, named := ["strconv.ErrSyntax", "strconv.ErrRange", "internal/strconv.uint64pow10", "math/bits.deBruijn32tab", "math/bits.deBruijn64tab"], loops := true, plainKeys := false, apart := false, laid := [("math/bits.deBruijn32tab", laid_math_bits_deBruijn32tab), ("math/bits.deBruijn64tab", laid_math_bits_deBruijn64tab), ("internal/strconv.uint64pow10", laid_internal_strconv_uint64pow10), ("strconv.ErrRange", laid_strconv_ErrRange), ("strconv.ErrSyntax", laid_strconv_ErrSyntax)] }
def CheckEndsSaid : Prop := checkEndsRow.holds Tryz.pinned (OpenSpec.ofChange checkEndsSpec)

/-- ITS FALSE NEIGHBOUR: 'it returns false'. Refute it at one input. -/
def checkEndsWrong : ChangeSpec := { name := "checkEnds", fn := fun _ => fun
  | [d1, d2] => { results := [.lit (.bool false)], args := [d1, d2] }
  | _ => none }
def CheckEndsWrongFalsely : Prop := checkEndsRow.holds Tryz.pinned (OpenSpec.ofChange checkEndsWrong)

/- THE SECOND FORM. 'bulk': how many values and letters a reading holds, each counted each time it is reached (what is shared counts as often as it is met; a slice's spare places count too). A statement '..UptoSaid' is the law's where the arguments, and the package variables that the reading takes, are together of bulk at most 1048576: NARROWER than '..Said'. Prove '..Said' where nothing that the law and all that it calls make is longer than what came in: it says more and counts as full. Else prove '..UptoSaid'. A law counts once. -/
mutual
def uptoBulk {H : Type} : DataW H → Nat
  | .lit (.string bytes) => bytes.length + 1
  | .lit _ => 1
  | .nil => 1
  | .ptr d => uptoBulk d + 1
  | .slice elems spare => uptoBulkAll elems + uptoBulkAll spare + 1
  | .agg parts => uptoBulkAll parts + 1
  | .iface _ d => uptoBulk d + 1
  | .map entries => uptoBulkEntries entries + 1
  | .held _ => 1
def uptoBulkAll {H : Type} : List (DataW H) → Nat
  | [] => 0
  | d :: r => uptoBulk d + uptoBulkAll r
def uptoBulkEntries {H : Type} : List (Lit × DataW H) → Nat
  | [] => 0
  | x :: r => uptoBulkEntry x + uptoBulkEntries r
def uptoBulkEntry {H : Type} : Lit × DataW H → Nat
  | (.string bytes, d) => bytes.length + uptoBulk d + 1
  | (_, d) => uptoBulk d + 1
 end
def uptoSmall : (H : Type) → List (DataW H) → Bool := fun _ ds => decide (uptoBulkAll ds ≤ 1048576)
def OpenSpec.upto (s : _root_.Go.ChangeSpec) : _root_.Go.OpenSpec := { _root_.Go.OpenSpec.ofChange s with cond := some uptoSmall }

/-- 'cocoonlaw08.CheckNames', WHERE WHAT IT READS IS OF BULK AT MOST 1048576: true; the input reads as it did. -/
def checkNamesUptoRow : OpenClaim := { program := "ytjoiflokekebkaagreatdoor", sum := "e7896fac7dfbd8debf3deab1b46a5626c5ee2c23a6273113ae0ef0717d8d4c73", func := "cocoon/cocoonlaw08.CheckNames", spec := "checkNames", inPlace := ["internal/bytealg.IndexByteString"], unfollowed := true, recurses := true, named := ["strconv.ErrSyntax", "strconv.ErrRange", "internal/strconv.uint64pow10", "math/bits.deBruijn32tab", "math/bits.deBruijn64tab"], loops := true, plainKeys := false, apart := false, laid := [("math/bits.deBruijn32tab", laid_math_bits_deBruijn32tab), ("math/bits.deBruijn64tab", laid_math_bits_deBruijn64tab), ("internal/strconv.uint64pow10", laid_internal_strconv_uint64pow10), ("strconv.ErrRange", laid_strconv_ErrRange), ("strconv.ErrSyntax", laid_strconv_ErrSyntax)], narrowed := true }
def CheckNamesUptoSaid : Prop := checkNamesUptoRow.holds Tryz.pinned (OpenSpec.upto checkNamesSpec)

/-- 'cocoonlaw08.CheckAlone', WHERE WHAT IT READS IS OF BULK AT MOST 1048576: true; the input reads as it did. -/
def checkAloneUptoRow : OpenClaim := { program := "ytjoiflokekebkaagreatdoor", sum := "e7896fac7dfbd8debf3deab1b46a5626c5ee2c23a6273113ae0ef0717d8d4c73", func := "cocoon/cocoonlaw08.CheckAlone", spec := "checkAlone", inPlace := ["internal/bytealg.IndexByteString"], unfollowed := true, recurses := true, named := ["strconv.ErrSyntax", "strconv.ErrRange", "internal/strconv.uint64pow10", "math/bits.deBruijn32tab", "math/bits.deBruijn64tab"], loops := true, plainKeys := false, apart := false, laid := [("math/bits.deBruijn32tab", laid_math_bits_deBruijn32tab), ("math/bits.deBruijn64tab", laid_math_bits_deBruijn64tab), ("internal/strconv.uint64pow10", laid_internal_strconv_uint64pow10), ("strconv.ErrRange", laid_strconv_ErrRange), ("strconv.ErrSyntax", laid_strconv_ErrSyntax)], narrowed := true }
def CheckAloneUptoSaid : Prop := checkAloneUptoRow.holds Tryz.pinned (OpenSpec.upto checkAloneSpec)

/-- 'cocoonlaw06.ParseReads', WHERE WHAT IT READS IS OF BULK AT MOST 1048576: true; the input reads as it did. -/
def parseReadsUptoRow : OpenClaim := { program := "ytjoiflokekebkaagreatdoor", sum := "e7896fac7dfbd8debf3deab1b46a5626c5ee2c23a6273113ae0ef0717d8d4c73", func := "cocoon/cocoonlaw06.ParseReads", spec := "parseReads", inPlace := ["internal/bytealg.IndexByteString"], unfollowed := true, recurses := true, named := ["strconv.ErrSyntax", "strconv.ErrRange", "internal/strconv.uint64pow10", "math/bits.deBruijn32tab", "math/bits.deBruijn64tab"], plainKeys := false, apart := false, laid := [("math/bits.deBruijn32tab", laid_math_bits_deBruijn32tab), ("math/bits.deBruijn64tab", laid_math_bits_deBruijn64tab), ("internal/strconv.uint64pow10", laid_internal_strconv_uint64pow10), ("strconv.ErrRange", laid_strconv_ErrRange), ("strconv.ErrSyntax", laid_strconv_ErrSyntax)], narrowed := true }
def ParseReadsUptoSaid : Prop := parseReadsUptoRow.holds Tryz.pinned (OpenSpec.upto parseReadsSpec)

/-- 'cocoonlaw06.ParseGlue', WHERE WHAT IT READS IS OF BULK AT MOST 1048576: true; the input reads as it did. -/
def parseGlueUptoRow : OpenClaim := { program := "ytjoiflokekebkaagreatdoor", sum := "e7896fac7dfbd8debf3deab1b46a5626c5ee2c23a6273113ae0ef0717d8d4c73", func := "cocoon/cocoonlaw06.ParseGlue", spec := "parseGlue", inPlace := ["internal/bytealg.IndexByteString"], unfollowed := true, recurses := true, named := ["strconv.ErrSyntax", "strconv.ErrRange", "internal/strconv.uint64pow10", "math/bits.deBruijn32tab", "math/bits.deBruijn64tab"], plainKeys := false, apart := false, laid := [("math/bits.deBruijn32tab", laid_math_bits_deBruijn32tab), ("math/bits.deBruijn64tab", laid_math_bits_deBruijn64tab), ("internal/strconv.uint64pow10", laid_internal_strconv_uint64pow10), ("strconv.ErrRange", laid_strconv_ErrRange), ("strconv.ErrSyntax", laid_strconv_ErrSyntax)], narrowed := true }
def ParseGlueUptoSaid : Prop := parseGlueUptoRow.holds Tryz.pinned (OpenSpec.upto parseGlueSpec)

/-- 'cocoonlaw06.ParseBlanks', WHERE WHAT IT READS IS OF BULK AT MOST 1048576: true; the input reads as it did. -/
def parseBlanksUptoRow : OpenClaim := { program := "ytjoiflokekebkaagreatdoor", sum := "e7896fac7dfbd8debf3deab1b46a5626c5ee2c23a6273113ae0ef0717d8d4c73", func := "cocoon/cocoonlaw06.ParseBlanks", spec := "parseBlanks", inPlace := ["internal/bytealg.IndexByteString"], unfollowed := true, recurses := true, named := ["strconv.ErrSyntax", "strconv.ErrRange", "internal/strconv.uint64pow10", "math/bits.deBruijn32tab", "math/bits.deBruijn64tab"], plainKeys := false, apart := false, laid := [("math/bits.deBruijn32tab", laid_math_bits_deBruijn32tab), ("math/bits.deBruijn64tab", laid_math_bits_deBruijn64tab), ("internal/strconv.uint64pow10", laid_internal_strconv_uint64pow10), ("strconv.ErrRange", laid_strconv_ErrRange), ("strconv.ErrSyntax", laid_strconv_ErrSyntax)], narrowed := true }
def ParseBlanksUptoSaid : Prop := parseBlanksUptoRow.holds Tryz.pinned (OpenSpec.upto parseBlanksSpec)

/-- 'cocoonlaw07.KindsChecks', WHERE WHAT IT READS IS OF BULK AT MOST 1048576: true; the input reads as it did. -/
def kindsChecksUptoRow : OpenClaim := { program := "ytjoiflokekebkaagreatdoor", sum := "e7896fac7dfbd8debf3deab1b46a5626c5ee2c23a6273113ae0ef0717d8d4c73", func := "cocoon/cocoonlaw07.KindsChecks", spec := "kindsChecks", inPlace := ["internal/bytealg.IndexByteString"], unfollowed := true, recurses := true, named := ["strconv.ErrSyntax", "strconv.ErrRange", "internal/strconv.uint64pow10", "math/bits.deBruijn32tab", "math/bits.deBruijn64tab"], loops := true, plainKeys := false, apart := false, laid := [("math/bits.deBruijn32tab", laid_math_bits_deBruijn32tab), ("math/bits.deBruijn64tab", laid_math_bits_deBruijn64tab), ("internal/strconv.uint64pow10", laid_internal_strconv_uint64pow10), ("strconv.ErrRange", laid_strconv_ErrRange), ("strconv.ErrSyntax", laid_strconv_ErrSyntax)], narrowed := true }
def KindsChecksUptoSaid : Prop := kindsChecksUptoRow.holds Tryz.pinned (OpenSpec.upto kindsChecksSpec)

/-- 'cocoonlaw07.KindsAdds', WHERE WHAT IT READS IS OF BULK AT MOST 1048576: true; the input reads as it did. -/
def kindsAddsUptoRow : OpenClaim := { program := "ytjoiflokekebkaagreatdoor", sum := "e7896fac7dfbd8debf3deab1b46a5626c5ee2c23a6273113ae0ef0717d8d4c73", func := "cocoon/cocoonlaw07.KindsAdds", spec := "kindsAdds", inPlace := ["internal/bytealg.IndexByteString"], unfollowed := true, recurses := true, named := ["strconv.ErrSyntax", "strconv.ErrRange", "internal/strconv.uint64pow10", "math/bits.deBruijn32tab", "math/bits.deBruijn64tab"], loops := true, plainKeys := false, apart := false, laid := [("math/bits.deBruijn32tab", laid_math_bits_deBruijn32tab), ("math/bits.deBruijn64tab", laid_math_bits_deBruijn64tab), ("internal/strconv.uint64pow10", laid_internal_strconv_uint64pow10), ("strconv.ErrRange", laid_strconv_ErrRange), ("strconv.ErrSyntax", laid_strconv_ErrSyntax)], narrowed := true }
def KindsAddsUptoSaid : Prop := kindsAddsUptoRow.holds Tryz.pinned (OpenSpec.upto kindsAddsSpec)

/-- 'cocoonlaw07.KindsMore', WHERE WHAT IT READS IS OF BULK AT MOST 1048576: true; the input reads as it did. -/
def kindsMoreUptoRow : OpenClaim := { program := "ytjoiflokekebkaagreatdoor", sum := "e7896fac7dfbd8debf3deab1b46a5626c5ee2c23a6273113ae0ef0717d8d4c73", func := "cocoon/cocoonlaw07.KindsMore", spec := "kindsMore", inPlace := ["internal/bytealg.IndexByteString"], unfollowed := true, recurses := true, named := ["strconv.ErrSyntax", "strconv.ErrRange", "internal/strconv.uint64pow10", "math/bits.deBruijn32tab", "math/bits.deBruijn64tab"], loops := true, plainKeys := false, apart := false, laid := [("math/bits.deBruijn32tab", laid_math_bits_deBruijn32tab), ("math/bits.deBruijn64tab", laid_math_bits_deBruijn64tab), ("internal/strconv.uint64pow10", laid_internal_strconv_uint64pow10), ("strconv.ErrRange", laid_strconv_ErrRange), ("strconv.ErrSyntax", laid_strconv_ErrSyntax)], narrowed := true }
def KindsMoreUptoSaid : Prop := kindsMoreUptoRow.holds Tryz.pinned (OpenSpec.upto kindsMoreSpec)

/-- 'cocoonlaw07.KindsOrder', WHERE WHAT IT READS IS OF BULK AT MOST 1048576: true; the input reads as it did. -/
def kindsOrderUptoRow : OpenClaim := { program := "ytjoiflokekebkaagreatdoor", sum := "e7896fac7dfbd8debf3deab1b46a5626c5ee2c23a6273113ae0ef0717d8d4c73", func := "cocoon/cocoonlaw07.KindsOrder", spec := "kindsOrder", inPlace := ["internal/bytealg.IndexByteString"], unfollowed := true, recurses := true, named := ["strconv.ErrSyntax", "strconv.ErrRange", "internal/strconv.uint64pow10", "math/bits.deBruijn32tab", "math/bits.deBruijn64tab"], loops := true, plainKeys := false, apart := false, laid := [("math/bits.deBruijn32tab", laid_math_bits_deBruijn32tab), ("math/bits.deBruijn64tab", laid_math_bits_deBruijn64tab), ("internal/strconv.uint64pow10", laid_internal_strconv_uint64pow10), ("strconv.ErrRange", laid_strconv_ErrRange), ("strconv.ErrSyntax", laid_strconv_ErrSyntax)], narrowed := true }
def KindsOrderUptoSaid : Prop := kindsOrderUptoRow.holds Tryz.pinned (OpenSpec.upto kindsOrderSpec)

/-- 'cocoonlaw07.KindsBox', WHERE WHAT IT READS IS OF BULK AT MOST 1048576: true; the input reads as it did. -/
def kindsBoxUptoRow : OpenClaim := { program := "ytjoiflokekebkaagreatdoor", sum := "e7896fac7dfbd8debf3deab1b46a5626c5ee2c23a6273113ae0ef0717d8d4c73", func := "cocoon/cocoonlaw07.KindsBox", spec := "kindsBox", inPlace := ["internal/bytealg.IndexByteString"], unfollowed := true, recurses := true, named := ["strconv.ErrSyntax", "strconv.ErrRange", "internal/strconv.uint64pow10", "math/bits.deBruijn32tab", "math/bits.deBruijn64tab"], loops := true, plainKeys := false, apart := false, laid := [("math/bits.deBruijn32tab", laid_math_bits_deBruijn32tab), ("math/bits.deBruijn64tab", laid_math_bits_deBruijn64tab), ("internal/strconv.uint64pow10", laid_internal_strconv_uint64pow10), ("strconv.ErrRange", laid_strconv_ErrRange), ("strconv.ErrSyntax", laid_strconv_ErrSyntax)], narrowed := true }
def KindsBoxUptoSaid : Prop := kindsBoxUptoRow.holds Tryz.pinned (OpenSpec.upto kindsBoxSpec)

/-- 'cocoonlaw08.CheckTexts', WHERE WHAT IT READS IS OF BULK AT MOST 1048576: true; the input reads as it did. -/
def checkTextsUptoRow : OpenClaim := { program := "ytjoiflokekebkaagreatdoor", sum := "e7896fac7dfbd8debf3deab1b46a5626c5ee2c23a6273113ae0ef0717d8d4c73", func := "cocoon/cocoonlaw08.CheckTexts", spec := "checkTexts", inPlace := ["internal/bytealg.IndexByteString"], unfollowed := true, recurses := true, named := ["strconv.ErrSyntax", "strconv.ErrRange", "internal/strconv.uint64pow10", "math/bits.deBruijn32tab", "math/bits.deBruijn64tab"], plainKeys := false, apart := false, laid := [("math/bits.deBruijn32tab", laid_math_bits_deBruijn32tab), ("math/bits.deBruijn64tab", laid_math_bits_deBruijn64tab), ("internal/strconv.uint64pow10", laid_internal_strconv_uint64pow10), ("strconv.ErrRange", laid_strconv_ErrRange), ("strconv.ErrSyntax", laid_strconv_ErrSyntax)], narrowed := true }
def CheckTextsUptoSaid : Prop := checkTextsUptoRow.holds Tryz.pinned (OpenSpec.upto checkTextsSpec)

/-- 'cocoonlaw08.CheckMore', WHERE WHAT IT READS IS OF BULK AT MOST 1048576: true; the input reads as it did. -/
def checkMoreUptoRow : OpenClaim := { program := "ytjoiflokekebkaagreatdoor", sum := "e7896fac7dfbd8debf3deab1b46a5626c5ee2c23a6273113ae0ef0717d8d4c73", func := "cocoon/cocoonlaw08.CheckMore", spec := "checkMore", inPlace := ["internal/bytealg.IndexByteString"], unfollowed := true, recurses := true, named := ["strconv.ErrSyntax", "strconv.ErrRange", "internal/strconv.uint64pow10", "math/bits.deBruijn32tab", "math/bits.deBruijn64tab"], loops := true, plainKeys := false, apart := false, laid := [("math/bits.deBruijn32tab", laid_math_bits_deBruijn32tab), ("math/bits.deBruijn64tab", laid_math_bits_deBruijn64tab), ("internal/strconv.uint64pow10", laid_internal_strconv_uint64pow10), ("strconv.ErrRange", laid_strconv_ErrRange), ("strconv.ErrSyntax", laid_strconv_ErrSyntax)], narrowed := true }
def CheckMoreUptoSaid : Prop := checkMoreUptoRow.holds Tryz.pinned (OpenSpec.upto checkMoreSpec)

/-- 'cocoonlaw08.CheckUses', WHERE WHAT IT READS IS OF BULK AT MOST 1048576: true; the input reads as it did. -/
def checkUsesUptoRow : OpenClaim := { program := "ytjoiflokekebkaagreatdoor", sum := "e7896fac7dfbd8debf3deab1b46a5626c5ee2c23a6273113ae0ef0717d8d4c73", func := "cocoon/cocoonlaw08.CheckUses", spec := "checkUses", inPlace := ["internal/bytealg.IndexByteString"], unfollowed := true, recurses := true, named := ["strconv.ErrSyntax", "strconv.ErrRange", "internal/strconv.uint64pow10", "math/bits.deBruijn32tab", "math/bits.deBruijn64tab"], loops := true, plainKeys := false, apart := false, laid := [("math/bits.deBruijn32tab", laid_math_bits_deBruijn32tab), ("math/bits.deBruijn64tab", laid_math_bits_deBruijn64tab), ("internal/strconv.uint64pow10", laid_internal_strconv_uint64pow10), ("strconv.ErrRange", laid_strconv_ErrRange), ("strconv.ErrSyntax", laid_strconv_ErrSyntax)], narrowed := true }
def CheckUsesUptoSaid : Prop := checkUsesUptoRow.holds Tryz.pinned (OpenSpec.upto checkUsesSpec)

/-- 'cocoonlaw08.CheckEnds', WHERE WHAT IT READS IS OF BULK AT MOST 1048576: true; the input reads as it did. -/
def checkEndsUptoRow : OpenClaim := { program := "ytjoiflokekebkaagreatdoor", sum := "e7896fac7dfbd8debf3deab1b46a5626c5ee2c23a6273113ae0ef0717d8d4c73", func := "cocoon/cocoonlaw08.CheckEnds", spec := "checkEnds", inPlace := ["internal/bytealg.IndexByteString"], unfollowed := true, recurses := true, named := ["strconv.ErrSyntax", "strconv.ErrRange", "internal/strconv.uint64pow10", "math/bits.deBruijn32tab", "math/bits.deBruijn64tab"], loops := true, plainKeys := false, apart := false, laid := [("math/bits.deBruijn32tab", laid_math_bits_deBruijn32tab), ("math/bits.deBruijn64tab", laid_math_bits_deBruijn64tab), ("internal/strconv.uint64pow10", laid_internal_strconv_uint64pow10), ("strconv.ErrRange", laid_strconv_ErrRange), ("strconv.ErrSyntax", laid_strconv_ErrSyntax)], narrowed := true }
def CheckEndsUptoSaid : Prop := checkEndsUptoRow.holds Tryz.pinned (OpenSpec.upto checkEndsSpec)

end Rows
end Go.Proofs.YtjoiflokekebkaaGreatDoor
