/-
  NARROWER THAN 'FOR EVERY INPUT', by the rows' own cells (each row's printed sentence says how): EchoCompresses: laid · EchoPhases: laid · EchoCorrelates: laid · EchoTransforms: laid · EchoByTransforms: laid · EchoDirections: laid · EchoTurns: laid · EchoFocuses: laid · EchoTurning: laid · EchoLinear: laid · EchoImages: laid · EchoFields: laid · EchoAdds: laid · EchoResponds: laid.
  DERIVED. THE GIVEN ROWS OF THIS SEAT. 14 by the template 'for every input the law returns true; each argument reads behind the call as it read before'; 0 by the template 'total and deterministic' (their statements: YtakohhlmomgegaaDoorTotals.lean).
  GIVEN WITH THE SEED: the statements are not yours to turn. If you find one false, say at which input.
  Laid BY PROGRAM, IN A SANDBOX (cutbox-rows.mjs): the forced cells as the released guide's own fill.sh prints them over the translation 74056db4fcd0f31b… (all of the seat's roots in one cut). By AI agents, Wed Nov 11 2026. No macro, syntax, notation, axiom, sorry.
-/
import Derived.Test.YtakohhlmomgegaaDoorChecked
import GoSem.Claim
import GoSem.ClaimJoined
import GoSem.ClaimMapViews
import Derived.JoinedTies
import Derived.KernelRfl
namespace Go.Proofs.YtakohhlmomgegaaDoor
/- THE CELL 'sum', in the pinned program and in every row, IS THE sha256 OF THE DUMP (.gsa) THAT YtakohhlmomgegaaDoorProg.lean LOADS. Nothing in Lean hashes anything: it is a label: what it is worth is what the hold of that sum in a sandbox is worth. -/
noncomputable def Tryd.pinned : Pinned := { name := "ytakohhlmomgegaadoor", sum := "74056db4fcd0f31bfe99da24e7f512679bcdbf8631c00b185dda30b8ac4f2b8d", checked := Tryd.checked }
namespace Rows
def none {H : Type} : Left H := { results := [], args := [] }

/- WHAT THE LISTED PACKAGE-LEVEL VARIABLES READ AS WHEN THE CALL BEGINS. Each datum BY PROGRAM (the guide's laid-datum.mjs) off the statement by which the dump's own 'gosem.cut.vars' lays the variable. In a bare row this is a premise. The card (YtakohhlmomgegaaDoorCards.lean) ties it to the program's text. -/
def laid_math_bits_deBruijn32tab {H : Type} : DataW H := .agg [.lit (.int .u8 0), .lit (.int .u8 1), .lit (.int .u8 28), .lit (.int .u8 2), .lit (.int .u8 29), .lit (.int .u8 14), .lit (.int .u8 24), .lit (.int .u8 3), .lit (.int .u8 30), .lit (.int .u8 22), .lit (.int .u8 20), .lit (.int .u8 15), .lit (.int .u8 25), .lit (.int .u8 17), .lit (.int .u8 4), .lit (.int .u8 8), .lit (.int .u8 31), .lit (.int .u8 27), .lit (.int .u8 13), .lit (.int .u8 23), .lit (.int .u8 21), .lit (.int .u8 19), .lit (.int .u8 16), .lit (.int .u8 7), .lit (.int .u8 26), .lit (.int .u8 12), .lit (.int .u8 18), .lit (.int .u8 6), .lit (.int .u8 11), .lit (.int .u8 5), .lit (.int .u8 10), .lit (.int .u8 9)]
def laid_math_bits_deBruijn64tab {H : Type} : DataW H := .agg [.lit (.int .u8 0), .lit (.int .u8 1), .lit (.int .u8 56), .lit (.int .u8 2), .lit (.int .u8 57), .lit (.int .u8 49), .lit (.int .u8 28), .lit (.int .u8 3), .lit (.int .u8 61), .lit (.int .u8 58), .lit (.int .u8 42), .lit (.int .u8 50), .lit (.int .u8 38), .lit (.int .u8 29), .lit (.int .u8 17), .lit (.int .u8 4), .lit (.int .u8 62), .lit (.int .u8 47), .lit (.int .u8 59), .lit (.int .u8 36), .lit (.int .u8 45), .lit (.int .u8 43), .lit (.int .u8 51), .lit (.int .u8 22), .lit (.int .u8 53), .lit (.int .u8 39), .lit (.int .u8 33), .lit (.int .u8 30), .lit (.int .u8 24), .lit (.int .u8 18), .lit (.int .u8 12), .lit (.int .u8 5), .lit (.int .u8 63), .lit (.int .u8 55), .lit (.int .u8 48), .lit (.int .u8 27), .lit (.int .u8 60), .lit (.int .u8 41), .lit (.int .u8 37), .lit (.int .u8 16), .lit (.int .u8 46), .lit (.int .u8 35), .lit (.int .u8 44), .lit (.int .u8 21), .lit (.int .u8 52), .lit (.int .u8 32), .lit (.int .u8 23), .lit (.int .u8 11), .lit (.int .u8 54), .lit (.int .u8 26), .lit (.int .u8 40), .lit (.int .u8 15), .lit (.int .u8 34), .lit (.int .u8 20), .lit (.int .u8 31), .lit (.int .u8 10), .lit (.int .u8 25), .lit (.int .u8 14), .lit (.int .u8 19), .lit (.int .u8 9), .lit (.int .u8 13), .lit (.int .u8 8), .lit (.int .u8 7), .lit (.int .u8 6)]
def laid_internal_strconv_uint64pow10 {H : Type} : DataW H := .agg [.lit (.int .u64 1), .lit (.int .u64 10), .lit (.int .u64 100), .lit (.int .u64 1000), .lit (.int .u64 10000), .lit (.int .u64 100000), .lit (.int .u64 1000000), .lit (.int .u64 10000000), .lit (.int .u64 100000000), .lit (.int .u64 1000000000), .lit (.int .u64 10000000000), .lit (.int .u64 100000000000), .lit (.int .u64 1000000000000), .lit (.int .u64 10000000000000), .lit (.int .u64 100000000000000), .lit (.int .u64 1000000000000000), .lit (.int .u64 10000000000000000), .lit (.int .u64 100000000000000000), .lit (.int .u64 1000000000000000000), .lit (.int .u64 10000000000000000000)]

/-- 'swathlaw01.EchoCompresses': WHATEVER THE INPUT: true; the input reads as it did. -/
def echoCompressesSpec : ChangeSpec := { name := "echoCompresses", fn := fun _ => fun
  | [d] => { results := [.lit (.bool true)], args := [d] }
  | _ => none }
def echoCompressesRow : OpenClaim := { program := "ytakohhlmomgegaadoor", sum := "74056db4fcd0f31bfe99da24e7f512679bcdbf8631c00b185dda30b8ac4f2b8d", func := "swath/swathlaw01.EchoCompresses", spec := "echoCompresses", inPlace := ["math.Float64bits", "math.Float64frombits", "math.archTrunc", "internal/abi.NoEscape", "internal/bytealg.MakeNoZero"], unfollowed := true, recurses := true, named := ["internal/strconv.uint64pow10", "math/bits.deBruijn32tab", "math/bits.deBruijn64tab"], apart := false, laid := [("math/bits.deBruijn32tab", laid_math_bits_deBruijn32tab), ("math/bits.deBruijn64tab", laid_math_bits_deBruijn64tab), ("internal/strconv.uint64pow10", laid_internal_strconv_uint64pow10)] }
def EchoCompressesSaid : Prop := echoCompressesRow.holds Tryd.pinned (OpenSpec.ofChange echoCompressesSpec)

/-- ITS FALSE NEIGHBOUR: 'it returns false'. Refute it at one input. -/
def echoCompressesWrong : ChangeSpec := { name := "echoCompresses", fn := fun _ => fun
  | [d] => { results := [.lit (.bool false)], args := [d] }
  | _ => none }
def EchoCompressesWrongFalsely : Prop := echoCompressesRow.holds Tryd.pinned (OpenSpec.ofChange echoCompressesWrong)

/-- 'swathlaw01.EchoPhases': WHATEVER THE INPUT: true; the input reads as it did. -/
def echoPhasesSpec : ChangeSpec := { name := "echoPhases", fn := fun _ => fun
  | [d1, d2] => { results := [.lit (.bool true)], args := [d1, d2] }
  | _ => none }
def echoPhasesRow : OpenClaim := { program := "ytakohhlmomgegaadoor", sum := "74056db4fcd0f31bfe99da24e7f512679bcdbf8631c00b185dda30b8ac4f2b8d", func := "swath/swathlaw01.EchoPhases", spec := "echoPhases", inPlace := ["math.Float64bits", "math.Float64frombits", "math.archTrunc", "internal/abi.NoEscape", "internal/bytealg.MakeNoZero"], unfollowed := true, recurses := true, named := ["internal/strconv.uint64pow10", "math/bits.deBruijn32tab", "math/bits.deBruijn64tab"], apart := false, laid := [("math/bits.deBruijn32tab", laid_math_bits_deBruijn32tab), ("math/bits.deBruijn64tab", laid_math_bits_deBruijn64tab), ("internal/strconv.uint64pow10", laid_internal_strconv_uint64pow10)] }
def EchoPhasesSaid : Prop := echoPhasesRow.holds Tryd.pinned (OpenSpec.ofChange echoPhasesSpec)

/-- ITS FALSE NEIGHBOUR: 'it returns false'. Refute it at one input. -/
def echoPhasesWrong : ChangeSpec := { name := "echoPhases", fn := fun _ => fun
  | [d1, d2] => { results := [.lit (.bool false)], args := [d1, d2] }
  | _ => none }
def EchoPhasesWrongFalsely : Prop := echoPhasesRow.holds Tryd.pinned (OpenSpec.ofChange echoPhasesWrong)

/-- 'swathlaw01.EchoCorrelates': WHATEVER THE INPUT: true; the input reads as it did. -/
def echoCorrelatesSpec : ChangeSpec := { name := "echoCorrelates", fn := fun _ => fun
  | [d1, d2] => { results := [.lit (.bool true)], args := [d1, d2] }
  | _ => none }
def echoCorrelatesRow : OpenClaim := { program := "ytakohhlmomgegaadoor", sum := "74056db4fcd0f31bfe99da24e7f512679bcdbf8631c00b185dda30b8ac4f2b8d", func := "swath/swathlaw01.EchoCorrelates", spec := "echoCorrelates", inPlace := ["math.Float64bits", "math.Float64frombits", "math.archTrunc", "internal/abi.NoEscape", "internal/bytealg.MakeNoZero"], unfollowed := true, recurses := true, named := ["internal/strconv.uint64pow10", "math/bits.deBruijn32tab", "math/bits.deBruijn64tab"], apart := false, laid := [("math/bits.deBruijn32tab", laid_math_bits_deBruijn32tab), ("math/bits.deBruijn64tab", laid_math_bits_deBruijn64tab), ("internal/strconv.uint64pow10", laid_internal_strconv_uint64pow10)] }
def EchoCorrelatesSaid : Prop := echoCorrelatesRow.holds Tryd.pinned (OpenSpec.ofChange echoCorrelatesSpec)

/-- ITS FALSE NEIGHBOUR: 'it returns false'. Refute it at one input. -/
def echoCorrelatesWrong : ChangeSpec := { name := "echoCorrelates", fn := fun _ => fun
  | [d1, d2] => { results := [.lit (.bool false)], args := [d1, d2] }
  | _ => none }
def EchoCorrelatesWrongFalsely : Prop := echoCorrelatesRow.holds Tryd.pinned (OpenSpec.ofChange echoCorrelatesWrong)

/-- 'swathlaw01.EchoTransforms': WHATEVER THE INPUT: true; the input reads as it did. -/
def echoTransformsSpec : ChangeSpec := { name := "echoTransforms", fn := fun _ => fun
  | [d] => { results := [.lit (.bool true)], args := [d] }
  | _ => none }
def echoTransformsRow : OpenClaim := { program := "ytakohhlmomgegaadoor", sum := "74056db4fcd0f31bfe99da24e7f512679bcdbf8631c00b185dda30b8ac4f2b8d", func := "swath/swathlaw01.EchoTransforms", spec := "echoTransforms", inPlace := ["math.Float64bits", "math.Float64frombits", "math.archTrunc", "internal/abi.NoEscape", "internal/bytealg.MakeNoZero"], unfollowed := true, recurses := true, named := ["internal/strconv.uint64pow10", "math/bits.deBruijn32tab", "math/bits.deBruijn64tab"], apart := false, laid := [("math/bits.deBruijn32tab", laid_math_bits_deBruijn32tab), ("math/bits.deBruijn64tab", laid_math_bits_deBruijn64tab), ("internal/strconv.uint64pow10", laid_internal_strconv_uint64pow10)] }
def EchoTransformsSaid : Prop := echoTransformsRow.holds Tryd.pinned (OpenSpec.ofChange echoTransformsSpec)

/-- ITS FALSE NEIGHBOUR: 'it returns false'. Refute it at one input. -/
def echoTransformsWrong : ChangeSpec := { name := "echoTransforms", fn := fun _ => fun
  | [d] => { results := [.lit (.bool false)], args := [d] }
  | _ => none }
def EchoTransformsWrongFalsely : Prop := echoTransformsRow.holds Tryd.pinned (OpenSpec.ofChange echoTransformsWrong)

/-- 'swathlaw01.EchoByTransforms': WHATEVER THE INPUT: true; the input reads as it did. -/
def echoByTransformsSpec : ChangeSpec := { name := "echoByTransforms", fn := fun _ => fun
  | [d1, d2] => { results := [.lit (.bool true)], args := [d1, d2] }
  | _ => none }
def echoByTransformsRow : OpenClaim := { program := "ytakohhlmomgegaadoor", sum := "74056db4fcd0f31bfe99da24e7f512679bcdbf8631c00b185dda30b8ac4f2b8d", func := "swath/swathlaw01.EchoByTransforms", spec := "echoByTransforms", inPlace := ["math.Float64bits", "math.Float64frombits", "math.archTrunc", "internal/abi.NoEscape", "internal/bytealg.MakeNoZero"], unfollowed := true, recurses := true, named := ["internal/strconv.uint64pow10", "math/bits.deBruijn32tab", "math/bits.deBruijn64tab"], apart := false, laid := [("math/bits.deBruijn32tab", laid_math_bits_deBruijn32tab), ("math/bits.deBruijn64tab", laid_math_bits_deBruijn64tab), ("internal/strconv.uint64pow10", laid_internal_strconv_uint64pow10)] }
def EchoByTransformsSaid : Prop := echoByTransformsRow.holds Tryd.pinned (OpenSpec.ofChange echoByTransformsSpec)

/-- ITS FALSE NEIGHBOUR: 'it returns false'. Refute it at one input. -/
def echoByTransformsWrong : ChangeSpec := { name := "echoByTransforms", fn := fun _ => fun
  | [d1, d2] => { results := [.lit (.bool false)], args := [d1, d2] }
  | _ => none }
def EchoByTransformsWrongFalsely : Prop := echoByTransformsRow.holds Tryd.pinned (OpenSpec.ofChange echoByTransformsWrong)

/-- 'swathlaw01.EchoDirections': WHATEVER THE INPUT: true; the input reads as it did. -/
def echoDirectionsSpec : ChangeSpec := { name := "echoDirections", fn := fun _ => fun
  | [d] => { results := [.lit (.bool true)], args := [d] }
  | _ => none }
def echoDirectionsRow : OpenClaim := { program := "ytakohhlmomgegaadoor", sum := "74056db4fcd0f31bfe99da24e7f512679bcdbf8631c00b185dda30b8ac4f2b8d", func := "swath/swathlaw01.EchoDirections", spec := "echoDirections", inPlace := ["math.Float64bits", "math.Float64frombits", "math.archTrunc", "internal/abi.NoEscape", "internal/bytealg.MakeNoZero"], unfollowed := true, recurses := true, named := ["internal/strconv.uint64pow10", "math/bits.deBruijn32tab", "math/bits.deBruijn64tab"], apart := false, laid := [("math/bits.deBruijn32tab", laid_math_bits_deBruijn32tab), ("math/bits.deBruijn64tab", laid_math_bits_deBruijn64tab), ("internal/strconv.uint64pow10", laid_internal_strconv_uint64pow10)] }
def EchoDirectionsSaid : Prop := echoDirectionsRow.holds Tryd.pinned (OpenSpec.ofChange echoDirectionsSpec)

/-- ITS FALSE NEIGHBOUR: 'it returns false'. Refute it at one input. -/
def echoDirectionsWrong : ChangeSpec := { name := "echoDirections", fn := fun _ => fun
  | [d] => { results := [.lit (.bool false)], args := [d] }
  | _ => none }
def EchoDirectionsWrongFalsely : Prop := echoDirectionsRow.holds Tryd.pinned (OpenSpec.ofChange echoDirectionsWrong)

/-- 'swathlaw01.EchoTurns': WHATEVER THE INPUT: true; the input reads as it did. -/
def echoTurnsSpec : ChangeSpec := { name := "echoTurns", fn := fun _ => fun
  | [d1, d2] => { results := [.lit (.bool true)], args := [d1, d2] }
  | _ => none }
def echoTurnsRow : OpenClaim := { program := "ytakohhlmomgegaadoor", sum := "74056db4fcd0f31bfe99da24e7f512679bcdbf8631c00b185dda30b8ac4f2b8d", func := "swath/swathlaw01.EchoTurns", spec := "echoTurns", inPlace := ["math.Float64bits", "math.Float64frombits", "math.archTrunc", "internal/abi.NoEscape", "internal/bytealg.MakeNoZero"], unfollowed := true, recurses := true, named := ["internal/strconv.uint64pow10", "math/bits.deBruijn32tab", "math/bits.deBruijn64tab"], apart := false, laid := [("math/bits.deBruijn32tab", laid_math_bits_deBruijn32tab), ("math/bits.deBruijn64tab", laid_math_bits_deBruijn64tab), ("internal/strconv.uint64pow10", laid_internal_strconv_uint64pow10)] }
def EchoTurnsSaid : Prop := echoTurnsRow.holds Tryd.pinned (OpenSpec.ofChange echoTurnsSpec)

/-- ITS FALSE NEIGHBOUR: 'it returns false'. Refute it at one input. -/
def echoTurnsWrong : ChangeSpec := { name := "echoTurns", fn := fun _ => fun
  | [d1, d2] => { results := [.lit (.bool false)], args := [d1, d2] }
  | _ => none }
def EchoTurnsWrongFalsely : Prop := echoTurnsRow.holds Tryd.pinned (OpenSpec.ofChange echoTurnsWrong)

/-- 'swathlaw01.EchoFocuses': WHATEVER THE INPUT: true; the input reads as it did. -/
def echoFocusesSpec : ChangeSpec := { name := "echoFocuses", fn := fun _ => fun
  | [d] => { results := [.lit (.bool true)], args := [d] }
  | _ => none }
def echoFocusesRow : OpenClaim := { program := "ytakohhlmomgegaadoor", sum := "74056db4fcd0f31bfe99da24e7f512679bcdbf8631c00b185dda30b8ac4f2b8d", func := "swath/swathlaw01.EchoFocuses", spec := "echoFocuses", inPlace := ["math.Float64bits", "math.Float64frombits", "math.archTrunc", "internal/abi.NoEscape", "internal/bytealg.MakeNoZero"], unfollowed := true, recurses := true, named := ["internal/strconv.uint64pow10", "math/bits.deBruijn32tab", "math/bits.deBruijn64tab"], apart := false, laid := [("math/bits.deBruijn32tab", laid_math_bits_deBruijn32tab), ("math/bits.deBruijn64tab", laid_math_bits_deBruijn64tab), ("internal/strconv.uint64pow10", laid_internal_strconv_uint64pow10)] }
def EchoFocusesSaid : Prop := echoFocusesRow.holds Tryd.pinned (OpenSpec.ofChange echoFocusesSpec)

/-- ITS FALSE NEIGHBOUR: 'it returns false'. Refute it at one input. -/
def echoFocusesWrong : ChangeSpec := { name := "echoFocuses", fn := fun _ => fun
  | [d] => { results := [.lit (.bool false)], args := [d] }
  | _ => none }
def EchoFocusesWrongFalsely : Prop := echoFocusesRow.holds Tryd.pinned (OpenSpec.ofChange echoFocusesWrong)

/-- 'swathlaw01.EchoTurning': WHATEVER THE INPUT: true; the input reads as it did. -/
def echoTurningSpec : ChangeSpec := { name := "echoTurning", fn := fun _ => fun
  | [d1, d2, d3] => { results := [.lit (.bool true)], args := [d1, d2, d3] }
  | _ => none }
def echoTurningRow : OpenClaim := { program := "ytakohhlmomgegaadoor", sum := "74056db4fcd0f31bfe99da24e7f512679bcdbf8631c00b185dda30b8ac4f2b8d", func := "swath/swathlaw01.EchoTurning", spec := "echoTurning", inPlace := ["math.Float64bits", "math.Float64frombits", "math.archTrunc", "internal/abi.NoEscape", "internal/bytealg.MakeNoZero"], unfollowed := true, recurses := true, named := ["internal/strconv.uint64pow10", "math/bits.deBruijn32tab", "math/bits.deBruijn64tab"], apart := false, laid := [("math/bits.deBruijn32tab", laid_math_bits_deBruijn32tab), ("math/bits.deBruijn64tab", laid_math_bits_deBruijn64tab), ("internal/strconv.uint64pow10", laid_internal_strconv_uint64pow10)] }
def EchoTurningSaid : Prop := echoTurningRow.holds Tryd.pinned (OpenSpec.ofChange echoTurningSpec)

/-- ITS FALSE NEIGHBOUR: 'it returns false'. Refute it at one input. -/
def echoTurningWrong : ChangeSpec := { name := "echoTurning", fn := fun _ => fun
  | [d1, d2, d3] => { results := [.lit (.bool false)], args := [d1, d2, d3] }
  | _ => none }
def EchoTurningWrongFalsely : Prop := echoTurningRow.holds Tryd.pinned (OpenSpec.ofChange echoTurningWrong)

/-- 'swathlaw01.EchoLinear': WHATEVER THE INPUT: true; the input reads as it did. -/
def echoLinearSpec : ChangeSpec := { name := "echoLinear", fn := fun _ => fun
  | [d1, d2] => { results := [.lit (.bool true)], args := [d1, d2] }
  | _ => none }
def echoLinearRow : OpenClaim := { program := "ytakohhlmomgegaadoor", sum := "74056db4fcd0f31bfe99da24e7f512679bcdbf8631c00b185dda30b8ac4f2b8d", func := "swath/swathlaw01.EchoLinear", spec := "echoLinear", inPlace := ["math.Float64bits", "math.Float64frombits", "math.archTrunc", "internal/abi.NoEscape", "internal/bytealg.MakeNoZero"], unfollowed := true, recurses := true, named := ["internal/strconv.uint64pow10", "math/bits.deBruijn32tab", "math/bits.deBruijn64tab"], apart := false, laid := [("math/bits.deBruijn32tab", laid_math_bits_deBruijn32tab), ("math/bits.deBruijn64tab", laid_math_bits_deBruijn64tab), ("internal/strconv.uint64pow10", laid_internal_strconv_uint64pow10)] }
def EchoLinearSaid : Prop := echoLinearRow.holds Tryd.pinned (OpenSpec.ofChange echoLinearSpec)

/-- ITS FALSE NEIGHBOUR: 'it returns false'. Refute it at one input. -/
def echoLinearWrong : ChangeSpec := { name := "echoLinear", fn := fun _ => fun
  | [d1, d2] => { results := [.lit (.bool false)], args := [d1, d2] }
  | _ => none }
def EchoLinearWrongFalsely : Prop := echoLinearRow.holds Tryd.pinned (OpenSpec.ofChange echoLinearWrong)

/-- 'swathlaw01.EchoImages': WHATEVER THE INPUT: true; the input reads as it did. -/
def echoImagesSpec : ChangeSpec := { name := "echoImages", fn := fun _ => fun
  | [d] => { results := [.lit (.bool true)], args := [d] }
  | _ => none }
def echoImagesRow : OpenClaim := { program := "ytakohhlmomgegaadoor", sum := "74056db4fcd0f31bfe99da24e7f512679bcdbf8631c00b185dda30b8ac4f2b8d", func := "swath/swathlaw01.EchoImages", spec := "echoImages", inPlace := ["math.Float64bits", "math.Float64frombits", "math.archTrunc", "internal/abi.NoEscape", "internal/bytealg.MakeNoZero"], unfollowed := true, recurses := true, named := ["internal/strconv.uint64pow10", "math/bits.deBruijn32tab", "math/bits.deBruijn64tab"], apart := false, laid := [("math/bits.deBruijn32tab", laid_math_bits_deBruijn32tab), ("math/bits.deBruijn64tab", laid_math_bits_deBruijn64tab), ("internal/strconv.uint64pow10", laid_internal_strconv_uint64pow10)] }
def EchoImagesSaid : Prop := echoImagesRow.holds Tryd.pinned (OpenSpec.ofChange echoImagesSpec)

/-- ITS FALSE NEIGHBOUR: 'it returns false'. Refute it at one input. -/
def echoImagesWrong : ChangeSpec := { name := "echoImages", fn := fun _ => fun
  | [d] => { results := [.lit (.bool false)], args := [d] }
  | _ => none }
def EchoImagesWrongFalsely : Prop := echoImagesRow.holds Tryd.pinned (OpenSpec.ofChange echoImagesWrong)

/-- 'swathlaw01.EchoFields': WHATEVER THE INPUT: true; the input reads as it did. -/
def echoFieldsSpec : ChangeSpec := { name := "echoFields", fn := fun _ => fun
  | [d1, d2, d3] => { results := [.lit (.bool true)], args := [d1, d2, d3] }
  | _ => none }
def echoFieldsRow : OpenClaim := { program := "ytakohhlmomgegaadoor", sum := "74056db4fcd0f31bfe99da24e7f512679bcdbf8631c00b185dda30b8ac4f2b8d", func := "swath/swathlaw01.EchoFields", spec := "echoFields", inPlace := ["math.Float64bits", "math.Float64frombits", "math.archTrunc", "internal/abi.NoEscape", "internal/bytealg.MakeNoZero"], unfollowed := true, recurses := true, named := ["internal/strconv.uint64pow10", "math/bits.deBruijn32tab", "math/bits.deBruijn64tab"], apart := false, laid := [("math/bits.deBruijn32tab", laid_math_bits_deBruijn32tab), ("math/bits.deBruijn64tab", laid_math_bits_deBruijn64tab), ("internal/strconv.uint64pow10", laid_internal_strconv_uint64pow10)] }
def EchoFieldsSaid : Prop := echoFieldsRow.holds Tryd.pinned (OpenSpec.ofChange echoFieldsSpec)

/-- ITS FALSE NEIGHBOUR: 'it returns false'. Refute it at one input. -/
def echoFieldsWrong : ChangeSpec := { name := "echoFields", fn := fun _ => fun
  | [d1, d2, d3] => { results := [.lit (.bool false)], args := [d1, d2, d3] }
  | _ => none }
def EchoFieldsWrongFalsely : Prop := echoFieldsRow.holds Tryd.pinned (OpenSpec.ofChange echoFieldsWrong)

/-- 'swathlaw01.EchoAdds': WHATEVER THE INPUT: true; the input reads as it did. -/
def echoAddsSpec : ChangeSpec := { name := "echoAdds", fn := fun _ => fun
  | [d1, d2, d3] => { results := [.lit (.bool true)], args := [d1, d2, d3] }
  | _ => none }
def echoAddsRow : OpenClaim := { program := "ytakohhlmomgegaadoor", sum := "74056db4fcd0f31bfe99da24e7f512679bcdbf8631c00b185dda30b8ac4f2b8d", func := "swath/swathlaw01.EchoAdds", spec := "echoAdds", inPlace := ["math.Float64bits", "math.Float64frombits", "math.archTrunc", "internal/abi.NoEscape", "internal/bytealg.MakeNoZero", "math.Float32bits"], unfollowed := true, recurses := true, named := ["internal/strconv.uint64pow10", "math/bits.deBruijn32tab", "math/bits.deBruijn64tab"], apart := false, laid := [("math/bits.deBruijn32tab", laid_math_bits_deBruijn32tab), ("math/bits.deBruijn64tab", laid_math_bits_deBruijn64tab), ("internal/strconv.uint64pow10", laid_internal_strconv_uint64pow10)] }
def EchoAddsSaid : Prop := echoAddsRow.holds Tryd.pinned (OpenSpec.ofChange echoAddsSpec)

/-- ITS FALSE NEIGHBOUR: 'it returns false'. Refute it at one input. -/
def echoAddsWrong : ChangeSpec := { name := "echoAdds", fn := fun _ => fun
  | [d1, d2, d3] => { results := [.lit (.bool false)], args := [d1, d2, d3] }
  | _ => none }
def EchoAddsWrongFalsely : Prop := echoAddsRow.holds Tryd.pinned (OpenSpec.ofChange echoAddsWrong)

/-- 'swathlaw01.EchoResponds': WHATEVER THE INPUT: true; the input reads as it did. -/
def echoRespondsSpec : ChangeSpec := { name := "echoResponds", fn := fun _ => fun
  | [d1, d2] => { results := [.lit (.bool true)], args := [d1, d2] }
  | _ => none }
def echoRespondsRow : OpenClaim := { program := "ytakohhlmomgegaadoor", sum := "74056db4fcd0f31bfe99da24e7f512679bcdbf8631c00b185dda30b8ac4f2b8d", func := "swath/swathlaw01.EchoResponds", spec := "echoResponds", inPlace := ["math.Float64bits", "math.Float64frombits", "math.archTrunc", "internal/abi.NoEscape", "internal/bytealg.MakeNoZero"], unfollowed := true, recurses := true, named := ["internal/strconv.uint64pow10", "math/bits.deBruijn32tab", "math/bits.deBruijn64tab"], apart := false, laid := [("math/bits.deBruijn32tab", laid_math_bits_deBruijn32tab), ("math/bits.deBruijn64tab", laid_math_bits_deBruijn64tab), ("internal/strconv.uint64pow10", laid_internal_strconv_uint64pow10)] }
def EchoRespondsSaid : Prop := echoRespondsRow.holds Tryd.pinned (OpenSpec.ofChange echoRespondsSpec)

/-- ITS FALSE NEIGHBOUR: 'it returns false'. Refute it at one input. -/
def echoRespondsWrong : ChangeSpec := { name := "echoResponds", fn := fun _ => fun
  | [d1, d2] => { results := [.lit (.bool false)], args := [d1, d2] }
  | _ => none }
def EchoRespondsWrongFalsely : Prop := echoRespondsRow.holds Tryd.pinned (OpenSpec.ofChange echoRespondsWrong)

/- THE SECOND FORM. 'bulk': how many values and letters a reading holds, each counted each time it is reached (what is shared counts as often as it is met; a slice's spare places count too). A statement '..UptoSaid' is the law's where the arguments, and the package variables that the reading takes, are together of bulk at most 1048576: NARROWER than '..Said'. Prove '..Said' where nothing that the law and all that it calls make is longer than what came in: it says more and counts as full. Else prove '..UptoSaid'. A law counts once. -/
mutual
def uptoBulk {H : Type} : DataW H → Nat
  | .lit (.string bytes) => bytes.length + 1
  | .lit _ => 1
  | .nil => 1
  | .ptr d => uptoBulk d + 1
  | .slice elems spare => uptoBulkAll elems + uptoBulkAll spare + 1
  | .agg parts => uptoBulkAll parts + 1
  | .iface _ d => uptoBulk d + 1
  | .map entries => uptoBulkEntries entries + 1
  | .held _ => 1
def uptoBulkAll {H : Type} : List (DataW H) → Nat
  | [] => 0
  | d :: r => uptoBulk d + uptoBulkAll r
def uptoBulkEntries {H : Type} : List (Lit × DataW H) → Nat
  | [] => 0
  | x :: r => uptoBulkEntry x + uptoBulkEntries r
def uptoBulkEntry {H : Type} : Lit × DataW H → Nat
  | (.string bytes, d) => bytes.length + uptoBulk d + 1
  | (_, d) => uptoBulk d + 1
 end
def uptoSmall : (H : Type) → List (DataW H) → Bool := fun _ ds => decide (uptoBulkAll ds ≤ 1048576)
def OpenSpec.upto (s : _root_.Go.ChangeSpec) : _root_.Go.OpenSpec := { _root_.Go.OpenSpec.ofChange s with cond := some uptoSmall }

/-- 'swathlaw01.EchoCompresses', WHERE WHAT IT READS IS OF BULK AT MOST 1048576: true; the input reads as it did. -/
def echoCompressesUptoRow : OpenClaim := { program := "ytakohhlmomgegaadoor", sum := "74056db4fcd0f31bfe99da24e7f512679bcdbf8631c00b185dda30b8ac4f2b8d", func := "swath/swathlaw01.EchoCompresses", spec := "echoCompresses", inPlace := ["math.Float64bits", "math.Float64frombits", "math.archTrunc", "internal/abi.NoEscape", "internal/bytealg.MakeNoZero"], unfollowed := true, recurses := true, named := ["internal/strconv.uint64pow10", "math/bits.deBruijn32tab", "math/bits.deBruijn64tab"], apart := false, laid := [("math/bits.deBruijn32tab", laid_math_bits_deBruijn32tab), ("math/bits.deBruijn64tab", laid_math_bits_deBruijn64tab), ("internal/strconv.uint64pow10", laid_internal_strconv_uint64pow10)], narrowed := true }
def EchoCompressesUptoSaid : Prop := echoCompressesUptoRow.holds Tryd.pinned (OpenSpec.upto echoCompressesSpec)

/-- 'swathlaw01.EchoPhases', WHERE WHAT IT READS IS OF BULK AT MOST 1048576: true; the input reads as it did. -/
def echoPhasesUptoRow : OpenClaim := { program := "ytakohhlmomgegaadoor", sum := "74056db4fcd0f31bfe99da24e7f512679bcdbf8631c00b185dda30b8ac4f2b8d", func := "swath/swathlaw01.EchoPhases", spec := "echoPhases", inPlace := ["math.Float64bits", "math.Float64frombits", "math.archTrunc", "internal/abi.NoEscape", "internal/bytealg.MakeNoZero"], unfollowed := true, recurses := true, named := ["internal/strconv.uint64pow10", "math/bits.deBruijn32tab", "math/bits.deBruijn64tab"], apart := false, laid := [("math/bits.deBruijn32tab", laid_math_bits_deBruijn32tab), ("math/bits.deBruijn64tab", laid_math_bits_deBruijn64tab), ("internal/strconv.uint64pow10", laid_internal_strconv_uint64pow10)], narrowed := true }
def EchoPhasesUptoSaid : Prop := echoPhasesUptoRow.holds Tryd.pinned (OpenSpec.upto echoPhasesSpec)

/-- 'swathlaw01.EchoCorrelates', WHERE WHAT IT READS IS OF BULK AT MOST 1048576: true; the input reads as it did. -/
def echoCorrelatesUptoRow : OpenClaim := { program := "ytakohhlmomgegaadoor", sum := "74056db4fcd0f31bfe99da24e7f512679bcdbf8631c00b185dda30b8ac4f2b8d", func := "swath/swathlaw01.EchoCorrelates", spec := "echoCorrelates", inPlace := ["math.Float64bits", "math.Float64frombits", "math.archTrunc", "internal/abi.NoEscape", "internal/bytealg.MakeNoZero"], unfollowed := true, recurses := true, named := ["internal/strconv.uint64pow10", "math/bits.deBruijn32tab", "math/bits.deBruijn64tab"], apart := false, laid := [("math/bits.deBruijn32tab", laid_math_bits_deBruijn32tab), ("math/bits.deBruijn64tab", laid_math_bits_deBruijn64tab), ("internal/strconv.uint64pow10", laid_internal_strconv_uint64pow10)], narrowed := true }
def EchoCorrelatesUptoSaid : Prop := echoCorrelatesUptoRow.holds Tryd.pinned (OpenSpec.upto echoCorrelatesSpec)

/-- 'swathlaw01.EchoTransforms', WHERE WHAT IT READS IS OF BULK AT MOST 1048576: true; the input reads as it did. -/
def echoTransformsUptoRow : OpenClaim := { program := "ytakohhlmomgegaadoor", sum := "74056db4fcd0f31bfe99da24e7f512679bcdbf8631c00b185dda30b8ac4f2b8d", func := "swath/swathlaw01.EchoTransforms", spec := "echoTransforms", inPlace := ["math.Float64bits", "math.Float64frombits", "math.archTrunc", "internal/abi.NoEscape", "internal/bytealg.MakeNoZero"], unfollowed := true, recurses := true, named := ["internal/strconv.uint64pow10", "math/bits.deBruijn32tab", "math/bits.deBruijn64tab"], apart := false, laid := [("math/bits.deBruijn32tab", laid_math_bits_deBruijn32tab), ("math/bits.deBruijn64tab", laid_math_bits_deBruijn64tab), ("internal/strconv.uint64pow10", laid_internal_strconv_uint64pow10)], narrowed := true }
def EchoTransformsUptoSaid : Prop := echoTransformsUptoRow.holds Tryd.pinned (OpenSpec.upto echoTransformsSpec)

/-- 'swathlaw01.EchoByTransforms', WHERE WHAT IT READS IS OF BULK AT MOST 1048576: true; the input reads as it did. -/
def echoByTransformsUptoRow : OpenClaim := { program := "ytakohhlmomgegaadoor", sum := "74056db4fcd0f31bfe99da24e7f512679bcdbf8631c00b185dda30b8ac4f2b8d", func := "swath/swathlaw01.EchoByTransforms", spec := "echoByTransforms", inPlace := ["math.Float64bits", "math.Float64frombits", "math.archTrunc", "internal/abi.NoEscape", "internal/bytealg.MakeNoZero"], unfollowed := true, recurses := true, named := ["internal/strconv.uint64pow10", "math/bits.deBruijn32tab", "math/bits.deBruijn64tab"], apart := false, laid := [("math/bits.deBruijn32tab", laid_math_bits_deBruijn32tab), ("math/bits.deBruijn64tab", laid_math_bits_deBruijn64tab), ("internal/strconv.uint64pow10", laid_internal_strconv_uint64pow10)], narrowed := true }
def EchoByTransformsUptoSaid : Prop := echoByTransformsUptoRow.holds Tryd.pinned (OpenSpec.upto echoByTransformsSpec)

/-- 'swathlaw01.EchoDirections', WHERE WHAT IT READS IS OF BULK AT MOST 1048576: true; the input reads as it did. -/
def echoDirectionsUptoRow : OpenClaim := { program := "ytakohhlmomgegaadoor", sum := "74056db4fcd0f31bfe99da24e7f512679bcdbf8631c00b185dda30b8ac4f2b8d", func := "swath/swathlaw01.EchoDirections", spec := "echoDirections", inPlace := ["math.Float64bits", "math.Float64frombits", "math.archTrunc", "internal/abi.NoEscape", "internal/bytealg.MakeNoZero"], unfollowed := true, recurses := true, named := ["internal/strconv.uint64pow10", "math/bits.deBruijn32tab", "math/bits.deBruijn64tab"], apart := false, laid := [("math/bits.deBruijn32tab", laid_math_bits_deBruijn32tab), ("math/bits.deBruijn64tab", laid_math_bits_deBruijn64tab), ("internal/strconv.uint64pow10", laid_internal_strconv_uint64pow10)], narrowed := true }
def EchoDirectionsUptoSaid : Prop := echoDirectionsUptoRow.holds Tryd.pinned (OpenSpec.upto echoDirectionsSpec)

/-- 'swathlaw01.EchoTurns', WHERE WHAT IT READS IS OF BULK AT MOST 1048576: true; the input reads as it did. -/
def echoTurnsUptoRow : OpenClaim := { program := "ytakohhlmomgegaadoor", sum := "74056db4fcd0f31bfe99da24e7f512679bcdbf8631c00b185dda30b8ac4f2b8d", func := "swath/swathlaw01.EchoTurns", spec := "echoTurns", inPlace := ["math.Float64bits", "math.Float64frombits", "math.archTrunc", "internal/abi.NoEscape", "internal/bytealg.MakeNoZero"], unfollowed := true, recurses := true, named := ["internal/strconv.uint64pow10", "math/bits.deBruijn32tab", "math/bits.deBruijn64tab"], apart := false, laid := [("math/bits.deBruijn32tab", laid_math_bits_deBruijn32tab), ("math/bits.deBruijn64tab", laid_math_bits_deBruijn64tab), ("internal/strconv.uint64pow10", laid_internal_strconv_uint64pow10)], narrowed := true }
def EchoTurnsUptoSaid : Prop := echoTurnsUptoRow.holds Tryd.pinned (OpenSpec.upto echoTurnsSpec)

/-- 'swathlaw01.EchoFocuses', WHERE WHAT IT READS IS OF BULK AT MOST 1048576: true; the input reads as it did. -/
def echoFocusesUptoRow : OpenClaim := { program := "ytakohhlmomgegaadoor", sum := "74056db4fcd0f31bfe99da24e7f512679bcdbf8631c00b185dda30b8ac4f2b8d", func := "swath/swathlaw01.EchoFocuses", spec := "echoFocuses", inPlace := ["math.Float64bits", "math.Float64frombits", "math.archTrunc", "internal/abi.NoEscape", "internal/bytealg.MakeNoZero"], unfollowed := true, recurses := true, named := ["internal/strconv.uint64pow10", "math/bits.deBruijn32tab", "math/bits.deBruijn64tab"], apart := false, laid := [("math/bits.deBruijn32tab", laid_math_bits_deBruijn32tab), ("math/bits.deBruijn64tab", laid_math_bits_deBruijn64tab), ("internal/strconv.uint64pow10", laid_internal_strconv_uint64pow10)], narrowed := true }
def EchoFocusesUptoSaid : Prop := echoFocusesUptoRow.holds Tryd.pinned (OpenSpec.upto echoFocusesSpec)

/-- 'swathlaw01.EchoTurning', WHERE WHAT IT READS IS OF BULK AT MOST 1048576: true; the input reads as it did. -/
def echoTurningUptoRow : OpenClaim := { program := "ytakohhlmomgegaadoor", sum := "74056db4fcd0f31bfe99da24e7f512679bcdbf8631c00b185dda30b8ac4f2b8d", func := "swath/swathlaw01.EchoTurning", spec := "echoTurning", inPlace := ["math.Float64bits", "math.Float64frombits", "math.archTrunc", "internal/abi.NoEscape", "internal/bytealg.MakeNoZero"], unfollowed := true, recurses := true, named := ["internal/strconv.uint64pow10", "math/bits.deBruijn32tab", "math/bits.deBruijn64tab"], apart := false, laid := [("math/bits.deBruijn32tab", laid_math_bits_deBruijn32tab), ("math/bits.deBruijn64tab", laid_math_bits_deBruijn64tab), ("internal/strconv.uint64pow10", laid_internal_strconv_uint64pow10)], narrowed := true }
def EchoTurningUptoSaid : Prop := echoTurningUptoRow.holds Tryd.pinned (OpenSpec.upto echoTurningSpec)

/-- 'swathlaw01.EchoLinear', WHERE WHAT IT READS IS OF BULK AT MOST 1048576: true; the input reads as it did. -/
def echoLinearUptoRow : OpenClaim := { program := "ytakohhlmomgegaadoor", sum := "74056db4fcd0f31bfe99da24e7f512679bcdbf8631c00b185dda30b8ac4f2b8d", func := "swath/swathlaw01.EchoLinear", spec := "echoLinear", inPlace := ["math.Float64bits", "math.Float64frombits", "math.archTrunc", "internal/abi.NoEscape", "internal/bytealg.MakeNoZero"], unfollowed := true, recurses := true, named := ["internal/strconv.uint64pow10", "math/bits.deBruijn32tab", "math/bits.deBruijn64tab"], apart := false, laid := [("math/bits.deBruijn32tab", laid_math_bits_deBruijn32tab), ("math/bits.deBruijn64tab", laid_math_bits_deBruijn64tab), ("internal/strconv.uint64pow10", laid_internal_strconv_uint64pow10)], narrowed := true }
def EchoLinearUptoSaid : Prop := echoLinearUptoRow.holds Tryd.pinned (OpenSpec.upto echoLinearSpec)

/-- 'swathlaw01.EchoImages', WHERE WHAT IT READS IS OF BULK AT MOST 1048576: true; the input reads as it did. -/
def echoImagesUptoRow : OpenClaim := { program := "ytakohhlmomgegaadoor", sum := "74056db4fcd0f31bfe99da24e7f512679bcdbf8631c00b185dda30b8ac4f2b8d", func := "swath/swathlaw01.EchoImages", spec := "echoImages", inPlace := ["math.Float64bits", "math.Float64frombits", "math.archTrunc", "internal/abi.NoEscape", "internal/bytealg.MakeNoZero"], unfollowed := true, recurses := true, named := ["internal/strconv.uint64pow10", "math/bits.deBruijn32tab", "math/bits.deBruijn64tab"], apart := false, laid := [("math/bits.deBruijn32tab", laid_math_bits_deBruijn32tab), ("math/bits.deBruijn64tab", laid_math_bits_deBruijn64tab), ("internal/strconv.uint64pow10", laid_internal_strconv_uint64pow10)], narrowed := true }
def EchoImagesUptoSaid : Prop := echoImagesUptoRow.holds Tryd.pinned (OpenSpec.upto echoImagesSpec)

/-- 'swathlaw01.EchoFields', WHERE WHAT IT READS IS OF BULK AT MOST 1048576: true; the input reads as it did. -/
def echoFieldsUptoRow : OpenClaim := { program := "ytakohhlmomgegaadoor", sum := "74056db4fcd0f31bfe99da24e7f512679bcdbf8631c00b185dda30b8ac4f2b8d", func := "swath/swathlaw01.EchoFields", spec := "echoFields", inPlace := ["math.Float64bits", "math.Float64frombits", "math.archTrunc", "internal/abi.NoEscape", "internal/bytealg.MakeNoZero"], unfollowed := true, recurses := true, named := ["internal/strconv.uint64pow10", "math/bits.deBruijn32tab", "math/bits.deBruijn64tab"], apart := false, laid := [("math/bits.deBruijn32tab", laid_math_bits_deBruijn32tab), ("math/bits.deBruijn64tab", laid_math_bits_deBruijn64tab), ("internal/strconv.uint64pow10", laid_internal_strconv_uint64pow10)], narrowed := true }
def EchoFieldsUptoSaid : Prop := echoFieldsUptoRow.holds Tryd.pinned (OpenSpec.upto echoFieldsSpec)

/-- 'swathlaw01.EchoAdds', WHERE WHAT IT READS IS OF BULK AT MOST 1048576: true; the input reads as it did. -/
def echoAddsUptoRow : OpenClaim := { program := "ytakohhlmomgegaadoor", sum := "74056db4fcd0f31bfe99da24e7f512679bcdbf8631c00b185dda30b8ac4f2b8d", func := "swath/swathlaw01.EchoAdds", spec := "echoAdds", inPlace := ["math.Float64bits", "math.Float64frombits", "math.archTrunc", "internal/abi.NoEscape", "internal/bytealg.MakeNoZero", "math.Float32bits"], unfollowed := true, recurses := true, named := ["internal/strconv.uint64pow10", "math/bits.deBruijn32tab", "math/bits.deBruijn64tab"], apart := false, laid := [("math/bits.deBruijn32tab", laid_math_bits_deBruijn32tab), ("math/bits.deBruijn64tab", laid_math_bits_deBruijn64tab), ("internal/strconv.uint64pow10", laid_internal_strconv_uint64pow10)], narrowed := true }
def EchoAddsUptoSaid : Prop := echoAddsUptoRow.holds Tryd.pinned (OpenSpec.upto echoAddsSpec)

/-- 'swathlaw01.EchoResponds', WHERE WHAT IT READS IS OF BULK AT MOST 1048576: true; the input reads as it did. -/
def echoRespondsUptoRow : OpenClaim := { program := "ytakohhlmomgegaadoor", sum := "74056db4fcd0f31bfe99da24e7f512679bcdbf8631c00b185dda30b8ac4f2b8d", func := "swath/swathlaw01.EchoResponds", spec := "echoResponds", inPlace := ["math.Float64bits", "math.Float64frombits", "math.archTrunc", "internal/abi.NoEscape", "internal/bytealg.MakeNoZero"], unfollowed := true, recurses := true, named := ["internal/strconv.uint64pow10", "math/bits.deBruijn32tab", "math/bits.deBruijn64tab"], apart := false, laid := [("math/bits.deBruijn32tab", laid_math_bits_deBruijn32tab), ("math/bits.deBruijn64tab", laid_math_bits_deBruijn64tab), ("internal/strconv.uint64pow10", laid_internal_strconv_uint64pow10)], narrowed := true }
def EchoRespondsUptoSaid : Prop := echoRespondsUptoRow.holds Tryd.pinned (OpenSpec.upto echoRespondsSpec)

end Rows
end Go.Proofs.YtakohhlmomgegaaDoor
