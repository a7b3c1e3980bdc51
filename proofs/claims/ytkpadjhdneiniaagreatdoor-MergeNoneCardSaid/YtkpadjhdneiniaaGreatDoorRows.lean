/-
  NARROWER THAN 'FOR EVERY INPUT', by the rows' own cells (each row's printed sentence says how): AutoRuns: laid · AutoEnds: laid · AutoStates: laid · AutoSingle: laid · EqualApart: laid · EqualSteps: laid · EqualWords: laid · EqualClasses: laid · EqualNil: laid · MergeMore: laid · MergeWords: laid · MergeNone: laid · MergeMaps: laid · MergeRight: laid · StableMerged: laid.
  DERIVED. THE GIVEN ROWS OF THIS SEAT. 15 by the template 'for every input the law returns true; each argument reads behind the call as it read before'; 0 by the template 'total and deterministic' (their statements: YtkpadjhdneiniaaGreatDoorTotals.lean).
  GIVEN WITH THE SEED: the statements are not yours to turn. If you find one false, say at which input.
  Laid BY PROGRAM, IN A SANDBOX (cutbox-rows.mjs): the forced cells as the released guide's own fill.sh prints them over the translation 691d09d8504cf7cb… (all of the seat's roots in one cut). By AI agents, Wed Nov 11 2026. No macro, syntax, notation, axiom, sorry.
-/
import Derived.Test.YtkpadjhdneiniaaGreatDoorChecked
import GoSem.Claim
import GoSem.ClaimJoined
import GoSem.ClaimMapViews
import Derived.JoinedTies
import Derived.KernelRfl
namespace Go.Proofs.YtkpadjhdneiniaaGreatDoor
/- THE CELL 'sum', in the pinned program and in every row, IS THE sha256 OF THE DUMP (.gsa) THAT YtkpadjhdneiniaaGreatDoorProg.lean LOADS. Nothing in Lean hashes anything: it is a label: what it is worth is what the hold of that sum in a sandbox is worth. -/
noncomputable def Tryz.pinned : Pinned := { name := "ytkpadjhdneiniaagreatdoor", sum := "691d09d8504cf7cb3305b619e259fadc3c6737e6f46159f6ad20e27498ba435a", checked := Tryz.checked }
namespace Rows
def none {H : Type} : Left H := { results := [], args := [] }

/- WHAT THE LISTED PACKAGE-LEVEL VARIABLES READ AS WHEN THE CALL BEGINS. Each datum BY PROGRAM (the guide's laid-datum.mjs) off the statement by which the dump's own 'gosem.cut.vars' lays the variable. In a bare row this is a premise. The card (YtkpadjhdneiniaaGreatDoorCards.lean) ties it to the program's text. -/
def laid_math_bits_deBruijn32tab {H : Type} : DataW H := .agg [.lit (.int .u8 0), .lit (.int .u8 1), .lit (.int .u8 28), .lit (.int .u8 2), .lit (.int .u8 29), .lit (.int .u8 14), .lit (.int .u8 24), .lit (.int .u8 3), .lit (.int .u8 30), .lit (.int .u8 22), .lit (.int .u8 20), .lit (.int .u8 15), .lit (.int .u8 25), .lit (.int .u8 17), .lit (.int .u8 4), .lit (.int .u8 8), .lit (.int .u8 31), .lit (.int .u8 27), .lit (.int .u8 13), .lit (.int .u8 23), .lit (.int .u8 21), .lit (.int .u8 19), .lit (.int .u8 16), .lit (.int .u8 7), .lit (.int .u8 26), .lit (.int .u8 12), .lit (.int .u8 18), .lit (.int .u8 6), .lit (.int .u8 11), .lit (.int .u8 5), .lit (.int .u8 10), .lit (.int .u8 9)]
def laid_math_bits_deBruijn64tab {H : Type} : DataW H := .agg [.lit (.int .u8 0), .lit (.int .u8 1), .lit (.int .u8 56), .lit (.int .u8 2), .lit (.int .u8 57), .lit (.int .u8 49), .lit (.int .u8 28), .lit (.int .u8 3), .lit (.int .u8 61), .lit (.int .u8 58), .lit (.int .u8 42), .lit (.int .u8 50), .lit (.int .u8 38), .lit (.int .u8 29), .lit (.int .u8 17), .lit (.int .u8 4), .lit (.int .u8 62), .lit (.int .u8 47), .lit (.int .u8 59), .lit (.int .u8 36), .lit (.int .u8 45), .lit (.int .u8 43), .lit (.int .u8 51), .lit (.int .u8 22), .lit (.int .u8 53), .lit (.int .u8 39), .lit (.int .u8 33), .lit (.int .u8 30), .lit (.int .u8 24), .lit (.int .u8 18), .lit (.int .u8 12), .lit (.int .u8 5), .lit (.int .u8 63), .lit (.int .u8 55), .lit (.int .u8 48), .lit (.int .u8 27), .lit (.int .u8 60), .lit (.int .u8 41), .lit (.int .u8 37), .lit (.int .u8 16), .lit (.int .u8 46), .lit (.int .u8 35), .lit (.int .u8 44), .lit (.int .u8 21), .lit (.int .u8 52), .lit (.int .u8 32), .lit (.int .u8 23), .lit (.int .u8 11), .lit (.int .u8 54), .lit (.int .u8 26), .lit (.int .u8 40), .lit (.int .u8 15), .lit (.int .u8 34), .lit (.int .u8 20), .lit (.int .u8 31), .lit (.int .u8 10), .lit (.int .u8 25), .lit (.int .u8 14), .lit (.int .u8 19), .lit (.int .u8 9), .lit (.int .u8 13), .lit (.int .u8 8), .lit (.int .u8 7), .lit (.int .u8 6)]
def laid_internal_strconv_uint64pow10 {H : Type} : DataW H := .agg [.lit (.int .u64 1), .lit (.int .u64 10), .lit (.int .u64 100), .lit (.int .u64 1000), .lit (.int .u64 10000), .lit (.int .u64 100000), .lit (.int .u64 1000000), .lit (.int .u64 10000000), .lit (.int .u64 100000000), .lit (.int .u64 1000000000), .lit (.int .u64 10000000000), .lit (.int .u64 100000000000), .lit (.int .u64 1000000000000), .lit (.int .u64 10000000000000), .lit (.int .u64 100000000000000), .lit (.int .u64 1000000000000000), .lit (.int .u64 10000000000000000), .lit (.int .u64 100000000000000000), .lit (.int .u64 1000000000000000000), .lit (.int .u64 10000000000000000000)]

/-- 'winnowerlaw23.AutoRuns': WHATEVER THE INPUT: true; the input reads as it did. -/
def autoRunsSpec : ChangeSpec := { name := "autoRuns", fn := fun _ => fun
  | [d1, d2, d3] => { results := [.lit (.bool true)], args := [d1, d2, d3] }
  | _ => none }
def autoRunsRow : OpenClaim := { program := "ytkpadjhdneiniaagreatdoor", sum := "691d09d8504cf7cb3305b619e259fadc3c6737e6f46159f6ad20e27498ba435a", func := "winnower/winnowerlaw23.AutoRuns", spec := "autoRuns", inPlace := ["slices.overlaps[int]", "internal/abi.NoEscape", "internal/bytealg.MakeNoZero"], recurses := true, named := ["internal/strconv.uint64pow10", "math/bits.deBruijn32tab", "math/bits.deBruijn64tab"], plainKeys := false, apart := false, laid := [("math/bits.deBruijn32tab", laid_math_bits_deBruijn32tab), ("math/bits.deBruijn64tab", laid_math_bits_deBruijn64tab), ("internal/strconv.uint64pow10", laid_internal_strconv_uint64pow10)] }
def AutoRunsSaid : Prop := autoRunsRow.holds Tryz.pinned (OpenSpec.ofChange autoRunsSpec)

/-- ITS FALSE NEIGHBOUR: 'it returns false'. Refute it at one input. -/
def autoRunsWrong : ChangeSpec := { name := "autoRuns", fn := fun _ => fun
  | [d1, d2, d3] => { results := [.lit (.bool false)], args := [d1, d2, d3] }
  | _ => none }
def AutoRunsWrongFalsely : Prop := autoRunsRow.holds Tryz.pinned (OpenSpec.ofChange autoRunsWrong)

/-- 'winnowerlaw23.AutoEnds': WHATEVER THE INPUT: true; the input reads as it did. -/
def autoEndsSpec : ChangeSpec := { name := "autoEnds", fn := fun _ => fun
  | [d1, d2, d3] => { results := [.lit (.bool true)], args := [d1, d2, d3] }
  | _ => none }
def autoEndsRow : OpenClaim := { program := "ytkpadjhdneiniaagreatdoor", sum := "691d09d8504cf7cb3305b619e259fadc3c6737e6f46159f6ad20e27498ba435a", func := "winnower/winnowerlaw23.AutoEnds", spec := "autoEnds", inPlace := ["slices.overlaps[int]", "internal/abi.NoEscape", "internal/bytealg.MakeNoZero"], recurses := true, named := ["internal/strconv.uint64pow10", "math/bits.deBruijn32tab", "math/bits.deBruijn64tab"], plainKeys := false, apart := false, laid := [("math/bits.deBruijn32tab", laid_math_bits_deBruijn32tab), ("math/bits.deBruijn64tab", laid_math_bits_deBruijn64tab), ("internal/strconv.uint64pow10", laid_internal_strconv_uint64pow10)] }
def AutoEndsSaid : Prop := autoEndsRow.holds Tryz.pinned (OpenSpec.ofChange autoEndsSpec)

/-- ITS FALSE NEIGHBOUR: 'it returns false'. Refute it at one input. -/
def autoEndsWrong : ChangeSpec := { name := "autoEnds", fn := fun _ => fun
  | [d1, d2, d3] => { results := [.lit (.bool false)], args := [d1, d2, d3] }
  | _ => none }
def AutoEndsWrongFalsely : Prop := autoEndsRow.holds Tryz.pinned (OpenSpec.ofChange autoEndsWrong)

/-- 'winnowerlaw23.AutoStates': WHATEVER THE INPUT: true; the input reads as it did. -/
def autoStatesSpec : ChangeSpec := { name := "autoStates", fn := fun _ => fun
  | [d1, d2, d3] => { results := [.lit (.bool true)], args := [d1, d2, d3] }
  | _ => none }
def autoStatesRow : OpenClaim := { program := "ytkpadjhdneiniaagreatdoor", sum := "691d09d8504cf7cb3305b619e259fadc3c6737e6f46159f6ad20e27498ba435a", func := "winnower/winnowerlaw23.AutoStates", spec := "autoStates", inPlace := ["slices.overlaps[int]", "internal/abi.NoEscape", "internal/bytealg.MakeNoZero"], recurses := true, named := ["internal/strconv.uint64pow10", "math/bits.deBruijn32tab", "math/bits.deBruijn64tab"], plainKeys := false, apart := false, laid := [("math/bits.deBruijn32tab", laid_math_bits_deBruijn32tab), ("math/bits.deBruijn64tab", laid_math_bits_deBruijn64tab), ("internal/strconv.uint64pow10", laid_internal_strconv_uint64pow10)] }
def AutoStatesSaid : Prop := autoStatesRow.holds Tryz.pinned (OpenSpec.ofChange autoStatesSpec)

/-- ITS FALSE NEIGHBOUR: 'it returns false'. Refute it at one input. -/
def autoStatesWrong : ChangeSpec := { name := "autoStates", fn := fun _ => fun
  | [d1, d2, d3] => { results := [.lit (.bool false)], args := [d1, d2, d3] }
  | _ => none }
def AutoStatesWrongFalsely : Prop := autoStatesRow.holds Tryz.pinned (OpenSpec.ofChange autoStatesWrong)

/-- 'winnowerlaw23.AutoSingle': WHATEVER THE INPUT: true; the input reads as it did. -/
def autoSingleSpec : ChangeSpec := { name := "autoSingle", fn := fun _ => fun
  | [d1, d2, d3] => { results := [.lit (.bool true)], args := [d1, d2, d3] }
  | _ => none }
def autoSingleRow : OpenClaim := { program := "ytkpadjhdneiniaagreatdoor", sum := "691d09d8504cf7cb3305b619e259fadc3c6737e6f46159f6ad20e27498ba435a", func := "winnower/winnowerlaw23.AutoSingle", spec := "autoSingle", inPlace := ["slices.overlaps[int]", "internal/abi.NoEscape", "internal/bytealg.MakeNoZero"], recurses := true, named := ["internal/strconv.uint64pow10", "math/bits.deBruijn32tab", "math/bits.deBruijn64tab"], plainKeys := false, apart := false, laid := [("math/bits.deBruijn32tab", laid_math_bits_deBruijn32tab), ("math/bits.deBruijn64tab", laid_math_bits_deBruijn64tab), ("internal/strconv.uint64pow10", laid_internal_strconv_uint64pow10)] }
def AutoSingleSaid : Prop := autoSingleRow.holds Tryz.pinned (OpenSpec.ofChange autoSingleSpec)

/-- ITS FALSE NEIGHBOUR: 'it returns false'. Refute it at one input. -/
def autoSingleWrong : ChangeSpec := { name := "autoSingle", fn := fun _ => fun
  | [d1, d2, d3] => { results := [.lit (.bool false)], args := [d1, d2, d3] }
  | _ => none }
def AutoSingleWrongFalsely : Prop := autoSingleRow.holds Tryz.pinned (OpenSpec.ofChange autoSingleWrong)

/-- 'winnowerlaw24.EqualApart': WHATEVER THE INPUT: true; the input reads as it did. -/
def equalApartSpec : ChangeSpec := { name := "equalApart", fn := fun _ => fun
  | [d1, d2, d3] => { results := [.lit (.bool true)], args := [d1, d2, d3] }
  | _ => none }
def equalApartRow : OpenClaim := { program := "ytkpadjhdneiniaagreatdoor", sum := "691d09d8504cf7cb3305b619e259fadc3c6737e6f46159f6ad20e27498ba435a", func := "winnower/winnowerlaw24.EqualApart", spec := "equalApart", inPlace := ["slices.overlaps[int]", "internal/abi.NoEscape", "internal/bytealg.MakeNoZero"], recurses := true, named := ["internal/strconv.uint64pow10", "math/bits.deBruijn32tab", "math/bits.deBruijn64tab"], plainKeys := false, apart := false, laid := [("math/bits.deBruijn32tab", laid_math_bits_deBruijn32tab), ("math/bits.deBruijn64tab", laid_math_bits_deBruijn64tab), ("internal/strconv.uint64pow10", laid_internal_strconv_uint64pow10)] }
def EqualApartSaid : Prop := equalApartRow.holds Tryz.pinned (OpenSpec.ofChange equalApartSpec)

/-- ITS FALSE NEIGHBOUR: 'it returns false'. Refute it at one input. -/
def equalApartWrong : ChangeSpec := { name := "equalApart", fn := fun _ => fun
  | [d1, d2, d3] => { results := [.lit (.bool false)], args := [d1, d2, d3] }
  | _ => none }
def EqualApartWrongFalsely : Prop := equalApartRow.holds Tryz.pinned (OpenSpec.ofChange equalApartWrong)

/-- 'winnowerlaw24.EqualSteps': WHATEVER THE INPUT: true; the input reads as it did. -/
def equalStepsSpec : ChangeSpec := { name := "equalSteps", fn := fun _ => fun
  | [d1, d2, d3] => { results := [.lit (.bool true)], args := [d1, d2, d3] }
  | _ => none }
def equalStepsRow : OpenClaim := { program := "ytkpadjhdneiniaagreatdoor", sum := "691d09d8504cf7cb3305b619e259fadc3c6737e6f46159f6ad20e27498ba435a", func := "winnower/winnowerlaw24.EqualSteps", spec := "equalSteps", inPlace := ["slices.overlaps[int]", "internal/abi.NoEscape", "internal/bytealg.MakeNoZero"], recurses := true, named := ["internal/strconv.uint64pow10", "math/bits.deBruijn32tab", "math/bits.deBruijn64tab"], plainKeys := false, apart := false, laid := [("math/bits.deBruijn32tab", laid_math_bits_deBruijn32tab), ("math/bits.deBruijn64tab", laid_math_bits_deBruijn64tab), ("internal/strconv.uint64pow10", laid_internal_strconv_uint64pow10)] }
def EqualStepsSaid : Prop := equalStepsRow.holds Tryz.pinned (OpenSpec.ofChange equalStepsSpec)

/-- ITS FALSE NEIGHBOUR: 'it returns false'. Refute it at one input. -/
def equalStepsWrong : ChangeSpec := { name := "equalSteps", fn := fun _ => fun
  | [d1, d2, d3] => { results := [.lit (.bool false)], args := [d1, d2, d3] }
  | _ => none }
def EqualStepsWrongFalsely : Prop := equalStepsRow.holds Tryz.pinned (OpenSpec.ofChange equalStepsWrong)

/-- 'winnowerlaw24.EqualWords': WHATEVER THE INPUT: true; the input reads as it did. -/
def equalWordsSpec : ChangeSpec := { name := "equalWords", fn := fun _ => fun
  | [d1, d2, d3] => { results := [.lit (.bool true)], args := [d1, d2, d3] }
  | _ => none }
def equalWordsRow : OpenClaim := { program := "ytkpadjhdneiniaagreatdoor", sum := "691d09d8504cf7cb3305b619e259fadc3c6737e6f46159f6ad20e27498ba435a", func := "winnower/winnowerlaw24.EqualWords", spec := "equalWords", inPlace := ["slices.overlaps[int]", "internal/abi.NoEscape", "internal/bytealg.MakeNoZero"], recurses := true, named := ["internal/strconv.uint64pow10", "math/bits.deBruijn32tab", "math/bits.deBruijn64tab"], plainKeys := false, apart := false, laid := [("math/bits.deBruijn32tab", laid_math_bits_deBruijn32tab), ("math/bits.deBruijn64tab", laid_math_bits_deBruijn64tab), ("internal/strconv.uint64pow10", laid_internal_strconv_uint64pow10)] }
def EqualWordsSaid : Prop := equalWordsRow.holds Tryz.pinned (OpenSpec.ofChange equalWordsSpec)

/-- ITS FALSE NEIGHBOUR: 'it returns false'. Refute it at one input. -/
def equalWordsWrong : ChangeSpec := { name := "equalWords", fn := fun _ => fun
  | [d1, d2, d3] => { results := [.lit (.bool false)], args := [d1, d2, d3] }
  | _ => none }
def EqualWordsWrongFalsely : Prop := equalWordsRow.holds Tryz.pinned (OpenSpec.ofChange equalWordsWrong)

/-- 'winnowerlaw24.EqualClasses': WHATEVER THE INPUT: true; the input reads as it did. -/
def equalClassesSpec : ChangeSpec := { name := "equalClasses", fn := fun _ => fun
  | [d] => { results := [.lit (.bool true)], args := [d] }
  | _ => none }
def equalClassesRow : OpenClaim := { program := "ytkpadjhdneiniaagreatdoor", sum := "691d09d8504cf7cb3305b619e259fadc3c6737e6f46159f6ad20e27498ba435a", func := "winnower/winnowerlaw24.EqualClasses", spec := "equalClasses", inPlace := ["slices.overlaps[int]", "internal/abi.NoEscape", "internal/bytealg.MakeNoZero"], unfollowed := true, recurses := true, named := ["internal/strconv.uint64pow10", "math/bits.deBruijn32tab", "math/bits.deBruijn64tab"], plainKeys := false, apart := false, laid := [("math/bits.deBruijn32tab", laid_math_bits_deBruijn32tab), ("math/bits.deBruijn64tab", laid_math_bits_deBruijn64tab), ("internal/strconv.uint64pow10", laid_internal_strconv_uint64pow10)] }
def EqualClassesSaid : Prop := equalClassesRow.holds Tryz.pinned (OpenSpec.ofChange equalClassesSpec)

/-- ITS FALSE NEIGHBOUR: 'it returns false'. Refute it at one input. -/
def equalClassesWrong : ChangeSpec := { name := "equalClasses", fn := fun _ => fun
  | [d] => { results := [.lit (.bool false)], args := [d] }
  | _ => none }
def EqualClassesWrongFalsely : Prop := equalClassesRow.holds Tryz.pinned (OpenSpec.ofChange equalClassesWrong)

/-- 'winnowerlaw24.EqualNil': WHATEVER THE INPUT: true; the input reads as it did. -/
def equalNilSpec : ChangeSpec := { name := "equalNil", fn := fun _ => fun
  | [d1, d2] => { results := [.lit (.bool true)], args := [d1, d2] }
  | _ => none }
def equalNilRow : OpenClaim := { program := "ytkpadjhdneiniaagreatdoor", sum := "691d09d8504cf7cb3305b619e259fadc3c6737e6f46159f6ad20e27498ba435a", func := "winnower/winnowerlaw24.EqualNil", spec := "equalNil", inPlace := ["slices.overlaps[int]", "internal/abi.NoEscape", "internal/bytealg.MakeNoZero"], unfollowed := true, recurses := true, named := ["internal/strconv.uint64pow10", "math/bits.deBruijn32tab", "math/bits.deBruijn64tab"], plainKeys := false, apart := false, laid := [("math/bits.deBruijn32tab", laid_math_bits_deBruijn32tab), ("math/bits.deBruijn64tab", laid_math_bits_deBruijn64tab), ("internal/strconv.uint64pow10", laid_internal_strconv_uint64pow10)] }
def EqualNilSaid : Prop := equalNilRow.holds Tryz.pinned (OpenSpec.ofChange equalNilSpec)

/-- ITS FALSE NEIGHBOUR: 'it returns false'. Refute it at one input. -/
def equalNilWrong : ChangeSpec := { name := "equalNil", fn := fun _ => fun
  | [d1, d2] => { results := [.lit (.bool false)], args := [d1, d2] }
  | _ => none }
def EqualNilWrongFalsely : Prop := equalNilRow.holds Tryz.pinned (OpenSpec.ofChange equalNilWrong)

/-- 'winnowerlaw25.MergeMore': WHATEVER THE INPUT: true; the input reads as it did. -/
def mergeMoreSpec : ChangeSpec := { name := "mergeMore", fn := fun _ => fun
  | [d1, d2, d3] => { results := [.lit (.bool true)], args := [d1, d2, d3] }
  | _ => none }
def mergeMoreRow : OpenClaim := { program := "ytkpadjhdneiniaagreatdoor", sum := "691d09d8504cf7cb3305b619e259fadc3c6737e6f46159f6ad20e27498ba435a", func := "winnower/winnowerlaw25.MergeMore", spec := "mergeMore", inPlace := ["slices.overlaps[int]", "internal/abi.NoEscape", "internal/bytealg.MakeNoZero"], recurses := true, named := ["internal/strconv.uint64pow10", "math/bits.deBruijn32tab", "math/bits.deBruijn64tab"], plainKeys := false, apart := false, laid := [("math/bits.deBruijn32tab", laid_math_bits_deBruijn32tab), ("math/bits.deBruijn64tab", laid_math_bits_deBruijn64tab), ("internal/strconv.uint64pow10", laid_internal_strconv_uint64pow10)] }
def MergeMoreSaid : Prop := mergeMoreRow.holds Tryz.pinned (OpenSpec.ofChange mergeMoreSpec)

/-- ITS FALSE NEIGHBOUR: 'it returns false'. Refute it at one input. -/
def mergeMoreWrong : ChangeSpec := { name := "mergeMore", fn := fun _ => fun
  | [d1, d2, d3] => { results := [.lit (.bool false)], args := [d1, d2, d3] }
  | _ => none }
def MergeMoreWrongFalsely : Prop := mergeMoreRow.holds Tryz.pinned (OpenSpec.ofChange mergeMoreWrong)

/-- 'winnowerlaw25.MergeWords': WHATEVER THE INPUT: true; the input reads as it did. -/
def mergeWordsSpec : ChangeSpec := { name := "mergeWords", fn := fun _ => fun
  | [d1, d2] => { results := [.lit (.bool true)], args := [d1, d2] }
  | _ => none }
def mergeWordsRow : OpenClaim := { program := "ytkpadjhdneiniaagreatdoor", sum := "691d09d8504cf7cb3305b619e259fadc3c6737e6f46159f6ad20e27498ba435a", func := "winnower/winnowerlaw25.MergeWords", spec := "mergeWords", inPlace := ["slices.overlaps[int]", "internal/abi.NoEscape", "internal/bytealg.MakeNoZero"], recurses := true, named := ["internal/strconv.uint64pow10", "math/bits.deBruijn32tab", "math/bits.deBruijn64tab"], plainKeys := false, apart := false, laid := [("math/bits.deBruijn32tab", laid_math_bits_deBruijn32tab), ("math/bits.deBruijn64tab", laid_math_bits_deBruijn64tab), ("internal/strconv.uint64pow10", laid_internal_strconv_uint64pow10)] }
def MergeWordsSaid : Prop := mergeWordsRow.holds Tryz.pinned (OpenSpec.ofChange mergeWordsSpec)

/-- ITS FALSE NEIGHBOUR: 'it returns false'. Refute it at one input. -/
def mergeWordsWrong : ChangeSpec := { name := "mergeWords", fn := fun _ => fun
  | [d1, d2] => { results := [.lit (.bool false)], args := [d1, d2] }
  | _ => none }
def MergeWordsWrongFalsely : Prop := mergeWordsRow.holds Tryz.pinned (OpenSpec.ofChange mergeWordsWrong)

/-- 'winnowerlaw25.MergeNone': WHATEVER THE INPUT: true; the input reads as it did. -/
def mergeNoneSpec : ChangeSpec := { name := "mergeNone", fn := fun _ => fun
  | [d1, d2] => { results := [.lit (.bool true)], args := [d1, d2] }
  | _ => none }
def mergeNoneRow : OpenClaim := { program := "ytkpadjhdneiniaagreatdoor", sum := "691d09d8504cf7cb3305b619e259fadc3c6737e6f46159f6ad20e27498ba435a", func := "winnower/winnowerlaw25.MergeNone", spec := "mergeNone", inPlace := ["slices.overlaps[int]", "internal/abi.NoEscape", "internal/bytealg.MakeNoZero"], recurses := true, named := ["internal/strconv.uint64pow10", "math/bits.deBruijn32tab", "math/bits.deBruijn64tab"], plainKeys := false, apart := false, laid := [("math/bits.deBruijn32tab", laid_math_bits_deBruijn32tab), ("math/bits.deBruijn64tab", laid_math_bits_deBruijn64tab), ("internal/strconv.uint64pow10", laid_internal_strconv_uint64pow10)] }
def MergeNoneSaid : Prop := mergeNoneRow.holds Tryz.pinned (OpenSpec.ofChange mergeNoneSpec)

/-- ITS FALSE NEIGHBOUR: 'it returns false'. Refute it at one input. -/
def mergeNoneWrong : ChangeSpec := { name := "mergeNone", fn := fun _ => fun
  | [d1, d2] => { results := [.lit (.bool false)], args := [d1, d2] }
  | _ => none }
def MergeNoneWrongFalsely : Prop := mergeNoneRow.holds Tryz.pinned (OpenSpec.ofChange mergeNoneWrong)

/-- 'winnowerlaw25.MergeMaps': WHATEVER THE INPUT: true; the input reads as it did. -/
def mergeMapsSpec : ChangeSpec := { name := "mergeMaps", fn := fun _ => fun
  | [d1, d2, d3] => { results := [.lit (.bool true)], args := [d1, d2, d3] }
  | _ => none }
def mergeMapsRow : OpenClaim := { program := "ytkpadjhdneiniaagreatdoor", sum := "691d09d8504cf7cb3305b619e259fadc3c6737e6f46159f6ad20e27498ba435a", func := "winnower/winnowerlaw25.MergeMaps", spec := "mergeMaps", inPlace := ["slices.overlaps[int]", "internal/abi.NoEscape", "internal/bytealg.MakeNoZero"], recurses := true, named := ["internal/strconv.uint64pow10", "math/bits.deBruijn32tab", "math/bits.deBruijn64tab"], plainKeys := false, apart := false, laid := [("math/bits.deBruijn32tab", laid_math_bits_deBruijn32tab), ("math/bits.deBruijn64tab", laid_math_bits_deBruijn64tab), ("internal/strconv.uint64pow10", laid_internal_strconv_uint64pow10)] }
def MergeMapsSaid : Prop := mergeMapsRow.holds Tryz.pinned (OpenSpec.ofChange mergeMapsSpec)

/-- ITS FALSE NEIGHBOUR: 'it returns false'. Refute it at one input. -/
def mergeMapsWrong : ChangeSpec := { name := "mergeMaps", fn := fun _ => fun
  | [d1, d2, d3] => { results := [.lit (.bool false)], args := [d1, d2, d3] }
  | _ => none }
def MergeMapsWrongFalsely : Prop := mergeMapsRow.holds Tryz.pinned (OpenSpec.ofChange mergeMapsWrong)

/-- 'winnowerlaw25.MergeRight': WHATEVER THE INPUT: true; the input reads as it did. -/
def mergeRightSpec : ChangeSpec := { name := "mergeRight", fn := fun _ => fun
  | [d1, d2] => { results := [.lit (.bool true)], args := [d1, d2] }
  | _ => none }
def mergeRightRow : OpenClaim := { program := "ytkpadjhdneiniaagreatdoor", sum := "691d09d8504cf7cb3305b619e259fadc3c6737e6f46159f6ad20e27498ba435a", func := "winnower/winnowerlaw25.MergeRight", spec := "mergeRight", inPlace := ["slices.overlaps[int]", "internal/abi.NoEscape", "internal/bytealg.MakeNoZero"], recurses := true, named := ["internal/strconv.uint64pow10", "math/bits.deBruijn32tab", "math/bits.deBruijn64tab"], plainKeys := false, apart := false, laid := [("math/bits.deBruijn32tab", laid_math_bits_deBruijn32tab), ("math/bits.deBruijn64tab", laid_math_bits_deBruijn64tab), ("internal/strconv.uint64pow10", laid_internal_strconv_uint64pow10)] }
def MergeRightSaid : Prop := mergeRightRow.holds Tryz.pinned (OpenSpec.ofChange mergeRightSpec)

/-- ITS FALSE NEIGHBOUR: 'it returns false'. Refute it at one input. -/
def mergeRightWrong : ChangeSpec := { name := "mergeRight", fn := fun _ => fun
  | [d1, d2] => { results := [.lit (.bool false)], args := [d1, d2] }
  | _ => none }
def MergeRightWrongFalsely : Prop := mergeRightRow.holds Tryz.pinned (OpenSpec.ofChange mergeRightWrong)

/-- 'winnowerlaw26.StableMerged': WHATEVER THE INPUT: true; the input reads as it did. -/
def stableMergedSpec : ChangeSpec := { name := "stableMerged", fn := fun _ => fun
  | [d1, d2] => { results := [.lit (.bool true)], args := [d1, d2] }
  | _ => none }
def stableMergedRow : OpenClaim := { program := "ytkpadjhdneiniaagreatdoor", sum := "691d09d8504cf7cb3305b619e259fadc3c6737e6f46159f6ad20e27498ba435a", func := "winnower/winnowerlaw26.StableMerged", spec := "stableMerged", inPlace := ["slices.overlaps[int]", "internal/abi.NoEscape", "internal/bytealg.MakeNoZero"], recurses := true, named := ["math/bits.deBruijn64tab", "internal/strconv.uint64pow10", "math/bits.deBruijn32tab"], plainKeys := false, apart := false, laid := [("math/bits.deBruijn32tab", laid_math_bits_deBruijn32tab), ("math/bits.deBruijn64tab", laid_math_bits_deBruijn64tab), ("internal/strconv.uint64pow10", laid_internal_strconv_uint64pow10)] }
def StableMergedSaid : Prop := stableMergedRow.holds Tryz.pinned (OpenSpec.ofChange stableMergedSpec)

/-- ITS FALSE NEIGHBOUR: 'it returns false'. Refute it at one input. -/
def stableMergedWrong : ChangeSpec := { name := "stableMerged", fn := fun _ => fun
  | [d1, d2] => { results := [.lit (.bool false)], args := [d1, d2] }
  | _ => none }
def StableMergedWrongFalsely : Prop := stableMergedRow.holds Tryz.pinned (OpenSpec.ofChange stableMergedWrong)

/- THE SECOND FORM. 'bulk': how many values and letters a reading holds, each counted each time it is reached (what is shared counts as often as it is met; a slice's spare places count too). A statement '..UptoSaid' is the law's where the arguments, and the package variables that the reading takes, are together of bulk at most 1048576: NARROWER than '..Said'. Prove '..Said' where nothing that the law and all that it calls make is longer than what came in: it says more and counts as full. Else prove '..UptoSaid'. A law counts once. -/
mutual
def uptoBulk {H : Type} : DataW H → Nat
  | .lit (.string bytes) => bytes.length + 1
  | .lit _ => 1
  | .nil => 1
  | .ptr d => uptoBulk d + 1
  | .slice elems spare => uptoBulkAll elems + uptoBulkAll spare + 1
  | .agg parts => uptoBulkAll parts + 1
  | .iface _ d => uptoBulk d + 1
  | .map entries => uptoBulkEntries entries + 1
  | .held _ => 1
def uptoBulkAll {H : Type} : List (DataW H) → Nat
  | [] => 0
  | d :: r => uptoBulk d + uptoBulkAll r
def uptoBulkEntries {H : Type} : List (Lit × DataW H) → Nat
  | [] => 0
  | x :: r => uptoBulkEntry x + uptoBulkEntries r
def uptoBulkEntry {H : Type} : Lit × DataW H → Nat
  | (.string bytes, d) => bytes.length + uptoBulk d + 1
  | (_, d) => uptoBulk d + 1
 end
def uptoSmall : (H : Type) → List (DataW H) → Bool := fun _ ds => decide (uptoBulkAll ds ≤ 1048576)
def OpenSpec.upto (s : _root_.Go.ChangeSpec) : _root_.Go.OpenSpec := { _root_.Go.OpenSpec.ofChange s with cond := some uptoSmall }

/-- 'winnowerlaw23.AutoRuns', WHERE WHAT IT READS IS OF BULK AT MOST 1048576: true; the input reads as it did. -/
def autoRunsUptoRow : OpenClaim := { program := "ytkpadjhdneiniaagreatdoor", sum := "691d09d8504cf7cb3305b619e259fadc3c6737e6f46159f6ad20e27498ba435a", func := "winnower/winnowerlaw23.AutoRuns", spec := "autoRuns", inPlace := ["slices.overlaps[int]", "internal/abi.NoEscape", "internal/bytealg.MakeNoZero"], recurses := true, named := ["internal/strconv.uint64pow10", "math/bits.deBruijn32tab", "math/bits.deBruijn64tab"], plainKeys := false, apart := false, laid := [("math/bits.deBruijn32tab", laid_math_bits_deBruijn32tab), ("math/bits.deBruijn64tab", laid_math_bits_deBruijn64tab), ("internal/strconv.uint64pow10", laid_internal_strconv_uint64pow10)], narrowed := true }
def AutoRunsUptoSaid : Prop := autoRunsUptoRow.holds Tryz.pinned (OpenSpec.upto autoRunsSpec)

/-- 'winnowerlaw23.AutoEnds', WHERE WHAT IT READS IS OF BULK AT MOST 1048576: true; the input reads as it did. -/
def autoEndsUptoRow : OpenClaim := { program := "ytkpadjhdneiniaagreatdoor", sum := "691d09d8504cf7cb3305b619e259fadc3c6737e6f46159f6ad20e27498ba435a", func := "winnower/winnowerlaw23.AutoEnds", spec := "autoEnds", inPlace := ["slices.overlaps[int]", "internal/abi.NoEscape", "internal/bytealg.MakeNoZero"], recurses := true, named := ["internal/strconv.uint64pow10", "math/bits.deBruijn32tab", "math/bits.deBruijn64tab"], plainKeys := false, apart := false, laid := [("math/bits.deBruijn32tab", laid_math_bits_deBruijn32tab), ("math/bits.deBruijn64tab", laid_math_bits_deBruijn64tab), ("internal/strconv.uint64pow10", laid_internal_strconv_uint64pow10)], narrowed := true }
def AutoEndsUptoSaid : Prop := autoEndsUptoRow.holds Tryz.pinned (OpenSpec.upto autoEndsSpec)

/-- 'winnowerlaw23.AutoStates', WHERE WHAT IT READS IS OF BULK AT MOST 1048576: true; the input reads as it did. -/
def autoStatesUptoRow : OpenClaim := { program := "ytkpadjhdneiniaagreatdoor", sum := "691d09d8504cf7cb3305b619e259fadc3c6737e6f46159f6ad20e27498ba435a", func := "winnower/winnowerlaw23.AutoStates", spec := "autoStates", inPlace := ["slices.overlaps[int]", "internal/abi.NoEscape", "internal/bytealg.MakeNoZero"], recurses := true, named := ["internal/strconv.uint64pow10", "math/bits.deBruijn32tab", "math/bits.deBruijn64tab"], plainKeys := false, apart := false, laid := [("math/bits.deBruijn32tab", laid_math_bits_deBruijn32tab), ("math/bits.deBruijn64tab", laid_math_bits_deBruijn64tab), ("internal/strconv.uint64pow10", laid_internal_strconv_uint64pow10)], narrowed := true }
def AutoStatesUptoSaid : Prop := autoStatesUptoRow.holds Tryz.pinned (OpenSpec.upto autoStatesSpec)

/-- 'winnowerlaw23.AutoSingle', WHERE WHAT IT READS IS OF BULK AT MOST 1048576: true; the input reads as it did. -/
def autoSingleUptoRow : OpenClaim := { program := "ytkpadjhdneiniaagreatdoor", sum := "691d09d8504cf7cb3305b619e259fadc3c6737e6f46159f6ad20e27498ba435a", func := "winnower/winnowerlaw23.AutoSingle", spec := "autoSingle", inPlace := ["slices.overlaps[int]", "internal/abi.NoEscape", "internal/bytealg.MakeNoZero"], recurses := true, named := ["internal/strconv.uint64pow10", "math/bits.deBruijn32tab", "math/bits.deBruijn64tab"], plainKeys := false, apart := false, laid := [("math/bits.deBruijn32tab", laid_math_bits_deBruijn32tab), ("math/bits.deBruijn64tab", laid_math_bits_deBruijn64tab), ("internal/strconv.uint64pow10", laid_internal_strconv_uint64pow10)], narrowed := true }
def AutoSingleUptoSaid : Prop := autoSingleUptoRow.holds Tryz.pinned (OpenSpec.upto autoSingleSpec)

/-- 'winnowerlaw24.EqualApart', WHERE WHAT IT READS IS OF BULK AT MOST 1048576: true; the input reads as it did. -/
def equalApartUptoRow : OpenClaim := { program := "ytkpadjhdneiniaagreatdoor", sum := "691d09d8504cf7cb3305b619e259fadc3c6737e6f46159f6ad20e27498ba435a", func := "winnower/winnowerlaw24.EqualApart", spec := "equalApart", inPlace := ["slices.overlaps[int]", "internal/abi.NoEscape", "internal/bytealg.MakeNoZero"], recurses := true, named := ["internal/strconv.uint64pow10", "math/bits.deBruijn32tab", "math/bits.deBruijn64tab"], plainKeys := false, apart := false, laid := [("math/bits.deBruijn32tab", laid_math_bits_deBruijn32tab), ("math/bits.deBruijn64tab", laid_math_bits_deBruijn64tab), ("internal/strconv.uint64pow10", laid_internal_strconv_uint64pow10)], narrowed := true }
def EqualApartUptoSaid : Prop := equalApartUptoRow.holds Tryz.pinned (OpenSpec.upto equalApartSpec)

/-- 'winnowerlaw24.EqualSteps', WHERE WHAT IT READS IS OF BULK AT MOST 1048576: true; the input reads as it did. -/
def equalStepsUptoRow : OpenClaim := { program := "ytkpadjhdneiniaagreatdoor", sum := "691d09d8504cf7cb3305b619e259fadc3c6737e6f46159f6ad20e27498ba435a", func := "winnower/winnowerlaw24.EqualSteps", spec := "equalSteps", inPlace := ["slices.overlaps[int]", "internal/abi.NoEscape", "internal/bytealg.MakeNoZero"], recurses := true, named := ["internal/strconv.uint64pow10", "math/bits.deBruijn32tab", "math/bits.deBruijn64tab"], plainKeys := false, apart := false, laid := [("math/bits.deBruijn32tab", laid_math_bits_deBruijn32tab), ("math/bits.deBruijn64tab", laid_math_bits_deBruijn64tab), ("internal/strconv.uint64pow10", laid_internal_strconv_uint64pow10)], narrowed := true }
def EqualStepsUptoSaid : Prop := equalStepsUptoRow.holds Tryz.pinned (OpenSpec.upto equalStepsSpec)

/-- 'winnowerlaw24.EqualWords', WHERE WHAT IT READS IS OF BULK AT MOST 1048576: true; the input reads as it did. -/
def equalWordsUptoRow : OpenClaim := { program := "ytkpadjhdneiniaagreatdoor", sum := "691d09d8504cf7cb3305b619e259fadc3c6737e6f46159f6ad20e27498ba435a", func := "winnower/winnowerlaw24.EqualWords", spec := "equalWords", inPlace := ["slices.overlaps[int]", "internal/abi.NoEscape", "internal/bytealg.MakeNoZero"], recurses := true, named := ["internal/strconv.uint64pow10", "math/bits.deBruijn32tab", "math/bits.deBruijn64tab"], plainKeys := false, apart := false, laid := [("math/bits.deBruijn32tab", laid_math_bits_deBruijn32tab), ("math/bits.deBruijn64tab", laid_math_bits_deBruijn64tab), ("internal/strconv.uint64pow10", laid_internal_strconv_uint64pow10)], narrowed := true }
def EqualWordsUptoSaid : Prop := equalWordsUptoRow.holds Tryz.pinned (OpenSpec.upto equalWordsSpec)

/-- 'winnowerlaw24.EqualClasses', WHERE WHAT IT READS IS OF BULK AT MOST 1048576: true; the input reads as it did. -/
def equalClassesUptoRow : OpenClaim := { program := "ytkpadjhdneiniaagreatdoor", sum := "691d09d8504cf7cb3305b619e259fadc3c6737e6f46159f6ad20e27498ba435a", func := "winnower/winnowerlaw24.EqualClasses", spec := "equalClasses", inPlace := ["slices.overlaps[int]", "internal/abi.NoEscape", "internal/bytealg.MakeNoZero"], unfollowed := true, recurses := true, named := ["internal/strconv.uint64pow10", "math/bits.deBruijn32tab", "math/bits.deBruijn64tab"], plainKeys := false, apart := false, laid := [("math/bits.deBruijn32tab", laid_math_bits_deBruijn32tab), ("math/bits.deBruijn64tab", laid_math_bits_deBruijn64tab), ("internal/strconv.uint64pow10", laid_internal_strconv_uint64pow10)], narrowed := true }
def EqualClassesUptoSaid : Prop := equalClassesUptoRow.holds Tryz.pinned (OpenSpec.upto equalClassesSpec)

/-- 'winnowerlaw24.EqualNil', WHERE WHAT IT READS IS OF BULK AT MOST 1048576: true; the input reads as it did. -/
def equalNilUptoRow : OpenClaim := { program := "ytkpadjhdneiniaagreatdoor", sum := "691d09d8504cf7cb3305b619e259fadc3c6737e6f46159f6ad20e27498ba435a", func := "winnower/winnowerlaw24.EqualNil", spec := "equalNil", inPlace := ["slices.overlaps[int]", "internal/abi.NoEscape", "internal/bytealg.MakeNoZero"], unfollowed := true, recurses := true, named := ["internal/strconv.uint64pow10", "math/bits.deBruijn32tab", "math/bits.deBruijn64tab"], plainKeys := false, apart := false, laid := [("math/bits.deBruijn32tab", laid_math_bits_deBruijn32tab), ("math/bits.deBruijn64tab", laid_math_bits_deBruijn64tab), ("internal/strconv.uint64pow10", laid_internal_strconv_uint64pow10)], narrowed := true }
def EqualNilUptoSaid : Prop := equalNilUptoRow.holds Tryz.pinned (OpenSpec.upto equalNilSpec)

/-- 'winnowerlaw25.MergeMore', WHERE WHAT IT READS IS OF BULK AT MOST 1048576: true; the input reads as it did. -/
def mergeMoreUptoRow : OpenClaim := { program := "ytkpadjhdneiniaagreatdoor", sum := "691d09d8504cf7cb3305b619e259fadc3c6737e6f46159f6ad20e27498ba435a", func := "winnower/winnowerlaw25.MergeMore", spec := "mergeMore", inPlace := ["slices.overlaps[int]", "internal/abi.NoEscape", "internal/bytealg.MakeNoZero"], recurses := true, named := ["internal/strconv.uint64pow10", "math/bits.deBruijn32tab", "math/bits.deBruijn64tab"], plainKeys := false, apart := false, laid := [("math/bits.deBruijn32tab", laid_math_bits_deBruijn32tab), ("math/bits.deBruijn64tab", laid_math_bits_deBruijn64tab), ("internal/strconv.uint64pow10", laid_internal_strconv_uint64pow10)], narrowed := true }
def MergeMoreUptoSaid : Prop := mergeMoreUptoRow.holds Tryz.pinned (OpenSpec.upto mergeMoreSpec)

/-- 'winnowerlaw25.MergeWords', WHERE WHAT IT READS IS OF BULK AT MOST 1048576: true; the input reads as it did. -/
def mergeWordsUptoRow : OpenClaim := { program := "ytkpadjhdneiniaagreatdoor", sum := "691d09d8504cf7cb3305b619e259fadc3c6737e6f46159f6ad20e27498ba435a", func := "winnower/winnowerlaw25.MergeWords", spec := "mergeWords", inPlace := ["slices.overlaps[int]", "internal/abi.NoEscape", "internal/bytealg.MakeNoZero"], recurses := true, named := ["internal/strconv.uint64pow10", "math/bits.deBruijn32tab", "math/bits.deBruijn64tab"], plainKeys := false, apart := false, laid := [("math/bits.deBruijn32tab", laid_math_bits_deBruijn32tab), ("math/bits.deBruijn64tab", laid_math_bits_deBruijn64tab), ("internal/strconv.uint64pow10", laid_internal_strconv_uint64pow10)], narrowed := true }
def MergeWordsUptoSaid : Prop := mergeWordsUptoRow.holds Tryz.pinned (OpenSpec.upto mergeWordsSpec)

/-- 'winnowerlaw25.MergeNone', WHERE WHAT IT READS IS OF BULK AT MOST 1048576: true; the input reads as it did. -/
def mergeNoneUptoRow : OpenClaim := { program := "ytkpadjhdneiniaagreatdoor", sum := "691d09d8504cf7cb3305b619e259fadc3c6737e6f46159f6ad20e27498ba435a", func := "winnower/winnowerlaw25.MergeNone", spec := "mergeNone", inPlace := ["slices.overlaps[int]", "internal/abi.NoEscape", "internal/bytealg.MakeNoZero"], recurses := true, named := ["internal/strconv.uint64pow10", "math/bits.deBruijn32tab", "math/bits.deBruijn64tab"], plainKeys := false, apart := false, laid := [("math/bits.deBruijn32tab", laid_math_bits_deBruijn32tab), ("math/bits.deBruijn64tab", laid_math_bits_deBruijn64tab), ("internal/strconv.uint64pow10", laid_internal_strconv_uint64pow10)], narrowed := true }
def MergeNoneUptoSaid : Prop := mergeNoneUptoRow.holds Tryz.pinned (OpenSpec.upto mergeNoneSpec)

/-- 'winnowerlaw25.MergeMaps', WHERE WHAT IT READS IS OF BULK AT MOST 1048576: true; the input reads as it did. -/
def mergeMapsUptoRow : OpenClaim := { program := "ytkpadjhdneiniaagreatdoor", sum := "691d09d8504cf7cb3305b619e259fadc3c6737e6f46159f6ad20e27498ba435a", func := "winnower/winnowerlaw25.MergeMaps", spec := "mergeMaps", inPlace := ["slices.overlaps[int]", "internal/abi.NoEscape", "internal/bytealg.MakeNoZero"], recurses := true, named := ["internal/strconv.uint64pow10", "math/bits.deBruijn32tab", "math/bits.deBruijn64tab"], plainKeys := false, apart := false, laid := [("math/bits.deBruijn32tab", laid_math_bits_deBruijn32tab), ("math/bits.deBruijn64tab", laid_math_bits_deBruijn64tab), ("internal/strconv.uint64pow10", laid_internal_strconv_uint64pow10)], narrowed := true }
def MergeMapsUptoSaid : Prop := mergeMapsUptoRow.holds Tryz.pinned (OpenSpec.upto mergeMapsSpec)

/-- 'winnowerlaw25.MergeRight', WHERE WHAT IT READS IS OF BULK AT MOST 1048576: true; the input reads as it did. -/
def mergeRightUptoRow : OpenClaim := { program := "ytkpadjhdneiniaagreatdoor", sum := "691d09d8504cf7cb3305b619e259fadc3c6737e6f46159f6ad20e27498ba435a", func := "winnower/winnowerlaw25.MergeRight", spec := "mergeRight", inPlace := ["slices.overlaps[int]", "internal/abi.NoEscape", "internal/bytealg.MakeNoZero"], recurses := true, named := ["internal/strconv.uint64pow10", "math/bits.deBruijn32tab", "math/bits.deBruijn64tab"], plainKeys := false, apart := false, laid := [("math/bits.deBruijn32tab", laid_math_bits_deBruijn32tab), ("math/bits.deBruijn64tab", laid_math_bits_deBruijn64tab), ("internal/strconv.uint64pow10", laid_internal_strconv_uint64pow10)], narrowed := true }
def MergeRightUptoSaid : Prop := mergeRightUptoRow.holds Tryz.pinned (OpenSpec.upto mergeRightSpec)

/-- 'winnowerlaw26.StableMerged', WHERE WHAT IT READS IS OF BULK AT MOST 1048576: true; the input reads as it did. -/
def stableMergedUptoRow : OpenClaim := { program := "ytkpadjhdneiniaagreatdoor", sum := "691d09d8504cf7cb3305b619e259fadc3c6737e6f46159f6ad20e27498ba435a", func := "winnower/winnowerlaw26.StableMerged", spec := "stableMerged", inPlace := ["slices.overlaps[int]", "internal/abi.NoEscape", "internal/bytealg.MakeNoZero"], recurses := true, named := ["math/bits.deBruijn64tab", "internal/strconv.uint64pow10", "math/bits.deBruijn32tab"], plainKeys := false, apart := false, laid := [("math/bits.deBruijn32tab", laid_math_bits_deBruijn32tab), ("math/bits.deBruijn64tab", laid_math_bits_deBruijn64tab), ("internal/strconv.uint64pow10", laid_internal_strconv_uint64pow10)], narrowed := true }
def StableMergedUptoSaid : Prop := stableMergedUptoRow.holds Tryz.pinned (OpenSpec.upto stableMergedSpec)

end Rows
end Go.Proofs.YtkpadjhdneiniaaGreatDoor
