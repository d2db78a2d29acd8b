/-
  NARROWER THAN 'FOR EVERY INPUT', by the rows' own cells (each row's printed sentence says how): RangesMakes: laid · RangesIntegrals: laid · RangesContains: laid · RangesAbove: laid · RangesValues: laid · RangesCombines: laid · RangesAdds: laid · RangesLaws: laid · RangesFunctions: laid · RangesChecks: laid · RangesKnots: laid · TopFoldsKeepLayers: laid.
  DERIVED. THE GIVEN ROWS OF THIS SEAT. 12 by the template 'for every input the law returns true; each argument reads behind the call as it read before'; 0 by the template 'total and deterministic' (their statements: YtbogpbjddaoeiaaGreatDoorTotals.lean).
  GIVEN WITH THE SEED: the statements are not yours to turn. If you find one false, say at which input.
  Laid BY PROGRAM, IN A SANDBOX (cutbox-rows.mjs): the forced cells as the released guide's own fill.sh prints them over the translation 8f1d5d5a2ef0a3c5… (all of the seat's roots in one cut). By AI agents, Wed Nov 11 2026. No macro, syntax, notation, axiom, sorry.
-/
import Derived.Test.YtbogpbjddaoeiaaGreatDoorChecked
import GoSem.Claim
import GoSem.ClaimJoined
import GoSem.ClaimMapViews
import Derived.JoinedTies
import Derived.KernelRfl
namespace Go.Proofs.YtbogpbjddaoeiaaGreatDoor
/- THE CELL 'sum', in the pinned program and in every row, IS THE sha256 OF THE DUMP (.gsa) THAT YtbogpbjddaoeiaaGreatDoorProg.lean LOADS. Nothing in Lean hashes anything: it is a label: what it is worth is what the hold of that sum in a sandbox is worth. -/
noncomputable def Tryz.pinned : Pinned := { name := "ytbogpbjddaoeiaagreatdoor", sum := "8f1d5d5a2ef0a3c5d0bdde2796cee9859062a70ff7b7da3a466931a6c3309343", checked := Tryz.checked }
namespace Rows
def none {H : Type} : Left H := { results := [], args := [] }

/- WHAT THE LISTED PACKAGE-LEVEL VARIABLES READ AS WHEN THE CALL BEGINS. Each datum BY PROGRAM (the guide's laid-datum.mjs) off the statement by which the dump's own 'gosem.cut.vars' lays the variable. In a bare row this is a premise. The card (YtbogpbjddaoeiaaGreatDoorCards.lean) ties it to the program's text. -/
def laid_math_bits_deBruijn32tab {H : Type} : DataW H := .agg [.lit (.int .u8 0), .lit (.int .u8 1), .lit (.int .u8 28), .lit (.int .u8 2), .lit (.int .u8 29), .lit (.int .u8 14), .lit (.int .u8 24), .lit (.int .u8 3), .lit (.int .u8 30), .lit (.int .u8 22), .lit (.int .u8 20), .lit (.int .u8 15), .lit (.int .u8 25), .lit (.int .u8 17), .lit (.int .u8 4), .lit (.int .u8 8), .lit (.int .u8 31), .lit (.int .u8 27), .lit (.int .u8 13), .lit (.int .u8 23), .lit (.int .u8 21), .lit (.int .u8 19), .lit (.int .u8 16), .lit (.int .u8 7), .lit (.int .u8 26), .lit (.int .u8 12), .lit (.int .u8 18), .lit (.int .u8 6), .lit (.int .u8 11), .lit (.int .u8 5), .lit (.int .u8 10), .lit (.int .u8 9)]
def laid_math_bits_deBruijn64tab {H : Type} : DataW H := .agg [.lit (.int .u8 0), .lit (.int .u8 1), .lit (.int .u8 56), .lit (.int .u8 2), .lit (.int .u8 57), .lit (.int .u8 49), .lit (.int .u8 28), .lit (.int .u8 3), .lit (.int .u8 61), .lit (.int .u8 58), .lit (.int .u8 42), .lit (.int .u8 50), .lit (.int .u8 38), .lit (.int .u8 29), .lit (.int .u8 17), .lit (.int .u8 4), .lit (.int .u8 62), .lit (.int .u8 47), .lit (.int .u8 59), .lit (.int .u8 36), .lit (.int .u8 45), .lit (.int .u8 43), .lit (.int .u8 51), .lit (.int .u8 22), .lit (.int .u8 53), .lit (.int .u8 39), .lit (.int .u8 33), .lit (.int .u8 30), .lit (.int .u8 24), .lit (.int .u8 18), .lit (.int .u8 12), .lit (.int .u8 5), .lit (.int .u8 63), .lit (.int .u8 55), .lit (.int .u8 48), .lit (.int .u8 27), .lit (.int .u8 60), .lit (.int .u8 41), .lit (.int .u8 37), .lit (.int .u8 16), .lit (.int .u8 46), .lit (.int .u8 35), .lit (.int .u8 44), .lit (.int .u8 21), .lit (.int .u8 52), .lit (.int .u8 32), .lit (.int .u8 23), .lit (.int .u8 11), .lit (.int .u8 54), .lit (.int .u8 26), .lit (.int .u8 40), .lit (.int .u8 15), .lit (.int .u8 34), .lit (.int .u8 20), .lit (.int .u8 31), .lit (.int .u8 10), .lit (.int .u8 25), .lit (.int .u8 14), .lit (.int .u8 19), .lit (.int .u8 9), .lit (.int .u8 13), .lit (.int .u8 8), .lit (.int .u8 7), .lit (.int .u8 6)]
def laid_internal_strconv_uint64pow10 {H : Type} : DataW H := .agg [.lit (.int .u64 1), .lit (.int .u64 10), .lit (.int .u64 100), .lit (.int .u64 1000), .lit (.int .u64 10000), .lit (.int .u64 100000), .lit (.int .u64 1000000), .lit (.int .u64 10000000), .lit (.int .u64 100000000), .lit (.int .u64 1000000000), .lit (.int .u64 10000000000), .lit (.int .u64 100000000000), .lit (.int .u64 1000000000000), .lit (.int .u64 10000000000000), .lit (.int .u64 100000000000000), .lit (.int .u64 1000000000000000), .lit (.int .u64 10000000000000000), .lit (.int .u64 100000000000000000), .lit (.int .u64 1000000000000000000), .lit (.int .u64 10000000000000000000)]
def laid_strconv_ErrRange {H : Type} : DataW H := .iface "*errors.errorString" (.ptr (.agg [.lit (.string [118, 97, 108, 117, 101, 32, 111, 117, 116, 32, 111, 102, 32, 114, 97, 110, 103, 101])]))
def laid_strconv_ErrSyntax {H : Type} : DataW H := .iface "*errors.errorString" (.ptr (.agg [.lit (.string [105, 110, 118, 97, 108, 105, 100, 32, 115, 121, 110, 116, 97, 120])]))

/-- 'klippelaw04.RangesMakes': WHATEVER THE INPUT: true; the input reads as it did. -/
def rangesMakesSpec : ChangeSpec := { name := "rangesMakes", fn := fun _ => fun
  | [d1, d2] => { results := [.lit (.bool true)], args := [d1, d2] }
  | _ => none }
def rangesMakesRow : OpenClaim := { program := "ytbogpbjddaoeiaagreatdoor", sum := "8f1d5d5a2ef0a3c5d0bdde2796cee9859062a70ff7b7da3a466931a6c3309343", func := "klippe/klippelaw04.RangesMakes", spec := "rangesMakes", inPlace := ["internal/bytealg.IndexByteString", "internal/bytealg.IndexString", "internal/bytealg.abigen_runtime_cmpstring", "internal/abi.NoEscape"], unfollowed := true, recurses := true, named := ["internal/bytealg.MaxLen", "strconv.ErrSyntax", "strconv.ErrRange", "internal/strconv.uint64pow10", "math/bits.deBruijn32tab", "math/bits.deBruijn64tab"], apart := false, laid := [("math/bits.deBruijn32tab", laid_math_bits_deBruijn32tab), ("math/bits.deBruijn64tab", laid_math_bits_deBruijn64tab), ("internal/strconv.uint64pow10", laid_internal_strconv_uint64pow10), ("strconv.ErrRange", laid_strconv_ErrRange), ("strconv.ErrSyntax", laid_strconv_ErrSyntax)] }
def RangesMakesSaid : Prop := rangesMakesRow.holds Tryz.pinned (OpenSpec.ofChange rangesMakesSpec)

/-- ITS FALSE NEIGHBOUR: 'it returns false'. Refute it at one input. -/
def rangesMakesWrong : ChangeSpec := { name := "rangesMakes", fn := fun _ => fun
  | [d1, d2] => { results := [.lit (.bool false)], args := [d1, d2] }
  | _ => none }
def RangesMakesWrongFalsely : Prop := rangesMakesRow.holds Tryz.pinned (OpenSpec.ofChange rangesMakesWrong)

/-- 'klippelaw04.RangesIntegrals': WHATEVER THE INPUT: true; the input reads as it did. -/
def rangesIntegralsSpec : ChangeSpec := { name := "rangesIntegrals", fn := fun _ => fun
  | [d1, d2, d3] => { results := [.lit (.bool true)], args := [d1, d2, d3] }
  | _ => none }
def rangesIntegralsRow : OpenClaim := { program := "ytbogpbjddaoeiaagreatdoor", sum := "8f1d5d5a2ef0a3c5d0bdde2796cee9859062a70ff7b7da3a466931a6c3309343", func := "klippe/klippelaw04.RangesIntegrals", spec := "rangesIntegrals", inPlace := ["internal/bytealg.IndexByteString", "internal/bytealg.IndexString", "internal/bytealg.abigen_runtime_cmpstring", "internal/abi.NoEscape"], unfollowed := true, recurses := true, named := ["internal/bytealg.MaxLen", "strconv.ErrSyntax", "strconv.ErrRange", "internal/strconv.uint64pow10", "math/bits.deBruijn32tab", "math/bits.deBruijn64tab"], apart := false, laid := [("math/bits.deBruijn32tab", laid_math_bits_deBruijn32tab), ("math/bits.deBruijn64tab", laid_math_bits_deBruijn64tab), ("internal/strconv.uint64pow10", laid_internal_strconv_uint64pow10), ("strconv.ErrRange", laid_strconv_ErrRange), ("strconv.ErrSyntax", laid_strconv_ErrSyntax)] }
def RangesIntegralsSaid : Prop := rangesIntegralsRow.holds Tryz.pinned (OpenSpec.ofChange rangesIntegralsSpec)

/-- ITS FALSE NEIGHBOUR: 'it returns false'. Refute it at one input. -/
def rangesIntegralsWrong : ChangeSpec := { name := "rangesIntegrals", fn := fun _ => fun
  | [d1, d2, d3] => { results := [.lit (.bool false)], args := [d1, d2, d3] }
  | _ => none }
def RangesIntegralsWrongFalsely : Prop := rangesIntegralsRow.holds Tryz.pinned (OpenSpec.ofChange rangesIntegralsWrong)

/-- 'klippelaw04.RangesContains': WHATEVER THE INPUT: true; the input reads as it did. -/
def rangesContainsSpec : ChangeSpec := { name := "rangesContains", fn := fun _ => fun
  | [d1, d2] => { results := [.lit (.bool true)], args := [d1, d2] }
  | _ => none }
def rangesContainsRow : OpenClaim := { program := "ytbogpbjddaoeiaagreatdoor", sum := "8f1d5d5a2ef0a3c5d0bdde2796cee9859062a70ff7b7da3a466931a6c3309343", func := "klippe/klippelaw04.RangesContains", spec := "rangesContains", inPlace := ["internal/bytealg.IndexByteString", "internal/bytealg.IndexString", "internal/bytealg.abigen_runtime_cmpstring", "internal/abi.NoEscape"], unfollowed := true, recurses := true, named := ["internal/bytealg.MaxLen", "strconv.ErrSyntax", "strconv.ErrRange", "internal/strconv.uint64pow10", "math/bits.deBruijn32tab", "math/bits.deBruijn64tab"], apart := false, laid := [("math/bits.deBruijn32tab", laid_math_bits_deBruijn32tab), ("math/bits.deBruijn64tab", laid_math_bits_deBruijn64tab), ("internal/strconv.uint64pow10", laid_internal_strconv_uint64pow10), ("strconv.ErrRange", laid_strconv_ErrRange), ("strconv.ErrSyntax", laid_strconv_ErrSyntax)] }
def RangesContainsSaid : Prop := rangesContainsRow.holds Tryz.pinned (OpenSpec.ofChange rangesContainsSpec)

/-- ITS FALSE NEIGHBOUR: 'it returns false'. Refute it at one input. -/
def rangesContainsWrong : ChangeSpec := { name := "rangesContains", fn := fun _ => fun
  | [d1, d2] => { results := [.lit (.bool false)], args := [d1, d2] }
  | _ => none }
def RangesContainsWrongFalsely : Prop := rangesContainsRow.holds Tryz.pinned (OpenSpec.ofChange rangesContainsWrong)

/-- 'klippelaw04.RangesAbove': WHATEVER THE INPUT: true; the input reads as it did. -/
def rangesAboveSpec : ChangeSpec := { name := "rangesAbove", fn := fun _ => fun
  | [d1, d2, d3] => { results := [.lit (.bool true)], args := [d1, d2, d3] }
  | _ => none }
def rangesAboveRow : OpenClaim := { program := "ytbogpbjddaoeiaagreatdoor", sum := "8f1d5d5a2ef0a3c5d0bdde2796cee9859062a70ff7b7da3a466931a6c3309343", func := "klippe/klippelaw04.RangesAbove", spec := "rangesAbove", inPlace := ["internal/bytealg.IndexByteString", "internal/bytealg.IndexString", "internal/bytealg.abigen_runtime_cmpstring", "internal/abi.NoEscape"], unfollowed := true, recurses := true, named := ["internal/bytealg.MaxLen", "strconv.ErrSyntax", "strconv.ErrRange", "internal/strconv.uint64pow10", "math/bits.deBruijn32tab", "math/bits.deBruijn64tab"], apart := false, laid := [("math/bits.deBruijn32tab", laid_math_bits_deBruijn32tab), ("math/bits.deBruijn64tab", laid_math_bits_deBruijn64tab), ("internal/strconv.uint64pow10", laid_internal_strconv_uint64pow10), ("strconv.ErrRange", laid_strconv_ErrRange), ("strconv.ErrSyntax", laid_strconv_ErrSyntax)] }
def RangesAboveSaid : Prop := rangesAboveRow.holds Tryz.pinned (OpenSpec.ofChange rangesAboveSpec)

/-- ITS FALSE NEIGHBOUR: 'it returns false'. Refute it at one input. -/
def rangesAboveWrong : ChangeSpec := { name := "rangesAbove", fn := fun _ => fun
  | [d1, d2, d3] => { results := [.lit (.bool false)], args := [d1, d2, d3] }
  | _ => none }
def RangesAboveWrongFalsely : Prop := rangesAboveRow.holds Tryz.pinned (OpenSpec.ofChange rangesAboveWrong)

/-- 'klippelaw04.RangesValues': WHATEVER THE INPUT: true; the input reads as it did. -/
def rangesValuesSpec : ChangeSpec := { name := "rangesValues", fn := fun _ => fun
  | [d1, d2, d3] => { results := [.lit (.bool true)], args := [d1, d2, d3] }
  | _ => none }
def rangesValuesRow : OpenClaim := { program := "ytbogpbjddaoeiaagreatdoor", sum := "8f1d5d5a2ef0a3c5d0bdde2796cee9859062a70ff7b7da3a466931a6c3309343", func := "klippe/klippelaw04.RangesValues", spec := "rangesValues", inPlace := ["internal/bytealg.IndexByteString", "internal/bytealg.IndexString", "internal/bytealg.abigen_runtime_cmpstring", "internal/abi.NoEscape"], unfollowed := true, recurses := true, named := ["internal/bytealg.MaxLen", "strconv.ErrSyntax", "strconv.ErrRange", "internal/strconv.uint64pow10", "math/bits.deBruijn32tab", "math/bits.deBruijn64tab"], apart := false, laid := [("math/bits.deBruijn32tab", laid_math_bits_deBruijn32tab), ("math/bits.deBruijn64tab", laid_math_bits_deBruijn64tab), ("internal/strconv.uint64pow10", laid_internal_strconv_uint64pow10), ("strconv.ErrRange", laid_strconv_ErrRange), ("strconv.ErrSyntax", laid_strconv_ErrSyntax)] }
def RangesValuesSaid : Prop := rangesValuesRow.holds Tryz.pinned (OpenSpec.ofChange rangesValuesSpec)

/-- ITS FALSE NEIGHBOUR: 'it returns false'. Refute it at one input. -/
def rangesValuesWrong : ChangeSpec := { name := "rangesValues", fn := fun _ => fun
  | [d1, d2, d3] => { results := [.lit (.bool false)], args := [d1, d2, d3] }
  | _ => none }
def RangesValuesWrongFalsely : Prop := rangesValuesRow.holds Tryz.pinned (OpenSpec.ofChange rangesValuesWrong)

/-- 'klippelaw04.RangesCombines': WHATEVER THE INPUT: true; the input reads as it did. -/
def rangesCombinesSpec : ChangeSpec := { name := "rangesCombines", fn := fun _ => fun
  | [d1, d2] => { results := [.lit (.bool true)], args := [d1, d2] }
  | _ => none }
def rangesCombinesRow : OpenClaim := { program := "ytbogpbjddaoeiaagreatdoor", sum := "8f1d5d5a2ef0a3c5d0bdde2796cee9859062a70ff7b7da3a466931a6c3309343", func := "klippe/klippelaw04.RangesCombines", spec := "rangesCombines", inPlace := ["internal/bytealg.IndexByteString", "internal/bytealg.IndexString", "internal/bytealg.abigen_runtime_cmpstring", "internal/abi.NoEscape"], unfollowed := true, recurses := true, named := ["internal/bytealg.MaxLen", "strconv.ErrSyntax", "strconv.ErrRange", "internal/strconv.uint64pow10", "math/bits.deBruijn32tab", "math/bits.deBruijn64tab"], apart := false, laid := [("math/bits.deBruijn32tab", laid_math_bits_deBruijn32tab), ("math/bits.deBruijn64tab", laid_math_bits_deBruijn64tab), ("internal/strconv.uint64pow10", laid_internal_strconv_uint64pow10), ("strconv.ErrRange", laid_strconv_ErrRange), ("strconv.ErrSyntax", laid_strconv_ErrSyntax)] }
def RangesCombinesSaid : Prop := rangesCombinesRow.holds Tryz.pinned (OpenSpec.ofChange rangesCombinesSpec)

/-- ITS FALSE NEIGHBOUR: 'it returns false'. Refute it at one input. -/
def rangesCombinesWrong : ChangeSpec := { name := "rangesCombines", fn := fun _ => fun
  | [d1, d2] => { results := [.lit (.bool false)], args := [d1, d2] }
  | _ => none }
def RangesCombinesWrongFalsely : Prop := rangesCombinesRow.holds Tryz.pinned (OpenSpec.ofChange rangesCombinesWrong)

/-- 'klippelaw04.RangesAdds': WHATEVER THE INPUT: true; the input reads as it did. -/
def rangesAddsSpec : ChangeSpec := { name := "rangesAdds", fn := fun _ => fun
  | [d1, d2] => { results := [.lit (.bool true)], args := [d1, d2] }
  | _ => none }
def rangesAddsRow : OpenClaim := { program := "ytbogpbjddaoeiaagreatdoor", sum := "8f1d5d5a2ef0a3c5d0bdde2796cee9859062a70ff7b7da3a466931a6c3309343", func := "klippe/klippelaw04.RangesAdds", spec := "rangesAdds", inPlace := ["internal/bytealg.IndexByteString", "internal/bytealg.IndexString", "internal/bytealg.abigen_runtime_cmpstring", "internal/abi.NoEscape"], unfollowed := true, recurses := true, named := ["internal/bytealg.MaxLen", "strconv.ErrSyntax", "strconv.ErrRange", "internal/strconv.uint64pow10", "math/bits.deBruijn32tab", "math/bits.deBruijn64tab"], apart := false, laid := [("math/bits.deBruijn32tab", laid_math_bits_deBruijn32tab), ("math/bits.deBruijn64tab", laid_math_bits_deBruijn64tab), ("internal/strconv.uint64pow10", laid_internal_strconv_uint64pow10), ("strconv.ErrRange", laid_strconv_ErrRange), ("strconv.ErrSyntax", laid_strconv_ErrSyntax)] }
def RangesAddsSaid : Prop := rangesAddsRow.holds Tryz.pinned (OpenSpec.ofChange rangesAddsSpec)

/-- ITS FALSE NEIGHBOUR: 'it returns false'. Refute it at one input. -/
def rangesAddsWrong : ChangeSpec := { name := "rangesAdds", fn := fun _ => fun
  | [d1, d2] => { results := [.lit (.bool false)], args := [d1, d2] }
  | _ => none }
def RangesAddsWrongFalsely : Prop := rangesAddsRow.holds Tryz.pinned (OpenSpec.ofChange rangesAddsWrong)

/-- 'klippelaw04.RangesLaws': WHATEVER THE INPUT: true; the input reads as it did. -/
def rangesLawsSpec : ChangeSpec := { name := "rangesLaws", fn := fun _ => fun
  | [d1, d2] => { results := [.lit (.bool true)], args := [d1, d2] }
  | _ => none }
def rangesLawsRow : OpenClaim := { program := "ytbogpbjddaoeiaagreatdoor", sum := "8f1d5d5a2ef0a3c5d0bdde2796cee9859062a70ff7b7da3a466931a6c3309343", func := "klippe/klippelaw04.RangesLaws", spec := "rangesLaws", inPlace := ["internal/bytealg.IndexByteString", "internal/bytealg.IndexString", "internal/bytealg.abigen_runtime_cmpstring", "internal/abi.NoEscape"], unfollowed := true, recurses := true, named := ["internal/bytealg.MaxLen", "strconv.ErrSyntax", "strconv.ErrRange", "internal/strconv.uint64pow10", "math/bits.deBruijn32tab", "math/bits.deBruijn64tab"], apart := false, laid := [("math/bits.deBruijn32tab", laid_math_bits_deBruijn32tab), ("math/bits.deBruijn64tab", laid_math_bits_deBruijn64tab), ("internal/strconv.uint64pow10", laid_internal_strconv_uint64pow10), ("strconv.ErrRange", laid_strconv_ErrRange), ("strconv.ErrSyntax", laid_strconv_ErrSyntax)] }
def RangesLawsSaid : Prop := rangesLawsRow.holds Tryz.pinned (OpenSpec.ofChange rangesLawsSpec)

/-- ITS FALSE NEIGHBOUR: 'it returns false'. Refute it at one input. -/
def rangesLawsWrong : ChangeSpec := { name := "rangesLaws", fn := fun _ => fun
  | [d1, d2] => { results := [.lit (.bool false)], args := [d1, d2] }
  | _ => none }
def RangesLawsWrongFalsely : Prop := rangesLawsRow.holds Tryz.pinned (OpenSpec.ofChange rangesLawsWrong)

/-- 'klippelaw04.RangesFunctions': WHATEVER THE INPUT: true; the input reads as it did. -/
def rangesFunctionsSpec : ChangeSpec := { name := "rangesFunctions", fn := fun _ => fun
  | [d1, d2, d3] => { results := [.lit (.bool true)], args := [d1, d2, d3] }
  | _ => none }
def rangesFunctionsRow : OpenClaim := { program := "ytbogpbjddaoeiaagreatdoor", sum := "8f1d5d5a2ef0a3c5d0bdde2796cee9859062a70ff7b7da3a466931a6c3309343", func := "klippe/klippelaw04.RangesFunctions", spec := "rangesFunctions", inPlace := ["internal/bytealg.IndexByteString", "internal/bytealg.IndexString", "internal/bytealg.abigen_runtime_cmpstring", "internal/abi.NoEscape"], unfollowed := true, recurses := true, named := ["internal/bytealg.MaxLen", "strconv.ErrSyntax", "strconv.ErrRange", "internal/strconv.uint64pow10", "math/bits.deBruijn32tab", "math/bits.deBruijn64tab"], apart := false, laid := [("math/bits.deBruijn32tab", laid_math_bits_deBruijn32tab), ("math/bits.deBruijn64tab", laid_math_bits_deBruijn64tab), ("internal/strconv.uint64pow10", laid_internal_strconv_uint64pow10), ("strconv.ErrRange", laid_strconv_ErrRange), ("strconv.ErrSyntax", laid_strconv_ErrSyntax)] }
def RangesFunctionsSaid : Prop := rangesFunctionsRow.holds Tryz.pinned (OpenSpec.ofChange rangesFunctionsSpec)

/-- ITS FALSE NEIGHBOUR: 'it returns false'. Refute it at one input. -/
def rangesFunctionsWrong : ChangeSpec := { name := "rangesFunctions", fn := fun _ => fun
  | [d1, d2, d3] => { results := [.lit (.bool false)], args := [d1, d2, d3] }
  | _ => none }
def RangesFunctionsWrongFalsely : Prop := rangesFunctionsRow.holds Tryz.pinned (OpenSpec.ofChange rangesFunctionsWrong)

/-- 'klippelaw04.RangesChecks': WHATEVER THE INPUT: true; the input reads as it did. -/
def rangesChecksSpec : ChangeSpec := { name := "rangesChecks", fn := fun _ => fun
  | [d1, d2] => { results := [.lit (.bool true)], args := [d1, d2] }
  | _ => none }
def rangesChecksRow : OpenClaim := { program := "ytbogpbjddaoeiaagreatdoor", sum := "8f1d5d5a2ef0a3c5d0bdde2796cee9859062a70ff7b7da3a466931a6c3309343", func := "klippe/klippelaw04.RangesChecks", spec := "rangesChecks", inPlace := ["internal/bytealg.IndexByteString", "internal/bytealg.IndexString", "internal/bytealg.abigen_runtime_cmpstring", "internal/abi.NoEscape"], unfollowed := true, recurses := true, named := ["internal/bytealg.MaxLen", "strconv.ErrSyntax", "strconv.ErrRange", "internal/strconv.uint64pow10", "math/bits.deBruijn32tab", "math/bits.deBruijn64tab"], apart := false, laid := [("math/bits.deBruijn32tab", laid_math_bits_deBruijn32tab), ("math/bits.deBruijn64tab", laid_math_bits_deBruijn64tab), ("internal/strconv.uint64pow10", laid_internal_strconv_uint64pow10), ("strconv.ErrRange", laid_strconv_ErrRange), ("strconv.ErrSyntax", laid_strconv_ErrSyntax)] }
def RangesChecksSaid : Prop := rangesChecksRow.holds Tryz.pinned (OpenSpec.ofChange rangesChecksSpec)

/-- ITS FALSE NEIGHBOUR: 'it returns false'. Refute it at one input. -/
def rangesChecksWrong : ChangeSpec := { name := "rangesChecks", fn := fun _ => fun
  | [d1, d2] => { results := [.lit (.bool false)], args := [d1, d2] }
  | _ => none }
def RangesChecksWrongFalsely : Prop := rangesChecksRow.holds Tryz.pinned (OpenSpec.ofChange rangesChecksWrong)

/-- 'klippelaw04.RangesKnots': WHATEVER THE INPUT: true; the input reads as it did. -/
def rangesKnotsSpec : ChangeSpec := { name := "rangesKnots", fn := fun _ => fun
  | [d] => { results := [.lit (.bool true)], args := [d] }
  | _ => none }
def rangesKnotsRow : OpenClaim := { program := "ytbogpbjddaoeiaagreatdoor", sum := "8f1d5d5a2ef0a3c5d0bdde2796cee9859062a70ff7b7da3a466931a6c3309343", func := "klippe/klippelaw04.RangesKnots", spec := "rangesKnots", inPlace := ["internal/bytealg.IndexByteString", "internal/bytealg.IndexString", "internal/bytealg.abigen_runtime_cmpstring", "internal/abi.NoEscape"], unfollowed := true, recurses := true, named := ["internal/bytealg.MaxLen", "strconv.ErrSyntax", "strconv.ErrRange", "internal/strconv.uint64pow10", "math/bits.deBruijn32tab", "math/bits.deBruijn64tab"], apart := false, laid := [("math/bits.deBruijn32tab", laid_math_bits_deBruijn32tab), ("math/bits.deBruijn64tab", laid_math_bits_deBruijn64tab), ("internal/strconv.uint64pow10", laid_internal_strconv_uint64pow10), ("strconv.ErrRange", laid_strconv_ErrRange), ("strconv.ErrSyntax", laid_strconv_ErrSyntax)] }
def RangesKnotsSaid : Prop := rangesKnotsRow.holds Tryz.pinned (OpenSpec.ofChange rangesKnotsSpec)

/-- ITS FALSE NEIGHBOUR: 'it returns false'. Refute it at one input. -/
def rangesKnotsWrong : ChangeSpec := { name := "rangesKnots", fn := fun _ => fun
  | [d] => { results := [.lit (.bool false)], args := [d] }
  | _ => none }
def RangesKnotsWrongFalsely : Prop := rangesKnotsRow.holds Tryz.pinned (OpenSpec.ofChange rangesKnotsWrong)

/-- 'klippetop.TopFoldsKeepLayers': WHATEVER THE INPUT: true; the input reads as it did. -/
def topFoldsKeepLayersSpec : ChangeSpec := { name := "topFoldsKeepLayers", fn := fun _ => fun
  | [d1, d2] => { results := [.lit (.bool true)], args := [d1, d2] }
  | _ => none }
def topFoldsKeepLayersRow : OpenClaim := { program := "ytbogpbjddaoeiaagreatdoor", sum := "8f1d5d5a2ef0a3c5d0bdde2796cee9859062a70ff7b7da3a466931a6c3309343", func := "klippe/klippetop.TopFoldsKeepLayers", spec := "topFoldsKeepLayers", inPlace := ["internal/bytealg.IndexByteString", "internal/bytealg.IndexString", "internal/bytealg.abigen_runtime_cmpstring", "internal/abi.NoEscape"], unfollowed := true, recurses := true, named := ["internal/strconv.uint64pow10", "math/bits.deBruijn32tab", "math/bits.deBruijn64tab", "internal/bytealg.MaxLen", "strconv.ErrSyntax", "strconv.ErrRange"], apart := false, laid := [("math/bits.deBruijn32tab", laid_math_bits_deBruijn32tab), ("math/bits.deBruijn64tab", laid_math_bits_deBruijn64tab), ("internal/strconv.uint64pow10", laid_internal_strconv_uint64pow10), ("strconv.ErrRange", laid_strconv_ErrRange), ("strconv.ErrSyntax", laid_strconv_ErrSyntax)] }
def TopFoldsKeepLayersSaid : Prop := topFoldsKeepLayersRow.holds Tryz.pinned (OpenSpec.ofChange topFoldsKeepLayersSpec)

/-- ITS FALSE NEIGHBOUR: 'it returns false'. Refute it at one input. -/
def topFoldsKeepLayersWrong : ChangeSpec := { name := "topFoldsKeepLayers", fn := fun _ => fun
  | [d1, d2] => { results := [.lit (.bool false)], args := [d1, d2] }
  | _ => none }
def TopFoldsKeepLayersWrongFalsely : Prop := topFoldsKeepLayersRow.holds Tryz.pinned (OpenSpec.ofChange topFoldsKeepLayersWrong)

/- THE SECOND FORM. 'bulk': how many values and letters a reading holds, each counted each time it is reached (what is shared counts as often as it is met; a slice's spare places count too). A statement '..UptoSaid' is the law's where the arguments, and the package variables that the reading takes, are together of bulk at most 1048576: NARROWER than '..Said'. Prove '..Said' where nothing that the law and all that it calls make is longer than what came in: it says more and counts as full. Else prove '..UptoSaid'. A law counts once. -/
mutual
def uptoBulk {H : Type} : DataW H → Nat
  | .lit (.string bytes) => bytes.length + 1
  | .lit _ => 1
  | .nil => 1
  | .ptr d => uptoBulk d + 1
  | .slice elems spare => uptoBulkAll elems + uptoBulkAll spare + 1
  | .agg parts => uptoBulkAll parts + 1
  | .iface _ d => uptoBulk d + 1
  | .map entries => uptoBulkEntries entries + 1
  | .held _ => 1
def uptoBulkAll {H : Type} : List (DataW H) → Nat
  | [] => 0
  | d :: r => uptoBulk d + uptoBulkAll r
def uptoBulkEntries {H : Type} : List (Lit × DataW H) → Nat
  | [] => 0
  | x :: r => uptoBulkEntry x + uptoBulkEntries r
def uptoBulkEntry {H : Type} : Lit × DataW H → Nat
  | (.string bytes, d) => bytes.length + uptoBulk d + 1
  | (_, d) => uptoBulk d + 1
 end
def uptoSmall : (H : Type) → List (DataW H) → Bool := fun _ ds => decide (uptoBulkAll ds ≤ 1048576)
def OpenSpec.upto (s : _root_.Go.ChangeSpec) : _root_.Go.OpenSpec := { _root_.Go.OpenSpec.ofChange s with cond := some uptoSmall }

/-- 'klippelaw04.RangesMakes', WHERE WHAT IT READS IS OF BULK AT MOST 1048576: true; the input reads as it did. -/
def rangesMakesUptoRow : OpenClaim := { program := "ytbogpbjddaoeiaagreatdoor", sum := "8f1d5d5a2ef0a3c5d0bdde2796cee9859062a70ff7b7da3a466931a6c3309343", func := "klippe/klippelaw04.RangesMakes", spec := "rangesMakes", inPlace := ["internal/bytealg.IndexByteString", "internal/bytealg.IndexString", "internal/bytealg.abigen_runtime_cmpstring", "internal/abi.NoEscape"], unfollowed := true, recurses := true, named := ["internal/bytealg.MaxLen", "strconv.ErrSyntax", "strconv.ErrRange", "internal/strconv.uint64pow10", "math/bits.deBruijn32tab", "math/bits.deBruijn64tab"], apart := false, laid := [("math/bits.deBruijn32tab", laid_math_bits_deBruijn32tab), ("math/bits.deBruijn64tab", laid_math_bits_deBruijn64tab), ("internal/strconv.uint64pow10", laid_internal_strconv_uint64pow10), ("strconv.ErrRange", laid_strconv_ErrRange), ("strconv.ErrSyntax", laid_strconv_ErrSyntax)], narrowed := true }
def RangesMakesUptoSaid : Prop := rangesMakesUptoRow.holds Tryz.pinned (OpenSpec.upto rangesMakesSpec)

/-- 'klippelaw04.RangesIntegrals', WHERE WHAT IT READS IS OF BULK AT MOST 1048576: true; the input reads as it did. -/
def rangesIntegralsUptoRow : OpenClaim := { program := "ytbogpbjddaoeiaagreatdoor", sum := "8f1d5d5a2ef0a3c5d0bdde2796cee9859062a70ff7b7da3a466931a6c3309343", func := "klippe/klippelaw04.RangesIntegrals", spec := "rangesIntegrals", inPlace := ["internal/bytealg.IndexByteString", "internal/bytealg.IndexString", "internal/bytealg.abigen_runtime_cmpstring", "internal/abi.NoEscape"], unfollowed := true, recurses := true, named := ["internal/bytealg.MaxLen", "strconv.ErrSyntax", "strconv.ErrRange", "internal/strconv.uint64pow10", "math/bits.deBruijn32tab", "math/bits.deBruijn64tab"], apart := false, laid := [("math/bits.deBruijn32tab", laid_math_bits_deBruijn32tab), ("math/bits.deBruijn64tab", laid_math_bits_deBruijn64tab), ("internal/strconv.uint64pow10", laid_internal_strconv_uint64pow10), ("strconv.ErrRange", laid_strconv_ErrRange), ("strconv.ErrSyntax", laid_strconv_ErrSyntax)], narrowed := true }
def RangesIntegralsUptoSaid : Prop := rangesIntegralsUptoRow.holds Tryz.pinned (OpenSpec.upto rangesIntegralsSpec)

/-- 'klippelaw04.RangesContains', WHERE WHAT IT READS IS OF BULK AT MOST 1048576: true; the input reads as it did. -/
def rangesContainsUptoRow : OpenClaim := { program := "ytbogpbjddaoeiaagreatdoor", sum := "8f1d5d5a2ef0a3c5d0bdde2796cee9859062a70ff7b7da3a466931a6c3309343", func := "klippe/klippelaw04.RangesContains", spec := "rangesContains", inPlace := ["internal/bytealg.IndexByteString", "internal/bytealg.IndexString", "internal/bytealg.abigen_runtime_cmpstring", "internal/abi.NoEscape"], unfollowed := true, recurses := true, named := ["internal/bytealg.MaxLen", "strconv.ErrSyntax", "strconv.ErrRange", "internal/strconv.uint64pow10", "math/bits.deBruijn32tab", "math/bits.deBruijn64tab"], apart := false, laid := [("math/bits.deBruijn32tab", laid_math_bits_deBruijn32tab), ("math/bits.deBruijn64tab", laid_math_bits_deBruijn64tab), ("internal/strconv.uint64pow10", laid_internal_strconv_uint64pow10), ("strconv.ErrRange", laid_strconv_ErrRange), ("strconv.ErrSyntax", laid_strconv_ErrSyntax)], narrowed := true }
def RangesContainsUptoSaid : Prop := rangesContainsUptoRow.holds Tryz.pinned (OpenSpec.upto rangesContainsSpec)

/-- 'klippelaw04.RangesAbove', WHERE WHAT IT READS IS OF BULK AT MOST 1048576: true; the input reads as it did. -/
def rangesAboveUptoRow : OpenClaim := { program := "ytbogpbjddaoeiaagreatdoor", sum := "8f1d5d5a2ef0a3c5d0bdde2796cee9859062a70ff7b7da3a466931a6c3309343", func := "klippe/klippelaw04.RangesAbove", spec := "rangesAbove", inPlace := ["internal/bytealg.IndexByteString", "internal/bytealg.IndexString", "internal/bytealg.abigen_runtime_cmpstring", "internal/abi.NoEscape"], unfollowed := true, recurses := true, named := ["internal/bytealg.MaxLen", "strconv.ErrSyntax", "strconv.ErrRange", "internal/strconv.uint64pow10", "math/bits.deBruijn32tab", "math/bits.deBruijn64tab"], apart := false, laid := [("math/bits.deBruijn32tab", laid_math_bits_deBruijn32tab), ("math/bits.deBruijn64tab", laid_math_bits_deBruijn64tab), ("internal/strconv.uint64pow10", laid_internal_strconv_uint64pow10), ("strconv.ErrRange", laid_strconv_ErrRange), ("strconv.ErrSyntax", laid_strconv_ErrSyntax)], narrowed := true }
def RangesAboveUptoSaid : Prop := rangesAboveUptoRow.holds Tryz.pinned (OpenSpec.upto rangesAboveSpec)

/-- 'klippelaw04.RangesValues', WHERE WHAT IT READS IS OF BULK AT MOST 1048576: true; the input reads as it did. -/
def rangesValuesUptoRow : OpenClaim := { program := "ytbogpbjddaoeiaagreatdoor", sum := "8f1d5d5a2ef0a3c5d0bdde2796cee9859062a70ff7b7da3a466931a6c3309343", func := "klippe/klippelaw04.RangesValues", spec := "rangesValues", inPlace := ["internal/bytealg.IndexByteString", "internal/bytealg.IndexString", "internal/bytealg.abigen_runtime_cmpstring", "internal/abi.NoEscape"], unfollowed := true, recurses := true, named := ["internal/bytealg.MaxLen", "strconv.ErrSyntax", "strconv.ErrRange", "internal/strconv.uint64pow10", "math/bits.deBruijn32tab", "math/bits.deBruijn64tab"], apart := false, laid := [("math/bits.deBruijn32tab", laid_math_bits_deBruijn32tab), ("math/bits.deBruijn64tab", laid_math_bits_deBruijn64tab), ("internal/strconv.uint64pow10", laid_internal_strconv_uint64pow10), ("strconv.ErrRange", laid_strconv_ErrRange), ("strconv.ErrSyntax", laid_strconv_ErrSyntax)], narrowed := true }
def RangesValuesUptoSaid : Prop := rangesValuesUptoRow.holds Tryz.pinned (OpenSpec.upto rangesValuesSpec)

/-- 'klippelaw04.RangesCombines', WHERE WHAT IT READS IS OF BULK AT MOST 1048576: true; the input reads as it did. -/
def rangesCombinesUptoRow : OpenClaim := { program := "ytbogpbjddaoeiaagreatdoor", sum := "8f1d5d5a2ef0a3c5d0bdde2796cee9859062a70ff7b7da3a466931a6c3309343", func := "klippe/klippelaw04.RangesCombines", spec := "rangesCombines", inPlace := ["internal/bytealg.IndexByteString", "internal/bytealg.IndexString", "internal/bytealg.abigen_runtime_cmpstring", "internal/abi.NoEscape"], unfollowed := true, recurses := true, named := ["internal/bytealg.MaxLen", "strconv.ErrSyntax", "strconv.ErrRange", "internal/strconv.uint64pow10", "math/bits.deBruijn32tab", "math/bits.deBruijn64tab"], apart := false, laid := [("math/bits.deBruijn32tab", laid_math_bits_deBruijn32tab), ("math/bits.deBruijn64tab", laid_math_bits_deBruijn64tab), ("internal/strconv.uint64pow10", laid_internal_strconv_uint64pow10), ("strconv.ErrRange", laid_strconv_ErrRange), ("strconv.ErrSyntax", laid_strconv_ErrSyntax)], narrowed := true }
def RangesCombinesUptoSaid : Prop := rangesCombinesUptoRow.holds Tryz.pinned (OpenSpec.upto rangesCombinesSpec)

/-- 'klippelaw04.RangesAdds', WHERE WHAT IT READS IS OF BULK AT MOST 1048576: true; the input reads as it did. -/
def rangesAddsUptoRow : OpenClaim := { program := "ytbogpbjddaoeiaagreatdoor", sum := "8f1d5d5a2ef0a3c5d0bdde2796cee9859062a70ff7b7da3a466931a6c3309343", func := "klippe/klippelaw04.RangesAdds", spec := "rangesAdds", inPlace := ["internal/bytealg.IndexByteString", "internal/bytealg.IndexString", "internal/bytealg.abigen_runtime_cmpstring", "internal/abi.NoEscape"], unfollowed := true, recurses := true, named := ["internal/bytealg.MaxLen", "strconv.ErrSyntax", "strconv.ErrRange", "internal/strconv.uint64pow10", "math/bits.deBruijn32tab", "math/bits.deBruijn64tab"], apart := false, laid := [("math/bits.deBruijn32tab", laid_math_bits_deBruijn32tab), ("math/bits.deBruijn64tab", laid_math_bits_deBruijn64tab), ("internal/strconv.uint64pow10", laid_internal_strconv_uint64pow10), ("strconv.ErrRange", laid_strconv_ErrRange), ("strconv.ErrSyntax", laid_strconv_ErrSyntax)], narrowed := true }
def RangesAddsUptoSaid : Prop := rangesAddsUptoRow.holds Tryz.pinned (OpenSpec.upto rangesAddsSpec)

/-- 'klippelaw04.RangesLaws', WHERE WHAT IT READS IS OF BULK AT MOST 1048576: true; the input reads as it did. -/
def rangesLawsUptoRow : OpenClaim := { program := "ytbogpbjddaoeiaagreatdoor", sum := "8f1d5d5a2ef0a3c5d0bdde2796cee9859062a70ff7b7da3a466931a6c3309343", func := "klippe/klippelaw04.RangesLaws", spec := "rangesLaws", inPlace := ["internal/bytealg.IndexByteString", "internal/bytealg.IndexString", "internal/bytealg.abigen_runtime_cmpstring", "internal/abi.NoEscape"], unfollowed := true, recurses := true, named := ["internal/bytealg.MaxLen", "strconv.ErrSyntax", "strconv.ErrRange", "internal/strconv.uint64pow10", "math/bits.deBruijn32tab", "math/bits.deBruijn64tab"], apart := false, laid := [("math/bits.deBruijn32tab", laid_math_bits_deBruijn32tab), ("math/bits.deBruijn64tab", laid_math_bits_deBruijn64tab), ("internal/strconv.uint64pow10", laid_internal_strconv_uint64pow10), ("strconv.ErrRange", laid_strconv_ErrRange), ("strconv.ErrSyntax", laid_strconv_ErrSyntax)], narrowed := true }
def RangesLawsUptoSaid : Prop := rangesLawsUptoRow.holds Tryz.pinned (OpenSpec.upto rangesLawsSpec)

/-- 'klippelaw04.RangesFunctions', WHERE WHAT IT READS IS OF BULK AT MOST 1048576: true; the input reads as it did. -/
def rangesFunctionsUptoRow : OpenClaim := { program := "ytbogpbjddaoeiaagreatdoor", sum := "8f1d5d5a2ef0a3c5d0bdde2796cee9859062a70ff7b7da3a466931a6c3309343", func := "klippe/klippelaw04.RangesFunctions", spec := "rangesFunctions", inPlace := ["internal/bytealg.IndexByteString", "internal/bytealg.IndexString", "internal/bytealg.abigen_runtime_cmpstring", "internal/abi.NoEscape"], unfollowed := true, recurses := true, named := ["internal/bytealg.MaxLen", "strconv.ErrSyntax", "strconv.ErrRange", "internal/strconv.uint64pow10", "math/bits.deBruijn32tab", "math/bits.deBruijn64tab"], apart := false, laid := [("math/bits.deBruijn32tab", laid_math_bits_deBruijn32tab), ("math/bits.deBruijn64tab", laid_math_bits_deBruijn64tab), ("internal/strconv.uint64pow10", laid_internal_strconv_uint64pow10), ("strconv.ErrRange", laid_strconv_ErrRange), ("strconv.ErrSyntax", laid_strconv_ErrSyntax)], narrowed := true }
def RangesFunctionsUptoSaid : Prop := rangesFunctionsUptoRow.holds Tryz.pinned (OpenSpec.upto rangesFunctionsSpec)

/-- 'klippelaw04.RangesChecks', WHERE WHAT IT READS IS OF BULK AT MOST 1048576: true; the input reads as it did. -/
def rangesChecksUptoRow : OpenClaim := { program := "ytbogpbjddaoeiaagreatdoor", sum := "8f1d5d5a2ef0a3c5d0bdde2796cee9859062a70ff7b7da3a466931a6c3309343", func := "klippe/klippelaw04.RangesChecks", spec := "rangesChecks", inPlace := ["internal/bytealg.IndexByteString", "internal/bytealg.IndexString", "internal/bytealg.abigen_runtime_cmpstring", "internal/abi.NoEscape"], unfollowed := true, recurses := true, named := ["internal/bytealg.MaxLen", "strconv.ErrSyntax", "strconv.ErrRange", "internal/strconv.uint64pow10", "math/bits.deBruijn32tab", "math/bits.deBruijn64tab"], apart := false, laid := [("math/bits.deBruijn32tab", laid_math_bits_deBruijn32tab), ("math/bits.deBruijn64tab", laid_math_bits_deBruijn64tab), ("internal/strconv.uint64pow10", laid_internal_strconv_uint64pow10), ("strconv.ErrRange", laid_strconv_ErrRange), ("strconv.ErrSyntax", laid_strconv_ErrSyntax)], narrowed := true }
def RangesChecksUptoSaid : Prop := rangesChecksUptoRow.holds Tryz.pinned (OpenSpec.upto rangesChecksSpec)

/-- 'klippelaw04.RangesKnots', WHERE WHAT IT READS IS OF BULK AT MOST 1048576: true; the input reads as it did. -/
def rangesKnotsUptoRow : OpenClaim := { program := "ytbogpbjddaoeiaagreatdoor", sum := "8f1d5d5a2ef0a3c5d0bdde2796cee9859062a70ff7b7da3a466931a6c3309343", func := "klippe/klippelaw04.RangesKnots", spec := "rangesKnots", inPlace := ["internal/bytealg.IndexByteString", "internal/bytealg.IndexString", "internal/bytealg.abigen_runtime_cmpstring", "internal/abi.NoEscape"], unfollowed := true, recurses := true, named := ["internal/bytealg.MaxLen", "strconv.ErrSyntax", "strconv.ErrRange", "internal/strconv.uint64pow10", "math/bits.deBruijn32tab", "math/bits.deBruijn64tab"], apart := false, laid := [("math/bits.deBruijn32tab", laid_math_bits_deBruijn32tab), ("math/bits.deBruijn64tab", laid_math_bits_deBruijn64tab), ("internal/strconv.uint64pow10", laid_internal_strconv_uint64pow10), ("strconv.ErrRange", laid_strconv_ErrRange), ("strconv.ErrSyntax", laid_strconv_ErrSyntax)], narrowed := true }
def RangesKnotsUptoSaid : Prop := rangesKnotsUptoRow.holds Tryz.pinned (OpenSpec.upto rangesKnotsSpec)

/-- 'klippetop.TopFoldsKeepLayers', WHERE WHAT IT READS IS OF BULK AT MOST 1048576: true; the input reads as it did. -/
def topFoldsKeepLayersUptoRow : OpenClaim := { program := "ytbogpbjddaoeiaagreatdoor", sum := "8f1d5d5a2ef0a3c5d0bdde2796cee9859062a70ff7b7da3a466931a6c3309343", func := "klippe/klippetop.TopFoldsKeepLayers", spec := "topFoldsKeepLayers", inPlace := ["internal/bytealg.IndexByteString", "internal/bytealg.IndexString", "internal/bytealg.abigen_runtime_cmpstring", "internal/abi.NoEscape"], unfollowed := true, recurses := true, named := ["internal/strconv.uint64pow10", "math/bits.deBruijn32tab", "math/bits.deBruijn64tab", "internal/bytealg.MaxLen", "strconv.ErrSyntax", "strconv.ErrRange"], apart := false, laid := [("math/bits.deBruijn32tab", laid_math_bits_deBruijn32tab), ("math/bits.deBruijn64tab", laid_math_bits_deBruijn64tab), ("internal/strconv.uint64pow10", laid_internal_strconv_uint64pow10), ("strconv.ErrRange", laid_strconv_ErrRange), ("strconv.ErrSyntax", laid_strconv_ErrSyntax)], narrowed := true }
def TopFoldsKeepLayersUptoSaid : Prop := topFoldsKeepLayersUptoRow.holds Tryz.pinned (OpenSpec.upto topFoldsKeepLayersSpec)

end Rows
end Go.Proofs.YtbogpbjddaoeiaaGreatDoor
