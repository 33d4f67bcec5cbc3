/-
  NARROWER THAN 'FOR EVERY INPUT', by the rows' own cells (each row's printed sentence says how): CodePacks: laid · CodeNames: laid · CodeBack: laid · CodeFetches: laid · CodeLists: laid · CodeLines: laid · NumberParses: laid · NumberPrints: laid · NumberBack: laid · NumberGrows: laid · NumberLetters: laid · NumberOrder: laid.
  DERIVED. THE GIVEN ROWS OF THIS SEAT. 12 by the template 'for every input the law returns true; each argument reads behind the call as it read before'; 0 by the template 'total and deterministic' (their statements: YtanpbphgmnjdeaaDoorTotals.lean).
  GIVEN WITH THE SEED: the statements are not yours to turn. If you find one false, say at which input.
  Laid BY PROGRAM, IN A SANDBOX (cutbox-rows.mjs): the forced cells as the released guide's own fill.sh prints them over the translation 0ef02a0f032db060… (all of the seat's roots in one cut). By AI agents, Wed Nov 11 2026. No macro, syntax, notation, axiom, sorry.
-/
import Derived.Test.YtanpbphgmnjdeaaDoorChecked
import GoSem.PinnedTables
import GoSem.Claim
import GoSem.ClaimJoined
import GoSem.ClaimMapViews
import Derived.JoinedTies
import Derived.KernelRfl
namespace Go.Proofs.YtanpbphgmnjdeaaDoor
/- THE CELL 'sum', in the pinned program and in every row, IS THE sha256 OF THE DUMP (.gsa) THAT YtanpbphgmnjdeaaDoorProg.lean LOADS. Nothing in Lean hashes anything: it is a label: what it is worth is what the hold of that sum in a sandbox is worth. -/
noncomputable def Tryd.pinned : Pinned := { name := "ytanpbphgmnjdeaadoor", sum := "0ef02a0f032db0608280e49e8fec1c837671991707d5260f705924f4b9f3359f", checked := Tryd.checked }
namespace Rows
def none {H : Type} : Left H := { results := [], args := [] }

/- WHAT THE LISTED PACKAGE-LEVEL VARIABLES READ AS WHEN THE CALL BEGINS. Each datum BY PROGRAM (the guide's laid-datum.mjs) off the statement by which the dump's own 'gosem.cut.vars' lays the variable. In a bare row this is a premise. The card (YtanpbphgmnjdeaaDoorCards.lean) ties it to the program's text. -/
def laid_unicode_utf8_acceptRanges {H : Type} : DataW H := .agg [.agg [.lit (.int .u8 128), .lit (.int .u8 191)], .agg [.lit (.int .u8 160), .lit (.int .u8 191)], .agg [.lit (.int .u8 128), .lit (.int .u8 159)], .agg [.lit (.int .u8 144), .lit (.int .u8 191)], .agg [.lit (.int .u8 128), .lit (.int .u8 143)], .agg [.lit (.int .u8 0), .lit (.int .u8 0)], .agg [.lit (.int .u8 0), .lit (.int .u8 0)], .agg [.lit (.int .u8 0), .lit (.int .u8 0)], .agg [.lit (.int .u8 0), .lit (.int .u8 0)], .agg [.lit (.int .u8 0), .lit (.int .u8 0)], .agg [.lit (.int .u8 0), .lit (.int .u8 0)], .agg [.lit (.int .u8 0), .lit (.int .u8 0)], .agg [.lit (.int .u8 0), .lit (.int .u8 0)], .agg [.lit (.int .u8 0), .lit (.int .u8 0)], .agg [.lit (.int .u8 0), .lit (.int .u8 0)], .agg [.lit (.int .u8 0), .lit (.int .u8 0)]]
def laid_proctor_code_names {H : Type} : DataW H := .agg [.lit (.string [40, 101, 120, 105, 116, 41]), .lit (.string [40, 108, 105, 116, 41]), .lit (.string [40, 99, 97, 108, 108, 41]), .lit (.string [40, 106, 117, 109, 112, 41]), .lit (.string [40, 122, 101, 114, 111, 41]), .lit (.string [40, 100, 111, 41]), .lit (.string [40, 63, 100, 111, 41]), .lit (.string [40, 108, 111, 111, 112, 41]), .lit (.string [40, 43, 108, 111, 111, 112, 41]), .lit (.string [85, 78, 76, 79, 79, 80]), .lit (.string [73]), .lit (.string [74]), .lit (.string [62, 82]), .lit (.string [82, 62]), .lit (.string [82, 64]), .lit (.string [69, 88, 69, 67, 85, 84, 69]), .lit (.string [40, 99, 114, 101, 97, 116, 101, 100, 41]), .lit (.string [40, 100, 111, 101, 115, 41]), .lit (.string [40, 116, 101, 120, 116, 41]), .lit (.string [40, 115, 112, 101, 99, 105, 97, 108, 41]), .lit (.string [68, 85, 80]), .lit (.string [68, 82, 79, 80]), .lit (.string [83, 87, 65, 80]), .lit (.string [79, 86, 69, 82]), .lit (.string [82, 79, 84]), .lit (.string [63, 68, 85, 80]), .lit (.string [78, 73, 80]), .lit (.string [84, 85, 67, 75]), .lit (.string [80, 73, 67, 75]), .lit (.string [68, 69, 80, 84, 72]), .lit (.string [43]), .lit (.string [45]), .lit (.string [42]), .lit (.string [47]), .lit (.string [77, 79, 68]), .lit (.string [47, 77, 79, 68]), .lit (.string [42, 47]), .lit (.string [42, 47, 77, 79, 68]), .lit (.string [78, 69, 71, 65, 84, 69]), .lit (.string [65, 66, 83]), .lit (.string [77, 73, 78]), .lit (.string [77, 65, 88]), .lit (.string [49, 43]), .lit (.string [49, 45]), .lit (.string [50, 42]), .lit (.string [50, 47]), .lit (.string [65, 78, 68]), .lit (.string [79, 82]), .lit (.string [88, 79, 82]), .lit (.string [73, 78, 86, 69, 82, 84]), .lit (.string [76, 83, 72, 73, 70, 84]), .lit (.string [82, 83, 72, 73, 70, 84]), .lit (.string [77, 42]), .lit (.string [85, 77, 42]), .lit (.string [85, 77, 47, 77, 79, 68]), .lit (.string [83, 77, 47, 82, 69, 77]), .lit (.string [70, 77, 47, 77, 79, 68]), .lit (.string [61]), .lit (.string [60, 62]), .lit (.string [60]), .lit (.string [62]), .lit (.string [85, 60]), .lit (.string [48, 61]), .lit (.string [48, 60]), .lit (.string [64]), .lit (.string [33]), .lit (.string [67, 64]), .lit (.string [67, 33]), .lit (.string [43, 33]), .lit (.string [77, 79, 86, 69]), .lit (.string [70, 73, 76, 76]), .lit (.string [72, 69, 82, 69]), .lit (.string [65, 76, 76, 79, 84]), .lit (.string [44]), .lit (.string [67, 44]), .lit (.string [65, 76, 73, 71, 78]), .lit (.string [66, 65, 83, 69]), .lit (.string [69, 77, 73, 84]), .lit (.string [84, 89, 80, 69]), .lit (.string [46]), .lit (.string [85, 46]), .lit (.string [46, 82]), .lit (.string [75, 69, 89]), .lit (.string [65, 67, 67, 69, 80, 84]), .lit (.string [67, 82, 69, 65, 84, 69]), .lit (.string [70, 73, 78, 68]), .lit (.string [83, 69, 67, 82, 69, 84]), .lit (.string [86, 69, 82, 68, 73, 67, 84]), .lit (.string [82, 69, 83, 85, 76, 84]), .lit (.string [85, 83, 69, 68]), .lit (.string [79, 85, 84, 35]), .lit (.string [79, 85, 84, 64]), .lit (.string [65, 83, 75]), .lit (.string [90, 43]), .lit (.string [90, 45]), .lit (.string [90, 42]), .lit (.string [90, 67, 79, 78, 74]), .lit (.string [90, 78, 79, 82, 77]), .lit (.string [90, 84, 85, 82, 78]), .lit (.string [70, 79, 82, 87, 65, 82, 68]), .lit (.string [84, 85, 82, 78]), .lit (.string [80, 69, 78]), .lit (.string [72, 79, 77, 69]), .lit (.string [87, 72, 69, 82, 69]), .lit (.string [65, 66, 79, 82, 84]), .lit (.string [78, 79, 80])]
/-- One of Go's own tables, pinned by name: the form's constant. -/
def laid_unicode_utf8_first : DataW Unit := Go.Pinned.utf8First
def laid_math_bits_deBruijn32tab {H : Type} : DataW H := .agg [.lit (.int .u8 0), .lit (.int .u8 1), .lit (.int .u8 28), .lit (.int .u8 2), .lit (.int .u8 29), .lit (.int .u8 14), .lit (.int .u8 24), .lit (.int .u8 3), .lit (.int .u8 30), .lit (.int .u8 22), .lit (.int .u8 20), .lit (.int .u8 15), .lit (.int .u8 25), .lit (.int .u8 17), .lit (.int .u8 4), .lit (.int .u8 8), .lit (.int .u8 31), .lit (.int .u8 27), .lit (.int .u8 13), .lit (.int .u8 23), .lit (.int .u8 21), .lit (.int .u8 19), .lit (.int .u8 16), .lit (.int .u8 7), .lit (.int .u8 26), .lit (.int .u8 12), .lit (.int .u8 18), .lit (.int .u8 6), .lit (.int .u8 11), .lit (.int .u8 5), .lit (.int .u8 10), .lit (.int .u8 9)]
def laid_math_bits_deBruijn64tab {H : Type} : DataW H := .agg [.lit (.int .u8 0), .lit (.int .u8 1), .lit (.int .u8 56), .lit (.int .u8 2), .lit (.int .u8 57), .lit (.int .u8 49), .lit (.int .u8 28), .lit (.int .u8 3), .lit (.int .u8 61), .lit (.int .u8 58), .lit (.int .u8 42), .lit (.int .u8 50), .lit (.int .u8 38), .lit (.int .u8 29), .lit (.int .u8 17), .lit (.int .u8 4), .lit (.int .u8 62), .lit (.int .u8 47), .lit (.int .u8 59), .lit (.int .u8 36), .lit (.int .u8 45), .lit (.int .u8 43), .lit (.int .u8 51), .lit (.int .u8 22), .lit (.int .u8 53), .lit (.int .u8 39), .lit (.int .u8 33), .lit (.int .u8 30), .lit (.int .u8 24), .lit (.int .u8 18), .lit (.int .u8 12), .lit (.int .u8 5), .lit (.int .u8 63), .lit (.int .u8 55), .lit (.int .u8 48), .lit (.int .u8 27), .lit (.int .u8 60), .lit (.int .u8 41), .lit (.int .u8 37), .lit (.int .u8 16), .lit (.int .u8 46), .lit (.int .u8 35), .lit (.int .u8 44), .lit (.int .u8 21), .lit (.int .u8 52), .lit (.int .u8 32), .lit (.int .u8 23), .lit (.int .u8 11), .lit (.int .u8 54), .lit (.int .u8 26), .lit (.int .u8 40), .lit (.int .u8 15), .lit (.int .u8 34), .lit (.int .u8 20), .lit (.int .u8 31), .lit (.int .u8 10), .lit (.int .u8 25), .lit (.int .u8 14), .lit (.int .u8 19), .lit (.int .u8 9), .lit (.int .u8 13), .lit (.int .u8 8), .lit (.int .u8 7), .lit (.int .u8 6)]
def laid_internal_strconv_uint64pow10 {H : Type} : DataW H := .agg [.lit (.int .u64 1), .lit (.int .u64 10), .lit (.int .u64 100), .lit (.int .u64 1000), .lit (.int .u64 10000), .lit (.int .u64 100000), .lit (.int .u64 1000000), .lit (.int .u64 10000000), .lit (.int .u64 100000000), .lit (.int .u64 1000000000), .lit (.int .u64 10000000000), .lit (.int .u64 100000000000), .lit (.int .u64 1000000000000), .lit (.int .u64 10000000000000), .lit (.int .u64 100000000000000), .lit (.int .u64 1000000000000000), .lit (.int .u64 10000000000000000), .lit (.int .u64 100000000000000000), .lit (.int .u64 1000000000000000000), .lit (.int .u64 10000000000000000000)]
/-- One of Go's own tables, pinned by name: the form's constant. -/
def laid_unicode_CaseRanges : DataW Unit := Go.Pinned.caseRanges

/-- 'proctorlaw7.CodePacks': WHATEVER THE INPUT: true; the input reads as it did. -/
def codePacksSpec : ChangeSpec := { name := "codePacks", fn := fun _ => fun
  | [d1, d2, d3] => { results := [.lit (.bool true)], args := [d1, d2, d3] }
  | _ => none }
def codePacksRow : OpenClaim := { program := "ytanpbphgmnjdeaadoor", sum := "0ef02a0f032db0608280e49e8fec1c837671991707d5260f705924f4b9f3359f", func := "proctor/proctorlaw7.CodePacks", spec := "codePacks", inPlace := ["internal/abi.NoEscape", "internal/bytealg.MakeNoZero"], unfollowed := true, recurses := true, named := ["proctor/code.names", "unicode/utf8.first", "unicode/utf8.acceptRanges"], apart := false, laid := [("unicode/utf8.acceptRanges", laid_unicode_utf8_acceptRanges), ("proctor/code.names", laid_proctor_code_names), ("unicode/utf8.first", laid_unicode_utf8_first)] }
def CodePacksSaid : Prop := codePacksRow.holds Tryd.pinned (OpenSpec.ofChange codePacksSpec)

/-- ITS FALSE NEIGHBOUR: 'it returns false'. Refute it at one input. -/
def codePacksWrong : ChangeSpec := { name := "codePacks", fn := fun _ => fun
  | [d1, d2, d3] => { results := [.lit (.bool false)], args := [d1, d2, d3] }
  | _ => none }
def CodePacksWrongFalsely : Prop := codePacksRow.holds Tryd.pinned (OpenSpec.ofChange codePacksWrong)

/-- 'proctorlaw7.CodeNames': WHATEVER THE INPUT: true; the input reads as it did. -/
def codeNamesSpec : ChangeSpec := { name := "codeNames", fn := fun _ => fun
  | [d1, d2] => { results := [.lit (.bool true)], args := [d1, d2] }
  | _ => none }
def codeNamesRow : OpenClaim := { program := "ytanpbphgmnjdeaadoor", sum := "0ef02a0f032db0608280e49e8fec1c837671991707d5260f705924f4b9f3359f", func := "proctor/proctorlaw7.CodeNames", spec := "codeNames", inPlace := ["internal/abi.NoEscape", "internal/bytealg.MakeNoZero"], unfollowed := true, recurses := true, named := ["proctor/code.names", "unicode/utf8.first", "unicode/utf8.acceptRanges"], apart := false, laid := [("unicode/utf8.acceptRanges", laid_unicode_utf8_acceptRanges), ("proctor/code.names", laid_proctor_code_names), ("unicode/utf8.first", laid_unicode_utf8_first)] }
def CodeNamesSaid : Prop := codeNamesRow.holds Tryd.pinned (OpenSpec.ofChange codeNamesSpec)

/-- ITS FALSE NEIGHBOUR: 'it returns false'. Refute it at one input. -/
def codeNamesWrong : ChangeSpec := { name := "codeNames", fn := fun _ => fun
  | [d1, d2] => { results := [.lit (.bool false)], args := [d1, d2] }
  | _ => none }
def CodeNamesWrongFalsely : Prop := codeNamesRow.holds Tryd.pinned (OpenSpec.ofChange codeNamesWrong)

/-- 'proctorlaw7.CodeBack': WHATEVER THE INPUT: true; the input reads as it did. -/
def codeBackSpec : ChangeSpec := { name := "codeBack", fn := fun _ => fun
  | [d1, d2, d3, d4, d5] => { results := [.lit (.bool true)], args := [d1, d2, d3, d4, d5] }
  | _ => none }
def codeBackRow : OpenClaim := { program := "ytanpbphgmnjdeaadoor", sum := "0ef02a0f032db0608280e49e8fec1c837671991707d5260f705924f4b9f3359f", func := "proctor/proctorlaw7.CodeBack", spec := "codeBack", inPlace := ["internal/abi.NoEscape", "internal/bytealg.MakeNoZero"], unfollowed := true, recurses := true, named := ["proctor/code.names", "unicode/utf8.first", "unicode/utf8.acceptRanges"], apart := false, laid := [("unicode/utf8.acceptRanges", laid_unicode_utf8_acceptRanges), ("proctor/code.names", laid_proctor_code_names), ("unicode/utf8.first", laid_unicode_utf8_first)] }
def CodeBackSaid : Prop := codeBackRow.holds Tryd.pinned (OpenSpec.ofChange codeBackSpec)

/-- ITS FALSE NEIGHBOUR: 'it returns false'. Refute it at one input. -/
def codeBackWrong : ChangeSpec := { name := "codeBack", fn := fun _ => fun
  | [d1, d2, d3, d4, d5] => { results := [.lit (.bool false)], args := [d1, d2, d3, d4, d5] }
  | _ => none }
def CodeBackWrongFalsely : Prop := codeBackRow.holds Tryd.pinned (OpenSpec.ofChange codeBackWrong)

/-- 'proctorlaw7.CodeFetches': WHATEVER THE INPUT: true; the input reads as it did. -/
def codeFetchesSpec : ChangeSpec := { name := "codeFetches", fn := fun _ => fun
  | [d1, d2, d3, d4, d5, d6] => { results := [.lit (.bool true)], args := [d1, d2, d3, d4, d5, d6] }
  | _ => none }
def codeFetchesRow : OpenClaim := { program := "ytanpbphgmnjdeaadoor", sum := "0ef02a0f032db0608280e49e8fec1c837671991707d5260f705924f4b9f3359f", func := "proctor/proctorlaw7.CodeFetches", spec := "codeFetches", inPlace := ["internal/abi.NoEscape", "internal/bytealg.MakeNoZero"], unfollowed := true, recurses := true, named := ["proctor/code.names", "unicode/utf8.first", "unicode/utf8.acceptRanges"], apart := false, laid := [("unicode/utf8.acceptRanges", laid_unicode_utf8_acceptRanges), ("proctor/code.names", laid_proctor_code_names), ("unicode/utf8.first", laid_unicode_utf8_first)] }
def CodeFetchesSaid : Prop := codeFetchesRow.holds Tryd.pinned (OpenSpec.ofChange codeFetchesSpec)

/-- ITS FALSE NEIGHBOUR: 'it returns false'. Refute it at one input. -/
def codeFetchesWrong : ChangeSpec := { name := "codeFetches", fn := fun _ => fun
  | [d1, d2, d3, d4, d5, d6] => { results := [.lit (.bool false)], args := [d1, d2, d3, d4, d5, d6] }
  | _ => none }
def CodeFetchesWrongFalsely : Prop := codeFetchesRow.holds Tryd.pinned (OpenSpec.ofChange codeFetchesWrong)

/-- 'proctorlaw7.CodeLists': WHATEVER THE INPUT: true; the input reads as it did. -/
def codeListsSpec : ChangeSpec := { name := "codeLists", fn := fun _ => fun
  | [d1, d2, d3, d4, d5] => { results := [.lit (.bool true)], args := [d1, d2, d3, d4, d5] }
  | _ => none }
def codeListsRow : OpenClaim := { program := "ytanpbphgmnjdeaadoor", sum := "0ef02a0f032db0608280e49e8fec1c837671991707d5260f705924f4b9f3359f", func := "proctor/proctorlaw7.CodeLists", spec := "codeLists", inPlace := ["internal/abi.NoEscape", "internal/bytealg.MakeNoZero"], unfollowed := true, recurses := true, named := ["proctor/code.names", "unicode/utf8.first", "unicode/utf8.acceptRanges", "internal/strconv.uint64pow10", "math/bits.deBruijn32tab", "math/bits.deBruijn64tab"], apart := false, laid := [("math/bits.deBruijn32tab", laid_math_bits_deBruijn32tab), ("math/bits.deBruijn64tab", laid_math_bits_deBruijn64tab), ("internal/strconv.uint64pow10", laid_internal_strconv_uint64pow10), ("unicode/utf8.acceptRanges", laid_unicode_utf8_acceptRanges), ("proctor/code.names", laid_proctor_code_names), ("unicode/utf8.first", laid_unicode_utf8_first)] }
def CodeListsSaid : Prop := codeListsRow.holds Tryd.pinned (OpenSpec.ofChange codeListsSpec)

/-- ITS FALSE NEIGHBOUR: 'it returns false'. Refute it at one input. -/
def codeListsWrong : ChangeSpec := { name := "codeLists", fn := fun _ => fun
  | [d1, d2, d3, d4, d5] => { results := [.lit (.bool false)], args := [d1, d2, d3, d4, d5] }
  | _ => none }
def CodeListsWrongFalsely : Prop := codeListsRow.holds Tryd.pinned (OpenSpec.ofChange codeListsWrong)

/-- 'proctorlaw7.CodeLines': WHATEVER THE INPUT: true; the input reads as it did. -/
def codeLinesSpec : ChangeSpec := { name := "codeLines", fn := fun _ => fun
  | [d1, d2] => { results := [.lit (.bool true)], args := [d1, d2] }
  | _ => none }
def codeLinesRow : OpenClaim := { program := "ytanpbphgmnjdeaadoor", sum := "0ef02a0f032db0608280e49e8fec1c837671991707d5260f705924f4b9f3359f", func := "proctor/proctorlaw7.CodeLines", spec := "codeLines", inPlace := ["internal/abi.NoEscape", "internal/bytealg.MakeNoZero"], unfollowed := true, recurses := true, named := ["proctor/code.names", "unicode/utf8.first", "unicode/utf8.acceptRanges", "internal/strconv.uint64pow10", "math/bits.deBruijn32tab", "math/bits.deBruijn64tab"], apart := false, laid := [("math/bits.deBruijn32tab", laid_math_bits_deBruijn32tab), ("math/bits.deBruijn64tab", laid_math_bits_deBruijn64tab), ("internal/strconv.uint64pow10", laid_internal_strconv_uint64pow10), ("unicode/utf8.acceptRanges", laid_unicode_utf8_acceptRanges), ("proctor/code.names", laid_proctor_code_names), ("unicode/utf8.first", laid_unicode_utf8_first)] }
def CodeLinesSaid : Prop := codeLinesRow.holds Tryd.pinned (OpenSpec.ofChange codeLinesSpec)

/-- ITS FALSE NEIGHBOUR: 'it returns false'. Refute it at one input. -/
def codeLinesWrong : ChangeSpec := { name := "codeLines", fn := fun _ => fun
  | [d1, d2] => { results := [.lit (.bool false)], args := [d1, d2] }
  | _ => none }
def CodeLinesWrongFalsely : Prop := codeLinesRow.holds Tryd.pinned (OpenSpec.ofChange codeLinesWrong)

/-- 'proctorlaw5.NumberParses': WHATEVER THE INPUT: true; the input reads as it did. -/
def numberParsesSpec : ChangeSpec := { name := "numberParses", fn := fun _ => fun
  | [d1, d2] => { results := [.lit (.bool true)], args := [d1, d2] }
  | _ => none }
def numberParsesRow : OpenClaim := { program := "ytanpbphgmnjdeaadoor", sum := "0ef02a0f032db0608280e49e8fec1c837671991707d5260f705924f4b9f3359f", func := "proctor/proctorlaw5.NumberParses", spec := "numberParses", inPlace := ["internal/bytealg.IndexByteString", "internal/abi.NoEscape", "internal/bytealg.MakeNoZero"], unfollowed := true, recurses := true, named := ["internal/strconv.uint64pow10", "math/bits.deBruijn32tab", "math/bits.deBruijn64tab", "unicode/utf8.first", "unicode/utf8.acceptRanges", "unicode.CaseRanges"], apart := false, laid := [("math/bits.deBruijn32tab", laid_math_bits_deBruijn32tab), ("math/bits.deBruijn64tab", laid_math_bits_deBruijn64tab), ("internal/strconv.uint64pow10", laid_internal_strconv_uint64pow10), ("unicode/utf8.acceptRanges", laid_unicode_utf8_acceptRanges), ("unicode.CaseRanges", laid_unicode_CaseRanges), ("unicode/utf8.first", laid_unicode_utf8_first)] }
def NumberParsesSaid : Prop := numberParsesRow.holds Tryd.pinned (OpenSpec.ofChange numberParsesSpec)

/-- ITS FALSE NEIGHBOUR: 'it returns false'. Refute it at one input. -/
def numberParsesWrong : ChangeSpec := { name := "numberParses", fn := fun _ => fun
  | [d1, d2] => { results := [.lit (.bool false)], args := [d1, d2] }
  | _ => none }
def NumberParsesWrongFalsely : Prop := numberParsesRow.holds Tryd.pinned (OpenSpec.ofChange numberParsesWrong)

/-- 'proctorlaw5.NumberPrints': WHATEVER THE INPUT: true; the input reads as it did. -/
def numberPrintsSpec : ChangeSpec := { name := "numberPrints", fn := fun _ => fun
  | [d1, d2, d3] => { results := [.lit (.bool true)], args := [d1, d2, d3] }
  | _ => none }
def numberPrintsRow : OpenClaim := { program := "ytanpbphgmnjdeaadoor", sum := "0ef02a0f032db0608280e49e8fec1c837671991707d5260f705924f4b9f3359f", func := "proctor/proctorlaw5.NumberPrints", spec := "numberPrints", inPlace := ["internal/bytealg.IndexByteString", "internal/abi.NoEscape", "internal/bytealg.MakeNoZero"], unfollowed := true, recurses := true, named := ["internal/strconv.uint64pow10", "math/bits.deBruijn32tab", "math/bits.deBruijn64tab", "unicode/utf8.first", "unicode/utf8.acceptRanges", "unicode.CaseRanges"], apart := false, laid := [("math/bits.deBruijn32tab", laid_math_bits_deBruijn32tab), ("math/bits.deBruijn64tab", laid_math_bits_deBruijn64tab), ("internal/strconv.uint64pow10", laid_internal_strconv_uint64pow10), ("unicode/utf8.acceptRanges", laid_unicode_utf8_acceptRanges), ("unicode.CaseRanges", laid_unicode_CaseRanges), ("unicode/utf8.first", laid_unicode_utf8_first)] }
def NumberPrintsSaid : Prop := numberPrintsRow.holds Tryd.pinned (OpenSpec.ofChange numberPrintsSpec)

/-- ITS FALSE NEIGHBOUR: 'it returns false'. Refute it at one input. -/
def numberPrintsWrong : ChangeSpec := { name := "numberPrints", fn := fun _ => fun
  | [d1, d2, d3] => { results := [.lit (.bool false)], args := [d1, d2, d3] }
  | _ => none }
def NumberPrintsWrongFalsely : Prop := numberPrintsRow.holds Tryd.pinned (OpenSpec.ofChange numberPrintsWrong)

/-- 'proctorlaw5.NumberBack': WHATEVER THE INPUT: true; the input reads as it did. -/
def numberBackSpec : ChangeSpec := { name := "numberBack", fn := fun _ => fun
  | [d1, d2, d3] => { results := [.lit (.bool true)], args := [d1, d2, d3] }
  | _ => none }
def numberBackRow : OpenClaim := { program := "ytanpbphgmnjdeaadoor", sum := "0ef02a0f032db0608280e49e8fec1c837671991707d5260f705924f4b9f3359f", func := "proctor/proctorlaw5.NumberBack", spec := "numberBack", inPlace := ["internal/bytealg.IndexByteString", "internal/abi.NoEscape", "internal/bytealg.MakeNoZero"], unfollowed := true, recurses := true, named := ["internal/strconv.uint64pow10", "math/bits.deBruijn32tab", "math/bits.deBruijn64tab", "unicode/utf8.first", "unicode/utf8.acceptRanges", "unicode.CaseRanges"], apart := false, laid := [("math/bits.deBruijn32tab", laid_math_bits_deBruijn32tab), ("math/bits.deBruijn64tab", laid_math_bits_deBruijn64tab), ("internal/strconv.uint64pow10", laid_internal_strconv_uint64pow10), ("unicode/utf8.acceptRanges", laid_unicode_utf8_acceptRanges), ("unicode.CaseRanges", laid_unicode_CaseRanges), ("unicode/utf8.first", laid_unicode_utf8_first)] }
def NumberBackSaid : Prop := numberBackRow.holds Tryd.pinned (OpenSpec.ofChange numberBackSpec)

/-- ITS FALSE NEIGHBOUR: 'it returns false'. Refute it at one input. -/
def numberBackWrong : ChangeSpec := { name := "numberBack", fn := fun _ => fun
  | [d1, d2, d3] => { results := [.lit (.bool false)], args := [d1, d2, d3] }
  | _ => none }
def NumberBackWrongFalsely : Prop := numberBackRow.holds Tryd.pinned (OpenSpec.ofChange numberBackWrong)

/-- 'proctorlaw5.NumberGrows': WHATEVER THE INPUT: true; the input reads as it did. -/
def numberGrowsSpec : ChangeSpec := { name := "numberGrows", fn := fun _ => fun
  | [d1, d2, d3, d4] => { results := [.lit (.bool true)], args := [d1, d2, d3, d4] }
  | _ => none }
def numberGrowsRow : OpenClaim := { program := "ytanpbphgmnjdeaadoor", sum := "0ef02a0f032db0608280e49e8fec1c837671991707d5260f705924f4b9f3359f", func := "proctor/proctorlaw5.NumberGrows", spec := "numberGrows", inPlace := ["internal/bytealg.IndexByteString", "internal/abi.NoEscape", "internal/bytealg.MakeNoZero"], unfollowed := true, recurses := true, named := ["internal/strconv.uint64pow10", "math/bits.deBruijn32tab", "math/bits.deBruijn64tab", "unicode/utf8.first", "unicode/utf8.acceptRanges", "unicode.CaseRanges"], apart := false, laid := [("math/bits.deBruijn32tab", laid_math_bits_deBruijn32tab), ("math/bits.deBruijn64tab", laid_math_bits_deBruijn64tab), ("internal/strconv.uint64pow10", laid_internal_strconv_uint64pow10), ("unicode/utf8.acceptRanges", laid_unicode_utf8_acceptRanges), ("unicode.CaseRanges", laid_unicode_CaseRanges), ("unicode/utf8.first", laid_unicode_utf8_first)] }
def NumberGrowsSaid : Prop := numberGrowsRow.holds Tryd.pinned (OpenSpec.ofChange numberGrowsSpec)

/-- ITS FALSE NEIGHBOUR: 'it returns false'. Refute it at one input. -/
def numberGrowsWrong : ChangeSpec := { name := "numberGrows", fn := fun _ => fun
  | [d1, d2, d3, d4] => { results := [.lit (.bool false)], args := [d1, d2, d3, d4] }
  | _ => none }
def NumberGrowsWrongFalsely : Prop := numberGrowsRow.holds Tryd.pinned (OpenSpec.ofChange numberGrowsWrong)

/-- 'proctorlaw5.NumberLetters': WHATEVER THE INPUT: true; the input reads as it did. -/
def numberLettersSpec : ChangeSpec := { name := "numberLetters", fn := fun _ => fun
  | [d1, d2] => { results := [.lit (.bool true)], args := [d1, d2] }
  | _ => none }
def numberLettersRow : OpenClaim := { program := "ytanpbphgmnjdeaadoor", sum := "0ef02a0f032db0608280e49e8fec1c837671991707d5260f705924f4b9f3359f", func := "proctor/proctorlaw5.NumberLetters", spec := "numberLetters", inPlace := ["internal/bytealg.IndexByteString", "internal/abi.NoEscape", "internal/bytealg.MakeNoZero"], unfollowed := true, recurses := true, named := ["internal/strconv.uint64pow10", "math/bits.deBruijn32tab", "math/bits.deBruijn64tab", "unicode/utf8.first", "unicode/utf8.acceptRanges", "unicode.CaseRanges"], apart := false, laid := [("math/bits.deBruijn32tab", laid_math_bits_deBruijn32tab), ("math/bits.deBruijn64tab", laid_math_bits_deBruijn64tab), ("internal/strconv.uint64pow10", laid_internal_strconv_uint64pow10), ("unicode/utf8.acceptRanges", laid_unicode_utf8_acceptRanges), ("unicode.CaseRanges", laid_unicode_CaseRanges), ("unicode/utf8.first", laid_unicode_utf8_first)] }
def NumberLettersSaid : Prop := numberLettersRow.holds Tryd.pinned (OpenSpec.ofChange numberLettersSpec)

/-- ITS FALSE NEIGHBOUR: 'it returns false'. Refute it at one input. -/
def numberLettersWrong : ChangeSpec := { name := "numberLetters", fn := fun _ => fun
  | [d1, d2] => { results := [.lit (.bool false)], args := [d1, d2] }
  | _ => none }
def NumberLettersWrongFalsely : Prop := numberLettersRow.holds Tryd.pinned (OpenSpec.ofChange numberLettersWrong)

/-- 'proctorlaw5.NumberOrder': WHATEVER THE INPUT: true; the input reads as it did. -/
def numberOrderSpec : ChangeSpec := { name := "numberOrder", fn := fun _ => fun
  | [d1, d2, d3] => { results := [.lit (.bool true)], args := [d1, d2, d3] }
  | _ => none }
def numberOrderRow : OpenClaim := { program := "ytanpbphgmnjdeaadoor", sum := "0ef02a0f032db0608280e49e8fec1c837671991707d5260f705924f4b9f3359f", func := "proctor/proctorlaw5.NumberOrder", spec := "numberOrder", inPlace := ["internal/bytealg.IndexByteString", "internal/abi.NoEscape", "internal/bytealg.MakeNoZero"], unfollowed := true, recurses := true, named := ["internal/strconv.uint64pow10", "math/bits.deBruijn32tab", "math/bits.deBruijn64tab", "unicode/utf8.first", "unicode/utf8.acceptRanges", "unicode.CaseRanges"], apart := false, laid := [("math/bits.deBruijn32tab", laid_math_bits_deBruijn32tab), ("math/bits.deBruijn64tab", laid_math_bits_deBruijn64tab), ("internal/strconv.uint64pow10", laid_internal_strconv_uint64pow10), ("unicode/utf8.acceptRanges", laid_unicode_utf8_acceptRanges), ("unicode.CaseRanges", laid_unicode_CaseRanges), ("unicode/utf8.first", laid_unicode_utf8_first)] }
def NumberOrderSaid : Prop := numberOrderRow.holds Tryd.pinned (OpenSpec.ofChange numberOrderSpec)

/-- ITS FALSE NEIGHBOUR: 'it returns false'. Refute it at one input. -/
def numberOrderWrong : ChangeSpec := { name := "numberOrder", fn := fun _ => fun
  | [d1, d2, d3] => { results := [.lit (.bool false)], args := [d1, d2, d3] }
  | _ => none }
def NumberOrderWrongFalsely : Prop := numberOrderRow.holds Tryd.pinned (OpenSpec.ofChange numberOrderWrong)

/- THE SECOND FORM. 'bulk': how many values and letters a reading holds, each counted each time it is reached (what is shared counts as often as it is met; a slice's spare places count too). A statement '..UptoSaid' is the law's where the arguments, and the package variables that the reading takes, are together of bulk at most 1048576: NARROWER than '..Said'. Prove '..Said' where nothing that the law and all that it calls make is longer than what came in: it says more and counts as full. Else prove '..UptoSaid'. A law counts once. -/
mutual
def uptoBulk {H : Type} : DataW H → Nat
  | .lit (.string bytes) => bytes.length + 1
  | .lit _ => 1
  | .nil => 1
  | .ptr d => uptoBulk d + 1
  | .slice elems spare => uptoBulkAll elems + uptoBulkAll spare + 1
  | .agg parts => uptoBulkAll parts + 1
  | .iface _ d => uptoBulk d + 1
  | .map entries => uptoBulkEntries entries + 1
  | .held _ => 1
def uptoBulkAll {H : Type} : List (DataW H) → Nat
  | [] => 0
  | d :: r => uptoBulk d + uptoBulkAll r
def uptoBulkEntries {H : Type} : List (Lit × DataW H) → Nat
  | [] => 0
  | x :: r => uptoBulkEntry x + uptoBulkEntries r
def uptoBulkEntry {H : Type} : Lit × DataW H → Nat
  | (.string bytes, d) => bytes.length + uptoBulk d + 1
  | (_, d) => uptoBulk d + 1
 end
def uptoSmall : (H : Type) → List (DataW H) → Bool := fun _ ds => decide (uptoBulkAll ds ≤ 1048576)
def OpenSpec.upto (s : _root_.Go.ChangeSpec) : _root_.Go.OpenSpec := { _root_.Go.OpenSpec.ofChange s with cond := some uptoSmall }

/-- 'proctorlaw7.CodePacks', WHERE WHAT IT READS IS OF BULK AT MOST 1048576: true; the input reads as it did. -/
def codePacksUptoRow : OpenClaim := { program := "ytanpbphgmnjdeaadoor", sum := "0ef02a0f032db0608280e49e8fec1c837671991707d5260f705924f4b9f3359f", func := "proctor/proctorlaw7.CodePacks", spec := "codePacks", inPlace := ["internal/abi.NoEscape", "internal/bytealg.MakeNoZero"], unfollowed := true, recurses := true, named := ["proctor/code.names", "unicode/utf8.first", "unicode/utf8.acceptRanges"], apart := false, laid := [("unicode/utf8.acceptRanges", laid_unicode_utf8_acceptRanges), ("proctor/code.names", laid_proctor_code_names), ("unicode/utf8.first", laid_unicode_utf8_first)], narrowed := true }
def CodePacksUptoSaid : Prop := codePacksUptoRow.holds Tryd.pinned (OpenSpec.upto codePacksSpec)

/-- 'proctorlaw7.CodeNames', WHERE WHAT IT READS IS OF BULK AT MOST 1048576: true; the input reads as it did. -/
def codeNamesUptoRow : OpenClaim := { program := "ytanpbphgmnjdeaadoor", sum := "0ef02a0f032db0608280e49e8fec1c837671991707d5260f705924f4b9f3359f", func := "proctor/proctorlaw7.CodeNames", spec := "codeNames", inPlace := ["internal/abi.NoEscape", "internal/bytealg.MakeNoZero"], unfollowed := true, recurses := true, named := ["proctor/code.names", "unicode/utf8.first", "unicode/utf8.acceptRanges"], apart := false, laid := [("unicode/utf8.acceptRanges", laid_unicode_utf8_acceptRanges), ("proctor/code.names", laid_proctor_code_names), ("unicode/utf8.first", laid_unicode_utf8_first)], narrowed := true }
def CodeNamesUptoSaid : Prop := codeNamesUptoRow.holds Tryd.pinned (OpenSpec.upto codeNamesSpec)

/-- 'proctorlaw7.CodeBack', WHERE WHAT IT READS IS OF BULK AT MOST 1048576: true; the input reads as it did. -/
def codeBackUptoRow : OpenClaim := { program := "ytanpbphgmnjdeaadoor", sum := "0ef02a0f032db0608280e49e8fec1c837671991707d5260f705924f4b9f3359f", func := "proctor/proctorlaw7.CodeBack", spec := "codeBack", inPlace := ["internal/abi.NoEscape", "internal/bytealg.MakeNoZero"], unfollowed := true, recurses := true, named := ["proctor/code.names", "unicode/utf8.first", "unicode/utf8.acceptRanges"], apart := false, laid := [("unicode/utf8.acceptRanges", laid_unicode_utf8_acceptRanges), ("proctor/code.names", laid_proctor_code_names), ("unicode/utf8.first", laid_unicode_utf8_first)], narrowed := true }
def CodeBackUptoSaid : Prop := codeBackUptoRow.holds Tryd.pinned (OpenSpec.upto codeBackSpec)

/-- 'proctorlaw7.CodeFetches', WHERE WHAT IT READS IS OF BULK AT MOST 1048576: true; the input reads as it did. -/
def codeFetchesUptoRow : OpenClaim := { program := "ytanpbphgmnjdeaadoor", sum := "0ef02a0f032db0608280e49e8fec1c837671991707d5260f705924f4b9f3359f", func := "proctor/proctorlaw7.CodeFetches", spec := "codeFetches", inPlace := ["internal/abi.NoEscape", "internal/bytealg.MakeNoZero"], unfollowed := true, recurses := true, named := ["proctor/code.names", "unicode/utf8.first", "unicode/utf8.acceptRanges"], apart := false, laid := [("unicode/utf8.acceptRanges", laid_unicode_utf8_acceptRanges), ("proctor/code.names", laid_proctor_code_names), ("unicode/utf8.first", laid_unicode_utf8_first)], narrowed := true }
def CodeFetchesUptoSaid : Prop := codeFetchesUptoRow.holds Tryd.pinned (OpenSpec.upto codeFetchesSpec)

/-- 'proctorlaw7.CodeLists', WHERE WHAT IT READS IS OF BULK AT MOST 1048576: true; the input reads as it did. -/
def codeListsUptoRow : OpenClaim := { program := "ytanpbphgmnjdeaadoor", sum := "0ef02a0f032db0608280e49e8fec1c837671991707d5260f705924f4b9f3359f", func := "proctor/proctorlaw7.CodeLists", spec := "codeLists", inPlace := ["internal/abi.NoEscape", "internal/bytealg.MakeNoZero"], unfollowed := true, recurses := true, named := ["proctor/code.names", "unicode/utf8.first", "unicode/utf8.acceptRanges", "internal/strconv.uint64pow10", "math/bits.deBruijn32tab", "math/bits.deBruijn64tab"], apart := false, laid := [("math/bits.deBruijn32tab", laid_math_bits_deBruijn32tab), ("math/bits.deBruijn64tab", laid_math_bits_deBruijn64tab), ("internal/strconv.uint64pow10", laid_internal_strconv_uint64pow10), ("unicode/utf8.acceptRanges", laid_unicode_utf8_acceptRanges), ("proctor/code.names", laid_proctor_code_names), ("unicode/utf8.first", laid_unicode_utf8_first)], narrowed := true }
def CodeListsUptoSaid : Prop := codeListsUptoRow.holds Tryd.pinned (OpenSpec.upto codeListsSpec)

/-- 'proctorlaw7.CodeLines', WHERE WHAT IT READS IS OF BULK AT MOST 1048576: true; the input reads as it did. -/
def codeLinesUptoRow : OpenClaim := { program := "ytanpbphgmnjdeaadoor", sum := "0ef02a0f032db0608280e49e8fec1c837671991707d5260f705924f4b9f3359f", func := "proctor/proctorlaw7.CodeLines", spec := "codeLines", inPlace := ["internal/abi.NoEscape", "internal/bytealg.MakeNoZero"], unfollowed := true, recurses := true, named := ["proctor/code.names", "unicode/utf8.first", "unicode/utf8.acceptRanges", "internal/strconv.uint64pow10", "math/bits.deBruijn32tab", "math/bits.deBruijn64tab"], apart := false, laid := [("math/bits.deBruijn32tab", laid_math_bits_deBruijn32tab), ("math/bits.deBruijn64tab", laid_math_bits_deBruijn64tab), ("internal/strconv.uint64pow10", laid_internal_strconv_uint64pow10), ("unicode/utf8.acceptRanges", laid_unicode_utf8_acceptRanges), ("proctor/code.names", laid_proctor_code_names), ("unicode/utf8.first", laid_unicode_utf8_first)], narrowed := true }
def CodeLinesUptoSaid : Prop := codeLinesUptoRow.holds Tryd.pinned (OpenSpec.upto codeLinesSpec)

/-- 'proctorlaw5.NumberParses', WHERE WHAT IT READS IS OF BULK AT MOST 1048576: true; the input reads as it did. -/
def numberParsesUptoRow : OpenClaim := { program := "ytanpbphgmnjdeaadoor", sum := "0ef02a0f032db0608280e49e8fec1c837671991707d5260f705924f4b9f3359f", func := "proctor/proctorlaw5.NumberParses", spec := "numberParses", inPlace := ["internal/bytealg.IndexByteString", "internal/abi.NoEscape", "internal/bytealg.MakeNoZero"], unfollowed := true, recurses := true, named := ["internal/strconv.uint64pow10", "math/bits.deBruijn32tab", "math/bits.deBruijn64tab", "unicode/utf8.first", "unicode/utf8.acceptRanges", "unicode.CaseRanges"], apart := false, laid := [("math/bits.deBruijn32tab", laid_math_bits_deBruijn32tab), ("math/bits.deBruijn64tab", laid_math_bits_deBruijn64tab), ("internal/strconv.uint64pow10", laid_internal_strconv_uint64pow10), ("unicode/utf8.acceptRanges", laid_unicode_utf8_acceptRanges), ("unicode.CaseRanges", laid_unicode_CaseRanges), ("unicode/utf8.first", laid_unicode_utf8_first)], narrowed := true }
def NumberParsesUptoSaid : Prop := numberParsesUptoRow.holds Tryd.pinned (OpenSpec.upto numberParsesSpec)

/-- 'proctorlaw5.NumberPrints', WHERE WHAT IT READS IS OF BULK AT MOST 1048576: true; the input reads as it did. -/
def numberPrintsUptoRow : OpenClaim := { program := "ytanpbphgmnjdeaadoor", sum := "0ef02a0f032db0608280e49e8fec1c837671991707d5260f705924f4b9f3359f", func := "proctor/proctorlaw5.NumberPrints", spec := "numberPrints", inPlace := ["internal/bytealg.IndexByteString", "internal/abi.NoEscape", "internal/bytealg.MakeNoZero"], unfollowed := true, recurses := true, named := ["internal/strconv.uint64pow10", "math/bits.deBruijn32tab", "math/bits.deBruijn64tab", "unicode/utf8.first", "unicode/utf8.acceptRanges", "unicode.CaseRanges"], apart := false, laid := [("math/bits.deBruijn32tab", laid_math_bits_deBruijn32tab), ("math/bits.deBruijn64tab", laid_math_bits_deBruijn64tab), ("internal/strconv.uint64pow10", laid_internal_strconv_uint64pow10), ("unicode/utf8.acceptRanges", laid_unicode_utf8_acceptRanges), ("unicode.CaseRanges", laid_unicode_CaseRanges), ("unicode/utf8.first", laid_unicode_utf8_first)], narrowed := true }
def NumberPrintsUptoSaid : Prop := numberPrintsUptoRow.holds Tryd.pinned (OpenSpec.upto numberPrintsSpec)

/-- 'proctorlaw5.NumberBack', WHERE WHAT IT READS IS OF BULK AT MOST 1048576: true; the input reads as it did. -/
def numberBackUptoRow : OpenClaim := { program := "ytanpbphgmnjdeaadoor", sum := "0ef02a0f032db0608280e49e8fec1c837671991707d5260f705924f4b9f3359f", func := "proctor/proctorlaw5.NumberBack", spec := "numberBack", inPlace := ["internal/bytealg.IndexByteString", "internal/abi.NoEscape", "internal/bytealg.MakeNoZero"], unfollowed := true, recurses := true, named := ["internal/strconv.uint64pow10", "math/bits.deBruijn32tab", "math/bits.deBruijn64tab", "unicode/utf8.first", "unicode/utf8.acceptRanges", "unicode.CaseRanges"], apart := false, laid := [("math/bits.deBruijn32tab", laid_math_bits_deBruijn32tab), ("math/bits.deBruijn64tab", laid_math_bits_deBruijn64tab), ("internal/strconv.uint64pow10", laid_internal_strconv_uint64pow10), ("unicode/utf8.acceptRanges", laid_unicode_utf8_acceptRanges), ("unicode.CaseRanges", laid_unicode_CaseRanges), ("unicode/utf8.first", laid_unicode_utf8_first)], narrowed := true }
def NumberBackUptoSaid : Prop := numberBackUptoRow.holds Tryd.pinned (OpenSpec.upto numberBackSpec)

/-- 'proctorlaw5.NumberGrows', WHERE WHAT IT READS IS OF BULK AT MOST 1048576: true; the input reads as it did. -/
def numberGrowsUptoRow : OpenClaim := { program := "ytanpbphgmnjdeaadoor", sum := "0ef02a0f032db0608280e49e8fec1c837671991707d5260f705924f4b9f3359f", func := "proctor/proctorlaw5.NumberGrows", spec := "numberGrows", inPlace := ["internal/bytealg.IndexByteString", "internal/abi.NoEscape", "internal/bytealg.MakeNoZero"], unfollowed := true, recurses := true, named := ["internal/strconv.uint64pow10", "math/bits.deBruijn32tab", "math/bits.deBruijn64tab", "unicode/utf8.first", "unicode/utf8.acceptRanges", "unicode.CaseRanges"], apart := false, laid := [("math/bits.deBruijn32tab", laid_math_bits_deBruijn32tab), ("math/bits.deBruijn64tab", laid_math_bits_deBruijn64tab), ("internal/strconv.uint64pow10", laid_internal_strconv_uint64pow10), ("unicode/utf8.acceptRanges", laid_unicode_utf8_acceptRanges), ("unicode.CaseRanges", laid_unicode_CaseRanges), ("unicode/utf8.first", laid_unicode_utf8_first)], narrowed := true }
def NumberGrowsUptoSaid : Prop := numberGrowsUptoRow.holds Tryd.pinned (OpenSpec.upto numberGrowsSpec)

/-- 'proctorlaw5.NumberLetters', WHERE WHAT IT READS IS OF BULK AT MOST 1048576: true; the input reads as it did. -/
def numberLettersUptoRow : OpenClaim := { program := "ytanpbphgmnjdeaadoor", sum := "0ef02a0f032db0608280e49e8fec1c837671991707d5260f705924f4b9f3359f", func := "proctor/proctorlaw5.NumberLetters", spec := "numberLetters", inPlace := ["internal/bytealg.IndexByteString", "internal/abi.NoEscape", "internal/bytealg.MakeNoZero"], unfollowed := true, recurses := true, named := ["internal/strconv.uint64pow10", "math/bits.deBruijn32tab", "math/bits.deBruijn64tab", "unicode/utf8.first", "unicode/utf8.acceptRanges", "unicode.CaseRanges"], apart := false, laid := [("math/bits.deBruijn32tab", laid_math_bits_deBruijn32tab), ("math/bits.deBruijn64tab", laid_math_bits_deBruijn64tab), ("internal/strconv.uint64pow10", laid_internal_strconv_uint64pow10), ("unicode/utf8.acceptRanges", laid_unicode_utf8_acceptRanges), ("unicode.CaseRanges", laid_unicode_CaseRanges), ("unicode/utf8.first", laid_unicode_utf8_first)], narrowed := true }
def NumberLettersUptoSaid : Prop := numberLettersUptoRow.holds Tryd.pinned (OpenSpec.upto numberLettersSpec)

/-- 'proctorlaw5.NumberOrder', WHERE WHAT IT READS IS OF BULK AT MOST 1048576: true; the input reads as it did. -/
def numberOrderUptoRow : OpenClaim := { program := "ytanpbphgmnjdeaadoor", sum := "0ef02a0f032db0608280e49e8fec1c837671991707d5260f705924f4b9f3359f", func := "proctor/proctorlaw5.NumberOrder", spec := "numberOrder", inPlace := ["internal/bytealg.IndexByteString", "internal/abi.NoEscape", "internal/bytealg.MakeNoZero"], unfollowed := true, recurses := true, named := ["internal/strconv.uint64pow10", "math/bits.deBruijn32tab", "math/bits.deBruijn64tab", "unicode/utf8.first", "unicode/utf8.acceptRanges", "unicode.CaseRanges"], apart := false, laid := [("math/bits.deBruijn32tab", laid_math_bits_deBruijn32tab), ("math/bits.deBruijn64tab", laid_math_bits_deBruijn64tab), ("internal/strconv.uint64pow10", laid_internal_strconv_uint64pow10), ("unicode/utf8.acceptRanges", laid_unicode_utf8_acceptRanges), ("unicode.CaseRanges", laid_unicode_CaseRanges), ("unicode/utf8.first", laid_unicode_utf8_first)], narrowed := true }
def NumberOrderUptoSaid : Prop := numberOrderUptoRow.holds Tryd.pinned (OpenSpec.upto numberOrderSpec)

end Rows
end Go.Proofs.YtanpbphgmnjdeaaDoor
