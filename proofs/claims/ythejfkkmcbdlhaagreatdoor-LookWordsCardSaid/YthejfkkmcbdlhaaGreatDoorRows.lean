/-
  NARROWER THAN 'FOR EVERY INPUT', by the rows' own cells (each row's printed sentence says how): LookWords: laid · LookLess: laid · LookShadows: laid · LookComposes: laid.
  DERIVED. THE GIVEN ROWS OF THIS SEAT. 4 by the template 'for every input the law returns true; each argument reads behind the call as it read before'; 0 by the template 'total and deterministic' (their statements: YthejfkkmcbdlhaaGreatDoorTotals.lean).
  GIVEN WITH THE SEED: the statements are not yours to turn. If you find one false, say at which input.
  Laid BY PROGRAM, IN A SANDBOX (cutbox-rows.mjs): the forced cells as the released guide's own fill.sh prints them over the translation c50644f5ca487a0f… (all of the seat's roots in one cut). By AI agents, Wed Nov 11 2026. No macro, syntax, notation, axiom, sorry.
-/
import Derived.Test.YthejfkkmcbdlhaaGreatDoorChecked
import GoSem.PinnedTables
import GoSem.Claim
import GoSem.ClaimJoined
import GoSem.ClaimMapViews
import Derived.JoinedTies
import Derived.KernelRfl
namespace Go.Proofs.YthejfkkmcbdlhaaGreatDoor
/- THE CELL 'sum', in the pinned program and in every row, IS THE sha256 OF THE DUMP (.gsa) THAT YthejfkkmcbdlhaaGreatDoorProg.lean LOADS. Nothing in Lean hashes anything: it is a label: what it is worth is what the hold of that sum in a sandbox is worth. -/
noncomputable def Tryz.pinned : Pinned := { name := "ythejfkkmcbdlhaagreatdoor", sum := "c50644f5ca487a0f1139a910c544635cf4cd1803c0216595f120c641d47852d1", checked := Tryz.checked }
namespace Rows
def none {H : Type} : Left H := { results := [], args := [] }

/- WHAT THE LISTED PACKAGE-LEVEL VARIABLES READ AS WHEN THE CALL BEGINS. Each datum BY PROGRAM (the guide's laid-datum.mjs) off the statement by which the dump's own 'gosem.cut.vars' lays the variable. In a bare row this is a premise. The card (YthejfkkmcbdlhaaGreatDoorCards.lean) ties it to the program's text. -/
def laid_unicode_utf8_acceptRanges {H : Type} : DataW H := .agg [.agg [.lit (.int .u8 128), .lit (.int .u8 191)], .agg [.lit (.int .u8 160), .lit (.int .u8 191)], .agg [.lit (.int .u8 128), .lit (.int .u8 159)], .agg [.lit (.int .u8 144), .lit (.int .u8 191)], .agg [.lit (.int .u8 128), .lit (.int .u8 143)], .agg [.lit (.int .u8 0), .lit (.int .u8 0)], .agg [.lit (.int .u8 0), .lit (.int .u8 0)], .agg [.lit (.int .u8 0), .lit (.int .u8 0)], .agg [.lit (.int .u8 0), .lit (.int .u8 0)], .agg [.lit (.int .u8 0), .lit (.int .u8 0)], .agg [.lit (.int .u8 0), .lit (.int .u8 0)], .agg [.lit (.int .u8 0), .lit (.int .u8 0)], .agg [.lit (.int .u8 0), .lit (.int .u8 0)], .agg [.lit (.int .u8 0), .lit (.int .u8 0)], .agg [.lit (.int .u8 0), .lit (.int .u8 0)], .agg [.lit (.int .u8 0), .lit (.int .u8 0)]]
def laid_unicode_White_Space {H : Type} : DataW H := .ptr (.agg [.slice [.agg [.lit (.int .u16 9), .lit (.int .u16 13), .lit (.int .u16 1)], .agg [.lit (.int .u16 32), .lit (.int .u16 133), .lit (.int .u16 101)], .agg [.lit (.int .u16 160), .lit (.int .u16 5760), .lit (.int .u16 5600)], .agg [.lit (.int .u16 8192), .lit (.int .u16 8202), .lit (.int .u16 1)], .agg [.lit (.int .u16 8232), .lit (.int .u16 8233), .lit (.int .u16 1)], .agg [.lit (.int .u16 8239), .lit (.int .u16 8287), .lit (.int .u16 48)], .agg [.lit (.int .u16 12288), .lit (.int .u16 12288), .lit (.int .u16 1)]] [], .nil, .lit (.int .i64 2)])
def laid_strings_asciiSpace {H : Type} : DataW H := .agg [.lit (.int .u8 0), .lit (.int .u8 0), .lit (.int .u8 0), .lit (.int .u8 0), .lit (.int .u8 0), .lit (.int .u8 0), .lit (.int .u8 0), .lit (.int .u8 0), .lit (.int .u8 0), .lit (.int .u8 1), .lit (.int .u8 1), .lit (.int .u8 1), .lit (.int .u8 1), .lit (.int .u8 1), .lit (.int .u8 0), .lit (.int .u8 0), .lit (.int .u8 0), .lit (.int .u8 0), .lit (.int .u8 0), .lit (.int .u8 0), .lit (.int .u8 0), .lit (.int .u8 0), .lit (.int .u8 0), .lit (.int .u8 0), .lit (.int .u8 0), .lit (.int .u8 0), .lit (.int .u8 0), .lit (.int .u8 0), .lit (.int .u8 0), .lit (.int .u8 0), .lit (.int .u8 0), .lit (.int .u8 0), .lit (.int .u8 1), .lit (.int .u8 0), .lit (.int .u8 0), .lit (.int .u8 0), .lit (.int .u8 0), .lit (.int .u8 0), .lit (.int .u8 0), .lit (.int .u8 0), .lit (.int .u8 0), .lit (.int .u8 0), .lit (.int .u8 0), .lit (.int .u8 0), .lit (.int .u8 0), .lit (.int .u8 0), .lit (.int .u8 0), .lit (.int .u8 0), .lit (.int .u8 0), .lit (.int .u8 0), .lit (.int .u8 0), .lit (.int .u8 0), .lit (.int .u8 0), .lit (.int .u8 0), .lit (.int .u8 0), .lit (.int .u8 0), .lit (.int .u8 0), .lit (.int .u8 0), .lit (.int .u8 0), .lit (.int .u8 0), .lit (.int .u8 0), .lit (.int .u8 0), .lit (.int .u8 0), .lit (.int .u8 0), .lit (.int .u8 0), .lit (.int .u8 0), .lit (.int .u8 0), .lit (.int .u8 0), .lit (.int .u8 0), .lit (.int .u8 0), .lit (.int .u8 0), .lit (.int .u8 0), .lit (.int .u8 0), .lit (.int .u8 0), .lit (.int .u8 0), .lit (.int .u8 0), .lit (.int .u8 0), .lit (.int .u8 0), .lit (.int .u8 0), .lit (.int .u8 0), .lit (.int .u8 0), .lit (.int .u8 0), .lit (.int .u8 0), .lit (.int .u8 0), .lit (.int .u8 0), .lit (.int .u8 0), .lit (.int .u8 0), .lit (.int .u8 0), .lit (.int .u8 0), .lit (.int .u8 0), .lit (.int .u8 0), .lit (.int .u8 0), .lit (.int .u8 0), .lit (.int .u8 0), .lit (.int .u8 0), .lit (.int .u8 0), .lit (.int .u8 0), .lit (.int .u8 0), .lit (.int .u8 0), .lit (.int .u8 0), .lit (.int .u8 0), .lit (.int .u8 0), .lit (.int .u8 0), .lit (.int .u8 0), .lit (.int .u8 0), .lit (.int .u8 0), .lit (.int .u8 0), .lit (.int .u8 0), .lit (.int .u8 0), .lit (.int .u8 0), .lit (.int .u8 0), .lit (.int .u8 0), .lit (.int .u8 0), .lit (.int .u8 0), .lit (.int .u8 0), .lit (.int .u8 0), .lit (.int .u8 0), .lit (.int .u8 0), .lit (.int .u8 0), .lit (.int .u8 0), .lit (.int .u8 0), .lit (.int .u8 0), .lit (.int .u8 0), .lit (.int .u8 0), .lit (.int .u8 0), .lit (.int .u8 0), .lit (.int .u8 0), .lit (.int .u8 0), .lit (.int .u8 0), .lit (.int .u8 0), .lit (.int .u8 0), .lit (.int .u8 0), .lit (.int .u8 0), .lit (.int .u8 0), .lit (.int .u8 0), .lit (.int .u8 0), .lit (.int .u8 0), .lit (.int .u8 0), .lit (.int .u8 0), .lit (.int .u8 0), .lit (.int .u8 0), .lit (.int .u8 0), .lit (.int .u8 0), .lit (.int .u8 0), .lit (.int .u8 0), .lit (.int .u8 0), .lit (.int .u8 0), .lit (.int .u8 0), .lit (.int .u8 0), .lit (.int .u8 0), .lit (.int .u8 0), .lit (.int .u8 0), .lit (.int .u8 0), .lit (.int .u8 0), .lit (.int .u8 0), .lit (.int .u8 0), .lit (.int .u8 0), .lit (.int .u8 0), .lit (.int .u8 0), .lit (.int .u8 0), .lit (.int .u8 0), .lit (.int .u8 0), .lit (.int .u8 0), .lit (.int .u8 0), .lit (.int .u8 0), .lit (.int .u8 0), .lit (.int .u8 0), .lit (.int .u8 0), .lit (.int .u8 0), .lit (.int .u8 0), .lit (.int .u8 0), .lit (.int .u8 0), .lit (.int .u8 0), .lit (.int .u8 0), .lit (.int .u8 0), .lit (.int .u8 0), .lit (.int .u8 0), .lit (.int .u8 0), .lit (.int .u8 0), .lit (.int .u8 0), .lit (.int .u8 0), .lit (.int .u8 0), .lit (.int .u8 0), .lit (.int .u8 0), .lit (.int .u8 0), .lit (.int .u8 0), .lit (.int .u8 0), .lit (.int .u8 0), .lit (.int .u8 0), .lit (.int .u8 0), .lit (.int .u8 0), .lit (.int .u8 0), .lit (.int .u8 0), .lit (.int .u8 0), .lit (.int .u8 0), .lit (.int .u8 0), .lit (.int .u8 0), .lit (.int .u8 0), .lit (.int .u8 0), .lit (.int .u8 0), .lit (.int .u8 0), .lit (.int .u8 0), .lit (.int .u8 0), .lit (.int .u8 0), .lit (.int .u8 0), .lit (.int .u8 0), .lit (.int .u8 0), .lit (.int .u8 0), .lit (.int .u8 0), .lit (.int .u8 0), .lit (.int .u8 0), .lit (.int .u8 0), .lit (.int .u8 0), .lit (.int .u8 0), .lit (.int .u8 0), .lit (.int .u8 0), .lit (.int .u8 0), .lit (.int .u8 0), .lit (.int .u8 0), .lit (.int .u8 0), .lit (.int .u8 0), .lit (.int .u8 0), .lit (.int .u8 0), .lit (.int .u8 0), .lit (.int .u8 0), .lit (.int .u8 0), .lit (.int .u8 0), .lit (.int .u8 0), .lit (.int .u8 0), .lit (.int .u8 0), .lit (.int .u8 0), .lit (.int .u8 0), .lit (.int .u8 0), .lit (.int .u8 0), .lit (.int .u8 0), .lit (.int .u8 0), .lit (.int .u8 0), .lit (.int .u8 0), .lit (.int .u8 0), .lit (.int .u8 0), .lit (.int .u8 0), .lit (.int .u8 0), .lit (.int .u8 0), .lit (.int .u8 0), .lit (.int .u8 0), .lit (.int .u8 0), .lit (.int .u8 0), .lit (.int .u8 0), .lit (.int .u8 0), .lit (.int .u8 0), .lit (.int .u8 0), .lit (.int .u8 0), .lit (.int .u8 0), .lit (.int .u8 0), .lit (.int .u8 0), .lit (.int .u8 0)]
def laid_proctor_code_names {H : Type} : DataW H := .agg [.lit (.string [40, 101, 120, 105, 116, 41]), .lit (.string [40, 108, 105, 116, 41]), .lit (.string [40, 99, 97, 108, 108, 41]), .lit (.string [40, 106, 117, 109, 112, 41]), .lit (.string [40, 122, 101, 114, 111, 41]), .lit (.string [40, 100, 111, 41]), .lit (.string [40, 63, 100, 111, 41]), .lit (.string [40, 108, 111, 111, 112, 41]), .lit (.string [40, 43, 108, 111, 111, 112, 41]), .lit (.string [85, 78, 76, 79, 79, 80]), .lit (.string [73]), .lit (.string [74]), .lit (.string [62, 82]), .lit (.string [82, 62]), .lit (.string [82, 64]), .lit (.string [69, 88, 69, 67, 85, 84, 69]), .lit (.string [40, 99, 114, 101, 97, 116, 101, 100, 41]), .lit (.string [40, 100, 111, 101, 115, 41]), .lit (.string [40, 116, 101, 120, 116, 41]), .lit (.string [40, 115, 112, 101, 99, 105, 97, 108, 41]), .lit (.string [68, 85, 80]), .lit (.string [68, 82, 79, 80]), .lit (.string [83, 87, 65, 80]), .lit (.string [79, 86, 69, 82]), .lit (.string [82, 79, 84]), .lit (.string [63, 68, 85, 80]), .lit (.string [78, 73, 80]), .lit (.string [84, 85, 67, 75]), .lit (.string [80, 73, 67, 75]), .lit (.string [68, 69, 80, 84, 72]), .lit (.string [43]), .lit (.string [45]), .lit (.string [42]), .lit (.string [47]), .lit (.string [77, 79, 68]), .lit (.string [47, 77, 79, 68]), .lit (.string [42, 47]), .lit (.string [42, 47, 77, 79, 68]), .lit (.string [78, 69, 71, 65, 84, 69]), .lit (.string [65, 66, 83]), .lit (.string [77, 73, 78]), .lit (.string [77, 65, 88]), .lit (.string [49, 43]), .lit (.string [49, 45]), .lit (.string [50, 42]), .lit (.string [50, 47]), .lit (.string [65, 78, 68]), .lit (.string [79, 82]), .lit (.string [88, 79, 82]), .lit (.string [73, 78, 86, 69, 82, 84]), .lit (.string [76, 83, 72, 73, 70, 84]), .lit (.string [82, 83, 72, 73, 70, 84]), .lit (.string [77, 42]), .lit (.string [85, 77, 42]), .lit (.string [85, 77, 47, 77, 79, 68]), .lit (.string [83, 77, 47, 82, 69, 77]), .lit (.string [70, 77, 47, 77, 79, 68]), .lit (.string [61]), .lit (.string [60, 62]), .lit (.string [60]), .lit (.string [62]), .lit (.string [85, 60]), .lit (.string [48, 61]), .lit (.string [48, 60]), .lit (.string [64]), .lit (.string [33]), .lit (.string [67, 64]), .lit (.string [67, 33]), .lit (.string [43, 33]), .lit (.string [77, 79, 86, 69]), .lit (.string [70, 73, 76, 76]), .lit (.string [72, 69, 82, 69]), .lit (.string [65, 76, 76, 79, 84]), .lit (.string [44]), .lit (.string [67, 44]), .lit (.string [65, 76, 73, 71, 78]), .lit (.string [66, 65, 83, 69]), .lit (.string [69, 77, 73, 84]), .lit (.string [84, 89, 80, 69]), .lit (.string [46]), .lit (.string [85, 46]), .lit (.string [46, 82]), .lit (.string [75, 69, 89]), .lit (.string [65, 67, 67, 69, 80, 84]), .lit (.string [67, 82, 69, 65, 84, 69]), .lit (.string [70, 73, 78, 68]), .lit (.string [83, 69, 67, 82, 69, 84]), .lit (.string [86, 69, 82, 68, 73, 67, 84]), .lit (.string [82, 69, 83, 85, 76, 84]), .lit (.string [85, 83, 69, 68]), .lit (.string [79, 85, 84, 35]), .lit (.string [79, 85, 84, 64]), .lit (.string [65, 83, 75]), .lit (.string [90, 43]), .lit (.string [90, 45]), .lit (.string [90, 42]), .lit (.string [90, 67, 79, 78, 74]), .lit (.string [90, 78, 79, 82, 77]), .lit (.string [90, 84, 85, 82, 78]), .lit (.string [70, 79, 82, 87, 65, 82, 68]), .lit (.string [84, 85, 82, 78]), .lit (.string [80, 69, 78]), .lit (.string [72, 79, 77, 69]), .lit (.string [87, 72, 69, 82, 69]), .lit (.string [65, 66, 79, 82, 84]), .lit (.string [78, 79, 80])]
/-- One of Go's own tables, pinned by name: the form's constant. -/
def laid_unicode_utf8_first : DataW Unit := Go.Pinned.utf8First

/-- 'proctorlaw19.LookWords': WHATEVER THE INPUT: true; the input reads as it did. -/
def lookWordsSpec : ChangeSpec := { name := "lookWords", fn := fun _ => fun
  | [d] => { results := [.lit (.bool true)], args := [d] }
  | _ => none }
def lookWordsRow : OpenClaim := { program := "ythejfkkmcbdlhaagreatdoor", sum := "c50644f5ca487a0f1139a910c544635cf4cd1803c0216595f120c641d47852d1", func := "proctor/proctorlaw19.LookWords", spec := "lookWords", inPlace := ["internal/abi.NoEscape", "internal/bytealg.MakeNoZero", "internal/bytealg.IndexByteString", "internal/bytealg.abigen_runtime_cmpstring"], unfollowed := true, recurses := true, named := ["proctor/code.names", "strings.asciiSpace", "unicode.White_Space", "unicode/utf8.first", "unicode/utf8.acceptRanges"], apart := false, laid := [("unicode/utf8.acceptRanges", laid_unicode_utf8_acceptRanges), ("unicode.White_Space", laid_unicode_White_Space), ("strings.asciiSpace", laid_strings_asciiSpace), ("proctor/code.names", laid_proctor_code_names), ("unicode/utf8.first", laid_unicode_utf8_first)] }
def LookWordsSaid : Prop := lookWordsRow.holds Tryz.pinned (OpenSpec.ofChange lookWordsSpec)

/-- ITS FALSE NEIGHBOUR: 'it returns false'. Refute it at one input. -/
def lookWordsWrong : ChangeSpec := { name := "lookWords", fn := fun _ => fun
  | [d] => { results := [.lit (.bool false)], args := [d] }
  | _ => none }
def LookWordsWrongFalsely : Prop := lookWordsRow.holds Tryz.pinned (OpenSpec.ofChange lookWordsWrong)

/-- 'proctorlaw19.LookLess': WHATEVER THE INPUT: true; the input reads as it did. -/
def lookLessSpec : ChangeSpec := { name := "lookLess", fn := fun _ => fun
  | [d1, d2] => { results := [.lit (.bool true)], args := [d1, d2] }
  | _ => none }
def lookLessRow : OpenClaim := { program := "ythejfkkmcbdlhaagreatdoor", sum := "c50644f5ca487a0f1139a910c544635cf4cd1803c0216595f120c641d47852d1", func := "proctor/proctorlaw19.LookLess", spec := "lookLess", inPlace := ["internal/abi.NoEscape", "internal/bytealg.MakeNoZero", "internal/bytealg.IndexByteString", "internal/bytealg.abigen_runtime_cmpstring"], unfollowed := true, recurses := true, named := ["proctor/code.names", "strings.asciiSpace", "unicode.White_Space", "unicode/utf8.first", "unicode/utf8.acceptRanges"], apart := false, laid := [("unicode/utf8.acceptRanges", laid_unicode_utf8_acceptRanges), ("unicode.White_Space", laid_unicode_White_Space), ("strings.asciiSpace", laid_strings_asciiSpace), ("proctor/code.names", laid_proctor_code_names), ("unicode/utf8.first", laid_unicode_utf8_first)] }
def LookLessSaid : Prop := lookLessRow.holds Tryz.pinned (OpenSpec.ofChange lookLessSpec)

/-- ITS FALSE NEIGHBOUR: 'it returns false'. Refute it at one input. -/
def lookLessWrong : ChangeSpec := { name := "lookLess", fn := fun _ => fun
  | [d1, d2] => { results := [.lit (.bool false)], args := [d1, d2] }
  | _ => none }
def LookLessWrongFalsely : Prop := lookLessRow.holds Tryz.pinned (OpenSpec.ofChange lookLessWrong)

/-- 'proctorlaw19.LookShadows': WHATEVER THE INPUT: true; the input reads as it did. -/
def lookShadowsSpec : ChangeSpec := { name := "lookShadows", fn := fun _ => fun
  | [d] => { results := [.lit (.bool true)], args := [d] }
  | _ => none }
def lookShadowsRow : OpenClaim := { program := "ythejfkkmcbdlhaagreatdoor", sum := "c50644f5ca487a0f1139a910c544635cf4cd1803c0216595f120c641d47852d1", func := "proctor/proctorlaw19.LookShadows", spec := "lookShadows", inPlace := ["internal/abi.NoEscape", "internal/bytealg.MakeNoZero", "internal/bytealg.IndexByteString", "internal/bytealg.abigen_runtime_cmpstring"], unfollowed := true, recurses := true, named := ["proctor/code.names", "strings.asciiSpace", "unicode.White_Space", "unicode/utf8.first", "unicode/utf8.acceptRanges"], apart := false, laid := [("unicode/utf8.acceptRanges", laid_unicode_utf8_acceptRanges), ("unicode.White_Space", laid_unicode_White_Space), ("strings.asciiSpace", laid_strings_asciiSpace), ("proctor/code.names", laid_proctor_code_names), ("unicode/utf8.first", laid_unicode_utf8_first)] }
def LookShadowsSaid : Prop := lookShadowsRow.holds Tryz.pinned (OpenSpec.ofChange lookShadowsSpec)

/-- ITS FALSE NEIGHBOUR: 'it returns false'. Refute it at one input. -/
def lookShadowsWrong : ChangeSpec := { name := "lookShadows", fn := fun _ => fun
  | [d] => { results := [.lit (.bool false)], args := [d] }
  | _ => none }
def LookShadowsWrongFalsely : Prop := lookShadowsRow.holds Tryz.pinned (OpenSpec.ofChange lookShadowsWrong)

/-- 'proctorlaw19.LookComposes': WHATEVER THE INPUT: true; the input reads as it did. -/
def lookComposesSpec : ChangeSpec := { name := "lookComposes", fn := fun _ => fun
  | [d1, d2] => { results := [.lit (.bool true)], args := [d1, d2] }
  | _ => none }
def lookComposesRow : OpenClaim := { program := "ythejfkkmcbdlhaagreatdoor", sum := "c50644f5ca487a0f1139a910c544635cf4cd1803c0216595f120c641d47852d1", func := "proctor/proctorlaw19.LookComposes", spec := "lookComposes", inPlace := ["internal/abi.NoEscape", "internal/bytealg.MakeNoZero", "internal/bytealg.IndexByteString", "internal/bytealg.abigen_runtime_cmpstring"], unfollowed := true, recurses := true, named := ["proctor/code.names", "strings.asciiSpace", "unicode.White_Space", "unicode/utf8.first", "unicode/utf8.acceptRanges"], apart := false, laid := [("unicode/utf8.acceptRanges", laid_unicode_utf8_acceptRanges), ("unicode.White_Space", laid_unicode_White_Space), ("strings.asciiSpace", laid_strings_asciiSpace), ("proctor/code.names", laid_proctor_code_names), ("unicode/utf8.first", laid_unicode_utf8_first)] }
def LookComposesSaid : Prop := lookComposesRow.holds Tryz.pinned (OpenSpec.ofChange lookComposesSpec)

/-- ITS FALSE NEIGHBOUR: 'it returns false'. Refute it at one input. -/
def lookComposesWrong : ChangeSpec := { name := "lookComposes", fn := fun _ => fun
  | [d1, d2] => { results := [.lit (.bool false)], args := [d1, d2] }
  | _ => none }
def LookComposesWrongFalsely : Prop := lookComposesRow.holds Tryz.pinned (OpenSpec.ofChange lookComposesWrong)

/- THE SECOND FORM. 'bulk': how many values and letters a reading holds, each counted each time it is reached (what is shared counts as often as it is met; a slice's spare places count too). A statement '..UptoSaid' is the law's where the arguments, and the package variables that the reading takes, are together of bulk at most 1048576: NARROWER than '..Said'. Prove '..Said' where nothing that the law and all that it calls make is longer than what came in: it says more and counts as full. Else prove '..UptoSaid'. A law counts once. -/
mutual
def uptoBulk {H : Type} : DataW H → Nat
  | .lit (.string bytes) => bytes.length + 1
  | .lit _ => 1
  | .nil => 1
  | .ptr d => uptoBulk d + 1
  | .slice elems spare => uptoBulkAll elems + uptoBulkAll spare + 1
  | .agg parts => uptoBulkAll parts + 1
  | .iface _ d => uptoBulk d + 1
  | .map entries => uptoBulkEntries entries + 1
  | .held _ => 1
def uptoBulkAll {H : Type} : List (DataW H) → Nat
  | [] => 0
  | d :: r => uptoBulk d + uptoBulkAll r
def uptoBulkEntries {H : Type} : List (Lit × DataW H) → Nat
  | [] => 0
  | x :: r => uptoBulkEntry x + uptoBulkEntries r
def uptoBulkEntry {H : Type} : Lit × DataW H → Nat
  | (.string bytes, d) => bytes.length + uptoBulk d + 1
  | (_, d) => uptoBulk d + 1
 end
def uptoSmall : (H : Type) → List (DataW H) → Bool := fun _ ds => decide (uptoBulkAll ds ≤ 1048576)
def OpenSpec.upto (s : _root_.Go.ChangeSpec) : _root_.Go.OpenSpec := { _root_.Go.OpenSpec.ofChange s with cond := some uptoSmall }

/-- 'proctorlaw19.LookWords', WHERE WHAT IT READS IS OF BULK AT MOST 1048576: true; the input reads as it did. -/
def lookWordsUptoRow : OpenClaim := { program := "ythejfkkmcbdlhaagreatdoor", sum := "c50644f5ca487a0f1139a910c544635cf4cd1803c0216595f120c641d47852d1", func := "proctor/proctorlaw19.LookWords", spec := "lookWords", inPlace := ["internal/abi.NoEscape", "internal/bytealg.MakeNoZero", "internal/bytealg.IndexByteString", "internal/bytealg.abigen_runtime_cmpstring"], unfollowed := true, recurses := true, named := ["proctor/code.names", "strings.asciiSpace", "unicode.White_Space", "unicode/utf8.first", "unicode/utf8.acceptRanges"], apart := false, laid := [("unicode/utf8.acceptRanges", laid_unicode_utf8_acceptRanges), ("unicode.White_Space", laid_unicode_White_Space), ("strings.asciiSpace", laid_strings_asciiSpace), ("proctor/code.names", laid_proctor_code_names), ("unicode/utf8.first", laid_unicode_utf8_first)], narrowed := true }
def LookWordsUptoSaid : Prop := lookWordsUptoRow.holds Tryz.pinned (OpenSpec.upto lookWordsSpec)

/-- 'proctorlaw19.LookLess', WHERE WHAT IT READS IS OF BULK AT MOST 1048576: true; the input reads as it did. -/
def lookLessUptoRow : OpenClaim := { program := "ythejfkkmcbdlhaagreatdoor", sum := "c50644f5ca487a0f1139a910c544635cf4cd1803c0216595f120c641d47852d1", func := "proctor/proctorlaw19.LookLess", spec := "lookLess", inPlace := ["internal/abi.NoEscape", "internal/bytealg.MakeNoZero", "internal/bytealg.IndexByteString", "internal/bytealg.abigen_runtime_cmpstring"], unfollowed := true, recurses := true, named := ["proctor/code.names", "strings.asciiSpace", "unicode.White_Space", "unicode/utf8.first", "unicode/utf8.acceptRanges"], apart := false, laid := [("unicode/utf8.acceptRanges", laid_unicode_utf8_acceptRanges), ("unicode.White_Space", laid_unicode_White_Space), ("strings.asciiSpace", laid_strings_asciiSpace), ("proctor/code.names", laid_proctor_code_names), ("unicode/utf8.first", laid_unicode_utf8_first)], narrowed := true }
def LookLessUptoSaid : Prop := lookLessUptoRow.holds Tryz.pinned (OpenSpec.upto lookLessSpec)

/-- 'proctorlaw19.LookShadows', WHERE WHAT IT READS IS OF BULK AT MOST 1048576: true; the input reads as it did. -/
def lookShadowsUptoRow : OpenClaim := { program := "ythejfkkmcbdlhaagreatdoor", sum := "c50644f5ca487a0f1139a910c544635cf4cd1803c0216595f120c641d47852d1", func := "proctor/proctorlaw19.LookShadows", spec := "lookShadows", inPlace := ["internal/abi.NoEscape", "internal/bytealg.MakeNoZero", "internal/bytealg.IndexByteString", "internal/bytealg.abigen_runtime_cmpstring"], unfollowed := true, recurses := true, named := ["proctor/code.names", "strings.asciiSpace", "unicode.White_Space", "unicode/utf8.first", "unicode/utf8.acceptRanges"], apart := false, laid := [("unicode/utf8.acceptRanges", laid_unicode_utf8_acceptRanges), ("unicode.White_Space", laid_unicode_White_Space), ("strings.asciiSpace", laid_strings_asciiSpace), ("proctor/code.names", laid_proctor_code_names), ("unicode/utf8.first", laid_unicode_utf8_first)], narrowed := true }
def LookShadowsUptoSaid : Prop := lookShadowsUptoRow.holds Tryz.pinned (OpenSpec.upto lookShadowsSpec)

/-- 'proctorlaw19.LookComposes', WHERE WHAT IT READS IS OF BULK AT MOST 1048576: true; the input reads as it did. -/
def lookComposesUptoRow : OpenClaim := { program := "ythejfkkmcbdlhaagreatdoor", sum := "c50644f5ca487a0f1139a910c544635cf4cd1803c0216595f120c641d47852d1", func := "proctor/proctorlaw19.LookComposes", spec := "lookComposes", inPlace := ["internal/abi.NoEscape", "internal/bytealg.MakeNoZero", "internal/bytealg.IndexByteString", "internal/bytealg.abigen_runtime_cmpstring"], unfollowed := true, recurses := true, named := ["proctor/code.names", "strings.asciiSpace", "unicode.White_Space", "unicode/utf8.first", "unicode/utf8.acceptRanges"], apart := false, laid := [("unicode/utf8.acceptRanges", laid_unicode_utf8_acceptRanges), ("unicode.White_Space", laid_unicode_White_Space), ("strings.asciiSpace", laid_strings_asciiSpace), ("proctor/code.names", laid_proctor_code_names), ("unicode/utf8.first", laid_unicode_utf8_first)], narrowed := true }
def LookComposesUptoSaid : Prop := lookComposesUptoRow.holds Tryz.pinned (OpenSpec.upto lookComposesSpec)

end Rows
end Go.Proofs.YthejfkkmcbdlhaaGreatDoor
