/-
  No cell of these rows narrows 'for every input' (looked for: loops, veiled, ifaces, maps, wideKeys, modest, calm, conditions, laid).
  DERIVED. THE GIVEN ROWS OF THIS SEAT. 6 by the template 'for every input the law returns true; each argument reads behind the call as it read before'; 0 by the template 'total and deterministic' (their statements: YtobneijdhedckaaTotals.lean).
  GIVEN WITH THE SEED: the statements are not yours to turn. If you find one false, say at which input.
  Laid BY PROGRAM, IN A SANDBOX (cutbox-rows.mjs): the forced cells as the released guide's own fill.sh prints them over the translation 3538b1962d0b195f… (all of the seat's roots in one cut). By AI agents, Wed Nov 11 2026. No macro, syntax, notation, axiom, sorry.
-/
import Derived.Test.YtobneijdhedckaaChecked
import GoSem.Claim
import GoSem.ClaimJoined
import GoSem.ClaimMapViews
import Derived.JoinedTies
import Derived.KernelRfl
namespace Go.Proofs.Ytobneijdhedckaa
/- THE CELL 'sum', in the pinned program and in every row, IS THE sha256 OF THE DUMP (.gsa) THAT YtobneijdhedckaaProg.lean LOADS. Nothing in Lean hashes anything: it is a label: what it is worth is what the hold of that sum in a sandbox is worth. -/
noncomputable def Try.pinned : Pinned := { name := "ytobneijdhedckaa", sum := "3538b1962d0b195f82e98d1e0cdd09a29e09e222ed2367c14889756051e23e97", checked := Try.checked }
namespace Rows
def none {H : Type} : Left H := { results := [], args := [] }

/-- 'proctorlaw9.CapsMakes': WHATEVER THE INPUT: true; the input reads as it did. -/
def capsMakesSpec : ChangeSpec := { name := "capsMakes", fn := fun _ => fun
  | [d1, d2, d3, d4, d5] => { results := [.lit (.bool true)], args := [d1, d2, d3, d4, d5] }
  | _ => none }
def capsMakesRow : OpenClaim := { program := "ytobneijdhedckaa", sum := "3538b1962d0b195f82e98d1e0cdd09a29e09e222ed2367c14889756051e23e97", func := "proctor/proctorlaw9.CapsMakes", spec := "capsMakes", inPlace := ["internal/bytealg.IndexByteString"], unfollowed := true, recurses := true, apart := false }
def CapsMakesSaid : Prop := capsMakesRow.holds Try.pinned (OpenSpec.ofChange capsMakesSpec)

/-- ITS FALSE NEIGHBOUR: 'it returns false'. Refute it at one input. -/
def capsMakesWrong : ChangeSpec := { name := "capsMakes", fn := fun _ => fun
  | [d1, d2, d3, d4, d5] => { results := [.lit (.bool false)], args := [d1, d2, d3, d4, d5] }
  | _ => none }
def CapsMakesWrongFalsely : Prop := capsMakesRow.holds Try.pinned (OpenSpec.ofChange capsMakesWrong)

/-- 'proctorlaw9.CapsRoom': WHATEVER THE INPUT: true; the input reads as it did. -/
def capsRoomSpec : ChangeSpec := { name := "capsRoom", fn := fun _ => fun
  | [d1, d2] => { results := [.lit (.bool true)], args := [d1, d2] }
  | _ => none }
def capsRoomRow : OpenClaim := { program := "ytobneijdhedckaa", sum := "3538b1962d0b195f82e98d1e0cdd09a29e09e222ed2367c14889756051e23e97", func := "proctor/proctorlaw9.CapsRoom", spec := "capsRoom", inPlace := ["internal/bytealg.IndexByteString"], unfollowed := true, recurses := true, apart := false }
def CapsRoomSaid : Prop := capsRoomRow.holds Try.pinned (OpenSpec.ofChange capsRoomSpec)

/-- ITS FALSE NEIGHBOUR: 'it returns false'. Refute it at one input. -/
def capsRoomWrong : ChangeSpec := { name := "capsRoom", fn := fun _ => fun
  | [d1, d2] => { results := [.lit (.bool false)], args := [d1, d2] }
  | _ => none }
def CapsRoomWrongFalsely : Prop := capsRoomRow.holds Try.pinned (OpenSpec.ofChange capsRoomWrong)

/-- 'proctorlaw9.CapsInput': WHATEVER THE INPUT: true; the input reads as it did. -/
def capsInputSpec : ChangeSpec := { name := "capsInput", fn := fun _ => fun
  | [d1, d2] => { results := [.lit (.bool true)], args := [d1, d2] }
  | _ => none }
def capsInputRow : OpenClaim := { program := "ytobneijdhedckaa", sum := "3538b1962d0b195f82e98d1e0cdd09a29e09e222ed2367c14889756051e23e97", func := "proctor/proctorlaw9.CapsInput", spec := "capsInput", inPlace := ["internal/bytealg.IndexByteString"], unfollowed := true, recurses := true, apart := false }
def CapsInputSaid : Prop := capsInputRow.holds Try.pinned (OpenSpec.ofChange capsInputSpec)

/-- ITS FALSE NEIGHBOUR: 'it returns false'. Refute it at one input. -/
def capsInputWrong : ChangeSpec := { name := "capsInput", fn := fun _ => fun
  | [d1, d2] => { results := [.lit (.bool false)], args := [d1, d2] }
  | _ => none }
def CapsInputWrongFalsely : Prop := capsInputRow.holds Try.pinned (OpenSpec.ofChange capsInputWrong)

/-- 'proctorlaw9.CapsPieces': WHATEVER THE INPUT: true; the input reads as it did. -/
def capsPiecesSpec : ChangeSpec := { name := "capsPieces", fn := fun _ => fun
  | [d1, d2, d3] => { results := [.lit (.bool true)], args := [d1, d2, d3] }
  | _ => none }
def capsPiecesRow : OpenClaim := { program := "ytobneijdhedckaa", sum := "3538b1962d0b195f82e98d1e0cdd09a29e09e222ed2367c14889756051e23e97", func := "proctor/proctorlaw9.CapsPieces", spec := "capsPieces", inPlace := ["internal/bytealg.IndexByteString"], unfollowed := true, recurses := true, apart := false }
def CapsPiecesSaid : Prop := capsPiecesRow.holds Try.pinned (OpenSpec.ofChange capsPiecesSpec)

/-- ITS FALSE NEIGHBOUR: 'it returns false'. Refute it at one input. -/
def capsPiecesWrong : ChangeSpec := { name := "capsPieces", fn := fun _ => fun
  | [d1, d2, d3] => { results := [.lit (.bool false)], args := [d1, d2, d3] }
  | _ => none }
def CapsPiecesWrongFalsely : Prop := capsPiecesRow.holds Try.pinned (OpenSpec.ofChange capsPiecesWrong)

/-- 'proctorlaw9.CapsPlays': WHATEVER THE INPUT: true; the input reads as it did. -/
def capsPlaysSpec : ChangeSpec := { name := "capsPlays", fn := fun _ => fun
  | [d1, d2, d3, d4] => { results := [.lit (.bool true)], args := [d1, d2, d3, d4] }
  | _ => none }
def capsPlaysRow : OpenClaim := { program := "ytobneijdhedckaa", sum := "3538b1962d0b195f82e98d1e0cdd09a29e09e222ed2367c14889756051e23e97", func := "proctor/proctorlaw9.CapsPlays", spec := "capsPlays", inPlace := ["internal/bytealg.IndexByteString"], unfollowed := true, recurses := true, apart := false }
def CapsPlaysSaid : Prop := capsPlaysRow.holds Try.pinned (OpenSpec.ofChange capsPlaysSpec)

/-- ITS FALSE NEIGHBOUR: 'it returns false'. Refute it at one input. -/
def capsPlaysWrong : ChangeSpec := { name := "capsPlays", fn := fun _ => fun
  | [d1, d2, d3, d4] => { results := [.lit (.bool false)], args := [d1, d2, d3, d4] }
  | _ => none }
def CapsPlaysWrongFalsely : Prop := capsPlaysRow.holds Try.pinned (OpenSpec.ofChange capsPlaysWrong)

/-- 'proctorlaw9.CapsDenied': WHATEVER THE INPUT: true; the input reads as it did. -/
def capsDeniedSpec : ChangeSpec := { name := "capsDenied", fn := fun _ => fun
  | [d1, d2] => { results := [.lit (.bool true)], args := [d1, d2] }
  | _ => none }
def capsDeniedRow : OpenClaim := { program := "ytobneijdhedckaa", sum := "3538b1962d0b195f82e98d1e0cdd09a29e09e222ed2367c14889756051e23e97", func := "proctor/proctorlaw9.CapsDenied", spec := "capsDenied", inPlace := ["internal/bytealg.IndexByteString"], unfollowed := true, recurses := true, apart := false }
def CapsDeniedSaid : Prop := capsDeniedRow.holds Try.pinned (OpenSpec.ofChange capsDeniedSpec)

/-- ITS FALSE NEIGHBOUR: 'it returns false'. Refute it at one input. -/
def capsDeniedWrong : ChangeSpec := { name := "capsDenied", fn := fun _ => fun
  | [d1, d2] => { results := [.lit (.bool false)], args := [d1, d2] }
  | _ => none }
def CapsDeniedWrongFalsely : Prop := capsDeniedRow.holds Try.pinned (OpenSpec.ofChange capsDeniedWrong)

/- THE SECOND FORM. 'bulk': how many values and letters a reading holds, each counted each time it is reached (what is shared counts as often as it is met; a slice's spare places count too). A statement '..UptoSaid' is the law's where the arguments, and the package variables that the reading takes, are together of bulk at most 1048576: NARROWER than '..Said'. Prove '..Said' where nothing that the law and all that it calls make is longer than what came in: it says more and counts as full. Else prove '..UptoSaid'. A law counts once. -/
mutual
def uptoBulk {H : Type} : DataW H → Nat
  | .lit (.string bytes) => bytes.length + 1
  | .lit _ => 1
  | .nil => 1
  | .ptr d => uptoBulk d + 1
  | .slice elems spare => uptoBulkAll elems + uptoBulkAll spare + 1
  | .agg parts => uptoBulkAll parts + 1
  | .iface _ d => uptoBulk d + 1
  | .map entries => uptoBulkEntries entries + 1
  | .held _ => 1
def uptoBulkAll {H : Type} : List (DataW H) → Nat
  | [] => 0
  | d :: r => uptoBulk d + uptoBulkAll r
def uptoBulkEntries {H : Type} : List (Lit × DataW H) → Nat
  | [] => 0
  | x :: r => uptoBulkEntry x + uptoBulkEntries r
def uptoBulkEntry {H : Type} : Lit × DataW H → Nat
  | (.string bytes, d) => bytes.length + uptoBulk d + 1
  | (_, d) => uptoBulk d + 1
 end
def uptoSmall : (H : Type) → List (DataW H) → Bool := fun _ ds => decide (uptoBulkAll ds ≤ 1048576)
def OpenSpec.upto (s : _root_.Go.ChangeSpec) : _root_.Go.OpenSpec := { _root_.Go.OpenSpec.ofChange s with cond := some uptoSmall }

/-- 'proctorlaw9.CapsMakes', WHERE WHAT IT READS IS OF BULK AT MOST 1048576: true; the input reads as it did. -/
def capsMakesUptoRow : OpenClaim := { program := "ytobneijdhedckaa", sum := "3538b1962d0b195f82e98d1e0cdd09a29e09e222ed2367c14889756051e23e97", func := "proctor/proctorlaw9.CapsMakes", spec := "capsMakes", inPlace := ["internal/bytealg.IndexByteString"], unfollowed := true, recurses := true, apart := false, narrowed := true }
def CapsMakesUptoSaid : Prop := capsMakesUptoRow.holds Try.pinned (OpenSpec.upto capsMakesSpec)

/-- 'proctorlaw9.CapsRoom', WHERE WHAT IT READS IS OF BULK AT MOST 1048576: true; the input reads as it did. -/
def capsRoomUptoRow : OpenClaim := { program := "ytobneijdhedckaa", sum := "3538b1962d0b195f82e98d1e0cdd09a29e09e222ed2367c14889756051e23e97", func := "proctor/proctorlaw9.CapsRoom", spec := "capsRoom", inPlace := ["internal/bytealg.IndexByteString"], unfollowed := true, recurses := true, apart := false, narrowed := true }
def CapsRoomUptoSaid : Prop := capsRoomUptoRow.holds Try.pinned (OpenSpec.upto capsRoomSpec)

/-- 'proctorlaw9.CapsInput', WHERE WHAT IT READS IS OF BULK AT MOST 1048576: true; the input reads as it did. -/
def capsInputUptoRow : OpenClaim := { program := "ytobneijdhedckaa", sum := "3538b1962d0b195f82e98d1e0cdd09a29e09e222ed2367c14889756051e23e97", func := "proctor/proctorlaw9.CapsInput", spec := "capsInput", inPlace := ["internal/bytealg.IndexByteString"], unfollowed := true, recurses := true, apart := false, narrowed := true }
def CapsInputUptoSaid : Prop := capsInputUptoRow.holds Try.pinned (OpenSpec.upto capsInputSpec)

/-- 'proctorlaw9.CapsPieces', WHERE WHAT IT READS IS OF BULK AT MOST 1048576: true; the input reads as it did. -/
def capsPiecesUptoRow : OpenClaim := { program := "ytobneijdhedckaa", sum := "3538b1962d0b195f82e98d1e0cdd09a29e09e222ed2367c14889756051e23e97", func := "proctor/proctorlaw9.CapsPieces", spec := "capsPieces", inPlace := ["internal/bytealg.IndexByteString"], unfollowed := true, recurses := true, apart := false, narrowed := true }
def CapsPiecesUptoSaid : Prop := capsPiecesUptoRow.holds Try.pinned (OpenSpec.upto capsPiecesSpec)

/-- 'proctorlaw9.CapsPlays', WHERE WHAT IT READS IS OF BULK AT MOST 1048576: true; the input reads as it did. -/
def capsPlaysUptoRow : OpenClaim := { program := "ytobneijdhedckaa", sum := "3538b1962d0b195f82e98d1e0cdd09a29e09e222ed2367c14889756051e23e97", func := "proctor/proctorlaw9.CapsPlays", spec := "capsPlays", inPlace := ["internal/bytealg.IndexByteString"], unfollowed := true, recurses := true, apart := false, narrowed := true }
def CapsPlaysUptoSaid : Prop := capsPlaysUptoRow.holds Try.pinned (OpenSpec.upto capsPlaysSpec)

/-- 'proctorlaw9.CapsDenied', WHERE WHAT IT READS IS OF BULK AT MOST 1048576: true; the input reads as it did. -/
def capsDeniedUptoRow : OpenClaim := { program := "ytobneijdhedckaa", sum := "3538b1962d0b195f82e98d1e0cdd09a29e09e222ed2367c14889756051e23e97", func := "proctor/proctorlaw9.CapsDenied", spec := "capsDenied", inPlace := ["internal/bytealg.IndexByteString"], unfollowed := true, recurses := true, apart := false, narrowed := true }
def CapsDeniedUptoSaid : Prop := capsDeniedUptoRow.holds Try.pinned (OpenSpec.upto capsDeniedSpec)

end Rows
end Go.Proofs.Ytobneijdhedckaa
