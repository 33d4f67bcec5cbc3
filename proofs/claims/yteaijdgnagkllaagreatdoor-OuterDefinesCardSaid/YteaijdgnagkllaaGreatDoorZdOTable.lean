/- Chapter 13: the rows of names that its laws' kernels are laid from. No condition. -/
import Derived.Test.YteaijdgnagkllaaGreatDoorZd24
import Derived.Great.BuildSlice
namespace Go.Proofs.YteaijdgnagkllaaGreatDoor
set_option linter.unusedVariables false
set_option linter.unusedSimpArgs false
set_option maxRecDepth 100000
open Go.RowKit Go.Lib Go.Deep
namespace Vm
def strC(l:List (List UInt8)):Array Value:=(l.map λs=>Value.string ⟨s.toArray⟩).toArray
theorem strC_at(l:List (List UInt8))(i:Nat)(hi:i<l.length): (strC l)[i]? = some (.string ⟨(l.getD i []).toArray⟩):=by
 simp[strC,List.getD,hi]
theorem info_strO: (Tryz.prog.info? 9).map (λi=>(i.zero,i.size))=some (some (.string ⟨#[]⟩),1):=by kernel_rfl
theorem o_table(w:World):Calls Tryz.prog 60 #[] w λe w'=>e = .returned (.slice (some ⟨w.heap.size,0,none⟩) 107 107)∧w'=w.alloc (.cells (strC opNames) 9):=by
 obtain⟨ie,hie,hx⟩:=Option.map_eq_some_iff.1 info_strO
 obtain⟨hz,hs⟩:=Prod.mk.inj hx
 go_enter Tryz.func60,Tryz.ntmps60
 go_wp2_with (refine wpList_buildSlice rfl 153 9 107 _ rfl (strC opNames) ie (.string ⟨#[]⟩) Tryz.underlying153 hie hz (by rw[hs];decide) (by rw[hs];decide) (by rw[hs];kernel_rfl) ?_)
 go_ret
 exact⟨rfl,rfl⟩
theorem o_specials(w:World):Calls Tryz.prog 62 #[] w λe w'=>e = .returned (.slice (some ⟨w.heap.size,0,none⟩) 36 36)∧w'=w.alloc (.cells (strC spNames) 9):=by
 obtain⟨ie,hie,hx⟩:=Option.map_eq_some_iff.1 info_strO
 obtain⟨hz,hs⟩:=Prod.mk.inj hx
 go_enter Tryz.func62,Tryz.ntmps62
 go_wp2_with (refine wpList_buildSlice rfl 153 9 36 _ rfl (strC spNames) ie (.string ⟨#[]⟩) Tryz.underlying153 hie hz (by rw[hs];decide) (by rw[hs];decide) (by rw[hs];kernel_rfl) ?_)
 go_ret
 exact⟨rfl,rfl⟩
end Vm
end Go.Proofs.YteaijdgnagkllaaGreatDoor
