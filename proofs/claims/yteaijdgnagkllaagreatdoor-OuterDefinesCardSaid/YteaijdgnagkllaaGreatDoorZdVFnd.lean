/- Chapter 8: Find in two wordlists, one behind the other. Conditions: as written. -/
import Derived.Test.YteaijdgnagkllaaGreatDoorZd26
import Derived.Test.YteaijdgnagkllaaGreatDoorZd31
namespace Go.Proofs.YteaijdgnagkllaaGreatDoor
set_option linter.unusedVariables false
set_option linter.unusedSimpArgs false
set_option maxRecDepth 100000
open Go.RowKit Go.Lib Go.Deep
namespace Vm
theorem row_two{w:World}{e:TypeId}{v:Value}{a b:Value}(h:w.ownsRow 0 e 1 v 2 [a,b]): ∃g cap,v = .slice (some ⟨g,0,none⟩) 2 cap∧w.cell? ⟨g,0,none⟩=some a∧w.cell? ⟨g,1,none⟩=some b:=by
 obtain⟨hx,⟨h,h2⟩ | ⟨g,cap,cur,hv,hb,hg,h1,h2,h3,h4⟩⟩:=h
 ·cases h2
 ·refine⟨g,cap,hv,?_,?_⟩
  ·rw[cell_of_row _ _ 0 cur e (0,0) hg]
   have:=congrArg (λl=>l[0]?) h4
   simpa [List.getElem?_take]using this
  ·rw[cell_of_row _ _ 1 cur e (0,0) hg]
   have:=congrArg (λl=>l[1]?) h4
   simpa [List.getElem?_take]using this
theorem below_new{w W:World}{g:Nat}{t:TypeId}{cs:Array Value}{o:Obj}(h:Below w.heap.size w W)(hb:Blk w g t cs):Blk (W.alloc o) g t cs:=by
 have hl:g<w.heap.size:=Blk.lt hb
 exact(((Below.refl W.heap.size W).alloc (Nat.le_refl _) o).block g (by have:=h.size;omega)).trans ((h.block g hl).trans hb)
theorem dfind_walk(w:World)(rb cap gS gK:Nat)(nm:ByteArray)(rS rK:Option Wd)
 (h0:w.cell? (rb,0)=some (gS:Vl)) (h1:w.cell? (rb,1)=some (gK:Vl))
 (hS: ∀W,Below w.heap.size w W->Calls Tryz.prog 18 #[gS,.string nm] W (FindPost rS W))
 (hK: ∀W,Below w.heap.size w W->Calls Tryz.prog 18 #[gK,.string nm] W (FindPost rK W)):
 Calls Tryz.prog 97 #[.string nm,.slice rb 2 cap] w (FindPost (rS.or rK) w):=by
 have hcell: ∀W,Below w.heap.size w W->W.cell? (rb,0)=some (gS:Vl)∧W.cell? (rb,1)=some (gK:Vl):=λW h=>
  ⟨(World.cell?_of_block (h.block _ (World.block_lt_of_cell? w _ h0))).trans h0,(World.cell?_of_block (h.block _ (World.block_lt_of_cell? w _ h1))).trans h1⟩
 have hbl0:Below w.heap.size w (w.alloc (.cells noWd 55)):=(Below.refl _ _).alloc (Nat.le_refl _) _
 replace hcell:=hid hcell
 replace hS:=hid hS
 replace hK:=hid hK
 replace hbl0:=hid hbl0
 clear h0 h1
 unfold noWd at hbl0
 go_enter Tryz.func97,Tryz.ntmps97
 go_wp2
 go_loopg [12] 2 (λk t wr=> ∃j:Nat,j+k=2∧t = .int .i64 (j:Int)∧Below w.heap.size w wr∧Blk wr w.heap.size 55 noWd∧(1<=j->rS=none)∧(2<=j->rK=none))
 case atStart=>exact⟨0,by omega,rfl,hbl0.out,Blk.new _ _ _,by omega,by omega⟩
 case round=>
  obtain⟨j,hj,rfl,hb,hz,hn,hn2⟩:=hrel
  by_cases hjl:j<2
  ·have⟨c0,c1⟩:=hcell.out _ hb
   by_cases hj0:j=0
   ·subst hj0
    have hc:=hid (hS.out _ hb)
    rcases rS with _|x
    ·replace hn:=hid hn
     replace hz:=hid hz
     replace hb:=hid hb
     go_wp2_with fail
     refine mo hc.out λw2 hb2=>?_
     unfold foundV noWd
     simp only[Option.isSome]
     have hb2':=hid hb2
     clear hb2
     go_wp2
     go_roundg (gk-1)
     case measure=>omega
     case rel=>refine⟨1,by omega,rfl,?_,?_,λ_=>trivial,by omega⟩;exact(hb.out.trans (hb2'.out.mono hb.out.size)).trans (((Below.refl _ _).alloc (Nat.le_refl _) _).mono (by have:=hb.out.size;have:=hb2'.out.size;omega));exact below_new hb2'.out hz.out
    ·replace hn:=hid hn
     replace hz:=hid hz
     replace hb:=hid hb
     go_wp2_with fail
     refine mo hc.out λw2 hb2=>?_
     unfold foundV Wd.c
     simp only[Option.isSome]
     obtain⟨nm1,hd1,xt1,im1,hh1,il1⟩:=x
     simp only[]
     have d2:=below_new (o:= .cells #[.string ⟨nm1.toArray⟩,(hd1:Int),(xt1:Int),.bool im1,.bool hh1,.bool il1] 55) hb2 hz.out
     unfold noWd at d2
     have e0:=d2.cell 0
     have e1:=d2.cell 1
     have e2:=d2.cell 2
     have e3:=d2.cell 3
     have e4:=d2.cell 4
     have e5:=d2.cell 5
     have f0:=d2.frozen 0
     have f1:=d2.frozen 1
     have f2:=d2.frozen 2
     have f3:=d2.frozen 3
     have f4:=d2.frozen 4
     have f5:=d2.frozen 5
     have hb2':=hid hb2
     replace d2:=hid d2
     clear hb2
     go_wp2
     have v6:=(((((d2.out.set_ 0 (.string ⟨nm1.toArray⟩)).set_ 1 (.int .i64 (hd1:Int))).set_ 2 (.int .i64 (xt1:Int))).set_ 3 (.bool im1)).set_ 4 (.bool hh1)).set_ 5 (.bool il1)
     have q0:=v6.cell 0
     have q1:=v6.cell 1
     have q2:=v6.cell 2
     have q3:=v6.cell 3
     have q4:=v6.cell 4
     have q5:=v6.cell 5
     have hq:w.heap.size<=w.heap.size:=Nat.le_refl _
     have hbz:Below w.heap.size w (w2.alloc (.cells #[.string ⟨nm1.toArray⟩,(hd1:Int),(xt1:Int),.bool im1,.bool hh1,.bool il1] 55)):=(hb.out.trans (hb2'.out.mono hb.out.size)).trans (((Below.refl _ _).alloc (Nat.le_refl _) _).mono (by have:=hb.out.size;have:=hb2'.out.size;omega))
     refine bodyPost_ret (v:=foundV (some ⟨nm1,hd1,xt1,im1,hh1,il1⟩)) ?_ rfl ⟨rfl,((((((hbz.setCell hq _).setCell hq _).setCell hq _).setCell hq _).setCell hq _).setCell hq _)⟩
     simp[results,Tryz.results97,go_sem,foundV,Wd.c,q0,q1,q2,q3,q4,q5]
   ·obtain rfl:j=1:=by omega
    have hc:=hid (hK.out _ hb)
    rcases rK with _|x
    ·replace hn:=hid hn
     replace hz:=hid hz
     replace hb:=hid hb
     go_wp2_with fail
     refine mo hc.out λw2 hb2=>?_
     unfold foundV noWd
     simp only[Option.isSome]
     have hb2':=hid hb2
     clear hb2
     go_wp2
     go_roundg (gk-1)
     case measure=>omega
     case rel=>refine⟨2,by omega,rfl,?_,?_,λ_=>hn.out oM,λ_=>trivial⟩;exact(hb.out.trans (hb2'.out.mono hb.out.size)).trans (((Below.refl _ _).alloc (Nat.le_refl _) _).mono (by have:=hb.out.size;have:=hb2'.out.size;omega));exact below_new hb2'.out hz.out
    ·replace hn:=hid hn
     replace hz:=hid hz
     replace hb:=hid hb
     go_wp2_with fail
     refine mo hc.out λw2 hb2=>?_
     unfold foundV Wd.c
     simp only[Option.isSome]
     obtain⟨nm1,hd1,xt1,im1,hh1,il1⟩:=x
     simp only[]
     have d2:=below_new (o:= .cells #[.string ⟨nm1.toArray⟩,(hd1:Int),(xt1:Int),.bool im1,.bool hh1,.bool il1] 55) hb2 hz.out
     unfold noWd at d2
     have e0:=d2.cell 0
     have e1:=d2.cell 1
     have e2:=d2.cell 2
     have e3:=d2.cell 3
     have e4:=d2.cell 4
     have e5:=d2.cell 5
     have f0:=d2.frozen 0
     have f1:=d2.frozen 1
     have f2:=d2.frozen 2
     have f3:=d2.frozen 3
     have f4:=d2.frozen 4
     have f5:=d2.frozen 5
     have hb2':=hid hb2
     replace d2:=hid d2
     clear hb2
     go_wp2
     have v6:=(((((d2.out.set_ 0 (.string ⟨nm1.toArray⟩)).set_ 1 (.int .i64 (hd1:Int))).set_ 2 (.int .i64 (xt1:Int))).set_ 3 (.bool im1)).set_ 4 (.bool hh1)).set_ 5 (.bool il1)
     have q0:=v6.cell 0
     have q1:=v6.cell 1
     have q2:=v6.cell 2
     have q3:=v6.cell 3
     have q4:=v6.cell 4
     have q5:=v6.cell 5
     have hq:w.heap.size<=w.heap.size:=Nat.le_refl _
     have hbz:Below w.heap.size w (w2.alloc (.cells #[.string ⟨nm1.toArray⟩,(hd1:Int),(xt1:Int),.bool im1,.bool hh1,.bool il1] 55)):=(hb.out.trans (hb2'.out.mono hb.out.size)).trans (((Below.refl _ _).alloc (Nat.le_refl _) _).mono (by have:=hb.out.size;have:=hb2'.out.size;omega))
     refine bodyPost_ret (v:=foundV (some ⟨nm1,hd1,xt1,im1,hh1,il1⟩)) ?_ rfl ⟨by rw[hn.out oM];rfl,((((((hbz.setCell hq _).setCell hq _).setCell hq _).setCell hq _).setCell hq _).setCell hq _)⟩
     simp[results,Tryz.results97,go_sem,foundV,Wd.c,q0,q1,q2,q3,q4,q5]
  ·obtain rfl:=hn oM
   obtain rfl:=hn2 oM
   have d2:Blk wr w.heap.size 55 #[.string ⟨#[]⟩,(0:Int),(0:Int),.bool false,.bool false,.bool false]:=hz
   have e0:=d2.cell 0
   have e1:=d2.cell 1
   have e2:=d2.cell 2
   have e3:=d2.cell 3
   have e4:=d2.cell 4
   have e5:=d2.cell 5
   have f0:=d2.frozen 0
   have f1:=d2.frozen 1
   have f2:=d2.frozen 2
   have f3:=d2.frozen 3
   have f4:=d2.frozen 4
   have f5:=d2.frozen 5
   clear hz
   replace d2:=hid d2
   replace hb:=hid hb
   go_wp2
   have v6:=(((((d2.out.set_ 0 (.string ⟨#[]⟩)).set_ 1 (.int .i64 0)).set_ 2 (.int .i64 0)).set_ 3 (.bool false)).set_ 4 (.bool false)).set_ 5 (.bool false)
   have q0:=v6.cell 0
   have q1:=v6.cell 1
   have q2:=v6.cell 2
   have q3:=v6.cell 3
   have q4:=v6.cell 4
   have q5:=v6.cell 5
   have hq:w.heap.size<=w.heap.size:=Nat.le_refl _
   refine bodyPost_ret (v:=foundV none) ?_ rfl ⟨rfl,((((((hb.out.setCell hq _).setCell hq _).setCell hq _).setCell hq _).setCell hq _).setCell hq _)⟩
   simp[results,Tryz.results97,go_sem,foundV,noWd,q0,q1,q2,q3,q4,q5]
end Vm
end Go.Proofs.YteaijdgnagkllaaGreatDoor
