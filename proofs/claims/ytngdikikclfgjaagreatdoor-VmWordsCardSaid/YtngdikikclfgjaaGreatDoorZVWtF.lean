/- The law VmWords, walked. Conditions: the law's numbers are cells; the text is not longer than any machine holds. -/
import Derived.Test.YtngdikikclfgjaaGreatDoorZ48
namespace Go.Proofs.YtngdikikclfgjaaGreatDoor
set_option linter.unusedVariables false
set_option linter.unusedSimpArgs false
set_option maxHeartbeats 8000000
set_option maxRecDepth 100000
open Go.RowKit Go.Lib Go.Deep
namespace Vm
theorem docM_x(v:Int):DocM v (x41 (setupM v)):=by
 obtain⟨h1,h2,h3,h4,h5,h6,h7⟩:=setupM_x v
 exact⟨h1,h2,h3,h4,h5,h6,h7⟩
theorem words_made{w:World}{v:Int}(hv:V64 v)(W:World)(hW:Below w.heap.size w W)(W2:World)(hW2:W2= ((W.alloc (.cells #[.int .i64 v] 3)).alloc (.cells #[.int .i64 85,.int .i64 74,.int .i64 18,.int .i64 65,.int .i64 1] 3)).alloc (.cells #[.string ⟨#[109,97,107,101,114]⟩,.bool false,.bool false,.slice (some ⟨W.heap.size+1,0,none⟩) 5 5] 27)):
 Calls Tryz.prog 5 #[.agg #[.int .i64 0,.int .i64 0,.string ⟨#[]⟩,.string ⟨#[]⟩,.bool false,.slice none 0 0,.slice (some ⟨W.heap.size+2,0,none⟩) 1 1,.int .i64 10,.slice (some ⟨W.heap.size,0,none⟩) 1 1,.slice none 0 0,.int .i64 0,.int .i64 0,.int .i64 0]] W2
  (λe w'=> ∃(a:Mw) (b:Bc) (r:Rc),e = .returned (.pointer (some ⟨b.gB,0,none⟩))∧b.gW=r.gW∧On Nob w (AllA (mL (endC a b r (x41 (setupM v))) (setupM v).mt)) w'):=by
 subst hW2
 have hbx:=(((On.refl (A:=AllA []) (F:=Nob) (w:=W) (λ_ h=>h)).box (intsC [v]) 3).box (intsC csM) 3).box #[.string nameM,.bool false,.bool false,.slice (some ⟨W.heap.size+1,0,none⟩) 5 5] 27
 simp only[World.size_alloc]at hbx
 exact made_pair (s:=setupM v) (m:=slM (W.heap.size+2) W.heap.size 1) (hW.trans (hbx.outB.mono hW.size)) (setIn_M (cp:=5) hv (hbx.blkAt 1 rfl) (hbx.blkAt 0 rfl) (hbx.blkAt 2 rfl))
theorem words_walk(v:Int)(T:ByteArray)(md:Int)(hv:V64 v)(hmd:V64 md)(hT:T.size<=140737488355327)(w:World):Calls Tryz.prog 3 #[.int .i64 v,.string T,.int .i64 md] w (Quiet (.bool true) w):=by
 have hk:0<=pickS md 2∧pickS md 2<=1:=by
  unfold pickS
  have:=Int.emod_nonneg (if md<0 then -(md+1)else md) (show(2:Int)≠0 by omega)
  have:=Int.emod_lt_of_pos (if md<0 then -(md+1)else md) (show(0:Int) <2 by omega)
  omega
 have hp:=λW=>pick11 md 2 W hmd oM
 generalize pickS md 2=k at *
 obtain⟨hk0,hk1⟩:=hk
 have hmade:=λW hW W2 hW2=>words_made (w:=w) hv W hW W2 hW2
 have hdoc:=docM_x v
 generalize x41 (setupM v)=x at *
 replace hmade:=hid hmade
 replace hdoc:=hid hdoc
 replace hp:=hid hp
 go_enter Tryz.func3,Tryz.ntmps3
 go_wp2_with fail
 refine mo (shown_walk _) λw1 hb1=>?_
 simp only[]
 replace hb1:=hid hb1
 go_wp2_with fail
 refine(hmade.out _ hb1.out _ rfl).mono ?_
 rintro e w2 ⟨a,b,r,rfl,hW,hon⟩
 simp only[]
 have hgoes:=goes_any (T:=T) (m:=1+k) oM hv hdoc.out hW hon
 have hz2:w2.cell? (b.gB,2)=some (b.gS:Vl):=(ends_both (end_ends (a:=a) (b:=b) (r:=r) (x:=x)) hon).choose_spec.choose_spec.2.2.1
 replace hgoes:=hid hgoes
 replace hon:=hid hon
 clear hmade hz2
 go_wp2_with fail
 refine(hp.out _).mono ?_
 rintro e w3 ⟨rfl,rfl⟩
 simp only[]
 go_wp2_with fail
 refine hgoes.out.mono ?_
 rintro e w4 ⟨rfl,q,f,hL,hs,hok,hd,hsn,htl,hon4⟩
 simp only[]
 have he:Ends ((endC a b r x).re f) b:=re_ends
 have z2:w4.cell? (b.gB,2)=some (b.gS:Vl):=(ends_both he hon4).choose_spec.choose_spec.2.2.1
 have hfnd:Calls Tryz.prog 8 #[.pointer (some ⟨b.gS,0,none⟩),.string T] w4 (FindPost (findW q.s.S (dS q.s) T.data.toList) w4):=mach_find hd hon4 T hT
 have hfa:=found_any hL hs
 generalize findW q.s.S (dS q.s) T.data.toList=R at *
 replace hfnd:=hid hfnd
 replace hfa:=hid hfa
 replace hon4:=hid hon4
 replace hL:=hid hL
 replace hs:=hid hs
 replace hok:=hid hok
 replace hd:=hid hd
 replace hsn:=hid hsn
 replace htl:=hid htl
 replace he:=hid he
 replace hW:=hid hW
 clear hgoes hp hon
 go_wp2_with fail
 refine mo hfnd.out λw5 hB=>?_
 have hon5:=hon4.out.below hB
 replace hB:=hid hB
 clear hfnd hon4 z2
 rcases R with _| ⟨nm1,hd1,xt1,im1,hh1,il1⟩
 ·unfold foundV noWd
  simp only[Option.isSome]
  have hbw:=hon5.box #[.string ⟨#[]⟩,(0:Int),(0:Int),.bool false,.bool false,.bool false] 36
  have k2: (w5.alloc (.cells #[.string ⟨#[]⟩,(0:Int),(0:Int),.bool false,.bool false,.bool false] 36)).cell? (b.gB,2)=some (b.gS:Vl):=(ends_both he.out hbw.tail).choose_spec.choose_spec.2.2.1
  have hlat:=mach_latest (c:=(endC a b r x).re f) (t:=q.s) hd.out hbw.tail
  change Calls Tryz.prog 9 #[.pointer (some ⟨b.gS,0,none⟩)] _ _ at hlat
  have hl0:=hd.out.l
  generalize q.s.ls=ls at *
  have hge:decide ((0:Int)<=ls)=true:=decide_eq_true hl0
  replace hlat:=hid hlat
  replace hbw:=hid hbw
  clear hon5
  go_wp2_with fail
  refine hlat.out.mono ?_
  rintro e w6 ⟨rfl,rfl⟩
  simp only[]
  go_wp2
  go_ret
  exact⟨rfl,hbw.out.outB⟩
 ·unfold foundV Wd.c
  simp only[Option.isSome]
  have hbw:=hon5.box #[.string ⟨nm1.toArray⟩,(hd1:Int),(xt1:Int),.bool im1,.bool hh1,.bool il1] 36
  have k5: (w5.alloc (.cells #[.string ⟨nm1.toArray⟩,(hd1:Int),(xt1:Int),.bool im1,.bool hh1,.bool il1] 36)).cell? (b.gB,5)=some (b.gM:Vl):=(ends_both he.out hbw.tail).choose_spec.choose_spec.2.2.2.2.2.1
  have k0: (w5.alloc (.cells #[.string ⟨nm1.toArray⟩,(hd1:Int),(xt1:Int),.bool im1,.bool hh1,.bool il1] 36)).cell? (w5.heap.size,0)=some (.string ⟨nm1.toArray⟩):=(hbw.blkAt 0 rfl).cell 0
  have k2: (w5.alloc (.cells #[.string ⟨nm1.toArray⟩,(hd1:Int),(xt1:Int),.bool im1,.bool hh1,.bool il1] 36)).cell? (w5.heap.size,2)=some ((xt1:Int):Vl):=(hbw.blkAt 0 rfl).cell 2
  have hdat:Calls Tryz.prog 10 #[.pointer (some ⟨b.gM,0,none⟩)] (w5.alloc (.cells #[.string ⟨nm1.toArray⟩,(hd1:Int),(xt1:Int),.bool im1,.bool hh1,.bool il1] 36)) (Same (.pointer (some ⟨((endC a b r x).re f).gD,0,none⟩)) (w5.alloc (.cells #[.string ⟨nm1.toArray⟩,(hd1:Int),(xt1:Int),.bool im1,.bool hh1,.bool il1] 36))):=ends_data he.out hbw.tail
  have hdep:=ends_depth hbw.tail
  replace hdat:=hid hdat
  clear hon5
  by_cases hnm:nm1 = [109,97,107,101,114]
  ·subst hnm
   replace hbw:=hid hbw
   replace hdep:=hid hdep
   go_wp2
   go_ret
   exact⟨rfl,hbw.out.outB⟩
  ·have hq: (nm1 == [109,97,107,101,114])=false:=by
    rw[beq_eq_false_iff_ne]
    exact hnm
   have hno: (⟨nm1,hd1,xt1,im1,hh1,il1⟩:Wd)≠wordM:=λh=>hnm (congrArg Wd.name h)
   rcases hfa.out with h1| ⟨hn,hr,hx,h2⟩ | ⟨h0,h2⟩
   ·rw[h1]at hdep
    replace hdep:=hid hdep
    replace hbw:=hid hbw
    replace hno:=hid hno
    replace hnm:=hid hnm
    replace h1:=hid h1
    go_wp2_with fail
    refine hdat.out.mono ?_
    rintro e w6 ⟨rfl,rfl⟩
    simp only[]
    go_wp2_with fail
    refine hdep.out.mono ?_
    rintro e w7 ⟨rfl,rfl⟩
    simp only[]
    go_wp2
    go_ret
    exact⟨rfl,hbw.out.outB⟩
   ·rcases h2 with h2|h2|h2
    ·cases h2
    ·exact absurd (Option.some.inj h2) hno
    have hxt:xt1=xtN (wdT T 0).data.toList:=congrArg Wd.xt (Option.some.inj h2)
    clear h2
    have hd0:q.s.d=0:=hr.d
    obtain⟨q2,r1,r2,r3,r4⟩:=new_ran (a:=a) (b:=b) (r:=r) (x:=x) (f:=f) (m:=1+k) oM hv hn hr hx hd.out hsn.out htl.out
    rw[<-hxt]at r4
    have hrn:=hbw.drew.callTail (e0:= .returned (.tuple #[(0:Int),(3:Int)])) (L':=mL ((endC a b r x).re f) q2.s) λF' hb _ _=>r4 _ F' hb
    rw[hd0]at hdep
    replace hdep:=hid hdep
    replace hbw:=hid hbw
    replace hno:=hid hno
    replace hnm:=hid hnm
    replace hrn:=hid hrn
    replace r1:=hid r1
    replace r2:=hid r2
    replace r3:=hid r3
    replace hn:=hid hn
    replace hr:=hid hr
    replace hx:=hid hx
    replace hxt:=hid hxt
    replace hd0:=hid hd0
    clear r4
    go_wp2_with fail
    refine hdat.out.mono ?_
    rintro e w6 ⟨rfl,rfl⟩
    simp only[]
    go_wp2_with fail
    refine hdep.out.mono ?_
    rintro e w7 ⟨rfl,rfl⟩
    simp only[]
    go_wp2_with fail
    go_region_held (λw'=>w'.cell? (b.gB,5)=some (b.gM:Vl)∧w'.cell? (w5.heap.size,2)=some ((xt1:Int):Vl)) (go_keep)
     ((go_at_call 12;refine mo hrn.out λw8 h=>?_;simp only[];have n2:w8.cell? (w5.heap.size,2)=some ((xt1:Int):Vl):=(h.blkAt 0 rfl).cell 2;have h6:=h.tail;have x5:w8.cell? (b.gB,5)=some (b.gM:Vl):=(ends_both he.out h6).choose_spec.choose_spec.2.2.2.2.2.1;clear h;replace h6:=hid h6))
    have hda2:Calls Tryz.prog 10 #[.pointer (some ⟨b.gM,0,none⟩)] w8 (Same (.pointer (some ⟨((endC a b r x).re f).gD,0,none⟩)) w8):=ends_data he.out h6.out
    have hpk:=ends_peek h6.out r1.out (by rw[r2.out];decide)
    rw[r3.out]at hpk
    replace hda2:=hid hda2
    replace hpk:=hid hpk
    go_wp2_with fail
    refine hda2.out.mono ?_
    rintro e w9 ⟨rfl,rfl⟩
    simp only[]
    go_wp2_with fail
    refine mo hpk.out λw10 hB2=>?_
    simp only[]
    have h7:=hid (h6.out.below hB2)
    clear hB2
    go_wp2
    go_ret
    exact⟨rfl,h7.out.outB⟩
   ·rcases h2 with h2|h2
    ·cases h2
    ·exact absurd (Option.some.inj h2) hno
end Vm
end Go.Proofs.YtngdikikclfgjaaGreatDoor
