/- Chapter 11: what VmWords asks behind maker's run. Conditions: as written. -/
import Derived.Test.YtngdikikclfgjaaGreatDoorZ47
namespace Go.Proofs.YtngdikikclfgjaaGreatDoor
set_option linter.unusedVariables false
set_option linter.unusedSimpArgs false
set_option maxRecDepth 100000
open Go.RowKit Go.Lib Go.Deep
namespace Vm
def slM(B2 B3 cd:Nat):Sl:=⟨none,0,some ⟨B2,0,none⟩,1,some ⟨B3,0,none⟩,cd,none,0⟩
theorem ints_blkM{W:World}{B:Nat}{t:TypeId}{l:List Int}(h1:Blk W B t (intsC l)):Ints W (some ⟨B,0,none⟩) l:=λk v hk=>by
 refine⟨_,rfl,?_⟩
 have e2: ((⟨B,0,none⟩:Addr).add k)= ⟨B,k,none⟩:=by simp[Addr.add];intro h;exact h.symm
 rw[e2,h1.cell k]
 simp[intsC,hk]
theorem setIn_M{W:World}{v:Int}{B1 B2 B3 cp cd:Nat}{t1 t2 t3:TypeId}(hv:V64 v)(h1:Blk W B1 t1 (intsC csM))(h2:Blk W B2 t2 #[.string nameM,.bool false,.bool false,.slice (some ⟨B1,0,none⟩) 5 cp])(h3:Blk W B3 t3 (intsC [v])):SetIn W (setupM v) (slM B2 B3 cd):=by
 have hcv: ∀u∈csM,V64 u:=λu hu=>by
  simp only[csM,List.mem_cons,List.mem_nil_iff,or_false]at hu
  unfold V64
  omega
 refine⟨wordsIn_nil,?_,⟨λj u hj=>⟨B3,0,rfl,λh=>h,?_⟩,λu hu=> ?_,by show 1<=_;decide⟩,rowIn_nil,by show 0<=_;decide,by show 1<=_;decide,by show V64 0;unfold V64;omega,by show V64 0;unfold V64;omega,by show V64 10;unfold V64;omega,by show(⟨#[]⟩:ByteArray).size<=_;decide,by show(⟨#[]⟩:ByteArray).size<=_;decide⟩
 ·intro j x hx
  rcases j with _|j
  ·have hx': (⟨nameM,false,false,csM⟩:Wrd)=x:=by simpa [setupM]using hx
   subst hx'
   exact⟨B2,0,some ⟨B1,0,none⟩,cp,rfl,λh=>h,h2.cell 0,h2.cell 1,h2.cell 2,h2.cell 3,ints_blkM h1,λ_ a ha=>by cases ha;exact⟨λh=>h,h1.lt⟩,by show nameM.size<=_;decide,hcv,by show 5<=_;decide⟩
  ·simp[setupM]at hx
 ·have hj2 : [v][j]? = some u:=hj
  rw[Nat.zero_add,h3.cell j]
  rcases j with _|j
  ·obtain rfl:v=u:=by simpa using hj2
   rfl
  ·simp at hj2
 ·rw[List.mem_singleton.1 hu];exact hv
section
variable {w W:World}{F:Nat->Prop}{a:Mw}{b:Bc}{r:Rc}{x:Rw}{t:Mt}{T:ByteArray}{m v:Int}{c:Vc}
theorem mach_find(hp:Dcs c (.pointer none) t)(h:On F w (AllA (mL c t)) W)(nm:ByteArray)(hn:nm.size<=140737488355327):
 Calls Tryz.prog 8 #[.pointer (some ⟨c.gS,0,none⟩),.string nm] W (FindPost (findW t.S (dS t) nm.data.toList) W):=by
 have b6:Blk W c.gS 102 (dictC c.gI c.sfr c.sto t.hs t.ls):=h.blkAt 5 rfl
 obtain⟨gb,hI⟩:=h.img 1 rfl
 have b6':Blk W c.gS 102 (dictC c.gI c.sfr c.sto ((dS t).h:Int) ((dS t).l:Int)):=by
  have e1: ((dS t).h:Int)=t.hs:=Int.toNat_of_nonneg hp.h
  have e2: ((dS t).l:Int)=t.ls:=Int.toNat_of_nonneg hp.l
  rw[e1,e2]
  exact b6
 exact d_find W b6' hI hp.at8 nm hn
theorem mach_latest(hp:Dcs c (.pointer none) t)(h:On F w (AllA (mL c t)) W):Calls Tryz.prog 9 #[.pointer (some ⟨c.gS,0,none⟩)] W (Same (.int .i64 t.ls) W):=by
 have b6:Blk W c.gS 102 (dictC c.gI c.sfr c.sto t.hs t.ls):=h.blkAt 5 rfl
 have e1: ((dS t).h:Int)=t.hs:=Int.toNat_of_nonneg hp.h
 have e2: ((dS t).l:Int)=t.ls:=Int.toNat_of_nonneg hp.l
 rw[<-e1,<-e2]at b6
 have h1:=d_latest b6
 rw[e2]at h1
 exact h1
theorem found_new{S:Img}{D:Dc}{n nm:List UInt8}(hw:words S D = [wordN n,wordM]):findW S D nm=none∨findW S D nm=some wordM∨(findW S D nm=some (wordN n)∧sameB n nm=true):=by
 unfold findW
 rw[hw]
 by_cases h1:sameB n nm=true
 ·right;right
  refine⟨?_,h1⟩
  show List.find? _ (wordN n::_)=_
  rw[List.find?_cons_of_pos (by show(!false&&sameB n nm)=true;rw[h1];rfl)]
 ·have h1':sameB n nm=false:=by simpa using h1
  have e1:List.find? (λw=> !w.hid&&sameB w.name nm) [wordN n,wordM]=List.find? (λw=> !w.hid&&sameB w.name nm) [wordM]:=List.find?_cons_of_neg (by show¬(!false&&sameB n nm)=true;rw[h1'];decide)
  rw[e1]
  by_cases h2:sameB wordM.name nm=true
  ·right;left
   rw[List.find?_cons_of_pos (by show(!false&&sameB wordM.name nm)=true;rw[h2];rfl)]
  ·left
   have h2':sameB wordM.name nm=false:=by simpa using h2
   rw[List.find?_cons_of_neg (by show¬(!false&&sameB wordM.name nm)=true;rw[h2'];decide)]
   rfl
theorem same_len{n nm:List UInt8}(h:sameB n nm=true):n.length=nm.length:=by
 unfold sameB lowS at h
 have h1:n.map lowC=nm.map lowC:=by simpa using h
 have h2:=congrArg List.length h1
 simpa using h2
theorem cost_small(hT:T.size<=60000)(hn:Dc.nameB (wdT T 0).data.toList=true)(hl: (wdT T 0).data.toList.length=T.data.toList.length)(hE:wdE T 0<=T.size):wdC T 0<=32:=by
 obtain⟨h1,h2⟩:=Dc.name_len hn
 have e:T.data.toList.length=T.size:=by rw[Lib.size_eq]
 unfold wdC
 split<;>omega
end
section
variable {w W:World}{F:Nat->Prop}{a:Mw}{b:Bc}{r:Rc}{x:Rw}{t:Mt}{T:ByteArray}{m v:Int}{f:Ext->List Asr}{n:List UInt8}
theorem re_ends:Ends ((endC a b r x).re f) b:=by
 have he0:Ends (endC a b r x) b:=end_ends
 exact⟨he0.m,he0.i,he0.s,he0.k,he0.t,he0.p,he0.sfr,he0.sto,he0.tl,he0.tell⟩
theorem new_ran(hm:m=1∨m=2)(hv:V64 v)(hn:Dc.nameB n=true)(hr:Rep t 16472 csM [] [])(hx:CodeAt t.S (xtN n) [4222993,0,v])(hd:Dcs ((endC a b r x).re f) (.pointer none) t)(hsn:t.seen.length<=4)(htl:t.tells=true):
 ∃q:Rs,q.s.Ok∧q.s.d=1∧q.s.top 0=v∧∀W F',(AllA (mL ((endC a b r x).re f) t)).holds W F'->Calls Tryz.prog 12 #[.pointer (some ⟨b.gM,0,none⟩),.int .i64 m,.int .i64 (xtN n:Int),.int .i64 100,.pointer none] W (Got (.returned (.tuple #[.int .i64 0,.int .i64 3])) (AllA (mL ((endC a b r x).re f) q.s)) F' W):=by
 obtain⟨h1,h2,h3,h4,h5⟩:=xtN_le hn
 have hR0:Rep (t.pushR [0]) 16472 csM [] [0]:=hr.pushR1 0 (by unfold V64;omega) (by simp)
 have hx0:CodeAt (t.pushR [0]).S (xtN n) [4222993,0,v]:=by
  have e: (t.pushR [0]).S=t.S.put (17088+8*0) (toB 0):=by
   show sset t.S t.pr.fr t.r 0=_
   rw[hr.pr,hr.r]
   exact sset_put hr.lay (.inr ⟨rfl,by decide⟩) 0
  rw[e]
  exact stk_code hr.img hr.lay (.inr ⟨rfl,by decide⟩) 0 hx
 obtain⟨q,q1,q2,q3,q4⟩:=prog_run2 (cr:=createN) hm hR0 hx0 ⟨by omega,by omega⟩ hv
 have ht:=tab_word kwN_ok crN_ok 8 (by decide)
 have hroom:1<=t.pr.rm-t.r:=by rw[hr.pr,hr.r];decide
 have hP:KwN ((endC a b r x).re f) (.pointer none) t∧t.seen.length+4<=8:=⟨⟨hd,rfl⟩,by omega⟩
 have hrun:=λW F' (hb: (AllA (mL ((endC a b r x).re f) t)).holds W F')=>v_runT ht 4 none hb hP hr.ok (by rw[htl];exact(re_ends (a:=a) (b:=b) (r:=r) (x:=x) (f:=f)).tell) m (xtN n:Int) 100 (by unfold V64;omega) hroom q q1
 rw[q2,q3]at hrun
 exact⟨q,q4.ok,q4.d,q4.top 0 v (by simp) rfl,hrun⟩
theorem goes_any(hm:m=1∨m=2)(hv:V64 v)(hx:DocM v x)(hW:b.gW=r.gW)(h:On F w (AllA (mL (endC a b r x) (setupM v).mt)) W):
 Calls Tryz.prog 7 #[.pointer (some ⟨b.gB,0,none⟩),.agg #[.int .i64 m,.int .i64 0,.int .i64 0,.int .i64 100,.bool false,.string T,.bool false]] W (λe w'=>e = .returned (.bool true)∧∃(q:Rs) (f:Ext->List Asr),Left T v q.s∧(T.size<=60000∨q.s.d=1)∧q.s.Ok∧Dcs ((endC a b r x).re f) (.pointer none) q.s∧q.s.seen.length<=4∧q.s.tells=true∧On F w (AllA (mL ((endC a b r x).re f) q.s)) w'):=by
 by_cases hT:T.size<=60000
 ·have hb:=ex_bounds (e:=⟨T,0⟩) hT (Nat.zero_le _)
  have hE:wdE T 0<=T.size:=hb.2.1
  have hC:0<=wdC T 0:=by unfold wdC;split<;>omega
  refine(goes_src hm hv hT hE hC hx hW rfl h).mono ?_
  rintro e w' ⟨rfl,q,gs,L,h1,h2,h3,h4,h5,h6⟩
  exact⟨rfl,q,(λe=>SrcA gs e.text e.at_::L),h1,.inl hT,h2,h3,h4,h5,h6⟩
 ·refine(goes_nil (T:=T) hm hv (by omega) hx hW rfl h).mono ?_
  rintro e w' ⟨rfl,q,f,h1,h0,h2,h3,h4,h5,h6⟩
  exact⟨rfl,q,f,h1,.inr h0,h2,h3,h4,h5,h6⟩
theorem found_any(hL:Left T v t)(hs:T.size<=60000∨t.d=1): (t.d=1)∨(Dc.nameB (wdT T 0).data.toList=true∧Rep t 16472 csM [] []∧CodeAt t.S (xtN (wdT T 0).data.toList) [4222993,0,v]∧(findW t.S (dS t) T.data.toList=none∨findW t.S (dS t) T.data.toList=some wordM∨findW t.S (dS t) T.data.toList=some (wordN (wdT T 0).data.toList)))∨
 (t.d=0∧(findW t.S (dS t) T.data.toList=none∨findW t.S (dS t) T.data.toList=some wordM)):=by
 rcases hL with h| ⟨h,hn,hw,hc⟩ | ⟨hn,hw,hr,hx⟩
 ·exact .inl h
 ·right;right
  refine⟨h,?_⟩
  rcases found_new (nm:=T.data.toList) hw with h1|h1| ⟨h1,h2⟩
  ·exact .inl h1
  ·exact .inr h1
  ·exfalso
   have hT:T.size<=60000:=by rcases hs with hs|hs<;>omega
   have hE:wdE T 0<=T.size:=(ex_bounds (e:=⟨T,0⟩) hT (Nat.zero_le _)).2.1
   have:=cost_small hT hn (same_len h2) hE
   omega
 ·right;left
  refine⟨hn,hr,hx,?_⟩
  rcases found_new (nm:=T.data.toList) hw with h1|h1| ⟨h1,h2⟩
  ·exact .inl h1
  ·exact .inr (.inl h1)
  ·exact .inr (.inr h1)
end
end Vm
end Go.Proofs.YtngdikikclfgjaaGreatDoor
