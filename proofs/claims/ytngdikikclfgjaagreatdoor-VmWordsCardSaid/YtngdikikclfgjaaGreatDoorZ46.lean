/- Chapter 11: the two machines that VmWords makes, in plain words. No condition but those written. -/
import Derived.Test.YtngdikikclfgjaaGreatDoorZVNewW
import Derived.Test.YtngdikikclfgjaaGreatDoorZVWt1
namespace Go.Proofs.YtngdikikclfgjaaGreatDoor
set_option linter.unusedVariables false
set_option linter.unusedSimpArgs false
set_option maxHeartbeats 8000000
open Go.RowKit Go.Lib
namespace Vm
def setupM(v:Int):Setup:=⟨0,0,⟨#[]⟩,⟨#[]⟩,false,[],[⟨nameM,false,false,csM⟩],10,[v],[],0,0,0⟩
def headBM:List UInt8:=[0,0,0,0,0,0,0,0,37,109,97,107,101,114,0,0]
theorem stu_createM:stu0.createF img0 [109,97,107,101,114]=0:=by decide
theorem stu_headM:stu0.headB [109,97,107,101,114]=headBM:=by decide
def iHeadM:Img:=(img0.put 16456 headBM).put 16464 [5]
theorem iHeadM_ok:iHeadM.Ok:=put_ok (put_ok img0_ok _ _ (by decide)) _ _ (by decide)
theorem iHeadM_lay:Lay0 iHeadM:=lay_put (lay_put lay0_img _ _) _ _
theorem iHeadM_m:HeadM iHeadM:=by
 intro i hi
 have h1: (img0.put 16456 headBM).b.length=17152:=by rw[img0.put_len _ _ (by rw[img0_len];decide),img0_len]
 unfold iHeadM
 rw[Img.put_getD _ _ _ _ (by rw[h1];decide)]
 by_cases h8:i=8
 ·subst h8
  rw[if_pos (by simp)]
  rfl
 ·rw[if_neg (by simp;omega),Img.put_getD _ _ _ _ (by rw[img0_len];decide),if_pos (by
   have:headBM.length=16:=rfl
   omega),show 16456+i-16456=i by omega]
  have:i=0∨i=1∨i=2∨i=3∨i=4∨i=5∨i=6∨i=7∨i=9∨i=10∨i=11∨i=12∨i=13:=by omega
  rcases this with rfl|rfl|rfl|rfl|rfl|rfl|rfl|rfl|rfl|rfl|rfl|rfl|rfl<;>rfl
theorem laid_mk:laidS ⟨nameM,false,false,csM⟩ (img0,stu0)= (iHeadM.put 16472 (cellsB csM),dM):=by
 have e1:stu0.createS img0 [109,97,107,101,114]=img0.put 16456 headBM:=by
  unfold Dc.createS
  rw[if_pos stu_createM,stu_headM]
  rfl
 have e2:stu0.createD img0 [109,97,107,101,114]=dHead:=by
  unfold Dc.createD
  rw[if_pos stu_createM]
  rfl
 have e3:markS ⟨nameM,false,false,csM⟩ (img0.put 16456 headBM) dHead=iHeadM:=by
  unfold markS
  simp only[Bool.false_eq_true,if_false]
  unfold Dc.turnS
  rw[if_neg (by decide)]
  have h0: (img0.put 16456 headBM).b.getD 16464 0=37:=by
   rw[Img.put_getD _ _ _ _ (by rw[img0_len];decide),if_pos (by decide)]
   rfl
  show(img0.put 16456 headBM).put 16464 [showT ((img0.put 16456 headBM).b.getD 16464 0)]=_
  rw[h0]
  rfl
 unfold laidS
 rw[show nameM.data.toList = [109,97,107,101,114]from rfl,stu_createM,if_neg (by decide),e1,e2,e3]
 have hD:dHead.Ok iHeadM:=by
  refine Dc.Ok.alike (S:=img0) ⟨.inr rfl,by decide,by decide,.inr (by decide),by decide,by decide⟩ ((Alike.put _ _ _).trans (Alike.put _ _ _))
 have hlm:dHead.lim iHeadM=16960:=by decide
 have hhh:dHead.h=16472:=rfl
 have:=commas_put csM iHeadM dHead iHeadM_ok hD (by decide) (by rw[hlm,hhh];decide) (by decide)
 exact this
theorem t1_one(x:Wrd)(s:Setup)(h1:s.kernel = [])(h2:s.student = [x]):s.t1=laidS x (img0,stu0):=by
 unfold Setup.t1 Setup.k1
 rw[h1,h2]
 rfl
section
variable (v:Int)
theorem setupM_hid: (setupM v).hid= ⟨#[]⟩:=by unfold Setup.hid;split<;>rfl
theorem setupM_t1: (setupM v).t1= (iHeadM.put 16472 (cellsB csM),dM):=(t1_one _ _ rfl rfl).trans laid_mk
theorem HeadM.seal{S:Img}(h:HeadM S):HeadM S.sealed:=h
structure MadeM(S:Img):Prop where
 ok:S.Ok
 lay:Lay0 S
 head:HeadM S
 code:CodeAt S 16472 csM
theorem MadeM.put{S:Img}(h:MadeM S)(k:Nat)(l:List UInt8)(h1:k+l.length<=16456∨16512<=k)(h2:k+l.length<=17152):MadeM (S.put k l):=by
 have hlen:=h.ok.len
 obtain⟨b2,b3,b4,b5,b6⟩:=h.lay.begs
 have hc:csM.length=5:=rfl
 exact⟨put_ok h.ok _ _ oM,lay_put h.lay _ _,h.head.put _ _ oM oM,h.code.put h.ok _ _ oM (by rw[hc];omega)⟩
theorem setupM_i3:MadeM (setupM v).i3:=by
 have e: (setupM v).i3= (((iHeadM.put 16472 (cellsB csM)).put 16384 (List.replicate 64 0)).sealed):=by
  have eo: (setupM v).opened=false:=rfl
  have hz:Setup.load (iHeadM.put 16472 (cellsB csM)) (⟨#[]⟩:ByteArray).data.toList= (iHeadM.put 16472 (cellsB csM)).put 16384 (List.replicate 64 0):=by
   unfold Setup.load
   rw[show(iHeadM.put 16472 (cellsB csM)).beg 2=16384 from rfl,show(iHeadM.put 16472 (cellsB csM)).s=64 from rfl]
   rfl
  unfold Setup.i3 Setup.i2
  rw[setupM_hid,setupM_t1 v,eo]
  simp only[Bool.false_eq_true,if_false]
  rw[hz]
 have hl: (cellsB csM).length=40:=cellsB_len csM
 have hle:iHeadM.b.length=17152:=by rw[iHeadM_ok.len];rfl
 have h1: (iHeadM.put 16472 (cellsB csM)).Ok:=put_ok iHeadM_ok _ _ (by rw[hl];have:iHeadM.beg 6=17152:=rfl;omega)
 have c1:CodeAt (iHeadM.put 16472 (cellsB csM)) 16472 csM:=codeAt_put iHeadM iHeadM_ok 16472 csM (λu hu=>by
  simp only[csM,List.mem_cons,List.mem_nil_iff,or_false]at hu
  unfold V64
  omega) (by decide) (by decide) (by have:iHeadM.beg 4=16960:=rfl;have:csM.length=5:=rfl;omega)
 have hm:MadeM (iHeadM.put 16472 (cellsB csM)):=⟨h1,lay_put iHeadM_lay _ _,iHeadM_m.put _ _ oM (.inr oM),c1⟩
 have h2:=hm.put 16384 (List.replicate 64 0) (.inl (by simp)) (by simp)
 rw[e]
 exact⟨Img.Ok.seal h2.ok,Lay0.seal h2.lay,HeadM.seal h2.head,CodeAt.seal h2.code⟩
theorem setupM_ri:MadeM (setupM v).ri:=by
 have h:=setupM_i3 v
 unfold Setup.ri
 rw[base_put h.lay]
 exact h.put _ _ (.inl (by rw[toB_len];decide)) (by rw[toB_len];decide)
theorem setupM_rep(hv:V64 v):Rep (setupM v).mt 16472 csM [v] []∧HeadM (setupM v).mt.S∧(setupM v).mt.seen = []∧(setupM v).mt.tells=true∧dS (setupM v).mt=dM:=by
 have hM:=setupM_i3 v
 have h0:Rep (setupM v).m0 16472 csM [] []:=⟨hM.ok,hM.lay,rfl,rfl,hM.code,rfl,rfl,by simp,by simp,λi v h=>by simp at h,λi v h=>by simp at h⟩
 have h1:=h0.pushD (l:=[v]) (λu hu=>by rw[List.mem_singleton.1 hu];exact hv) (by simp)
 rw[List.nil_append]at h1
 have h2:=h1.pushR (l:=[]) (λv h=>by cases h) (by simp)
 have e1: (setupM v).m1= ((setupM v).m0.pushD [v]).pushR []:=rfl
 have hS: (setupM v).m1.S=spush (setupM v).i3 16960 0 [v]:=by rw[e1];rfl
 have hlow:=spush_low [v] (setupM v).i3 16960 0 hM.ok hM.lay (.inl ⟨rfl,by simp⟩)
 have hh:HeadM (setupM v).m1.S:=λi hi=>by
  rw[hS,hlow.2 _ oM]
  exact hM.head i hi
 rw[List.append_nil,<-e1]at h2
 have h3:=h2.base oM 10 0 0 0 true
 refine⟨h3,?_,by show(setupM v).m1.seen = [];rw[e1];rfl,rfl,?_⟩
 ·show HeadM ((setupM v).m1.S.setCell 0 16448 10)
  rw[base_put h2.lay 10]
  exact hh.put _ _ (by rw[toB_len,h2.img.len];have:=h2.lay.begs;omega) (.inl (by rw[toB_len];omega))
 ·have e2: (setupM v).mt.hs= (((setupM v).t1.2.h:Nat):Int):=rfl
  have e3: (setupM v).mt.ls= (((setupM v).t1.2.l:Nat):Int):=rfl
  unfold dS
  rw[e2,e3,setupM_t1]
  rfl
theorem setupM_x:MadeM (x41 (setupM v)).S∧(x41 (setupM v)).D=dM∧(x41 (setupM v)).dd=1∧(x41 (setupM v)).da=v::List.replicate 15 0∧(x41 (setupM v)).rd=0∧(x41 (setupM v)).ra=List.replicate 8 0∧(x41 (setupM v)).tells=true:=by
 refine⟨by rw[x41_S];exact setupM_ri v,?_,rfl,rfl,rfl,rfl,rfl⟩
 show(setupM v).t1.2=dM
 rw[setupM_t1]
end
end Vm
set_option maxRecDepth 100000
open Go.RowKit Go.Lib Go.Deep
namespace Vm
section
variable {w W:World}{F:Nat->Prop}{a:Mw}{b:Bc}{r:Rc}{x:Rw}{t:Mt}{cs data:List Int}{base:Int}
theorem pair_rl(h:On F w (AllA (mL (endC a b r x) t)) W)(h8:At8 x.S x.D 16456 16960):RlIn W r.gS r.gb 16448 16960 704 false x.D x.S:=by
 have hb:Blk W r.gS 149 (rdicC r.gb 16448 16960 704 false x.D):=h.blkAt 15 rfl
 have hr:Blk W r.gb 5 (bcells x.S.b).toArray:=h.blkAt 19 rfl
 exact⟨⟨hb.cell 0,hb.cell 1,hb.cell 2,hb.cell 3,hb.cell 4,λi=>hb.frozen i⟩,hr,h8,by omega⟩
end
theorem stepT_eq{tab:Inst->Option (Rn->Mt->Rs)}{x:Rn}{s:Mt}{i:Inst}{q:Rn->Mt->Rs}(hl:x.left≠0)(hf:s.S.fetch x.mode x.pc= (i,0))(hp:tab i=some q)(n:Int)(hn:wrap64 (x.pc+8*i.cells)=n)
 (ha:asks i { x with left:=x.left-1,next:=n } s=0) (r:Rs) (hq:q { x with left:=x.left-1,next:=n } s=r):
 stepT tab x s=some (if r.f≠0 then r else⟨0,{ r.x with pc:=r.x.next },r.s.told r.x i.op⟩):=by
 unfold stepT
 rw[if_neg hl,hf,if_neg (by simp)]
 simp only
 rw[hn,if_neg (by rw[ha];decide),hp,Option.map_some,hq]
theorem stepT_zero{tab:Inst->Option (Rn->Mt->Rs)}{x:Rn}{s:Mt}(hl:x.left=0):stepT tab x s=some ⟨13,x,s⟩:=by
 unfold stepT
 rw[if_pos hl]
theorem goesT_of{tab:Inst->Option (Rn->Mt->Rs)}{n:Nat}{x:Rn}{s:Mt}{r:Rs}(h:stepT tab x s=some r)(hf:r.f=0)(ho:r.x.over=false):goesT tab (n+1) x s=goesT tab n r.x r.s:=by
 rw[goesT,h]
 simp only
 rw[if_neg (by rw[hf];decide),if_neg (by rw[ho];decide)]
theorem goesT_end{tab:Inst->Option (Rn->Mt->Rs)}{n:Nat}{x:Rn}{s:Mt}{r:Rs}(h:stepT tab x s=some r)(ho:r.f≠0∨r.x.over=true):goesT tab (n+1) x s=some r:=by
 rw[goesT,h]
 simp only
 rcases ho with ho|ho
 ·rw[if_pos ho]
 ·rw[if_pos ho]
  split<;>rfl
theorem dS_on{s:Mt}{S':Img}{D':Dc}(hr:D'.rg=3):dS (s.onDict S' D')=D':=by
 obtain⟨rg,hh,ll⟩:=D'
 simp only at hr
 subst hr
 unfold dS Mt.onDict
 simp
def StkSame(S S':Img):Prop:= ∀fr i,InStk fr i->sget S' fr i=sget S fr i
theorem StkSame.put{S S':Img}(h:StkSame S S')(hS:S'.Ok)(hL:Lay0 S')(k:Nat)(l:List UInt8)(h1:k+l.length<=16960):StkSame S (S'.put k l):=by
 intro fr i hi
 rw[<-h fr i hi]
 have b6:=hL.begs.2.2.2.2
 unfold InStk at hi
 exact cellV_put_far S' hS 0 _ k l oM oM
theorem Rep.onS{s:Mt}{a:Nat}{cs ds rs:List Int}{S':Img}(h:Rep s a cs ds rs)(hS:S'.Ok)(hL:Lay0 S')(hc:CodeAt S' a cs)(hs:StkSame s.S S')(D':Dc):Rep (s.onDict S' D') a cs ds rs:=by
 refine⟨hS,hL,h.pd,h.pr,hc,h.d,h.r,h.dle,h.rle,λi v hv=> ?_,λi v hv=> ?_⟩
 ·have hlt:i<ds.length:=(List.getElem?_eq_some_iff.1 hv).1
  have hd:=h.dle
  show sget S' 16960 i=v
  rw[hs 16960 i (.inl ⟨rfl,by omega⟩)]
  exact h.dv i v hv
 ·have hlt:i<rs.length:=(List.getElem?_eq_some_iff.1 hv).1
  have hr:=h.rle
  show sget S' 17088 i=v
  rw[hs 17088 i (.inr ⟨rfl,by omega⟩)]
  exact h.rv i v hv
theorem same_mk1{S:Img}{n:List UInt8}(hS:S.Ok)(hL:Lay0 S)(hM:MkI (mk0 S n) n)(hn:Dc.nameB n=true):StkSame S (mk1 S n):=by
 obtain⟨h1,h2,h3,h4,h5⟩:=xtN_le hn
 have hl:=headB_mlen n
 have hx:xtN n=16520+up (1+n.length):=rfl
 have b6:=hL.begs.2.2.2.2
 have p1: (S.put 16512 (dM.headB n)).Ok:=put_ok hS _ _ oM
 have p2:Lay0 (S.put 16512 (dM.headB n)):=lay_put hL _ _
 have k0:StkSame S S:=λ_ _ _=>rfl
 have k1:=k0.put hS hL 16512 (dM.headB n) oM
 have k2:=k1.put p1 p2 16520 [showT (UInt8.ofNat (n.length+32))] (by simp)
 have k3:=k2.put hM.ok hM.lay (xtN n) (cellsB [17,0]) (by rw[cellsB_len];simp;omega)
 rw[mk1_put hM hn]
 exact k3
structure WOut where
 f:Int
 left:Int
 i:Nat
def wOut(T:ByteArray):WOut:=
 if 99<wdC T 0 then⟨13,99,0⟩
 else if Dc.nameB (wdT T 0).data.toList=false then⟨15,99-wdC T 0,wdE T 0⟩
 else if 99-wdC T 0=0 then⟨13,0,wdE T 0⟩
 else if 99-wdC T 0=1 then⟨13,0,wdE T 0⟩
 else⟨0,97-wdC T 0,wdE T 0⟩
inductive Left(T:ByteArray)(v:Int)(s:Mt):Prop
 | cell (h:s.d=1)
 | short (h:s.d=0) (hn:Dc.nameB (wdT T 0).data.toList=true) (hw:words s.S (dS s)= [wordN (wdT T 0).data.toList,wordM]) (hc:98<=wdC T 0)
 | full (hn:Dc.nameB (wdT T 0).data.toList=true) (hw:words s.S (dS s)= [wordN (wdT T 0).data.toList,wordM]) (hr:Rep s 16472 csM [] []) (hx:CodeAt s.S (xtN (wdT T 0).data.toList) [4222993,0,v])
theorem exC_eq(T:ByteArray)(i:Nat):exC ⟨T,i⟩=wdC T i:=by
 have h1:exW ⟨T,i⟩=wdT T i:=rfl
 have h2:exN ⟨T,i⟩=wdE T i:=rfl
 unfold exC wdC
 rw[h1,h2]
 generalize wdT T i=b
 by_cases h:b= ⟨#[]⟩
 ·rw[if_pos h,if_pos (by rw[h];rfl)]
 ·rw[if_neg h,if_neg (λh0=>h (by
   obtain⟨a⟩:=b
   have h3:a.size=0:=h0
   rw[Array.size_eq_zero_iff.1 h3]))]
section
variable {T:ByteArray}{m v:Int}{s:Mt}
theorem createQ_M{x:Rn}(hS:s.S.Ok)(hL:Lay0 s.S)(hm:HeadM s.S)(hc:CodeAt s.S 16472 csM)(hd:dS s=dM)(he:s.ext= ⟨T,0⟩):
 createQ x s=if x.left<wdC T 0 then⟨13,x,s⟩
  else if Dc.nameB (wdT T 0).data.toList=false then⟨15,{ x with left:=x.left-wdC T 0 },(s.readTo (wdE T 0)).onDict s.S dM⟩
  else⟨0,{ x with left:=x.left-wdC T 0 },(s.readTo (wdE T 0)).onDict (mk1 s.S (wdT T 0).data.toList) ⟨3,xtN (wdT T 0).data.toList+16,16512⟩⟩:=by
 have e1:exC s.ext=wdC T 0:=by rw[he];exact exC_eq T 0
 have e2:exW s.ext=wdT T 0:=by rw[he];rfl
 have e3:exN s.ext=wdE T 0:=by rw[he];rfl
 have hcr:crS1 s= (s.readTo (wdE T 0)).onDict (dM.createS s.S (wdT T 0).data.toList) (dM.createD s.S (wdT T 0).data.toList):=by
  unfold crS1
  rw[hd,e2,e3]
 unfold createQ
 rw[e1,e2]
 by_cases hl:x.left<wdC T 0
 ·rw[if_pos hl,if_pos hl]
 rw[if_neg hl,if_neg hl]
 simp only
 rw[hd,createM hL]
 generalize (wdT T 0).data.toList=n at *
 by_cases hn:Dc.nameB n=false
 ·rw[if_pos hn,if_pos (by decide),if_pos hn,hcr]
  have f1:dM.createF s.S n=15:=by rw[createM hL,if_pos hn]
  have f2:dM.createS s.S n=s.S:=by unfold Dc.createS;rw[f1,if_neg (by decide)]
  have f3:dM.createD s.S n=dM:=by unfold Dc.createD;rw[f1,if_neg (by decide)]
  rw[f2,f3]
 rw[if_neg hn,if_neg (by decide),if_neg hn]
 have hn2:Dc.nameB n=true:=by simpa using hn
 obtain⟨h1,h2,h3,h4,h5⟩:=xtN_le hn2
 obtain⟨g1,g2⟩:=createMS hL hn2
 have hM:=mk0_ok hS hL hm hc hn2
 have c2:crS2 (crS1 s)= (s.readTo (wdE T 0)).onDict (mk0 s.S n) ⟨3,xtN n,16512⟩:=by
  unfold crS2
  rw[hcr,g1,g2,dS_on rfl]
  show((s.readTo (wdE T 0)).onDict _ _).onDict ((⟨3,xtN n,16512⟩:Dc).turnS (s.S.put 16512 (dM.headB n)) showT) _=_
  rw[showM hS hL hn2]
  rfl
 have k1:=commaM (D:=⟨3,xtN n,16512⟩) hM.lay rfl h5 (by show xtN n+8<=16960;omega) 17
 have l1:Lay0 ((mk0 s.S n).put (xtN n) (toB 17)):=lay_put hM.lay _ _
 have k2:=commaM (D:=⟨3,xtN n+8,16512⟩) l1 rfl (by show(xtN n+8) % 8=0;omega) (by show xtN n+8+8<=16960;omega) 0
 have c3:crS3 17 (crS2 (crS1 s))= (s.readTo (wdE T 0)).onDict ((mk0 s.S n).put (xtN n) (toB 17)) ⟨3,xtN n+8,16512⟩:=by
  unfold crS3
  rw[c2,dS_on rfl]
  show((s.readTo (wdE T 0)).onDict _ _).onDict ((⟨3,xtN n,16512⟩:Dc).commaS (mk0 s.S n) 17) ((⟨3,xtN n,16512⟩:Dc).commaD (mk0 s.S n))=_
  rw[k1.2.1,k1.2.2]
  rfl
 have c4:crS3 0 (crS3 17 (crS2 (crS1 s)))= (s.readTo (wdE T 0)).onDict (mk1 s.S n) ⟨3,xtN n+16,16512⟩:=by
  show((crS3 17 (crS2 (crS1 s)))).onDict ((dS (crS3 17 (crS2 (crS1 s)))).commaS (crS3 17 (crS2 (crS1 s))).S 0) ((dS (crS3 17 (crS2 (crS1 s)))).commaD (crS3 17 (crS2 (crS1 s))).S)=_
  rw[c3,dS_on rfl]
  show((s.readTo (wdE T 0)).onDict _ _).onDict ((⟨3,xtN n+8,16512⟩:Dc).commaS ((mk0 s.S n).put (xtN n) (toB 17)) 0) ((⟨3,xtN n+8,16512⟩:Dc).commaD ((mk0 s.S n).put (xtN n) (toB 17)))=_
  rw[k2.2.1,k2.2.2]
  rfl
 have f2: (dS (crS2 (crS1 s))).commaF (crS2 (crS1 s)).S=0:=by rw[c2,dS_on rfl];exact k1.1
 have f3: (dS (crS3 17 (crS2 (crS1 s)))).commaF (crS3 17 (crS2 (crS1 s))).S=0:=by rw[c3,dS_on rfl];exact k2.1
 rw[f2,if_neg (by decide),f3,c4]
end
section
variable {T:ByteArray}{m v:Int}{s:Mt}{x:Rn}{cr:Rn->Mt->Rs}{ds:List Int}
theorem n13: (13:Int)≠0:=by decide
theorem n15: (15:Int)≠0:=by decide
structure Now(m:Int)(e:Ext)(S:Img)(D:Dc)(ds:List Int)(left pc:Int)(x:Rn)(s:Mt):Prop where
 x: ∃nx,x= ⟨m,left,pc,nx,false,false,0⟩
 rep:Rep s 16472 csM ds [0]
 S:s.S=S
 D:dS s=D
 ext:s.ext=e
theorem told_fields(s:Mt)(x:Rn)(op:Int): (s.told x op).S=s.S∧dS (s.told x op)=dS s∧(s.told x op).ext=s.ext∧(s.told x op).d=s.d:=by
 unfold Mt.told
 split<;>exact⟨rfl,rfl,rfl,rfl⟩
theorem Rep.read{a:Nat}{cs ds rs:List Int}(h:Rep s a cs ds rs)(k:Nat):Rep (s.readTo k) a cs ds rs:=⟨h.img,h.lay,h.pd,h.pr,h.code,h.d,h.r,h.dle,h.rle,h.dv,h.rv⟩
theorem wordTab_85(arg lit cells:Int):wordTab cr ⟨85,arg,lit,cells⟩=some cr:=rfl
theorem wordTab_74(arg lit cells:Int):wordTab cr ⟨74,arg,lit,cells⟩=some (λx s=>Rs.laid 1 (commaP x s)):=rfl
theorem wordTab_18(arg lit cells:Int):wordTab cr ⟨18,arg,lit,cells⟩=some doesP:=rfl
theorem wordTab_17(arg lit cells:Int):wordTab cr ⟨17,arg,lit,cells⟩=some (createdP arg):=rfl
theorem now_create{e:Ext}{S:Img}{D:Dc}{left:Int}(hm:m=1∨m=2)(hN:Now m e S D ds left 16472 x s)(hl:left≠0)(r:Rs)(hq:cr ⟨m,left-1,16472,16480,false,false,0⟩ s=r):
 stepT (wordTab cr) x s=some (if r.f≠0 then r else⟨0,{ r.x with pc:=r.x.next },r.s.told r.x 85⟩):=by
 obtain⟨nx,rfl⟩:=hN.x
 have h:=hN.rep
 have hd:=h.dle
 have f1:=h.code.fetch m oM 0 85 85 0 rfl (by decide) (by decide) (by decide)
 have hw:Code.wants 85= (0,0):=by decide
 exact stepT_eq (tab:=wordTab cr) (x:=⟨m,left,16472,nx,false,false,0⟩) (i:=⟨85,0,0,1⟩) (q:=cr) hl f1 (wordTab_85 _ _ _) 16480 (by dsimp only;unfold wrap64;omega)
  (h.asked _ _ rfl (by show(Code.wants 85).1<=_;rw[hw];show(0:Int)<=_;omega) (by decide) (by show(ds.length:Int) - (Code.wants 85).1+ (Code.wants 85).2<=16;rw[hw];show(ds.length:Int) -0+0<=16;omega) (by show(0:Int)<=1-0;omega) (by show(1:Int) -0+0<=8;omega)) r hq
theorem now_comma{e:Ext}{S:Img}{D:Dc}{left:Int}(hm:m=1∨m=2)(hN:Now m e S D [v] left 16480 x s)(hl:left≠0)(hrg:D.rg=3)(h8:D.h % 8=0)(hh:D.h+8<=16960)(hlo:16512<=D.h):
 ∃x' s',stepT (wordTab cr) x s=some ⟨0,x',s'⟩ ∧Now m e (S.put D.h (toB v)) { D with h:=D.h+8 } [] (left-1) 16488 x' s':=by
 obtain⟨nx,rfl⟩:=hN.x
 have h:=hN.rep
 obtain rfl:=hN.S
 have f1:=h.code.fetch m oM 1 74 74 0 rfl (by decide) (by decide) (by decide)
 have hw:Code.wants 74= (1,0):=by decide
 have ha:asks ⟨74,0,0,1⟩ ⟨m,left-1,16480,16488,false,false,0⟩ s=0:=h.asked _ _ rfl (by show(Code.wants 74).1<=_;rw[hw];show(1:Int)<=1;omega) (by decide) (by show(1:Int) - (Code.wants 74).1+ (Code.wants 74).2<=16;rw[hw];decide) (by show(0:Int)<=1-0;omega) (by show(1:Int) -0+0<=8;omega)
 have hv:ar s 1 0=v:=h.arv 1 0 v oM (by simp) rfl
 obtain⟨k1,k2,k3⟩:=commaM (S:=s.S) (D:=D) h.lay hrg h8 hh v
 have b6:=h.lay.begs.2.2.2.2
 have hc5:csM.length=5:=rfl
 have hb4:=h.lay.begs.2.2.1
 have hok: (s.S.put D.h (toB v)).Ok:=put_ok h.img _ _ (by rw[toB_len];omega)
 have hR:Rep (s.onDict (s.S.put D.h (toB v)) { D with h:=D.h+8 }) 16472 csM [v] [0]:=
  h.onS hok (lay_put h.lay _ _) (h.code.put h.img _ _ (by rw[toB_len];omega) (.inr (by rw[hc5];omega))) (StkSame.put (λ_ _ _=>rfl) h.img h.lay _ _ (by rw[toB_len];omega)) _
 have hp:commaP ⟨m,left-1,16480,16488,false,false,0⟩ s= (⟨0,⟨m,left-1,16480,16488,false,false,0⟩,s.onDict (s.S.put D.h (toB v)) { D with h:=D.h+8 }⟩,[]):=by
  unfold commaP
  rw[hN.D,k1,hv,k2,k3]
 have hd2:dS (s.onDict (s.S.put D.h (toB v)) { D with h:=D.h+8 })= { D with h:=D.h+8 }:=dS_on hrg
 generalize hs4:s.onDict (s.S.put D.h (toB v)) { D with h:=D.h+8 }=s4 at *
 have e4S:s4.S=s.S.put D.h (toB v):=by rw[<-hs4];rfl
 have e4x:s4.ext=e:=by rw[<-hs4];exact hN.ext
 have hL:=hR.lays 1 (by simp) [] (λv hv=>by cases hv) (by simp)
 have e5: (s4.lays 1 []).2=s4.cutD (s4.d-1):=by
  unfold Mt.lays
  split
  ·rfl
  ·show(s4.cutD (s4.d-1)).pushD []=_
   rfl
 have hq:Rs.laid 1 (commaP ⟨m,left-1,16480,16488,false,false,0⟩ s)= ⟨0,⟨m,left-1,16480,16488,false,false,0⟩,(s4.lays 1 []).2⟩:=by
  rw[hp]
  unfold Rs.laid laysR
  rw[if_pos rfl]
  show(⟨(s4.lays 1 []).1,_,_⟩:Rs)=_
  rw[hL.1]
 have hst:=stepT_eq (tab:=wordTab cr) (x:=⟨m,left,16480,nx,false,false,0⟩) (i:=⟨74,0,0,1⟩) hl f1 (wordTab_74 _ _ _) 16488 (by dsimp only;unfold wrap64;omega) ha _ hq
 rw[if_neg (λh=>h rfl)]at hst
 refine⟨_,_,hst,?_⟩
 ·obtain⟨t1,t2,t3,t4⟩:=told_fields ((s4.lays 1 []).2) ⟨m,left-1,16480,16488,false,false,0⟩ 74
  refine⟨⟨16488,rfl⟩,hL.2.1.told _ _,?_,?_,?_⟩
  ·show(((s4.lays 1 []).2).told _ _).S=_
   rw[t1,e5]
   exact e4S
  ·show dS (((s4.lays 1 []).2).told _ _)=_
   rw[t2,e5]
   exact hd2
  ·show(((s4.lays 1 []).2).told _ _).ext=_
   rw[t3,e5]
   exact e4x
theorem now_does{e:Ext}{S:Img}{D:Dc}{left:Int}{wd:Wd}{rest:List Wd}{cs:List Int}(hm:m=1∨m=2)(hN:Now m e S D [] left 16488 x s)(hl:left≠0)(hw:words S D=wd::rest)(hc:CodeAt S wd.xt (17::cs))(hlo:16521<=wd.xt):
 ∃x' s',stepT (wordTab cr) x s=some ⟨0,x',s'⟩ ∧x'.over=true∧x'.left=left-1∧s'.S=S.put wd.xt (toB 4222993)∧dS s'=D∧s'.ext=e∧Rep s' 16472 csM [] []:=by
 obtain⟨nx,rfl⟩:=hN.x
 have h:=hN.rep
 obtain rfl:=hN.S
 have f1:=h.code.fetch m oM 2 18 18 0 rfl (by decide) (by decide) (by decide)
 have hwa:Code.wants 18= (0,0):=by decide
 have ha:asks ⟨18,0,0,1⟩ ⟨m,left-1,16488,16496,false,false,0⟩ s=0:=h.asked _ _ rfl (by show(Code.wants 18).1<=_;rw[hwa];show(0:Int)<=0;omega) (by decide) (by show(0:Int) - (Code.wants 18).1+ (Code.wants 18).2<=16;rw[hwa];decide) (by show(1:Int)<=1-0;omega) (by show(1:Int) -1+0<=8;omega)
 obtain⟨c1,c2⟩:=hc.cell m oM 0 17 rfl
 rw[show(wd.xt:Int) +8* ((0:Nat):Int)= (wd.xt:Int)by omega]at c1 c2
 obtain⟨b2,b3,b4,b5,b6⟩:=h.lay.begs
 have c3:=cellF_both s.S m wd.xt (by rw[b3];omega) c1
 have hset:s.S.setCell m wd.xt 4222993=s.S.put wd.xt (toB 4222993):=by
  unfold Img.setCell
  rw[if_pos c3,Int.toNat_natCast]
 have hdn:doneQ ⟨m,left-1,16488,16496,false,false,0⟩ s= ⟨0,⟨m,left-1,16488,16496,false,false,0⟩,{ s with S:=s.S.put wd.xt (toB 4222993) }⟩:=by
  unfold doneQ
  rw[hN.D,hw]
  show(if s.S.cellF m wd.xt false≠0 then _ else if(Code.unpack (s.S.cellV m wd.xt)).1≠17 then _ else(⟨0,_,{ s with S:=s.S.setCell m wd.xt 4222993 }⟩:Rs))=_
  rw[c1,if_neg (by simp),c2,if_neg (by decide),hset]
 have hhi:=hc.hi
 rw[List.length_cons]at hhi
 have hc5:csM.length=5:=rfl
 have hok: (s.S.put wd.xt (toB 4222993)).Ok:=put_ok h.img _ _ (by rw[toB_len];omega)
 have hR0:=h.onS hok (lay_put h.lay _ _) (h.code.put h.img _ _ (by rw[toB_len];omega) (.inr (by rw[hc5];omega))) (StkSame.put (λ_ _ _=>rfl) h.img h.lay _ _ (by rw[toB_len];omega)) D
 have hR:Rep { s with S:=s.S.put wd.xt (toB 4222993) } 16472 csM [] [0]:=⟨hR0.img,hR0.lay,hR0.pd,hR0.pr,hR0.code,hR0.d,hR0.r,hR0.dle,hR0.rle,hR0.dv,hR0.rv⟩
 have eS: ({ s with S:=s.S.put wd.xt (toB 4222993) }:Mt).S=s.S.put wd.xt (toB 4222993):=rfl
 have eD:dS ({ s with S:=s.S.put wd.xt (toB 4222993) }:Mt)=D:=hN.D
 have eX: ({ s with S:=s.S.put wd.xt (toB 4222993) }:Mt).ext=e:=hN.ext
 generalize ({ s with S:=s.S.put wd.xt (toB 4222993) }:Mt)=s4 at *
 have ht:s4.rtop 0=0:=hR.rtop 0 0 (by simp) rfl
 have hb:back ⟨m,left-1,16488,16496,false,false,0⟩ s4= ⟨0,⟨m,left-1,16488,0,true,false,0⟩,{ s4 with r:=s4.r-1 }⟩:=by
  unfold back
  rw[if_neg (by rw[hR.r];simp),ht]
  rfl
 have hR2:Rep { s4 with r:=s4.r-1 } 16472 csM [] []:=by
  have h2:=hR.cutR 0 (by simp)
  have e2:s4.cutR 0 = { s4 with r:=s4.r-1 }:=by unfold Mt.cutR;rw[hR.r];rfl
  rw[e2]at h2
  exact h2
 have hq:doesP ⟨m,left-1,16488,16496,false,false,0⟩ s= ⟨0,⟨m,left-1,16488,0,true,false,0⟩,{ s4 with r:=s4.r-1 }⟩:=by
  unfold doesP
  rw[hdn,if_pos rfl]
  exact hb
 have hst:=stepT_eq (tab:=wordTab cr) (x:=⟨m,left,16488,nx,false,false,0⟩) (i:=⟨18,0,0,1⟩) hl f1 (wordTab_18 _ _ _) 16496 (by dsimp only;unfold wrap64;omega) ha _ hq
 rw[if_neg (by simp)]at hst
 obtain⟨t1,t2,t3,t4⟩:=told_fields { s4 with r:=s4.r-1 } ⟨m,left-1,16488,0,true,false,0⟩ 18
 exact⟨_,_,hst,rfl,rfl,t1.trans eS,t2.trans eD,t3.trans eX,hR2.told _ _⟩
theorem prog_src(hm:m=1∨m=2)(hv:V64 v){e0:Ext}(he0:e0= ⟨T,0⟩){S:Img}(hh:HeadM S)(hN:Now m e0 S dM [v] 100 16472 x s)(hle:wdE T 0<=T.size):
 ∃q,goesT (wordTab createQ) 4 x s=some q∧q.f= (wOut T).f∧q.x.left= (wOut T).left∧q.s.ext= ⟨T,(wOut T).i⟩ ∧Left T v q.s:=by
 subst he0
 have h:=hN.rep
 obtain rfl:=hN.S
 have hcq:=createQ_M (x:=⟨m,100-1,16472,16480,false,false,0⟩) h.img h.lay hh h.code hN.D hN.ext
 have hst:=now_create (cr:=createQ) hm hN (by decide) _ hcq
 have e99: ((100:Int) -1)=99:=rfl
 have hWO:wOut T=if 99<wdC T 0 then⟨13,99,0⟩else if Dc.nameB (wdT T 0).data.toList=false then⟨15,99-wdC T 0,wdE T 0⟩else if 99-wdC T 0=0 then⟨13,0,wdE T 0⟩else if 99-wdC T 0=1 then⟨13,0,wdE T 0⟩else⟨0,97-wdC T 0,wdE T 0⟩:=rfl
 by_cases h1: (99:Int) <wdC T 0
 ·rw[if_pos (show(⟨m,100-1,16472,16480,false,false,0⟩:Rn).left<wdC T 0 from h1),if_pos n13]at hst
  rw[if_pos h1]at hWO
  rw[hWO]
  exact⟨_,goesT_end (n:=3) hst (.inl n13),rfl,rfl,hN.ext,.cell h.d⟩
 rw[if_neg (show¬(⟨m,100-1,16472,16480,false,false,0⟩:Rn).left<wdC T 0 from h1)]at hst
 rw[if_neg h1]at hWO
 by_cases h2:Dc.nameB (wdT T 0).data.toList=false
 ·rw[if_pos h2,if_pos n15]at hst
  rw[if_pos h2]at hWO
  rw[hWO]
  exact⟨_,goesT_end (n:=3) hst (.inl n15),rfl,rfl,(by show(⟨s.ext.text,wdE T 0⟩:Ext)=_;rw[hN.ext]),.cell h.d⟩
 rw[if_neg h2,if_neg (λh=>h rfl)]at hst
 rw[if_neg h2]at hWO
 have hn:Dc.nameB (wdT T 0).data.toList=true:=by simpa using h2
 have hM:=mk0_ok h.img h.lay hh h.code hn
 obtain⟨x1,x2,x3,x4,x5⟩:=xtN_le hn
 have hsm:=same_mk1 h.img h.lay hM hn
 obtain⟨M1,C1⟩:=mk1_ok hM hn
 obtain⟨M2,C2⟩:=mk2_ok (v:=v) hM hn hv
 obtain⟨M3,C3⟩:=mk3_ok (v:=v) hM hn hv
 have hR1:=(h.read (wdE T 0)).onS M1.ok M1.lay M1.cm hsm ⟨3,xtN (wdT T 0).data.toList+16,16512⟩
 generalize hnn: (wdT T 0).data.toList=n at *
 have hext: ((s.readTo (wdE T 0)).onDict (mk1 s.S n) ⟨3,xtN n+16,16512⟩).ext= ⟨T,wdE T 0⟩:=by show(⟨s.ext.text,wdE T 0⟩:Ext)=_;rw[hN.ext]
 have hN1:Now m ⟨T,wdE T 0⟩ (mk1 s.S n) ⟨3,xtN n+16,16512⟩ [v] (99-wdC T 0) 16480 ⟨m,99-wdC T 0,16480,16480,false,false,0⟩ (((s.readTo (wdE T 0)).onDict (mk1 s.S n) ⟨3,xtN n+16,16512⟩).told ⟨m,99-wdC T 0,16472,16480,false,false,0⟩ 85):=by
  obtain⟨t1,t2,t3,t4⟩:=told_fields ((s.readTo (wdE T 0)).onDict (mk1 s.S n) ⟨3,xtN n+16,16512⟩) ⟨m,99-wdC T 0,16472,16480,false,false,0⟩ 85
  exact⟨⟨_,rfl⟩,hR1.told _ _,t1,t2.trans (dS_on rfl),t3.trans hext⟩
 have g1:=goesT_of (n:=3) hst rfl rfl
 replace g1:goesT (wordTab createQ) 4 x s=goesT (wordTab createQ) 3 ⟨m,99-wdC T 0,16480,16480,false,false,0⟩ (((s.readTo (wdE T 0)).onDict (mk1 s.S n) ⟨3,xtN n+16,16512⟩).told ⟨m,99-wdC T 0,16472,16480,false,false,0⟩ 85):=g1
 generalize (((s.readTo (wdE T 0)).onDict (mk1 s.S n) ⟨3,xtN n+16,16512⟩).told ⟨m,99-wdC T 0,16472,16480,false,false,0⟩ 85)=s1 at *
 clear hst hcq hext
 by_cases h3:99-wdC T 0=0
 ·rw[if_pos h3]at hWO
  rw[hWO]
  exact⟨_,g1.trans (goesT_end (n:=2) (stepT_zero h3) (.inl n13)),rfl,h3,hN1.ext,.cell hN1.rep.d⟩
 rw[if_neg h3]at hWO
 obtain⟨x',s',hst2,hN2⟩:=now_comma (cr:=createQ) hm hN1 h3 rfl (by show(xtN n+16) % 8=0;omega) (by show xtN n+16+8<=16960;omega) (by show 16512<=xtN n+16;omega)
 have g2:=g1.trans (goesT_of (n:=2) hst2 rfl (by obtain⟨nx,e⟩:=hN2.x;rw[e]))
 have hN2:Now m ⟨T,wdE T 0⟩ (mk2 s.S n v) ⟨3,xtN n+24,16512⟩ [] (99-wdC T 0-1) 16488 x' s':=hN2
 have hw2:words (mk2 s.S n v) ⟨3,xtN n+24,16512⟩= [wordN n,wordM]:=words_n M2.ok M2.lay M2.hm M2.hn hn rfl rfl
 by_cases h4:99-wdC T 0=1
 ·rw[if_pos h4]at hWO
  rw[hWO]
  obtain⟨nx,ex⟩:=hN2.x
  have hl0:x'.left=0:=by rw[ex];show 99-wdC T 0-1=0;omega
  exact⟨_,g2.trans (goesT_end (n:=1) (stepT_zero hl0) (.inl n13)),rfl,hl0,hN2.ext,.short hN2.rep.d (by rw[hnn];exact hn) (by rw[hnn,hN2.S,hN2.D];exact hw2) oM⟩
 rw[if_neg h4]at hWO
 obtain⟨x3',s3,hst3,ho,hl3,eS,eD,eX,hR3⟩:=now_does (cr:=createQ) (wd:=wordN n) hm hN2 oM hw2 (by exact C2) (by show 16521<=xtN n;omega)
 rw[hWO]
 refine⟨_,g2.trans (goesT_end (n:=1) hst3 (.inr ho)),rfl,?_,eX,.full (by rw[hnn];exact hn) ?_ hR3 ?_⟩
 ·show x3'.left=_
  rw[hl3]
  show _=97-wdC T 0
  omega
 ·rw[hnn,eD]
  show words s3.S _=_
  rw[eS]
  exact words_n M3.ok M3.lay M3.hm M3.hn hn rfl rfl
 ·rw[hnn]
  show CodeAt s3.S _ _
  rw[eS]
  exact C3
theorem prog_nil(hm:m=1∨m=2){e:Ext}{S:Img}(hN:Now m e S dM [v] 100 16472 x s): ∃q,goesT (wordTab createN) 4 x s=some q∧q.f=15∧q.x.left=99∧q.s.d=1:=by
 have hst:=now_create (cr:=createN) hm hN (by decide) ⟨15,⟨m,100-1,16472,16480,false,false,0⟩,s⟩ rfl
 rw[if_pos n15]at hst
 exact⟨_,goesT_end (n:=3) hst (.inl n15),rfl,rfl,hN.rep.d⟩
end
structure DocM(v:Int)(x:Rw):Prop where
 made:MadeM x.S
 D:x.D=dM
 dd:x.dd=1
 da:x.da=v::List.replicate 15 0
 rd:x.rd=0
 ra:x.ra=List.replicate 8 0
 tells:x.tells=true
theorem at8_at{S:Img}(hS:S.Ok)(hL:Lay0 S)(h l:Nat)(h1:16456<=h)(h2:h<=16960)(hl:l % 8=0)(hl1:16456<=l)(hl2:l+16<=16960):At8 S ⟨3,h,l⟩ 16456 16960:=by
 obtain⟨b2,b3,b4,b5,b6⟩:=hL.begs
 have e1:Dc.fr S ⟨3,h,l⟩=16456:=by show S.beg 3+8=_;omega
 have e2:Dc.lim S ⟨3,h,l⟩=16960:=b4
 exact⟨⟨.inr rfl,by rw[e1];exact h1,by rw[e2];exact h2,.inr ⟨hl,by rw[e1];exact hl1,by rw[e2];exact hl2⟩,by rw[e2];exact⟨by decide,by show S.beg 3 % 8=0;omega⟩,by rw[e2];show S.beg 3+256<=_;omega⟩,hS,e1,e2⟩
theorem dw_at{x:Rw}(ho:DOk x){h l:Nat}(hD:x.D= ⟨3,h,l⟩)(h1:16456<=h)(h2:h<=16960)(hl:l % 8=0)(hl1:16456<=l)(hl2:l+16<=16960):DW x:=
 ⟨ho,by rw[hD];exact at8_at ho.S ho.L h l h1 h2 hl hl1 hl2,by rw[hD];exact shutM rfl⟩
theorem dCreate_M{T:ByteArray}{y:Dy}{x:Rw}(hS:x.S.Ok)(hL:Lay0 x.S)(hm:HeadM x.S)(hc:CodeAt x.S 16472 csM)(hd:x.D=dM):
 dCreate T 0 y x=if y.left<wdC T 0 then⟨13,y,x,0⟩
  else if Dc.nameB (wdT T 0).data.toList=false then⟨15,{ y with left:=y.left-wdC T 0 },x,wdE T 0⟩
  else⟨0,{ y with left:=y.left-wdC T 0 },x.dic (mk1 x.S (wdT T 0).data.toList) ⟨3,xtN (wdT T 0).data.toList+16,16512⟩,wdE T 0⟩:=by
 have hcr:x.crt (wdT T 0).data.toList=x.dic (dM.createS x.S (wdT T 0).data.toList) (dM.createD x.S (wdT T 0).data.toList):=by
  unfold Rw.crt
  rw[hd]
 unfold dCreate
 by_cases hl:y.left<wdC T 0
 ·rw[if_pos hl,if_pos hl]
 rw[if_neg hl,if_neg hl]
 simp only
 rw[hd,createM hL]
 generalize (wdT T 0).data.toList=n at *
 by_cases hn:Dc.nameB n=false
 ·rw[if_pos hn,if_pos (by decide),if_pos hn,hcr]
  have f1:dM.createF x.S n=15:=by rw[createM hL,if_pos hn]
  have f2:dM.createS x.S n=x.S:=by unfold Dc.createS;rw[f1,if_neg (by decide)]
  have f3:dM.createD x.S n=dM:=by unfold Dc.createD;rw[f1,if_neg (by decide)]
  rw[f2,f3,<-hd]
  rfl
 rw[if_neg hn,if_neg (by decide),if_neg hn]
 have hn2:Dc.nameB n=true:=by simpa using hn
 obtain⟨h1,h2,h3,h4,h5⟩:=xtN_le hn2
 obtain⟨g1,g2⟩:=createMS hL hn2
 have hM:=mk0_ok hS hL hm hc hn2
 have c2: (x.crt n).shw=x.dic (mk0 x.S n) ⟨3,xtN n,16512⟩:=by
  rw[hcr,g1,g2]
  show(x.dic _ _).dic ((⟨3,xtN n,16512⟩:Dc).turnS (x.S.put 16512 (dM.headB n)) showT) _=_
  rw[showM hS hL hn2]
  rfl
 have k1:=commaM (D:=⟨3,xtN n,16512⟩) hM.lay rfl h5 (by show xtN n+8<=16960;omega) 17
 have l1:Lay0 ((mk0 x.S n).put (xtN n) (toB 17)):=lay_put hM.lay _ _
 have k2:=commaM (D:=⟨3,xtN n+8,16512⟩) l1 rfl (by show(xtN n+8) % 8=0;omega) (by show xtN n+8+8<=16960;omega) 0
 have c3: ((x.crt n).shw).cma 17=x.dic ((mk0 x.S n).put (xtN n) (toB 17)) ⟨3,xtN n+8,16512⟩:=by
  rw[c2]
  show(x.dic _ _).dic ((⟨3,xtN n,16512⟩:Dc).commaS (mk0 x.S n) 17) ((⟨3,xtN n,16512⟩:Dc).commaD (mk0 x.S n))=_
  rw[k1.2.1,k1.2.2]
  rfl
 have c4: (((x.crt n).shw).cma 17).cma 0=x.dic (mk1 x.S n) ⟨3,xtN n+16,16512⟩:=by
  rw[c3]
  show(x.dic _ _).dic ((⟨3,xtN n+8,16512⟩:Dc).commaS ((mk0 x.S n).put (xtN n) (toB 17)) 0) ((⟨3,xtN n+8,16512⟩:Dc).commaD ((mk0 x.S n).put (xtN n) (toB 17)))=_
  rw[k2.2.1,k2.2.2]
  rfl
 have f2: ((x.crt n).shw).D.commaF ((x.crt n).shw).S=0:=by rw[c2];exact k1.1
 have f3: (((x.crt n).shw).cma 17).D.commaF (((x.crt n).shw).cma 17).S=0:=by rw[c3];exact k2.1
 rw[f2,if_neg (by decide),f3,c4]
def StepTo(w:World)(F:Nat->Prop)(gx:Nat)(src:Value)(r:Rc)(ws:Value)(p:Option Asr)(y:Dy)(x:Rw)(f:Int)(p':Option Asr)(y':Dy)(x':Rw):Prop:=
 ∀sv se W,List.length se<=1000->On F w (AllA (pXL p gx src y r ws sv x se)) W->Calls Tryz.prog 89 #[.pointer (some ⟨gx,0,none⟩)] W (λe w'=>e = .returned (.int .i64 f)∧∃sv2 se2,List.length se2<=se.length+1∧On F w (AllA (pXL p' gx src y' r ws sv2 x' se2)) w')
section
variable {w W:World}{F:Nat->Prop}{gx gs:Nat}{src:Value}{y:Dy}{r:Rc}{ws sv:Value}{x:Rw}{seen:List Stp}{p:Option Asr}{T:ByteArray}{m v:Int}
theorem step_zero(hl:y.left=0):StepTo w F gx src r ws p y x 13 p y x:=by
 intro sv se W hse h
 have c2:=(dx_cells (px_dx h)).x2
 rw[hl]at c2
 replace h:=hid h
 replace hl:=hid hl
 go_enter Tryz.func89,Tryz.ntmps89
 go_wp2
 go_ret
 exact⟨rfl,sv,se,Nat.le_succ _,h.out⟩
theorem r_create_nil(h:On F w (AllA (dXL gx (.pointer none) y r ws sv x seen)) W):Calls Tryz.prog 198 #[.pointer (some ⟨gx,0,none⟩)] W (Got (.returned (.int .i64 15)) (AllA (dXL gx (.pointer none) y r ws sv x seen)) F w):=by
 have c8:=(dx_cells h).x8
 replace h:=hid h
 go_enter Tryz.func198,Tryz.ntmps198
 go_wp2
 go_ret
 exact⟨rfl,h.out⟩
end
section
variable {w W:World}{F:Nat->Prop}{gx gs:Nat}{src:Value}{y:Dy}{r:Rc}{ws sv:Value}{x:Rw}{seen:List Stp}{p:Option Asr}{T:ByteArray}{m v:Int}
def srP(gs:Nat)(T:ByteArray)(i:Nat):Option Asr:=some (BlkA gs 95 (srC T i))
theorem step_nil(hm:m=1∨m=2)(ho:DOk x)(ht:x.tells=true)(hc:CodeAt x.S 16472 csM){nx:Int}(hdd:x.dd=1):StepTo w F gx (.pointer none) r ws none ⟨m,100,16472,nx,false⟩ x 15 none ⟨m,99,16472,16480,false⟩ x:=by
 intro sv se W hse h
 obtain⟨c1,c2⟩:=hc.cell m oM 0 85 rfl
 have hr:=r_step (p:=none) (p':=none) (y2:=⟨m,99,16472,16480,false⟩) (x2:=x) 85 0 85 15 h ⟨by show(1:Int)<=100;omega,by show(100:Int)<=1000000;omega⟩ hm ⟨by show(0:Int)<=16472;omega,by show(16472:Int)<=1000000;omega⟩ (.inl rfl) ho.S c1 c2 (by unfold V64;omega) (by decide)
  (λW2 h2=>r_asks 85 0 0 1 0 0 0 (.inl ⟨rfl,rfl⟩) (by decide) (px_dx h2) ho ⟨by omega,by omega⟩ ⟨by omega,by omega⟩ oM)
  (λF' W2 h2=>r_does 85 0 0 1 (.inl ⟨rfl,λW3 h3=>r_create_nil h3⟩) h2) ho ht hse
 exact hr
theorem step_create(hm:m=1∨m=2)(hw:DW x)(ht:x.tells=true)(hc:CodeAt x.S 16472 csM)(hdd:x.dd=1)(hT:T.size<=60000)(hE:wdE T 0<=T.size){nx:Int}{q:Dr}(hq:dCreate T 0 ⟨m,99,16472,16480,false⟩ x=q)(ho2:DOk q.x)(ht2:q.x.tells=true):
 StepTo w F gx (.pointer (some ⟨gs,0,none⟩)) r ws (srP gs T 0) ⟨m,100,16472,nx,false⟩ x q.f (srP gs T q.i) (if q.f=0 then { q.y with pc:=q.y.next } else q.y) q.x:=by
 intro sv se W hse h
 obtain⟨c1,c2⟩:=hc.cell m oM 0 85 rfl
 have hcr: ∀F' W3,On F' W3 (AllA (sXL gs T 0 gx ⟨m,99,16472,16480,false⟩ r ws sv x se)) W3->∀W4,On F' W3 (AllA (sXL gs T 0 gx ⟨m,99,16472,16480,false⟩ r ws sv x se)) W4->_:=λF' W3 _ W4 h4=>r_create h4 hT (Nat.zero_le _) ⟨hE,Nat.zero_le _⟩ ⟨by show(0:Int)<=99;omega,by show(99:Int)<=1000000;omega⟩ hw
 rw[hq]at hcr
 exact r_step (p:=srP gs T 0) (p':=srP gs T q.i) (y2:=q.y) (x2:=q.x) 85 0 85 q.f h ⟨by show(1:Int)<=100;omega,by show(100:Int)<=1000000;omega⟩ hm ⟨by show(0:Int)<=16472;omega,by show(16472:Int)<=1000000;omega⟩ (.inl rfl) hw.ok.S c1 c2 (by unfold V64;omega) (by decide)
  (λW2 h2=>r_asks 85 0 0 1 0 0 0 (.inl ⟨rfl,rfl⟩) (by decide) (px_dx h2) hw.ok ⟨by omega,by omega⟩ ⟨by omega,by omega⟩ oM)
  (λF' W2 h2=>r_does 85 0 0 1 (.inl ⟨rfl,λW3 h3=>hcr _ _ h2 W3 h3⟩) h2) ho2 ht2 hse
theorem step_comma{p:Option Asr}(hm:m=1∨m=2)(hw:DW x)(ht:x.tells=true)(hc:CodeAt x.S 16472 csM)(hdd:x.dd=1)(hv:rtop x.dd x.da 0=v)(hvv:V64 v)(hf:x.D.commaF x.S=0){left nx:Int}(hl:1<=left∧left<=1000000)(ho2:DOk x.commaE)(ht2:x.commaE.tells=true):
 StepTo w F gx src r ws p ⟨m,left,16480,nx,false⟩ x 0 p ⟨m,left-1,16488,16488,false⟩ x.commaE:=by
 intro sv se W hse h
 obtain⟨c1,c2⟩:=hc.cell m oM 1 74 rfl
 exact r_step (p:=p) (p':=p) (y2:=⟨m,left-1,16480,16488,false⟩) (x2:=x.commaE) 74 0 74 0 h hl hm ⟨by show(0:Int)<=16480;omega,by show(16480:Int)<=1000000;omega⟩ (.inr (.inl rfl)) hw.ok.S c1 c2 (by unfold V64;omega) (by decide)
  (λW2 h2=>r_asks 74 0 0 1 0 1 0 (.inr (.inl ⟨rfl,rfl⟩)) (by decide) (px_dx h2) hw.ok ⟨by omega,by omega⟩ ⟨by omega,by omega⟩ oM)
  (λF' W2 h2=>r_does 74 0 0 1 (.inr (.inl ⟨rfl,λW3 h3=>px_call h3 λF4 h4=>by
   have h5:=r_comma h4 hw.ok oM hw.h8 hw.sh (by rw[hv];exact hvv)
   rw[hf]at h5
   exact h5⟩)) h2) ho2 ht2 hse
theorem step_does{p:Option Asr}(hm:m=1∨m=2)(hw:DW x)(ht:x.tells=true)(hc:CodeAt x.S 16472 csM)(hdd:x.dd=0)(hrd:x.rd=1)(hra:x.ra.getD 0 0=0){wd:Wd}{rest:List Wd}(hws:words x.S x.D=wd::rest)(hln: (wd::rest).length<=100000){cs:List Int}(hcx:CodeAt x.S wd.xt (17::cs)){left nx:Int}(hl:1<=left∧left<=1000000)
 {x2:Rw} (hx2: (x.does wd.xt m 4222993).pop 0=x2) (ho2:DOk x2) (ht2:x2.tells=true):
 StepTo w F gx src r ws p ⟨m,left,16488,nx,false⟩ x 0 p ⟨m,left-1,0,0,true⟩ x2:=by
 intro sv se W hse h
 obtain⟨c1,c2⟩:=hc.cell m oM 2 18 rfl
 obtain⟨d1,d2⟩:=hcx.cell m oM 0 17 rfl
 rw[show(wd.xt:Int) +8* ((0:Nat):Int)= (wd.xt:Int)by omega]at d1 d2
 have b3:=hw.ok.L.begs.2.1
 have hlo:=hcx.lo
 have d3:=cellF_both x.S m wd.xt oM d1
 exact r_step (p:=p) (p':=p) (y2:=⟨m,left-1,16488,0,true⟩) (x2:=x2) 18 0 18 0 h hl hm ⟨by show(0:Int)<=16488;omega,by show(16488:Int)<=1000000;omega⟩ (.inr (.inr rfl)) hw.ok.S c1 c2 (by unfold V64;omega) (by decide)
  (λW2 h2=>r_asks 18 0 0 1 1 0 0 (.inr (.inr ⟨rfl,rfl⟩)) (by decide) (px_dx h2) hw.ok ⟨by omega,by omega⟩ ⟨by omega,by omega⟩ oM)
  (λF' W2 h2=>r_does 18 0 0 1 (.inr (.inr ⟨rfl,λW3 h3=>px_call h3 λF4 h4=>by
   refine r_control 0 0 1 h4 λW5 h5=> ?_
   have h6:=r_done (y:=⟨m,left-1,16488,16488+8,false⟩) h5 hw wd rest hws hln 0 d1 17 d2 (by unfold V64;omega) (by decide) ⟨by show(0:Int)<=16488;omega,by show(16488:Int)<=1000000;omega⟩ d3 0 hrd
   rw[hra]at h6
   rw[<-hx2]
   exact h6⟩)) h2) ho2 ht2 hse
end
def sel4{α:Type}(a b c d:α):Nat->α
 | 0=>a
 | 1=>b
 | 2=>c
 | _=>d
section
variable {w W:World}{F:Nat->Prop}{gx gs:Nat}{src:Value}{r:Rc}{ws sv:Value}{x:Rw}{seen:List Stp}{T:ByteArray}{m v:Int}
theorem push0_ok(h:DocM v x):DW x.push0∧x.push0.rd=1∧x.push0.ra.getD 0 0=0∧DOk x:=by
 have ho:DOk x:=⟨by rw[h.dd];decide,by rw[h.da];rfl,by rw[h.rd];decide,by rw[h.ra];rfl,h.made.ok,h.made.lay⟩
 have hr:x.push0.ra= (List.replicate 8 0).set 0 0:=by show x.ra.set x.rd 0=_;rw[h.ra,h.rd]
 have ho2:DOk x.push0:=⟨ho.dd,ho.da,by show x.rd+1<=8;rw[h.rd];decide,by rw[hr];rfl,ho.S,ho.L⟩
 refine⟨dw_at (h:=16512) (l:=16456) ho2 h.D (by decide) (by decide) (by decide) (by decide) (by decide),by show x.rd+1=1;rw[h.rd],by rw[hr];rfl,ho⟩
theorem doc_nil(hm:m=1∨m=2)(hx:DocM v x)(h:On F w (AllA (qXL none r ws x)) W):
 Calls Tryz.prog 37 #[.pointer (some ⟨r.gW,0,none⟩),.int .i64 m,.int .i64 16472,.int .i64 100,.pointer none] W (λe w'=>e = .returned (.tuple #[.int .i64 15,.int .i64 1])∧∃gx y x' sv2 se2,On F w (AllA (pXL none gx (.pointer none) y r ws sv2 x' se2)) w'):=by
 obtain⟨hw,hrd,hra,ho⟩:=push0_ok hx
 have hs1:=λgx=>step_nil (w:=w) (F:=F) (gx:=gx) (r:=r) (ws:=ws) (nx:=0) hm hw.ok hx.tells hx.made.code hx.dd
 refine(r_run none m 16472 100 ⟨by decide,by decide⟩ 1 (λ_=>none) (sel4 ⟨m,100,16472,0,false⟩ ⟨m,99,16472,16480,false⟩ ⟨m,99,16472,16480,false⟩ ⟨m,99,16472,16480,false⟩) (λ_=>x.push0) (sel4 0 15 15 15) ho (by rw[hx.rd];decide) h rfl rfl rfl ?_ (.inl (by decide)) ⟨by show(0:Int)<=99;decide,by show(99:Int)<=1000000;decide⟩ ?_).mono ?_
 ·intro k hk
  obtain rfl:k=0:=by omega
  exact⟨rfl,rfl⟩
 ·intro k hk gx sv' se W2 hse h2
  obtain rfl:k=0:=by omega
  exact hs1 gx sv' se W2 oM h2
 ·rintro e w' ⟨rfl,gx,sv2,se2,h2⟩
  exact⟨rfl,gx,_,_,sv2,se2,h2⟩
theorem doc_src(hm:m=1∨m=2)(hv:V64 v)(hx:DocM v x)(hT:T.size<=60000)(hE:wdE T 0<=T.size)(hC:0<=wdC T 0)(h:On F w (AllA (qXL (srP gs T 0) r ws x)) W):
 Calls Tryz.prog 37 #[.pointer (some ⟨r.gW,0,none⟩),.int .i64 m,.int .i64 16472,.int .i64 100,.pointer (some ⟨gs,0,none⟩)] W (λe w'=>e = .returned (.tuple #[.int .i64 (wOut T).f,.int .i64 (100- (wOut T).left)])∧∃gx y x' sv2 se2,On F w (AllA (pXL (srP gs T (wOut T).i) gx (.pointer (some ⟨gs,0,none⟩)) y r ws sv2 x' se2)) w'):=by
 obtain⟨hw,hrd,hra,ho⟩:=push0_ok hx
 have hMM:=hx.made
 have hcq:=dCreate_M (T:=T) (y:=⟨m,99,16472,16480,false⟩) (x:=x.push0) hMM.ok hMM.lay hMM.head hMM.code hx.D
 have hWO:wOut T=if 99<wdC T 0 then⟨13,99,0⟩else if Dc.nameB (wdT T 0).data.toList=false then⟨15,99-wdC T 0,wdE T 0⟩else if 99-wdC T 0=0 then⟨13,0,wdE T 0⟩else if 99-wdC T 0=1 then⟨13,0,wdE T 0⟩else⟨0,97-wdC T 0,wdE T 0⟩:=rfl
 have hcr:=λ(gx:Nat) (q:Dr) (hq:dCreate T 0 ⟨m,99,16472,16480,false⟩ x.push0=q) (o1:DOk q.x) (o2:q.x.tells=true)=>step_create (w:=w) (F:=F) (gx:=gx) (gs:=gs) (r:=r) (ws:=ws) (nx:=0) hm hw hx.tells hMM.code hx.dd hT hE hq o1 o2
 by_cases h1: (99:Int) <wdC T 0
 ·rw[if_pos (show(⟨m,99,16472,16480,false⟩:Dy).left<wdC T 0 from h1)]at hcq
  rw[if_pos h1]at hWO
  rw[hWO]
  have hs1:=λgx=>hcr gx _ hcq hw.ok hx.tells
  refine(r_run (some ⟨gs,0,none⟩) m 16472 100 ⟨by decide,by decide⟩ 1 (λ_=>srP gs T 0) (sel4 ⟨m,100,16472,0,false⟩ ⟨m,99,16472,16480,false⟩ ⟨m,99,16472,16480,false⟩ ⟨m,99,16472,16480,false⟩) (λ_=>x.push0) (sel4 0 13 13 13) ho (by rw[hx.rd];decide) h rfl rfl rfl ?_ (.inl (by decide)) ⟨by show(0:Int)<=99;decide,by show(99:Int)<=1000000;decide⟩ ?_).mono ?_
  ·intro k hk
   obtain rfl:k=0:=by omega
   exact⟨rfl,rfl⟩
  ·intro k hk gx sv' se W2 hse h2
   obtain rfl:k=0:=by omega
   exact hs1 gx sv' se W2 oM h2
  ·rintro e w' ⟨rfl,gx,sv2,se2,h2⟩
   exact⟨rfl,gx,_,_,sv2,se2,h2⟩
 rw[if_neg (show¬(⟨m,99,16472,16480,false⟩:Dy).left<wdC T 0 from h1)]at hcq
 rw[if_neg h1]at hWO
 by_cases h2:Dc.nameB (wdT T 0).data.toList=false
 ·rw[if_pos h2]at hcq
  rw[if_pos h2]at hWO
  rw[hWO]
  have hs1:=λgx=>hcr gx _ hcq hw.ok hx.tells
  refine(r_run (some ⟨gs,0,none⟩) m 16472 100 ⟨by decide,by decide⟩ 1 (sel4 (srP gs T 0) (srP gs T (wdE T 0)) none none) (sel4 ⟨m,100,16472,0,false⟩ ⟨m,99-wdC T 0,16472,16480,false⟩ ⟨m,99,16472,16480,false⟩ ⟨m,99,16472,16480,false⟩) (λ_=>x.push0) (sel4 0 15 15 15) ho (by rw[hx.rd];decide) h rfl rfl rfl ?_ (.inl (by decide)) ⟨by show(0:Int)<=99-wdC T 0;omega,by show 99-wdC T 0<=1000000;omega⟩ ?_).mono ?_
  ·intro k hk
   obtain rfl:k=0:=by omega
   exact⟨rfl,rfl⟩
  ·intro k hk gx sv' se W2 hse h2
   obtain rfl:k=0:=by omega
   exact hs1 gx sv' se W2 oM h2
  ·rintro e w' ⟨rfl,gx,sv2,se2,h2⟩
   exact⟨rfl,gx,_,_,sv2,se2,h2⟩
 rw[if_neg h2]at hcq
 rw[if_neg h2]at hWO
 have hn:Dc.nameB (wdT T 0).data.toList=true:=by simpa using h2
 have hM:=mk0_ok hMM.ok hMM.lay hMM.head hMM.code hn
 obtain⟨x1,x2,x3,x4,x5⟩:=xtN_le hn
 obtain⟨M1,C1⟩:=mk1_ok hM hn
 obtain⟨M2,C2⟩:=mk2_ok (v:=v) hM hn hv
 obtain⟨M3,C3⟩:=mk3_ok (v:=v) hM hn hv
 have hSS:x.push0.S=x.S:=rfl
 rw[hSS]at hcq
 generalize hnn: (wdT T 0).data.toList=n at *
 obtain⟨X1,hX1⟩: ∃X1,X1=x.push0.dic (mk1 x.S n) ⟨3,xtN n+16,16512⟩:=⟨_,rfl⟩
 have e1S:X1.S=mk1 x.S n:=by rw[hX1];rfl
 have e1D:X1.D= ⟨3,xtN n+16,16512⟩:=by rw[hX1];rfl
 have o1:DOk X1:=by rw[hX1];exact⟨hw.ok.dd,hw.ok.da,hw.ok.rd,hw.ok.ra,M1.ok,M1.lay⟩
 have w1:DW X1:=dw_at o1 e1D oM oM (by decide) (by decide) (by decide)
 have t1:X1.tells=true:=by rw[hX1];exact hx.tells
 have d1:X1.dd=1:=by rw[hX1];exact hx.dd
 have r1:X1.rd=1:=by rw[hX1];exact hrd
 have ra1:X1.ra.getD 0 0=0:=by rw[hX1];exact hra
 have v1:rtop X1.dd X1.da 0=v:=by
  have hda:X1.da=v::List.replicate 15 0:=by rw[hX1];exact hx.da
  rw[d1,hda]
  rfl
 rw[<-hX1]at hcq
 have hs1:=λgx=>hcr gx _ hcq o1 t1
 by_cases h3:99-wdC T 0=0
 ·rw[if_pos h3]at hWO
  rw[hWO]
  have hs2:=λgx=>step_zero (w:=w) (F:=F) (gx:=gx) (src:= .pointer (some ⟨gs,0,none⟩)) (r:=r) (ws:=ws) (p:=srP gs T (wdE T 0)) (x:=X1) (y:=⟨m,99-wdC T 0,16480,16480,false⟩) h3
  refine(r_run (some ⟨gs,0,none⟩) m 16472 100 ⟨by decide,by decide⟩ 2 (sel4 (srP gs T 0) (srP gs T (wdE T 0)) (srP gs T (wdE T 0)) none) (sel4 ⟨m,100,16472,0,false⟩ ⟨m,99-wdC T 0,16480,16480,false⟩ ⟨m,99-wdC T 0,16480,16480,false⟩ ⟨m,99,16472,16480,false⟩) (sel4 x.push0 X1 X1 X1) (sel4 0 0 13 13) ho (by rw[hx.rd];decide) h rfl rfl rfl ?_ (.inl (by decide)) ⟨by show(0:Int)<=99-wdC T 0;omega,by show 99-wdC T 0<=1000000;omega⟩ ?_).mono ?_
  ·intro k hk
   rcases(show k=0∨k=1 by omega)with rfl|rfl<;>exact⟨rfl,rfl⟩
  ·intro k hk gx sv' se W2 hse h2
   rcases(show k=0∨k=1 by omega)with rfl|rfl
   ·exact hs1 gx sv' se W2 oM h2
   ·exact hs2 gx sv' se W2 oM h2
  ·rintro e w' ⟨rfl,gx,sv2,se2,h2⟩
   refine⟨?_,gx,_,_,sv2,se2,h2⟩
   show Ending.returned (.tuple #[.int .i64 13,.int .i64 (100- (99-wdC T 0))])= .returned (.tuple #[.int .i64 13,.int .i64 (100-0)])
   rw[h3]
 rw[if_neg h3]at hWO
 have k2:=commaM (S:=X1.S) (D:=X1.D) (by rw[e1S];exact M1.lay) (by rw[e1D]) (by rw[e1D];show(xtN n+16) % 8=0;omega) (by rw[e1D];show xtN n+16+8<=16960;omega) v
 have e2:X1.commaE = { X1.dic (mk2 x.S n v) ⟨3,xtN n+24,16512⟩with dd:=0 }:=by
  unfold Rw.commaE Rw.comma
  rw[if_pos k2.1,v1,k2.2.1,k2.2.2,e1D,e1S]
  show { X1.dic (mk2 x.S n v) ⟨3,xtN n+24,16512⟩with dd:=X1.dd-1 }=_
  rw[d1]
 obtain⟨X2,hX2⟩: ∃X2,X2=X1.commaE:=⟨_,rfl⟩
 have e2S:X2.S=mk2 x.S n v:=by rw[hX2,e2];rfl
 have e2D:X2.D= ⟨3,xtN n+24,16512⟩:=by rw[hX2,e2];rfl
 have o2:DOk X2:=by rw[hX2,e2];exact⟨Nat.zero_le _,o1.da,o1.rd,o1.ra,M2.ok,M2.lay⟩
 have w2:DW X2:=dw_at o2 e2D oM oM (by decide) (by decide) (by decide)
 have t2:X2.tells=true:=by rw[hX2,e2];exact t1
 have d2:X2.dd=0:=by rw[hX2,e2]
 have r2:X2.rd=1:=by rw[hX2,e2];exact r1
 have ra2:X2.ra.getD 0 0=0:=by rw[hX2,e2];exact ra1
 have hs2:=λgx=>step_comma (w:=w) (F:=F) (gx:=gx) (src:= .pointer (some ⟨gs,0,none⟩)) (r:=r) (ws:=ws) (p:=srP gs T (wdE T 0)) (x:=X1) (left:=99-wdC T 0) (nx:=16480) hm w1 t1 (by rw[e1S];exact M1.cm) d1 v1 hv k2.1 ⟨by omega,by omega⟩ (by rw[<-hX2];exact o2) (by rw[<-hX2];exact t2)
 rw[<-hX2]at hs2
 by_cases h4:99-wdC T 0=1
 ·rw[if_pos h4]at hWO
  rw[hWO]
  have hs3:=λgx=>step_zero (w:=w) (F:=F) (gx:=gx) (src:= .pointer (some ⟨gs,0,none⟩)) (r:=r) (ws:=ws) (p:=srP gs T (wdE T 0)) (x:=X2) (y:=⟨m,99-wdC T 0-1,16488,16488,false⟩) (by show 99-wdC T 0-1=0;omega)
  refine(r_run (some ⟨gs,0,none⟩) m 16472 100 ⟨by decide,by decide⟩ 3 (sel4 (srP gs T 0) (srP gs T (wdE T 0)) (srP gs T (wdE T 0)) (srP gs T (wdE T 0))) (sel4 ⟨m,100,16472,0,false⟩ ⟨m,99-wdC T 0,16480,16480,false⟩ ⟨m,99-wdC T 0-1,16488,16488,false⟩ ⟨m,99-wdC T 0-1,16488,16488,false⟩) (sel4 x.push0 X1 X2 X2) (sel4 0 0 0 13) ho (by rw[hx.rd];decide) h rfl rfl rfl ?_ (.inl (by decide)) ⟨by show(0:Int)<=99-wdC T 0-1;omega,by show 99-wdC T 0-1<=1000000;omega⟩ ?_).mono ?_
  ·intro k hk
   rcases(show k=0∨k=1∨k=2 by omega)with rfl|rfl|rfl<;>exact⟨rfl,rfl⟩
  ·intro k hk gx sv' se W2 hse h2
   rcases(show k=0∨k=1∨k=2 by omega)with rfl|rfl|rfl
   ·exact hs1 gx sv' se W2 oM h2
   ·exact hs2 gx sv' se W2 oM h2
   ·exact hs3 gx sv' se W2 oM h2
  ·rintro e w' ⟨rfl,gx,sv2,se2,h2⟩
   refine⟨?_,gx,_,_,sv2,se2,h2⟩
   show Ending.returned (.tuple #[.int .i64 13,.int .i64 (100- (99-wdC T 0-1))])= .returned (.tuple #[.int .i64 13,.int .i64 (100-0)])
   rw[h4]
   rfl
 rw[if_neg h4]at hWO
 rw[hWO]
 have hw2:words X2.S X2.D = [wordN n,wordM]:=by rw[e2S,e2D];exact words_n M2.ok M2.lay M2.hm M2.hn hn rfl rfl
 have hxt:16456<=(wordN n).xt:=by show 16456<=xtN n;omega
 have d3:X2.S.setCell m (xtN n) 4222993=mk3 x.S n v:=by
  obtain⟨g1,g2⟩:=C2.cell m oM 0 17 rfl
  rw[show(xtN n:Int) +8* ((0:Nat):Int)= (xtN n:Int)by omega]at g1
  have b3:=M2.lay.begs.2.1
  rw[e2S]
  unfold Img.setCell
  rw[if_pos (cellF_both _ m (xtN n) oM g1),Int.toNat_natCast]
  rfl
 obtain⟨X3,hX3⟩: ∃X3,(X2.does (wordN n).xt m 4222993).pop 0=X3:=⟨_,rfl⟩
 have e3S:X3.S=mk3 x.S n v:=by rw[<-hX3];exact d3
 have o3:DOk X3:=by
  have hS3:X3.S.Ok:=by rw[e3S];exact M3.ok
  have hL3:Lay0 X3.S:=by rw[e3S];exact M3.lay
  subst hX3
  exact⟨o2.dd,o2.da,Nat.zero_le _,o2.ra,hS3,hL3⟩
 have t3:X3.tells=true:=by rw[<-hX3];exact t2
 have hs3:=λgx=>step_does (w:=w) (F:=F) (gx:=gx) (src:= .pointer (some ⟨gs,0,none⟩)) (r:=r) (ws:=ws) (p:=srP gs T (wdE T 0)) (x:=X2) (left:=99-wdC T 0-1) (nx:=16488) hm w2 t2 (by rw[e2S];exact M2.cm) d2 r2 ra2 hw2 (by simp) (cs:=[0,v]) (by rw[e2S];exact C2) ⟨by omega,by omega⟩ hX3 o3 t3
 refine(r_run (some ⟨gs,0,none⟩) m 16472 100 ⟨by decide,by decide⟩ 3 (sel4 (srP gs T 0) (srP gs T (wdE T 0)) (srP gs T (wdE T 0)) (srP gs T (wdE T 0))) (sel4 ⟨m,100,16472,0,false⟩ ⟨m,99-wdC T 0,16480,16480,false⟩ ⟨m,99-wdC T 0-1,16488,16488,false⟩ ⟨m,99-wdC T 0-1-1,0,0,true⟩) (sel4 x.push0 X1 X2 X3) (sel4 0 0 0 0) ho (by rw[hx.rd];decide) h rfl rfl rfl ?_ (.inr rfl) ⟨by show(0:Int)<=99-wdC T 0-1-1;omega,by show 99-wdC T 0-1-1<=1000000;omega⟩ ?_).mono ?_
 ·intro k hk
  rcases(show k=0∨k=1∨k=2 by omega)with rfl|rfl|rfl<;>exact⟨rfl,rfl⟩
 ·intro k hk gx sv' se W2 hse h2
  rcases(show k=0∨k=1∨k=2 by omega)with rfl|rfl|rfl
  ·exact hs1 gx sv' se W2 oM h2
  ·exact hs2 gx sv' se W2 oM h2
  ·exact hs3 gx sv' se W2 oM h2
 ·rintro e w' ⟨rfl,gx,sv2,se2,h2⟩
  refine⟨?_,gx,_,_,sv2,se2,h2⟩
  show Ending.returned (.tuple #[.int .i64 0,.int .i64 (100- (99-wdC T 0-1-1))])= .returned (.tuple #[.int .i64 0,.int .i64 (100- (97-wdC T 0))])
  rw[show 99-wdC T 0-1-1=97-wdC T 0 by omega]
end
section
variable {m v:Int}{s:Mt}{x:Rn}{cr:Rn->Mt->Rs}{ds rs:List Int}{xt:Nat}
def fetchW(x:Rn)(s:Mt):Rs:=Rs.laid 1 (((⟨s.S.cellF x.mode (ar s 1 0) false,x,s⟩,[s.S.cellV x.mode (ar s 1 0)]):Rs×List Int))
theorem wordTab_65(arg lit cells:Int):wordTab cr ⟨65,arg,lit,cells⟩=some fetchW:=rfl
theorem wordTab_1(arg lit cells:Int):wordTab cr ⟨1,arg,lit,cells⟩=some back:=rfl
structure Two(s:Mt)(xt:Nat)(v:Int)(ds rs:List Int):Prop where
 a:Rep s 16472 csM ds rs
 b:Rep s xt [4222993,0,v] ds rs
theorem Two.told(h:Two s xt v ds rs)(x:Rn)(op:Int):Two (s.told x op) xt v ds rs:=⟨h.a.told x op,h.b.told x op⟩
theorem prog_run2(hm:m=1∨m=2)(h:Rep s 16472 csM [] [0])(hx:CodeAt s.S xt [4222993,0,v])(hlo:16472<=xt∧xt<=16900)(hv:V64 v):
 ∃q,goesT (wordTab cr) 4 ⟨m,100,xt,0,false,false,0⟩ s=some q∧q.f=0∧q.x.left=97∧Rep q.s 16472 csM [v] []:=by
 have h0:Two s xt v [] [0]:=⟨h,⟨h.img,h.lay,h.pd,h.pr,hx,h.d,h.r,h.dle,h.rle,h.dv,h.rv⟩⟩
 have f1:=h0.b.code.fetch m oM 0 4222993 17 16496 rfl (by decide) (by decide) (by decide)
 rw[show(xt:Int) +8* ((0:Nat):Int)= (xt:Int)by omega]at f1
 have w1:Code.wants 17= (0,1):=by decide
 have a1:asks ⟨17,16496,0,1⟩ ⟨m,100-1,xt,(xt:Int) +8,false,false,0⟩ s=0:=h.asked _ _ rfl (by show(Code.wants 17).1<=_;rw[w1];show(0:Int)<=0;omega) (by decide) (by show(0:Int) - (Code.wants 17).1+ (Code.wants 17).2<=16;rw[w1];decide) (by show(0:Int)<=1-0;omega) (by show(1:Int) -0+0<=8;omega)
 have q1:createdP 16496 ⟨m,100-1,xt,(xt:Int) +8,false,false,0⟩ s= ⟨0,⟨m,100-1,xt,16496,false,false,0⟩,(s.lays 0 [(xt:Int) +16]).2⟩:=by
  unfold createdP
  rw[if_neg (by decide),wrap_pc _ (by show(0:Int)<=(xt:Int) +16;omega) (by show(xt:Int) +16<=1000000;omega)]
 have t1:=stepT_eq (tab:=wordTab cr) (x:=⟨m,100,xt,0,false,false,0⟩) (i:=⟨17,16496,0,1⟩) (by dsimp only;decide) f1 (wordTab_17 _ _ _) ((xt:Int) +8) (by dsimp only;unfold wrap64;omega) a1 _ q1
 rw[if_neg (λh=>h rfl)]at t1
 have hv1: ∀u∈[(xt:Int) +16],V64 u:=λu hu=>by rw[List.mem_singleton.1 hu];unfold V64;omega
 have k1:Two ((s.lays 0 [(xt:Int) +16]).2.told ⟨m,100-1,xt,16496,false,false,0⟩ 17) xt v [(xt:Int) +16] [0]:=Two.told ⟨(h0.a.lays 0 (by simp) _ hv1 (by simp)).2.1,(h0.b.lays 0 (by simp) _ hv1 (by simp)).2.1⟩ _ _
 have g1:=goesT_of (n:=3) t1 rfl rfl
 replace g1:goesT (wordTab cr) 4 ⟨m,100,xt,0,false,false,0⟩ s=goesT (wordTab cr) 3 ⟨m,99,16496,16496,false,false,0⟩ ((s.lays 0 [(xt:Int) +16]).2.told ⟨m,100-1,xt,16496,false,false,0⟩ 17):=g1
 generalize ((s.lays 0 [(xt:Int) +16]).2.told ⟨m,100-1,xt,16496,false,false,0⟩ 17)=s1 at *
 clear t1 q1 a1 f1
 have f2:=k1.a.code.fetch m oM 3 65 65 0 rfl (by decide) (by decide) (by decide)
 have w2:Code.wants 65= (1,1):=by decide
 have a2:asks ⟨65,0,0,1⟩ ⟨m,99-1,16496,16504,false,false,0⟩ s1=0:=k1.a.asked _ _ rfl (by show(Code.wants 65).1<=_;rw[w2];show(1:Int)<=1;omega) (by decide) (by show(1:Int) - (Code.wants 65).1+ (Code.wants 65).2<=16;rw[w2];decide) (by show(0:Int)<=1-0;omega) (by show(1:Int) -0+0<=8;omega)
 have r2:ar s1 1 0= (xt:Int) +16:=k1.a.arv 1 0 _ oM (by simp) rfl
 obtain⟨c1,c2⟩:=k1.b.code.cell m oM 2 v rfl
 rw[show(xt:Int) +8* ((2:Nat):Int)= (xt:Int) +16 by omega]at c1 c2
 have l2:=k1.a.lays 1 (by simp) [v] (λu hu=>by rw[List.mem_singleton.1 hu];exact hv) (by simp)
 have q2:fetchW ⟨m,99-1,16496,16504,false,false,0⟩ s1= ⟨0,⟨m,99-1,16496,16504,false,false,0⟩,(s1.lays 1 [v]).2⟩:=by
  unfold fetchW
  rw[r2]
  show Rs.laid 1 (⟨s1.S.cellF m ((xt:Int) +16) false,_,_⟩,[s1.S.cellV m ((xt:Int) +16)])=_
  rw[c1,c2]
  unfold Rs.laid laysR
  rw[if_pos rfl]
  show(⟨(s1.lays 1 [v]).1,_,_⟩:Rs)=_
  rw[l2.1]
 have t2:=stepT_eq (tab:=wordTab cr) (x:=⟨m,99,16496,16496,false,false,0⟩) (i:=⟨65,0,0,1⟩) (by dsimp only;decide) f2 (wordTab_65 _ _ _) 16504 (by dsimp only;unfold wrap64;omega) a2 _ q2
 rw[if_neg (λh=>h rfl)]at t2
 have k2:Rep ((s1.lays 1 [v]).2.told ⟨m,99-1,16496,16504,false,false,0⟩ 65) 16472 csM [v] [0]:=l2.2.1.told _ _
 have g2:=g1.trans (goesT_of (n:=2) t2 rfl rfl)
 replace g2:goesT (wordTab cr) 4 ⟨m,100,xt,0,false,false,0⟩ s=goesT (wordTab cr) 2 ⟨m,98,16504,16504,false,false,0⟩ ((s1.lays 1 [v]).2.told ⟨m,99-1,16496,16504,false,false,0⟩ 65):=g2
 generalize ((s1.lays 1 [v]).2.told ⟨m,99-1,16496,16504,false,false,0⟩ 65)=s2 at *
 clear t2 q2 a2 f2 g1 l2
 have f3:=k2.code.fetch m oM 4 1 1 0 rfl (by decide) (by decide) (by decide)
 have w3:Code.wants 1= (0,0):=by decide
 have a3:asks ⟨1,0,0,1⟩ ⟨m,98-1,16504,16512,false,false,0⟩ s2=0:=k2.asked _ _ rfl (by show(Code.wants 1).1<=_;rw[w3];show(0:Int)<=1;omega) (by decide) (by show(1:Int) - (Code.wants 1).1+ (Code.wants 1).2<=16;rw[w3];decide) (by show(1:Int)<=1-0;omega) (by show(1:Int) -1+0<=8;omega)
 have ht:s2.rtop 0=0:=k2.rtop 0 0 (by simp) rfl
 have q3:back ⟨m,98-1,16504,16512,false,false,0⟩ s2= ⟨0,⟨m,98-1,16504,0,true,false,0⟩,{ s2 with r:=s2.r-1 }⟩:=by
  unfold back
  rw[if_neg (by rw[k2.r];simp),ht]
  rfl
 have k3:Rep { s2 with r:=s2.r-1 } 16472 csM [v] []:=by
  have h2:=k2.cutR 0 (by simp)
  have e2:s2.cutR 0 = { s2 with r:=s2.r-1 }:=by unfold Mt.cutR;rw[k2.r];rfl
  rw[e2]at h2
  exact h2
 have t3:=stepT_eq (tab:=wordTab cr) (x:=⟨m,98,16504,16504,false,false,0⟩) (i:=⟨1,0,0,1⟩) (by dsimp only;decide) f3 (wordTab_1 _ _ _) 16512 (by dsimp only;unfold wrap64;omega) a3 _ q3
 rw[if_neg (λh=>h rfl)]at t3
 exact⟨_,g2.trans (goesT_end (n:=1) t3 (.inr rfl)),rfl,rfl,k3.told _ _⟩
end
end Vm
end Go.Proofs.YtngdikikclfgjaaGreatDoor
