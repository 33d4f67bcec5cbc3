/- Chapter 11: the law's pair of machines in memory; a step is told. Conditions: as written. -/
import Derived.Test.YteaijdgnagkllaaGreatDoorZdVMk1
import Derived.Test.YteaijdgnagkllaaGreatDoorZd25
import Derived.Test.YteaijdgnagkllaaGreatDoorZd24
open Go.Proofs.Tryz
namespace Go.Proofs.YteaijdgnagkllaaGreatDoor
set_option linter.unusedVariables false
set_option linter.unusedSimpArgs false
set_option maxHeartbeats 8000000
set_option maxRecDepth 100000
open Go.RowKit Go.Lib Go.Deep
namespace Vm
structure Bc where
 gB:Nat
 gI:Nat
 gK:Nat
 gS:Nat
 gT:Nat
 gP:Nat
 gM:Nat
 gW:Nat
def ptrsC(l:List Nat):List Value:=l.map λg=> .pointer (some ⟨g,0,none⟩)
def newC(gI gS gT gP:Nat)(ws d r:Value):Array Value:=#[gI,gS,ws,gT,gP,d,r,.nilFunc,(0:Int),(0:Int),(0:Int)]
def RowP(v:Value)(l:List Nat):Asr:=RowK 29 1 v l.length (ptrsC l)
theorem info_dp: (prog.info? 29).map (λi=>(i.zero,i.size,i.bytes))=some (some (.pointer none),1,8):=by kernel_rfl
theorem ptr_news{w:World}{B:Nat}{t:TypeId}{g:Nat}(hb:Blk w B t #[g]): ∀j u,[Value.pointer g][j]? = some u->w.cell? ((⟨B,0,none⟩:Addr).add j)=some u:=λj u hu=>World.news_of_block hb j u hu
theorem ptr_one(g:Nat): ∀u∈[Value.pointer (some (⟨g,0,none⟩:Addr))],u.oneCell'=true:=λu hu=>by rw[List.mem_singleton.1 hu];rfl
section
variable {w:World}{F:Nat->Prop}
def WordsAt(w:World)(rb n:Nat)(ds:List Nat)(bad:Bool):Prop:=
 (∀j g,ds[j]? = some g->w.cell? ⟨rb,j,none⟩=some (.pointer (some ⟨g,0,none⟩)))∧(if bad then ds.length<n∧w.cell? (rb,ds.length)=some (.pointer none)else ds.length=n)
def MadeVm(gI gS gT gP:Nat)(pd pr:Pl)(ds:List Nat)(e:Ending)(B:Asr):Prop:=
 ∃gM gD gR ws,e = .returned (.tuple #[.pointer (some ⟨gM,0,none⟩),(0:Int)])∧B=AllA [BlkA gM 108 (newC gI gS gT gP ws (.pointer (some ⟨gD,0,none⟩)) (.pointer (some ⟨gR,0,none⟩))),StkA gI gD pd 0,StkA gI gR pr 0,RowP ws ds]
theorem newC_ws(gI gS gT gP:Nat)(ws d r v:Value): (newC gI gS gT gP ws d r).setIfInBounds 2 v=newC gI gS gT gP v d r:=rfl
theorem newC_d(gI gS gT gP:Nat)(ws d r v:Value): (newC gI gS gT gP ws d r).setIfInBounds 5 v=newC gI gS gT gP ws v r:=rfl
def VmI(w:World)(gM gI gS gT gP:Nat)(ds:List Nat)(j:Nat)(wr:World):Prop:=
 ∃v,On Nob w (AllA [BlkA gM 108 (newC gI gS gT gP v (.pointer none) (.pointer none)),RowP v (ds.take j)]) wr
theorem vm_new{gI gb gS gT gP rb n cap:Nat}{S:Img}{ds:List Nat}(hi:IRep w gI gb S)(hd:S.d<=4096)(hr:S.r<=4096)(hn:n<=1000)(bad:Bool)(hw:WordsAt w rb n ds bad):
 Calls prog 31 #[gI,gS,.slice rb n cap,gT,gP] w
  (λe w'=>if bad then e = .returned (.tuple #[.pointer none,(1:Int)])∧Below w.heap.size w w' else PostE (MadeVm gI gS gT gP (pdOf S) (prOf S) ds) Nob w e w'):=by
 have hbx:=(On.refl (A:=AllA []) (F:=Nob) (w:=w) (λ_ h=>h)).addNew (A:=RowP (.slice none 0 0) []) (F2:=Nob) ⟨World.ownsRow_nil _ _ _ _,λk=>⟨λh=>h.elim,λh=>by cases h⟩⟩ (Kept.refl _ _) (λ_ h=>h.elim)
 have hbm:=hbx.box (newC gI gS gT gP (.slice none 0 0) (.pointer none) (.pointer none)) 108
 have h0:VmI w w.heap.size gI gS gT gP ds 0 _:=⟨_,hbm⟩
 unfold newC at h0
 obtain⟨i0,hi0,hz0,hz1,hz2⟩:=info_parts info_dp
 have hwl:ds.length<=n:=by
  have:=hw.2
  cases bad
  ·simp at this;omega
  ·simp at this;omega
 replace h0:=hid h0
 replace hi:=hid hi
 replace hw:=hid hw
 replace hi0:=hid hi0
 replace hz0:=hid hz0
 replace hz1:=hid hz1
 replace hz2:=hid hz2
 replace hd:=hid hd
 replace hr:=hid hr
 clear hbx hbm
 go_enter func31,ntmps31
 go_wp2_with fail
 go_loopg [37] (n+1) (λk t wr=> ∃j:Nat,j+k=n+1∧j<=ds.length∧t = .int .i64 (j:Int)∧VmI w w.heap.size gI gS gT gP ds j wr)
 case atStart=>exact⟨0,by omega,by omega,rfl,h0.out⟩
 case round=>
  obtain⟨j,hj,hjd,rfl,v,hon⟩:=hrel
  by_cases hlt:j<ds.length
  ·obtain⟨g,hg⟩: ∃g,ds[j]? = some g:=⟨ds[j],by simp[hlt]⟩
   have cj:=hon.cellOut (hw.out.1 j g hg) (λh=>h)
   have hm:Blk wr w.heap.size 108 (newC gI gS gT gP v (.pointer none) (.pointer none)):=hon.blkAt 0 rfl
   have c2:wr.cell? (w.heap.size,2)=some v:=hm.cell 2
   have hml:=hm.lt
   have honA:=hon.alloc (.cells #[g] 29)
   obtain⟨F1,hR⟩:=honA.at_ 1 rfl
   have hown:=hR.1
   have hlj: (ds.take j).length=j:=by rw[List.length_take];omega
   have hsn:ptrsC (ds.take (j+1))=ptrsC (ds.take j)++ [.pointer g]:=by
    rw[List.take_add_one,hg]
    simp[ptrsC]
   have hlj1: (ds.take (j+1)).length=j+1:=by rw[List.length_take];omega
   have hfin:=λ(w3:World) (sg cap:Nat) (hG:w3.ownsRow 0 29 1 (.slice sg (j+1) cap) (j+1) (ptrsC (ds.take j)++ [.pointer g])) (hgrow: (wr.alloc (.cells #[g] 29)).grownBy w3 v.ownBlock) (hat:v.ownBlock=some sg∨sg=wr.heap.size+1)=>(by
    have h1:=honA.growAt 1 rfl hG hgrow (grew_at (by simpa using hat))
    have h2:On Nob w (AllA [BlkA w.heap.size 108 (newC gI gS gT gP v (.pointer none) (.pointer none)),RowP (.slice sg (j+1) cap) (ds.take (j+1))]) w3:=by
     unfold RowP
     rw[hsn,hlj1]
     exact h1
    exact h2:On Nob w (AllA [BlkA w.heap.size 108 (newC gI gS gT gP v (.pointer none) (.pointer none)),RowP (.slice sg (j+1) cap) (ds.take (j+1))]) w3)
   rw[hlj]at hown
   have hnl:j+1<=maxLen∧(j+1)*8<=140737488355328:=by unfold maxLen;omega
   have hcap:w.heap.size<wr.heap.size:=hml
   replace hon:=hid hon
   replace honA:=hid honA
   replace hown:=hid hown
   replace hfin:=hid hfin
   replace hnl:=hid hnl
   replace hm:=hid hm
   replace hsn:=hid hsn
   replace hlj:=hid hlj
   replace hlj1:=hid hlj1
   clear hR
   go_wp2_with (at_builtin;refine wpList_append_lies _ rfl (.tmp 47) (.tmp 49) 37 rfl 0 29 i0 (.pointer none) 1 8 underlying37 hi0.out hz0.out hz1.out hz2.out rfl oM v j (ptrsC (ds.take j)) (by rfl) hown.out ⟨wr.heap.size,0,none⟩ 1 1 [.pointer g] (by rfl) rfl (ptr_news (t:=29) (Blk.new _ _ _)) (ptr_one g) oM hnl.out.1 hnl.out.2 (Nat.zero_le _) (wr.heap.size+1) (by simp) ?_;intro sg cap w3 hG hgrow hat hlt3;have h3:=hfin.out w3 sg cap hG hgrow hat;have d2:w3.cell? (w.heap.size,2)=some v:=(h3.blkAt 0 rfl).cell 2;have f2:=(h3.blkAt 0 rfl).frozen 2;have h4:=h3.setAt 0 rfl 2 (.slice sg (j+1) cap);rw[newC_ws]at h4;replace h3:=hid h3;replace h4:=hid h4;replace hG:=hid hG;replace hgrow:=hid hgrow)
   go_roundg (gk-1)
   case measure=>omega
   case rel=>exact⟨j+1,by omega,by omega,by go_num,_,h4.out⟩
  ·have hjj:j=ds.length:=by omega
   have h2:=hw.out.2
   cases bad with
   | true=>
     simp only[if_true]at h2
     have cj:=hon.cellOut h2.2 (λh=>h)
     rw[<-hjj]at cj
     have hjn:j<n:=by omega
     have hout:=hid hon.outB
     replace hon:=hid hon
     replace hjj:=hid hjj
     clear h2
     go_wp2
     go_ret2
     exact⟨rfl,hout.out⟩
   | false=>
     simp only[Bool.false_eq_true,if_false]at h2
     have hjn:j=n:=by omega
     have hds:ds.take j=ds:=List.take_of_length_le oM
     rw[hds]at hon
     have hib: ∀W,Below w.heap.size w W->IRep W gI gb S:=λW hb=>⟨hi.out.blk.below hb hi.out.blk.lt,hi.out.row.below hb hi.out.row.lt,hi.out.ok⟩
     have hs4:=hid (hon.make (n_stackD (hib _ hon.outB) hd.out))
     replace hib:=hid hib
     replace hon:=hid hon
     replace hds:=hid hds
     subst hjn
     have hdj:decide ((j:Int) < (j:Int))=false:=by simp
     clear h2
     go_wp2_with fail
     refine hs4.out.mono ?_
     rintro e w2 ⟨B,⟨gD,rfl,rfl⟩,hon2⟩
     have c5:w2.cell? (w.heap.size,5)=some (.pointer none):=(hon2.blkAt 1 rfl).cell 5
     have f5:=(hon2.blkAt 1 rfl).frozen 5
     have hon3:=hon2.setAt 1 rfl 5 (.pointer gD)
     rw[newC_d]at hon3
     have hs5:=hid (hon3.make (n_stackR (hib.out _ hon3.outB) hr.out))
     replace hon2:=hid hon2
     replace hon3:=hid hon3
     clear hs4
     go_wp2_with fail
     refine hs5.out.mono ?_
     rintro e w4 ⟨B,⟨gR,rfl,rfl⟩,hon4⟩
     have c6:w4.cell? (w.heap.size,6)=some (.pointer none):=(hon4.blkAt 2 rfl).cell 6
     have f6:=(hon4.blkAt 2 rfl).frozen 6
     have hon5:=hon4.setAt 2 rfl 6 (.pointer gR)
     have hon6:On Nob w (AllA [StkA gI gR (prOf S) 0,StkA gI gD (pdOf S) 0,BlkA w.heap.size 108 (newC gI gS gT gP v (.pointer gD) (.pointer gR)),RowP v ds]) _:=hon5
     have hon7:=hid ((hon6.front 1 rfl).front 2 rfl)
     replace hon4:=hid hon4
     clear hs5 hon5 hon6
     go_wp2
     go_ret2
     exact⟨_,⟨w.heap.size,gD,gR,v,rfl,rfl⟩,hon7.out⟩
end
structure Rx where
 mode:Int
 left:Int
 comp:Bool
 opn:Bool
 xt:Int
 fp:Value
 fo:Asr
structure Oc where
 g:Nat
 gO:Nat
 gs:Nat
 wv:Value
def readC(o:Oc)(x:Rx):Array Value:=#[o.gO,x.mode,x.left,o.gs,.bool x.comp,.bool x.opn,x.xt,x.fp]
def outerC(c:Vc)(wv:Value)(at_:Int):Array Value:=#[c.gM,c.gS,wv,at_]
def oL(c:Vc)(o:Oc)(x:Rx)(s:Mt):List Asr:=
 BlkA o.g 101 (readC o x)::BlkA o.gO 94 (outerC c o.wv 0)::RowP o.wv [c.gS,c.gK]::x.fo::mL c s
structure OSrc(c:Vc)(o:Oc)(s:Mt)(L:List Asr):Prop where
 rest: ∀k,c.rest ⟨s.ext.text,k⟩=SrcA o.gs s.ext.text k::L
 sz:s.ext.text.size<=60000
 le:s.ext.at_<=s.ext.text.size
section
variable {w w' W:World}{F:Nat->Prop}{c:Vc}{o:Oc}{x:Rx}{s:Mt}{L:List Asr}{B:Asr}
theorem OSrc.word(h:OSrc c o s L)(hon:On F w (AllA (B::oL c o x s)) w'):
 Calls prog 95 #[o.gs] w' (Got (.returned (.tuple #[.string (exW s.ext),((exN s.ext:Nat) - (s.ext.at_:Int):Int)])) (AllA (B::oL c o x (s.readTo (exN s.ext)))) F w):=by
 have e1:c.rest s.ext=SrcA o.gs s.ext.text s.ext.at_::L:=h.rest s.ext.at_
 have h1:=hon.callAtG (A:=SrcA o.gs s.ext.text s.ext.at_) (A':=SrcA o.gs s.ext.text (exN s.ext)) (e0:= .returned (.tuple #[.string (exW s.ext),((exN s.ext:Nat) - (s.ext.at_:Int):Int)])) 13 (by show(c.rest s.ext)[0]? = _;rw[e1];rfl) (λF' ha=>(word_walk o.gs s.ext.text (by have:=h.sz;omega) s.ext.at_ h.le w' F' ha).mono λe w2 ⟨v,A',F2,⟨hv,hA⟩,he,hh,hk,hF⟩=>by subst hv hA;exact⟨he,F2,hh,hk,hF⟩)
 have e2: (B::oL c o x s).set 13 (SrcA o.gs s.ext.text (exN s.ext))=B::oL c o x (s.readTo (exN s.ext)):=by
  show B::_::_::_::_::MachA c s::_::_::_::_::_::_::_:: (c.rest s.ext).set 0 _=B::_::_::_::_::MachA c s::_::_::_::_::_::_::_::c.rest ⟨s.ext.text,exN s.ext⟩
  rw[e1,h.rest]
  rfl
 rw[e2]at h1
 exact h1
theorem OSrc.blk(h:OSrc c o s L)(k:Nat)(hon:On F w (AllA (B::oL c o x (s.readTo k))) w'):Blk w' o.gs 164 #[.string s.ext.text,(k:Int),((lfs (s.ext.text.data.toList.take k):Nat):Int)]:=
 hon.blkAt 13 (by show(c.rest ⟨s.ext.text,k⟩)[0]? = _;rw[h.rest];rfl)
theorem OSrc.back{w2:World}{k:Nat}(h:OSrc c o s L)(h2:On F w (AllA (B::oL c o x (s.readTo k))) w2):
 On F w (AllA (oL c o x s)) (((w2.setCell (o.gs,0) (.string s.ext.text)).setCell (o.gs,1) (.int .i64 (s.ext.at_:Int))).setCell (o.gs,2) (.int .i64 ((lfs (s.ext.text.data.toList.take s.ext.at_):Nat):Int))):=by
 have e1:c.rest s.ext=SrcA o.gs s.ext.text s.ext.at_::L:=h.rest s.ext.at_
 have h3:On F w (AllA (B::BlkA o.g 101 (readC o x)::BlkA o.gO 94 (outerC c o.wv 0)::RowP o.wv [c.gS,c.gK]::x.fo::MachA c s::ImgA c.gI s.S::StkA c.gI c.gD s.pd s.d::StkA c.gI c.gR s.pr s.r::TabA c.gT s.T::DictA c.gI c.gS c.sfr c.sto s.hs s.ls::DictA c.gI c.gK c.kfr c.kto s.hk s.lk::c.tl s.seen::SrcA o.gs s.ext.text k::L)) w2:=by
  rw[<-h.rest k]
  exact h2
 have h4:=((h3.setAt 13 rfl 0 (.string s.ext.text)).setAt 13 rfl 1 (.int .i64 (s.ext.at_:Int))).setAt 13 rfl 2 (.int .i64 ((lfs (s.ext.text.data.toList.take s.ext.at_):Nat):Int))
 have h5:=h4.tail
 unfold oL mL
 rw[e1]
 exact h5
theorem OSrc.read(h:OSrc c o s L)(k:Nat)(hk:k<=s.ext.text.size):OSrc c o (s.readTo k) L:=⟨h.rest,h.sz,hk⟩
theorem rd_word_far(h:On F w (AllA (oL c o x s)) W)(hr:OSrc c o s L)(hl1:0<=x.left)(hl2:x.left<=1000000)(hfar:x.left<exC s.ext):
 Calls prog 67 #[o.g] W (Got (.returned (.tuple #[.string ⟨#[]⟩,(13:Int)])) (AllA (oL c o x s)) F w):=by
 have hrd:Blk W o.g 101 (readC o x):=h.blkAt 0 rfl
 have r2:W.cell? (o.g,2)=some (x.left:Vl):=hrd.cell 2
 have r3:W.cell? (o.g,3)=some (o.gs:Vl):=hrd.cell 3
 have hlt:=hrd.lt
 have e1:c.rest s.ext=SrcA o.gs s.ext.text s.ext.at_::L:=hr.rest s.ext.at_
 have hsb:Blk W o.gs 164 #[.string s.ext.text,(s.ext.at_:Int),((lfs (s.ext.text.data.toList.take s.ext.at_):Nat):Int)]:=h.blkAt 12 (by show(c.rest s.ext)[0]? = _;rw[e1];rfl)
 have s0:=hsb.cell 0
 have s1:=hsb.cell 1
 have s2:=hsb.cell 2
 simp only[List.getElem?_toArray,List.getElem?_cons_zero,List.getElem?_cons_succ]at s0 s1 s2
 have hlt2:=hsb.lt
 have hbo:=ex_bounds hr.sz hr.le
 have hsz:=hr.sz
 have hle:=hr.le
 have hbx:=h.box #[.string s.ext.text,(s.ext.at_:Int),((lfs (s.ext.text.data.toList.take s.ext.at_):Nat):Int)] 164
 have hback:=hid (λW2=>OSrc.back (w:=w) (w2:=W2) (F:=F) (x:=x) (k:=exN s.ext) (B:=BlkA W.heap.size 164 #[.string s.ext.text,(s.ext.at_:Int),((lfs (s.ext.text.data.toList.take s.ext.at_):Nat):Int)]) hr)
 replace h:=hid h
 replace hr:=hid hr
 clear hrd
 go_enter func67,ntmps67
 go_wp2_with fail
 refine mo (hr.out.word hbx) λw2 h2=>?_
 simp only[]
 have hsb2:=hr.out.blk (exN s.ext) h2
 have f0:=hsb2.frozen 0
 have f1:=hsb2.frozen 1
 have f2:=hsb2.frozen 2
 have hrd2:Blk w2 o.g 101 (readC o x):=h2.blkAt 1 rfl
 have q2:w2.cell? (o.g,2)=some (x.left:Vl):=hrd2.cell 2
 have q3:w2.cell? (o.g,3)=some (o.gs:Vl):=hrd2.cell 3
 have z0:=(h2.blkAt 0 rfl).cell 0
 have z1:=(h2.blkAt 0 rfl).cell 1
 have z2:=(h2.blkAt 0 rfl).cell 2
 have y0:=hsb2.cell 0
 have y1:=hsb2.cell 1
 have y2:=hsb2.cell 2
 simp only[List.getElem?_toArray,List.getElem?_cons_zero,List.getElem?_cons_succ]at z0 z1 z2 y0 y1 y2
 have hlt3:=hsb2.lt
 replace h2:=hid h2
 clear hrd2 hsb2 hbx r2 r3 s0 s1 s2 hsb
 obtain⟨C,hC⟩: ∃C,exC s.ext=C:=⟨_,rfl⟩
 have hC2:=hC
 unfold exC at hC2
 rw[hC]at hfar
 by_cases hw:exW s.ext= ⟨#[]⟩
 ·rw[if_pos hw]at hC2
  rw[hw]
  have ht:decide (x.left< (exN s.ext:Int) -s.ext.at_)=true:=decide_eq_true oM
  go_wp2_with fail
  go_region
  all_goals go_wp2
  all_goals go_ret2
  all_goals exact⟨rfl,by first|exact hback.out _ h2.out|exact(hback.out _ h2.out).drew|exact(hback.out _ h2.out).drewN _⟩
 ·rw[if_neg hw]at hC2
  have ht:decide (x.left< (exN s.ext:Int) -s.ext.at_+1)=true:=decide_eq_true oM
  have hne: (exW s.ext).toList.isEmpty=false:=ne_list hw
  generalize exW s.ext=W at *
  go_wp2_with fail
  go_region
  all_goals go_wp2
  all_goals go_ret2
  all_goals exact⟨rfl,by first|exact hback.out _ h2.out|exact(hback.out _ h2.out).drew|exact(hback.out _ h2.out).drewN _⟩
theorem rd_word_near(h:On F w (AllA (oL c o x s)) W)(hr:OSrc c o s L)(hl1:0<=x.left)(hl2:x.left<=1000000)(hnear: ¬x.left<exC s.ext):
 Calls prog 67 #[o.g] W (Got (.returned (.tuple #[.string (exW s.ext),(0:Int)])) (AllA (oL c o { x with left:=x.left-exC s.ext } (s.readTo (exN s.ext)))) F w):=by
 have hrd:Blk W o.g 101 (readC o x):=h.blkAt 0 rfl
 have r2:W.cell? (o.g,2)=some (x.left:Vl):=hrd.cell 2
 have r3:W.cell? (o.g,3)=some (o.gs:Vl):=hrd.cell 3
 have hlt:=hrd.lt
 have e1:c.rest s.ext=SrcA o.gs s.ext.text s.ext.at_::L:=hr.rest s.ext.at_
 have hsb:Blk W o.gs 164 #[.string s.ext.text,(s.ext.at_:Int),((lfs (s.ext.text.data.toList.take s.ext.at_):Nat):Int)]:=h.blkAt 12 (by show(c.rest s.ext)[0]? = _;rw[e1];rfl)
 have s0:=hsb.cell 0
 have s1:=hsb.cell 1
 have s2:=hsb.cell 2
 simp only[List.getElem?_toArray,List.getElem?_cons_zero,List.getElem?_cons_succ]at s0 s1 s2
 have hlt2:=hsb.lt
 have hbo:=ex_bounds hr.sz hr.le
 have hsz:=hr.sz
 have hle:=hr.le
 have hbx:=h.box #[.string s.ext.text,(s.ext.at_:Int),((lfs (s.ext.text.data.toList.take s.ext.at_):Nat):Int)] 164
 have hfin: ∀(B:Asr) W2 (n:Int),On F w (AllA (B::oL c o x (s.readTo (exN s.ext)))) W2->On F w (AllA (oL c o { x with left:=n } (s.readTo (exN s.ext)))) (W2.setCell (o.g,2) (.int .i64 n)):=λB W2 n h2=>(h2.setAt 1 rfl 2 (.int .i64 n)).tail
 replace hfin:=hid hfin
 replace h:=hid h
 replace hr:=hid hr
 clear hrd
 go_enter func67,ntmps67
 go_wp2_with fail
 refine mo (hr.out.word hbx) λw2 h2=>?_
 simp only[]
 have hrd2:Blk w2 o.g 101 (readC o x):=h2.blkAt 1 rfl
 have q2:w2.cell? (o.g,2)=some (x.left:Vl):=hrd2.cell 2
 have g2:=hrd2.frozen 2
 replace h2:=hid h2
 clear hrd2 hbx r2 r3 s0 s1 s2 hsb
 have hC2:exC s.ext= (exN s.ext:Int) -s.ext.at_+ (if exW s.ext= ⟨#[]⟩then 0 else 1):=rfl
 by_cases hw:exW s.ext= ⟨#[]⟩
 ·rw[if_pos hw]at hC2
  have ht:decide (x.left< (exN s.ext:Int) -s.ext.at_)=false:=decide_eq_false oM
  have hem: (exW s.ext).toList.isEmpty=true:=by rw[hw,Lib.toList_data];rfl
  have hx:x.left- ((exN s.ext:Int) -s.ext.at_)=x.left-exC s.ext:=by omega
  replace hx:=hid hx
  replace hC2:=hid hC2
  replace hw:=hid hw
  replace hnear:=hid hnear
  go_wp2
  go_ret2
  rw[hx.out]
  exact⟨rfl,hfin.out _ _ _ h2.out⟩
 ·rw[if_neg hw]at hC2
  have ht:decide (x.left< (exN s.ext:Int) -s.ext.at_+1)=false:=decide_eq_false oM
  have hne: (exW s.ext).toList.isEmpty=false:=ne_list hw
  have hx:x.left- ((exN s.ext:Int) -s.ext.at_+1)=x.left-exC s.ext:=by omega
  replace hx:=hid hx
  replace hC2:=hid hC2
  replace hw:=hid hw
  replace hnear:=hid hnear
  go_wp2
  go_ret2
  rw[hx.out]
  exact⟨rfl,hfin.out _ _ _ h2.out⟩
end
end Vm
open Go.RowKit Go.Lib
namespace Vm
theorem drop_tw{p:UInt8->Bool}: ∀l:List UInt8,l.drop (l.takeWhile p).length=l.dropWhile p
 | []=>rfl
 | x::l=>by
   rcases h:p x with _|_
   ·simp[List.takeWhile,List.dropWhile,h]
   ·simp only[List.takeWhile,List.dropWhile,h,List.length_cons,List.drop_succ_cons]
    exact drop_tw l
theorem take_tw{p:UInt8->Bool}: ∀l:List UInt8,l.take (l.takeWhile p).length=l.takeWhile p
 | []=>rfl
 | x::l=>by
   rcases h:p x with _|_
   ·simp[List.takeWhile,h]
   ·simp only[List.takeWhile,h,List.length_cons,List.take_succ_cons]
    rw[take_tw l]
theorem goesTo_rest(p:UInt8->Bool)(s:List UInt8)(i:Nat):s.drop (goesTo p s i)= (s.drop i).dropWhile p:=by
 unfold goesTo
 rw[<-List.drop_drop,drop_tw]
theorem stepTo_rest(s:List UInt8)(i:Nat):s.drop (stepTo s i)= (s.drop i).drop 1:=by
 unfold stepTo
 rw[List.drop_drop]
 split
 ·rfl
 ·rw[List.drop_eq_nil_of_le oM,List.drop_eq_nil_of_le oM]
def nxW(S:List UInt8):List UInt8:=(S.dropWhile isLow).takeWhile Go.Proofs.YteaijdgnagkllaaGreatDoor.isHigh
def nxR(S:List UInt8):List UInt8:=((S.dropWhile isLow).dropWhile Go.Proofs.YteaijdgnagkllaaGreatDoor.isHigh).drop 1
def nxC(S:List UInt8):Nat:=S.length- (nxR S).length+if nxW S = []then 0 else 1
def restE(e:Ext):List UInt8:=e.text.data.toList.drop e.at_
theorem exW_rest(e:Ext): (exW e).data.toList=nxW (restE e):=by
 unfold exW nxW restE wordTo
 rw[ByteArray.data_extract,Array.toList_extract,List.extract_eq_take_drop]
 have h:=goesTo_rest isLow e.text.data.toList e.at_
 show List.take (goesTo Go.Proofs.YteaijdgnagkllaaGreatDoor.isHigh _ (wordFrom _ e.at_) -wordFrom _ e.at_) (List.drop (wordFrom _ e.at_) _)=_
 have e1:wordFrom e.text.data.toList e.at_=goesTo isLow e.text.data.toList e.at_:=rfl
 rw[e1,h]
 unfold goesTo at *
 rw[Nat.add_sub_cancel_left,h,take_tw]
theorem exN_rest(e:Ext):e.text.data.toList.drop (exN e)=nxR (restE e):=by
 unfold exN wordEnd wordTo nxR wordFrom restE
 rw[stepTo_rest,goesTo_rest,goesTo_rest]
theorem exC_rest{e:Ext}(hs:e.text.size<=60000)(hl:e.at_<=e.text.size):exC e= (nxC (restE e):Int):=by
 obtain⟨h1,h2,_⟩:=ex_bounds hs hl
 have hsz:e.text.data.toList.length=e.text.size:=by rw[Array.length_toList];rfl
 have e1: (nxR (restE e)).length=e.text.size-exN e:=by rw[<-exN_rest,List.length_drop,hsz]
 have e2: (restE e).length=e.text.size-e.at_:=by unfold restE;rw[List.length_drop,hsz]
 have e3:exW e= ⟨#[]⟩ ↔nxW (restE e)= []:=by
  rw[<-exW_rest]
  constructor
  ·intro h;rw[h]
  ·intro h
   exact Caps.ext _ _ h
 unfold exC nxC
 rw[e1,e2]
 by_cases h:exW e= ⟨#[]⟩
 ·rw[if_pos h,if_pos (e3.1 h)];omega
 ·rw[if_neg h,if_neg (λg=>h (e3.2 g))];omega
theorem hi_low(c:UInt8):Go.Proofs.YteaijdgnagkllaaGreatDoor.isHigh c= !isLow c:=by
 unfold Go.Proofs.YteaijdgnagkllaaGreatDoor.isHigh isLow
 by_cases h:c.toNat<=32
 ·rw[decide_eq_true h,decide_eq_false oM];rfl
 ·rw[decide_eq_false h,decide_eq_true oM];rfl
theorem tw_all{p:UInt8->Bool}: ∀(w:List UInt8) (R:List UInt8),(∀c∈w,p c=true)->(∀c,R.head? = some c->p c=false)->(w++R).takeWhile p=w∧(w++R).dropWhile p=R
 | [],R,_,h=>by
   rcases R with _| ⟨c,R⟩
   ·exact⟨rfl,rfl⟩
   ·have:=h c rfl
    simp[List.takeWhile,List.dropWhile,this]
 | x::w,R,h1,h2=>by
   have hx:=h1 x (List.mem_cons_self ..)
   obtain⟨a,b⟩:=tw_all w R (λc hc=>h1 c (List.mem_cons_of_mem _ hc)) h2
   simp only[List.cons_append,List.takeWhile,List.dropWhile,hx]
   exact⟨by rw[a],b⟩
theorem nx_word(w R:List UInt8)(hw:w≠[])(hh: ∀c∈w,Go.Proofs.YteaijdgnagkllaaGreatDoor.isHigh c=true)(hR: ∀c,R.head? = some c->isLow c=true):nxW (w++R)=w∧nxR (w++R)=R.drop 1:=by
 have hd: (w++R).dropWhile isLow=w++R:=by
  rcases w with _| ⟨x,w⟩
  ·exact absurd rfl hw
  ·have hx:=hh x (List.mem_cons_self ..)
   rw[hi_low]at hx
   have:isLow x=false:=by simpa using hx
   simp[List.dropWhile,this]
 obtain⟨a,b⟩:=tw_all w R hh (λc hc=>by rw[hi_low,hR c hc];rfl)
 unfold nxW nxR
 rw[hd,a,b]
 exact⟨rfl,rfl⟩
theorem nx_cost(w R:List UInt8)(hw:w≠[])(hh: ∀c∈w,Go.Proofs.YteaijdgnagkllaaGreatDoor.isHigh c=true)(c:UInt8)(hc:isLow c=true):nxC (w++c::R)=w.length+2:=by
 obtain⟨a,b⟩:=nx_word w (c::R) hw hh (λd hd=>by cases hd;exact hc)
 unfold nxC
 rw[a,b,if_neg hw]
 simp only[List.drop_succ_cons,List.drop_zero,List.length_append,List.length_cons]
 omega
theorem nx_cost_end(w:List UInt8)(hw:w≠[])(hh: ∀c∈w,Go.Proofs.YteaijdgnagkllaaGreatDoor.isHigh c=true):nxC w=w.length+1:=by
 obtain⟨a,b⟩:=nx_word w [] hw hh (λd hd=>by cases hd)
 rw[List.append_nil]at a b
 unfold nxC
 rw[a,b,if_neg hw]
 simp
theorem nx_nil:nxW []= []∧nxR []= []∧nxC []=0:=by decide
def newOC(gM gS:Nat)(v:Value):Array Value:=#[gM,gS,v,(0:Int)]
theorem newOC_ws(gM gS:Nat)(ws v:Value): (newOC gM gS ws).setIfInBounds 2 v=newOC gM gS v:=rfl
section
variable {w:World}{F:Nat->Prop}
def MadeOu(gM gS:Nat)(ds:List Nat)(e:Ending)(B:Asr):Prop:=
 ∃gO ws,e = .returned (.tuple #[.pointer (some ⟨gO,0,none⟩),(0:Int)])∧B=AllA [BlkA gO 94 (newOC gM gS ws),RowP ws ds]
def OuI(w:World)(gO gM gS:Nat)(ds:List Nat)(j:Nat)(wr:World):Prop:=
 ∃v,On Nob w (AllA [BlkA gO 94 (newOC gM gS v),RowP v (ds.take j)]) wr
theorem ou_new{gM gS rb n cap:Nat}{ds:List Nat}(hn:n<=1000)(bad:Bool)(hw:WordsAt w rb n ds bad):
 Calls prog 11 #[gM,gS,.slice rb n cap] w
  (λe w'=>if bad then e = .returned (.tuple #[.pointer none,(1:Int)])∧Below w.heap.size w w' else PostE (MadeOu gM gS ds) Nob w e w'):=by
 have hbx:=(On.refl (A:=AllA []) (F:=Nob) (w:=w) (λ_ h=>h)).addNew (A:=RowP (.slice none 0 0) []) (F2:=Nob) ⟨World.ownsRow_nil _ _ _ _,λk=>⟨λh=>h.elim,λh=>by cases h⟩⟩ (Kept.refl _ _) (λ_ h=>h.elim)
 have hbm:=hbx.box (newOC gM gS (.slice none 0 0)) 94
 have h0:OuI w w.heap.size gM gS ds 0 _:=⟨_,hbm⟩
 unfold newOC at h0
 obtain⟨i0,hi0,hz0,hz1,hz2⟩:=info_parts info_dp
 have hwl:ds.length<=n:=by
  have:=hw.2
  cases bad
  ·simp at this;omega
  ·simp at this;omega
 replace h0:=hid h0
 replace hw:=hid hw
 replace hi0:=hid hi0
 replace hz0:=hid hz0
 replace hz1:=hid hz1
 replace hz2:=hid hz2
 clear hbx hbm
 go_enter func11,ntmps11
 go_wp2_with fail
 go_loopg [23] (n+1) (λk t wr=> ∃j:Nat,j+k=n+1∧j<=ds.length∧t = .int .i64 (j:Int)∧OuI w w.heap.size gM gS ds j wr)
 case atStart=>exact⟨0,by omega,by omega,rfl,h0.out⟩
 case round=>
  obtain⟨j,hj,hjd,rfl,v,hon⟩:=hrel
  by_cases hlt:j<ds.length
  ·obtain⟨g,hg⟩: ∃g,ds[j]? = some g:=⟨ds[j],by simp[hlt]⟩
   have cj:=hon.cellOut (hw.out.1 j g hg) (λh=>h)
   have hm:Blk wr w.heap.size 94 (newOC gM gS v):=hon.blkAt 0 rfl
   have c2:wr.cell? (w.heap.size,2)=some v:=hm.cell 2
   have hml:=hm.lt
   have honA:=hon.alloc (.cells #[g] 29)
   obtain⟨F1,hR⟩:=honA.at_ 1 rfl
   have hown:=hR.1
   have hlj: (ds.take j).length=j:=by rw[List.length_take];omega
   have hsn:ptrsC (ds.take (j+1))=ptrsC (ds.take j)++ [.pointer g]:=by
    rw[List.take_add_one,hg]
    simp[ptrsC]
   have hlj1: (ds.take (j+1)).length=j+1:=by rw[List.length_take];omega
   have hfin:=λ(w3:World) (sg cap:Nat) (hG:w3.ownsRow 0 29 1 (.slice sg (j+1) cap) (j+1) (ptrsC (ds.take j)++ [.pointer g])) (hgrow: (wr.alloc (.cells #[g] 29)).grownBy w3 v.ownBlock) (hat:v.ownBlock=some sg∨sg=wr.heap.size+1)=>(by
    have h1:=honA.growAt 1 rfl hG hgrow (grew_at (by simpa using hat))
    have h2:On Nob w (AllA [BlkA w.heap.size 94 (newOC gM gS v),RowP (.slice sg (j+1) cap) (ds.take (j+1))]) w3:=by
     unfold RowP
     rw[hsn,hlj1]
     exact h1
    exact h2:On Nob w (AllA [BlkA w.heap.size 94 (newOC gM gS v),RowP (.slice sg (j+1) cap) (ds.take (j+1))]) w3)
   rw[hlj]at hown
   have hnl:j+1<=maxLen∧(j+1)*8<=140737488355328:=by unfold maxLen;omega
   have hcap:w.heap.size<wr.heap.size:=hml
   replace hon:=hid hon
   replace honA:=hid honA
   replace hown:=hid hown
   replace hfin:=hid hfin
   replace hnl:=hid hnl
   replace hm:=hid hm
   replace hsn:=hid hsn
   replace hlj:=hid hlj
   replace hlj1:=hid hlj1
   clear hR
   go_wp2_with (at_builtin;refine wpList_append_lies _ rfl (.tmp 33) (.tmp 35) 37 rfl 0 29 i0 (.pointer none) 1 8 underlying37 hi0.out hz0.out hz1.out hz2.out rfl oM v j (ptrsC (ds.take j)) (by rfl) hown.out ⟨wr.heap.size,0,none⟩ 1 1 [.pointer g] (by rfl) rfl (ptr_news (t:=29) (Blk.new _ _ _)) (ptr_one g) oM hnl.out.1 hnl.out.2 (Nat.zero_le _) (wr.heap.size+1) (by simp) ?_;intro sg cap w3 hG hgrow hat hlt3;have h3:=hfin.out w3 sg cap hG hgrow hat;have d2:w3.cell? (w.heap.size,2)=some v:=(h3.blkAt 0 rfl).cell 2;have f2:=(h3.blkAt 0 rfl).frozen 2;have h4:=h3.setAt 0 rfl 2 (.slice sg (j+1) cap);rw[newOC_ws]at h4;replace h3:=hid h3;replace h4:=hid h4;replace hG:=hid hG;replace hgrow:=hid hgrow)
   go_roundg (gk-1)
   case measure=>omega
   case rel=>exact⟨j+1,by omega,by omega,by go_num,_,h4.out⟩
  ·have hjj:j=ds.length:=by omega
   have h2:=hw.out.2
   cases bad with
   | true=>
     simp only[if_true]at h2
     have cj:=hon.cellOut h2.2 (λh=>h)
     rw[<-hjj]at cj
     have hjn:j<n:=by omega
     have hout:=hid hon.outB
     replace hon:=hid hon
     replace hjj:=hid hjj
     clear h2
     go_wp2
     go_ret2
     exact⟨rfl,hout.out⟩
   | false=>
     simp only[Bool.false_eq_true,if_false]at h2
     have hjn:j=n:=by omega
     have htk:ds.take j=ds:=List.take_of_length_le oM
     rw[htk]at hon
     replace hon:=hid hon
     replace hjj:=hid hjj
     subst hjn
     have hdj:decide ((j:Int) < (j:Int))=false:=by simp
     clear h2 htk
     go_wp2
     go_ret2
     exact⟨_,⟨w.heap.size,v,rfl,rfl⟩,hon.out⟩
end
end Vm
end Go.Proofs.YteaijdgnagkllaaGreatDoor
