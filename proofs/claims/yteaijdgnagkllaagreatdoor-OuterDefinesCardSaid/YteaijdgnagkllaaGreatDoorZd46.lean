/- Chapter 13: a word laid down whole; CONSTANT, as the reader does it. Conditions: as written. -/
import Derived.Test.YteaijdgnagkllaaGreatDoorZd45
open Go.Proofs.Tryz
namespace Go.Proofs.YteaijdgnagkllaaGreatDoor
set_option linter.unusedVariables false
set_option linter.unusedSimpArgs false
set_option maxHeartbeats 8000000
set_option maxRecDepth 100000
open Go.RowKit Go.Lib Go.Deep
namespace Vm
def headQ(s:Mt)(n:List UInt8):Mt:=s.onDict ((dS s).createS s.S n) ((dS s).createD s.S n)
def shownQ(s:Mt):Mt:=s.onDict ((dS s).turnS s.S showT) (dS s)
section
variable {w w' W:World}{F:Nat->Prop}{c:Vc}{o:Oc}{x:Rx}{s:Mt}{L:List Asr}{B:Asr}
theorem rd_created{g cap:Nat}{l:List Int}(h:On F w (AllA (BlkA g 3 (intsC l)::oL c o x s)) W)(hd:Dcs c .nilIface s)(nm:ByteArray)(hn:nm.size<=60000)(hf: (dS s).createF s.S nm.data.toList=0)(hv: ∀v∈l,V64 v)(hl:l.length<=1000):
 Calls prog 108 #[o.g,.string nm,.slice (some ⟨g,0,none⟩) l.length cap] W (Got (.returned (laysD l (shownQ (headQ s nm.data.toList))).1) (AllA (BlkA g 3 (intsC l)::oL c o x (laysD l (shownQ (headQ s nm.data.toList))).2)) F w):=by
 have hd1:=(hd.onGrew (grew_create hd.at8.img hd.at8.ok nm.data.toList)).1
 have hcr:=h.callTail λF' hb' _ _=>hd.callO (On.refl hb') (λF' ha=>d_create ha hd.at8 nm oM)
 rw[hf]at hcr
 change Calls _ _ _ _ (Got _ (AllA (BlkA g 3 (intsC l)::oL c o x (headQ s nm.data.toList))) F w)at hcr
 change Dcs c .nilIface (headQ s nm.data.toList)at hd1
 generalize headQ s nm.data.toList=s1 at *
 have hd2:Dcs c .nilIface (shownQ s1):=(hd1.onGrew (grew_show hd1.at8.img hd1.at8.ok)).1
 have hsh:=λW2 (h2:On F w (AllA (BlkA g 3 (intsC l)::oL c o x s1)) W2)=>(h2.callTail λF' hb' _ _=>hd1.callO (On.refl hb') (λF' ha=>d_show ha hd1.at8):Calls prog 88 #[c.gS] W2 (Got (.returned (.tuple #[])) (AllA (BlkA g 3 (intsC l)::oL c o x (shownQ s1))) F w))
 generalize shownQ s1=s2 at *
 have hly:=λW2 (h2:On F w (AllA (BlkA g 3 (intsC l)::oL c o x s2)) W2)=>rd_layBox (cap:=cap) h2 hd2 hv hl
 generalize laysD l s2=R at *
 have hway:=λ(s2:Mt) W2 (h:On F w (AllA (BlkA g 3 (intsC l)::oL c o x s2)) W2)=>o_way h.tail
 obtain⟨c0,d0,d1,d2⟩:=hway _ _ h
 replace hcr:=hid hcr
 replace hsh:=hid hsh
 replace hly:=hid hly
 replace hway:=hid hway
 clear h hd hd1 hd2 hf hv hl
 go_enter func108,ntmps108
 go_wp2_with fail
 refine mo hcr.out λw4 h4=>?_
 simp only[]
 have⟨y0,z0,z1,z2⟩:=hway.out _ _ h4
 have hs4:=hid (hsh.out _ h4)
 clear h4
 go_wp2_with fail
 refine mo hs4.out λw5 h5=>?_
 simp only[]
 have hl5:=hid (hly.out _ h5)
 clear h5
 go_wp2_with fail
 refine mo hl5.out λw6 h6=>?_
 simp only[]
 replace h6:=hid h6
 go_wp2
 go_ret
 exact⟨rfl,h6.out⟩
theorem o_pop(h:On F w (AllA (oL c o x s)) W)(hs:s.Ok)(h0:0<s.d):
 Calls prog 151 #[c.gD] W (Got (.returned (.tuple #[(s.top 0),(0:Int)])) (AllA (oL c o x (s.cutD (s.d-1)))) F w):=by
 have h1:=h.callAt2G (A:=StkA c.gI c.gD s.pd s.d) (B:=ImgA c.gI s.S) (A':=StkA c.gI c.gD s.pd (s.d-1)) (B':=ImgA c.gI s.S) 6 5 (by decide) rfl rfl λF' hb=>k_pop hb hs.pd h0 hs.d
 have e:s.top 0=sget s.S s.pd.fr (s.d-1):=by
  unfold Mt.top stopv
  rw[if_pos ⟨by omega,by omega⟩]
  rfl
 rw[e]
 exact h1
theorem rd_popped(h:On F w (AllA (oL c o x s)) W)(hs:s.Ok)(h0:0<s.d)(v:Int)(ht:s.top 0=v)(hv:V64 v)(hd:Dcs c .nilIface s)(nm:ByteArray)(hn:nm.size<=60000)(hf: (dS s).createF s.S nm.data.toList=0):
 Calls prog 104 #[o.g,(14:Int),.string nm] W (Got (.returned (laysD [2,v,1] (shownQ (headQ (s.cutD (s.d-1)) nm.data.toList))).1) (AllA (oL c o x (laysD [2,v,1] (shownQ (headQ (s.cutD (s.d-1)) nm.data.toList))).2)) F w):=by
 have hda:=o_data h
 have hpp:=o_pop h hs h0
 rw[ht]at hpp
 have hd1:Dcs c .nilIface (s.cutD (s.d-1)):=⟨hd.h,hd.l,hd.at8⟩
 have hf1: (dS (s.cutD (s.d-1))).createF (s.cutD (s.d-1)).S nm.data.toList=0:=hf
 generalize s.cutD (s.d-1)=s1 at *
 have hcr:=λW2 (h2:On F w (AllA (oL c o x s1)) W2)=>rd_created (cap:=3) (l:=[2,v,1]) (h2.box (intsC [2,v,1]) 3) hd1 nm hn hf1 (λu hu=>by
  simp only[List.mem_cons,List.mem_nil_iff,or_false]at hu
  rcases hu with rfl|rfl|rfl
  ·unfold V64;omega
  ·exact hv
  ·unfold V64;omega) (by show 3<=1000;omega)
 generalize laysD [2,v,1] (shownQ (headQ s1 nm.data.toList))=R at *
 obtain⟨c0,d0,d1,d2⟩:=o_way h
 replace hda:=hid hda
 replace hpp:=hid hpp
 replace hcr:=hid hcr
 clear h hs h0 ht hd hd1 hf hf1
 go_enter func104,ntmps104
 go_wp2_with fail
 refine hda.out.mono ?_
 rintro e w4 ⟨rfl,rfl⟩
 simp only[]
 go_wp2_with fail
 refine mo hpp.out λw5 h5=>?_
 simp only[]
 have hc5:=hid (hcr.out _ h5)
 clear h5
 go_wp2_with fail
 refine mo hc5.out λw6 h6=>?_
 simp only[]
 replace h6:=hid h6.tail
 go_wp2
 go_ret
 exact⟨rfl,h6.out⟩
theorem rd_may14(h:W.cell? (o.g,4)=some (.bool false)∧W.cell? (o.g,5)=some (.bool false)):Calls prog 100 #[o.g,(14:Int)] W (Same (.bool true) W):=by
 obtain⟨c4,c5⟩:=h
 go_enter func100,ntmps100
 go_wp2
 go_ret
 exact⟨rfl,rfl⟩
def cstS(s:Mt)(v:Int):Int×Mt:=laysD [2,v,1] (shownQ (headQ ((s.readTo (exN s.ext)).cutD (s.d-1)) (exW s.ext).data.toList))
theorem rd_sp_const(h:On F w (AllA (oL c o x s)) W)(hr:OSrc c o s L)(hd:Dcs c .nilIface s)(hs:s.Ok)(h0:0<s.d)(v:Int)(ht:s.top 0=v)(hv:V64 v)(hx1:x.comp=false)(hx2:x.opn=false)(hl1:0<=x.left)(hl2:x.left<=1000000)(hnear: ¬x.left<exC s.ext)(nm:ByteArray)
 (hn:Dc.nameB (exW s.ext).data.toList=true) (hf: (dS s).createF s.S (exW s.ext).data.toList=0):
 Calls prog 69 #[o.g,.agg #[(14:Int),.string nm]] W (Got (.returned (cstS s v).1) (AllA (oL c o { x with left:=x.left-exC s.ext } (cstS s v).2)) F w):=by
 obtain⟨n1,n2⟩:=name_size hn
 have hbx:=h.box #[(14:Int),.string nm] 168
 have hfl:=rd_flags hbx.tail
 rw[hx1,hx2]at hfl
 have hm:=rd_may14 (o:=o) hfl
 have hE:=(ex_bounds hr.sz hr.le).2
 have hwd:=hbx.callTail (λF' hb' _ _=>rd_word_near (On.refl hb') hr hl1 hl2 hnear)
 have hd1:Dcs c .nilIface (s.readTo (exN s.ext)):=⟨hd.h,hd.l,hd.at8⟩
 have hs1: (s.readTo (exN s.ext)).Ok:=⟨hs.pd,hs.pr,hs.d,hs.r,hs.du,hs.dv,hs.ru,hs.rv⟩
 have hcl: ∀W2,On F w (AllA (oL c o { x with left:=x.left-exC s.ext } (s.readTo (exN s.ext)))) W2->Calls prog 104 #[o.g,(14:Int),.string (exW s.ext)] W2 (Got (.returned (cstS s v).1) (AllA (oL c o { x with left:=x.left-exC s.ext } (cstS s v).2)) F w):=λW2 h2=>rd_popped h2 hs1 h0 v ht hv hd1 (exW s.ext) hE.2 hf
 have hne: (exW s.ext).toList.isEmpty=false:=ne_list (λe=>by rw[e]at n1;exact absurd n1 (by decide))
 have hgt:decide ((31:Int) < ((exW s.ext).size:Int))=false:=decide_eq_false oM
 generalize s.readTo (exN s.ext)=s1 at *
 generalize ({ x with left:=x.left-exC s.ext }:Rx)=x1 at *
 generalize cstS s v=R at *
 generalize exW s.ext=T at *
 replace hbx:=hid hbx
 replace hm:=hid hm
 replace hwd:=hid hwd
 replace hcl:=hid hcl
 clear h hd hd1 hfl hx1 hx2 hnear hr hf hn hs hs1 h0 ht
 go_enter func69,ntmps69
 go_wp2_with fail
 refine hm.out.mono ?_
 rintro e w4 ⟨rfl,rfl⟩
 simp only[]
 go_wp2_with fail
 refine mo hwd.out λw5 h5=>?_
 simp only[]
 have hc5:=hid (hcl.out _ h5.tail)
 have z0:w5.cell? (W.heap.size,0)=some (14:Int):=(h5.blkAt 0 rfl).cell 0
 have z1:w5.cell? (W.heap.size,1)=some (.string nm):=(h5.blkAt 0 rfl).cell 1
 clear h5
 go_wp2_with fail
 refine mo hc5.out λw6 h6=>?_
 simp only[]
 replace h6:=hid h6
 go_wp2
 go_ret
 exact⟨rfl,h6.out⟩
end
section
variable {c:Vc}{o:Oc}{L:List Asr}{a:Oa}{d:Df}{x:Rx}{s:Mt}{w W:World}{F:Nat->Prop}
theorem act_const(h0:Oc0 c o L)(h:OQ a x s)(hx:x.comp=false∧x.opn=false)(nm:ByteArray){ds:List Int}{v:Int}(hds:a.ds=ds ++ [v])(hv:V64 v)(hf:nxC a.R<=a.left)(hn:Dc.nameB (nxW a.R)=true)(hr:xtOf a.here (nxW a.R) +24<=19104)(hon:On F w (AllA (oL c o x s)) W):
 ActTo c o F w W (PI { a with ds:=ds,ws:=defW a.here (nxW a.R) false::a.ws,here:=xtOf a.here (nxW a.R) +24,last:=a.here,codes:=(xtOf a.here (nxW a.R),[2,v,1])::a.codes,R:=nxR a.R,left:=a.left-nxC a.R }) (.sp 14 nm):=by
 obtain⟨n1,n2,n3⟩:=h.near hf
 have hw:=h.word
 have hrep:=h.b.om.rep
 rw[hds]at hrep
 have hd:s.d=ds.length+1:=by rw[hrep.d];simp
 have htop:s.top 0=v:=hrep.top 0 v (by simp) (by simp)
 obtain⟨f1,f2,f3,f4,f5,f6⟩:=def_create h.b.om.stu (nxW a.R) hn (by
  show xtOf (dS s).h _<=(dS s).lim s.S
  rw[h.hereN,h.lim]
  omega)
 simp only at f1 f2 f3 f4 f5 f6
 refine(rd_sp_const hon (h.src h0) (h.b.om.dcs h0 _) hrep.ok oM v htop hv hx.1 hx.2 n1 n2 n3 nm (by rw[hw];exact hn) (by rw[hw];exact f1)).mono ?_
 have hq:=h.read hf
 have hcut:VS (s.readTo (exN s.ext)) ds [] (tabO a.out) ((s.readTo (exN s.ext)).cutD (s.d-1)):=by
  have hr2:Rep3 (s.readTo (exN s.ext)) (ds ++ [v]) []:=by rw[<-hds];exact hq.b.om.rep
  have h3:=hr2.cutD ds.length (by simp)
  rw[List.take_left]at h3
  rw[show s.d-1=ds.length by omega]
  exact⟨h3,AgreeTo.refl _ _,hq.b.T,⟨rfl,rfl,rfl,rfl,rfl,rfl,rfl,rfl,rfl,rfl⟩,hq.b.om.quiet⟩
 have hq1:=hq.with hcut (a.left-nxC a.R) (by have:=h.l2;omega) (x.left-exC s.ext) hq.left
 have hrgS: (dS s).rg=3:=rfl
 have hh:=h.hereN
 unfold cstS
 rw[hw]
 have hle:a.here<=xtOf a.here (nxW a.R):=by unfold xtOf;omega
 have hq2:=hq1.dict { x with left:=x.left-exC s.ext } (N:=(dS s).h) (here':=xtOf a.here (nxW a.R)) (last':=a.here) (ws':=defW a.here (nxW a.R) true::a.ws) (codes':=a.codes) ((dS s).createS s.S (nxW a.R)) ((dS s).createD s.S (nxW a.R)) (by rw[<-hh];exact f3.gr) f4 (by rw[hh];exact h.lo.1) (λi hi=>f5 i (by rw[h.lim];exact hi)) (by rw[f6];rfl) (by have:=f3.h;simp only at this;rw[this,hh];simp) (by have:=f3.la;simp only at this;rw[this,hh]) (λp hp=>by
  obtain⟨p1,p2⟩:=h.b.codes p hp
  exact⟨p1.keep f4 (by rw[hh];exact p2),by omega⟩) rfl rfl
 change OQ _ _ (headQ ((s.readTo (exN s.ext)).cutD (s.d-1)) (nxW a.R))at hq2
 have hds2:dS (headQ ((s.readTo (exN s.ext)).cutD (s.d-1)) (nxW a.R))= (dS s).createD s.S (nxW a.R):=dS_on (s:=(s.readTo (exN s.ext)).cutD (s.d-1)) ((dS s).createS s.S (nxW a.R)) ((dS s).createD s.S (nxW a.R)) (by rw[f6];rfl)
 have hS2: (headQ ((s.readTo (exN s.ext)).cutD (s.d-1)) (nxW a.R)).S= (dS s).createS s.S (nxW a.R):=rfl
 rw[hh,h.lastN,<-hds2,<-hS2]at f3
 generalize headQ ((s.readTo (exN s.ext)).cutD (s.d-1)) (nxW a.R)=s2 at *
 obtain⟨k1,k2,k3⟩:=f3.show
 simp only at k1 k2 k3
 have hN:16456<=a.here:=h.lo.1
 have hq3:=hq2.dict { x with left:=x.left-exC s.ext } (N:=a.here) (here':=xtOf a.here (nxW a.R)) (last':=a.here) (ws':=defW a.here (nxW a.R) false::a.ws) (codes':=a.codes) _ (dS s2) k1.gr k2 hN (λi hi=>k3 i (by rw[hq2.lim];exact hi)) rfl hq2.hereN hq2.lastN (λp hp=>by
  obtain⟨p1,p2⟩:=hq2.b.codes p hp
  have p3:=(h.b.codes p hp).2
  exact⟨p1.keep k2 p3,p2⟩) rfl rfl
 change OQ _ _ (shownQ s2)at hq3
 have hds3:dS (shownQ s2)=dS s2:=dS_on (s:=s2) ((dS s2).turnS s2.S showT) (dS s2) rfl
 have hS3: (shownQ s2).S= (dS s2).turnS s2.S showT:=rfl
 rw[<-hS3,<-hds3]at k1
 generalize shownQ s2=s3 at *
 obtain⟨g1,g2,g3⟩:=lays_go [2,v,1] (d:=⟨a.ws,nxW a.R,[],a.here,a.last⟩) hq3 rfl k1 (λu hu=>by
  simp only[List.mem_cons,List.mem_nil_iff,or_false]at hu
  rcases hu with rfl|rfl|rfl
  ·unfold V64;omega
  ·exact hv
  ·unfold V64;omega) (by show xtOf a.here (nxW a.R) +8*3<=19104;omega)
 rw[g1]
 rintro e w' ⟨rfl,h6⟩
 have hcode:=g3.code
 have r1:=g3.room8.2
 simp only[List.nil_append]at hcode r1
 refine⟨rfl,_,_,⟨⟨⟨g2.b.om,g2.b.T,g2.b.here,g2.b.last,g2.b.sn,g2.b.f,λp hp=> ?_⟩,g2.sz,g2.tl,g2.le,g2.R,g2.left,g2.l2,g2.mode⟩,hx⟩,h6⟩
 rcases List.mem_cons.1 hp with rfl|hp
 ·exact⟨⟨hcode,.inr ⟨by show 16456<=xtOf a.here (nxW a.R);omega,by show xtOf a.here (nxW a.R) +8*3<=_;omega⟩⟩,by show xtOf a.here (nxW a.R) +8*3<=xtOf a.here (nxW a.R) +24;omega⟩
 ·obtain⟨p1,p2⟩:=g2.b.codes p hp
  exact⟨p1,p2⟩
theorem round_const{inl b:Bool}{v u:Int}{ds:List Int}(h0:Oc0 c o L)(hw:nxW a.R≠[])(hf:nxC a.R+nxC (nxR a.R)<=a.left)(hS:NoWd a.ws (nxW a.R))(hK:kC (nxW a.R)=some (inl,[u]))(hu:Code.unpack u= (20,14,b))(hds:a.ds=ds ++ [v])(hv:V64 v)(hn:Dc.nameB (nxW (nxR a.R))=true)(hr:xtOf a.here (nxW (nxR a.R)) +24<=19104):
 RoundTo c o L (PI a) (PI { a with ds:=ds,ws:=defW a.here (nxW (nxR a.R)) false::a.ws,here:=xtOf a.here (nxW (nxR a.R)) +24,last:=a.here,codes:=(xtOf a.here (nxW (nxR a.R)),[2,v,1])::a.codes,R:=nxR (nxR a.R),left:=a.left-nxC a.R-nxC (nxR a.R) }):=
 round_of h0 flat_keep hw oM λx s nm hq hx hnm w F W hon=>by
  obtain⟨hd,xt,hK⟩:=kpS_of hK
  rw[hq.kv_sp nm (by rw[hnm];exact hS) (by rw[hnm];exact hK) hu]
  exact act_const h0 hq hx nm hds hv (by show nxC (nxR a.R)<=a.left-nxC a.R;omega) hn hr hon
end
def stkAll(S:Img)(fr d:Nat):List Int:=(List.range d).map λj=>sget S fr j
def cellsK(S:Img)(fr d k:Nat):Array Value:=((List.range d).map λj=>Value.int .i64 (if j<k then sget S fr j else 0)).toArray
theorem cellsK0(S:Img)(fr d:Nat):madeCells #[Value.int .i64 0] d=cellsK S fr d 0:=by
 unfold cellsK
 apply Array.ext'
 simp[madeCells,Nat.mod_one]
theorem cellsK_at(S:Img)(fr d k:Nat)(hk:k<d): ∃v,(cellsK S fr d k)[k]? = some (.int .i64 v):=by
 unfold cellsK
 simp[hk]
theorem cellsK_set(S:Img)(fr d k:Nat)(hk:k<d): (cellsK S fr d k).setIfInBounds k (.int .i64 (sget S fr k))=cellsK S fr d (k+1):=by
 unfold cellsK
 apply Array.ext'
 simp only[Array.toList_setIfInBounds]
 apply List.ext_getElem?
 intro i
 rw[List.getElem?_set]
 by_cases hi:i<d
 ·by_cases e:k=i
  ·subst e
   simp[hk]
  ·have e2: (i<k+1)↔(i<k):=by omega
   simp[hi,e,e2]
 ·simp[hi,show¬(k=i)by omega]
theorem cellsK_all(S:Img)(fr d:Nat):cellsK S fr d d=intsC (stkAll S fr d):=by
 unfold cellsK intsC stkAll
 congr 1
 rw[List.map_map]
 apply List.map_congr_left
 intro j hj
 have:j<d:=by simpa using hj
 simp[this]
section
variable {w:World}{g gI gb d:Nat}{S:Img}{p:Pl}
theorem k_cells(hs:Blk w g 110 (stkC gI p d))(hi:IRep w gI gb S)(hp:p.Ok)(hd:d<=17920):
 Calls prog 17 #[.pointer (some ⟨g,0,none⟩)] w (Got (.returned (.slice (some ⟨w.heap.size,0,none⟩) d d)) (AllA [BlkA w.heap.size 3 (intsC (stkAll S p.fr d))]) Nob w):=by
 have hon:=On.refl (A:=AllA []) (F:=Nob) (w:=w) (λ_ h=>h)
 have hmk:=run_make_row' (P:=prog) 50 3 (.int .i64 0) 8 underlying50 kR rfl .i64 .i64 d oM oM w
 rw[cellsK0 S p.fr d]at hmk
 have hon0:=hon.box (cellsK S p.fr d 0) 3
 have c3:w.cell? ⟨g,3,none⟩=some (.int .i64 (d:Int)):=hs.cell 3
 have hlt:=hs.lt
 have hget:=λW (hb:Below w.heap.size w W) i (hi2:i<=17920)=>k_get (hs.below hb hs.lt) ⟨hi.blk.below hb hi.blk.lt,hi.row.below hb hi.row.lt,hi.ok⟩ hp i hi2
 replace hon0:=hid hon0
 replace hget:=hid hget
 clear hs hi hon
 go_enter func17,ntmps17
 go_wp2
 go_loopg [12] d (λk t wr=> ∃j:Nat,j+k=d∧t = .int .i64 (j:Int)∧On Nob w (AllA [BlkA w.heap.size 3 (cellsK S p.fr d j)]) wr)
 case atStart=>exact⟨0,by omega,rfl,hon0.out⟩
 case round=>
  obtain⟨j,hj,rfl,honj⟩:=hrel
  by_cases hjl:j<d
  ·have ht:=hget.out wr honj.outB j oM
   have hset:=cellsK_set S p.fr d j hjl
   generalize sget S p.fr j=v at *
   replace ht:=hid ht
   replace hset:=hid hset
   replace honj:=hid honj
   go_wp2_with fail
   refine mo ht.out λw1 hbl=>?_
   simp only[]
   have hon1:=honj.out.below hbl
   have hblk:=hon1.blkAt 0 rfl
   have ff:=hblk.frozen j
   obtain⟨v0,cc⟩:=cellsK_at S p.fr d j hjl
   replace cc:=(hblk.cell j).trans cc
   have hfin:=hon1.setAt 0 rfl j (.int .i64 v)
   rw[hset.out]at hfin
   replace hfin:=hid hfin
   clear hblk
   replace hon1:=hid hon1
   clear hbl
   go_wp2
   go_roundg (gk-1)
   case measure=>omega
   case rel=>exact⟨j+1,by omega,by go_num,hfin.out⟩
  ·have hjn:j=d:=by omega
   subst hjn
   have hdec:decide ((j:Int) < (j:Int))=false:=by simp
   rw[cellsK_all]at honj
   replace honj:=hid honj
   go_wp2
   go_ret
   exact⟨rfl,honj.out⟩
end
def isNum(c:UInt8):Bool:=decide (48<=c.toNat) &&decide (c.toNat<=57) ||decide (c=45)
def numLike(l:List UInt8):Bool:=l.all isNum&& (match l.getLast? with|some c=>decide (48<=c.toNat) |none=>false)
theorem digits_num(u:Nat): (digitsU 10 u).all isNum=true∧∃c,(digitsU 10 u).getLast? = some c∧48<=c.toNat:=by
 have hall: ∀c∈digitsU 10 u,48<=c.toNat∧c.toNat<=57:=λc hc=>by
  obtain⟨k,hk,rfl⟩:=digits_dig (b:=10) oM oM u c hc
  have: ∀k:Fin 10,48<=(digC k.val).toNat∧(digC k.val).toNat<=57:=by decide
  exact this ⟨k,hk⟩
 refine⟨List.all_eq_true.2 λc hc=> ?_,?_⟩
 ·obtain⟨h1,h2⟩:=hall c hc
  unfold isNum
  rw[decide_eq_true h1,decide_eq_true h2]
  rfl
 ·rcases h: (digitsU 10 u).getLast? with _|c
  ·exact absurd (List.getLast?_eq_none_iff.1 h) (digitsU_ne 10 u)
  ·exact⟨c,rfl,(hall c (List.mem_of_getLast? h)).1⟩
theorem print_num(n:Int):numLike (printS n 10)=true:=by
 unfold printS
 rw[if_pos ⟨by omega,by omega⟩]
 unfold printB
 split
 ·obtain⟨h1,c,h2,h3⟩:=digits_num n.toNat
  unfold numLike
  rw[show(10:Int).toNat=10 from rfl,h1,h2]
  simpa using h3
 ·obtain⟨h1,c,h2,h3⟩:=digits_num n.natAbs
  unfold numLike
  rw[show(10:Int).toNat=10 from rfl,List.all_cons,h1,List.getLast?_cons,h2]
  simpa using⟨by decide,h3⟩
theorem numLike_ne{l:List UInt8}(h:numLike l=true):l≠[]:=by
 rintro rfl
 cases h
theorem isNum_high{c:UInt8}(h:isNum c=true):Go.Proofs.YteaijdgnagkllaaGreatDoor.isHigh c=true:=by
 unfold isNum at h
 unfold Go.Proofs.YteaijdgnagkllaaGreatDoor.isHigh
 simp only[Bool.or_eq_true,Bool.and_eq_true,decide_eq_true_eq]at h⊢
 rcases h with⟨h,_⟩ |rfl
 ·omega
 ·decide
theorem numLike_high{l:List UInt8}(h:numLike l=true): ∀c∈l,Go.Proofs.YteaijdgnagkllaaGreatDoor.isHigh c=true:=λc hc=>by
 unfold numLike at h
 simp only[Bool.and_eq_true,List.all_eq_true]at h
 exact isNum_high (h.1 c hc)
theorem lowC_num(c:UInt8)(h:isNum (lowC c)=true):lowC c=c:=by
 have: ∀k:Fin 256,isNum (lowC (UInt8.ofNat k.val))=true->lowC (UInt8.ofNat k.val)=UInt8.ofNat k.val:=by decide +kernel
 have h2:=this ⟨c.toNat,c.toNat_lt⟩
 simp only[UInt8.ofNat_toNat]at h2
 exact h2 h
theorem lowC_isNum(c:UInt8)(h:isNum c=true):lowC c=c:=by
 have: ∀k:Fin 256,isNum (UInt8.ofNat k.val)=true->lowC (UInt8.ofNat k.val)=UInt8.ofNat k.val:=by decide +kernel
 have h2:=this ⟨c.toNat,c.toNat_lt⟩
 simp only[UInt8.ofNat_toNat]at h2
 exact h2 h
theorem lowS_num{l:List UInt8}(h:numLike l=true):lowS l=l:=by
 unfold numLike at h
 simp only[Bool.and_eq_true,List.all_eq_true]at h
 unfold lowS
 have:=List.map_congr_left (f:=lowC) (g:=id) (l:=l) (λc hc=>lowC_isNum c (h.1 c hc))
 rw[this,List.map_id]
theorem same_num{a l:List UInt8}(h:numLike l=true)(hs:sameB a l=true):a=l:=by
 unfold sameB at hs
 have h1:lowS a=l:=by
  have:=of_decide_eq_true hs
  rw[this,lowS_num h]
 have h2: ∀c∈a,isNum (lowC c)=true:=λc hc=>by
  have hm:lowC c∈lowS a:=List.mem_map.2 ⟨c,hc,rfl⟩
  rw[h1]at hm
  unfold numLike at h
  simp only[Bool.and_eq_true,List.all_eq_true]at h
  exact h.1 _ hm
 have h3:lowS a=a:=by
  unfold lowS
  have:=List.map_congr_left (f:=lowC) (g:=id) (l:=a) (λc hc=>lowC_num c (h2 c hc))
  rw[this,List.map_id]
 rw[<-h3,h1]
theorem kp_num{l:List UInt8}(h:numLike l=true):kp l=none:=by
 unfold kp
 rw[List.find?_eq_none]
 intro p hp
 have hk:=List.all_eq_true.1 (by decide +kernel: (placed kernelW 8).all (λp=> !numLike p.2.name)=true) p (List.mem_reverse.1 hp)
 intro hs
 have:=same_num h hs
 rw[this,h]at hk
 cases hk
theorem parse_num{n:Int}(h:V64 n):parseN (printS n 10) 10= (n,true):=by
 unfold printS
 rw[if_pos ⟨by omega,by omega⟩]
 exact parse_print h oM oM
theorem print_size{n:Int}(h:V64 n): (printS n 10).length<=65:=by
 unfold printS
 rw[if_pos ⟨by omega,by omega⟩]
 exact print_len oM h
theorem sameB_refl(a:List UInt8):sameB a a=true:=by unfold sameB;exact decide_eq_true rfl
theorem name_high{n:List UInt8}(h:Dc.nameB n=true):n≠[]∧∀c∈n,Go.Proofs.YteaijdgnagkllaaGreatDoor.isHigh c=true:=by
 have hl:=nameB_len h
 unfold Dc.nameB at h
 simp only[Bool.and_eq_true,List.all_eq_true]at h
 refine⟨λe=> ?_,λc hc=>h.2 c hc⟩
 rw[e]at hl
 simp at hl
section
variable {c:Vc}{o:Oc}{L:List Asr}{nm:List UInt8}{n m:Int}{left:Nat}
theorem runs_lit{s:Mt}{a:Oa}{xt:Nat}{v:Int}(h:OB a s)(hv:V64 v)(hd:a.ds.length<37)(hc: (xt,[2,v,1])∈a.codes):RunsTo 2 s (xt:Int) (a.ds ++ [v]) (tabO a.out):=by
 have hcode:=(h.codes _ hc).1
 have hat:=hcode.at_
 simp only[List.length_cons,List.length_nil]at hat
 refine runs_of (k:=1) (pc:=(xt:Int) +16) oM λF h1 h3=> ?_
 have hst:=VS.start h.om.rep h.om.quiet
 rw[h.T]at hst
 have hf:=(hst.code hcode).fetchLit hst.rep.lay 0 v (xt:Int) rfl rfl oM
 obtain⟨s2,g1,g2⟩:=VS.step0 (tab:=outTab) (left:=F) hst [v] oM oM (.inr rfl) hf (λ_=>[v]) rfl rfl (by show Code.wants 2= (0,1);decide) (by decide) rfl (λb=>rfl) (by simp;omega) (λu hu=>by rw[List.mem_singleton.1 hu];exact hv)
 exact⟨s2,g1.go,g2,(g2.code hcode).fetch g2.rep.lay 2 1 1 0 _ rfl (by decide) (by decide) (by decide) oM⟩
def defT(nm:List UInt8)(n:Int):List UInt8:=58::32:: (nm++32:: (printS n 10++32::59::32::nm))
def defA(nm:List UInt8)(n:Int)(left tl:Nat):Oa:=⟨[defW 16456 nm false],[n],[],xtOf 16456 nm+24,16456,[(xtOf 16456 nm,[2,n,1])],[],left,tl⟩
theorem word_sp(w R:List UInt8)(hw:w≠[])(hh: ∀c∈w,Go.Proofs.YteaijdgnagkllaaGreatDoor.isHigh c=true):nxW (w++32::R)=w∧nxR (w++32::R)=R∧nxC (w++32::R)=w.length+2:=by
 obtain⟨a,b⟩:=nx_word w (32::R) hw hh (λc hc=>by cases hc;decide)
 exact⟨a,b,nx_cost w R hw hh 32 (by decide)⟩
theorem word_end(w:List UInt8)(hw:w≠[])(hh: ∀c∈w,Go.Proofs.YteaijdgnagkllaaGreatDoor.isHigh c=true):nxW w=w∧nxR w = []∧nxC w=w.length+1:=by
 obtain⟨a,b⟩:=nx_word w [] hw hh (λc hc=>by cases hc)
 rw[List.append_nil]at a b
 exact⟨a,b,nx_cost_end w hw hh⟩
theorem xtOf_le{p:Nat}{nm:List UInt8}(h:Dc.nameB nm=true):xtOf p nm<=p+40∧p+16<=xtOf p nm:=by
 have:=nameB_len h
 have h2:=up_ge (1+nm.length)
 unfold xtOf
 unfold up at *
 omega
theorem nowd_hid(w:Wd)(h:w.hid=true)(k:List UInt8):NoWd [w] k:=by
 unfold NoWd
 simp[h]
theorem reads_def_all{L:List Asr}(hn:Dc.nameB nm=true)(hv:V64 n): ∃left,left<=20000∧∀c o,Oc0 c o L->ReadsR c o L 0 (PI (defA nm n left (defT nm n).length)) 4 (PI ⟨[],[],[],16456,0,[],defT nm n,20000,(defT nm n).length⟩):=by
 obtain⟨n1,n2⟩:=name_high hn
 have hnl:=nameB_len hn
 have p0:=print_num n
 have p1:=numLike_ne p0
 have p2:=numLike_high p0
 have p3:=print_size hv
 have hxt:=xtOf_le (p:=16456) hn
 obtain⟨a1,a2,a3⟩:=word_sp [58] (nm++32:: (printS n 10++32::59::32::nm)) (by simp) (by decide)
 obtain⟨b1,b2,b3⟩:=word_sp nm (printS n 10++32::59::32::nm) n1 n2
 obtain⟨c1,c2,c3⟩:=word_sp (printS n 10) (59::32::nm) p1 p2
 obtain⟨d1,d2,d3⟩:=word_sp [59] nm (by simp) (by decide)
 obtain⟨e1,e2,e3⟩:=word_end nm n1 n2
 simp only[List.cons_append,List.nil_append]at a1 a2 a3 d1 d2 d3
 have z:=nx_nil
 refine⟨20000-3- (nm.length+2) - ((printS n 10).length+2) -3- (nm.length+1) -2,by omega,λc o h0=> ?_⟩
 obtain⟨tl,htl⟩: ∃tl,(defT nm n).length=tl:=⟨_,rfl⟩
 rw[htl]
 unfold defT defA
 refine .step (P2:=PD ⟨[defW 16456 nm true],[],[],xtOf 16456 nm,16456,[],printS n 10++32::59::32::nm,20000-3- (nm.length+2),tl⟩ ⟨[],nm,[],16456,0⟩) ?_ ?_
 ·have h1:=round_colon (a:=⟨[],[],[],16456,0,[],58::32:: (nm++32:: (printS n 10++32::59::32::nm)),20000,tl⟩) (inl:=false) (v:=276) (b:=true) h0 (by rw[a1];simp) (by simp only[a2,a3,b3];simp;omega) (by unfold NoWd;rfl) (by simp only[a1];decide +kernel) (by decide +kernel) (by simp only[a2,b1];exact hn) (by simp only[a2,b1];omega)
  simp only[a2,a3,b1,b2,b3]at h1
  exact h1
 refine .step (P2:=PD ⟨[defW 16456 nm true],[],[],xtOf 16456 nm+16,16456,[],59::32::nm,20000-3- (nm.length+2) - ((printS n 10).length+2),tl⟩ ⟨[],nm,[2,n],16456,0⟩) ?_ ?_
 ·have h1:=round_numc (a:=⟨[defW 16456 nm true],[],[],xtOf 16456 nm,16456,[],printS n 10++32::59::32::nm,20000-3- (nm.length+2),tl⟩) (d:=⟨[],nm,[],16456,0⟩) (n:=n) h0 (by simp only[c1];exact p1) (by simp only[c3];omega) (nowd_hid _ rfl _) (by simp only[c1];exact kp_num p0) (by simp only[c1];exact parse_num hv) hv (by show xtOf 16456 nm+16<=19104;omega)
  unfold Oa.paid at h1
  simp only[c2,c3]at h1
  exact h1
 refine .step (P2:=PI ⟨[defW 16456 nm false],[],[],xtOf 16456 nm+24,16456,[(xtOf 16456 nm,[2,n,1])],nm,20000-3- (nm.length+2) - ((printS n 10).length+2) -3,tl⟩) ?_ ?_
 ·have h1:=round_semi (a:=⟨[defW 16456 nm true],[],[],xtOf 16456 nm+16,16456,[],59::32::nm,20000-3- (nm.length+2) - ((printS n 10).length+2),tl⟩) (d:=⟨[],nm,[2,n],16456,0⟩) (inl:=false) (v:=532) (b:=true) h0 (by simp only[d1];simp) (by simp only[d3];simp;omega) (nowd_hid _ rfl _) (by simp only[d1];decide +kernel) (by decide +kernel) (by show xtOf 16456 nm+16+8<=19104;omega)
  unfold Oa.paid at h1
  simp only[d2,d3]at h1
  exact h1
 refine .step (P2:=PI ⟨[defW 16456 nm false],[n],[],xtOf 16456 nm+24,16456,[(xtOf 16456 nm,[2,n,1])],[],20000-3- (nm.length+2) - ((printS n 10).length+2) -3- (nm.length+1) -2,tl⟩) ?_ ?_
 ·have h1:=round_own (a:=⟨[defW 16456 nm false],[],[],xtOf 16456 nm+24,16456,[(xtOf 16456 nm,[2,n,1])],nm,20000-3- (nm.length+2) - ((printS n 10).length+2) -3,tl⟩) (wd:=defW 16456 nm false) (k:=2) (es:=[n]) (out:=[]) h0 (by simp only[e1];exact n1) (by simp only[e3];omega) (by simp only[e1];simp[defW,sameB_refl]) (by show 16448<=xtOf 16456 nm;omega) (by show xtOf 16456 nm<19104;omega) (λs hob=>runs_lit (xt:=xtOf 16456 nm) hob hv (by simp) (List.mem_singleton.2 rfl))
  simp only[e2,e3]at h1
  exact h1
 exact reads_end (a:=⟨[defW 16456 nm false],[n],[],xtOf 16456 nm+24,16456,[(xtOf 16456 nm,[2,n,1])],[],_,tl⟩) h0 nx_nil.1 (by show nxC []<=_;rw[nx_nil.2.2];exact Nat.zero_le _)
def cstW:List UInt8:=[99,111,110,115,116,97,110,116]
def cstT(nm:List UInt8)(m:Int):List UInt8:=printS m 10++32:: (cstW++32:: (nm++32:: (nm++32 :: [])))
def cstA(nm:List UInt8)(n m:Int)(left tl:Nat):Oa:=⟨[defW (xtOf 16456 nm+24) nm false,defW 16456 nm false],[n,m],[],xtOf (xtOf 16456 nm+24) nm+24,xtOf 16456 nm+24,[(xtOf (xtOf 16456 nm+24) nm,[2,m,1]),(xtOf 16456 nm,[2,n,1])],[],left,tl⟩
theorem reads_cst_all{L:List Asr}(hn:Dc.nameB nm=true)(hv:V64 n)(hm:V64 m)(hc:sameB nm cstW=false)(hne:nm≠printS m 10): ∃left,left<=20000∧∀c o,Oc0 c o L->ReadsR c o L 0 (PI (cstA nm n m left (cstT nm m).length)) 3 (PI ⟨[defW 16456 nm false],[n],[],xtOf 16456 nm+24,16456,[(xtOf 16456 nm,[2,n,1])],cstT nm m,20000,(cstT nm m).length⟩):=by
 obtain⟨n1,n2⟩:=name_high hn
 have hnl:=nameB_len hn
 have p0:=print_num m
 have p1:=numLike_ne p0
 have p2:=numLike_high p0
 have p3:=print_size hm
 have hxt:=xtOf_le (p:=16456) hn
 have hxt2:=xtOf_le (p:=xtOf 16456 nm+24) hn
 obtain⟨a1,a2,a3⟩:=word_sp (printS m 10) (cstW++32:: (nm++32:: (nm++32 :: []))) p1 p2
 obtain⟨b1,b2,b3⟩:=word_sp cstW (nm++32:: (nm++32 :: [])) (by decide) (by decide)
 obtain⟨c1,c2,c3⟩:=word_sp nm (nm++32 :: []) n1 n2
 obtain⟨d1,d2,d3⟩:=word_sp nm [] n1 n2
 have hcl:cstW.length=8:=rfl
 have hsn:sameB nm (printS m 10)=false:=by
  cases hs:sameB nm (printS m 10)
  ·rfl
  ·exact absurd (same_num p0 hs) hne
 refine⟨20000- ((printS m 10).length+2) -10- (nm.length+2) - (nm.length+2) -2,by omega,λc o h0=> ?_⟩
 obtain⟨tl,htl⟩: ∃tl,(cstT nm m).length=tl:=⟨_,rfl⟩
 rw[htl]
 unfold cstT cstA
 refine .step (P2:=PI ⟨[defW 16456 nm false],[n,m],[],xtOf 16456 nm+24,16456,[(xtOf 16456 nm,[2,n,1])],cstW++32:: (nm++32:: (nm++32 :: [])),20000- ((printS m 10).length+2),tl⟩) ?_ ?_
 ·have h1:=round_num (a:=⟨[defW 16456 nm false],[n],[],xtOf 16456 nm+24,16456,[(xtOf 16456 nm,[2,n,1])],printS m 10++32:: (cstW++32:: (nm++32:: (nm++32 :: []))),20000,tl⟩) (n:=m) h0 (by simp only[a1];exact p1) (by simp only[a3];omega) (by simp only[a1];unfold NoWd;simp[defW,hsn]) (by simp only[a1];exact kp_num p0) (by simp only[a1];exact parse_num hm) hm (by simp)
  unfold Oa.paid at h1
  simp only[a2,a3]at h1
  exact h1
 refine .step (P2:=PI ⟨[defW (xtOf 16456 nm+24) nm false,defW 16456 nm false],[n],[],xtOf (xtOf 16456 nm+24) nm+24,xtOf 16456 nm+24,[(xtOf (xtOf 16456 nm+24) nm,[2,m,1]),(xtOf 16456 nm,[2,n,1])],nm++32 :: [],20000- ((printS m 10).length+2) -10- (nm.length+2),tl⟩) ?_ ?_
 ·have h1:=round_const (a:=⟨[defW 16456 nm false],[n,m],[],xtOf 16456 nm+24,16456,[(xtOf 16456 nm,[2,n,1])],cstW++32:: (nm++32:: (nm++32 :: [])),20000- ((printS m 10).length+2),tl⟩) (inl:=false) (b:=true) (v:=m) (u:=3604) (ds:=[n]) h0 (by simp only[b1];decide) (by simp only[b2,b3,c3,hcl];omega) (by simp only[b1];unfold NoWd;simp[defW,hc]) (by simp only[b1];decide +kernel) (by decide +kernel) rfl hm (by simp only[b2,c1];exact hn) (by simp only[b2,c1];show xtOf (xtOf 16456 nm+24) nm+24<=19104;omega)
  simp only[b2,b3,c1,c2,c3,hcl]at h1
  exact h1
 refine .step (P2:=PI ⟨[defW (xtOf 16456 nm+24) nm false,defW 16456 nm false],[n,m],[],xtOf (xtOf 16456 nm+24) nm+24,xtOf 16456 nm+24,[(xtOf (xtOf 16456 nm+24) nm,[2,m,1]),(xtOf 16456 nm,[2,n,1])],[],20000- ((printS m 10).length+2) -10- (nm.length+2) - (nm.length+2) -2,tl⟩) ?_ ?_
 ·have h1:=round_own (a:=⟨[defW (xtOf 16456 nm+24) nm false,defW 16456 nm false],[n],[],xtOf (xtOf 16456 nm+24) nm+24,xtOf 16456 nm+24,[(xtOf (xtOf 16456 nm+24) nm,[2,m,1]),(xtOf 16456 nm,[2,n,1])],nm++32 :: [],20000- ((printS m 10).length+2) -10- (nm.length+2),tl⟩) (wd:=defW (xtOf 16456 nm+24) nm false) (k:=2) (es:=[n,m]) (out:=[]) h0 (by simp only[d1];exact n1) (by simp only[d3];omega) (by simp only[d1];simp[defW,sameB_refl]) (by show 16448<=xtOf (xtOf 16456 nm+24) nm;omega) (by show xtOf (xtOf 16456 nm+24) nm<19104;omega) (λs hob=>runs_lit (xt:=xtOf (xtOf 16456 nm+24) nm) hob hm (by simp) (List.mem_cons_self ..))
  simp only[d2,d3]at h1
  exact h1
 exact reads_end (a:=⟨[defW (xtOf 16456 nm+24) nm false,defW 16456 nm false],[n,m],[],xtOf (xtOf 16456 nm+24) nm+24,xtOf 16456 nm+24,[(xtOf (xtOf 16456 nm+24) nm,[2,m,1]),(xtOf 16456 nm,[2,n,1])],[],_,tl⟩) h0 nx_nil.1 (by show nxC []<=_;rw[nx_nil.2.2];exact Nat.zero_le _)
end
section
variable {w W:World}{F:Nat->Prop}{c:Vc}{s:Mt}{L:List Asr}
theorem b_finds{gb:Nat}(hk:OLists c s)(b6:Blk W c.gS 146 (dictC c.gI c.sfr c.sto s.hs s.ls))(b7:Blk W c.gK 146 (dictC c.gI c.kfr c.kto s.hk s.lk))(hI:IRep W c.gI gb s.S)(nm:ByteArray)(hn:nm.size<=140737488355327):
 Calls prog 18 #[c.gS,.string nm] W (FindPost (findW s.S (dS s) nm.data.toList) W)∧Calls prog 18 #[c.gK,.string nm] W (FindPost (findW s.S (dK s) nm.data.toList) W):=by
 have e1: ((dS s).h:Int)=s.hs:=Int.toNat_of_nonneg hk.hs
 have e2: ((dS s).l:Int)=s.ls:=Int.toNat_of_nonneg hk.ls
 have e3: ((dK s).h:Int)=s.hk:=Int.toNat_of_nonneg hk.hk
 have e4: ((dK s).l:Int)=s.lk:=Int.toNat_of_nonneg hk.lk
 rw[<-e1,<-e2]at b6
 rw[<-e3,<-e4]at b7
 exact⟨d_find W b6 hI hk.s8 nm hn,d_find W b7 hI hk.k8 nm hn⟩
theorem Rep3.all{ds rs:List Int}(h:Rep3 s ds rs):stkAll s.S s.pd.fr s.d=ds:=by
 unfold stkAll
 rw[h.pd,h.d]
 apply List.ext_getElem?
 intro i
 by_cases hi:i<ds.length
 ·rw[List.getElem?_map,List.getElem?_range hi]
  obtain⟨v,hv⟩: ∃v,ds[i]? = some v:=⟨ds[i],by simp[hi]⟩
  rw[hv]
  exact congrArg some (h.dv i v hv)
 ·rw[List.getElem?_eq_none (by simp;omega),List.getElem?_eq_none oM]
theorem Oends.lists0{b:Bo}(hc:Oends c b){l:List Wd}{ds:List Int}(h:Om s l ds):OLists c s:=
 ⟨h.h0,h.l0,by rw[h.hk];decide,by rw[h.lk];exact k13_l0,by rw[hc.sfr,hc.sto];exact h.at8S,by rw[hc.kfr,hc.kto];exact h.at8K⟩
theorem Oends.lists{b:Bo}(hc:Oends c b){l:List Wd}{ds:List Int}(h:Om s l ds):OLists (c.plus (OldA w)) s:=
 ⟨h.h0,h.l0,by rw[h.hk];decide,by rw[h.lk];exact k13_l0,by show At8 s.S (dS s) c.sfr c.sto;rw[hc.sfr,hc.sto];exact h.at8S,by show At8 s.S (dK s) c.kfr c.kto;rw[hc.kfr,hc.kto];exact h.at8K⟩
theorem defT_cat(nm:List UInt8)(n:Int): (⟨#[58,32]⟩++ ⟨nm.toArray⟩++ ⟨#[32]⟩++ ⟨(printS n 10).toArray⟩++ ⟨#[32,59,32]⟩++ ⟨nm.toArray⟩:ByteArray)= ⟨(defT nm n).toArray⟩:=by
 apply Caps.ext
 unfold defT
 simp[ByteArray.data_append]
theorem cstT_cat(nm:List UInt8)(m:Int): (⟨(printS m 10).toArray⟩++ ⟨#[32,99,111,110,115,116,97,110,116,32]⟩++ ⟨nm.toArray⟩++ ⟨#[32]⟩++ ⟨nm.toArray⟩++ ⟨#[32]⟩:ByteArray)= ⟨(cstT nm m).toArray⟩:=by
 apply Caps.ext
 unfold cstT cstW
 simp[ByteArray.data_append]
theorem defT_len{nm:List UInt8}{n:Int}(h:Dc.nameB nm=true)(hn:V64 n): (defT nm n).length<=60000:=by
 have h1:=nameB_len h
 have h2:=print_size hn
 unfold defT
 simp
 omega
theorem cstT_len{nm:List UInt8}{n:Int}(h:Dc.nameB nm=true)(hn:V64 n): (cstT nm n).length<=60000:=by
 have h1:=nameB_len h
 have h2:=print_size hn
 unfold cstT cstW
 simp
 omega
theorem def_run{b:Bo}{wo:Value}{nm:List UInt8}{n:Int}(hc:Oends c b)(hP:Pows w)(hB:Bruijn w)(hname:Dc.nameB nm=true)(hn:V64 n)(h:On (OldF w) w (AllA (BlkA b.gB 36 (bothO b)::uL (c.plus (OldA w)) b.gO wo 0 m13)) W):
 Calls prog 13 #[b.gO,(1:Int),.string (⟨#[58,32]⟩++ ⟨nm.toArray⟩++ ⟨#[32]⟩++ ⟨(printS n 10).toArray⟩++ ⟨#[32,59,32]⟩++ ⟨nm.toArray⟩),(20000:Int)] W (λe w'=> ∃s1 left k at1,OB (defA nm n left (defT nm n).length) s1∧e = .returned (.tuple #[(0:Int),.int .i64 k])∧On (OldF w) w (AllA (BlkA b.gB 36 (bothO b)::uL (c.plus (OldA w)) b.gO wo at1 s1)) w'):=by
 rw[defT_cat]
 obtain⟨left,h1,hr⟩: ∃left,left<=20000∧∀c' o,Oc0 c' o (restL c w)->ReadsR c' o (restL c w) 0 (PI (defA nm n left (defT nm n).length)) 4 (PI ⟨[],[],[],16456,0,[],defT nm n,20000,(defT nm n).length⟩):=reads_def_all hname hn
 refine(pair_run hc hP hB h ob_m13 (defT nm n) (defT_len hname hn) 20000 20000 (by decide) _ _ rfl rfl hr).mono ?_
 rintro e w' ⟨s1,ho,he,h3⟩
 exact⟨s1,left,_,_,ho,he,h3⟩
theorem cst_run{b:Bo}{wo:Value}{at_:Int}{nm:List UInt8}{n m:Int}{left0 tl0:Nat}(hc:Oends c b)(hP:Pows w)(hB:Bruijn w)(hname:Dc.nameB nm=true)(hn:V64 n)(hm:V64 m)(hcs:sameB nm cstW=false)(hne:nm≠printS m 10)(ho:OB (defA nm n left0 tl0) s)(h:On (OldF w) w (AllA (BlkA b.gB 36 (bothO b)::uL (c.plus (OldA w)) b.gO wo at_ s)) W):
 Calls prog 13 #[b.gO,(1:Int),.string (⟨(printS m 10).toArray⟩++ ⟨#[32,99,111,110,115,116,97,110,116,32]⟩++ ⟨nm.toArray⟩++ ⟨#[32]⟩++ ⟨nm.toArray⟩++ ⟨#[32]⟩),(20000:Int)] W (λe w'=> ∃s1 left k at1,OB (cstA nm n m left (cstT nm m).length) s1∧e = .returned (.tuple #[(0:Int),.int .i64 k])∧On (OldF w) w (AllA (BlkA b.gB 36 (bothO b)::uL (c.plus (OldA w)) b.gO wo at1 s1)) w'):=by
 rw[cstT_cat]
 obtain⟨left,h1,hr⟩:=reads_cst_all (L:=restL c w) hname hn hm hcs hne
 refine(pair_run hc hP hB h ho (cstT nm m) (cstT_len hname hm) 20000 20000 (by decide) _ _ rfl rfl hr).mono ?_
 rintro e w' ⟨s1,ho,he,h3⟩
 exact⟨s1,left,_,_,ho,he,h3⟩
end
theorem def_25{w W:World}{nm:List UInt8}{n m:Int}{c:Vc}{b:Bo}{wo:Value}{at2:Int}{s2:Mt}{left2 tl2:Nat}(hc:Oends c b)(ho:OB (cstA nm n m left2 tl2) s2)(h3:On (OldF w) w (AllA (BlkA b.gB 36 (bothO b)::uL (c.plus (OldA w)) b.gO wo at2 s2)) W){u3 u4 u5 u10 u11 u12 u13 u14 u15 u16 u17 u18 u19 u20 u21 u22 u24 u25 u26 u27 u28 u29 u30 u31 u32 u33 u34 u35 u36 u37 u38 u39 u40 u41 u42 u43 u44 u45 u46 u47 u48 u49 u50 u51 u52 u53 u54 u55 u56 u57 u58 u59 u60 u61 u62 u63 u64 u65 u66 u67 u68 u69 u70 u71 u72 u73 u74 u75 u76 u77 u78 u79 u80 u81 u82 u83 u84 u85 u86 u87 u88 u89 u90 u91 u92 u93 u94 u95 u96 u97 u98 u99 u100 u101 u102 u103 u104 u105 u106 u107 u108 u109 u110 u111 u112 u113 u114 u115 u116 u117 u118 u119 u120 u121 u122 u123 u124 u125 u126 u127 u128 u129 u130 u131 u132 u133 u134 u135 u136 u137 u138 u139 u140 u141 u142 u143 u144 u145 u146 u147 u148 u149 u150 u151 u152 u153 u154 u155 u156 u157 u158 u159 u160 u161 u162 u163 u164 u165 u166 u167 u168 u169 u170 u171 u172 u173 u174 u175 u176 u177:Value}:Code.wp prog (codeDrop 19 (Tryz.f4.body.getD .skip)) (bodyPost prog Tryz.f4 (Quiet (.bool true) w)) ⟨List.toArray (.string ⟨nm.toArray⟩:: .int .i64 n :: .int .i64 m::u3::u4::u5 :: .bool false :: .bool true :: .bool true :: .pointer b.gB::u10::u11::u12::u13::u14::u15::u16::u17::u18::u19::u20::u21::u22 :: .int .i64 0::u24::u25::u26::u27::u28::u29::u30::u31::u32::u33::u34::u35::u36::u37::u38::u39::u40::u41::u42::u43::u44::u45::u46::u47::u48::u49::u50::u51::u52::u53::u54::u55::u56::u57::u58::u59::u60::u61::u62::u63::u64::u65::u66::u67::u68::u69::u70::u71::u72::u73::u74::u75::u76::u77::u78::u79::u80::u81::u82::u83::u84::u85::u86::u87::u88::u89::u90::u91::u92::u93::u94::u95::u96::u97::u98::u99::u100::u101::u102::u103::u104::u105::u106::u107::u108::u109::u110::u111::u112::u113::u114::u115::u116::u117::u118::u119::u120::u121::u122::u123::u124::u125::u126::u127::u128::u129::u130::u131::u132::u133::u134::u135::u136::u137::u138::u139::u140::u141::u142::u143::u144::u145::u146::u147::u148::u149::u150::u151::u152::u153::u154::u155::u156::u157::u158::u159::u160::u161::u162::u163::u164::u165::u166::u167::u168::u169::u170::u171::u172::u173::u174::u175::u176::u177 :: []),[]⟩ W:=by
 conv=>
  arg 2
  unfold Tryz.f4
  dsimp only[codeDrop,Option.getD]
 have hrep:=ho.om.rep
 have hlen: (cstA nm n m left2 tl2).ds.length=2:=rfl
 have z5:W.cell? (b.gB,5)=some (b.gM:Vl):=(show Blk W b.gB 36 (bothO b)from h3.blkAt 0 rfl).cell 5
 have hda:=x_data (c:=c.plus (OldA w)) (s:=s2) (h3.blkAt 3 rfl)
 obtain⟨gb,hi⟩:=h3.img 4 rfl
 have hcl:=h3.makeV (k_cells (h3.stk 5 rfl) hi hrep.ok.pd (by rw[hrep.d,hlen];decide))
 rw[hrep.all,hrep.d,hlen,show(cstA nm n m left2 tl2).ds = [n,m]from rfl]at hcl
 rw[show(c.plus (OldA w)).gM=b.gM from hc.m]at hda
 replace hda:=hid hda
 replace hcl:=hid hcl
 clear hi h3 hrep
 go_wp2_with fail
 refine hda.out.mono ?_
 rintro e w4 ⟨rfl,rfl⟩
 simp only[]
 go_wp2_with fail
 refine mo hcl.out λw5 h5=>?_
 simp only[]
 have hr:=h5.flat.blkAt 0 rfl
 have y0:w5.cell? (w4.heap.size,0)=some (n:Vl):=hr.cell 0
 have y1:w5.cell? (w4.heap.size,1)=some (m:Vl):=hr.cell 1
 have hb:=hid (pair_old hc h5.tail)
 clear h5 hr hcl hda
 go_wp2
 go_ret
 exact⟨rfl,hb.out⟩
theorem def_22{w W:World}{nm:List UInt8}{n m:Int}{c:Vc}{b:Bo}{wo:Value}{at1:Int}{s1:Mt}{left tl:Nat}(hname:Dc.nameB nm=true)(hn:V64 n)(hm:V64 m)(hc:Oends c b)(hP:Pows w)(hB:Bruijn w)(ho:OB (defA nm n left tl) s1)(h3:On (OldF w) w (AllA (BlkA b.gB 36 (bothO b)::uL (c.plus (OldA w)) b.gO wo at1 s1)) W){u3 u4 u5 u11 u12 u13 u14 u15 u16 u17 u18 u19 u20 u21 u23 u24 u25 u26 u27 u28 u29 u30 u31 u32 u33 u34 u35 u36 u37 u38 u39 u40 u41 u42 u43 u44 u45 u46 u47 u48 u49 u50 u51 u52 u53 u54 u55 u56 u57 u58 u59 u60 u61 u62 u63 u64 u65 u66 u67 u68 u69 u70 u71 u72 u73 u74 u75 u76 u77 u78 u79 u80 u81 u82 u83 u84 u85 u86 u87 u88 u89 u90 u91 u92 u93 u94 u95 u96 u97 u98 u99 u100 u101 u102 u103 u104 u105 u106 u107 u108 u109 u110 u111 u112 u113 u114 u115 u116 u117 u118 u119 u120 u121 u122 u123 u124 u125 u126 u127 u128 u129 u130 u131 u132 u133 u134 u135 u136 u137 u138 u139 u140 u141 u142 u143 u144 u145 u146 u147 u148 u149 u150 u151 u152 u153 u154 u155 u156 u157 u158 u159 u160 u161 u162 u163 u164 u165 u166 u167 u168 u169 u170 u171 u172 u173 u174 u175 u176 u177:Value}:Code.wp prog (codeDrop 17 (Tryz.f4.body.getD .skip)) (bodyPost prog Tryz.f4 (Quiet (.bool true) w)) ⟨List.toArray (.string ⟨nm.toArray⟩:: .int .i64 n :: .int .i64 m::u3::u4::u5 :: .bool false :: .bool true :: .bool true :: .pointer b.gB :: .int .i64 0::u11::u12::u13::u14::u15::u16::u17::u18::u19::u20::u21 :: .bool (sameB nm cstW)::u23::u24::u25::u26::u27::u28::u29::u30::u31::u32::u33::u34::u35::u36::u37::u38::u39::u40::u41::u42::u43::u44::u45::u46::u47::u48::u49::u50::u51::u52::u53::u54::u55::u56::u57::u58::u59::u60::u61::u62::u63::u64::u65::u66::u67::u68::u69::u70::u71::u72::u73::u74::u75::u76::u77::u78::u79::u80::u81::u82::u83::u84::u85::u86::u87::u88::u89::u90::u91::u92::u93::u94::u95::u96::u97::u98::u99::u100::u101::u102::u103::u104::u105::u106::u107::u108::u109::u110::u111::u112::u113::u114::u115::u116::u117::u118::u119::u120::u121::u122::u123::u124::u125::u126::u127::u128::u129::u130::u131::u132::u133::u134::u135::u136::u137::u138::u139::u140::u141::u142::u143::u144::u145::u146::u147::u148::u149::u150::u151::u152::u153::u154::u155::u156::u157::u158::u159::u160::u161::u162::u163::u164::u165::u166::u167::u168::u169::u170::u171::u172::u173::u174::u175::u176::u177 :: []),[]⟩ W:=by
 conv=>
  arg 2
  unfold Tryz.f4
  dsimp only[codeDrop,Option.getD]
 have hpw:Pows W∧Bruijn W:=⟨hP.below (pair_old hc h3),hB.below (pair_old hc h3)⟩
 have hb:=hid (pair_old hc h3)
 have hpr:=hid (print_walk m hm 10 W hpw.1 hpw.2)
 clear hpw
 cases hcs:sameB nm cstW with
 | true=>
   go_wp2
   go_ret
   exact⟨rfl,hb.out⟩
 | false=>
   clear hb
   replace h3:=hid h3
   go_wp2_with fail
   refine mo hpr.out λw4 hk4=>?_
   simp only[]
   have h4:=h3.out.keptNob hk4
   have hb4:=hid (pair_old hc h4)
   clear hk4 h3 hpr
   by_cases hne:nm=printS m 10
   ·replace h4:=hid h4
    have hsb: (nm==printS m 10)=true:=by rw[beq_iff_eq];exact hne
    replace hne:=hid hne
    go_wp2
    go_ret
    exact⟨rfl,hb4.out⟩
   ·have hsb: (nm==printS m 10)=false:=by rw[beq_eq_false_iff_ne];exact hne
    have hpw:Pows w4.drew∧Bruijn w4.drew:=⟨hP.below (pair_old hc h4.drew),hB.below (pair_old hc h4.drew)⟩
    have hpr:=hid (print_walk m hm 10 w4.drew hpw.1 hpw.2)
    have hrun:=hid (λW2 h=>cst_run (W:=W2) (wo:=wo) (at_:=at1) (s:=s1) hc hP hB hname hn hm hcs hne ho h)
    have z6:w4.cell? (b.gB,6)=some (b.gO:Vl):=(show Blk w4 b.gB 36 (bothO b)from h4.blkAt 0 rfl).cell 6
    replace h4:=hid h4
    replace hne:=hid hne
    have hnl2:=nameB_len hname
    have hpl:=print_size hm
    clear hpw
    go_upto_region 24 with fail
    go_cut [23] (λt23 wx=>t23 = .int .i64 0∧∃s2 left2 tl2 at2,OB (cstA nm n m left2 tl2) s2∧On (OldF w) w (AllA (BlkA b.gB 36 (bothO b)::uL (c.plus (OldA w)) b.gO wo at2 s2)) wx)
    case first=>
     go_region_held (λw'=>w'.cell? (b.gB,6)=some (b.gO:Vl)) (go_keep)
      ((first
        | (go_at_call 15;refine mo hpr.out λw5 hk5=>?_;simp only[];have hon5:=h4.out.drew.keptNob hk5;have y6:w5.cell? (b.gB,6)=some (b.gO:Vl):=(show Blk w5 b.gB 36 (bothO b)from hon5.blkAt 0 rfl).cell 6;replace hon5:=hid hon5;clear hk5)
        | (go_at_call 13;refine(hrun.out _ hon5.out).mono ?_;rintro e w6 ⟨s2,left2,k,at2,ho2,rfl,h6⟩;simp only[];have y7:w6.cell? (b.gB,6)=some (b.gO:Vl):=(show Blk w6 b.gB 36 (bothO b)from h6.blkAt 0 rfl).cell 6;replace h6:=hid h6;replace ho2:=hid ho2)))
     all_goals go_wp2_with fail
     all_goals go_meet
     all_goals exact⟨rfl,s2,_,_,at2,ho2.out,h6.out⟩
    case rest=>
     obtain⟨rfl,s2,left2,tl2,at2,ho2,h7⟩:=hcut
     clear h4 hpr hrun z6 hb4 hsb
     apply_assumption
     exact def_25 hc ho2 h7
theorem def_15{w W:World}{nm:List UInt8}{n m:Int}{c:Vc}{b:Bo}{wo:Value}{at1:Int}{s1:Mt}{left tl:Nat}(hname:Dc.nameB nm=true)(hn:V64 n)(hm:V64 m)(hc:Oends c b)(hP:Pows w)(hB:Bruijn w)(ho:OB (defA nm n left tl) s1){c2:Vc}{b2:Bo}{wo2:Value}{R:Option Wd}{q:Bool}(hR: (kp nm).map (λp=>kwWd p.1 p.2)=R)(hq:Option.isSome R=q)(hc2:Oends c2 b2)(h12:On (OldF w) w (AllA (AllA (BlkA b2.gB 36 (bothO b2)::uL c2 b2.gO wo2 0 m13)::BlkA b.gB 36 (bothO b)::uL (c.plus (OldA w)) b.gO wo at1 s1)) W){u3 u4 u5 u11 u12 u13 u14 u15 u18 u19 u20 u21 u22 u23 u24 u25 u26 u27 u28 u29 u30 u31 u32 u33 u34 u35 u36 u37 u38 u39 u40 u41 u42 u43 u44 u45 u46 u47 u48 u49 u50 u51 u52 u53 u54 u55 u56 u57 u58 u59 u60 u61 u62 u63 u64 u65 u66 u67 u68 u69 u70 u71 u72 u73 u74 u75 u76 u77 u78 u79 u80 u81 u82 u83 u84 u85 u86 u87 u88 u89 u90 u91 u92 u93 u94 u95 u96 u97 u98 u99 u100 u101 u102 u103 u104 u105 u106 u107 u108 u109 u110 u111 u112 u113 u114 u115 u116 u117 u118 u119 u120 u121 u122 u123 u124 u125 u126 u127 u128 u129 u130 u131 u132 u133 u134 u135 u136 u137 u138 u139 u140 u141 u142 u143 u144 u145 u146 u147 u148 u149 u150 u151 u152 u153 u154 u155 u156 u157 u158 u159 u160 u161 u162 u163 u164 u165 u166 u167 u168 u169 u170 u171 u172 u173 u174 u175 u176 u177:Value}:Code.wp prog (codeDrop 12 (Tryz.f4.body.getD .skip)) (bodyPost prog Tryz.f4 (Quiet (.bool true) w)) ⟨List.toArray (.string ⟨nm.toArray⟩:: .int .i64 n :: .int .i64 m::u3::u4::u5 :: .bool false :: .bool true :: .bool true :: .pointer b.gB :: .int .i64 0::u11::u12::u13::u14::u15 :: .bool q :: .pointer b2.gB::u18::u19::u20::u21::u22::u23::u24::u25::u26::u27::u28::u29::u30::u31::u32::u33::u34::u35::u36::u37::u38::u39::u40::u41::u42::u43::u44::u45::u46::u47::u48::u49::u50::u51::u52::u53::u54::u55::u56::u57::u58::u59::u60::u61::u62::u63::u64::u65::u66::u67::u68::u69::u70::u71::u72::u73::u74::u75::u76::u77::u78::u79::u80::u81::u82::u83::u84::u85::u86::u87::u88::u89::u90::u91::u92::u93::u94::u95::u96::u97::u98::u99::u100::u101::u102::u103::u104::u105::u106::u107::u108::u109::u110::u111::u112::u113::u114::u115::u116::u117::u118::u119::u120::u121::u122::u123::u124::u125::u126::u127::u128::u129::u130::u131::u132::u133::u134::u135::u136::u137::u138::u139::u140::u141::u142::u143::u144::u145::u146::u147::u148::u149::u150::u151::u152::u153::u154::u155::u156::u157::u158::u159::u160::u161::u162::u163::u164::u165::u166::u167::u168::u169::u170::u171::u172::u173::u174::u175::u176::u177 :: []),[]⟩ W:=by
 conv=>
  arg 2
  unfold Tryz.f4
  dsimp only[codeDrop,Option.getD]
 replace hq:=hid hq
 have hsz: (⟨nm.toArray⟩:ByteArray).size=nm.length:=List.size_toArray
 have hnl:=nameB_len hname
 have hcs:=λW2 (h:On (OldF w) w (AllA (AllA (BlkA b2.gB 36 (bothO b2)::uL c2 b2.gO wo2 0 m13)::BlkA b.gB 36 (bothO b)::uL (c.plus (OldA w)) b.gO wo at1 s1)) W2)=>(by
  have h1:Blk W2 b2.gB 36 (bothO b2):=h.flat.blkAt 0 rfl
  exact⟨h1.cell 1,h1.cell 2⟩:W2.cell? (b2.gB,1)=some (b2.gK:Vl)∧W2.cell? (b2.gB,2)=some (b2.gS:Vl))
 have hfi:=λW2 (h:On (OldF w) w (AllA (AllA (BlkA b2.gB 36 (bothO b2)::uL c2 b2.gO wo2 0 m13)::BlkA b.gB 36 (bothO b)::uL (c.plus (OldA w)) b.gO wo at1 s1)) W2)=>(by
  obtain⟨gb,hI⟩:=h.flat.img 4 rfl
  have h1:=b_finds (c:=c2) (s:=m13) (hc2.lists0 om_m13) (h.flat.blkAt 8 rfl) (h.flat.blkAt 9 rfl) hI ⟨nm.toArray⟩ (by rw[hsz];omega)
  rw[om_m13.findS,show(⟨nm.toArray⟩:ByteArray).data.toList=nm from rfl,hc2.s,hc2.k,om_m13.findK,kWds_find,hR]at h1
  exact h1:Calls prog 18 #[b2.gS,.string ⟨nm.toArray⟩] W2 (FindPost none W2)∧Calls prog 18 #[b2.gK,.string ⟨nm.toArray⟩] W2 (FindPost R W2))
 have⟨z1,z2⟩:=hcs _ h12
 have hf1:=hid (hfi _ h12).1
 replace hcs:=hid hcs
 replace hfi:=hid hfi
 replace h12:=hid h12
 go_upto_region 17 with fail
 go_cut [19] (λt19 wx=>t19 = .bool false∧On (OldF w) w (AllA (AllA (BlkA b2.gB 36 (bothO b2)::uL c2 b2.gO wo2 0 m13)::BlkA b.gB 36 (bothO b)::uL (c.plus (OldA w)) b.gO wo at1 s1)) wx)
 case first=>
  go_wp2_with fail
  refine mo hf1.out λw4 hb4=>?_
  unfold foundV noWd
  simp only[Option.isSome]
  have h4:=hid (h12.out.below hb4)
  clear hb4
  go_wp2_with fail
  go_meet
  exact⟨rfl,h4.out.alloc _⟩
 case rest=>
  obtain⟨rfl,h13⟩:=hcut
  clear h12 hf1 z1 z2
  have⟨z1,z2⟩:=hcs.out _ h13
  have hf2:=hid (hfi.out _ h13).2
  replace h13:=hid h13
  go_upto_region 18 with fail
  go_cut [21] (λt21 wx=>t21 = .bool q∧On (OldF w) w (AllA (AllA (BlkA b2.gB 36 (bothO b2)::uL c2 b2.gO wo2 0 m13)::BlkA b.gB 36 (bothO b)::uL (c.plus (OldA w)) b.gO wo at1 s1)) wx)
  case first=>
   go_wp2_with fail
   refine mo hf2.out λw4 hb4=>?_
   have h4:=hid (h13.out.below hb4)
   clear hb4
   rcases R with _| ⟨nm1,hd1,xt1,im1,hh1,il1⟩
   ·unfold foundV noWd
    simp only[Option.isSome]
    go_wp2_with fail
    go_meet
    exact⟨by rw[<-hq.out];rfl,h4.out.alloc _⟩
   ·unfold foundV Wd.c
    simp only[Option.isSome]
    go_wp2_with fail
    go_meet
    exact⟨by rw[<-hq.out];rfl,h4.out.alloc _⟩
  case rest=>
   obtain⟨rfl,h14⟩:=hcut
   clear h13 hf2 z1 z2 hcs hfi
   have h15:=h14.tail
   replace h14:=hid h14
   have hsm:=λW2=>same_walk ⟨nm.toArray⟩ ⟨#[99,111,110,115,116,97,110,116]⟩ (by rw[hsz];omega) (by decide) W2
   rw[show(⟨nm.toArray⟩:ByteArray).data.toList=nm from rfl,show(⟨#[99,111,110,115,116,97,110,116]⟩:ByteArray).data.toList=cstW from rfl]at hsm
   replace hsm:=hid hsm
   replace h15:=hid h15
   go_upto_region 21 with fail
   go_cut [22] (λt22 wx=>t22 = .bool (sameB nm cstW)∧∃k,wx=wc.drewN k)
   case first=>
    go_wp2_with fail
    refine(hsm.out _).mono ?_
    rintro e w5 ⟨rfl,k,rfl⟩
    simp only[]
    go_wp2_with fail
    go_meet
    exact⟨rfl,k,rfl⟩
   case rest=>
    obtain⟨rfl,k,rfl⟩:=hcut
    have h16:=h15.out.drewN k
    clear h15 h14 hsm hq
    apply_assumption
    exact def_22 hname hn hm hc hP hB ho h16
end Vm
end Go.Proofs.YteaijdgnagkllaaGreatDoor
