/- Chapter 11. Conditions: as written. -/
import Derived.Test.YtilaogbkdbbdkaaGreatDoorOm
import Derived.Test.YtilaogbkdbbdkaaGreatDoorZ40
import Derived.Test.YtilaogbkdbbdkaaGreatDoorZ39
open Go.Proofs.Tryz
namespace Go.Proofs.YtilaogbkdbbdkaaGreatDoor
set_option linter.unusedVariables false
set_option linter.unusedSimpArgs false
set_option maxHeartbeats 8000000
set_option maxRecDepth 100000
open Go.RowKit Go.Lib Go.Deep
namespace Vm
def slX(B:Nat):Sl:=⟨none,0,some ⟨B,0,none⟩,1,none,0,none,0⟩
theorem oP{n0:Nat}{w:World}:nE n0 w Nob none []:=⟨λj v h=>by simp at h,λv h=>by simp at h,by simp⟩
theorem zA{n0:Nat}{w:World}:jQe n0 w Nob none []:=λj x h=>by simp at h
theorem Kt{W:World}{B1 B2 cp:Nat}{cs:List Int}{base:Int}{t1 t2:TypeId}{cells:Array Value}(h1:ln W (some ⟨B1,0,none⟩) cs)(Rd:B1<W.heap.size)(h2:Blk W B2 t2 #[.string lE,.bool false,.bool false,.slice B1 cs.length cp])
 (hv: ∀v∈cs,V64 v) (hl:cs.length<=9223372036854775807) (hb:V64 base):dP W (bJ cs [] base) (slX B2):=by
 refine⟨zA,?_,oP,oP,by show 0<=_;omega,by show 1<=_;omega,by show V64 0;unfold V64;omega,by show V64 0;unfold V64;omega,hb,by show(⟨#[]⟩:ByteArray).size<=_;decide,by show(⟨#[]⟩:ByteArray).size<=_;decide⟩
 intro j x hx
 rcases j with _|j
 ·have hx': (⟨lE,false,false,cs⟩:Wrd)=x:=by simpa [bJ]using hx
  subst hx'
  exact⟨B2,0,some ⟨B1,0,none⟩,cp,rfl,λh=>h,h2.cell 0,h2.cell 1,h2.cell 2,h2.cell 3,h1,λ_ a ha=>by cases ha;exact⟨λh=>h,Rd⟩,by show lE.size<=_;decide,hv,hl⟩
 ·simp[bJ]at hx
theorem G6{S:Img}(hS:S.Ok)(hL:bH S)(h:Nat)(h1:16472<=h)(h2:h<=16960):At8 S ⟨3,h,16456⟩ 16456 16960:=by
 obtain⟨b2,b3,b4,b5,b6⟩:=hL.dU
 have e1:Dc.fr S ⟨3,h,16456⟩=16456:=by show S.beg 3+8=_;omega
 have e2:Dc.lim S ⟨3,h,16456⟩=16960:=b4
 refine⟨⟨.inr rfl,?_,?_,.inr ⟨?_,?_⟩,?_,?_⟩,hS,e1,e2⟩
 ·rw[e1];show 16456<=h;omega
 ·rw[e2];exact h2
 ·show 16456 % 8=0;rfl
 ·rw[e1,e2];show 16456<=16456∧16456+16<=16960;omega
 ·rw[e2];show 16960 % 8=0∧S.beg 3 % 8=0;omega
 ·rw[e2];show S.beg 3+256<=16960;omega
section
variable {w W:World}{F:Nat->Prop}{L:List Asr}{b:Bc}{l:List Stp}{c:Vc}{s:Mt}{a:Mw}{r:Rc}{x:Rw}
theorem Mg(i:Nat)(h:On F w (aa L) W)(hi:L[i]? = some (lr b l)): ∃p cap,Blk W b.gB 40 (fJ b (.slice p l.length cap)):=by
 obtain⟨F1,v,F2,F3,h1,h2,_⟩:=h.at_ i hi
 obtain⟨F4,F5,h4,_⟩:=h2
 obtain⟨hx,⟨rfl,hn⟩ | ⟨g,cap,cur,rfl,_⟩⟩:=h4.1
 ·exact⟨none,0,by rw[hn];exact h1.1⟩
 ·exact⟨_,cap,h1.1⟩
theorem E6(i:Nat)(h:On F w (aa L) W)(hi:L[i]? = some (lr b l)): ∃p cap,W.cell? (b.gB,0)=some (b.gI:Vl)∧W.cell? (b.gB,1)=some (b.gK:Vl)∧W.cell? (b.gB,2)=some (b.gS:Vl)∧W.cell? (b.gB,3)=some (b.gT:Vl)∧W.cell? (b.gB,4)=some (b.gP:Vl)∧W.cell? (b.gB,5)=some (b.gM:Vl)∧W.cell? (b.gB,6)=some (b.gW:Vl)∧W.cell? (b.gB,7)=some (.slice p l.length cap):=by
 obtain⟨p,cap,hb⟩:=Mg i h hi
 exact⟨p,cap,hb.cell 0,hb.cell 1,hb.cell 2,hb.cell 3,hb.cell 4,hb.cell 5,hb.cell 6,hb.cell 7⟩
theorem yy:fX (cL a b r x) true:= .inr ⟨rfl,b.gB,rfl,λl p w F hl hb=>FB b l p w F hl hb⟩
structure Ends(c:Vc)(b:Bc):Prop where
 m:c.gM=b.gM
 i:c.gI=b.gI
 s:c.gS=b.gS
 k:c.gK=b.gK
 t:c.gT=b.gT
 p:c.gP=b.gP
 sfr:c.sfr=16456
 sto:c.sto=16960
 tl:c.tl=lr b
 tell:fX c true
theorem nB:Ends (cL a b r x) b:=⟨rfl,rfl,rfl,rfl,rfl,rfl,rfl,rfl,rfl,yy⟩
theorem jQg(he:Ends c b)(h:On F w (aa (mL c s)) W): ∃p cap,W.cell? (b.gB,0)=some (b.gI:Vl)∧W.cell? (b.gB,1)=some (b.gK:Vl)∧W.cell? (b.gB,2)=some (b.gS:Vl)∧W.cell? (b.gB,3)=some (b.gT:Vl)∧W.cell? (b.gB,4)=some (b.gP:Vl)∧W.cell? (b.gB,5)=some (b.gM:Vl)∧W.cell? (b.gB,6)=some (b.gW:Vl)∧W.cell? (b.gB,7)=some (.slice p s.seen.length cap):=
 E6 7 h (by show some (c.tl s.seen)=_;rw[he.tl])
theorem DV(he:Ends c b)(h:On F w (aa (mL c s)) W){cs ds rs:List Int}(hr:Rep s 16472 cs ds rs)(hh:gQ s.S)(hx:s.ls=16456)(hhs: ∃n:Nat,s.hs=n∧16472<=n∧n<=16960):
 Calls prog 9 #[b.gS,.string ⟨#[120]⟩] W (Quiet (.tuple #[.agg #[.string ⟨#[120]⟩,(16456:Int),(16472:Int),.bool false,.bool false,.bool false],.bool true]) W):=by
 obtain⟨n,hn,h1,h2⟩:=hhs
 have hd:Blk W c.gS 123 (cm c.gI c.sfr c.sto s.hs s.ls):=h.ab 5 rfl
 rw[he.s,he.sfr,he.sto,hn,hx]at hd
 obtain⟨gb,hi⟩:=h.img 1 rfl
 have hf:=rW (D:=⟨3,n,16456⟩) W hd hi (G6 hr.img hr.lay n h1 h2) lE (by decide)
 rw[Pa (D:=⟨3,n,16456⟩) hr.img hr.lay hh rfl rfl]at hf
 exact hf
end
theorem wJ(cs data:List Int)(base:Int)(hc:16472+8*cs.length<=16960): (bJ cs data base).mt.ls=16456∧∃n:Nat,(bJ cs data base).mt.hs=n∧16472<=n∧n<=16960:=by
 have h1: (bJ cs data base).mt.ls= ((bJ cs data base).t1.2.l:Int):=rfl
 have h2: (bJ cs data base).mt.hs= ((bJ cs data base).t1.2.h:Int):=rfl
 rw[h1,h2,ve cs data base hc]
 exact⟨rfl,16472+8*cs.length,rfl,by omega,hc⟩
theorem uP: ∀v∈cq,V64 v:=by
 intro v hv
 simp only[cq,List.mem_cons,List.mem_nil_iff,or_false]at hv
 unfold V64
 omega
theorem Kf{B:Asr}{e:Ending}{s:Setup}(h:mu s e B): ∃(c:Vc) (b:Bc),e = .returned (.pointer b.gB)∧B=aa (mL c s.mt)∧Ends c b:=by
 obtain⟨a,b,r,hW,rfl,rfl⟩:=h
 exact⟨_,b,rfl,rfl,nB⟩
theorem On.NE{w w1 w2:World}{A:Asr}(hb:Below w.heap.size w w1)(h:On Nob w1 A w2):On Nob w A w2:=by
 obtain⟨F',ha,hk,hF⟩:=h
 exact⟨F',ha,(⟨hb.os,hb.tape,hb.output,hb.size,λk hk _=>hb.block k hk⟩:Kept Nob w w1).trans' hk (λ_ h=>h.elim),λk h=>(hF k h).imp id (λh=>Nat.le_trans hb.size h)⟩
theorem Dy{W:World}{cs:List Int}{base:Int}{B1 B2 cp:Nat}{t1 t2:TypeId}(hv: ∀v∈cs,V64 v)(hl:cs.length<=9223372036854775807)(hb:V64 base)(h1:Blk W B1 t1 (ag cs))(h2:Blk W B2 t2 #[.string lE,.bool false,.bool false,.slice B1 cs.length cp]):dP W (bJ cs [] base) (slX B2):=
 Kt (t1:=t1) (t2:=t2) (cells:=ag cs) (λk v hk=>by
  refine⟨_,rfl,?_⟩
  have e2: ((⟨B1,0,none⟩:Addr).add k)= ⟨B1,k,none⟩:=by simp[Addr.add];intro h;exact h.symm
  rw[e2,h1.cell k]
  simp[ag,hk]) h1.lt h2 hv hl hb
section
variable {w w':World}{F:Nat->Prop}{c:Vc}{b:Bc}{s:Mt}{L:List Asr}
theorem uF(he:Ends c b)(h:On F w (aa (mL c s)) w'):Calls prog 13 #[b.gM] w' (ax c.gD w'):=by
 rw[<-he.m]
 exact Ns (h.ab 0 rfl)
theorem xN(he:Ends c b)(h:On F w (aa (mL c s)) w'):Calls prog 15 #[b.gM] w' (ax c.gR w'):=by
 rw[<-he.m]
 exact G9 (h.ab 0 rfl)
theorem Aw(h:On F w (aa (mL c s)) w'):Calls prog 16 #[c.gD] w' (ax (s.d:Int) w'):=dG (h.stk 2 rfl)
theorem zD(h:On F w (aa (mL c s)) w'):Calls prog 16 #[c.gR] w' (ax (s.r:Int) w'):=dG (h.stk 3 rfl)
theorem uA(h:On F w (aa (mL c s)) w')(hs:s.Ok)(h0:0<s.d):Calls prog 14 #[c.gD,(0:Int)] w' (Quiet (.tuple #[(s.top 0),(0:Int)]) w'):=by
 obtain⟨gb,hi⟩:=h.img 1 rfl
 have h1:=oD (h.stk 2 rfl) hi hs.pd hs.dle 0
 unfold qb at h1
 have h2:hasB s.d 0=true:=by unfold hasB;simp;omega
 rw[h2]at h1
 exact h1
end
theorem Fx{w W:World}{s:Setup}{m:Sl}(hb:Below w.heap.size w W)(hs:dP W s m):Calls prog 7 #[.agg (ap s m)] W (λe w'=> ∃(c:Vc) (b:Bc),e = .returned (.pointer b.gB)∧Ends c b∧On Nob w (aa (mL c s.mt)) w'):=by
 refine(Hm hs).mono ?_
 rintro e w1 ⟨B,hMB,so⟩
 obtain⟨c,b,rfl,rfl,he⟩:=Kf hMB
 exact⟨c,b,rfl,he,On.NE hb so⟩
theorem Pm(s:Mt):s.top 0=ar s 1 0:=by
 unfold ar Mt.args
 rfl
theorem BS(w:World):Calls prog 5 #[] w (Quiet (.bool true) w):=by
 obtain⟨RO,ha4,haU,ZE⟩:=BD cq [] 10 (by decide) uP (by simp) (λv h=>by cases h)
 obtain⟨hls,hhs⟩:=wJ cq [] 10 (by decide)
 obtain⟨q,hq,hqf,hql,hqr,hqn⟩:=Fs RO ZE
 have Re:=((On.refl (A:=aa []) (F:=Nob) (w:=w) (λ_ h=>h)).box (ag cq) 3).box #[.string lE,.bool false,.bool false,.slice w.heap.size cq.length 5] 29
 simp only[World.size_alloc]at Re
 have hbD:=Fx (s:=bJ cq [] 10) (m:=slX (w.heap.size+1)) Re.dY (Dy (cs:=cq) (base:=10) (B1:=w.heap.size) (B2:=w.heap.size+1) (cp:=5) uP (by decide) (by unfold V64;omega) (Re.ab 1 rfl) (Re.ab 0 rfl))
 clear Re
 generalize (bJ cq [] 10).mt=mt at *
 have hlen:q.s.seen.length=4:=by rw[hqn,haU];rfl
 have hf9:=RO.ok
 have haB:=hqr.ok
 have OF:1<=mt.pr.rm-mt.r:=by rw[RO.pr,RO.r];decide
 have Sy:mt.seen.length<=900000000:=by rw[haU];decide
 have ZZ:q.s.top 0=25:=(Pm _).trans (hqr.arv 1 0 25 oM (by simp) rfl)
 have hqd:q.s.d=1:=hqr.d
 have Sd:=λ(c:Vc) (W:World) (F':Nat->Prop) (hb: (aa (mL c mt)).holds W F') (ht:fX c true)=>QH hb hf9 (by rw[ZE];exact ht) 1 16472 100 (by unfold V64;omega) none OF Sy q hq
 rw[hqf,hql]at Sd
 have e4:clip 100-96=4:=by decide
 rw[e4]at Sd
 replace⟨hbD,Sd,RO,ha4,hls,hhs,haB,ZZ,hqd,hlen⟩:=iJ hbD Sd RO ha4 hls hhs haB ZZ hqd hlen
 clear hq hqf hql hqr hqn haU ZE OF Sy hf9 e4
 go_enter func5,ntmps5
 go_wp2_with fail
 refine hbD.out.mono ?_
 rintro e w1 ⟨c,b,rfl,he,so⟩
 simp only[]
 obtain⟨p,cap,z0,z1,z2,z3,z4,z5,z6,z7⟩:=jQg he so
 have V1:=DV he so RO.out ha4.out hls.out hhs.out
 replace⟨V1,so⟩:=iB V1 so
 go_wp2_with fail
 refine mo V1.out λw2 hB=>?_
 simp only[]
 have BY:=so.out.below hB
 obtain⟨p2,VY,y0,y1,y2,y3,y4,y5,y6,y7⟩:=jQg he BY
 have Rr:=BY.box #[.string ⟨#[120]⟩,(16456:Int),(16472:Int),.bool false,.bool false,.bool false] 43
 have k5: (w2.alloc (.cells #[.string ⟨#[120]⟩,(16456:Int),(16472:Int),.bool false,.bool false,.bool false] 43)).cell? (b.gB,5)=some (b.gM:Vl):=(jQg he Rr.tail).choose_spec.choose_spec.2.2.2.2.2.1
 have k2: (w2.alloc (.cells #[.string ⟨#[120]⟩,(16456:Int),(16472:Int),.bool false,.bool false,.bool false] 43)).cell? (w2.heap.size,2)=some (.int .i64 16472):=(Rr.ab 0 rfl).cell 2
 have hrn:=Rr.drew.aM (e0:= .returned (.tuple #[(0:Int),(4:Int)])) (L':=mL c q.s) λF' hb _ _=>Sd.out c _ F' hb he.tell
 rw[he.m]at hrn
 replace⟨hrn,Rr,BY⟩:=iC hrn Rr BY
 clear V1 z0 z1 z2 z3 z4 z5 z6 z7 so hB Sd
 clear y0 y1 y2 y3 y4 y5 y6 y7
 go_wp2_with fail
 go_region_held (λw'=>w'.cell? (b.gB,5)=some (b.gM:Vl)∧w'.cell? (w2.heap.size,2)=some (.int .i64 16472)) (go_keep)
  ((go_at_call 10;refine mo hrn.out λw3 h=>?_;simp only[];have n2:w3.cell? (w2.heap.size,2)=some (.int .i64 16472):=(h.ab 0 rfl).cell 2;have h6:=h.tail;obtain⟨p3,cap3,x0,x1,x2,x3,x4,x5,x6,x7⟩:=jQg he h6;clear h;replace h6:=hid h6))
 clear k5 k2 hrn Rr BY
 have hax:=hid (λW (h:On Nob w (aa (mL c q.s)) W)=>uF he h)
 have R2:=hid (λW (h:On Nob w (aa (mL c q.s)) W)=>Aw h)
 have WX:=λW (h:On Nob w (aa (mL c q.s)) W)=>uA h haB.out (by rw[hqd.out];decide)
 rw[ZZ.out]at WX
 rw[hqd.out]at R2
 replace WX:=hid WX
 rw[hlen.out]at x7
 go_wp2_with fail
 refine(hax.out _ h6.out).mono ?_
 rintro e w4 ⟨rfl,rfl⟩
 simp only[]
 go_wp2_with fail
 refine mo (WX.out _ h6.out) λw5 hB=>?_
 simp only[]
 have h7:=h6.out.below hB
 obtain⟨p4,cap4,v0,v1,v2,v3,v4,v5,v6,v7⟩:=jQg he h7
 rw[hlen.out]at v7
 clear x0 x1 x2 x3 x4 x5 x6 x7 h6 hB n2
 replace h7:=hid h7
 go_wp2_with fail
 refine(hax.out _ h7.out).mono ?_
 rintro e w6 ⟨rfl,rfl⟩
 simp only[]
 go_wp2_with fail
 refine(R2.out _ h7.out).mono ?_
 rintro e w7 ⟨rfl,rfl⟩
 simp only[]
 go_wp2
 go_ret
 exact⟨rfl,h7.out.dY⟩
section
variable {w w':World}{F:Nat->Prop}{c:Vc}{g ba:Nat}{x:Rn}{src:Value}{s:Mt}
theorem Dcs.Nl(hp:Dcs c src s)(L:List Asr){W:World}(h:On F w (aa (L++vL c g x src s)) W)(nm:ByteArray)(hn:nm.size<=140737488355327):
 Calls prog 9 #[c.gS,.string nm] W (ef (gV s.S (dS s) nm.data.toList) W):=by
 have ZT: ∀j,(L++vL c g x src s)[L.length+j]? = (vL c g x src s)[j]? :=λj=>by rw[List.getElem?_append_right oM];congr 1;omega
 have b6:=h.ab (L.length+6) (ZT 6)
 obtain⟨gb,hI⟩:=h.img (L.length+2) (ZT 2)
 have b6':Blk W c.gS 123 (cm c.gI c.sfr c.sto ((dS s).h:Int) ((dS s).l:Int)):=by
  have e1: ((dS s).h:Int)=s.hs:=Int.toNat_of_nonneg hp.h
  have e2: ((dS s).l:Int)=s.ls:=Int.toNat_of_nonneg hp.l
  rw[e1,e2]
  exact b6
 exact rW W b6' hI hp.at8 nm hn
theorem K7(hb: (aa (ae ba 3 (ag (s.args 3))::vL c g x src s)).holds w F)(h: ¬(0<=ar s 3 1∧0<=ar s 3 2)):
 Calls prog 110 #[g,.slice ba 3 3] w (Got (.panicked [flt 19]) (aa (ae ba 3 (ag (s.args 3))::vL c g x src s)) F w):=by
 have so:=On.refl hb
 have a1:w.cell? (ba,1)=some ((ar s 3 1):Vl):=aj (so.ab 0 rfl) oM
 have a2:w.cell? (ba,2)=some ((ar s 3 2):Vl):=aj (so.ab 0 rfl) oM
 replace so:=hid so
 generalize ar s 3 1=Y at *
 generalize ar s 3 2=Z at *
 clear hb
 by_cases hY:0<=Y
 ·have hZ:decide (0<=Z)=false:=decide_eq_false λh2=>h ⟨hY,h2⟩
  have hY2:decide (0<=Y)=true:=decide_eq_true hY
  clear h hY
  go_enter func110,ntmps110
  go_wp2_with fail
  refine(bR _ _).mono ?_
  rintro e w1 ⟨rfl,rfl⟩
  simp only[]
  go_wp2
  exact⟨rfl,rfl,so.out⟩
 ·have hY2:decide (0<=Y)=false:=decide_eq_false hY
  clear h hY
  go_enter func110,ntmps110
  go_wp2_with fail
  refine(bR _ _).mono ?_
  rintro e w1 ⟨rfl,rfl⟩
  simp only[]
  go_wp2
  exact⟨rfl,rfl,so.out⟩
theorem JG(hb: (aa (ae ba 3 (ag (s.args 3))::vL c g x src s)).holds w F)(hx:x.Ok)(h1:0<=ar s 3 1)(h2:0<=ar s 3 2)(hf:cP x s (ar s 3 0) (ar s 3 1)≠0):
 Calls prog 110 #[g,.slice ba 3 3] w (Got (.panicked [flt (cP x s (ar s 3 0) (ar s 3 1))]) (aa (ae ba 3 (ag (s.args 3))::vL c g (x.pay (ar s 3 1)) src s)) F w):=by
 have so:=On.refl hb
 have a0:w.cell? (ba,0)=some ((ar s 3 0):Vl):=aj (so.ab 0 rfl) oM
 have a1:w.cell? (ba,1)=some ((ar s 3 1):Vl):=aj (so.ab 0 rfl) oM
 have a2:w.cell? (ba,2)=some ((ar s 3 2):Vl):=aj (so.ab 0 rfl) oM
 have r0:=so.tail.r0
 have m1:w.cell? (c.gM,1)=some (c.gS:Vl):=(so.ab 2 rfl).cell 1
 have Si: ∀W,On F w (aa (ae ba 3 (ag (s.args 3))::vL c g x src s)) W->Calls prog 156 #[g,(ar s 3 0),(ar s 3 1)] W (Got (gO (cP x s (ar s 3 0) (ar s 3 1)) (s.S.text x.mode (ar s 3 0) (ar s 3 1))) (aa (ae ba 3 (ag (s.args 3))::vL c g (x.pay (ar s 3 1)) src s)) F w):=λW h=>h.aM λF' RJ _ _=>mS RJ hx _ _ (aN s 3 1)
 have R3: ∀(B:Asr) W,On F w (aa (B::ae ba 3 (ag (s.args 3))::vL c g x src s)) W->Calls prog 156 #[g,(ar s 3 0),(ar s 3 1)] W (Got (gO (cP x s (ar s 3 0) (ar s 3 1)) (s.S.text x.mode (ar s 3 0) (ar s 3 1))) (aa (B::ae ba 3 (ag (s.args 3))::vL c g (x.pay (ar s 3 1)) src s)) F w):=λB W h=>h.aM λF' RJ _ _=>(On.refl RJ).aM λF'' SG _ _=>mS SG hx _ _ (aN s 3 1)
 generalize cP x s (ar s 3 0) (ar s 3 1)=f1 at *
 generalize s.S.text x.mode (ar s 3 0) (ar s 3 1)=t at *
 generalize x.pay (ar s 3 1)=x2 at *
 rw[ld hf]at Si R3
 generalize ag (s.args 3)=ac at *
 generalize ar s 3 0=X at *
 generalize ar s 3 1=Y at *
 generalize ar s 3 2=Z at *
 have hY2:decide (0<=Y)=true:=decide_eq_true h1
 have hZ2:decide (0<=Z)=true:=decide_eq_true h2
 have z0:=World.new_ne w _ a0
 have z1:=World.new_ne w _ a1
 have z2:=World.new_ne w _ r0
 have z3:=World.new_ne w _ m1
 replace⟨Si,R3,so,hf⟩:=iD Si R3 so hf
 clear hb hx h1 h2
 go_enter func110,ntmps110
 go_wp2_with fail
 refine(bz _ _).mono ?_
 rintro e w1 ⟨rfl,rfl⟩
 simp only[]
 go_wp2_with fail
 go_region_held (λw'=>w'.cell? (ba,0)=some (X:Vl)∧w'.cell? (ba,1)=some (Y:Vl)∧w'.cell? (g,0)=some (c.gM:Vl)∧w'.cell? (c.gM,1)=some (c.gS:Vl)) (go_keep)
  ((first
    | (go_at_call 156;refine qi (Si.out _ so.out.drew) (λw' h=>⟨rfl,rfl,h⟩) (.string t) ?_;intro hF e w5 he hw;subst he;subst hw;replace hF:=hid hF;simp only[])
    | (go_at_call 156;refine qi (R3.out _ _ (so.out.drew.box eS 43)) (λw' h=>⟨rfl,rfl,h.tail⟩) (.string t) ?_;intro hF e w5 he hw;subst he;subst hw;replace hF:=hid hF;simp only[])
    | (go_at_call 9;refine(Nd hF.out (.tuple #[.agg #[.string ⟨#[]⟩,(0:Int),(0:Int),.bool false,.bool false,.bool false],.bool false])).mono ?_;rintro e w6 ⟨rfl,rfl⟩;simp only[])))
 all_goals exact hF.out.elim
