/- Chapter 11: the word x, as the laws lay it. Conditions: as written. -/
import Derived.Test.YtngdikikclfgjaaGreatDoorZ42
import Derived.Test.YtngdikikclfgjaaGreatDoorZ40
namespace Go.Proofs.YtngdikikclfgjaaGreatDoor
set_option linter.unusedVariables false
set_option linter.unusedSimpArgs false
set_option maxHeartbeats 8000000
set_option maxRecDepth 100000
open Go.RowKit Go.Lib Go.Deep
namespace Vm
def slX(B:Nat):Sl:=⟨none,0,some ⟨B,0,none⟩,1,none,0,none,0⟩
theorem rowIn_nil{n0:Nat}{w:World}:RowIn n0 w Nob none []:=⟨λj v h=>by simp at h,λv h=>by simp at h,by simp⟩
theorem wordsIn_nil{n0:Nat}{w:World}:WordsIn n0 w Nob none []:=λj x h=>by simp at h
theorem setIn_x{W:World}{B1 B2 cp:Nat}{cs:List Int}{base:Int}{t1 t2:TypeId}{cells:Array Value}(h1:Ints W (some ⟨B1,0,none⟩) cs)(hlt:B1<W.heap.size)(h2:Blk W B2 t2 #[.string nameX,.bool false,.bool false,.slice B1 cs.length cp])
 (hv: ∀v∈cs,V64 v) (hl:cs.length<=9223372036854775807) (hb:V64 base):SetIn W (setupX cs [] base) (slX B2):=by
 refine⟨wordsIn_nil,?_,rowIn_nil,rowIn_nil,by show 0<=_;omega,by show 1<=_;omega,by show V64 0;unfold V64;omega,by show V64 0;unfold V64;omega,hb,by show(⟨#[]⟩:ByteArray).size<=_;decide,by show(⟨#[]⟩:ByteArray).size<=_;decide⟩
 intro j x hx
 rcases j with _|j
 ·have hx': (⟨nameX,false,false,cs⟩:Wrd)=x:=by simpa [setupX]using hx
  subst hx'
  exact⟨B2,0,some ⟨B1,0,none⟩,cp,rfl,λh=>h,h2.cell 0,h2.cell 1,h2.cell 2,h2.cell 3,h1,λ_ a ha=>by cases ha;exact⟨λh=>h,hlt⟩,by show nameX.size<=_;decide,hv,hl⟩
 ·simp[setupX]at hx
theorem at8_stud{S:Img}(hS:S.Ok)(hL:Lay0 S)(h:Nat)(h1:16472<=h)(h2:h<=16960):At8 S ⟨3,h,16456⟩ 16456 16960:=by
 obtain⟨b2,b3,b4,b5,b6⟩:=hL.begs
 have e1:Dc.fr S ⟨3,h,16456⟩=16456:=by show S.beg 3+8=_;omega
 have e2:Dc.lim S ⟨3,h,16456⟩=16960:=b4
 refine⟨⟨.inr rfl,?_,?_,.inr ⟨?_,?_⟩,?_,?_⟩,hS,e1,e2⟩
 ·rw[e1];show 16456<=h;omega
 ·rw[e2];exact h2
 ·show 16456 % 8=0;rfl
 ·rw[e1,e2];show 16456<=16456∧16456+16<=16960;omega
 ·rw[e2];show 16960 % 8=0∧S.beg 3 % 8=0;omega
 ·rw[e2];show S.beg 3+256<=16960;omega
section
variable {w W:World}{F:Nat->Prop}{L:List Asr}{b:Bc}{l:List Stp}{c:Vc}{s:Mt}{a:Mw}{r:Rc}{x:Rw}
theorem both_at(i:Nat)(h:On F w (AllA L) W)(hi:L[i]? = some (BothA b l)): ∃p cap,Blk W b.gB 46 (bothC b (.slice p l.length cap)):=by
 obtain⟨F1,v,F2,F3,h1,h2,_⟩:=h.at_ i hi
 obtain⟨F4,F5,h4,_⟩:=h2
 obtain⟨hx,⟨rfl,hn⟩ | ⟨g,cap,cur,rfl,_⟩⟩:=h4.1
 ·exact⟨none,0,by rw[hn];exact h1.1⟩
 ·exact⟨_,cap,h1.1⟩
theorem both_read(i:Nat)(h:On F w (AllA L) W)(hi:L[i]? = some (BothA b l)): ∃p cap,W.cell? (b.gB,0)=some (b.gI:Vl)∧W.cell? (b.gB,1)=some (b.gK:Vl)∧W.cell? (b.gB,2)=some (b.gS:Vl)∧W.cell? (b.gB,3)=some (b.gT:Vl)∧W.cell? (b.gB,4)=some (b.gP:Vl)∧W.cell? (b.gB,5)=some (b.gM:Vl)∧W.cell? (b.gB,6)=some (b.gW:Vl)∧W.cell? (b.gB,7)=some (.slice p l.length cap):=by
 obtain⟨p,cap,hb⟩:=both_at i h hi
 exact⟨p,cap,hb.cell 0,hb.cell 1,hb.cell 2,hb.cell 3,hb.cell 4,hb.cell 5,hb.cell 6,hb.cell 7⟩
theorem end_tell:TellOk (endC a b r x) true:= .inr ⟨rfl,b.gB,rfl,λl p w F hl hb=>both_tell b l p w F hl hb⟩
structure Ends(c:Vc)(b:Bc):Prop where
 m:c.gM=b.gM
 i:c.gI=b.gI
 s:c.gS=b.gS
 k:c.gK=b.gK
 t:c.gT=b.gT
 p:c.gP=b.gP
 sfr:c.sfr=16456
 sto:c.sto=16960
 tl:c.tl=BothA b
 tell:TellOk c true
theorem end_ends:Ends (endC a b r x) b:=⟨rfl,rfl,rfl,rfl,rfl,rfl,rfl,rfl,rfl,end_tell⟩
theorem ends_both(he:Ends c b)(h:On F w (AllA (mL c s)) W): ∃p cap,W.cell? (b.gB,0)=some (b.gI:Vl)∧W.cell? (b.gB,1)=some (b.gK:Vl)∧W.cell? (b.gB,2)=some (b.gS:Vl)∧W.cell? (b.gB,3)=some (b.gT:Vl)∧W.cell? (b.gB,4)=some (b.gP:Vl)∧W.cell? (b.gB,5)=some (b.gM:Vl)∧W.cell? (b.gB,6)=some (b.gW:Vl)∧W.cell? (b.gB,7)=some (.slice p s.seen.length cap):=
 both_read 7 h (by show some (c.tl s.seen)=_;rw[he.tl])
theorem ends_find(he:Ends c b)(h:On F w (AllA (mL c s)) W){cs ds rs:List Int}(hr:Rep s 16472 cs ds rs)(hh:HeadX s.S)(hx:s.ls=16456)(hhs: ∃n:Nat,s.hs=n∧16472<=n∧n<=16960):
 Calls Tryz.prog 8 #[b.gS,.string ⟨#[120]⟩] W (Quiet (.tuple #[.agg #[.string ⟨#[120]⟩,(16456:Int),(16472:Int),.bool false,.bool false,.bool false],.bool true]) W):=by
 obtain⟨n,hn,h1,h2⟩:=hhs
 have hd:Blk W c.gS 102 (dictC c.gI c.sfr c.sto s.hs s.ls):=h.blkAt 5 rfl
 rw[he.s,he.sfr,he.sto,hn,hx]at hd
 obtain⟨gb,hi⟩:=h.img 1 rfl
 have hf:=d_find (D:=⟨3,n,16456⟩) W hd hi (at8_stud hr.img hr.lay n h1 h2) nameX (by decide)
 rw[find_x (D:=⟨3,n,16456⟩) hr.img hr.lay hh rfl rfl]at hf
 exact hf
end
theorem setupX_heads(cs data:List Int)(base:Int)(hc:16472+8*cs.length<=16960): (setupX cs data base).mt.ls=16456∧∃n:Nat,(setupX cs data base).mt.hs=n∧16472<=n∧n<=16960:=by
 have h1: (setupX cs data base).mt.ls= ((setupX cs data base).t1.2.l:Int):=rfl
 have h2: (setupX cs data base).mt.hs= ((setupX cs data base).t1.2.h:Int):=rfl
 rw[h1,h2,setupX_t1 cs data base hc]
 exact⟨rfl,16472+8*cs.length,rfl,by omega,hc⟩
theorem shown_v64: ∀v∈codeShown,V64 v:=by
 intro v hv
 simp only[codeShown,List.mem_cons,List.mem_nil_iff,or_false]at hv
 unfold V64
 omega
theorem made_len{B:Asr}{e:Ending}{s:Setup}(h:MadeB s e B): ∃(c:Vc) (b:Bc),e = .returned (.pointer b.gB)∧B=AllA (mL c s.mt)∧Ends c b:=by
 obtain⟨a,b,r,hW,rfl,rfl⟩:=h
 exact⟨_,b,rfl,rfl,end_ends⟩
theorem On.rebase{w w1 w2:World}{A:Asr}(hb:Below w.heap.size w w1)(h:On Nob w1 A w2):On Nob w A w2:=by
 obtain⟨F',ha,hk,hF⟩:=h
 exact⟨F',ha,(⟨hb.os,hb.tape,hb.output,hb.size,λk hk _=>hb.block k hk⟩:Kept Nob w w1).trans' hk (λ_ h=>h.elim),λk h=>(hF k h).imp id (λh=>Nat.le_trans hb.size h)⟩
theorem setIn_lit{W:World}{cs:List Int}{base:Int}{B1 B2 cp:Nat}{t1 t2:TypeId}(hv: ∀v∈cs,V64 v)(hl:cs.length<=9223372036854775807)(hb:V64 base)(h1:Blk W B1 t1 (intsC cs))(h2:Blk W B2 t2 #[.string nameX,.bool false,.bool false,.slice B1 cs.length cp]):SetIn W (setupX cs [] base) (slX B2):=
 setIn_x (t1:=t1) (t2:=t2) (cells:=intsC cs) (λk v hk=>by
  refine⟨_,rfl,?_⟩
  have e2: ((⟨B1,0,none⟩:Addr).add k)= ⟨B1,k,none⟩:=by simp[Addr.add];intro h;exact h.symm
  rw[e2,h1.cell k]
  simp[intsC,hk]) h1.lt h2 hv hl hb
section
variable {w w':World}{F:Nat->Prop}{c:Vc}{b:Bc}{s:Mt}{L:List Asr}
theorem ends_data(he:Ends c b)(h:On F w (AllA (mL c s)) w'):Calls Tryz.prog 10 #[b.gM] w' (Same c.gD w'):=by
 rw[<-he.m]
 exact x_data (h.blkAt 0 rfl)
theorem ends_depth(h:On F w (AllA (mL c s)) w'):Calls Tryz.prog 11 #[c.gD] w' (Same (s.d:Int) w'):=k_depth (h.stk 2 rfl)
theorem ends_peek(h:On F w (AllA (mL c s)) w')(hs:s.Ok)(h0:0<s.d):Calls Tryz.prog 13 #[c.gD,(0:Int)] w' (Quiet (.tuple #[(s.top 0),(0:Int)]) w'):=by
 obtain⟨gb,hi⟩:=h.img 1 rfl
 have h1:=k_peek (h.stk 2 rfl) hi hs.pd hs.dle 0
 unfold peekV at h1
 have h2:hasB s.d 0=true:=by unfold hasB;simp;omega
 rw[h2]at h1
 exact h1
end
theorem made_ends{w W:World}{s:Setup}{m:Sl}(hb:Below w.heap.size w W)(hs:SetIn W s m):Calls Tryz.prog 5 #[.agg (setupC s m)] W (λe w'=> ∃(c:Vc) (b:Bc),e = .returned (.pointer b.gB)∧Ends c b∧On Nob w (AllA (mL c s.mt)) w'):=by
 refine(b_made hs).mono ?_
 rintro e w1 ⟨B,hMB,hon⟩
 obtain⟨c,b,rfl,rfl,he⟩:=made_len hMB
 exact⟨c,b,rfl,he,On.rebase hb hon⟩
theorem top_ar(s:Mt):s.top 0=ar s 1 0:=by
 unfold ar Mt.args
 rfl
theorem shown_walk(w:World):Calls Tryz.prog 4 #[] w (Quiet (.bool true) w):=by
 obtain⟨hrep,hhead,hseen,htells⟩:=setupX_rep codeShown [] 10 (by decide) shown_v64 (by simp) (λv h=>by cases h)
 obtain⟨hls,hhs⟩:=setupX_heads codeShown [] 10 (by decide)
 obtain⟨q,hq,hqf,hql,hqr,hqn⟩:=shown_run hrep htells
 have hbx:=((On.refl (A:=AllA []) (F:=Nob) (w:=w) (λ_ h=>h)).box (intsC codeShown) 3).box #[.string nameX,.bool false,.bool false,.slice w.heap.size codeShown.length 5] 27
 simp only[World.size_alloc]at hbx
 have hmade:=made_ends (s:=setupX codeShown [] 10) (m:=slX (w.heap.size+1)) hbx.outB (setIn_lit (cs:=codeShown) (base:=10) (B1:=w.heap.size) (B2:=w.heap.size+1) (cp:=5) shown_v64 (by decide) (by unfold V64;omega) (hbx.blkAt 1 rfl) (hbx.blkAt 0 rfl))
 clear hbx
 generalize (setupX codeShown [] 10).mt=mt at *
 have hlen:q.s.seen.length=4:=by rw[hqn,hseen];rfl
 have hsok:=hrep.ok
 have hqok:=hqr.ok
 have hroom:1<=mt.pr.rm-mt.r:=by rw[hrep.pr,hrep.r];decide
 have hsn:mt.seen.length<=900000000:=by rw[hseen];decide
 have htop:q.s.top 0=25:=(top_ar _).trans (hqr.arv 1 0 25 oM (by simp) rfl)
 have hqd:q.s.d=1:=hqr.d
 have hrun:=λ(c:Vc) (W:World) (F':Nat->Prop) (hb: (AllA (mL c mt)).holds W F') (ht:TellOk c true)=>v_run hb hsok (by rw[htells];exact ht) 1 16472 100 (by unfold V64;omega) none hroom hsn q hq
 rw[hqf,hql]at hrun
 have e4:clip 100-96=4:=by decide
 rw[e4]at hrun
 replace hmade:=hid hmade
 replace hrun:=hid hrun
 replace hrep:=hid hrep
 replace hhead:=hid hhead
 replace hls:=hid hls
 replace hhs:=hid hhs
 replace hqok:=hid hqok
 replace htop:=hid htop
 replace hqd:=hid hqd
 replace hlen:=hid hlen
 clear hq hqf hql hqr hqn hseen htells hroom hsn hsok e4
 go_enter Tryz.func4,Tryz.ntmps4
 go_wp2_with fail
 refine hmade.out.mono ?_
 rintro e w1 ⟨c,b,rfl,he,hon⟩
 simp only[]
 obtain⟨p,cap,z0,z1,z2,z3,z4,z5,z6,z7⟩:=ends_both he hon
 have hfind:=ends_find he hon hrep.out hhead.out hls.out hhs.out
 replace hfind:=hid hfind
 replace hon:=hid hon
 go_wp2_with fail
 refine mo hfind.out λw2 hB=>?_
 simp only[]
 have hon2:=hon.out.below hB
 obtain⟨p2,cap2,y0,y1,y2,y3,y4,y5,y6,y7⟩:=ends_both he hon2
 have hbw:=hon2.box #[.string ⟨#[120]⟩,(16456:Int),(16472:Int),.bool false,.bool false,.bool false] 36
 have k5: (w2.alloc (.cells #[.string ⟨#[120]⟩,(16456:Int),(16472:Int),.bool false,.bool false,.bool false] 36)).cell? (b.gB,5)=some (b.gM:Vl):=(ends_both he hbw.tail).choose_spec.choose_spec.2.2.2.2.2.1
 have k2: (w2.alloc (.cells #[.string ⟨#[120]⟩,(16456:Int),(16472:Int),.bool false,.bool false,.bool false] 36)).cell? (w2.heap.size,2)=some (.int .i64 16472):=(hbw.blkAt 0 rfl).cell 2
 have hrn:=hbw.drew.callTail (e0:= .returned (.tuple #[(0:Int),(4:Int)])) (L':=mL c q.s) λF' hb _ _=>hrun.out c _ F' hb he.tell
 rw[he.m]at hrn
 replace hrn:=hid hrn
 replace hbw:=hid hbw
 clear hfind z0 z1 z2 z3 z4 z5 z6 z7 hon hB hrun
 replace hon2:=hid hon2
 clear y0 y1 y2 y3 y4 y5 y6 y7
 go_wp2_with fail
 go_region_held (λw'=>w'.cell? (b.gB,5)=some (b.gM:Vl)∧w'.cell? (w2.heap.size,2)=some (.int .i64 16472)) (go_keep)
  ((go_at_call 12;refine mo hrn.out λw3 h=>?_;simp only[];have n2:w3.cell? (w2.heap.size,2)=some (.int .i64 16472):=(h.blkAt 0 rfl).cell 2;have h6:=h.tail;obtain⟨p3,cap3,x0,x1,x2,x3,x4,x5,x6,x7⟩:=ends_both he h6;clear h;replace h6:=hid h6))
 clear k5 k2 hrn hbw hon2
 have hdat:=hid (λW (h:On Nob w (AllA (mL c q.s)) W)=>ends_data he h)
 have hdep:=hid (λW (h:On Nob w (AllA (mL c q.s)) W)=>ends_depth h)
 have hpk:=λW (h:On Nob w (AllA (mL c q.s)) W)=>ends_peek h hqok.out (by rw[hqd.out];decide)
 rw[htop.out]at hpk
 rw[hqd.out]at hdep
 replace hpk:=hid hpk
 rw[hlen.out]at x7
 go_wp2_with fail
 refine(hdat.out _ h6.out).mono ?_
 rintro e w4 ⟨rfl,rfl⟩
 simp only[]
 go_wp2_with fail
 refine mo (hpk.out _ h6.out) λw5 hB=>?_
 simp only[]
 have h7:=h6.out.below hB
 obtain⟨p4,cap4,v0,v1,v2,v3,v4,v5,v6,v7⟩:=ends_both he h7
 rw[hlen.out]at v7
 clear x0 x1 x2 x3 x4 x5 x6 x7 h6 hB n2
 replace h7:=hid h7
 go_wp2_with fail
 refine(hdat.out _ h7.out).mono ?_
 rintro e w6 ⟨rfl,rfl⟩
 simp only[]
 go_wp2_with fail
 refine(hdep.out _ h7.out).mono ?_
 rintro e w7 ⟨rfl,rfl⟩
 simp only[]
 go_wp2
 go_ret
 exact⟨rfl,h7.out.outB⟩
end Vm
end Go.Proofs.YtngdikikclfgjaaGreatDoor
