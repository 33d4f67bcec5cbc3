/- Chapter 4. Conditions: as written. -/
import Derived.Test.YtilaogbkdbbdkaaGreatDoorOm
import Derived.Test.YtilaogbkdbbdkaaGreatDoorZ12
import Derived.Deep.LoopGhost
open Go.Proofs.Tryz
namespace Go.Proofs.YtilaogbkdbbdkaaGreatDoor
set_option linter.unusedVariables false
set_option maxHeartbeats 8000000
set_option maxRecDepth 100000
open Go.RowKit Go.Lib Go.Deep
namespace Vm
def ix(gI:Nat)(p:Pl)(d:Nat):Array Value:=#[gI,(p.fr:Int),(p.rm:Int),(d:Int),p.un,p.ov]
def cS(gI g:Nat)(p:Pl)(d:Nat):Asr:=ae g 112 (ix gI p d)
def Quiet(v:Value)(w:World)(e:Ending)(w':World):Prop:=e = .returned v∧Below w.heap.size w w'
def V64(v:Int):Prop:= -9223372036854775808<=v∧v<=9223372036854775807
theorem On.img{F:Nat->Prop}{w w':World}{L:List Asr}{g:Nat}{S:Img}(i:Nat)(h:On F w (aa L) w')(hA:L[i]? = some (av g S)): ∃gb,b9 w' g gb S:=by
 obtain⟨F',gb,hr,_⟩:=h.at_ i hA
 exact⟨gb,hr⟩
theorem fY{w:World}{F:Nat->Prop}{g:Nat}{S:Img}(hb: (av g S).holds w F)(m a v:Int)(hv:V64 v):Calls prog 62 #[g,m,a,v] w (Got (.returned (S.ay m a true)) (av g (S.setCell m a v)) F w):=
 fT hb λw0 L h=>D2 h m a v hv
section
variable {w:World}{F:Nat->Prop}{g gI gb:Nat}{p:Pl}{d:Nat}{S:Img}
theorem dG(hs:Blk w g 112 (ix gI p d)):Calls prog 16 #[g] w (ax (d:Int) w):=by
 have c3:w.cell? (g,3)=some ((d:Int):Vl):=hs.cell 3
 clear hs
 go_enter func16,ntmps16
 go_wp2
 go_ret
 exact⟨rfl,rfl⟩
theorem GN(hs:Blk w g 112 (ix gI p d)):Calls prog 98 #[g] w (ax (p.rm:Int) w):=by
 have c3:w.cell? (g,2)=some ((p.rm:Int):Vl):=hs.cell 2
 clear hs
 go_enter func98,ntmps98
 go_wp2
 go_ret
 exact⟨rfl,rfl⟩
def hasB(d:Nat)(n:Int):Bool:=decide (0<=n) &&decide (n< (d:Int))
theorem G0(hs:Blk w g 112 (ix gI p d))(n:Int):Calls prog 42 #[g,n] w (ax (.bool (hasB d n)) w):=by
 have c3:w.cell? (g,3)=some ((d:Int):Vl):=hs.cell 3
 clear hs
 obtain⟨b,hb⟩: ∃b,hasB d n=b:=⟨_,rfl⟩
 rw[hb]
 by_cases h0:0<=n
 ·by_cases h1:n< (d:Int)
  ·have e:b=true:=by rw[<-hb];simp[hasB,h0,h1]
   subst e
   clear hb
   go_enter func42,ntmps42
   go_wp2
   go_ret
   exact⟨rfl,rfl⟩
  ·have e:b=false:=by rw[<-hb];simp[hasB,h0,h1]
   subst e
   clear hb
   go_enter func42,ntmps42
   go_wp2
   go_ret
   exact⟨rfl,rfl⟩
 ·have e:b=false:=by rw[<-hb];simp[hasB,h0]
  subst e
  clear hb
  go_enter func42,ntmps42
  go_wp2
  go_ret
  exact⟨rfl,rfl⟩
theorem wr8(fr i:Nat)(h1:fr<=143360)(hn:i<=17920):IntKind.i64.wrap ((fr:Int) +IntKind.i64.wrap (8* (i:Int)))= (fr:Int) +8* (i:Int):=by
 rw[IntWalk.i64_in (8* (i:Int)) oM,IntWalk.i64_in _ oM]
theorem P7(hs:Blk w g 112 (ix gI p d))(hi:b9 w gI gb S)(hp:p.Ok)(i:Nat)(hn:i<=17920):
 Calls prog 43 #[g,(i:Int)] w (Quiet (gv S p.fr i) w):=by
 have c0:w.cell? (g,0)=some (gI:Vl):=hs.cell 0
 have c1:w.cell? (g,1)=some ((p.fr:Int):Vl):=hs.cell 1
 have Rd:=hs.lt
 have hc:Calls prog 73 #[gI,(0:Int),((p.fr:Int) +8* (i:Int):Int)] w.drew λe w'=>e = .returned (.tuple #[(gv S p.fr i),(S.ay 0 ((p.fr:Int) +8* (i:Int)) false)])∧Below w.drew.heap.size w.drew w':=
  jT (w:=w.drew) ⟨hi.blk,hi.row,hi.ok⟩ 0 ((p.fr:Int) +8* (i:Int))
 rw[<-wr8 p.fr i hp.fr hn]at hc
 generalize gv S p.fr i=v at *
 generalize S.ay 0 _ false=f at *
 generalize p.fr=fr at *
 replace hc:=hid hc
 clear hs hi hp
 go_enter func43,ntmps43
 go_wp2_with fail
 go_region_held (λw'=>w'.cell? (g,0)=some (gI:Vl)∧w'.cell? (g,1)=some ((fr:Int):Vl)) (go_keep)
  ((go_at_call 73;refine mo hc.out λw1 h=>?_;have m0:=(h.cell (p:=⟨g,0,none⟩) Rd).trans c0;have m1:=(h.cell (p:=⟨g,1,none⟩) Rd).trans c1;replace h:=hid h))
 go_wp2
 go_ret
 exact⟨rfl,(Below.refl _ _).drew.trans h.out⟩
theorem sO(hs:Blk w g 112 (ix gI p d))(hi:b9 w gI gb S)(hp:p.Ok)(hd:d<=17920)(n:Nat)(hn:n<d):
 Calls prog 14 #[g,(n:Int)] w (Quiet (.tuple #[(gv S p.fr (d-1-n)),(0:Int)]) w):=by
 have c3:w.cell? (g,3)=some ((d:Int):Vl):=hs.cell 3
 have hh:=G0 hs (n:Int)
 have e:hasB d (n:Int)=true:=by simp[hasB];omega
 rw[e]at hh
 have hg:=P7 hs hi hp (d-1-n) oM
 rw[show((d-1-n:Nat):Int)= (d:Int) -1- (n:Int)by omega]at hg
 generalize gv S p.fr (d-1-n)=v at *
 clear hs hi e
 replace⟨hh,hg⟩:=iB hh hg
 go_enter func14,ntmps14
 go_wp2_with fail
 refine hh.out.mono ?_
 rintro e w1 ⟨rfl,rfl⟩
 go_wp2_with fail
 refine mo hg.out λw1 h=>?_
 replace h:=hid h
 go_wp2
 go_ret2
 exact⟨rfl,h.out⟩
theorem EA(hs:Blk w g 112 (ix gI p d))(n:Int)(hn:hasB d n=false):
 Calls prog 14 #[g,n] w (Quiet (.tuple #[(0:Int),p.un]) w):=by
 have c4:w.cell? (g,4)=some (p.un:Vl):=hs.cell 4
 have hh:=G0 hs n
 rw[hn]at hh
 clear hs hn
 replace hh:=hid hh
 go_enter func14,ntmps14
 go_wp2_with fail
 refine hh.out.mono ?_
 rintro e w1 ⟨rfl,rfl⟩
 go_wp2_with fail
 go_quiet (fail)
 go_wp2
 go_ret2
 exact⟨rfl,(Kept.refl Nob _).drewN _ |>.sU⟩
def qb(S:Img)(p:Pl)(d:Nat)(n:Int):Value:= .tuple #[(lc S p.fr d n),(if hasB d n then 0 else p.un:Int)]
theorem oD(hs:Blk w g 112 (ix gI p d))(hi:b9 w gI gb S)(hp:p.Ok)(hd:d<=17920)(n:Int):
 Calls prog 14 #[g,n] w (Quiet (qb S p d n) w):=by
 unfold qb lc
 rcases hb:hasB d n with _|_
 ·have h1:=hb
  unfold hasB at h1
  rw[if_neg (by simp at h1;omega)]
  exact EA hs n hb
 ·have h1:=hb
  unfold hasB at h1
  simp at h1
  rw[if_pos oM]
  have h2:=sO hs hi hp hd n.toNat oM
  rw[show((n.toNat:Nat):Int)=n by omega]at h2
  exact h2
theorem On.stk{L:List Asr}{w':World}(i:Nat)(h:On F w (aa L) w')(hA:L[i]? = some (cS gI g p d)):Blk w' g 112 (ix gI p d):=h.ab i hA
theorem J5(hb: (aa [cS gI g p d,av gI S]).holds w F)(hp:p.Ok)(i:Nat)(hi:i<=17920)(v:Int)(hv:V64 v):
 Calls prog 86 #[g,(i:Int),v] w (Got (.returned (.tuple #[])) (aa [cS gI g p d,av gI (fh S p.fr i v)]) F w):=by
 have so:=On.refl hb
 have hs:=so.stk 0 rfl
 have c0:w.cell? (g,0)=some (gI:Vl):=hs.cell 0
 have c1:w.cell? (g,1)=some ((p.fr:Int):Vl):=hs.cell 1
 have hc:=(so.drew).bG 1 rfl (λF' ha=>fY ha 0 ((p.fr:Int) +8* (i:Int)) v hv)
 have hr:fh S p.fr i v=S.setCell 0 ((p.fr:Int) +8* (i:Int)) v:=rfl
 rw[<-hr]at hc
 generalize fh S p.fr i v=S' at *
 generalize S.ay 0 ((p.fr:Int) +8* (i:Int)) true=f at *
 rw[<-wr8 p.fr i hp.fr hi]at hc
 replace hc:=hid hc
 clear hs hp hb so hr hv
 go_enter func86,ntmps86
 go_wp2_with fail
 go_region_held (λw'=>w'.cell? (g,0)=some (gI:Vl)∧w'.cell? (g,1)=some ((p.fr:Int):Vl)) (go_keep)
  ((go_at_call 62;refine mo hc.out λw1 h=>?_;have R1:=h.stk 0 rfl;have m0:w1.cell? (g,0)=some (gI:Vl):=R1.cell 0;have m1:w1.cell? (g,1)=some ((p.fr:Int):Vl):=R1.cell 1;replace h:=hid h))
 go_wp2
 go_end0
 exact⟨rfl,h.out⟩
end
def ln(w:World)(A:Option Addr)(l:List Int):Prop:= ∀j x,l[j]? = some x->∃a,A=some a∧w.cell? (a.add j)=some (.int .i64 x)
def Far(F:Nat->Prop)(A:Option Addr):Prop:= ∀a,A=some a->¬F a.block
theorem On.ints{F:Nat->Prop}{w w':World}{X:Asr}{A:Option Addr}{l:List Int}(h:On F w X w')(hi:ln w A l)(hf:Far F A):ln w' A l:=by
 intro j x hj
 obtain⟨a,rfl,hc⟩:=hi j x hj
 exact⟨a,rfl,h.eJ hc (by unfold Addr.add;split<;>exact hf a rfl)⟩
section
variable {w:World}{F:Nat->Prop}{g gI gb:Nat}{p:Pl}{d:Nat}{S:Img}
theorem tg(bs bv:Nat)(A:Option Addr)(n cap:Nat)(u:FrameMode)(hs:Blk w g 112 (ix gI p d))(hn:n<=100000)(hd:d<=17920)
 (h1:w.cell? (bs,0)=some (g:Vl)) (h2:w.cell? (bv,0)=some (.slice A n cap)):
 CallsD prog 85 #[bs,bv] u w λe u' w'=>u'=u∧e = .returned (.tuple #[])∧w'= (w.setCell (g,3) (.int .i64 ((d:Int) + (n:Int)))).drew:=by
 have c3:w.cell? (g,3)=some ((d:Int):Vl):=hs.cell 3
 have f3:=hs.frozen 3
 clear hs
 go_enter_d func85,ntmps85
 go_region
 all_goals go_wp2
 all_goals go_end0
 all_goals exact⟨rfl,rfl⟩
theorem nW(gI:Nat)(p:Pl)(d:Nat)(n:Int)(m:Nat)(h:n= (m:Int)): (ix gI p d).setIfInBounds 3 (.int .i64 n)=ix gI p m:=by subst h;rfl
theorem tK(hs:Blk w g 112 (ix gI p d))(A:Option Addr)(n cap:Nat)(hd:d<=p.rm)(hp:p.Ok)(hn:n<=100000)(Um:p.rm-d<n):
 Calls prog 60 #[g,.slice A n cap] w (Quiet p.ov w):=by
 have c2:w.cell? (g,2)=some ((p.rm:Int):Vl):=hs.cell 2
 have c3:w.cell? (g,3)=some ((d:Int):Vl):=hs.cell 3
 have c5:w.cell? (g,5)=some (p.ov:Vl):=hs.cell 5
 have Rd:=hs.lt
 have h1:=hp.rm
 have X8:decide ((p.rm:Int) - (d:Int) < (n:Int))=true:=decide_eq_true oM
 have hmf: ∀(fn:Fn) (first cap:Array Value) (w:World),(Instr.makeFunc fn first cap).run prog w = .ok (.func fn first cap) w:=λ_ _ _ _=>rfl
 clear hs hp
 go_enter_defers func60,ntmps60
 go_wp2
 go_quiet (fail)
 go_wp2
 exact⟨_,results_tmp rfl _ _ _,rfl,(((Kept.refl Nob _).alloc _).alloc _).drewN _ |>.sU⟩
theorem ints_at{w:World}{A:Option Addr}{l:List Int}(hi:ln w A l)(j:Nat)(hj:j<l.length): ∃a,A=some a∧w.cell? (a.add j)=some ((l.getD j 0):Vl):=by
 obtain⟨a,h1,h2⟩:=hi j (l.getD j 0) (by rw[List.getD_eq_getElem?_getD,List.getElem?_eq_getElem hj];rfl)
 exact⟨a,h1,h2⟩
theorem Ae(S:Img)(fr d:Nat)(l:List Int)(j:Nat)(hj:j<l.length):fh (aY S fr d (l.take j)) fr (d+j) (l.getD j 0)=aY S fr d (l.take (j+1)):=by
 have e:l.take (j+1)=l.take j ++ [l.getD j 0]:=by
  rw[List.take_succ_eq_append_getElem hj,List.getD_eq_getElem?_getD,List.getElem?_eq_getElem hj]
  rfl
 rw[e,mD,List.length_take,Nat.min_eq_left oM]
theorem ko(hb: (aa [cS gI g p d,av gI S]).holds w F)(hp:p.Ok)(l:List Int)(hl: ∀x∈l,V64 x)(A:Option Addr)(cap:Nat)(hi:ln w A l)(hf:Far F A)(hd:d<=p.rm)(OF:l.length<=p.rm-d):
 Calls prog 60 #[g,.slice A l.length cap] w (Got (.returned (.int .i64 0)) (aa [cS gI g p (d+l.length),av gI (aY S p.fr d l)]) F w):=by
 have so:=On.refl hb
 have hs:=so.stk 0 rfl
 have c2:w.cell? (g,2)=some ((p.rm:Int):Vl):=hs.cell 2
 have c3:w.cell? (g,3)=some ((d:Int):Vl):=hs.cell 3
 have h1:=hp.rm
 have Rd:=hs.lt
 have X8:decide ((p.rm:Int) - (d:Int) < (l.length:Int))=false:=decide_eq_false oM
 have BY:=(so.box #[g] 53).box #[.slice A l.length cap] 23
 have hz: (w.alloc (Obj.cells #[g] 53)).heap.size=w.heap.size+1:=by simp
 rw[hz]at BY
 have hmf: ∀(fn:Fn) (first cap:Array Value) (w:World),(Instr.makeFunc fn first cap).run prog w = .ok (.func fn first cap) w:=λ_ _ _ _=>rfl
 replace⟨so,BY,hi,hf,hl,hp⟩:=iF so BY hi hf hl hp
 clear hs hb hz
 go_enter_defers func60,ntmps60
 go_wp2
 go_quiet (fail)
 go_wp2
 go_loopg [29] l.length (λk t wr=> ∃j:Nat,j+k=l.length∧t = .int .i64 (j:Int)∧On F w (aa [ae (w.heap.size+1) 23 #[.slice A l.length cap],ae w.heap.size 53 #[g],cS gI g p d,av gI (aY S p.fr d (l.take j))]) wr)
 case atStart=>exact⟨0,by omega,rfl,(BY.out).drewN _⟩
 case round=>
  obtain⟨j,hj,rfl,R5⟩:=hrel
  have b0:wr.cell? (w.heap.size,0)=some (g:Vl):=(R5.ab 1 rfl).cell 0
  have b1:wr.cell? ⟨w.heap.size+1,0,none⟩=some (.slice A l.length cap):=(R5.ab 0 rfl).cell 0
  have m3:wr.cell? (g,3)=some ((d:Int):Vl):=(R5.stk 2 rfl).cell 3
  by_cases RQ:j<l.length
  ·obtain⟨a,rfl,hc⟩:=ints_at hi.out j RQ
   have Uw:wr.cell? (a.add j)=some ((l.getD j 0):Vl):=R5.eJ hc (by unfold Addr.add;split<;>exact hf.out a rfl)
   have ON:=R5.cn 2 3 (by decide) rfl rfl (λF' ha=>J5 ha hp.out (d+j) oM (l.getD j 0) (hl.out _ (by rw[List.getD_eq_getElem?_getD,List.getElem?_eq_getElem RQ];exact List.getElem_mem RQ)))
   rw[Ae S p.fr d l j RQ]at ON
   rw[show(((d+j:Nat)):Int)= (d:Int) + (j:Int)by omega]at ON
   generalize l.getD j 0=x at *
   replace⟨ON,R5⟩:=iB ON R5
   clear hc
   go_wp2_with fail
   refine mo ON.out λw1 h=>?_
   replace h:=hid h
   go_wp2
   go_roundg (gk-1)
   case measure=>omega
   case rel=>exact⟨j+1,by omega,by go_num,h.out⟩
  ·have hia:j=l.length:=by omega
   subst hia
   have X6:decide ((l.length:Int) < (l.length:Int))=false:=by simp
   have e1:aY S p.fr d (l.take l.length)=aY S p.fr d l:=by rw[List.take_length]
   rw[e1]at R5
   have Rj:=R5.stk 2 rfl
   have IS:=((R5.setAt 2 rfl 3 (.int .i64 ((d:Int) + (l.length:Int)))).tail).tail
   have hef:=nW gI p d ((d:Int) + (l.length:Int)) (d+l.length) oM
   replace⟨R5,Rj,hef,IS,e1⟩:=iE R5 Rj hef IS e1
   go_wp2
   refine leaves_cons (f:=85) (args:=#[w.heap.size,.pointer (some ⟨w.heap.size+1,0,none⟩)]) (by simp) (by simp[go_sem]) ?_
   refine(tg w.heap.size (w.heap.size+1) A l.length cap .returning Rj.out oM oM b0 b1).mono ?_
   rintro e u' Ut ⟨rfl,rfl,rfl⟩
   refine⟨_,results_tmp rfl _ _ _,rfl,?_⟩
   have h3:=IS.out.drew
   rw[hef.out]at h3
   exact h3
theorem OX(hb: (aa [cS gI g p d,av gI S]).holds w F)(hp:p.Ok)(n:Nat)(hn:n<d)(hd:d<=p.rm)(v:Int)(hv:V64 v):
 Calls prog 235 #[g,(n:Int),v] w (Got (.returned (.int .i64 0)) (aa [cS gI g p d,av gI (fh S p.fr (d-1-n) v)]) F w):=by
 have so:=On.refl hb
 have hs:=so.stk 0 rfl
 have c3:w.cell? (g,3)=some ((d:Int):Vl):=hs.cell 3
 have h1:=hp.rm
 have hh:=G0 hs (n:Int)
 have e:hasB d (n:Int)=true:=by simp[hasB];omega
 rw[e]at hh
 have ON:=J5 hb hp (d-1-n) oM v hv
 rw[show((d-1-n:Nat):Int)= (d:Int) -1- (n:Int)by omega]at ON
 generalize fh S p.fr (d-1-n) v=S' at *
 replace⟨ON,hh⟩:=iB ON hh
 clear hs hb so e hv
 go_enter func235,ntmps235
 go_wp2_with fail
 refine hh.out.mono ?_
 rintro e w1 ⟨rfl,rfl⟩
 go_wp2_with fail
 refine mo ON.out λw2 h=>?_
 replace h:=hid h
 go_wp2
 go_ret
 exact⟨rfl,h.out⟩
theorem Ql(hb: (aa [cS gI g p d,av gI S]).holds w F)(hp:p.Ok)(h0:0<d)(hd:d<=p.rm):
 Calls prog 187 #[g] w (Got (.returned (.tuple #[(gv S p.fr (d-1)),(0:Int)])) (aa [cS gI g p (d-1),av gI S]) F w):=by
 have so:=On.refl hb
 have h1:=hp.rm
 have hs:=so.stk 0 rfl
 obtain⟨gb,hi⟩:=so.img 1 rfl
 have hk:=sO hs hi hp oM 0 h0
 rw[Nat.sub_zero]at hk
 generalize gv S p.fr (d-1)=v at *
 replace⟨hk,so⟩:=iB hk so
 clear hs hb hi
 go_enter func187,ntmps187
 go_wp2_with fail
 refine mo hk.out λw1 h=>?_
 have M0:=so.out.below h
 have c3:w1.cell? (g,3)=some ((d:Int):Vl):=(M0.stk 0 rfl).cell 3
 have f3:w1.frozen? (g,3)=false:=(M0.stk 0 rfl).frozen 3
 have IS:=M0.setAt 0 rfl 3 (.int .i64 ((d:Int) -1))
 rw[nW gI p d ((d:Int) -1) (d-1) oM]at IS
 replace IS:=hid IS
 clear M0 h
 go_wp2
 go_ret2
 exact⟨rfl,IS.out⟩
theorem Jl(hb: (aa [cS gI g p d,av gI S]).holds w F)(hp:p.Ok)(n:Nat)(hn:n<=d)(hd:d<=p.rm):
 Calls prog 139 #[g,(n:Int)] w (Got (.returned (.bool true)) (aa [cS gI g p n,av gI S]) F w):=by
 have so:=On.refl hb
 have hs:=so.stk 0 rfl
 have c2:w.cell? (g,2)=some ((p.rm:Int):Vl):=hs.cell 2
 have c3:w.cell? (g,3)=some ((d:Int):Vl):=hs.cell 3
 have f3:=hs.frozen 3
 have h1:=hp.rm
 have SN:decide ((n:Int) <0)=false:=decide_eq_false oM
 have X8:decide ((p.rm:Int) < (n:Int))=false:=decide_eq_false oM
 have hjm:decide (p.rm<n)=false:=decide_eq_false oM
 have Rd:decide ((d:Int) < (n:Int))=false:=decide_eq_false oM
 have hlt':decide (d<n)=false:=decide_eq_false oM
 have IS:=so.setAt 0 rfl 3 (.int .i64 (n:Int))
 rw[nW gI p d (n:Int) n rfl]at IS
 replace IS:=hid IS
 clear hs hb so
 go_enter func139,ntmps139
 go_wp2
 go_loopg [5] 0 (λk t wr=>wr=w∧t = .int .i64 (d:Int))
 case atStart=>exact⟨rfl,rfl⟩
 case round=>
  obtain⟨rfl,rfl⟩:=hrel
  go_wp2
  go_ret
  exact⟨rfl,IS.out⟩
end
def ta(S:Img)(fr d n:Nat):Img:=aY S fr d (List.replicate (n-d) 0)
theorem C8{S:Img}{fr d n:Nat}(h:n<=d):ta S fr d n=S:=by
 unfold ta
 rw[Nat.sub_eq_zero_of_le h]
 rfl
section
variable {w:World}{F:Nat->Prop}{g gI d:Nat}{S:Img}{p:Pl}
theorem BL(S:Img)(fr d j:Nat):fh (aY S fr d (List.replicate j 0)) fr (d+j) 0=aY S fr d (List.replicate (j+1) 0):=by
 have h:=mD fr 0 (List.replicate j 0) S d
 rw[iV,List.length_replicate]at h
 exact h.symm
theorem Iv(hb: (aa [cS gI g p d,av gI S]).holds w F)(hp:p.Ok)(n:Nat)(hn:n<=p.rm)(hd:d<=p.rm):
 Calls prog 139 #[g,(n:Int)] w (Got (.returned (.bool true)) (aa [cS gI g p n,av gI (ta S p.fr d n)]) F w):=by
 by_cases hnd:n<=d
 ·rw[C8 hnd]
  exact Jl hb hp n hnd hd
 have so:=On.refl hb
 have hs:=so.stk 0 rfl
 have c2:w.cell? (g,2)=some ((p.rm:Int):Vl):=hs.cell 2
 have c3:w.cell? (g,3)=some ((d:Int):Vl):=hs.cell 3
 have h1:=hp.rm
 have SN:decide ((n:Int) <0)=false:=decide_eq_false oM
 have X8:decide ((p.rm:Int) < (n:Int))=false:=decide_eq_false oM
 have hjm:decide (p.rm<n)=false:=decide_eq_false oM
 replace⟨hp,so⟩:=iB hp so
 clear hs hb
 go_enter func139,ntmps139
 go_wp2
 go_loopg [5] (n-d) (λk t wr=> ∃j:Nat,j+k=n-d∧t = .int .i64 ((d:Int) + (j:Int))∧On F w (aa [cS gI g p d,av gI (aY S p.fr d (List.replicate j 0))]) wr)
 case atStart=>exact⟨0,by omega,by simp,so.out⟩
 case round=>
  obtain⟨j,hj,rfl,R5⟩:=hrel
  have m3:wr.cell? (g,3)=some ((d:Int):Vl):=(R5.stk 0 rfl).cell 3
  have f3:=(R5.stk 0 rfl).frozen 3
  by_cases RQ:j<n-d
  ·have Rd:decide ((d:Int) + (j:Int) < (n:Int))=true:=decide_eq_true oM
   have ON:=R5.cn 0 1 (by decide) rfl rfl (λF' ha=>J5 ha hp.out (d+j) oM 0 (by unfold V64;omega))
   rw[BL]at ON
   rw[show(((d+j:Nat)):Int)= (d:Int) + (j:Int)by omega]at ON
   replace⟨ON,R5⟩:=iB ON R5
   go_wp2_with fail
   refine mo ON.out λw1 h=>?_
   simp only[]
   replace h:=hid h
   go_wp2
   go_roundg (gk-1)
   case measure=>omega
   case rel=>exact⟨j+1,by omega,by go_num,h.out⟩
  ·obtain rfl:j=n-d:=by omega
   have Rd:decide ((d:Int) + ((n-d:Nat):Int) < (n:Int))=false:=decide_eq_false oM
   have IS:=R5.setAt 0 rfl 3 (.int .i64 (n:Int))
   rw[nW gI p d (n:Int) n rfl]at IS
   replace⟨IS,R5⟩:=iB IS R5
   go_wp2
   go_ret
   exact⟨rfl,IS.out⟩
end
theorem QP(p:Value)(m a:Int)(w:World)(An:Calls prog 87 #[p,m,a,(1:Int),(1:Int)] w (ax (.tuple #[.slice none 0 0,.bool false]) w)):
 Calls prog 134 #[p,m,a] w (ax (.tuple #[.int .u8 0,(5:Int)]) w):=by
 replace An:=hid An
 go_enter func134,ntmps134
 go_wp2_with fail
 refine An.out.mono ?_
 rintro e w1 ⟨rfl,rfl⟩
 go_wp2
 go_ret2
 exact⟨rfl,rfl⟩
theorem Qm(p:Value)(m:Int)(gb k:Nat)(b:Int)(w:World)(An:Calls prog 87 #[p,m,(k:Int),(1:Int),(1:Int)] w (ax (.tuple #[.slice (some ⟨gb,k,none⟩) 1 1,.bool true]) w))
 (hc:w.cell? (gb,k)=some (.int .u8 b)):
 Calls prog 134 #[p,m,(k:Int)] w (ax (.tuple #[.int .u8 b,(0:Int)]) w):=by
 replace An:=hid An
 go_enter func134,ntmps134
 go_wp2_with fail
 refine An.out.mono ?_
 rintro e w1 ⟨rfl,rfl⟩
 go_wp2
 go_ret2
 exact⟨rfl,rfl⟩
theorem QI(p:Value)(m a:Int)(b:Int)(w:World)(An:Calls prog 87 #[p,m,a,(1:Int),(2:Int)] w (ax (.tuple #[.slice none 0 0,.bool false]) w)):
 Calls prog 149 #[p,m,a,.int .u8 b] w (ax (.int .i64 5) w):=by
 replace An:=hid An
 go_enter func149,ntmps149
 go_wp2_with fail
 refine An.out.mono ?_
 rintro e w1 ⟨rfl,rfl⟩
 go_wp2
 go_ret
 exact⟨rfl,rfl⟩
theorem PI(p:Value)(m:Int)(gb k:Nat)(b b0:Int)(w:World)(An:Calls prog 87 #[p,m,(k:Int),(1:Int),(2:Int)] w (ax (.tuple #[.slice (some ⟨gb,k,none⟩) 1 1,.bool true]) w))
 (hc:w.cell? (gb,k)=some (.int .u8 b0)) (hf:w.frozen? (gb,k)=false):
 Calls prog 149 #[p,m,(k:Int),.int .u8 b] w (ax (.int .i64 0) (w.setCell (gb,k) (.int .u8 b))):=by
 replace An:=hid An
 go_enter func149,ntmps149
 go_wp2_with fail
 refine An.out.mono ?_
 rintro e w1 ⟨rfl,rfl⟩
 go_wp2
 go_ret
 exact⟨rfl,rfl⟩
theorem Cf{w:World}{g gb:Nat}{S:Img}(h:b9 w g gb S)(m a:Int):
 Calls prog 134 #[g,m,a] w (ax (.tuple #[.int .u8 ((S.iN m a).toNat:Int),(S.bV m a false)]) w):=by
 rcases fD h m a 1 oM oM false with⟨hk,An⟩ | ⟨hk,k,rfl,hle,An⟩
 ·have e1:S.bV m a false=5:=by unfold Img.bV;simp[hk]
  have e2:S.iN m a=0:=by unfold Img.iN;simp[hk]
  rw[e1,e2]
  exact QP _ m a w An
 ·have e1:S.bV m (k:Int) false=0:=by unfold Img.bV;simp[hk]
  have e2:S.iN m (k:Int)=S.b.getD k 0:=by unfold Img.iN;simp[hk]
  rw[e1,e2]
  exact Qm _ m gb k _ w An (h.byte k oM)
theorem qC(b:List UInt8)(k:Nat)(c:UInt8)(h:k<b.length): ((ah b).toArray).setIfInBounds k (.int .u8 (c.toNat:Int))= (ah (cK b k [c])).toArray:=by
 apply Array.ext'
 simp only[Array.toList_setIfInBounds]
 unfold cK ah
 apply List.ext_getElem?
 intro i
 rw[List.getElem?_set]
 simp only[List.length_map,List.getElem?_map,List.getElem?_append,List.length_take]
 have h1:min k b.length=k:=by omega
 rw[h1]
 by_cases e:k=i
 ·subst e
  simp[h]
 ·rw[if_neg e]
  by_cases Rd:i<k
  ·rw[if_pos Rd,List.getElem?_take,if_pos Rd]
  ·rw[if_neg Rd]
   have h2:i-k≠0:=by omega
   simp only[List.length_cons,List.length_nil]
   rw[if_neg oM,List.getElem?_drop]
   congr 2
   omega
theorem jQ{w:World}{F:Nat->Prop}{g:Nat}{S:Img}(hb: (av g S).holds w F)(m a:Int)(b:UInt8):Calls prog 149 #[g,m,a,.int .u8 (b.toNat:Int)] w (Got (.returned (S.bV m a true)) (av g (S.aS m a b)) F w):=by
 obtain⟨gb,hr,Uq⟩:=hb
 rcases fD hr m a 1 oM oM true with⟨hk,An⟩ | ⟨hk,k,rfl,hle,An⟩
 ·have e1:S.bV m a true=5:=by unfold Img.bV;simp[hk]
  have e2:S.aS m a b=S:=by unfold Img.aS;simp[hk]
  rw[e1,e2]
  refine(QI _ m a _ w An).mono ?_
  rintro e w1 ⟨rfl,rfl⟩
  exact⟨rfl,On.refl ⟨gb,hr,Uq⟩⟩
 ·have e1:S.bV m (k:Int) true=0:=by unfold Img.bV;simp[hk]
  have e2:S.aS m (k:Int) b=S.put k [b]:=by unfold Img.aS;simp[hk]
  rw[e1,e2]
  refine(PI _ m gb k _ _ w An (hr.byte k oM) (hr.row.frozen k)).mono ?_
  rintro e w1 ⟨rfl,rfl⟩
  refine⟨rfl,F,⟨gb,⟨hr.blk.far (p:=⟨gb,k,none⟩) hr.ne _,?_,hr.ok.put k _ hle⟩,Uq⟩,(Kept.refl F w).setCell (p:=⟨gb,k,none⟩) (.inl ((Uq gb).2 (.inr rfl))) _,λ_ h=> .inl h⟩
  have h2:=hr.row.bE k (.int .u8 (b.toNat:Int))
  rw[qC S.b k b (by rw[hr.ok.len];omega)]at h2
  exact h2
end Vm
open Go.RowKit Go.Lib
namespace Vm
def wQ(a b:Int):Int:=wrap64 (a.tdiv b)
def kS(a b:Int):Int:=a.tmod b
def xO(a b:Int):Bool:=decide (kS a b≠0) &&decide (bits .xor .i64 (kS a b) b<0)
def mj(a b:Int):Int:=if xO a b then wrap64 (wQ a b-1)else wQ a b
def ml(a b:Int):Int:=if xO a b then wrap64 (kS a b+b)else kS a b
theorem Im{a b:Int}(ha:V64 a)(hb:V64 b):V64 (kS a b):=by
 unfold kS
 have h1:=Int.natAbs_tmod a b
 have h2:a.natAbs % b.natAbs<=a.natAbs:=Nat.mod_le _ _
 have h3:0<=a->0<=a.tmod b:=Int.tmod_nonneg b
 have h4:a<=0->a.tmod b<=0:=λh=>by
  have h5:=Int.tmod_nonneg b (show 0<= -a by omega)
  rw[Int.neg_tmod]at h5
  omega
 generalize a.tmod b=m at *
 generalize a.natAbs % b.natAbs=k at *
 unfold V64 at *
 omega
theorem uZ(n:Int):V64 (wrap64 n):=by unfold V64 wrap64;omega
theorem qN(a b:Int):V64 (mj a b):=by
 unfold mj wQ
 split<;>exact uZ _
theorem rQ{a b:Int}(ha:V64 a)(hb:V64 b):V64 (ml a b):=by
 unfold ml
 split
 ·exact uZ _
 ·exact Im ha hb
def EP(v:Value)(w:World)(e:Ending)(w':World):Prop:=e = .returned v∧∃n,w'=w.drewN n
theorem P4(a b:Int)(w:World):Calls prog 191 #[a,b] w (EP (if b=0 then .tuple #[(0:Int),(0:Int),(7:Int)]else .tuple #[(wQ a b),(kS a b),(0:Int)]) w):=by
 by_cases hb:b=0
 ·subst hb
  rw[if_pos rfl]
  go_enter func191,ntmps191
  go_wp2
  exact bodyPost_ret (v:= .tuple #[(0:Int),(0:Int),(7:Int)]) (by simp[results,results191,go_sem]) rfl ⟨rfl,0,rfl⟩
 ·rw[if_neg hb]
  have e: (b==0)=false:=by simpa using hb
  unfold wQ kS
  go_enter func191,ntmps191
  go_wp2_with fail
  go_region
  all_goals go_wp2
  all_goals exact bodyPost_ret (v:= .tuple #[(wrap64 (a.tdiv b)),(a.tmod b),(0:Int)]) (by simp[results,results191,go_sem]) rfl ⟨rfl,1,rfl⟩
def Pt(a b:Int):Value:=if b=0 then .tuple #[(0:Int),(0:Int),(7:Int)]else .tuple #[(mj a b),(ml a b),(0:Int)]
theorem P1(a b:Int)(w:World):Calls prog 141 #[a,b] w (EP (Pt a b) w):=by
 have hs:=P4 a b w
 unfold Pt
 by_cases hb:b=0
 ·subst hb
  rw[if_pos rfl]at hs⊢
  replace hs:=hid hs
  go_enter func141,ntmps141
  go_wp2_with fail
  refine hs.out.mono ?_
  rintro e w1 ⟨rfl,n,rfl⟩
  simp only[]
  go_wp2
  exact bodyPost_ret (v:= .tuple #[(0:Int),(0:Int),(7:Int)]) (by simp[results,results141,go_sem]) rfl ⟨rfl,n,rfl⟩
 ·rw[if_neg hb]at hs⊢
  unfold mj ml
  replace hs:=hid hs
  clear hb
  by_cases hr:kS a b=0
  ·have eo:xO a b=false:=by unfold xO;simp[hr]
   rw[eo]
   have t1: (kS a b != 0)=false:=by simpa using hr
   generalize wQ a b=Q at *
   generalize kS a b=R at *
   replace hr:=hid hr
   show Calls _ _ _ _ (EP (.tuple #[Q,R,(0:Int)]) w)
   clear eo
   go_enter func141,ntmps141
   go_wp2_with fail
   refine hs.out.mono ?_
   rintro e w1 ⟨rfl,n,rfl⟩
   simp only[]
   go_wp2
   exact bodyPost_ret (v:= .tuple #[Q,R,(0:Int)]) (by simp[results,results141,go_sem]) rfl ⟨rfl,n,rfl⟩
  have t1: (kS a b != 0)=true:=by simpa using hr
  by_cases hx:bits .xor .i64 (kS a b) b<0
  ·have eo:xO a b=true:=by unfold xO;simp[hr,hx]
   rw[eo]
   have t2:decide (bits .xor .i64 (kS a b) b<0)=true:=decide_eq_true hx
   generalize wQ a b=Q at *
   generalize kS a b=R at *
   replace⟨hr,hx⟩:=iB hr hx
   show Calls _ _ _ _ (EP (.tuple #[(wrap64 (Q-1)),(wrap64 (R+b)),(0:Int)]) w)
   clear eo
   go_enter func141,ntmps141
   go_wp2_with fail
   refine hs.out.mono ?_
   rintro e w1 ⟨rfl,n,rfl⟩
   simp only[]
   go_wp2
   exact bodyPost_ret (v:= .tuple #[(wrap64 (Q-1)),(wrap64 (R+b)),(0:Int)]) (by simp[results,results141,go_sem]) rfl ⟨rfl,n,rfl⟩
  ·have eo:xO a b=false:=by unfold xO;simp[hx]
   rw[eo]
   have t2:decide (bits .xor .i64 (kS a b) b<0)=false:=decide_eq_false hx
   generalize wQ a b=Q at *
   generalize kS a b=R at *
   replace⟨hr,hx⟩:=iB hr hx
   show Calls _ _ _ _ (EP (.tuple #[Q,R,(0:Int)]) w)
   clear eo
   go_enter func141,ntmps141
   go_wp2_with fail
   refine hs.out.mono ?_
   rintro e w1 ⟨rfl,n,rfl⟩
   simp only[]
   go_wp2
   exact bodyPost_ret (v:= .tuple #[Q,R,(0:Int)]) (by simp[results,results141,go_sem]) rfl ⟨rfl,n,rfl⟩
end Vm
namespace Img
variable (S:Img)
def fM(m a b n:Int):Int:=if n<0 then 19 else if S.aO m a n.toNat false=true∧S.aO m b n.toNat true=true then 0 else 5
def move(m a b n:Int):Img:=if S.fM m a b n=0 then S.put b.toNat (S.bytes a n.toNat)else S
def gL(m a n:Int):Int:=if n<0 then 19 else if S.aO m a n.toNat true=true then 0 else 5
def fill(m a n:Int)(c:UInt8):Img:=if S.gL m a n=0 then S.put a.toNat (List.replicate n.toNat c)else S
end Img
namespace Vm
theorem vh(w:World)(gb k n:Nat)(b l:List UInt8)(a:Addr)(hn:l.length=n)(hk:k+n<=b.length)(hb:Blk w gb 5 (ah b).toArray)(hl: ∀i v,(ah l)[i]? = some v->w.cell? (a.add i)=some v):
 (Builtin.copy_ #[93,93] 3 #[.slice (some ⟨gb,k,none⟩) n n,.slice (some a) n n]).run prog w = .ok (.int .i64 (n:Int)) (w.setRow gb (ah (cK b k l)).toArray):=by
 have hsz: (prog.info? 5).map (·.size)=some 1:=by kernel_rfl
 have hll: (ah l).length=n:=by simp[ah,hn]
 have Sd:=run_copy_row (P:=prog) w 93 93 3 5 gb k n n a n n (ah b).toArray 5 (ah l) underlying93 hsz hb (by rw[hll];exact(Nat.min_self n).symm) hl (by rw[hll];simpa [ah]using hk) (λx hx=>by
  obtain⟨y,_,rfl⟩:=List.mem_map.1 hx
  rfl)
 rw[Sd,hll]
 have:=pw b l k
 rw[show(ah b).toArray.toList=ah b from rfl,List.append_assoc,<-hn,this]
 rfl
theorem wB(w:World): (Builtin.copy_ #[93,93] 3 #[.slice none 0 0,.slice none 0 0]).run prog w = .ok (.int .i64 0) w:=
 run_copy_none w 93 93 3 5 none none 0 0 0 0 underlying93 kR rfl
theorem Pe(p:Value)(m a b n:Int)(hn:n<0)(w:World):Calls prog 151 #[p,m,a,b,(n:Int)] w (ax (.int .i64 19) w):=by
 have t:decide (n<0)=true:=decide_eq_true hn
 go_enter func151,ntmps151
 go_wp2
 go_ret
 exact⟨rfl,rfl⟩
theorem nJ(p:Value)(m a b:Int)(n:Nat)(hn:n<=9223372036854775807)(w w2:World)(s1 s2:Value)(o1 o2:Bool)(k:Int)
 (h1:Calls prog 87 #[p,m,a,(n:Int),(1:Int)] w (ax (.tuple #[s1,.bool o1]) w))
 (h2:Calls prog 87 #[p,m,b,(n:Int),(2:Int)] w (ax (.tuple #[s2,.bool o2]) w))
 (hc:o1=true->o2=true->(Builtin.copy_ #[93,93] 3 #[s2,s1]).run prog w = .ok (.int .i64 k) w2) (hw: (o1=true∧o2=true)∨w2=w):
 Calls prog 151 #[p,m,a,b,(n:Int)] w (ax (if o1=true∧o2=true then 0 else 5:Int) w2):=by
 have t:decide ((n:Int) <0)=false:=decide_eq_false oM
 replace⟨h1,h2⟩:=iB h1 h2
 rcases o1 with _|_
 ·have e:w2=w:=by rcases hw with h|h;exact absurd h.1 (by decide);exact h
  replace e:=hid e
  clear hc hw
  rw[if_neg (by simp)]
  go_enter func151,ntmps151
  go_wp2_with fail
  refine h1.out.mono ?_
  rintro e1 w1 ⟨rfl,rfl⟩
  simp only[]
  go_wp2_with fail
  refine h2.out.mono ?_
  rintro e1 w1 ⟨rfl,rfl⟩
  simp only[]
  go_wp2
  go_ret
  exact⟨rfl,e.out.symm⟩
 rcases o2 with _|_
 ·have e:w2=w:=by rcases hw with h|h;exact absurd h.2 (by decide);exact h
  replace e:=hid e
  clear hc hw
  rw[if_neg (by simp)]
  go_enter func151,ntmps151
  go_wp2_with fail
  refine h1.out.mono ?_
  rintro e1 w1 ⟨rfl,rfl⟩
  simp only[]
  go_wp2_with fail
  refine h2.out.mono ?_
  rintro e1 w1 ⟨rfl,rfl⟩
  simp only[]
  go_wp2
  go_ret
  exact⟨rfl,e.out.symm⟩
 ·replace hc:=hc rfl rfl
  clear hw
  rw[if_pos ⟨rfl,rfl⟩]
  go_enter func151,ntmps151
  go_wp2_with fail
  refine h1.out.mono ?_
  rintro e1 w1 ⟨rfl,rfl⟩
  simp only[]
  go_wp2_with fail
  refine h2.out.mono ?_
  rintro e1 w1 ⟨rfl,rfl⟩
  simp only[]
  go_wp2
  go_ret
  exact⟨rfl,rfl⟩
section
variable {w:World}{F:Nat->Prop}{g:Nat}{S:Img}
theorem rI(gb:Nat)(hr:b9 w g gb S)(Uq: ∀k,F k↔k=g∨k=gb)(k:Nat)(l:List UInt8)(hl:k+l.length<=S.beg 6):On F w (av g (S.put k l)) (w.setRow gb (ah (cK S.b k l)).toArray):=
 ⟨F,⟨gb,⟨(hr.blk.kept (Kept.setRow (S:=λi=>i=gb) (Kept.refl _ _) (.inl rfl) _) hr.ne),sV hr.row _,hr.ok.put k _ hl⟩,Uq⟩,Kept.setRow (S:=F) (Kept.refl _ _) (.inl ((Uq gb).2 (.inr rfl))) _,λ_ h=> .inl h⟩
theorem Ov(hb: (av g S).holds w F)(m a b n:Int)(hn:n<=9223372036854775807):Calls prog 151 #[g,m,a,b,(n:Int)] w (Got (.returned (S.fM m a b n)) (av g (S.move m a b n)) F w):=by
 obtain⟨gb,hr,Uq⟩:=hb
 by_cases h0:n<0
 ·have e1:S.fM m a b n=19:=by unfold Img.fM;rw[if_pos h0]
  have e2:S.move m a b n=S:=by unfold Img.move;rw[e1];rfl
  rw[e1,e2]
  refine(Pe _ m a b n h0 w).mono ?_
  rintro e w1 ⟨rfl,rfl⟩
  exact⟨rfl,On.refl ⟨gb,hr,Uq⟩⟩
 obtain⟨k,rfl⟩: ∃k:Nat,n= (k:Int):=⟨n.toNat,by omega⟩
 have hF:S.fM m a b k=if S.aO m a k false=true∧S.aO m b k true=true then 0 else 5:=by unfold Img.fM;rw[if_neg h0];rfl
 by_cases hk:k=0
 ·subst hk
  have e1:S.fM m a b ((0:Nat):Int)=0:=by rw[hF];unfold Img.aO;simp
  have e2:S.move m a b ((0:Nat):Int)=S:=by
   unfold Img.move
   rw[if_pos e1]
   show S.put b.toNat ((S.b.drop a.toNat).take 0)=S
   rw[List.take_zero,Img.fK]
  rw[e1,e2]
  have r1:=zJ hr m a 0 oM false
  have r2:=zJ hr m b 0 oM true
  unfold Gs at r1 r2
  rw[if_pos rfl]at r1 r2
  refine(nJ _ m a b 0 oM w w _ _ true true 0 r1 r2 (λ_ _=>wB w) (.inl ⟨rfl,rfl⟩)).mono ?_
  rintro e w1 ⟨rfl,rfl⟩
  exact⟨rfl,On.refl ⟨gb,hr,Uq⟩⟩
 rcases fD hr m a k hk oM false with⟨h1,r1⟩ | ⟨h1,i,rfl,hi,r1⟩
 ·have e1:S.fM m a b k=5:=by rw[hF,h1];rfl
  have e2:S.move m a b k=S:=by unfold Img.move;rw[e1];rfl
  rw[e1,e2]
  rcases fD hr m b k hk oM true with⟨h2,r2⟩ | ⟨h2,j,rfl,hj,r2⟩
  ·refine(nJ _ m a b k oM w w _ _ false false 0 r1 r2 (λh=>by cases h) (.inr rfl)).mono ?_
   rintro e w1 ⟨rfl,rfl⟩
   exact⟨rfl,On.refl ⟨gb,hr,Uq⟩⟩
  ·refine(nJ _ m a j k oM w w _ _ false true 0 r1 r2 (λh=>by cases h) (.inr rfl)).mono ?_
   rintro e w1 ⟨rfl,rfl⟩
   exact⟨rfl,On.refl ⟨gb,hr,Uq⟩⟩
 ·rcases fD hr m b k hk oM true with⟨h2,r2⟩ | ⟨h2,j,rfl,hj,r2⟩
  ·have e1:S.fM m i b k=5:=by rw[hF,h2];simp
   have e2:S.move m i b k=S:=by unfold Img.move;rw[e1];rfl
   rw[e1,e2]
   refine(nJ _ m i b k oM w w _ _ true false 0 r1 r2 (λ_ h=>by cases h) (.inr rfl)).mono ?_
   rintro e w1 ⟨rfl,rfl⟩
   exact⟨rfl,On.refl ⟨gb,hr,Uq⟩⟩
  ·have e1:S.fM m i j k=0:=by rw[hF,h1,h2];rfl
   have e2:S.move m i j k=S.put j (S.bytes i k):=by unfold Img.move;rw[if_pos e1];rfl
   have hl: (S.bytes (i:Int) k).length=k:=pj S hr.ok i k hi
   rw[e1,e2]
   refine(nJ _ m i j k oM w (w.setRow gb (ah (cK S.b j (S.bytes i k))).toArray) _ _ true true k r1 r2 (λ_ _=>vh w gb j k S.b (S.bytes i k) ⟨gb,i,none⟩ hl (by rw[hr.ok.len];exact hj) hr.row (λq v hq=>by
    have Uk:q<k:=by rw[<-hl];simpa [ah]using(List.getElem?_eq_some_iff.1 hq).1
    have h3: ((⟨gb,i,none⟩:Addr).add q)= ⟨gb,i+q,none⟩:=by simp[Addr.add]
    rw[h3,hr.byte (i+q) oM,<-hq]
    unfold ah
    rw[List.getElem?_map,<-mR S i k q Uk,List.getD_eq_getElem?_getD]
    rcases hg: (S.bytes (i:Int) k)[q]? with _|y
    ·rw[List.getElem?_eq_none_iff]at hg;omega
    ·rfl)) (.inl ⟨rfl,rfl⟩)).mono ?_
   rintro e w1 ⟨rfl,rfl⟩
   exact⟨rfl,rI gb hr Uq j _ (by rw[hl];exact hj)⟩
