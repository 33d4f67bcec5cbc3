/- Chapter 4: the program's stacks in memory. Conditions: as written. -/
import Derived.Test.YtjohhkikoejadaaGreatDoorOm
import Derived.Test.YtjohhkikoejadaaGreatDoorZ02
import Derived.Test.YtjohhkikoejadaaGreatDoorZ03
import Derived.Test.YtjohhkikoejadaaGreatDoorZ07
import Derived.Test.YtjohhkikoejadaaGreatDoorZ12
import Derived.Deep.RegionHeld
import Derived.Deep.LoopGhost
import Derived.Defers
import Derived.IntWalk
import Derived.BigRegion
import Derived.Laws.IdiomCopy
namespace Go.Proofs.YtjohhkikoejadaaGreatDoor
set_option linter.unusedVariables false
set_option maxHeartbeats 8000000
set_option maxRecDepth 100000
open Go.RowKit Go.Lib Go.Deep
namespace Vm
def gv(gI:Nat)(p:Pl)(d:Nat) :Array Value:= #[gI,(p.fr:Int),(p.rm:Int),(d:Int),p.un,p.ov]
def cR(gI g:Nat)(p:Pl)(d:Nat) :Asr:=ae g 111 (gv gI p d)
def Quiet(v:Value)(w:World)(e:Ending)(w':World) :Prop:=e = .returned v∧Below w.heap.size w w'
def V64(v:Int) :Prop:= -9223372036854775808<=v∧v<=9223372036854775807
theorem On.img{F:Nat->Prop}{w w':World}{L:List Asr}{g:Nat}{S:Img}(i:Nat)(h:On F w (aa L) w')(hA:L[i]? = some (au g S)) : ∃gb,bU w' g gb S:=by
 obtain⟨F',gb,hr,_⟩:=h.at_ i hA
 exact⟨gb,hr⟩
theorem fL{w:World}{F:Nat->Prop}{g:Nat}{S:Img}(hb: (au g S).holds w F)(m a v:Int)(hv:V64 v) :Calls Tryz.prog 55 #[g,m,a,v] w (Got (.returned (S.az m a true)) (au g (S.setCell m a v)) F w):=
 fJ hb λw0 L h=>Ds h m a v hv
section
variable {w:World}{F:Nat->Prop}{g gI gb:Nat}{p:Pl}{d:Nat}{S:Img}
theorem eE(hs:Blk w g 111 (gv gI p d)) :Calls Tryz.prog 14 #[g] w (aA (d:Int) w):=by
 have c3:w.cell? (g,3) =some ((d:Int) :Vl):=hs.cell 3
 clear hs
 go_enter Tryz.func14,Tryz.ntmps14
 go_wp2
 go_ret
 exact⟨rfl,rfl⟩
theorem Hl(hs:Blk w g 111 (gv gI p d)) :Calls Tryz.prog 92 #[g] w (aA (p.rm:Int) w):=by
 have c3:w.cell? (g,2) =some ((p.rm:Int) :Vl):=hs.cell 2
 clear hs
 go_enter Tryz.func92,Tryz.ntmps92
 go_wp2
 go_ret
 exact⟨rfl,rfl⟩
def hasB(d:Nat)(n:Int) :Bool:=decide (0<=n) &&decide (n< (d:Int))
theorem Fj(hs:Blk w g 111 (gv gI p d))(n:Int) :Calls Tryz.prog 40 #[g,n] w (aA (.bool (hasB d n)) w):=by
 have c3:w.cell? (g,3) =some ((d:Int) :Vl):=hs.cell 3
 clear hs
 obtain⟨b,hb⟩ : ∃b,hasB d n=b:=⟨_,rfl⟩
 rw[hb]
 by_cases h0:0<=n
 ·by_cases h1:n< (d:Int)
  ·have e:b=true:=by rw[<-hb];simp[hasB,h0,h1]
   subst e
   clear hb
   go_enter Tryz.func40,Tryz.ntmps40
   go_wp2
   go_ret
   exact⟨rfl,rfl⟩
  ·have e:b=false:=by rw[<-hb];simp[hasB,h0,h1]
   subst e
   clear hb
   go_enter Tryz.func40,Tryz.ntmps40
   go_wp2
   go_ret
   exact⟨rfl,rfl⟩
 ·have e:b=false:=by rw[<-hb];simp[hasB,h0]
  subst e
  clear hb
  go_enter Tryz.func40,Tryz.ntmps40
  go_wp2
  go_ret
  exact⟨rfl,rfl⟩
theorem wr8(fr i:Nat)(h1:fr<=143360)(hn:i<=17920) :IntKind.i64.wrap ((fr:Int) +IntKind.i64.wrap (8* (i:Int))) = (fr:Int) +8* (i:Int):=by
 rw[IntWalk.i64_in (8* (i:Int)) oM,IntWalk.i64_in _ oM]
theorem N5(hs:Blk w g 111 (gv gI p d))(hi:bU w gI gb S)(hp:p.Ok)(i:Nat)(hn:i<=17920) :
 Calls Tryz.prog 41 #[g,(i:Int)] w (Quiet (ja S p.fr i) w):=by
 have c0:w.cell? (g,0) =some (gI:Vl):=hs.cell 0
 have c1:w.cell? (g,1) =some ((p.fr:Int) :Vl):=hs.cell 1
 have hlt:=hs.lt
 have hc:Calls Tryz.prog 68 #[gI,(0:Int),((p.fr:Int) +8* (i:Int) :Int)] w.drew λe w'=>e = .returned (.tuple #[(ja S p.fr i),(S.az 0 ((p.fr:Int) +8* (i:Int)) false)])∧Below w.drew.heap.size w.drew w':=
  jE (w:=w.drew) ⟨hi.blk,hi.row,hi.ok⟩ 0 ((p.fr:Int) +8* (i:Int))
 rw[<-wr8 p.fr i hp.fr hn]at hc
 generalize ja S p.fr i=v at *
 generalize S.az 0 _ false=f at *
 generalize p.fr=fr at *
 replace hc:=hid hc
 clear hs hi hp
 go_enter Tryz.func41,Tryz.ntmps41
 go_wp2_with fail
 go_region_held (λw'=>w'.cell? (g,0) =some (gI:Vl)∧w'.cell? (g,1) =some ((fr:Int) :Vl)) (go_keep)
  ((go_at_call 68;refine hc.out.mono ?_;rintro e w1 ⟨rfl,h⟩;have m0:=(h.cell (p:=⟨g,0,none⟩) hlt).trans c0;have m1:=(h.cell (p:=⟨g,1,none⟩) hlt).trans c1;replace h:=hid h))
 go_wp2
 go_ret
 exact⟨rfl,(Below.refl _ _).drew.trans h.out⟩
theorem qM(hs:Blk w g 111 (gv gI p d))(hi:bU w gI gb S)(hp:p.Ok)(hd:d<=17920)(n:Nat)(hn:n<d) :
 Calls Tryz.prog 13 #[g,(n:Int)] w (Quiet (.tuple #[(ja S p.fr (d-1-n)),(0:Int)]) w):=by
 have c3:w.cell? (g,3) =some ((d:Int) :Vl):=hs.cell 3
 have hh:=Fj hs (n:Int)
 have e:hasB d (n:Int) =true:=by simp[hasB];omega
 rw[e]at hh
 have hg:=N5 hs hi hp (d-1-n) oM
 rw[show((d-1-n:Nat) :Int) = (d:Int) -1- (n:Int)by omega]at hg
 generalize ja S p.fr (d-1-n) =v at *
 clear hs hi e
 replace hh:=hid hh
 replace hg:=hid hg
 go_enter Tryz.func13,Tryz.ntmps13
 go_wp2_with fail
 refine hh.out.mono ?_
 rintro e w1 ⟨rfl,rfl⟩
 go_wp2_with fail
 refine hg.out.mono ?_
 rintro e w1 ⟨rfl,h⟩
 replace h:=hid h
 go_wp2
 go_ret2
 exact⟨rfl,h.out⟩
theorem D0(hs:Blk w g 111 (gv gI p d))(n:Int)(hn:hasB d n=false) :
 Calls Tryz.prog 13 #[g,n] w (Quiet (.tuple #[(0:Int),p.un]) w):=by
 have c4:w.cell? (g,4) =some (p.un:Vl):=hs.cell 4
 have hh:=Fj hs n
 rw[hn]at hh
 clear hs hn
 replace hh:=hid hh
 go_enter Tryz.func13,Tryz.ntmps13
 go_wp2_with fail
 refine hh.out.mono ?_
 rintro e w1 ⟨rfl,rfl⟩
 go_wp2_with fail
 go_quiet (fail)
 go_wp2
 go_ret2
 exact⟨rfl,(Kept.refl Nob _).drewN _ |>.rD⟩
def oN(S:Img)(p:Pl)(d:Nat)(n:Int) :Value:= .tuple #[(jY S p.fr d n),(if hasB d n then 0 else p.un:Int)]
theorem og(hs:Blk w g 111 (gv gI p d))(hi:bU w gI gb S)(hp:p.Ok)(hd:d<=17920)(n:Int) :
 Calls Tryz.prog 13 #[g,n] w (Quiet (oN S p d n) w):=by
 unfold oN jY
 rcases hb:hasB d n with _|_
 ·have h1:=hb
  unfold hasB at h1
  rw[if_neg (by simp at h1;omega)]
  exact D0 hs n hb
 ·have h1:=hb
  unfold hasB at h1
  simp at h1
  rw[if_pos oM]
  have h2:=qM hs hi hp hd n.toNat oM
  rw[show((n.toNat:Nat) :Int) =n by omega]at h2
  exact h2
theorem On.stk{L:List Asr}{w':World}(i:Nat)(h:On F w (aa L) w')(hA:L[i]? = some (cR gI g p d)) :Blk w' g 111 (gv gI p d):=h.ab i hA
theorem KD(hb: (aa [cR gI g p d,au gI S]).holds w F)(hp:p.Ok)(i:Nat)(hi:i<=17920)(v:Int)(hv:V64 v) :
 Calls Tryz.prog 78 #[g,(i:Int),v] w (Got (.returned (.tuple #[])) (aa [cR gI g p d,au gI (sset S p.fr i v)]) F w):=by
 have hon:=On.refl hb
 have hs:=hon.stk 0 rfl
 have c0:w.cell? (g,0) =some (gI:Vl):=hs.cell 0
 have c1:w.cell? (g,1) =some ((p.fr:Int) :Vl):=hs.cell 1
 have hc:=(hon.drew).bA 1 rfl (λF' ha=>fL ha 0 ((p.fr:Int) +8* (i:Int)) v hv)
 have hr:sset S p.fr i v=S.setCell 0 ((p.fr:Int) +8* (i:Int)) v:=rfl
 rw[<-hr]at hc
 generalize sset S p.fr i v=S' at *
 generalize S.az 0 ((p.fr:Int) +8* (i:Int)) true=f at *
 rw[<-wr8 p.fr i hp.fr hi]at hc
 replace hc:=hid hc
 clear hs hp hb hon hr hv
 go_enter Tryz.func78,Tryz.ntmps78
 go_wp2_with fail
 go_region_held (λw'=>w'.cell? (g,0) =some (gI:Vl)∧w'.cell? (g,1) =some ((p.fr:Int) :Vl)) (go_keep)
  ((go_at_call 55;refine hc.out.mono ?_;rintro e w1 ⟨rfl,h⟩;have hs1:=h.stk 0 rfl;have m0:w1.cell? (g,0) =some (gI:Vl):=hs1.cell 0;have m1:w1.cell? (g,1) =some ((p.fr:Int) :Vl):=hs1.cell 1;replace h:=hid h))
 go_wp2
 go_end0
 exact⟨rfl,h.out⟩
end
def mO(w:World)(A:Option Addr)(l:List Int) :Prop:= ∀j x,l[j]? = some x->∃a,A=some a∧w.cell? (a.add j) =some (.int .i64 x)
def Far(F:Nat->Prop)(A:Option Addr) :Prop:= ∀a,A=some a->¬F a.block
theorem On.ints{F:Nat->Prop}{w w':World}{X:Asr}{A:Option Addr}{l:List Int}(h:On F w X w')(hi:mO w A l)(hf:Far F A) :mO w' A l:=by
 intro j x hj
 obtain⟨a,rfl,hc⟩:=hi j x hj
 exact⟨a,rfl,h.er hc (by unfold Addr.add;split<;>exact hf a rfl)⟩
section
variable {w:World}{F:Nat->Prop}{g gI gb:Nat}{p:Pl}{d:Nat}{S:Img}
theorem su(bs bv:Nat)(A:Option Addr)(n cap:Nat)(u:FrameMode)(hs:Blk w g 111 (gv gI p d))(hn:n<=100000)(hd:d<=17920)
 (h1:w.cell? (bs,0) =some (g:Vl)) (h2:w.cell? (bv,0) =some (.slice A n cap)) :
 CallsD Tryz.prog 77 #[bs,bv] u w λe u' w'=>u'=u∧e = .returned (.tuple #[])∧w'= (w.setCell (g,3) (.int .i64 ((d:Int) + (n:Int)))).drew:=by
 have c3:w.cell? (g,3) =some ((d:Int) :Vl):=hs.cell 3
 have f3:=hs.frozen 3
 clear hs
 go_enter_d Tryz.func77,Tryz.ntmps77
 go_region
 all_goals go_wp2
 all_goals go_end0
 all_goals exact⟨rfl,rfl⟩
theorem pZ(gI:Nat)(p:Pl)(d:Nat)(n:Int)(m:Nat)(h:n= (m:Int)) : (gv gI p d).setIfInBounds 3 (.int .i64 n) =gv gI p m:=by subst h;rfl
theorem CT(hs:Blk w g 111 (gv gI p d))(A:Option Addr)(n cap:Nat)(hd:d<=p.rm)(hp:p.Ok)(hn:n<=100000)(hno:p.rm-d<n) :
 Calls Tryz.prog 53 #[g,.slice A n cap] w (Quiet p.ov w):=by
 have c2:w.cell? (g,2) =some ((p.rm:Int) :Vl):=hs.cell 2
 have c3:w.cell? (g,3) =some ((d:Int) :Vl):=hs.cell 3
 have c5:w.cell? (g,5) =some (p.ov:Vl):=hs.cell 5
 have hlt:=hs.lt
 have h1:=hp.rm
 have hgt:decide ((p.rm:Int) - (d:Int) < (n:Int)) =true:=decide_eq_true oM
 have hmf : ∀(fn:Fn) (first cap:Array Value) (w:World),(Instr.makeFunc fn first cap).run Tryz.prog w = .ok (.func fn first cap) w:=λ_ _ _ _=>rfl
 clear hs hp
 go_enter_defers Tryz.func53,Tryz.ntmps53
 go_wp2
 go_quiet (fail)
 go_wp2
 exact⟨_,results_tmp rfl _ _ _,rfl,(((Kept.refl Nob _).alloc _).alloc _).drewN _ |>.rD⟩
theorem ints_at{w:World}{A:Option Addr}{l:List Int}(hi:mO w A l)(j:Nat)(hj:j<l.length) : ∃a,A=some a∧w.cell? (a.add j) =some ((l.getD j 0) :Vl):=by
 obtain⟨a,h1,h2⟩:=hi j (l.getD j 0) (by rw[List.getD_eq_getElem?_getD,List.getElem?_eq_getElem hj];rfl)
 exact⟨a,h1,h2⟩
theorem zI(S:Img)(fr d:Nat)(l:List Int)(j:Nat)(hj:j<l.length) :sset (bJ S fr d (l.take j)) fr (d+j) (l.getD j 0) =bJ S fr d (l.take (j+1)):=by
 have e:l.take (j+1) =l.take j ++ [l.getD j 0]:=by
  rw[List.take_succ_eq_append_getElem hj,List.getD_eq_getElem?_getD,List.getElem?_eq_getElem hj]
  rfl
 rw[e,qm,List.length_take,Nat.min_eq_left oM]
theorem js(hb: (aa [cR gI g p d,au gI S]).holds w F)(hp:p.Ok)(l:List Int)(hl : ∀x∈l,V64 x)(A:Option Addr)(cap:Nat)(hi:mO w A l)(hf:Far F A)(hd:d<=p.rm)(hroom:l.length<=p.rm-d) :
 Calls Tryz.prog 53 #[g,.slice A l.length cap] w (Got (.returned (.int .i64 0)) (aa [cR gI g p (d+l.length),au gI (bJ S p.fr d l)]) F w):=by
 have hon:=On.refl hb
 have hs:=hon.stk 0 rfl
 have c2:w.cell? (g,2) =some ((p.rm:Int) :Vl):=hs.cell 2
 have c3:w.cell? (g,3) =some ((d:Int) :Vl):=hs.cell 3
 have h1:=hp.rm
 have hlt:=hs.lt
 have hgt:decide ((p.rm:Int) - (d:Int) < (l.length:Int)) =false:=decide_eq_false oM
 have hon2:=(hon.box #[g] 55).box #[.slice A l.length cap] 23
 have hz: (w.alloc (Obj.cells #[g] 55)).heap.size=w.heap.size+1:=by simp
 rw[hz]at hon2
 have hmf : ∀(fn:Fn) (first cap:Array Value) (w:World),(Instr.makeFunc fn first cap).run Tryz.prog w = .ok (.func fn first cap) w:=λ_ _ _ _=>rfl
 replace hon:=hid hon
 replace hon2:=hid hon2
 replace hi:=hid hi
 replace hf:=hid hf
 replace hl:=hid hl
 replace hp:=hid hp
 clear hs hb hz
 go_enter_defers Tryz.func53,Tryz.ntmps53
 go_wp2
 go_quiet (fail)
 go_wp2
 go_loopg [29] l.length (λk t wr=> ∃j:Nat,j+k=l.length∧t = .int .i64 (j:Int)∧On F w (aa [ae (w.heap.size+1) 23 #[.slice A l.length cap],ae w.heap.size 55 #[g],cR gI g p d,au gI (bJ S p.fr d (l.take j))]) wr)
 case atStart=>exact⟨0,by omega,rfl,(hon2.out).drewN _⟩
 case round=>
  obtain⟨j,hj,rfl,honj⟩:=hrel
  have b0:wr.cell? (w.heap.size,0) =some (g:Vl):=(honj.ab 1 rfl).cell 0
  have b1:wr.cell? ⟨w.heap.size+1,0,none⟩ =some (.slice A l.length cap):=(honj.ab 0 rfl).cell 0
  have m3:wr.cell? (g,3) =some ((d:Int) :Vl):=(honj.stk 2 rfl).cell 3
  by_cases hjl:j<l.length
  ·obtain⟨a,rfl,hc⟩:=ints_at hi.out j hjl
   have hc':wr.cell? (a.add j) =some ((l.getD j 0) :Vl):=honj.er hc (by unfold Addr.add;split<;>exact hf.out a rfl)
   have hset:=honj.cD 2 3 (by decide) rfl rfl (λF' ha=>KD ha hp.out (d+j) oM (l.getD j 0) (hl.out _ (by rw[List.getD_eq_getElem?_getD,List.getElem?_eq_getElem hjl];exact List.getElem_mem hjl)))
   rw[zI S p.fr d l j hjl]at hset
   rw[show(((d+j:Nat)) :Int) = (d:Int) + (j:Int)by omega]at hset
   generalize l.getD j 0=x at *
   replace hset:=hid hset
   replace honj:=hid honj
   clear hc
   go_wp2_with fail
   refine hset.out.mono ?_
   rintro e w1 ⟨rfl,h⟩
   replace h:=hid h
   go_wp2
   go_roundg (gk-1)
   case measure=>omega
   case rel=>exact⟨j+1,by omega,by go_num,h.out⟩
  ·have hjl':j=l.length:=by omega
   subst hjl'
   have hdec:decide ((l.length:Int) < (l.length:Int)) =false:=by simp
   have e1:bJ S p.fr d (l.take l.length) =bJ S p.fr d l:=by rw[List.take_length]
   rw[e1]at honj
   have hst:=honj.stk 2 rfl
   have hfin:=((honj.setAt 2 rfl 3 (.int .i64 ((d:Int) + (l.length:Int)))).tail).tail
   have hst2:=pZ gI p d ((d:Int) + (l.length:Int)) (d+l.length) oM
   replace honj:=hid honj
   replace hst:=hid hst
   replace hst2:=hid hst2
   replace hfin:=hid hfin
   replace e1:=hid e1
   go_wp2
   refine leaves_cons (f:=77) (args:= #[w.heap.size,.pointer (some ⟨w.heap.size+1,0,none⟩)]) (by simp) (by simp[go_sem]) ?_
   refine(su w.heap.size (w.heap.size+1) A l.length cap .returning hst.out oM oM b0 b1).mono ?_
   rintro e u' w'' ⟨rfl,rfl,rfl⟩
   refine⟨_,results_tmp rfl _ _ _,rfl,?_⟩
   have h3:=hfin.out.drew
   rw[hst2.out]at h3
   exact h3
theorem MG(hb: (aa [cR gI g p d,au gI S]).holds w F)(hp:p.Ok)(n:Nat)(hn:n<d)(hd:d<=p.rm)(v:Int)(hv:V64 v) :
 Calls Tryz.prog 201 #[g,(n:Int),v] w (Got (.returned (.int .i64 0)) (aa [cR gI g p d,au gI (sset S p.fr (d-1-n) v)]) F w):=by
 have hon:=On.refl hb
 have hs:=hon.stk 0 rfl
 have c3:w.cell? (g,3) =some ((d:Int) :Vl):=hs.cell 3
 have h1:=hp.rm
 have hh:=Fj hs (n:Int)
 have e:hasB d (n:Int) =true:=by simp[hasB];omega
 rw[e]at hh
 have hset:=KD hb hp (d-1-n) oM v hv
 rw[show((d-1-n:Nat) :Int) = (d:Int) -1- (n:Int)by omega]at hset
 generalize sset S p.fr (d-1-n) v=S' at *
 replace hset:=hid hset
 replace hh:=hid hh
 clear hs hb hon e hv
 go_enter Tryz.func201,Tryz.ntmps201
 go_wp2_with fail
 refine hh.out.mono ?_
 rintro e w1 ⟨rfl,rfl⟩
 go_wp2_with fail
 refine hset.out.mono ?_
 rintro e w2 ⟨rfl,h⟩
 replace h:=hid h
 go_wp2
 go_ret
 exact⟨rfl,h.out⟩
theorem Nx(hb: (aa [cR gI g p d,au gI S]).holds w F)(hp:p.Ok)(h0:0<d)(hd:d<=p.rm) :
 Calls Tryz.prog 173 #[g] w (Got (.returned (.tuple #[(ja S p.fr (d-1)),(0:Int)])) (aa [cR gI g p (d-1),au gI S]) F w):=by
 have hon:=On.refl hb
 have h1:=hp.rm
 have hs:=hon.stk 0 rfl
 obtain⟨gb,hi⟩:=hon.img 1 rfl
 have hk:=qM hs hi hp oM 0 h0
 rw[Nat.sub_zero]at hk
 generalize ja S p.fr (d-1) =v at *
 replace hk:=hid hk
 replace hon:=hid hon
 clear hs hb hi
 go_enter Tryz.func173,Tryz.ntmps173
 go_wp2_with fail
 refine hk.out.mono ?_
 rintro e w1 ⟨rfl,h⟩
 have hon1:=hon.out.below h
 have c3:w1.cell? (g,3) =some ((d:Int) :Vl):=(hon1.stk 0 rfl).cell 3
 have f3:w1.frozen? (g,3) =false:=(hon1.stk 0 rfl).frozen 3
 have hfin:=hon1.setAt 0 rfl 3 (.int .i64 ((d:Int) -1))
 rw[pZ gI p d ((d:Int) -1) (d-1) oM]at hfin
 replace hfin:=hid hfin
 clear hon1 h
 go_wp2
 go_ret2
 exact⟨rfl,hfin.out⟩
theorem KS(hb: (aa [cR gI g p d,au gI S]).holds w F)(hp:p.Ok)(n:Nat)(hn:n<=d)(hd:d<=p.rm) :
 Calls Tryz.prog 130 #[g,(n:Int)] w (Got (.returned (.bool true)) (aa [cR gI g p n,au gI S]) F w):=by
 have hon:=On.refl hb
 have hs:=hon.stk 0 rfl
 have c2:w.cell? (g,2) =some ((p.rm:Int) :Vl):=hs.cell 2
 have c3:w.cell? (g,3) =some ((d:Int) :Vl):=hs.cell 3
 have f3:=hs.frozen 3
 have h1:=hp.rm
 have hn0:decide ((n:Int) <0) =false:=decide_eq_false oM
 have hgt:decide ((p.rm:Int) < (n:Int)) =false:=decide_eq_false oM
 have hgt':decide (p.rm<n) =false:=decide_eq_false oM
 have hlt:decide ((d:Int) < (n:Int)) =false:=decide_eq_false oM
 have hlt':decide (d<n) =false:=decide_eq_false oM
 have hfin:=hon.setAt 0 rfl 3 (.int .i64 (n:Int))
 rw[pZ gI p d (n:Int) n rfl]at hfin
 replace hfin:=hid hfin
 clear hs hb hon
 go_enter Tryz.func130,Tryz.ntmps130
 go_wp2
 go_loopg [5] 0 (λk t wr=>wr=w∧t = .int .i64 (d:Int))
 case atStart=>exact⟨rfl,rfl⟩
 case round=>
  obtain⟨rfl,rfl⟩:=hrel
  go_wp2
  go_ret
  exact⟨rfl,hfin.out⟩
end
end Vm
open Go.RowKit Go.Lib
namespace Vm
def yl(a b:Int) :Int:=wrap64 (a.tdiv b)
def j8(a b:Int) :Int:=a.tmod b
def ye(a b:Int) :Bool:=decide (j8 a b≠0) &&decide (bits .xor .i64 (j8 a b) b<0)
def lA(a b:Int) :Int:=if ye a b then wrap64 (yl a b-1)else yl a b
def lu(a b:Int) :Int:=if ye a b then wrap64 (j8 a b+b)else j8 a b
theorem HC{a b:Int}(ha:V64 a)(hb:V64 b) :V64 (j8 a b):=by
 unfold j8
 have h1:=Int.natAbs_tmod a b
 have h2:a.natAbs % b.natAbs<=a.natAbs:=Nat.mod_le _ _
 have h3:0<=a->0<=a.tmod b:=Int.tmod_nonneg b
 have h4:a<=0->a.tmod b<=0:=λh=>by
  have h5:=Int.tmod_nonneg b (show 0<= -a by omega)
  rw[Int.neg_tmod]at h5
  omega
 generalize a.tmod b=m at *
 generalize a.natAbs % b.natAbs=k at *
 unfold V64 at *
 omega
theorem tP(n:Int) :V64 (wrap64 n):=by unfold V64 wrap64;omega
theorem rE(a b:Int) :V64 (lA a b):=by
 unfold lA yl
 split<;>exact tP _
theorem qg{a b:Int}(ha:V64 a)(hb:V64 b) :V64 (lu a b):=by
 unfold lu
 split
 ·exact tP _
 ·exact HC ha hb
def DV(v:Value)(w:World)(e:Ending)(w':World) :Prop:=e = .returned v∧∃n,w'=w.drewN n
theorem N4(a b:Int)(w:World) :Calls Tryz.prog 177 #[a,b] w (DV (if b=0 then .tuple #[(0:Int),(0:Int),(7:Int)]else .tuple #[(yl a b),(j8 a b),(0:Int)]) w):=by
 by_cases hb:b=0
 ·subst hb
  rw[if_pos rfl]
  go_enter Tryz.func177,Tryz.ntmps177
  go_wp2
  exact bodyPost_ret (v:= .tuple #[(0:Int),(0:Int),(7:Int)]) (by simp[results,Tryz.results177,go_sem]) rfl ⟨rfl,0,rfl⟩
 ·rw[if_neg hb]
  have e: (b==0) =false:=by simpa using hb
  unfold yl j8
  go_enter Tryz.func177,Tryz.ntmps177
  go_wp2_with fail
  go_region
  all_goals go_wp2
  all_goals exact bodyPost_ret (v:= .tuple #[(wrap64 (a.tdiv b)),(a.tmod b),(0:Int)]) (by simp[results,Tryz.results177,go_sem]) rfl ⟨rfl,1,rfl⟩
def K0(a b:Int) :Value:=if b=0 then .tuple #[(0:Int),(0:Int),(7:Int)]else .tuple #[(lA a b),(lu a b),(0:Int)]
theorem Nt(a b:Int)(w:World) :Calls Tryz.prog 132 #[a,b] w (DV (K0 a b) w):=by
 have hs:=N4 a b w
 unfold K0
 by_cases hb:b=0
 ·subst hb
  rw[if_pos rfl]at hs⊢
  replace hs:=hid hs
  go_enter Tryz.func132,Tryz.ntmps132
  go_wp2_with fail
  refine hs.out.mono ?_
  rintro e w1 ⟨rfl,n,rfl⟩
  simp only[]
  go_wp2
  exact bodyPost_ret (v:= .tuple #[(0:Int),(0:Int),(7:Int)]) (by simp[results,Tryz.results132,go_sem]) rfl ⟨rfl,n,rfl⟩
 ·rw[if_neg hb]at hs⊢
  unfold lA lu
  replace hs:=hid hs
  clear hb
  by_cases hr:j8 a b=0
  ·have eo:ye a b=false:=by unfold ye;simp[hr]
   rw[eo]
   have t1: (j8 a b != 0) =false:=by simpa using hr
   generalize yl a b=Q at *
   generalize j8 a b=R at *
   replace hr:=hid hr
   show Calls _ _ _ _ (DV (.tuple #[Q,R,(0:Int)]) w)
   clear eo
   go_enter Tryz.func132,Tryz.ntmps132
   go_wp2_with fail
   refine hs.out.mono ?_
   rintro e w1 ⟨rfl,n,rfl⟩
   simp only[]
   go_wp2
   exact bodyPost_ret (v:= .tuple #[Q,R,(0:Int)]) (by simp[results,Tryz.results132,go_sem]) rfl ⟨rfl,n,rfl⟩
  have t1: (j8 a b != 0) =true:=by simpa using hr
  by_cases hx:bits .xor .i64 (j8 a b) b<0
  ·have eo:ye a b=true:=by unfold ye;simp[hr,hx]
   rw[eo]
   have t2:decide (bits .xor .i64 (j8 a b) b<0) =true:=decide_eq_true hx
   generalize yl a b=Q at *
   generalize j8 a b=R at *
   replace hr:=hid hr
   replace hx:=hid hx
   show Calls _ _ _ _ (DV (.tuple #[(wrap64 (Q-1)),(wrap64 (R+b)),(0:Int)]) w)
   clear eo
   go_enter Tryz.func132,Tryz.ntmps132
   go_wp2_with fail
   refine hs.out.mono ?_
   rintro e w1 ⟨rfl,n,rfl⟩
   simp only[]
   go_wp2
   exact bodyPost_ret (v:= .tuple #[(wrap64 (Q-1)),(wrap64 (R+b)),(0:Int)]) (by simp[results,Tryz.results132,go_sem]) rfl ⟨rfl,n,rfl⟩
  ·have eo:ye a b=false:=by unfold ye;simp[hx]
   rw[eo]
   have t2:decide (bits .xor .i64 (j8 a b) b<0) =false:=decide_eq_false hx
   generalize yl a b=Q at *
   generalize j8 a b=R at *
   replace hr:=hid hr
   replace hx:=hid hx
   show Calls _ _ _ _ (DV (.tuple #[Q,R,(0:Int)]) w)
   clear eo
   go_enter Tryz.func132,Tryz.ntmps132
   go_wp2_with fail
   refine hs.out.mono ?_
   rintro e w1 ⟨rfl,n,rfl⟩
   simp only[]
   go_wp2
   exact bodyPost_ret (v:= .tuple #[Q,R,(0:Int)]) (by simp[results,Tryz.results132,go_sem]) rfl ⟨rfl,n,rfl⟩
theorem OC(p:Value)(m a:Int)(w:World)(hrow:Calls Tryz.prog 79 #[p,m,a,(1:Int),(1:Int)] w (aA (.tuple #[.slice none 0 0,.bool false]) w)) :
 Calls Tryz.prog 125 #[p,m,a] w (aA (.tuple #[.int .u8 0,(5:Int)]) w):=by
 replace hrow:=hid hrow
 go_enter Tryz.func125,Tryz.ntmps125
 go_wp2_with fail
 refine hrow.out.mono ?_
 rintro e w1 ⟨rfl,rfl⟩
 go_wp2
 go_ret2
 exact⟨rfl,rfl⟩
theorem Nk(p:Value)(m:Int)(gb k:Nat)(b:Int)(w:World)(hrow:Calls Tryz.prog 79 #[p,m,(k:Int),(1:Int),(1:Int)] w (aA (.tuple #[.slice (some ⟨gb,k,none⟩) 1 1,.bool true]) w))
 (hc:w.cell? (gb,k) =some (.int .u8 b)) :
 Calls Tryz.prog 125 #[p,m,(k:Int)] w (aA (.tuple #[.int .u8 b,(0:Int)]) w):=by
 replace hrow:=hid hrow
 go_enter Tryz.func125,Tryz.ntmps125
 go_wp2_with fail
 refine hrow.out.mono ?_
 rintro e w1 ⟨rfl,rfl⟩
 go_wp2
 go_ret2
 exact⟨rfl,rfl⟩
theorem NW(p:Value)(m a:Int)(b:Int)(w:World)(hrow:Calls Tryz.prog 79 #[p,m,a,(1:Int),(2:Int)] w (aA (.tuple #[.slice none 0 0,.bool false]) w)) :
 Calls Tryz.prog 140 #[p,m,a,.int .u8 b] w (aA (.int .i64 5) w):=by
 replace hrow:=hid hrow
 go_enter Tryz.func140,Tryz.ntmps140
 go_wp2_with fail
 refine hrow.out.mono ?_
 rintro e w1 ⟨rfl,rfl⟩
 go_wp2
 go_ret
 exact⟨rfl,rfl⟩
theorem Ms(p:Value)(m:Int)(gb k:Nat)(b b0:Int)(w:World)(hrow:Calls Tryz.prog 79 #[p,m,(k:Int),(1:Int),(2:Int)] w (aA (.tuple #[.slice (some ⟨gb,k,none⟩) 1 1,.bool true]) w))
 (hc:w.cell? (gb,k) =some (.int .u8 b0)) (hf:w.frozen? (gb,k) =false) :
 Calls Tryz.prog 140 #[p,m,(k:Int),.int .u8 b] w (aA (.int .i64 0) (w.setCell (gb,k) (.int .u8 b))):=by
 replace hrow:=hid hrow
 go_enter Tryz.func140,Tryz.ntmps140
 go_wp2_with fail
 refine hrow.out.mono ?_
 rintro e w1 ⟨rfl,rfl⟩
 go_wp2
 go_ret
 exact⟨rfl,rfl⟩
theorem Bl{w:World}{g gb:Nat}{S:Img}(h:bU w g gb S)(m a:Int) :
 Calls Tryz.prog 125 #[g,m,a] w (aA (.tuple #[.int .u8 ((S.gU m a).toNat:Int),(S.bR m a false)]) w):=by
 rcases fc h m a 1 oM oM false with⟨hk,hrow⟩ | ⟨hk,k,rfl,hle,hrow⟩
 ·have e1:S.bR m a false=5:=by unfold Img.bR;simp[hk]
  have e2:S.gU m a=0:=by unfold Img.gU;simp[hk]
  rw[e1,e2]
  exact OC _ m a w hrow
 ·have e1:S.bR m (k:Int) false=0:=by unfold Img.bR;simp[hk]
  have e2:S.gU m (k:Int) =S.b.getD k 0:=by unfold Img.gU;simp[hk]
  rw[e1,e2]
  exact Nk _ m gb k _ w hrow (h.byte k oM)
theorem pM(b:List UInt8)(k:Nat)(c:UInt8)(h:k<b.length) : ((ag b).toArray).setIfInBounds k (.int .u8 (c.toNat:Int)) = (ag (cK b k [c])).toArray:=by
 apply Array.ext'
 simp only[Array.toList_setIfInBounds]
 unfold cK ag
 apply List.ext_getElem?
 intro i
 rw[List.getElem?_set]
 simp only[List.length_map,List.getElem?_map,List.getElem?_append,List.length_take]
 have h1:min k b.length=k:=by omega
 rw[h1]
 by_cases e:k=i
 ·subst e
  simp[h]
 ·rw[if_neg e]
  by_cases hlt:i<k
  ·rw[if_pos hlt,List.getElem?_take,if_pos hlt]
  ·rw[if_neg hlt]
   have h2:i-k≠0:=by omega
   simp only[List.length_cons,List.length_nil]
   rw[if_neg oM,List.getElem?_drop]
   congr 2
   omega
theorem iX{w:World}{F:Nat->Prop}{g:Nat}{S:Img}(hb: (au g S).holds w F)(m a:Int)(b:UInt8) :Calls Tryz.prog 140 #[g,m,a,.int .u8 (b.toNat:Int)] w (Got (.returned (S.bR m a true)) (au g (S.aV m a b)) F w):=by
 obtain⟨gb,hr,hFk⟩:=hb
 rcases fc hr m a 1 oM oM true with⟨hk,hrow⟩ | ⟨hk,k,rfl,hle,hrow⟩
 ·have e1:S.bR m a true=5:=by unfold Img.bR;simp[hk]
  have e2:S.aV m a b=S:=by unfold Img.aV;simp[hk]
  rw[e1,e2]
  refine(NW _ m a _ w hrow).mono ?_
  rintro e w1 ⟨rfl,rfl⟩
  exact⟨rfl,On.refl ⟨gb,hr,hFk⟩⟩
 ·have e1:S.bR m (k:Int) true=0:=by unfold Img.bR;simp[hk]
  have e2:S.aV m (k:Int) b=S.put k [b]:=by unfold Img.aV;simp[hk]
  rw[e1,e2]
  refine(Ms _ m gb k _ _ w hrow (hr.byte k oM) (hr.row.frozen k)).mono ?_
  rintro e w1 ⟨rfl,rfl⟩
  refine⟨rfl,F,⟨gb,⟨hr.blk.far (p:=⟨gb,k,none⟩) hr.ne _,?_,hr.ok.put k _ hle⟩,hFk⟩,(Kept.refl F w).setCell (p:=⟨gb,k,none⟩) (.inl ((hFk gb).2 (.inr rfl))) _,λ_ h=> .inl h⟩
  have h2:=hr.row.bG k (.int .u8 (b.toNat:Int))
  rw[pM S.b k b (by rw[hr.ok.len];omega)]at h2
  exact h2
end Vm
namespace Img
variable (S:Img)
def iv(m a b n:Int) :Int:=if n<0 then 19 else if S.aS m a n.toNat false=true∧S.aS m b n.toNat true=true then 0 else 5
def move(m a b n:Int) :Img:=if S.iv m a b n=0 then S.put b.toNat (S.bytes a n.toNat)else S
def iM(m a n:Int) :Int:=if n<0 then 19 else if S.aS m a n.toNat true=true then 0 else 5
def fill(m a n:Int)(c:UInt8) :Img:=if S.iM m a n=0 then S.put a.toNat (List.replicate n.toNat c)else S
end Img
namespace Vm
theorem sV(w:World)(gb k n:Nat)(b l:List UInt8)(a:Addr)(hn:l.length=n)(hk:k+n<=b.length)(hb:Blk w gb 5 (ag b).toArray)(hl : ∀i v,(ag l)[i]? = some v->w.cell? (a.add i) =some v) :
 (Builtin.copy_ #[92,92] 3 #[.slice (some ⟨gb,k,none⟩) n n,.slice (some a) n n]).run Tryz.prog w = .ok (.int .i64 (n:Int)) (w.setRow gb (ag (cK b k l)).toArray):=by
 have hsz: (Tryz.prog.info? 5).map (·.size) =some 1:=by kernel_rfl
 have hll: (ag l).length=n:=by simp[ag,hn]
 have hrun:=run_copy_row (P:=Tryz.prog) w 92 92 3 5 gb k n n a n n (ag b).toArray 5 (ag l) Tryz.underlying92 hsz hb (by rw[hll];exact(Nat.min_self n).symm) hl (by rw[hll];simpa [ag]using hk) (λx hx=>by
  obtain⟨y,_,rfl⟩:=List.mem_map.1 hx
  rfl)
 rw[hrun,hll]
 have:=nI b l k
 rw[show(ag b).toArray.toList=ag b from rfl,List.append_assoc,<-hn,this]
 rfl
theorem vE(w:World) : (Builtin.copy_ #[92,92] 3 #[.slice none 0 0,.slice none 0 0]).run Tryz.prog w = .ok (.int .i64 0) w:=
 run_copy_none w 92 92 3 5 none none 0 0 0 0 Tryz.underlying92 kR rfl
theorem Mk(p:Value)(m a b n:Int)(hn:n<0)(w:World) :Calls Tryz.prog 142 #[p,m,a,b,(n:Int)] w (aA (.int .i64 19) w):=by
 have t:decide (n<0) =true:=decide_eq_true hn
 go_enter Tryz.func142,Tryz.ntmps142
 go_wp2
 go_ret
 exact⟨rfl,rfl⟩
theorem mE(p:Value)(m a b:Int)(n:Nat)(hn:n<=9223372036854775807)(w w2:World)(s1 s2:Value)(o1 o2:Bool)(k:Int)
 (h1:Calls Tryz.prog 79 #[p,m,a,(n:Int),(1:Int)] w (aA (.tuple #[s1,.bool o1]) w))
 (h2:Calls Tryz.prog 79 #[p,m,b,(n:Int),(2:Int)] w (aA (.tuple #[s2,.bool o2]) w))
 (hc:o1=true->o2=true->(Builtin.copy_ #[92,92] 3 #[s2,s1]).run Tryz.prog w = .ok (.int .i64 k) w2) (hw: (o1=true∧o2=true)∨w2=w) :
 Calls Tryz.prog 142 #[p,m,a,b,(n:Int)] w (aA (if o1=true∧o2=true then 0 else 5:Int) w2):=by
 have t:decide ((n:Int) <0) =false:=decide_eq_false oM
 replace h1:=hid h1
 replace h2:=hid h2
 rcases o1 with _|_
 ·have e:w2=w:=by rcases hw with h|h;exact absurd h.1 (by decide);exact h
  replace e:=hid e
  clear hc hw
  rw[if_neg (by simp)]
  go_enter Tryz.func142,Tryz.ntmps142
  go_wp2_with fail
  refine h1.out.mono ?_
  rintro e1 w1 ⟨rfl,rfl⟩
  simp only[]
  go_wp2_with fail
  refine h2.out.mono ?_
  rintro e1 w1 ⟨rfl,rfl⟩
  simp only[]
  go_wp2
  go_ret
  exact⟨rfl,e.out.symm⟩
 rcases o2 with _|_
 ·have e:w2=w:=by rcases hw with h|h;exact absurd h.2 (by decide);exact h
  replace e:=hid e
  clear hc hw
  rw[if_neg (by simp)]
  go_enter Tryz.func142,Tryz.ntmps142
  go_wp2_with fail
  refine h1.out.mono ?_
  rintro e1 w1 ⟨rfl,rfl⟩
  simp only[]
  go_wp2_with fail
  refine h2.out.mono ?_
  rintro e1 w1 ⟨rfl,rfl⟩
  simp only[]
  go_wp2
  go_ret
  exact⟨rfl,e.out.symm⟩
 ·replace hc:=hc rfl rfl
  clear hw
  rw[if_pos ⟨rfl,rfl⟩]
  go_enter Tryz.func142,Tryz.ntmps142
  go_wp2_with fail
  refine h1.out.mono ?_
  rintro e1 w1 ⟨rfl,rfl⟩
  simp only[]
  go_wp2_with fail
  refine h2.out.mono ?_
  rintro e1 w1 ⟨rfl,rfl⟩
  simp only[]
  go_wp2
  go_ret
  exact⟨rfl,rfl⟩
section
variable {w:World}{F:Nat->Prop}{g:Nat}{S:Img}
theorem ry(gb:Nat)(hr:bU w g gb S)(hFk : ∀k,F k↔k=g∨k=gb)(k:Nat)(l:List UInt8)(hl:k+l.length<=S.beg 6) :On F w (au g (S.put k l)) (w.setRow gb (ag (cK S.b k l)).toArray):=
 ⟨F,⟨gb,⟨(hr.blk.kept (Kept.setRow (S:=λi=>i=gb) (Kept.refl _ _) (.inl rfl) _) hr.ne),sh hr.row _,hr.ok.put k _ hl⟩,hFk⟩,Kept.setRow (S:=F) (Kept.refl _ _) (.inl ((hFk gb).2 (.inr rfl))) _,λ_ h=> .inl h⟩
theorem Lq(hb: (au g S).holds w F)(m a b n:Int)(hn:n<=9223372036854775807) :Calls Tryz.prog 142 #[g,m,a,b,(n:Int)] w (Got (.returned (S.iv m a b n)) (au g (S.move m a b n)) F w):=by
 obtain⟨gb,hr,hFk⟩:=hb
 by_cases h0:n<0
 ·have e1:S.iv m a b n=19:=by unfold Img.iv;rw[if_pos h0]
  have e2:S.move m a b n=S:=by unfold Img.move;rw[e1];rfl
  rw[e1,e2]
  refine(Mk _ m a b n h0 w).mono ?_
  rintro e w1 ⟨rfl,rfl⟩
  exact⟨rfl,On.refl ⟨gb,hr,hFk⟩⟩
 obtain⟨k,rfl⟩ : ∃k:Nat,n= (k:Int):=⟨n.toNat,by omega⟩
 have hF:S.iv m a b k=if S.aS m a k false=true∧S.aS m b k true=true then 0 else 5:=by unfold Img.iv;rw[if_neg h0];rfl
 by_cases hk:k=0
 ·subst hk
  have e1:S.iv m a b ((0:Nat) :Int) =0:=by rw[hF];unfold Img.aS;simp
  have e2:S.move m a b ((0:Nat) :Int) =S:=by
   unfold Img.move
   rw[if_pos e1]
   show S.put b.toNat ((S.b.drop a.toNat).take 0) =S
   rw[List.take_zero,Img.fP]
  rw[e1,e2]
  have r1:=wT hr m a 0 oM false
  have r2:=wT hr m b 0 oM true
  unfold G8 at r1 r2
  rw[if_pos rfl]at r1 r2
  refine(mE _ m a b 0 oM w w _ _ true true 0 r1 r2 (λ_ _=>vE w) (.inl ⟨rfl,rfl⟩)).mono ?_
  rintro e w1 ⟨rfl,rfl⟩
  exact⟨rfl,On.refl ⟨gb,hr,hFk⟩⟩
 rcases fc hr m a k hk oM false with⟨h1,r1⟩ | ⟨h1,i,rfl,hi,r1⟩
 ·have e1:S.iv m a b k=5:=by rw[hF,h1];rfl
  have e2:S.move m a b k=S:=by unfold Img.move;rw[e1];rfl
  rw[e1,e2]
  rcases fc hr m b k hk oM true with⟨h2,r2⟩ | ⟨h2,j,rfl,hj,r2⟩
  ·refine(mE _ m a b k oM w w _ _ false false 0 r1 r2 (λh=>by cases h) (.inr rfl)).mono ?_
   rintro e w1 ⟨rfl,rfl⟩
   exact⟨rfl,On.refl ⟨gb,hr,hFk⟩⟩
  ·refine(mE _ m a j k oM w w _ _ false true 0 r1 r2 (λh=>by cases h) (.inr rfl)).mono ?_
   rintro e w1 ⟨rfl,rfl⟩
   exact⟨rfl,On.refl ⟨gb,hr,hFk⟩⟩
 ·rcases fc hr m b k hk oM true with⟨h2,r2⟩ | ⟨h2,j,rfl,hj,r2⟩
  ·have e1:S.iv m i b k=5:=by rw[hF,h2];simp
   have e2:S.move m i b k=S:=by unfold Img.move;rw[e1];rfl
   rw[e1,e2]
   refine(mE _ m i b k oM w w _ _ true false 0 r1 r2 (λ_ h=>by cases h) (.inr rfl)).mono ?_
   rintro e w1 ⟨rfl,rfl⟩
   exact⟨rfl,On.refl ⟨gb,hr,hFk⟩⟩
  ·have e1:S.iv m i j k=0:=by rw[hF,h1,h2];rfl
   have e2:S.move m i j k=S.put j (S.bytes i k):=by unfold Img.move;rw[if_pos e1];rfl
   have hl: (S.bytes (i:Int) k).length=k:=nQ S hr.ok i k hi
   rw[e1,e2]
   refine(mE _ m i j k oM w (w.setRow gb (ag (cK S.b j (S.bytes i k))).toArray) _ _ true true k r1 r2 (λ_ _=>sV w gb j k S.b (S.bytes i k) ⟨gb,i,none⟩ hl (by rw[hr.ok.len];exact hj) hr.row (λq v hq=>by
    have hq1:q<k:=by rw[<-hl];simpa [ag]using(List.getElem?_eq_some_iff.1 hq).1
    have h3: ((⟨gb,i,none⟩ :Addr).add q) = ⟨gb,i+q,none⟩:=by simp[Addr.add]
    rw[h3,hr.byte (i+q) oM,<-hq]
    unfold ag
    rw[List.getElem?_map,<-l6 S i k q hq1,List.getD_eq_getElem?_getD]
    rcases hg: (S.bytes (i:Int) k)[q]? with _|y
    ·rw[List.getElem?_eq_none_iff]at hg;omega
    ·rfl)) (.inl ⟨rfl,rfl⟩)).mono ?_
   rintro e w1 ⟨rfl,rfl⟩
   exact⟨rfl,ry gb hr hFk j _ (by rw[hl];exact hj)⟩
end
end Vm
end Go.Proofs.YtjohhkikoejadaaGreatDoor
