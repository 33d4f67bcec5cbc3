/- Chapter 11: FIND. Conditions: all was asked; all lies where it should. Printed by gen_vfnd2.py. -/
import Derived.Test.YtngdikikclfgjaaGreatDoorZ32
import Derived.Test.YtngdikikclfgjaaGreatDoorZ41
open Go.Proofs.Tryz
namespace Go.Proofs.YtngdikikclfgjaaGreatDoor
set_option linter.unusedVariables false
set_option linter.unusedSimpArgs false
set_option maxHeartbeats 8000000
set_option maxRecDepth 100000
open Go.RowKit Go.Lib Go.Deep
namespace Vm
end Vm
open Go.RowKit Go.Lib
namespace Vm
def WkN:Kn:=λc src s=>Wk c src s∧src = .pointer none
theorem WkN.near{c:Vc}{src:Value}{s s':Mt}(h:WkN c src s)(n:Near s s'):WkN c src s':=⟨h.1.near n,h.2⟩
def MildG(P:Kn)(q:Rn->Mt->Rs×List Int)(m:Nat):Prop:= ∀c src x s,P c src s->s.Ok->x.Ok->(q x s).1.s.Ok∧(q x s).1.s.d=s.d∧(q x s).1.s.pd=s.pd∧(q x s).2.length<=m∧(∀v∈(q x s).2,V64 v)∧(q x s).1.x.Ok∧(q x s).1.x.left<=x.left∧(q x s).1.s.tells=s.tells∧(q x s).1.s.seen=s.seen∧P c src (q x s).1.s
def KeepsG(P:Kn)(i:Inst)(q:Rn->Mt->Rs):Prop:= ∀c src x s,P c src s->s.Ok->x.Ok->V64 i.arg->V64 i.lit->Asked i x s->(q x s).s.Ok∧(q x s).x.Ok∧(q x s).s.tells=s.tells∧(q x s).x.left<=x.left∧(q x s).s.seen=s.seen∧P c src (q x s).s
theorem laysG_of{P:Kn}{i:Inst}{q:Rn->Mt->Rs×List Int}{m:Nat}(n:Nat)(hn: (Code.wants i.op).1=n)(hm: (Code.wants i.op).2=m)(h26:i.op≠26)(h:MildG P q m):LaysG P i q:=by
 intro c src x s hp hs hx ha hf
 obtain⟨h1,h2,h3,h4,h5,_⟩:=h c src x s hp hs hx
 refine⟨h1,h2,?_,h5⟩
 have h6:=ha.room
 have h7:=ha.tk
 rw[if_neg (by rintro⟨h,_⟩;exact h26 h)]at h6
 rw[h3]
 omega
theorem keepsG_laid{P:Kn}(hP: ∀c src s s',P c src s->Near s s'->P c src s'){i:Inst}{q:Rn->Mt->Rs×List Int}{n m:Nat}(hn: (Code.wants i.op).1=n)(hl:LaysG P i q)(hm:MildG P q m):KeepsG P i (λx s=>Rs.laid n (q x s)):=by
 intro c src x s hp hs hx hv1 hv2 ha
 obtain⟨h1,h2,h3,h4,h5,h6,h7,h8,h9,h10⟩:=hm c src x s hp hs hx
 have h11:=ha.tk
 have hl':=hl c src x s hp hs hx ha
 unfold Rs.laid
 by_cases hf: (q x s).1.f=0
 ·simp only[if_pos hf]
  obtain⟨_,_,k3,_⟩:=hl' hf
  have e: (Code.wants i.op).1.toNat=n:=by omega
  rw[e]at k3
  refine⟨lays_ok h1 (by rw[h2];omega) (by rw[h2];exact k3),h6,?_,h7,?_,hP _ _ _ _ h10 (near_lays _ _ _)⟩
  ·show(((q x s).1.s).lays n _).2.tells=_
   rw[(lays_same _ n _).1,h8]
  ·show(((q x s).1.s).lays n _).2.seen=_
   rw[(lays_same _ n _).2.1,h9]
 ·simp only[if_neg hf]
  exact⟨h1,h6,h8,h7,h9,h10⟩
theorem parts_okG(P:Kn)(hP: ∀c src s s',P c src s->Near s s'->P c src s')(i:Inst)(q:Rn->Mt->Rs)(hq:parts i=some q):DoesG P i q∧KeepsG P i q:=by
 obtain⟨h1,h2⟩:=parts_ok i q hq
 refine⟨h1.toG P,λc src x s hp hs hx hv1 hv2 ha=> ?_⟩
 obtain⟨k1,k2,k3,k4,k5⟩:=h2 x s hs hx hv1 hv2 ha
 exact⟨k1,k2,k3,by rw[k4];exact Int.le_refl _,k5,hP _ _ _ _ hp (near_parts i q hq x s)⟩
def KeepsT(P Q:Kn)(i:Inst)(q:Rn->Mt->Rs):Prop:= ∀c src x s,P c src s->s.Ok->x.Ok->V64 i.arg->V64 i.lit->Asked i x s->(q x s).s.Ok∧(q x s).x.Ok∧(q x s).s.tells=s.tells∧(q x s).x.left<=x.left∧Q c src (q x s).s
structure TabOk(tab:Inst->Option (Rn->Mt->Rs))(P Q:Nat->Kn)(R:Kn):Prop where
 ok: ∀n i q,tab i=some q->DoesG (P (n+1)) i q∧KeepsT (P (n+1)) (Q n) i q
 push: ∀n c src s l,P n c src s->P n c src (s.pushR l)
 told: ∀n c src s x op,Q n c src s->P n c src (s.told x op)
 len: ∀n c src s,Q n c src s->s.seen.length<1000000000
 pr: ∀n c src s,P n c src s->R c src s
 qr: ∀n c src s,Q n c src s->R c src s
def stepT(tab:Inst->Option (Rn->Mt->Rs))(x:Rn)(s:Mt):Option Rs:=
 if x.left=0 then some ⟨13,x,s⟩
 else if(s.S.fetch x.mode x.pc).2≠0 then some ⟨(s.S.fetch x.mode x.pc).2,{ x with left:=x.left-1 },s⟩
 else
  let i:=(s.S.fetch x.mode x.pc).1
  let x2:={ x with left:=x.left-1,next:=wrap64 (x.pc+8*i.cells) }
  if asks i x2 s≠0 then some ⟨asks i x2 s,x2,s⟩
  else(tab i).map λq=>if(q x2 s).f≠0 then q x2 s else⟨0,{ (q x2 s).x with pc:=(q x2 s).x.next },(q x2 s).s.told (q x2 s).x i.op⟩
def goesT(tab:Inst->Option (Rn->Mt->Rs)):Nat->Rn->Mt->Option Rs
 | 0,_,_=>none
 | n+1,x,s=>
   match stepT tab x s with
   | none=>none
   | some q=>if q.f≠0 then some q else if q.x.over then some q else goesT tab n q.x q.s
section
variable {tab:Inst->Option (Rn->Mt->Rs)}{P Q:Nat->Kn}{R:Kn}
theorem goesT_ok(ht:TabOk tab P Q R)(c:Vc)(src:Value): ∀(n:Nat) (x:Rn) (s:Mt) (q:Rs),P n c src s->s.Ok->x.Ok->goesT tab n x s=some q->q.s.Ok∧(0<=q.x.left∧q.x.left<=x.left)∧q.s.tells=s.tells∧R c src q.s
 | 0,_,_,_,_,_,_,h=>by cases h
 | n+1,x,s,q,hp0,hs,hx,h=>by
   unfold goesT at h
   have h1:=hx.left
   have h2:=hx.left2
   have hst: ∀r,stepT tab x s=some r->r.s.Ok∧(0<=r.x.left∧r.x.left<=x.left)∧r.s.tells=s.tells∧R c src r.s∧(r.f=0->r.x.Ok∧P n c src r.s):=by
    intro r hr
    unfold stepT at hr
    by_cases hl:x.left=0
    ·rw[if_pos hl]at hr
     obtain rfl:=Option.some.inj hr
     exact⟨hs,⟨h1,Int.le_refl _⟩,rfl,ht.pr _ _ _ _ hp0,λh=>by cases h⟩
    rw[if_neg hl]at hr
    by_cases hf: (s.S.fetch x.mode x.pc).2≠0
    ·rw[if_pos hf]at hr
     obtain rfl:=Option.some.inj hr
     exact⟨hs,⟨by show 0<=x.left-1;omega,by show x.left-1<=x.left;omega⟩,rfl,ht.pr _ _ _ _ hp0,λh=>absurd h hf⟩
    rw[if_neg hf]at hr
    have hx2: ({ x with left:=x.left-1,next:=wrap64 (x.pc+8* (s.S.fetch x.mode x.pc).1.cells) }:Rn).Ok:=
     ⟨hx.base,hx.base2,wrap_v64 _,hx.pc,by show 0<=x.left-1;omega,by show x.left-1<=1000000;omega⟩
    simp only at hr
    have hfv:=fetch_v64 s.S x.mode x.pc
    generalize (s.S.fetch x.mode x.pc).1=i at *
    have hl2: ({ x with left:=x.left-1,next:=wrap64 (x.pc+8*i.cells) }:Rn).left=x.left-1:=rfl
    generalize ({ x with left:=x.left-1,next:=wrap64 (x.pc+8*i.cells) }:Rn)=x2 at *
    by_cases ha:asks i x2 s≠0
    ·rw[if_pos ha]at hr
     obtain rfl:=Option.some.inj hr
     exact⟨hs,⟨by show 0<=x2.left;omega,by show x2.left<=x.left;omega⟩,rfl,ht.pr _ _ _ _ hp0,λh=>absurd h ha⟩
    rw[if_neg ha]at hr
    rcases hp:tab i with _|T
    ·rw[hp]at hr;cases hr
    rw[hp]at hr
    obtain⟨_,hke⟩:=ht.ok n i T hp
    obtain⟨hs3,hx3,ht3,hl3,hw3⟩:=hke c src x2 s hp0 hs hx2 hfv.1 hfv.2.1 (Asked.of (by simpa using ha))
    simp only[Option.map_some]at hr
    generalize T x2 s=Z at *
    by_cases hZ:Z.f≠0
    ·rw[if_pos hZ]at hr
     obtain rfl:=Option.some.inj hr
     exact⟨hs3,⟨by have:=hx3.left;omega,by omega⟩,ht3,ht.qr _ _ _ _ hw3,λh=>absurd h hZ⟩
    rw[if_neg hZ]at hr
    obtain rfl:=Option.some.inj hr
    have hw4:=ht.told _ _ _ _ Z.x i.op hw3
    refine⟨told_ok hs3 _ _,⟨by have:=hx3.left;show 0<=Z.x.left;omega,by show Z.x.left<=x.left;omega⟩,?_,ht.pr _ _ _ _ hw4,λ_=>⟨⟨hx3.base,hx3.base2,hx3.next,hx3.next,hx3.left,hx3.left2⟩,hw4⟩⟩
    show(Z.s.told Z.x i.op).tells=s.tells
    unfold Mt.told
    split<;>exact ht3
   rcases hr:stepT tab x s with _|r
   ·rw[hr]at h;cases h
   rw[hr]at h
   obtain⟨a1,a2,a3,aw,a4⟩:=hst r hr
   simp only at h
   by_cases hf:r.f≠0
   ·rw[if_pos hf]at h
    obtain rfl:=Option.some.inj h
    exact⟨a1,a2,a3,aw⟩
   rw[if_neg hf]at h
   by_cases ho:r.x.over=true
   ·rw[if_pos ho]at h
    obtain rfl:=Option.some.inj h
    exact⟨a1,a2,a3,aw⟩
   rw[if_neg ho]at h
   obtain⟨b1,b2⟩:=a4 (by simpa using hf)
   obtain⟨c1,c2,c3,c4⟩:=goesT_ok ht c src n r.x r.s q b2 a1 b1 h
   exact⟨c1,⟨c2.1,by omega⟩,c3.trans a3,c4⟩
end
def PlayT(tab:Inst->Option (Rn->Mt->Rs))(P:Nat->Kn)(w:World)(F:Nat->Prop)(c:Vc)(g fb:Nat)(xt:Int)(src:Value)(q:Rs)(tells:Bool)(n:Nat)(a:Act)(wr:World):Prop:=
 ∃u:Nat->Value,a = { tmps:=#[.pointer g,.int .i64 xt,u 2,u 3,.pointer fb,.pointer (some ⟨fb+1,0,none⟩),u 6,u 7,u 8,u 9,u 10,u 11,u 12,u 13,u 14,u 15,u 16,u 17,u 18,u 19,u 20,u 21,u 22,u 23,u 24,u 25,u 26,u 27,u 28,u 29,u 30,u 31,u 32,u 33,u 34,u 35,u 36,u 37,u 38,u 39,u 40,u 41,u 42,u 43,u 44,u 45,u 46,u 47,u 48,u 49,u 50,u 51,u 52,u 53,u 54,u 55,u 56,u 57,u 58,u 59,u 60,u 61,u 62,u 63,u 64,u 65,u 66,u 67,u 68,u 69,u 70,u 71,u 72,u 73,u 74,u 75,u 76,u 77,u 78,u 79,u 80,u 81,u 82,u 83,u 84,u 85,u 86,u 87,u 88,u 89,u 90,u 91,u 92,u 93,u 94,u 95,u 96,u 97,u 98,u 99,u 100,u 101,u 102,u 103,u 104,u 105,u 106,u 107,u 108,u 109,u 110,u 111,u 112,u 113,u 114,u 115,u 116,u 117,u 118,u 119,u 120,u 121,u 122,u 123,u 124,u 125,u 126,u 127,u 128,u 129,u 130,u 131],defers:=[{ target:= .fn (.func 67) #[fb],args:=#[] }] }∧
  ∃(i:Inst) (f:Int) (x:Rn) (s:Mt),On F w (AllA (plL c g fb i f x src s)) wr∧s.Ok∧x.Ok∧s.tells=tells∧goesT tab n x s=some q∧P n c src s
theorem PlayT.mk{tab:Inst->Option (Rn->Mt->Rs)}{P:Nat->Kn}{w:World}{F:Nat->Prop}{c:Vc}{g fb:Nat}{xt:Int}{src:Value}{q:Rs}{tells:Bool}{n:Nat}{tm:Array Value}{wr:World}(u:Nat->Value)(hu:u=λk=>tm.toList.getD k undef)(h:tm=#[.pointer g,.int .i64 xt,u 2,u 3,.pointer fb,.pointer (some ⟨fb+1,0,none⟩),u 6,u 7,u 8,u 9,u 10,u 11,u 12,u 13,u 14,u 15,u 16,u 17,u 18,u 19,u 20,u 21,u 22,u 23,u 24,u 25,u 26,u 27,u 28,u 29,u 30,u 31,u 32,u 33,u 34,u 35,u 36,u 37,u 38,u 39,u 40,u 41,u 42,u 43,u 44,u 45,u 46,u 47,u 48,u 49,u 50,u 51,u 52,u 53,u 54,u 55,u 56,u 57,u 58,u 59,u 60,u 61,u 62,u 63,u 64,u 65,u 66,u 67,u 68,u 69,u 70,u 71,u 72,u 73,u 74,u 75,u 76,u 77,u 78,u 79,u 80,u 81,u 82,u 83,u 84,u 85,u 86,u 87,u 88,u 89,u 90,u 91,u 92,u 93,u 94,u 95,u 96,u 97,u 98,u 99,u 100,u 101,u 102,u 103,u 104,u 105,u 106,u 107,u 108,u 109,u 110,u 111,u 112,u 113,u 114,u 115,u 116,u 117,u 118,u 119,u 120,u 121,u 122,u 123,u 124,u 125,u 126,u 127,u 128,u 129,u 130,u 131])(i:Inst)(f:Int)(x:Rn)(s:Mt)(h1:On F w (AllA (plL c g fb i f x src s)) wr)(h2:s.Ok)(h3:x.Ok)(h4:s.tells=tells)(h5:goesT tab n x s=some q)(h7:P n c src s):
 PlayT tab P w F c g fb xt src q tells n { tmps:=tm,defers:=[{ target:= .fn (.func 67) #[fb],args:=#[] }] } wr:=⟨u,by rw[<-h],i,f,x,s,h1,h2,h3,h4,h5,h7⟩
section
variable {w w':World}{F:Nat->Prop}{c:Vc}{g:Nat}{x:Rn}{src:Value}{s:Mt}
theorem v_playT{tab:Inst->Option (Rn->Mt->Rs)}{P Q:Nat->Kn}{R:Kn}(ht:TabOk tab P Q R)(N:Nat)(hb: (VA c g x src s).holds w F)(hp0:P N c src s)(hs:s.Ok)(hx:x.Ok)(xt:Int)(hxt:V64 xt)(q:Rs)(hq:goesT tab N { x with pc:=xt } (s.pushR [0])=some q)(hroom:1<=s.pr.rm-s.r)(htell:TellOk c s.tells):
 Calls prog 41 #[g,xt] w (Got (.returned q.f) (VA c g q.x src q.s) F w):=by
 have hon:=(((On.refl hb).box #[(0:Int)] 51).box #[(0:Int),(0:Int),(0:Int),(0:Int)] 168).box #[(0:Int)] 3
 have hz: (w.alloc (.cells #[(0:Int)] 51)).heap.size=w.heap.size+1:=by simp
 have hz2: ((w.alloc (.cells #[(0:Int)] 51)).alloc (.cells #[(0:Int),(0:Int),(0:Int),(0:Int)] 168)).heap.size=w.heap.size+2:=by simp
 rw[hz,hz2]at hon
 have r0:=(On.refl hb).r0
 have m6:=(On.refl hb).m6
 have hlt:=(On.refl hb).rlt
 have hmlt:=(On.refl hb).mlt
 have hpush:=v_pushR_under (c:=c) (g:=g) (x:=x) (src:=src) (s:=s) 3 (by simp) rfl hon hs [0] (λv hv=>by rw[List.mem_singleton.1 hv];unfold V64;omega) 0 oM (w.heap.size+2) rfl hroom
 have hmf: ∀(fn:Fn) (first cap:Array Value) (w:World),(Instr.makeFunc fn first cap).run prog w = .ok (.func fn first cap) w:=λ_ _ _ _=>rfl
 replace hpush:=hid hpush
 replace hon:=hid hon
 replace hq:=hid hq
 replace htell:=hid htell
 clear hb hz hz2
 go_enter_defers func41,ntmps41
 go_wp2_with fail
 refine wp_scope_ghost 0 (PlayT tab P w F c g w.heap.size xt src q s.tells) rfl ?pass ?first
 case first=>
  intro hpass
  replace hpass:=hid hpass
  go_wp2_with fail
  refine mo hpush.out λw1 hon1=>?_
  have hon1:=hon1.tail
  have f3:=hon1.tail.tail.rf 3
  have c3:=hon1.tail.tail.r3
  have hset:=hon1.setAt 2 rfl 3 (.int .i64 xt)
  replace hset:=hid hset
  replace hon1:=hid hon1
  go_wp2_with fail
  refine(try_ok _).mono ?_
  rintro e w2 ⟨rfl,rfl⟩
  go_wp2_with fail
  go_step3
  rename_i hK
  refine hK _ _ ?_
  exact hpass.out N _ _ (PlayT.mk _ rfl rfl Inst.none 0 { x with pc:=xt } (s.pushR [0]) hset.out (pushR_ok hs [0] hroom) ⟨hx.base,hx.base2,hx.next,hxt,hx.left,hx.left2⟩ rfl hq.out (ht.push _ _ _ _ _ hp0))
 case pass=>
  intro n a wr hI
  obtain⟨u,ha,i0,f0,x1,s1,hon1,hs1,hx1,ht1,hq1,hw1⟩:=hI
  replace hw1:=hid hw1
  subst ha
  clear hpush hq hon r0 m6 hlt hmlt
  cases n with
  | zero=>cases hq1
  | succ n=>
    have q00:=hon1.tail.tail.r0
    have q2:=hon1.tail.tail.r2
    have q3:=hon1.tail.tail.r3
    have q1:=hon1.tail.tail.r1
    have qm0:=hon1.tail.tail.m0
    have fr:=hon1.tail.tail.rf
    have ff:=(hon1.blkAt 1 rfl).frozen 0
    unfold goesT at hq1
    by_cases hl:x1.left=0
    ·have hst:stepT tab x1 s1=some ⟨13,x1,s1⟩:=by unfold stepT;rw[if_pos hl]
     rw[hst]at hq1
     have hq2:q= ⟨13,x1,s1⟩:=by
      have h:=hq1
      simp at h
      exact h.symm
     subst hq2
     have e1: (x1.left==0)=true:=by simpa using hl
     have hset:=hon1.setAt 1 rfl 0 (.int .i64 13)
     have qf:wr.cell? (w.heap.size,0)=some (f0:Vl):=(hon1.blkAt 1 rfl).cell 0
     replace hset:=hid hset
     replace hon1:=hid hon1
     clear hl hq1 hst hs1 hx1 ht1 hs hx hxt hroom
     go_wp2_with fail
     exact door_ret w.heap.size 13 w _ F c g x1 src s1 i0 hset.out _ rfl
    ·have e1: (x1.left==0)=false:=by simpa using hl
     have e0:=hid e1
     have hl0:=hx1.left
     have hl2:=hx1.left2
     have hst:stepT tab x1 s1=if(s1.S.fetch x1.mode x1.pc).2≠0 then some ⟨(s1.S.fetch x1.mode x1.pc).2,{ x1 with left:=x1.left-1 },s1⟩
      else
       let i:=(s1.S.fetch x1.mode x1.pc).1
       let x2:={ x1 with left:=x1.left-1,next:=wrap64 (x1.pc+8*i.cells) }
       if asks i x2 s1≠0 then some ⟨asks i x2 s1,x2,s1⟩
       else(tab i).map λq=>if(q x2 s1).f≠0 then q x2 s1 else⟨0,{ (q x2 s1).x with pc:=(q x2 s1).x.next },(q x2 s1).s.told (q x2 s1).x i.op⟩:=by unfold stepT;rw[if_neg hl]
     rw[hst]at hq1
     clear hst
     have hon2:On F w (AllA (plL c g w.heap.size i0 f0 { x1 with left:=x1.left-1 } src s1)) (wr.setCell (g,2) (.int .i64 (x1.left-1))):=hon1.setAt 2 rfl 2 (.int .i64 (x1.left-1))
     have hfe:=λw1 (h1:On F w (AllA (plL c g w.heap.size i0 f0 { x1 with left:=x1.left-1 } src s1)) w1)=>h1.callAtG 4 rfl (λF' ha=>got_of_at ha λw0 L h=>fetch_walk h x1.mode x1.pc)
     have hv:=fetch_v64 s1.S x1.mode x1.pc
     obtain⟨I,hI⟩: ∃I,s1.S.fetch x1.mode x1.pc=I:=⟨_,rfl⟩
     rw[hI]at hfe hq1 hv
     obtain⟨i,f⟩:=I
     simp only[Inst.v]at hfe hq1 hv
     clear hI
     replace hfe:=hid hfe
     replace hq1:=hid hq1
     replace hon1:=hid hon1
     replace hon2:=hid hon2
     replace hv:=hid hv
     clear hl
     go_wp2_with fail
     generalize wr.setCell (g,2) (.int .i64 (x1.left-1))=wr2 at *
     have p0:=hon2.out.tail.tail.r0
     have p1:=hon2.out.tail.tail.r1
     have p3:=hon2.out.tail.tail.r3
     have pm:=hon2.out.tail.tail.m0
     have n1:=hon2.out.neAt 0 2 (by decide) rfl rfl
     have n2:=hon2.out.neAt 1 2 (by decide) rfl rfl
     have n3:=hon2.out.neAt 0 3 (by decide) rfl rfl
     have n4:=hon2.out.neAt 1 3 (by decide) rfl rfl
     have n5:=hon2.out.neAt 0 1 (by decide) rfl rfl
     replace hfe:=hid (hfe.out wr2.drew hon2.out.drew)
     clear q00 q2 q3 q1 qm0 fr ff hon1 e1
     refine wp_region_noPan ?_
     go_region_held (λw'=>w'.cell? (g,0)=some (c.gM:Vl)∧w'.cell? (c.gM,0)=some (c.gI:Vl)∧w'.cell? (g,1)=some (x1.mode:Vl)∧w'.cell? (g,3)=some (x1.pc:Vl)) (go_keep)
      ((go_at_call 69;refine mo hfe.out λw3 hon3=>?_;have z0:=hon3.tail.tail.r0;have z1:=hon3.tail.tail.r1;have z3:=hon3.tail.tail.r3;have zm:=hon3.tail.tail.m0;have y0:w3.cell? ⟨w.heap.size+1,0,none⟩=some (i0.op:Vl):=(hon3.blkAt 0 rfl).cell 0;have y1:w3.cell? ⟨w.heap.size+1,1,none⟩=some (i0.arg:Vl):=(hon3.blkAt 0 rfl).cell 1;have y2:w3.cell? ⟨w.heap.size+1,2,none⟩=some (i0.lit:Vl):=(hon3.blkAt 0 rfl).cell 2;have y3:w3.cell? ⟨w.heap.size+1,3,none⟩=some (i0.cells:Vl):=(hon3.blkAt 0 rfl).cell 3;have yf:w3.cell? (w.heap.size,0)=some (f0:Vl):=(hon3.blkAt 1 rfl).cell 0;have ff:=(hon3.blkAt 1 rfl).frozen 0;have fi0:=(hon3.blkAt 0 rfl).frozen 0;have fi1:=(hon3.blkAt 0 rfl).frozen 1;have fi2:=(hon3.blkAt 0 rfl).frozen 2;have fi3:=(hon3.blkAt 0 rfl).frozen 3;replace hon3:=hid hon3))
     refine NoPan.normal ?_
     have hon4:On F w (AllA (plL c g w.heap.size i f { x1 with left:=x1.left-1 } src s1)) _:=((((hon3.out.setAt 0 rfl 0 (.int .i64 i.op)).setAt 0 rfl 1 (.int .i64 i.arg)).setAt 0 rfl 2 (.int .i64 i.lit)).setAt 0 rfl 3 (.int .i64 i.cells)).setAt 1 rfl 0 (.int .i64 f)
     replace hon4:=hid hon4
     clear z0 z1 z3 zm y0 y1 y2 y3 yf ff fi0 fi1 fi2 fi3 hon3 p0 p1 p3 pm hon2 hfe
     generalize (((((w3.setCell ⟨w.heap.size+1,0,none⟩ (.int .i64 i.op)).setCell ⟨w.heap.size+1,1,none⟩ (.int .i64 i.arg)).setCell ⟨w.heap.size+1,2,none⟩ (.int .i64 i.lit)).setCell ⟨w.heap.size+1,3,none⟩ (.int .i64 i.cells)).setCell (w.heap.size,0) (.int .i64 f))=w4 at *
     have qf:w4.cell? (w.heap.size,0)=some (f:Vl):=(hon4.out.blkAt 1 rfl).cell 0
     by_cases hf:f=0
     rotate_left
     ·have hq2:q= ⟨f,{ x1 with left:=x1.left-1 },s1⟩:=by
       have h:=hq1.out
       rw[if_pos hf]at h
       simp only at h
       rw[if_pos hf]at h
       exact(Option.some.inj h).symm
      subst hq2
      have htr:=λw=>try_no f hf w
      replace htr:=hid htr
      clear hf hq1
      go_wp2_with fail
      refine(htr.out _).mono ?_
      rintro e w5 ⟨rfl,rfl⟩
      exact door_panic w.heap.size f f w _ F c g _ src s1 i hon4.out _ rfl
     subst hf
     have q0:=hon4.out.tail.tail.r0
     have q3:=hon4.out.tail.tail.r3
     have q4:=hon4.out.tail.tail.r4
     have qf4:=hon4.out.tail.tail.rf 4
     have b3:w4.cell? ⟨w.heap.size+1,3,none⟩=some (i.cells:Vl):=(hon4.out.blkAt 0 rfl).cell 3
     have k3: ∀v,(w4.setCell (g,4) v).drew.cell? (g,3)=some (x1.pc:Vl):=λv=>((hon4.out.setAt 2 rfl 4 v).drew.blkAt 2 rfl).cell 3
     have kb: ∀v,(w4.setCell (g,4) v).drew.cell? ⟨w.heap.size+1,3,none⟩=some (i.cells:Vl):=λv=>((hon4.out.setAt 2 rfl 4 v).drew.blkAt 0 rfl).cell 3
     go_wp2_with fail
     refine(try_ok _).mono ?_
     rintro e w5 ⟨rfl,rfl⟩
     go_wp2_with fail
     refine wp_region_noPan ?_
     go_region_held (λw'=>w'.cell? (g,3)=some (x1.pc:Vl)∧w'.cell? ⟨w.heap.size+1,3,none⟩=some (i.cells:Vl)) (go_keep) (fail)
     refine NoPan.normal ?_
     have hnw:IntKind.i64.wrap (x1.pc+IntKind.i64.wrap (8*i.cells))=wrap64 (x1.pc+8*i.cells):=by
      have h:=hv.out.2.2
      rw[IntWalk.i64_in (8*i.cells) h,IntKind.wrap_i64]
      unfold wrap64
      omega
     rw[hnw]
     clear k3 kb hnw q0 q3 q4 qf4 b3 qf n1 n2 n3 n4 n5
     have hon5:On F w (AllA (plL c g w.heap.size i 0 { x1 with left:=x1.left-1,next:=wrap64 (x1.pc+8*i.cells) } src s1)) _:=(hon4.out.setAt 2 rfl 4 (.int .i64 (wrap64 (x1.pc+8*i.cells)))).drew
     have hx2: ({ x1 with left:=x1.left-1,next:=wrap64 (x1.pc+8*i.cells) }:Rn).Ok:=by
      have hne:x1.left≠0:=by simpa using e0.out
      have h1:0<=x1.left-1:=by omega
      have h2:x1.left-1<=1000000:=by omega
      exact⟨hx1.base,hx1.base2,wrap_v64 _,hx1.pc,h1,h2⟩
     replace hon5:=hid hon5
     have hq2:=hq1.out
     rw[if_neg (by simp)]at hq2
     try simp only at hq2
     have hmode: ({ x1 with left:=x1.left-1,next:=wrap64 (x1.pc+8*i.cells) }:Rn).left=x1.left-1:=rfl
     generalize ({ x1 with left:=x1.left-1,next:=wrap64 (x1.pc+8*i.cells) }:Rn)=x2 at *
     clear hq1 hon4
     generalize (w5.setCell (g,4) (.int .i64 (wrap64 (x1.pc+8*i.cells)))).drew=w6 at *
     have b0:w6.cell? ⟨w.heap.size+1,0,none⟩=some (i.op:Vl):=(hon5.out.blkAt 0 rfl).cell 0
     have b1:w6.cell? ⟨w.heap.size+1,1,none⟩=some (i.arg:Vl):=(hon5.out.blkAt 0 rfl).cell 1
     have b2:w6.cell? ⟨w.heap.size+1,2,none⟩=some (i.lit:Vl):=(hon5.out.blkAt 0 rfl).cell 2
     have b3:w6.cell? ⟨w.heap.size+1,3,none⟩=some (i.cells:Vl):=(hon5.out.blkAt 0 rfl).cell 3
     have hak:Calls prog 70 #[g,.agg #[i.op,i.arg,i.lit,i.cells]] w6 (Got (tryE (asks i x2 s1)) (AllA (plL c g w.heap.size i 0 x2 src s1)) F w):=
      hon5.out.callDrop 2 (by simp[plL]) λF' hb' _ _=>v_asks hb' hs1 hx2 i
     by_cases hA:asks i x2 s1=0
     rotate_left
     ·obtain⟨A,hAe⟩: ∃A,asks i x2 s1=A:=⟨_,rfl⟩
      rw[hAe]at hA hak hq2
      rw[if_pos hA]at hq2
      simp only at hq2
      rw[if_pos hA]at hq2
      obtain rfl:=Option.some.inj hq2
      clear hq2 hAe
      have e2:tryE A = .panicked [flt A]:=by unfold tryE;rw[if_neg hA]
      rw[e2]at hak
      clear hA e2
      replace hak:=hid hak
      go_wp2_with fail
      refine mo hak.out λw7 hon6=>?_
      exact door_panic w.heap.size A 0 w _ F c g _ src s1 i hon6 _ rfl
     rw[hA]at hak
     rw[if_neg (by simp[hA])]at hq2
     have hask:=Asked.of hA
     rcases hp:tab i with _|Q
     ·rw[hp]at hq2
      cases hq2
     rw[hp]at hq2
     obtain⟨hdo,hke⟩:=ht.ok n i Q hp
     obtain⟨hs3,hx3,ht3,hlf3,hw3⟩:=hke c src x2 s1 hw1.out hs1 hx2 hv.out.1 hv.out.2.1 hask
     have hdoes: ∀w1,On F w (AllA (plL c g w.heap.size i 0 x2 src s1)) w1->Calls prog 71 #[g,.agg #[i.op,i.arg,i.lit,i.cells]] w1 (Got (tryE (Q x2 s1).f) (AllA (plL c g w.heap.size i 0 (Q x2 s1).x src (Q x2 s1).s)) F w):=
      λw1 h1=>h1.callDrop 2 (by simp[plL]) λF' hb' _ _=>hdo c g x2 src s1 w1 F' hw1.out hs1 hx2 hv.out.1 hv.out.2.1 hask hb'
     simp only[Option.map_some]at hq2
     generalize Q x2 s1=R at *
     obtain⟨rf,x3,s3⟩:=R
     simp only at hq2 hs3 hx3 ht3 hlf3 hw3 hdoes
     have hak':Calls prog 70 #[g,.agg #[i.op,i.arg,i.lit,i.cells]] w6 (Got (.returned (.tuple #[])) (AllA (plL c g w.heap.size i 0 x2 src s1)) F w):=hak
     clear hak hA hask hke hdo hp
     replace hak:=hid hak'
     replace hdoes:=hid hdoes
     replace hq2:=hid hq2
     clear hak'
     go_wp2_with fail
     refine mo hak.out λw7 hon6=>?_
     have d0:w7.cell? ⟨w.heap.size+1,0,none⟩=some (i.op:Vl):=(hon6.blkAt 0 rfl).cell 0
     have d1:w7.cell? ⟨w.heap.size+1,1,none⟩=some (i.arg:Vl):=(hon6.blkAt 0 rfl).cell 1
     have d2:w7.cell? ⟨w.heap.size+1,2,none⟩=some (i.lit:Vl):=(hon6.blkAt 0 rfl).cell 2
     have d3:w7.cell? ⟨w.heap.size+1,3,none⟩=some (i.cells:Vl):=(hon6.blkAt 0 rfl).cell 3
     replace hdoes:=hid (hdoes.out _ hon6)
     clear hon6 b0 b1 b2 b3
     by_cases hrf:rf=0
     rotate_left
     ·have hq3:=hq2.out
      rw[if_pos hrf]at hq3
      simp only at hq3
      rw[if_pos hrf]at hq3
      obtain rfl:=Option.some.inj hq3
      have e2:tryE rf = .panicked [flt rf]:=by unfold tryE;rw[if_neg hrf]
      rw[e2]at hdoes
      clear hrf e2 hq3 hq2
      go_wp2_with fail
      refine mo hdoes.out λw8 hon7=>?_
      exact door_panic w.heap.size rf 0 w _ F c g _ src s3 i hon7 _ rfl
     subst hrf
     have hdoes':Calls prog 71 #[g,.agg #[i.op,i.arg,i.lit,i.cells]] w7 (Got (.returned (.tuple #[])) (AllA (plL c g w.heap.size i 0 x3 src s3)) F w):=hdoes.out
     replace hdoes':=hid hdoes'
     clear hdoes
     go_wp2_with fail
     refine mo hdoes'.out λw8 hon7=>?_
     have c0:=hon7.tail.tail.r0
     have c7:=hon7.tail.tail.m7
     have hq3:=hq2.out
     clear hdoes' hak d0 d1 d2 d3 hq2 hon5
     obtain⟨s4,hs4⟩: ∃s4,s3.told x3 i.op=s4:=⟨_,rfl⟩
     simp only[ne_eq,not_true_eq_false,if_false,hs4]at hq3
     have hs4ok:s4.Ok:=by rw[<-hs4];exact told_ok hs3 x3 i.op
     have ht4:s4.tells=s.tells:=by rw[<-hs4];unfold Mt.told;split<;> (show s3.tells=s.tells;rw[ht3,ht1])
     have ht3':s3.tells=s.tells:=by rw[ht3,ht1]
     have hn3:s3.seen.length<1000000000:=ht.len _ _ _ _ hw3
     have hw4:P n c src s4:=by rw[<-hs4];exact ht.told _ _ _ _ _ _ hw3
     replace hw4:=hid hw4
     replace hn3:=hid hn3
     replace hq3:=hid hq3
     replace hs4:=hid hs4
     replace hon7:=hid hon7
     replace ht3:=hid ht3
     replace ht1:=hid ht1
     replace ht4:=hid ht4
     replace ht3':=hid ht3'
     replace hmode:=hid hmode
     replace hlf3:=hid hlf3
     rcases htell.out with⟨htf,htn⟩ | ⟨htf,gb,htn,htc⟩
     ·have e4:s4=s3:=by
       rw[<-hs4.out]
       unfold Mt.told
       rw[if_neg (by rw[ht3'.out,htf];simp)]
      subst e4
      rw[htn]at c7
      replace htn:=hid htn
      replace htf:=hid htf
      have hnn:=neq_nilFunc w8
      have g4:=hon7.out.tail.tail.r4
      have g3:=hon7.out.tail.tail.r3
      have gf3:=hon7.out.tail.tail.rf 3
      have hset:On F w (AllA (plL c g w.heap.size i 0 { x3 with pc:=x3.next } src s4)) (w8.setCell (g,3) (.int .i64 x3.next)):=hon7.out.setAt 2 rfl 3 (.int .i64 x3.next)
      have h5:=hset.tail.tail.r5
      have hf0:=(hset.blkAt 1 rfl).cell 0
      have hff:=(hset.blkAt 1 rfl).frozen 0
      have hst:On F w (AllA (plL c g w.heap.size i 0 { x3 with pc:=x3.next } src s4)) ((w8.setCell (g,3) (.int .i64 x3.next)).setCell (w.heap.size,0) (.int .i64 0)):=hset.setAt 1 rfl 0 (.int .i64 0)
      have hx4: ({ x3 with pc:=x3.next }:Rn).Ok:=⟨hx3.base,hx3.base2,hx3.next,hx3.next,hx3.left,hx3.left2⟩
      replace hset:=hid hset
      replace hst:=hid hst
      replace hon7:=hid hon7
      rcases hov:x3.over with _|_
      ·have hq4:goesT tab n { x3 with pc:=x3.next } s4=some q:=by
        have h:=hq3.out
        rw[if_neg (by rw[hov];simp)]at h
        exact h
       rw[hov]at h5
       replace hq4:=hid hq4
       replace hov:=hid hov
       go_wp2_with fail
       go_step3
       refine⟨rfl,n,by omega,?_⟩
       exact PlayT.mk _ rfl rfl i 0 _ s4 hset.out hs4ok hx4 ht4.out hq4.out hw4.out
      ·have hq4: (⟨0,{ x3 with pc:=x3.next },s4⟩:Rs)=q:=by
        have h:=hq3.out
        rw[if_pos hov]at h
        exact Option.some.inj h
       rw[hov]at h5
       subst hq4
       replace hov:=hid hov
       go_wp2_with fail
       exact door_ret w.heap.size 0 w _ F c g _ src s4 i hst.out _ rfl
     ·have e4:s4 = { s3 with seen:=s3.seen ++ [⟨x3.pc,i.op,s3.d,s3.top 0,x3.left⟩] }:=by
       rw[<-hs4.out]
       unfold Mt.told
       rw[if_pos (by rw[ht3'.out,htf])]
      rw[htn]at c7
      have hnn:=neq_func w8 (.func 33) #[gb] #[]
      replace htn:=hid htn
      replace htf:=hid htf
      replace htc:=hid htc
      replace e4:=hid e4
      have g3:=hon7.out.tail.tail.r3
      have g2:=hon7.out.tail.tail.r2
      have b0:w8.cell? ⟨w.heap.size+1,0,none⟩=some (i.op:Vl):=(hon7.out.blkAt 0 rfl).cell 0
      have m5:=hon7.out.tail.tail.m5
      have l1:=hon7.out.tail.tail.rlt
      have l2:=hon7.out.tail.tail.mlt
      have l3:=(hon7.out.blkAt 0 rfl).lt
      have hsd:=hon7.out.tail.tail.sd
      replace hsd:=hid hsd
      go_wp2_with fail
      go_upto_region 14 with fail
      go_cut [6]from 80 to 98 (λa wx=>a = .pointer w8.heap.size∧On F w (AllA (BlkA w8.heap.size 154 #[x3.pc,i.op,(s3.d:Int),(0:Int),x3.left]::plL c g w.heap.size i 0 x3 src s3)) wx)
      case first=>
       have hbx:=(hon7.out.box #[x3.pc,i.op,(s3.d:Int),(0:Int),x3.left] 154).drew
       replace hbx:=hid hbx
       refine wp_region_noPan ?_
       go_region_held (λw'=>w'.cell? (g,0)=some (c.gM:Vl)∧w'.cell? (c.gM,5)=some (c.gD:Vl)∧w'.cell? (g,3)=some (x3.pc:Vl)∧w'.cell? (g,2)=some (x3.left:Vl)∧w'.cell? ⟨w.heap.size+1,0,none⟩=some (i.op:Vl)) (go_keep)
        ((go_at_call 11;refine(k_depth (first_of_two (p:=Blk _ c.gD 106 (stkC c.gI s3.pd s3.d)) (by first|exact hsd.out.drew|exact(hsd.out.alloc _).drew))).mono ?_;rintro e w9 ⟨rfl,rfl⟩))
       all_goals refine NoPan.normal ?_
       all_goals go_wp2_with fail
       all_goals go_meet
       all_goals exact⟨rfl,hbx.out⟩
      case rest=>
       obtain⟨rfl,honc⟩:=hcut
       clear hnn g3 g2 b0 m5 l1 l2 l3 hsd
       have r0:=honc.tail.tail.tail.r0
       have m5:=honc.tail.tail.tail.m5
       obtain⟨gb',him⟩:=honc.tail.tail.tail.im
       have hpk:=k_peek honc.tail.tail.tail.sd him hs3.pd hs3.dle 0
       unfold peekV at hpk
       have etop:stopv s3.S s3.pd.fr s3.d 0=s3.top 0:=rfl
       rw[etop]at hpk
       generalize (if hasB s3.d 0=true then 0 else s3.pd.un)=pf at *
       clear him etop
       replace hpk:=hid hpk
       replace honc:=hid honc
       go_wp2_with fail
       refine mo hpk.out λwp hbl=>?_
       have hon9:=honc.out.below hbl
       have y3:wp.cell? (w8.heap.size,3)=some (.int .i64 0):=(hon9.blkAt 0 rfl).cell 3
       have f3:=(hon9.blkAt 0 rfl).frozen 3
       have hst3:On F w (AllA (BlkA w8.heap.size 154 #[x3.pc,i.op,(s3.d:Int),(s3.top 0),x3.left]::plL c g w.heap.size i 0 x3 src s3)) (wp.setCell (w8.heap.size,3) (.int .i64 (s3.top 0))):=hon9.setAt 0 rfl 3 (.int .i64 (s3.top 0))
       have v0:=hst3.tail.tail.tail.r0
       have v7:=hst3.tail.tail.tail.m7
       rw[htn.out]at v7
       have x0: (wp.setCell (w8.heap.size,3) (.int .i64 (s3.top 0))).cell? (w8.heap.size,0)=some (x3.pc:Vl):=(hst3.blkAt 0 rfl).cell 0
       have x1c: (wp.setCell (w8.heap.size,3) (.int .i64 (s3.top 0))).cell? (w8.heap.size,1)=some (i.op:Vl):=(hst3.blkAt 0 rfl).cell 1
       have x2c: (wp.setCell (w8.heap.size,3) (.int .i64 (s3.top 0))).cell? (w8.heap.size,2)=some ((s3.d:Int):Vl):=(hst3.blkAt 0 rfl).cell 2
       have x3c: (wp.setCell (w8.heap.size,3) (.int .i64 (s3.top 0))).cell? (w8.heap.size,3)=some ((s3.top 0):Vl):=(hst3.blkAt 0 rfl).cell 3
       have x4c: (wp.setCell (w8.heap.size,3) (.int .i64 (s3.top 0))).cell? (w8.heap.size,4)=some (x3.left:Vl):=(hst3.blkAt 0 rfl).cell 4
       have htl:Calls prog 33 #[gb,.agg #[x3.pc,i.op,(s3.d:Int),(s3.top 0),x3.left]] (wp.setCell (w8.heap.size,3) (.int .i64 (s3.top 0))).drew
        (Got (.returned (.tuple #[])) (AllA (BlkA w8.heap.size 154 #[x3.pc,i.op,(s3.d:Int),(s3.top 0),x3.left]::plL c g w.heap.size i 0 x3 src s4)) F w):=by
        rw[e4.out]
        exact hst3.drew.callAtG 11 rfl (λF' ha=>htc.out s3.seen ⟨x3.pc,i.op,s3.d,s3.top 0,x3.left⟩ _ F' hn3.out ha)
       generalize s3.top 0=tp at hpk hst3 htl x0 x1c x2c x3c x4c v0 v7⊢
       replace htl:=hid htl
       replace hst3:=hid hst3
       replace hon9:=hid hon9
       clear hbl
       go_wp2_with fail
       generalize wp.setCell (w8.heap.size,3) (.int .i64 tp)=wq at *
       refine wp_region_noPan ?_
       go_region_held (λw'=>w'.cell? (g,0)=some (c.gM:Vl)∧w'.cell? (c.gM,7)=some (.func (.func 33) #[gb] #[])∧w'.cell? (w8.heap.size,0)=some (x3.pc:Vl)∧w'.cell? (w8.heap.size,1)=some (i.op:Vl)∧w'.cell? (w8.heap.size,2)=some ((s3.d:Int):Vl)∧w'.cell? (w8.heap.size,3)=some (tp:Vl)∧w'.cell? (w8.heap.size,4)=some (x3.left:Vl)) (go_keep)
        ((go_at_call 33;refine mo htl.out λw9 honz=>?_;have s0:=honz.tail.tail.tail.r0;have s7:=honz.tail.tail.tail.m7;rw[htn.out]at s7;have o0:w9.cell? (w8.heap.size,0)=some (x3.pc:Vl):=(honz.blkAt 0 rfl).cell 0;have o1:w9.cell? (w8.heap.size,1)=some (i.op:Vl):=(honz.blkAt 0 rfl).cell 1;have o2:w9.cell? (w8.heap.size,2)=some ((s3.d:Int):Vl):=(honz.blkAt 0 rfl).cell 2;have o3:w9.cell? (w8.heap.size,3)=some (tp:Vl):=(honz.blkAt 0 rfl).cell 3;have o4:w9.cell? (w8.heap.size,4)=some (x3.left:Vl):=(honz.blkAt 0 rfl).cell 4;replace honz:=hid honz))
       refine NoPan.normal ?_
       have hon8:On F w (AllA (plL c g w.heap.size i 0 x3 src s4)) w9:=honz.out.tail
       replace hon8:=hid hon8
       clear s0 s7 o0 o1 o2 o3 o4 v0 v7 x0 x1c x2c x3c x4c y3 f3
       have g4:=hon8.out.tail.tail.r4
       have g3:=hon8.out.tail.tail.r3
       have gf3:=hon8.out.tail.tail.rf 3
       have hset:On F w (AllA (plL c g w.heap.size i 0 { x3 with pc:=x3.next } src s4)) (w9.setCell (g,3) (.int .i64 x3.next)):=hon8.out.setAt 2 rfl 3 (.int .i64 x3.next)
       have h5:=hset.tail.tail.r5
       have hf0:=(hset.blkAt 1 rfl).cell 0
       have hff:=(hset.blkAt 1 rfl).frozen 0
       have hst:On F w (AllA (plL c g w.heap.size i 0 { x3 with pc:=x3.next } src s4)) ((w9.setCell (g,3) (.int .i64 x3.next)).setCell (w.heap.size,0) (.int .i64 0)):=hset.setAt 1 rfl 0 (.int .i64 0)
       have hx4: ({ x3 with pc:=x3.next }:Rn).Ok:=⟨hx3.base,hx3.base2,hx3.next,hx3.next,hx3.left,hx3.left2⟩
       replace hset:=hid hset
       replace hst:=hid hst
       replace hon8:=hid hon8
       rcases hov:x3.over with _|_
       ·have hq4:goesT tab n { x3 with pc:=x3.next } s4=some q:=by
         have h:=hq3.out
         rw[if_neg (by rw[hov];simp)]at h
         exact h
        rw[hov]at h5
        replace hq4:=hid hq4
        replace hov:=hid hov
        go_wp2_with fail
        go_step3
        refine⟨rfl,n,by omega,?_⟩
        exact PlayT.mk _ rfl rfl i 0 _ s4 hset.out hs4ok hx4 ht4.out hq4.out hw4.out
       ·have hq4: (⟨0,{ x3 with pc:=x3.next },s4⟩:Rs)=q:=by
         have h:=hq3.out
         rw[if_pos hov]at h
         exact Option.some.inj h
        rw[hov]at h5
        subst hq4
        replace hov:=hid hov
        go_wp2_with fail
        exact door_ret w.heap.size 0 w _ F c g _ src s4 i hst.out _ rfl
end
section
variable {w w':World}{F:Nat->Prop}{c:Vc}{s:Mt}
theorem v_runT{tab:Inst->Option (Rn->Mt->Rs)}{P Q:Nat->Kn}{R:Kn}(ht:TabOk tab P Q R)(N:Nat)(sp:Option Addr)(hb: (AllA (mL c s)).holds w F)(hp0:P N c (.pointer sp) s)(hs:s.Ok)(htell:TellOk c s.tells)(mode xt fuel:Int)(hxt:V64 xt)(hroom:1<=s.pr.rm-s.r)(q:Rs)
 (hq:goesT tab N { Rn.start mode fuel with pc:=xt } (s.pushR [0])=some q):
 Calls prog 12 #[c.gM,mode,xt,fuel,.pointer sp] w (Got (.returned (.tuple #[q.f,(clip fuel-q.x.left:Int)])) (AllA (mL c q.s)) F w):=by
 have hon:=(On.refl hb).box (runC c (Rn.start mode fuel) (.pointer sp)) 109
 have hok: (Rn.start mode fuel).Ok:=start_ok mode fuel
 have hq':goesT tab N { Rn.start mode fuel with pc:=xt } (s.pushR [0])=some q:=hq
 have hbd:=(goesT_ok ht c (.pointer sp) _ { Rn.start mode fuel with pc:=xt } _ _ (ht.push _ _ _ _ _ hp0) (pushR_ok hs [0] hroom) ⟨hok.base,hok.base2,hok.next,hxt,hok.left,hok.left2⟩ hq).2.1
 have hcl:0<=clip fuel∧clip fuel<=1000000:=by unfold clip;omega
 have hbd2:q.x.left<=clip fuel:=hbd.2
 have hbd1:=hbd.1
 have hpl:=On.callG (A:=AllA (RunA c w.heap.size (Rn.start mode fuel) (.pointer sp)::mL c s)) hon (λF' hb'=>v_playT ht N (c:=c) (g:=w.heap.size) (x:=Rn.start mode fuel) (src:=(.pointer sp)) (s:=s) hb' hp0 hs hok xt hxt q hq' hroom htell)
 have hr:runC c (Rn.start mode fuel) (.pointer sp)=#[.pointer c.gM,.int .i64 mode,.int .i64 (clip fuel),.int .i64 0,.int .i64 0,.bool false,.bool false,.int .i64 0,.pointer sp]:=rfl
 rw[hr]at hpl
 have hmm:max 0 (min fuel 1000000)=clip fuel:=rfl
 replace hpl:=hid hpl
 clear hb hon hbd hq hq' hr hok hs htell
 generalize clip fuel=L at *
 go_enter func12,ntmps12
 go_wp2_with fail
 refine mo hpl.out λw1 h=>?_
 have c2:w1.cell? (w.heap.size,2)=some (q.x.left:Vl):=(h.blkAt 0 rfl).cell 2
 replace h:=hid h
 go_wp2_with fail
 go_quiet (fail)
 go_wp2
 go_ret2
 exact⟨rfl,h.out.tail.drewN _⟩
end
theorem told_seen(s:Mt)(x:Rn)(op:Int): (s.told x op).seen.length<=s.seen.length+1:=by
 unfold Mt.told
 split
 ·show(s.seen ++ [_]).length<=_
  rw[List.length_append,List.length_singleton];exact Nat.le_refl _
 ·exact Nat.le_succ _
theorem goesS_T: ∀(n:Nat) (x:Rn) (s:Mt),goesS n x s=goesT parts n x s
 | 0,_,_=>rfl
 | n+1,x,s=>by
   unfold goesS goesT
   rw[show stepS x s=stepT parts x s from rfl]
   cases stepT parts x s with
   | none=>rfl
   | some q=>simp only[goesS_T n]
theorem tab_old:TabOk parts (λn _ _ s=>s.seen.length+n<=1000000000) (λn _ _ s=>s.seen.length+n+1<=1000000000) (λ_ _ _=>True) where
 ok:=λn i q h=>⟨(parts_ok i q h).1.toG _,λc src x s hp hs hx h1 h2 ha=>by
  have k:=(parts_ok i q h).2 x s hs hx h1 h2 ha
  exact⟨k.1,k.2.1,k.2.2.1,Int.le_of_eq k.2.2.2.1,by show(q x s).s.seen.length+n+1<=_;rw[k.2.2.2.2];exact hp⟩⟩
 push:=λn c src s l h=>h
 told:=λn c src s x op h=>by
  have h1:=told_seen s x op
  have h2:s.seen.length+n+1<=1000000000:=h
  show(s.told x op).seen.length+n<=_
  omega
 len:=λn c src s h=>by
  have h2:s.seen.length+n+1<=1000000000:=h
  omega
 pr:=λ_ _ _ _ _=>trivial
 qr:=λ_ _ _ _ _=>trivial
section
variable {w w':World}{F:Nat->Prop}{c:Vc}{s:Mt}
theorem v_run(hb: (AllA (mL c s)).holds w F)(hs:s.Ok)(htell:TellOk c s.tells)(mode xt fuel:Int)(hxt:V64 xt)(sp:Option Addr)(hroom:1<=s.pr.rm-s.r)(hsn:s.seen.length<=900000000)(q:Rs)
 (hq:goesS ((clip fuel).toNat+1) { Rn.start mode fuel with pc:=xt } (s.pushR [0])=some q):
 Calls prog 12 #[c.gM,mode,xt,fuel,.pointer sp] w (Got (.returned (.tuple #[q.f,(clip fuel-q.x.left:Int)])) (AllA (mL c q.s)) F w):=by
 exact v_runT tab_old _ sp hb (show s.seen.length+ ((clip fuel).toNat+1)<=1000000000 by have h: (clip fuel).toNat<=1000000:=by { unfold clip;omega };omega) hs htell mode xt fuel hxt hroom q (by rw[<-goesS_T];exact hq)
end
theorem wrap_pc(n:Int)(h:0<=n)(h2:n<=1000000):wrap64 n=n:=by unfold wrap64;omega
theorem stepS_of{x:Rn}{s:Mt}{i:Inst}{q:Rn->Mt->Rs}(hl:x.left≠0)(hf:s.S.fetch x.mode x.pc= (i,0))(hp:parts i=some q)(n:Int)(hn:wrap64 (x.pc+8*i.cells)=n)
 (ha:asks i { x with left:=x.left-1,next:=n } s=0) (r:Rs) (hq:q { x with left:=x.left-1,next:=n } s=r) (hr:r.f=0):
 stepS x s=some ⟨0,{ r.x with pc:=r.x.next },r.s.told r.x i.op⟩:=by
 unfold stepS
 rw[if_neg hl,hf,if_neg (by simp)]
 simp only
 rw[hn,if_neg (by rw[ha];decide),hp,Option.map_some,hq,if_neg (by rw[hr];decide)]
theorem goesS_of{n:Nat}{x:Rn}{s:Mt}{r:Rs}(h:stepS x s=some r)(hf:r.f=0)(ho:r.x.over=false):goesS (n+1) x s=goesS n r.x r.s:=by
 rw[goesS,h]
 simp only
 rw[if_neg (by rw[hf];decide),if_neg (by rw[ho];decide)]
theorem goesS_end{n:Nat}{x:Rn}{s:Mt}{r:Rs}(h:stepS x s=some r)(ho:r.f≠0∨r.x.over=true):goesS (n+1) x s=some r:=by
 rw[goesS,h]
 simp only
 rcases ho with ho|ho
 ·rw[if_pos ho]
 ·rw[if_pos ho]
  split<;>rfl
structure Stepped(x:Rn)(s:Mt)(n:Int)(s':Mt)(a:Nat)(cs ds rs:List Int):Prop where
 step:stepS x s=some ⟨0,{ x with left:=x.left-1,next:=n,pc:=n },s'⟩
 rep:Rep s' a cs ds rs
 tells:s'.tells=s.tells
 seen:s'.seen.length=s.seen.length+ (if s.tells then 1 else 0)
theorem Rep.stepL{x:Rn}{s:Mt}{a:Nat}{cs ds rs:List Int}(h:Rep s a cs ds rs)(i:Inst)(n m:Nat)(l:Mt->List Int)(out:List Int)(pc:Int)(hl:x.left≠0)(hf:s.S.fetch x.mode x.pc= (i,0))(hp:parts i=some (λx s=>laysR n (l s) x s))
 (hw:Code.wants i.op= ((n:Int),(m:Int))) (h26:i.op≠26) (hneeds:needs i.op=0) (hret: ∀b,returns i.op i.arg b= (0,0)) (hn:n<=ds.length) (hm:ds.length-n+m<=16) (hout:l s=out) (hlen:out.length=m) (hv: ∀v∈out,V64 v)
 (hpc:pc=x.pc+8*i.cells) (hpc1:0<=pc) (hpc2:pc<=1000000) (hb:x.base=0): ∃s',Stepped x s pc s' a cs (ds.take (ds.length-n)++out) rs:=by
 have h1:=h.lays n hn out hv oM
 have ha:asks i { x with left:=x.left-1,next:=pc } s=0:=by
  refine h.asked i _ hneeds (by rw[hw];show(n:Int)<=_;omega) h26 (by rw[hw];show(ds.length:Int) - (n:Int) + (m:Int)<=16;omega) (by rw[hret];show(0:Int)<=(rs.length:Int) -x.base;omega) (by rw[hret];have:=h.rle;show(rs.length:Int) -0+0<=8;omega)
 have hq: (λx s=>laysR n (l s) x s) { x with left:=x.left-1,next:=pc } s= ⟨(s.lays n out).1,{ x with left:=x.left-1,next:=pc },(s.lays n out).2⟩:=by
  show laysR n (l s) _ s=_
  rw[hout]
  rfl
 have hs:=stepS_of hl hf hp pc (by rw[<-hpc];exact wrap_pc pc hpc1 hpc2) ha _ hq h1.1
 refine⟨_,hs,h1.2.1.told _ _,?_,?_⟩
 ·show((s.lays n out).2.told _ _).tells=s.tells
  have e: (s.lays n out).2.tells=s.tells:=by unfold Mt.lays;split<;>rfl
  unfold Mt.told
  split<;>exact e
 ·show((s.lays n out).2.told _ _).seen.length=_
  have e: (s.lays n out).2.tells=s.tells:=by unfold Mt.lays;split<;>rfl
  rw[told_len,e,h1.2.2]
theorem Rep.stepExit{x:Rn}{s:Mt}{a:Nat}{cs ds rs:List Int}{v:Int}(h:Rep s a cs ds (rs ++ [v]))(hl:x.left≠0)(hf:s.S.fetch x.mode x.pc= (⟨1,0,0,1⟩,0))(hb:x.base=0)(hpc1:0<=x.pc)(hpc2:x.pc<=900000):
 ∃s',stepS x s=some ⟨0,{ x with left:=x.left-1,next:=v,pc:=v,over:=v==0 },s'⟩ ∧Rep s' a cs ds rs∧s'.tells=s.tells∧s'.seen.length=s.seen.length+ (if s.tells then 1 else 0):=by
 have hlr: (rs ++ [v]).length=rs.length+1:=by simp
 have hw:Code.wants 1= (0,0):=by decide
 have hret: ∀b,returns 1 0 b= (1,0):=λb=>rfl
 have ha:asks ⟨1,0,0,1⟩ { x with left:=x.left-1,next:=x.pc+8 } s=0:=by
  refine h.asked _ _ rfl (by show(Code.wants 1).1<=_;rw[hw];show(0:Int)<=_;omega) (by decide) (by show(ds.length:Int) - (Code.wants 1).1+ (Code.wants 1).2<=16;rw[hw];have:=h.dle;show(ds.length:Int) -0+0<=16;omega) (by show(returns 1 0 s.same).1<=_;rw[hret,hlr];show(1:Int)<=((rs.length+1:Nat):Int) -x.base;omega) (by show((rs ++ [v]).length:Int) - (returns 1 0 s.same).1+ (returns 1 0 s.same).2<=8;rw[hret,hlr];have:=h.rle;rw[hlr]at this;show((rs.length+1:Nat):Int) -1+0<=8;omega)
 have ht:s.rtop 0=v:=h.rtop 0 v (by rw[hlr];omega) (by rw[hlr];simp)
 have hq:back { x with left:=x.left-1,next:=x.pc+8 } s= ⟨0,{ x with left:=x.left-1,next:=v,over:=v==0 },{ s with r:=s.r-1 }⟩:=by
  unfold back
  rw[if_neg (by rw[h.r,hlr];omega),ht]
 have hs:=stepS_of (i:=⟨1,0,0,1⟩) hl hf rfl (x.pc+8) (by show wrap64 (x.pc+8*1)=_;rw[wrap_pc _ oM oM];omega) ha _ hq rfl
 have hrep:Rep { s with r:=s.r-1 } a cs ds rs:=by
  have h2:=h.cutR rs.length (by rw[hlr];omega)
  rw[List.take_append_of_le_length (Nat.le_refl _),List.take_length]at h2
  have e:s.cutR rs.length = { s with r:=s.r-1 }:=by unfold Mt.cutR;rw[h.r,hlr];rfl
  rw[e]at h2
  exact h2
 refine⟨_,hs,hrep.told _ _,?_,?_⟩
 ·show(Mt.told { s with r:=s.r-1 } _ _).tells=s.tells
  unfold Mt.told
  split<;>rfl
 ·rw[told_len]
theorem start_fields(m fuel:Int)(pc:Int): ({ Rn.start m fuel with pc:=pc }:Rn)= ⟨m,clip fuel,pc,0,false,false,0⟩:=rfl
theorem v64_small(n:Int)(h:0<=n)(h2:n<=1000000):V64 n:=by unfold V64;omega
def codeShown:List Int:=[2,5,21,33,1]
theorem shown_run{s:Mt}(h:Rep s 16472 codeShown [] [])(ht:s.tells=true): ∃q,goesS ((clip 100).toNat+1) { Rn.start 1 100 with pc:=16472 } (s.pushR [0])=some q∧q.f=0∧q.x.left=96∧Rep q.s 16472 codeShown [25] []∧q.s.seen.length=s.seen.length+4:=by
 have h0:Rep (s.pushR [0]) 16472 codeShown [] [0]:=h.pushR1 0 (by unfold V64;omega) (by simp)
 have e0: (s.pushR [0]).tells=true:=ht
 have n0: (s.pushR [0]).seen.length=s.seen.length:=rfl
 generalize s.pushR [0]=s0 at *
 have hc:clip 100=100:=by decide
 rw[hc,start_fields,hc,show(100:Int).toNat+1=97+4 from rfl]
 have f1:=h0.code.fetchLit 1 oM 0 5 rfl rfl
 obtain⟨s1,t1⟩:=h0.stepL (x:=⟨1,100,16472,0,false,false,0⟩) ⟨2,0,5,2⟩ 0 1 (λ_=>[5]) [5] 16488 (by decide) f1 rfl (by decide) (by decide) rfl (λ_=>rfl) (by simp) (by simp) rfl rfl (λv hv=>by rw[List.mem_singleton.1 hv];exact v64_small 5 oM oM) rfl oM oM rfl
 have h1:Rep s1 16472 codeShown [5] [0]:=t1.rep
 have f2:=h1.code.fetch 1 oM 2 21 21 0 rfl (by decide) (by decide) (by decide)
 have a2:ar s1 1 0=5:=h1.arv 1 0 5 oM (by simp) rfl
 obtain⟨s2,t2⟩:=h1.stepL (x:=⟨1,99,16488,16488,false,false,0⟩) ⟨21,0,0,1⟩ 1 2 (λs=>[ar s 1 0,ar s 1 0]) [5,5] 16496 (by decide) f2 rfl (by decide) (by decide) rfl (λ_=>rfl) (by simp) (by simp) (by simp only[a2]) rfl (λv hv=>by
  simp only[List.mem_cons,List.mem_nil_iff,or_false,or_self]at hv
  rw[hv];exact v64_small 5 oM oM) rfl oM oM rfl
 have h2:Rep s2 16472 codeShown [5,5] [0]:=t2.rep
 have f3:=h2.code.fetch 1 oM 3 33 33 0 rfl (by decide) (by decide) (by decide)
 have a3:ar s2 2 0=5:=h2.arv 2 0 5 oM (by simp) rfl
 have b3:ar s2 2 1=5:=h2.arv 2 1 5 oM (by simp) rfl
 obtain⟨s3,t3⟩:=h2.stepL (x:=⟨1,98,16496,16496,false,false,0⟩) ⟨33,0,0,1⟩ 2 1 (λs=>[wrap64 (ar s 2 0*ar s 2 1)]) [25] 16504 (by decide) f3 rfl (by decide) (by decide) rfl (λ_=>rfl) (by simp) (by simp) (by simp only[a3,b3];decide +kernel) rfl (λv hv=>by
  rw[List.mem_singleton.1 hv];exact v64_small 25 oM oM) rfl oM oM rfl
 have h3:Rep s3 16472 codeShown [25] ([]++ [0]):=t3.rep
 have f4:=h3.code.fetch 1 oM 4 1 1 0 rfl (by decide) (by decide) (by decide)
 obtain⟨s4,t4,h4,e4,n4⟩:=h3.stepExit (x:=⟨1,97,16504,16504,false,false,0⟩) (by decide) f4 rfl (by decide) (by decide)
 have g1:goesS (97+4) ⟨1,100,16472,0,false,false,0⟩ s0=goesS (97+3) ⟨1,99,16488,16488,false,false,0⟩ s1:=goesS_of t1.step rfl rfl
 have g2:goesS (97+3) ⟨1,99,16488,16488,false,false,0⟩ s1=goesS (97+2) ⟨1,98,16496,16496,false,false,0⟩ s2:=goesS_of t2.step rfl rfl
 have g3:goesS (97+2) ⟨1,98,16496,16496,false,false,0⟩ s2=goesS (97+1) ⟨1,97,16504,16504,false,false,0⟩ s3:=goesS_of t3.step rfl rfl
 have g4:=goesS_end (n:=97) t4 (.inr rfl)
 rw[g1,g2,g3,g4]
 refine⟨_,rfl,rfl,rfl,h4,?_⟩
 show s4.seen.length=_
 rw[n4,t3.seen,t2.seen,t1.seen,t3.tells,t2.tells,t1.tells,e0,n0]
 rfl
end Vm
end Go.Proofs.YtngdikikclfgjaaGreatDoor
