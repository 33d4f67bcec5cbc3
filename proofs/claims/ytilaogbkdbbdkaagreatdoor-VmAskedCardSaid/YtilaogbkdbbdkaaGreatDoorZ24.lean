/- math/bits. Conditions: as written. -/
import Derived.Test.YtilaogbkdbbdkaaGreatDoorOm
import Derived.Shelf.Spec.BitsCarry
import Derived.Test.YtilaogbkdbbdkaaGreatDoorZ18
open Go.Proofs.Tryz
namespace Go.Proofs.YtilaogbkdbbdkaaGreatDoor
set_option linter.unusedVariables false
set_option linter.unusedSimpArgs false
set_option maxHeartbeats 8000000
set_option maxRecDepth 100000
open Go.RowKit Go.Lib Go.Deep
namespace Vm
theorem CY(a b:Nat)(h:b<=a)(ha:a<18446744073709551616):IntKind.u64.wrap ((a:Int) - (b:Int))= ((a-b:Nat):Int):=by
 rw[IntKind.wrap_u64]
 omega
theorem rE(a b:Nat)(ha:a<18446744073709551616):IntKind.u64.wrap ((a:Int) / (b:Int))= ((a/b:Nat):Int):=by
 have h1: (a:Int) / (b:Int)= ((a/b:Nat):Int):=rfl
 have h2:a/b<=a:=Nat.div_le_self a b
 rw[h1,Mul64.wrapN _ oM]
theorem xJ(u d Y:Nat)(h:d=u/Y)(hY:Y<18446744073709551616)(h0:0<Y):IntKind.u64.wrap (IntKind.u64.wrap (u:Int) -IntKind.u64.wrap ((d:Int)* (Y:Int)))= ((u % Y:Nat):Int):=by
 subst h
 have h1:=Nat.div_add_mod' u Y
 have h2:=Nat.mod_lt u h0
 rw[Mul64.mulN]
 generalize u/Y*Y=p at *
 generalize u % Y=m at *
 simp only[IntKind.wrap_u64]
 omega
theorem zZ(hi lo y:Nat)(h0:hi≠0)(h:hi<y)(Sg:lo<18446744073709551616)(hy:y<18446744073709551616)(w:World):
 Calls prog 194 #[.int .u64 (hi:Int),.int .u64 (lo:Int),.int .u64 (y:Int)] w (ax (.tuple #[.int .u64 (((hi*18446744073709551616+lo) /y:Nat):Int),.int .u64 (((hi*18446744073709551616+lo) % y:Nat):Int)]) w):=by
 have hl:=Tryz.bits_LeadingZeros64 (y:Int)
 obtain⟨n1,n2,n3,n4⟩:=Div.D0 y oM hy
 obtain⟨d1,d2,d3⟩:=Div.L7 hi lo y (Div.lead y) h Sg oM
 rw[d2,<-d3]
 have e1: ((y:Int) ==0)=false:=by rw[beq_eq_false_iff_ne];omega
 have e2:decide (y<=hi)=false:=decide_eq_false oM
 have e3: ((hi:Int) ==0)=false:=by rw[beq_eq_false_iff_ne];omega
 have hl:=λw=>(hl w oM oM)
 rw[show(y:Int).toNat=y by omega,n4]at hl
 generalize Div.lead y=s at *
 clear n4 d2 d3
 have Uo:IntKind.u64.wrap (s:Int)= (s:Int):=by rw[IntKind.wrap_u64];omega
 have hbn:IntKind.u64.wrap (64- (s:Int))= ((64-s:Nat):Int):=by rw[IntKind.wrap_u64];omega
 have hm1:min (s:Int).toNat 64=s:=by omega
 have hm2:min ((64-s:Nat):Int).toNat 64=64-s:=by omega
 have WW:0<2 ^ s:=Nat.two_pow_pos s
 have hP: ∀k:Nat,((2:Int) ^ k)= ((2 ^ k:Nat):Int):=λk=>by simp
 have hcO:lo/2 ^ (64-s) <2 ^ s:=by
  refine Nat.div_lt_of_lt_mul ?_
  rw[<-Nat.pow_add,show 64-s+s=64 by omega]
  exact Sg
 obtain⟨Y,hY⟩: ∃Y,y*2 ^ s=Y:=⟨_,rfl⟩
 obtain⟨u2,hu2⟩: ∃u2,hi*2 ^ s+lo/2 ^ (64-s)=u2:=⟨_,rfl⟩
 obtain⟨L,hL⟩: ∃L,lo*2 ^ s % 18446744073709551616=L:=⟨_,rfl⟩
 have hgF:L<18446744073709551616:=by rw[<-hL];exact Nat.mod_lt _ (by decide)
 have E2:IntKind.u64.wrap ((y:Int)*2 ^ s)= (Y:Int):=by
  rw[hP,Mul64.mulN,hY,Mul64.wrapN Y oM]
 have hh1:hi*2 ^ s<18446744073709551616:=by
  generalize hi*2 ^ s=A at *
  generalize lo/2 ^ (64-s)=B at *
  generalize y*2 ^ s=C at *
  omega
 have hh2:hi*2 ^ s+lo/2 ^ (64-s) <18446744073709551616:=by
  generalize hi*2 ^ s=A at *
  generalize lo/2 ^ (64-s)=B at *
  generalize y*2 ^ s=C at *
  omega
 have E11:bits .or .u64 (IntKind.u64.wrap ((hi:Int)*2 ^ s)) ((lo:Int) /2 ^ (64-s))= (u2:Int):=by
  rw[hP,hP,Mul64.mulN,Mul64.wrapN _ hh1,<-Int.natCast_ediv,Div.Nn _ _ _ hcO hh2,hu2]
 have E12:IntKind.u64.wrap ((lo:Int)*2 ^ s)= (L:Int):=by
  rw[hP,Mul64.mulN,Mul64.wrapM,hL]
 have E8:min (IntKind.u64.wrap (s:Int)).toNat 64=s:=by rw[Uo,hm1]
 rw[hY,hu2]at d1
 rw[hY]at n2 n3
 rw[hY,hu2,hL]
 obtain⟨Y1,hY1⟩: ∃Y1,Y/4294967296=Y1:=⟨_,rfl⟩
 obtain⟨Y0,hY0⟩: ∃Y0,Y % 4294967296=Y0:=⟨_,rfl⟩
 obtain⟨u1,hu1⟩: ∃u1,L/4294967296=u1:=⟨_,rfl⟩
 obtain⟨u0,hu0⟩: ∃u0,L % 4294967296=u0:=⟨_,rfl⟩
 rw[hu1,hu0]
 have E9: (Y:Int) /4294967296= (Y1:Int):=by rw[Mul64.divN,hY1]
 have E10:bits .and .u64 (Y:Int) 4294967295= (Y0:Int):=by rw[Mul64.maskN Y n3,hY0]
 have E13: (L:Int) /4294967296= (u1:Int):=by rw[Mul64.divN,hu1]
 have E14:bits .and .u64 (L:Int) 4294967295= (u0:Int):=by rw[Mul64.maskN L hgF,hu0]
 have E15:IntKind.u64.wrap ((u2:Int) / (Y1:Int))= ((u2/Y1:Nat):Int):=rE _ _ oM
 have E16:IntKind.u64.wrap ((u2:Int) -IntKind.u64.wrap (((u2/Y1:Nat):Int)* (Y1:Int)))= ((u2-u2/Y1*Y1:Nat):Int):=by
  have h1:=Nat.div_mul_le_self u2 Y1
  rw[Mul64.mulN,Mul64.wrapN _ oM,CY _ _ h1 oM]
 have eY: ¬Y1=0:=by omega
 have hYs:Y1*4294967296+Y0=Y:=by omega
 have V7:=Div.sD (y1:=Y1) (y0:=Y0) (u2:=u2) (u1:=u1) oM oM oM oM oM
 obtain⟨q1,Uk⟩: ∃q1,u2/Y1=q1:=⟨_,rfl⟩
 obtain⟨r1,Ue⟩: ∃r1,u2-u2/Y1*Y1=r1:=⟨_,rfl⟩
 rw[Ue]at E16 V7
 rw[Uk]at E15 E16 V7
 obtain⟨Q1,hQ1⟩: ∃Q1,(u2*4294967296+u1) /Y=Q1:=⟨_,rfl⟩
 obtain⟨m,hm⟩: ∃m,(u2*4294967296+u1) % Y=m:=⟨_,rfl⟩
 have hmY:m<Y:=by rw[<-hm];exact Nat.mod_lt _ oM
 have E17:IntKind.u64.wrap (IntKind.u64.wrap (IntKind.u64.wrap ((u2:Int)*4294967296) + (u1:Int)) -IntKind.u64.wrap ((Q1:Int)* (Y:Int)))= (m:Int):=by
  have h1:=xJ (u2*4294967296+u1) Q1 Y hQ1.symm oM oM
  rw[hm]at h1
  rw[<-h1]
  simp only[IntKind.wrap_u64,Int.natCast_add,Int.natCast_mul]
  omega
 rw[hQ1,hm]
 have E18:IntKind.u64.wrap ((m:Int) / (Y1:Int))= ((m/Y1:Nat):Int):=rE _ _ oM
 have E19:IntKind.u64.wrap ((m:Int) -IntKind.u64.wrap (((m/Y1:Nat):Int)* (Y1:Int)))= ((m-m/Y1*Y1:Nat):Int):=by
  have h1:=Nat.div_mul_le_self m Y1
  rw[Mul64.mulN,Mul64.wrapN _ oM,CY _ _ h1 oM]
 have Wc:=Div.sD (y1:=Y1) (y0:=Y0) (u2:=m) (u1:=u0) oM oM oM oM oM
 obtain⟨q2,Sk⟩: ∃q2,m/Y1=q2:=⟨_,rfl⟩
 obtain⟨r2,Y2⟩: ∃r2,m-m/Y1*Y1=r2:=⟨_,rfl⟩
 rw[Y2]at E19 Wc
 rw[Sk]at E18 E19 Wc
 obtain⟨Q0,hQ0⟩: ∃Q0,(m*4294967296+u0) /Y=Q0:=⟨_,rfl⟩
 obtain⟨k,hk⟩: ∃k,(m*4294967296+u0) % Y=k:=⟨_,rfl⟩
 have E20:IntKind.u64.wrap (IntKind.u64.wrap (IntKind.u64.wrap ((m:Int)*4294967296) + (u0:Int)) -IntKind.u64.wrap ((Q0:Int)* (Y:Int)))= (k:Int):=by
  have h1:=xJ (m*4294967296+u0) Q0 Y hQ0.symm oM oM
  rw[hk]at h1
  rw[<-h1]
  simp only[IntKind.wrap_u64,Int.natCast_add,Int.natCast_mul]
  omega
 rw[hQ0,hk]
 have Rh:Q1<4294967296:=by
  have:=Div.ww V7
  rw[hYs,hQ1]at this
  exact this
 have Rm:Q0<4294967296:=by
  have:=Div.ww Wc
  rw[hYs,hQ0]at this
  exact this
 have E21:IntKind.u64.wrap (IntKind.u64.wrap ((Q1:Int)*4294967296) + (Q0:Int))= ((Q1*4294967296+Q0:Nat):Int):=by
  simp only[IntKind.wrap_u64]
  omega
 obtain⟨A1,YS⟩: ∃A1,Q1*4294967296+Q0=A1:=⟨_,rfl⟩
 obtain⟨A2,ZS⟩: ∃A2,k/2 ^ s=A2:=⟨_,rfl⟩
 rw[YS]at E21
 rw[YS,ZS]
 have E22: (k:Int) /2 ^ s= (A2:Int):=by rw[hP,<-Int.natCast_ediv,ZS]
 rw[<-hYs]at hQ1 hQ0
 replace⟨hl,V7,Wc,hQ1,hQ0⟩:=iE hl V7 Wc hQ1 hQ0
 clear hh1 hh2 n1 n2 n3 d1 hm1 hm2 WW hP hcO hY hu2 hL hgF hY1 hY0 hu1 hu0 hYs Uk Ue hm hmY Sk Y2 hk Rh Rm YS ZS Uo hbn h0 h Sg hy
 go_enter func194,ntmps194
 go_wp2_with fail
 refine(hl.out _).mono ?_
 rintro e w1 ⟨rfl,rfl⟩
 simp only[]
 go_upto_block 0 with fail
 go_cut [15] (λa wx=>a = .int .u64 (Q1:Int)∧wx=w1)
 case first=>
  go_wp2_with fail
  go_loopw [15,16] (λa b wx=> ∃q r:Nat,a = .int .u64 (q:Int)∧b = .int .u64 (r:Int)∧Div.vU Y1 Y0 u2 u1 q r∧wx=w1) (λa _ _=>(RowKit.intOf a).toNat)
  case atStart=>exact⟨q1,r1,rfl,rfl,V7.out,rfl⟩
  case round=>
   obtain⟨q,r,rfl,rfl,hS,rfl⟩:=hrel
   have VW:=hS.dD
   have YK:=hS.hr
   have hy1:=hS.hi
   have he4:=hS.lo
   have z0:=Div.lI hS
   have z1:=Div.rz hS
   have z2:=Div.va hS
   have z3:=Div.tX hS
   rw[hQ1.out]at z0 z1 z3
   have WN:q<4294967296->q*Y0<18446744073709551616:=λh=>by
    have h1:q*Y0<=4294967295*4294967295:=Nat.mul_le_mul oM (by have:=hS.hy0;omega)
    omega
   have hu1:=hS.hu1
   obtain⟨p,hp⟩: ∃p,q*Y0=p:=⟨_,rfl⟩
   obtain⟨z,hz⟩: ∃z,4294967296*r+u1=z:=⟨_,rfl⟩
   rw[hp]at z0 z1 z2 z3 WN
   rw[hz]at z0 z1 z2 z3
   have F2:IntKind.u64.wrap (IntKind.u64.wrap (4294967296* (r:Int)) + (u1:Int))= (z:Int):=by
    simp only[IntKind.wrap_u64]
    omega
   have F1:q<4294967296->IntKind.u64.wrap ((q:Int)* (Y0:Int))= (p:Int):=λh=>by rw[Mul64.mulN,hp,Mul64.wrapN _ (WN h)]
   obtain⟨q',WH⟩: ∃q',q-1=q':=⟨_,rfl⟩
   obtain⟨r',YJ⟩: ∃r',r+Y1=r':=⟨_,rfl⟩
   rw[WH,YJ]at z1 z2
   have F4:IntKind.u64.wrap ((r:Int) + (Y1:Int))= (r':Int):=by
    simp only[IntKind.wrap_u64]
    omega
   have F3: (4294967296<=q∨z<p)->IntKind.u64.wrap ((q:Int) -1)= (q':Int):=λh=>by
    have:=z0 h
    simp only[IntKind.wrap_u64]
    omega
   replace⟨z0,z1,z2,z3,hp,hz,WH,YJ,hS⟩:=iI z0 z1 z2 z3 hp hz WH YJ hS
   clear VW YK hy1 he4 WN hu1
   by_cases Ud:4294967296<=q
   ·have t1:decide ((4294967296:Int)<=(q:Int))=true:=decide_eq_true oM
    have hc:=hid (show 4294967296<=q∨z<p from .inl Ud)
    replace F3:=F3 hc.out
    replace Ud:=hid Ud
    clear F1
    by_cases Ul:4294967296<=r'
    ·have t3:decide ((4294967296:Int)<=(r':Int))=true:=decide_eq_true oM
     have IS:=hid (z1.out hc.out Ul)
     replace Ul:=hid Ul
     go_wp2
     go_meet
     exact⟨congrArg (λn:Nat=>Value.int .u64 (n:Int)) IS.out,rfl⟩
    ·have t3:decide ((4294967296:Int)<=(r':Int))=false:=decide_eq_false oM
     have Wq:=hid (z2.out hc.out oM)
     replace Ul:=hid Ul
     go_wp2
     go_roundw
     case rel=>exact⟨q',r',rfl,rfl,Wq.out,by first|rfl|trivial⟩
     case measure=>have h1:=WH.out;have h2:=Ud.out;simp[RowKit.intOf];omega
   ·have t1:decide ((4294967296:Int)<=(q:Int))=false:=decide_eq_false oM
    replace F1:=F1 oM
    by_cases X8:z<p
    ·have t2:decide (z<p)=true:=decide_eq_true X8
     have hc:=hid (show 4294967296<=q∨z<p from .inr X8)
     have WW:=hid (z0.out hc.out)
     replace F3:=F3 hc.out
     replace⟨Ud,X8⟩:=iB Ud X8
     by_cases Ul:4294967296<=r'
     ·have t3:decide ((4294967296:Int)<=(r':Int))=true:=decide_eq_true oM
      have IS:=hid (z1.out hc.out Ul)
      replace Ul:=hid Ul
      go_wp2
      go_meet
      exact⟨congrArg (λn:Nat=>Value.int .u64 (n:Int)) IS.out,rfl⟩
     ·have t3:decide ((4294967296:Int)<=(r':Int))=false:=decide_eq_false oM
      have Wq:=hid (z2.out hc.out oM)
      replace Ul:=hid Ul
      go_wp2
      go_roundw
      case rel=>exact⟨q',r',rfl,rfl,Wq.out,by first|rfl|trivial⟩
      case measure=>have h1:=WH.out;have h2:=WW.out;simp[RowKit.intOf];omega
    ·have t2:decide (z<p)=false:=decide_eq_false X8
     have IS:=hid (z3.out oM)
     replace⟨Ud,X8⟩:=iB Ud X8
     clear F3
     go_wp2
     go_meet
     exact⟨congrArg (λn:Nat=>Value.int .u64 (n:Int)) IS.out,rfl⟩
 case rest=>
  obtain⟨rfl,hwx⟩:=hcut
  replace hwx:=hwx.symm
  subst hwx
  go_upto_block 2 with fail
  go_cut [18] (λa wx=>a = .int .u64 (Q0:Int)∧wx=w1)
  case first=>
   go_wp2_with fail
   go_loopw [18,16] (λa b wx=> ∃q r:Nat,a = .int .u64 (q:Int)∧b = .int .u64 (r:Int)∧Div.vU Y1 Y0 m u0 q r∧wx=w1) (λa _ _=>(RowKit.intOf a).toNat)
   case atStart=>exact⟨q2,r2,rfl,rfl,Wc.out,rfl⟩
   case round=>
    obtain⟨q,r,rfl,rfl,hS,rfl⟩:=hrel
    have VW:=hS.dD
    have YK:=hS.hr
    have hy1:=hS.hi
    have he4:=hS.lo
    have z0:=Div.lI hS
    have z1:=Div.rz hS
    have z2:=Div.va hS
    have z3:=Div.tX hS
    rw[hQ0.out]at z0 z1 z3
    have WN:q<4294967296->q*Y0<18446744073709551616:=λh=>by
     have h1:q*Y0<=4294967295*4294967295:=Nat.mul_le_mul oM (by have:=hS.hy0;omega)
     omega
    have hu1:=hS.hu1
    obtain⟨p,hp⟩: ∃p,q*Y0=p:=⟨_,rfl⟩
    obtain⟨z,hz⟩: ∃z,4294967296*r+u0=z:=⟨_,rfl⟩
    rw[hp]at z0 z1 z2 z3 WN
    rw[hz]at z0 z1 z2 z3
    have F2:IntKind.u64.wrap (IntKind.u64.wrap (4294967296* (r:Int)) + (u0:Int))= (z:Int):=by
     simp only[IntKind.wrap_u64]
     omega
    have F1:q<4294967296->IntKind.u64.wrap ((q:Int)* (Y0:Int))= (p:Int):=λh=>by rw[Mul64.mulN,hp,Mul64.wrapN _ (WN h)]
    obtain⟨q',WH⟩: ∃q',q-1=q':=⟨_,rfl⟩
    obtain⟨r',YJ⟩: ∃r',r+Y1=r':=⟨_,rfl⟩
    rw[WH,YJ]at z1 z2
    have F4:IntKind.u64.wrap ((r:Int) + (Y1:Int))= (r':Int):=by
     simp only[IntKind.wrap_u64]
     omega
    have F3: (4294967296<=q∨z<p)->IntKind.u64.wrap ((q:Int) -1)= (q':Int):=λh=>by
     have:=z0 h
     simp only[IntKind.wrap_u64]
     omega
    replace⟨z0,z1,z2,z3,hp,hz,WH,YJ,hS⟩:=iI z0 z1 z2 z3 hp hz WH YJ hS
    clear VW YK hy1 he4 WN hu1
    by_cases Ud:4294967296<=q
    ·have t1:decide ((4294967296:Int)<=(q:Int))=true:=decide_eq_true oM
     have hc:=hid (show 4294967296<=q∨z<p from .inl Ud)
     replace F3:=F3 hc.out
     replace Ud:=hid Ud
     clear F1
     by_cases Ul:4294967296<=r'
     ·have t3:decide ((4294967296:Int)<=(r':Int))=true:=decide_eq_true oM
      have IS:=hid (z1.out hc.out Ul)
      replace Ul:=hid Ul
      go_wp2
      go_meet
      exact⟨congrArg (λn:Nat=>Value.int .u64 (n:Int)) IS.out,rfl⟩
     ·have t3:decide ((4294967296:Int)<=(r':Int))=false:=decide_eq_false oM
      have Wq:=hid (z2.out hc.out oM)
      replace Ul:=hid Ul
      go_wp2
      go_roundw
      case rel=>exact⟨q',r',rfl,rfl,Wq.out,by first|rfl|trivial⟩
      case measure=>have h1:=WH.out;have h2:=Ud.out;simp[RowKit.intOf];omega
    ·have t1:decide ((4294967296:Int)<=(q:Int))=false:=decide_eq_false oM
     replace F1:=F1 oM
     by_cases X8:z<p
     ·have t2:decide (z<p)=true:=decide_eq_true X8
      have hc:=hid (show 4294967296<=q∨z<p from .inr X8)
      have WW:=hid (z0.out hc.out)
      replace F3:=F3 hc.out
      replace⟨Ud,X8⟩:=iB Ud X8
      by_cases Ul:4294967296<=r'
      ·have t3:decide ((4294967296:Int)<=(r':Int))=true:=decide_eq_true oM
       have IS:=hid (z1.out hc.out Ul)
       replace Ul:=hid Ul
       go_wp2
       go_meet
       exact⟨congrArg (λn:Nat=>Value.int .u64 (n:Int)) IS.out,rfl⟩
      ·have t3:decide ((4294967296:Int)<=(r':Int))=false:=decide_eq_false oM
       have Wq:=hid (z2.out hc.out oM)
       replace Ul:=hid Ul
       go_wp2
       go_roundw
       case rel=>exact⟨q',r',rfl,rfl,Wq.out,by first|rfl|trivial⟩
       case measure=>have h1:=WH.out;have h2:=WW.out;simp[RowKit.intOf];omega
     ·have t2:decide (z<p)=false:=decide_eq_false X8
      have IS:=hid (z3.out oM)
      replace⟨Ud,X8⟩:=iB Ud X8
      clear F3
      go_wp2
      go_meet
      exact⟨congrArg (λn:Nat=>Value.int .u64 (n:Int)) IS.out,rfl⟩
  case rest=>
   obtain⟨rfl,hwx⟩:=hcut
   replace hwx:=hwx.symm
   subst hwx
   go_wp2
   go_ret2
   exact⟨rfl,rfl⟩
theorem B3(hi lo y:Nat)(h:hi<y)(Sg:lo<18446744073709551616)(hy:y<18446744073709551616)(w:World):
 Calls prog 194 #[.int .u64 (hi:Int),.int .u64 (lo:Int),.int .u64 (y:Int)] w (EP (.tuple #[.int .u64 (((hi*18446744073709551616+lo) /y:Nat):Int),.int .u64 (((hi*18446744073709551616+lo) % y:Nat):Int)]) w):=by
 by_cases h0:hi=0
 ·subst h0
  rw[Nat.zero_mul,Nat.zero_add]
  have e1: ((y:Int) ==0)=false:=by rw[beq_eq_false_iff_ne];omega
  have e0: ¬y=0:=by omega
  have e2:decide (y<=0)=false:=decide_eq_false oM
  obtain⟨Q,hQ⟩: ∃Q,lo/y=Q:=⟨_,rfl⟩
  obtain⟨R,hR⟩: ∃R,lo % y=R:=⟨_,rfl⟩
  have E1:IntKind.u64.wrap ((lo:Int) / (y:Int))= (Q:Int):=by rw[rE _ _ Sg,hQ]
  have E2: (lo:Int) % (y:Int)= (R:Int):=by rw[<-Int.natCast_emod,hR]
  rw[hQ,hR]
  clear hQ hR h Sg hy
  go_enter func194,ntmps194
  go_wp2_with fail
  go_quiet (fail)
  go_wp2
  rw[<-E2]
  go_ret2
  exact⟨rfl,_,rfl⟩
 ·exact(zZ hi lo y h0 h Sg hy w).mono λe w' ⟨h1,h2⟩=>⟨h1,0,h2⟩
def uw(a:Int):Nat:=(a % 18446744073709551616).toNat
theorem wW(a:Int):uw a<18446744073709551616:=by unfold uw;omega
theorem jW(a:Int):IntKind.u64.wrap a= (uw a:Int):=by rw[IntKind.wrap_u64];unfold uw;omega
theorem On.rn{w w':World}{A:Asr}(h:On Nob w A w'):Below w.heap.size w w':=let⟨_,_,hk,_⟩:=h;hk.sU
def te(a b:Int):Int:=wrap64 ((uw a*uw b/18446744073709551616:Nat):Int)
def dI(a b:Int):Int:=wrap64 ((uw a*uw b % 18446744073709551616:Nat):Int)
theorem zG(a b:Int)(w:World):Calls prog 144 #[a,b] w (Quiet (.agg #[(dI a b),(te a b)]) w):=by
 have hm:=λw=>Tryz.bits_Mul64 (uw a) (uw b) (wW a) (wW b) w
 have e1:=jW a
 have e2:=jW b
 unfold dI te
 generalize uw a*uw b/18446744073709551616=h at *
 generalize uw a*uw b % 18446744073709551616=l at *
 generalize uw a=ua at *
 generalize uw b=ub at *
 replace hm:=hid hm
 go_enter func144,ntmps144
 go_wp2_with fail
 refine(hm.out _).mono ?_
 rintro e w1 ⟨rfl,rfl⟩
 simp only[]
 go_wp2
 exact bodyPost_ret (v:= .agg #[(wrap64 (l:Int)),(wrap64 (h:Int))]) (by simp[results,results144,go_sem]) rfl ⟨rfl,((On.refl (A:=aa []) (F:=Nob) (w:=w) (λ_ h=>h)).box _ _).rn⟩
def tHi(a b:Int):Int:=wrap64 (te a b-wrap64 (bits .and .i64 (a/9223372036854775808) b+bits .and .i64 (b/9223372036854775808) a))
theorem CZ(a b:Int)(w:World):Calls prog 143 #[a,b] w (Quiet (.agg #[(dI a b),(tHi a b)]) w):=by
 have hu:=λw=>zG a b w
 unfold tHi
 generalize dI a b=l at *
 generalize te a b=h at *
 have Re:On Nob w (aa [ae w.heap.size 227 #[(0:Int),(0:Int)]]) (w.alloc (.cells #[(0:Int),(0:Int)] 227)):=(On.refl (A:=aa []) (F:=Nob) (w:=w) (λ_ h=>h)).box _ _
 replace⟨hu,Re⟩:=iB hu Re
 go_enter func143,ntmps143
 go_wp2_with fail
 refine mo (hu.out _) λw1 hb=>?_
 simp only[]
 have h1:=Re.out.below hb
 have c0:w1.cell? (w.heap.size,0)=some (.int .i64 0):=(h1.ab 0 rfl).cell 0
 have c1:w1.cell? (w.heap.size,1)=some (.int .i64 0):=(h1.ab 0 rfl).cell 1
 have f0:=(h1.ab 0 rfl).frozen 0
 have f1:=(h1.ab 0 rfl).frozen 1
 have lt:=(h1.ab 0 rfl).lt
 replace h1:=hid h1
 clear hb
 go_wp2
 generalize wrap64 (h-wrap64 (bits .and .i64 (a/9223372036854775808) b+bits .and .i64 (b/9223372036854775808) a))=t at *
 have h2:=((h1.out.setAt 0 rfl 0 (.int .i64 l)).setAt 0 rfl 1 (.int .i64 t)).box #[l,t] 227
 have d0:=(h2.ab 1 rfl).cell 0
 have d1:=(h2.ab 1 rfl).cell 1
 exact bodyPost_ret (v:= .agg #[l,t]) (by simp[results,results143,go_sem,d0,d1]) rfl ⟨rfl,h2.rn⟩
theorem uj(x y b:Nat)(hb:b<=1)(w:World): (callFunc 291 #[.int .u64 (x:Int),.int .u64 (y:Int),.int .u64 (b:Int)]).run prog w =
 .ok (.value (.tuple #[.int .u64 (((x+18446744073709551616-y-b) % 18446744073709551616:Nat):Int),.int .u64 ((if x<y+b then 1 else 0:Nat):Int)])) w:=by
 rw[run_callFunc_extern func291 kR kR kR (e:=sub64Entry) kR,run_sub64 x y b hb]
 rfl
def udQ(lo hi n:Int):Int:=wrap64 (((uw hi*18446744073709551616+uw lo) /uw n:Nat):Int)
def udR(lo hi n:Int):Int:=wrap64 (((uw hi*18446744073709551616+uw lo) % uw n:Nat):Int)
def rB(hi n:Int):Bool:=decide (uw n<=uw hi)
def tri(out:Bool)(q r:Int):Value:=if out then .tuple #[(0:Int),(0:Int),(7:Int)]else .tuple #[q,r,(0:Int)]
theorem J1(lo hi n:Int)(w:World):Calls prog 145 #[.agg #[lo,hi],n] w (Quiet (tri (rB hi n) (udQ lo hi n) (udR lo hi n)) w):=by
 have Re:On Nob w (aa [ae w.heap.size 227 #[lo,hi]]) (w.alloc (.cells #[lo,hi] 227)):=(On.refl (A:=aa []) (F:=Nob) (w:=w) (λ_ h=>h)).box _ _
 have e1:=jW lo
 have e2:=jW hi
 have e3:=jW n
 have Sg:=wW lo
 have ZA:=wW hi
 have hn:=wW n
 unfold udQ udR rB
 generalize uw lo=ul at *
 generalize uw hi=uh at *
 generalize uw n=un at *
 replace Re:=hid Re
 by_cases h:un<=uh
 ·have t1:decide (un<=uh)=true:=decide_eq_true h
  rw[t1]
  clear Sg ZA hn
  replace h:=hid h
  generalize wrap64 _=q
  generalize wrap64 _=r
  show Calls _ _ _ _ (Quiet (.tuple #[(0:Int),(0:Int),(7:Int)]) w)
  go_enter func145,ntmps145
  go_wp2
  exact bodyPost_ret (v:= .tuple #[(0:Int),(0:Int),(7:Int)]) (by simp[results,results145,go_sem]) rfl ⟨rfl,Re.out.rn⟩
 ·have t1:decide (un<=uh)=false:=decide_eq_false h
  rw[t1]
  have hd:=λw=>B3 uh ul un oM Sg hn w
  generalize (uh*18446744073709551616+ul) /un=Q at *
  generalize (uh*18446744073709551616+ul) % un=R at *
  clear Sg ZA hn
  replace⟨h,hd⟩:=iB h hd
  show Calls _ _ _ _ (Quiet (.tuple #[(wrap64 (Q:Int)),(wrap64 (R:Int)),(0:Int)]) w)
  go_enter func145,ntmps145
  go_wp2_with fail
  refine(hd.out _).mono ?_
  rintro e w1 ⟨rfl,k,rfl⟩
  simp only[]
  go_wp2
  exact bodyPost_ret (v:= .tuple #[(wrap64 (Q:Int)),(wrap64 (R:Int)),(0:Int)]) (by simp[results,results145,go_sem]) rfl ⟨rfl,(Re.out.drewN k).rn⟩
def JP(lo:Int):Int:=wrap64 (((18446744073709551616-uw lo) % 18446744073709551616:Nat):Int)
def opB(lo:Int):Nat:=if 0<uw lo then 1 else 0
def Hj(lo hi:Int):Int:=wrap64 (((18446744073709551616-uw hi-opB lo) % 18446744073709551616:Nat):Int)
theorem PX(lo hi:Int)(w:World):Calls prog 236 #[.agg #[lo,hi]] w (Quiet (.agg #[(JP lo),(Hj lo hi)]) w):=by
 have Re:On Nob w (aa [ae w.heap.size 227 #[lo,hi]]) (w.alloc (.cells #[lo,hi] 227)):=(On.refl (A:=aa []) (F:=Nob) (w:=w) (λ_ h=>h)).box _ _
 have Rm:=Re.box #[(JP lo),(Hj lo hi)] 227
 have e1:=jW lo
 have e2:=jW hi
 have h1:=λw=>uj 0 (uw lo) 0 oM w
 have Z7:opB lo<=1:=by unfold opB;split<;>omega
 have h2:=λw=>uj 0 (uw hi) (opB lo) Z7 w
 unfold Hj JP at *
 have ho: (if 0<uw lo+0 then 1 else 0:Nat)=opB lo:=rfl
 rw[ho,Nat.zero_add,Nat.sub_zero]at h1
 rw[Nat.zero_add]at h2
 generalize opB lo=b at *
 generalize (18446744073709551616-uw lo) % 18446744073709551616=A at *
 generalize (18446744073709551616-uw hi-b) % 18446744073709551616=B at *
 generalize uw lo=ul at *
 generalize (if 0<uw hi+b then 1 else 0:Nat)=b2 at *
 generalize uw hi=uh at *
 replace Rm:=hid Rm
 clear Re Z7 ho
 have h1': ∀w,(callFunc 291 #[.int .u64 0,.int .u64 (ul:Int),.int .u64 0]).run prog w = .ok (.value (.tuple #[.int .u64 (A:Int),.int .u64 (b:Int)])) w:=h1
 have h2': ∀w,(callFunc 291 #[.int .u64 0,.int .u64 (uh:Int),.int .u64 (b:Int)]).run prog w = .ok (.value (.tuple #[.int .u64 (B:Int),.int .u64 (b2:Int)])) w:=h2
 clear h1 h2
 go_enter func236,ntmps236
 go_wp2
 exact bodyPost_ret (v:= .agg #[(wrap64 (A:Int)),(wrap64 (B:Int))]) (by simp[results,results236,go_sem]) rfl ⟨rfl,Rm.out.rn⟩
def HV(lo hi:Int):Int:=if hi<0 then JP lo else lo
def DC(lo hi:Int):Int:=if hi<0 then Hj lo hi else hi
def dvM(n:Int):Int:=if n<0 then wrap64 (-n)else n
def zH(lo hi n:Int):Int:=udQ (HV lo hi) (DC lo hi) (dvM n)
def H3(lo hi n:Int):Int:=udR (HV lo hi) (DC lo hi) (dvM n)
def zS(lo hi n:Int):Bool:=rB (DC lo hi) (dvM n)
def Bi(hi n:Int):Bool:=decide (hi<0) ==decide (n<0)
def kO(lo hi n:Int):Bool:=zS lo hi n|| (if Bi hi n then decide (zH lo hi n<0)else decide (zH lo hi n<0) &&decide (zH lo hi n≠ -9223372036854775808))
def dvQ(lo hi n:Int):Int:=if Bi hi n then zH lo hi n else wrap64 (-zH lo hi n)
def dvR(lo hi n:Int):Int:=if hi<0 then wrap64 (-H3 lo hi n)else H3 lo hi n
theorem Ls(lo hi n:Int)(w:World):On Nob w (aa [ae (w.heap.size+1) 291 #[.bool (decide (hi<0)),.bool (decide (n<0))],ae w.heap.size 227 #[lo,hi]]) ((w.alloc (.cells #[lo,hi] 227)).alloc (.cells #[.bool (decide (hi<0)),.bool (decide (n<0))] 291)):=by
 have h:=((On.refl (A:=aa []) (F:=Nob) (w:=w) (λ_ h=>h)).box #[lo,hi] 227).box #[.bool (decide (hi<0)),.bool (decide (n<0))] 291
 simp only[World.size_alloc]at h
 exact h
theorem Jd(a b:Int):decide (a≠b)= (a != b):=by
 by_cases h:a=b
 ·subst h;simp
 ·simp[h]
theorem OB(a b:Int):decide (a=b)= (a==b):=by
 by_cases h:a=b
 ·subst h;simp
 ·simp[h]
theorem Nb(lo hi n:Int)(w:World):Calls prog 192 #[.agg #[lo,hi],n] w (Quiet (tri (kO lo hi n) (dvQ lo hi n) (dvR lo hi n)) w):=by
 have Re:=Ls lo hi n w
 have hu2: ∀w,Calls prog 145 #[.agg #[(HV lo hi),(DC lo hi)],(dvM n)] w (Quiet (tri (zS lo hi n) (zH lo hi n) (H3 lo hi n)) w):=λw=>J1 (HV lo hi) (DC lo hi) (dvM n) w
 have ho:=λw=>PX lo hi w
 unfold kO dvQ dvR Bi
 generalize zS lo hi n=o at *
 generalize zH lo hi n=Q at *
 generalize H3 lo hi n=R at *
 unfold HV DC dvM at hu2
 generalize JP lo=lo2 at *
 generalize Hj lo hi=YN at *
 rw[Jd]
 generalize hV:tri _ _ _=V
 replace ho:=hid ho
 rcases ha:decide (hi<0)with _|_<;>rcases hb:decide (n<0)with _|_
 all_goals
  have pa:=ha
  have pb:=hb
  simp only[decide_eq_true_eq,decide_eq_false_iff_not]at pa pb
  rw[ha,hb]at Re hV
  simp only[pa,pb,if_true,if_false,beq_self_eq_true,show(true==false)=false from rfl,show(false==true)=false from rfl,Bool.false_eq_true]at hV hu2
  replace⟨hV,Re,hu2⟩:=iC hV Re hu2
  have h2:=Re
  clear pa pb
  go_enter func192,ntmps192
  go_wp2_with fail
 any_goals
  go_at_call 236
  refine mo (ho.out _) λw1 Rh=>?_
  simp only[]
  have h1:=Re.out.below Rh
  have c0:w1.cell? (w.heap.size,0)=some (lo:Vl):=(h1.ab 1 rfl).cell 0
  have c1:w1.cell? (w.heap.size,1)=some (hi:Vl):=(h1.ab 1 rfl).cell 1
  have f0:=(h1.ab 1 rfl).frozen 0
  have f1:=(h1.ab 1 rfl).frozen 1
  have s0:w1.cell? ⟨w.heap.size+1,0,none⟩=some (.bool _):=(h1.ab 0 rfl).cell 0
  have s1:w1.cell? ⟨w.heap.size+1,1,none⟩=some (.bool _):=(h1.ab 0 rfl).cell 1
  replace h2:=hid ((h1.setAt 1 rfl 0 (.int .i64 lo2)).setAt 1 rfl 1 (.int .i64 YN))
  replace h1:=hid h1
  clear Rh
  go_wp2_with fail
 all_goals
  refine mo (hu2.out _) λw3 So=>?_
  have h3:=hid (h2.out.below So)
  have z0:w3.cell? ⟨w.heap.size+1,0,none⟩=some (.bool _):=(h3.out.ab 0 rfl).cell 0
  have z1:w3.cell? ⟨w.heap.size+1,1,none⟩=some (.bool _):=(h3.out.ab 0 rfl).cell 1
  replace hV:=hV.out
  clear So ho Re hu2 h2
  rcases o with _|_
 all_goals rcases t1:decide (Q<0)with _|_
 all_goals rcases t2: (Q != -9223372036854775808)with _|_
 all_goals
  simp only[tri,t1,t2,Bool.true_or,Bool.false_or,Bool.or_true,Bool.or_false,Bool.true_and,Bool.false_and,Bool.and_true,Bool.and_false,Bool.not_true,Bool.not_false,Bool.false_eq_true,eq_self,if_true,if_false]at hV
  replace hV:=hid hV
  unfold tri
  simp only[]
  go_wp2
  obtain rfl:=hV.out
  exact bodyPost_ret (by simp[results,results192,go_sem]) rfl ⟨rfl,h3.out.rn⟩
def CB(lo hi n:Int):Bool:= !kO lo hi n&& (decide (dvR lo hi n≠0) &&decide (bits .xor .i64 (dvR lo hi n) n<0))
def jr(lo hi n:Int):Bool:=kO lo hi n|| (CB lo hi n&&decide (dvQ lo hi n = -9223372036854775808))
def fdQ(lo hi n:Int):Int:=if CB lo hi n then wrap64 (dvQ lo hi n-1)else dvQ lo hi n
def fdR(lo hi n:Int):Int:=if CB lo hi n then wrap64 (dvR lo hi n+n)else dvR lo hi n
theorem I7(lo hi n:Int)(w:World):Calls prog 142 #[.agg #[lo,hi],n] w (Quiet (tri (jr lo hi n) (fdQ lo hi n) (fdR lo hi n)) w):=by
 have hd:=λw=>Nb lo hi n w
 have Re:On Nob w (aa [ae w.heap.size 227 #[lo,hi]]) (w.alloc (.cells #[lo,hi] 227)):=(On.refl (A:=aa []) (F:=Nob) (w:=w) (λ_ h=>h)).box _ _
 unfold jr fdQ fdR CB
 generalize dvQ lo hi n=Q at *
 generalize dvR lo hi n=R at *
 generalize kO lo hi n=o at *
 rw[Jd,OB]
 generalize hV:tri _ _ _=V
 replace⟨hd,Re⟩:=iB hd Re
 rcases o with _|_
 all_goals rcases t1: (R != 0)with _|_
 all_goals rcases t2:decide (bits .xor .i64 R n<0)with _|_
 all_goals rcases t3: (Q == -9223372036854775808)with _|_
 all_goals
  simp only[tri,t1,t2,t3,Bool.true_or,Bool.false_or,Bool.or_true,Bool.or_false,Bool.true_and,Bool.false_and,Bool.and_true,Bool.and_false,Bool.not_true,Bool.not_false,Bool.false_eq_true,eq_self,if_true,if_false]at hV
  replace hV:=hid hV
  go_enter func142,ntmps142
  go_wp2_with fail
  refine mo (hd.out _) λw3 So=>?_
  unfold tri
  simp only[]
  have h3:=hid (Re.out.below So)
  clear So
  go_wp2
  obtain rfl:=hV.out
  exact bodyPost_ret (by simp[results,results142,go_sem]) rfl ⟨rfl,h3.out.rn⟩
theorem OC(lo hi n:Int)(w:World):Calls prog 146 #[.agg #[lo,hi],n] w (Quiet (tri (kO lo hi n) (dvQ lo hi n) (dvR lo hi n)) w):=by
 have hd:=λw=>Nb lo hi n w
 have Re:On Nob w (aa [ae w.heap.size 227 #[lo,hi]]) (w.alloc (.cells #[lo,hi] 227)):=(On.refl (A:=aa []) (F:=Nob) (w:=w) (λ_ h=>h)).box _ _
 replace Re:=hid Re
 generalize dvQ lo hi n=Q at *
 generalize dvR lo hi n=R at *
 generalize kO lo hi n=o at *
 replace hd:=hid hd
 cases o with
 | true=>
   show Calls _ _ _ _ (Quiet (.tuple #[(0:Int),(0:Int),(7:Int)]) w)
   go_enter func146,ntmps146
   go_wp2_with fail
   refine mo (hd.out _) λw3 So=>?_
   unfold tri
   simp only[]
   replace So:=hid So
   go_wp2
   exact bodyPost_ret (v:= .tuple #[(0:Int),(0:Int),(7:Int)]) (by simp[results,results146,go_sem]) rfl ⟨rfl,(Re.out.below So.out).rn⟩
 | false=>
   show Calls _ _ _ _ (Quiet (.tuple #[Q,R,(0:Int)]) w)
   go_enter func146,ntmps146
   go_wp2_with fail
   refine mo (hd.out _) λw3 So=>?_
   unfold tri
   simp only[]
   replace So:=hid So
   go_wp2
   exact bodyPost_ret (v:= .tuple #[Q,R,(0:Int)]) (by simp[results,results146,go_sem]) rfl ⟨rfl,(Re.out.below So.out).rn⟩
def jP(k:Nat)(q r:Int):List Int:=if k=0 then [q]else if k=1 then [r]else [r,q]
theorem Ps(k:Nat)(hk:k<=2)(q r:Int)(p:Nat)(w:World)(hp:p<w.heap.size)(hc:w.cell? (p,0)=some ((k:Int):Vl)):Calls prog 190 #[q,r,(0:Int),p] w
 (λe w'=> ∃b,e = .returned (.slice (some ⟨b,0,none⟩) (jP k q r).length (jP k q r).length)∧On Nob w (aa [ae b 3 (ag (jP k q r))]) w'):=by
 have h1:p<w.heap.size+1:=by omega
 have h2:p<w.heap.size+1+1:=by omega
 have h3:p<w.heap.size+1+1+1:=by omega
 have so:=((((On.refl (A:=aa []) (F:=Nob) (w:=w) (λ_ h=>h)).box #[q] 3).box #[r] 3).box #[r,q] 3).box #[.slice w.heap.size 1 1,.slice (some ⟨w.heap.size+1,0,none⟩) 1 1,.slice (some ⟨w.heap.size+1+1,0,none⟩) 2 2] 23
 simp only[World.size_alloc]at so
 rcases(show k=0∨k=1∨k=2 by omega)with rfl|rfl|rfl
 ·have Za:w.cell? (p,0)=some (.int .i64 0):=hc
  clear hc hk
  replace so:=hid so
  go_enter func190,ntmps190
  go_wp2_with fail
  refine(bL _).mono ?_
  rintro e w2 ⟨rfl,rfl⟩
  simp only[]
  go_wp2
  go_ret
  exact⟨w2.heap.size,rfl,((so.out.drop 0 rfl).drop 0 rfl).drop 0 rfl⟩
 ·have Za:w.cell? (p,0)=some (.int .i64 1):=hc
  clear hc hk
  replace so:=hid so
  go_enter func190,ntmps190
  go_wp2_with fail
  refine(bL _).mono ?_
  rintro e w2 ⟨rfl,rfl⟩
  simp only[]
  go_wp2
  go_ret
  exact⟨w2.heap.size+1,rfl,((so.out.drop 0 rfl).drop 0 rfl).drop 1 rfl⟩
 ·have Za:w.cell? (p,0)=some (.int .i64 2):=hc
  clear hc hk
  replace so:=hid so
  go_enter func190,ntmps190
  go_wp2_with fail
  refine(bL _).mono ?_
  rintro e w2 ⟨rfl,rfl⟩
  simp only[]
  go_wp2
  go_ret
  exact⟨w2.heap.size+1+1,rfl,((so.out.drop 0 rfl).drop 1 rfl).drop 1 rfl⟩
theorem vw(f:Int)(hf:f≠0)(q r:Int)(p:Value)(w:World):Calls prog 190 #[q,r,f,p] w (vO f w):=by
 have ht:=λw=>cJ f hf w
 replace ht:=hid ht
 clear hf
 go_enter func190,ntmps190
 go_wp2_with fail
 refine(ht.out _).mono ?_
 rintro e w2 ⟨rfl,rfl⟩
 exact⟨rfl,rfl,rfl⟩
theorem N8(k:Int)(w:World):Calls prog 140 #[(k:Int)] w (λe w'=>e = .returned (.func (.func 190) #[] #[w.heap.size])∧w'=w.alloc (.cells #[(k:Int)] 3)):=by
 have hmf: ∀(fn:Fn) (first cap:Array Value) (w:World),(Instr.makeFunc fn first cap).run prog w = .ok (.func fn first cap) w:=λ_ _ _ _=>rfl
 go_enter func140,ntmps140
 go_wp2
 go_ret
 exact⟨rfl,rfl⟩
theorem Ak(k:Nat)(hk:k<=2)(q r:Int)(p:Nat)(w:World)(hp:p<w.heap.size)(hc:w.cell? (p,0)=some ((k:Int):Vl)):Calls prog 190 #[q,r,(0:Int),p] w
 (cz (λe B=> ∃b,e = .returned (.slice (some ⟨b,0,none⟩) (jP k q r).length (jP k q r).length)∧B=aa [ae b 3 (ag (jP k q r))]) Nob w):=
 (Ps k hk q r p w hp hc).mono λe w' ⟨b,he,so⟩=>⟨_,⟨b,he,rfl⟩,so⟩
theorem vS(k:Int)(w:World):Calls prog 140 #[(k:Int)] w (λe w'=> ∃b,e = .returned (.func (.func 190) #[] #[.pointer (some ⟨b,0,none⟩)])∧Below w.heap.size w w'∧w'.cell? ⟨b,0,none⟩=some ((k:Int):Vl)∧b<w'.heap.size):=
 (N8 k w).mono λe w' ⟨h1,h2⟩=>by
  subst h2
  exact⟨_,h1,((On.refl (A:=aa []) (F:=Nob) (w:=w) (λ_ h=>h)).alloc _).rn,by simp,by simp⟩
theorem Oc(a b:Int)(w:World):Calls prog 141 #[a,b] w (Quiet (tri (decide (b=0)) (mj a b) (ml a b)) w):=by
 refine(P1 a b w).mono ?_
 rintro e w' ⟨rfl,n,rfl⟩
 refine⟨?_,((On.refl (A:=aa []) (F:=Nob) (w:=w) (λ_ h=>h)).drewN n).rn⟩
 unfold Pt tri
 by_cases h:b=0
 ·rw[if_pos h,if_pos (decide_eq_true h)]
 ·rw[if_neg h,if_neg (by simpa using h)]
def ei(k:Nat)(o:Bool)(q r:Int)(x:Rn)(s:Mt):Rs×List Int:=(⟨if o then 7 else 0,x,s⟩,jP k q r)
theorem Ge{op:Int}{k:Nat}(R0: (op=34∧k=0)∨(op=35∧k=1)∨(op=36∧k=2))(arg lit cells:Int):br 105 (λg=>#[]) ⟨op,arg,lit,cells⟩ (λx s=>ei k (decide (ar s 2 1=0)) (mj (ar s 2 0) (ar s 2 1)) (ml (ar s 2 0) (ar s 2 1)) x s):=by
 intro c g x src s ba w F hs hx IT hb
 have Q8: (Code.ai op).1.toNat=2:=by rcases R0 with⟨rfl,rfl⟩ | ⟨rfl,rfl⟩ | ⟨rfl,rfl⟩<;>decide
 simp only[Q8]at hb⊢
 have hn:=(On.refl hb).drew
 have An:=(On.refl hb).ab 0 rfl
 have a0:=aj An (j:=0) oM
 have a1:=aj An (j:=1) oM
 have th: ∀W,On F w (aa (ae ba 3 (ag (s.args 2))::vL c g x src s)) W->W.cell? (ba,0)=some ((ar s 2 0):Vl)∧W.cell? (ba,1)=some ((ar s 2 1):Vl):=λW h=>⟨aj (h.ab 0 rfl) oM,aj (h.ab 0 rfl) oM⟩
 have WA:=λw=>Oc (ar s 2 0) (ar s 2 1) w
 unfold ei
 simp only
 generalize mj (ar s 2 0) (ar s 2 1)=Q at *
 generalize ml (ar s 2 0) (ar s 2 1)=R at *
 generalize decide (ar s 2 1=0)=o at *
 generalize ar s 2 0=X at *
 generalize ar s 2 1=Y at *
 generalize ag (s.args 2)=ac at *
 have Rd:=An.lt
 show Calls _ _ #[op,.slice ba 2 2] _ _
 clear hb An Q8 IT hs hx
 have Z3:=λw=>vS (k:Int) w
 replace⟨Z3,th⟩:=iB Z3 th
 cases o with
 | true=>
   show Calls _ _ _ _ (λe w'=>e = .panicked [flt 7]∧On F w (VA c g x src s) w')
   replace WA:=hid WA
   rcases R0 with⟨rfl,rfl⟩ | ⟨rfl,rfl⟩ | ⟨rfl,rfl⟩
   all_goals
    go_enter func105,ntmps105
    go_wp2_with fail
    go_region_held (λw'=>w'.cell? (ba,0)=some (X:Vl)∧w'.cell? (ba,1)=some (Y:Vl)) (go_keep)
     ((first
       | (go_at_call 140;refine(Z3.out _).mono ?_;rintro e w5 ⟨b,rfl,hb,kb,Uu⟩;have hn:=On.below (by assumption) hb;have⟨n0,n1⟩:=th.out _ hn;clear hb)
       | (go_at_call 141;refine mo (WA.out _) λw5 hb=>?_;unfold tri;simp only[];have hn:=On.below (by assumption) hb;have⟨n0,n1⟩:=th.out _ hn;(try have kb:=(hb.cell (p:=⟨b,0,none⟩) Uu).trans kb);(try have Uu:=Nat.lt_of_lt_of_le Uu hb.size);clear hb)
       | (go_at_call 190;refine dead (vw 7 (by decide) _ _ _ _) ⟨rfl,rfl,On.tail (by assumption)⟩ ?_;intro hF e w5 he hw;subst he;subst hw;replace hF:=hid hF)))
    all_goals exact hF.out.elim
 | false=>
   show Calls _ _ _ _ (λe w'=>ii (jP k Q R) (vL c g x src s) F w e w')
   replace WA:=hid WA
   rcases R0 with⟨rfl,rfl⟩ | ⟨rfl,rfl⟩ | ⟨rfl,rfl⟩
   all_goals
    go_enter func105,ntmps105
    go_wp2_with fail
    go_region_held (λw'=>w'.cell? (ba,0)=some (X:Vl)∧w'.cell? (ba,1)=some (Y:Vl)) (go_keep)
     ((first
       | (go_at_call 140;refine(Z3.out _).mono ?_;rintro e w5 ⟨b,rfl,hb,kb,Uu⟩;have hn:=On.below (by assumption) hb;have⟨n0,n1⟩:=th.out _ hn;clear hb)
       | (go_at_call 141;refine mo (WA.out _) λw5 hb=>?_;unfold tri;simp only[];have hn:=On.below (by assumption) hb;have⟨n0,n1⟩:=th.out _ hn;(try have kb:=(hb.cell (p:=⟨b,0,none⟩) Uu).trans kb);(try have Uu:=Nat.lt_of_lt_of_le Uu hb.size);clear hb)
       | (go_at_call 190;refine(On.make (by assumption) (Ak _ oM Q R _ _ Uu kb)).mono ?_;rintro e w6 ⟨B,⟨b2,rfl,rfl⟩,h⟩;have h6:On F w (aa (ae b2 3 (ag (jP _ Q R))::ae ba 3 ac::vL c g x src s)) w6:=On.flat h;have⟨n0,n1⟩:=th.out _ h6.tail;clear h;replace h6:=hid h6)))
    all_goals go_wp2
    all_goals go_ret
    all_goals exact⟨some ⟨b2,0,none⟩,_,ae b2 3 (ag (jP _ Q R)),rfl,aA _ _,h6.out.drop 1 rfl⟩
theorem P6(arg lit cells:Int):br 105 (λg=>#[]) ⟨34,arg,lit,cells⟩ (λx s=>ei 0 (decide (ar s 2 1=0)) (mj (ar s 2 0) (ar s 2 1)) (ml (ar s 2 0) (ar s 2 1)) x s):=Ge oM arg lit cells
theorem Qx(arg lit cells:Int):br 105 (λg=>#[]) ⟨35,arg,lit,cells⟩ (λx s=>ei 1 (decide (ar s 2 1=0)) (mj (ar s 2 0) (ar s 2 1)) (ml (ar s 2 0) (ar s 2 1)) x s):=Ge oM arg lit cells
theorem GG(arg lit cells:Int):br 105 (λg=>#[]) ⟨36,arg,lit,cells⟩ (λx s=>ei 2 (decide (ar s 2 1=0)) (mj (ar s 2 0) (ar s 2 1)) (ml (ar s 2 0) (ar s 2 1)) x s):=Ge oM arg lit cells
theorem M6{op:Int}{k:Nat}(R0: (op=37∧k=0)∨(op=38∧k=2))(arg lit cells:Int):br 105 (λg=>#[]) ⟨op,arg,lit,cells⟩ (λx s=>ei k (jr (dI (ar s 3 0) (ar s 3 1)) (tHi (ar s 3 0) (ar s 3 1)) (ar s 3 2)) (fdQ (dI (ar s 3 0) (ar s 3 1)) (tHi (ar s 3 0) (ar s 3 1)) (ar s 3 2)) (fdR (dI (ar s 3 0) (ar s 3 1)) (tHi (ar s 3 0) (ar s 3 1)) (ar s 3 2)) x s):=by
 intro c g x src s ba w F hs hx IT hb
 have Q8: (Code.ai op).1.toNat=3:=by rcases R0 with⟨rfl,rfl⟩ | ⟨rfl,rfl⟩<;>decide
 simp only[Q8]at hb⊢
 have hn:=(On.refl hb).drew
 have An:=(On.refl hb).ab 0 rfl
 have a0:=aj An (j:=0) oM
 have a1:=aj An (j:=1) oM
 have a2:=aj An (j:=2) oM
 have th: ∀W,On F w (aa (ae ba 3 (ag (s.args 3))::vL c g x src s)) W->W.cell? (ba,0)=some ((ar s 3 0):Vl)∧W.cell? (ba,1)=some ((ar s 3 1):Vl)∧W.cell? (ba,2)=some ((ar s 3 2):Vl):=λW h=>⟨aj (h.ab 0 rfl) oM,aj (h.ab 0 rfl) oM,aj (h.ab 0 rfl) oM⟩
 have htm:=λw=>CZ (ar s 3 0) (ar s 3 1) w
 have WA:=λw=>I7 (dI (ar s 3 0) (ar s 3 1)) (tHi (ar s 3 0) (ar s 3 1)) (ar s 3 2) w
 unfold ei
 simp only
 generalize fdQ (dI (ar s 3 0) (ar s 3 1)) (tHi (ar s 3 0) (ar s 3 1)) (ar s 3 2)=Q at *
 generalize fdR (dI (ar s 3 0) (ar s 3 1)) (tHi (ar s 3 0) (ar s 3 1)) (ar s 3 2)=R at *
 generalize jr (dI (ar s 3 0) (ar s 3 1)) (tHi (ar s 3 0) (ar s 3 1)) (ar s 3 2)=o at *
 generalize dI (ar s 3 0) (ar s 3 1)=lo at *
 generalize tHi (ar s 3 0) (ar s 3 1)=hi at *
 generalize ar s 3 0=X at *
 generalize ar s 3 1=Y at *
 generalize ar s 3 2=Z at *
 generalize ag (s.args 3)=ac at *
 have Rd:=An.lt
 show Calls _ _ #[op,.slice ba 3 3] _ _
 clear hb An Q8 IT hs hx
 have Z3:=λw=>vS (k:Int) w
 replace⟨Z3,th,htm⟩:=iC Z3 th htm
 cases o with
 | true=>
   show Calls _ _ _ _ (λe w'=>e = .panicked [flt 7]∧On F w (VA c g x src s) w')
   replace WA:=hid WA
   rcases R0 with⟨rfl,rfl⟩ | ⟨rfl,rfl⟩
   all_goals
    go_enter func105,ntmps105
    go_wp2_with fail
    go_region_held (λw'=>w'.cell? (ba,0)=some (X:Vl)∧w'.cell? (ba,1)=some (Y:Vl)∧w'.cell? (ba,2)=some (Z:Vl)) (go_keep)
     ((first
       | (go_at_call 140;refine(Z3.out _).mono ?_;rintro e w5 ⟨b,rfl,hb,kb,Uu⟩;have hn:=On.below (by assumption) hb;have⟨n0,n1,n2⟩:=th.out _ hn;clear hb)
       | (go_at_call 143;refine mo (htm.out _) λw5 hb=>?_;have hn:=On.below (by assumption) hb;have⟨n0,n1,n2⟩:=th.out _ hn;(try have kb:=(hb.cell (p:=⟨b,0,none⟩) Uu).trans kb);(try have Uu:=Nat.lt_of_lt_of_le Uu hb.size);clear hb)
       | (go_at_call 142;refine mo (WA.out _) λw5 hb=>?_;unfold tri;simp only[];have hn:=On.below (by assumption) hb;have⟨n0,n1,n2⟩:=th.out _ hn;(try have kb:=(hb.cell (p:=⟨b,0,none⟩) Uu).trans kb);(try have Uu:=Nat.lt_of_lt_of_le Uu hb.size);clear hb)
       | (go_at_call 190;refine dead (vw 7 (by decide) _ _ _ _) ⟨rfl,rfl,On.tail (by assumption)⟩ ?_;intro hF e w5 he hw;subst he;subst hw;replace hF:=hid hF)))
    all_goals exact hF.out.elim
 | false=>
   show Calls _ _ _ _ (λe w'=>ii (jP k Q R) (vL c g x src s) F w e w')
   replace WA:=hid WA
   rcases R0 with⟨rfl,rfl⟩ | ⟨rfl,rfl⟩
   all_goals
    go_enter func105,ntmps105
    go_wp2_with fail
    go_region_held (λw'=>w'.cell? (ba,0)=some (X:Vl)∧w'.cell? (ba,1)=some (Y:Vl)∧w'.cell? (ba,2)=some (Z:Vl)) (go_keep)
     ((first
       | (go_at_call 140;refine(Z3.out _).mono ?_;rintro e w5 ⟨b,rfl,hb,kb,Uu⟩;have hn:=On.below (by assumption) hb;have⟨n0,n1,n2⟩:=th.out _ hn;clear hb)
       | (go_at_call 143;refine mo (htm.out _) λw5 hb=>?_;have hn:=On.below (by assumption) hb;have⟨n0,n1,n2⟩:=th.out _ hn;(try have kb:=(hb.cell (p:=⟨b,0,none⟩) Uu).trans kb);(try have Uu:=Nat.lt_of_lt_of_le Uu hb.size);clear hb)
       | (go_at_call 142;refine mo (WA.out _) λw5 hb=>?_;unfold tri;simp only[];have hn:=On.below (by assumption) hb;have⟨n0,n1,n2⟩:=th.out _ hn;(try have kb:=(hb.cell (p:=⟨b,0,none⟩) Uu).trans kb);(try have Uu:=Nat.lt_of_lt_of_le Uu hb.size);clear hb)
       | (go_at_call 190;refine(On.make (by assumption) (Ak _ oM Q R _ _ Uu kb)).mono ?_;rintro e w6 ⟨B,⟨b2,rfl,rfl⟩,h⟩;have h6:On F w (aa (ae b2 3 (ag (jP _ Q R))::ae ba 3 ac::vL c g x src s)) w6:=On.flat h;have⟨n0,n1,n2⟩:=th.out _ h6.tail;clear h;replace h6:=hid h6)))
    all_goals go_wp2
    all_goals go_ret
    all_goals exact⟨some ⟨b2,0,none⟩,_,ae b2 3 (ag (jP _ Q R)),rfl,aA _ _,h6.out.drop 1 rfl⟩
theorem Ki(arg lit cells:Int):br 105 (λg=>#[]) ⟨37,arg,lit,cells⟩ (λx s=>ei 0 (jr (dI (ar s 3 0) (ar s 3 1)) (tHi (ar s 3 0) (ar s 3 1)) (ar s 3 2)) (fdQ (dI (ar s 3 0) (ar s 3 1)) (tHi (ar s 3 0) (ar s 3 1)) (ar s 3 2)) (fdR (dI (ar s 3 0) (ar s 3 1)) (tHi (ar s 3 0) (ar s 3 1)) (ar s 3 2)) x s):=M6 oM arg lit cells
theorem xH(arg lit cells:Int):br 105 (λg=>#[]) ⟨38,arg,lit,cells⟩ (λx s=>ei 2 (jr (dI (ar s 3 0) (ar s 3 1)) (tHi (ar s 3 0) (ar s 3 1)) (ar s 3 2)) (fdQ (dI (ar s 3 0) (ar s 3 1)) (tHi (ar s 3 0) (ar s 3 1)) (ar s 3 2)) (fdR (dI (ar s 3 0) (ar s 3 1)) (tHi (ar s 3 0) (ar s 3 1)) (ar s 3 2)) x s):=M6 oM arg lit cells
theorem H5{op:Int}{fn:FuncId}(R0: (op=55∧fn=145)∨(op=56∧fn=146)∨(op=57∧fn=142)){o:Int->Int->Int->Bool}{Q R:Int->Int->Int->Int}(hd: ∀lo hi n w,Calls prog fn #[.agg #[.int .i64 lo,.int .i64 hi],.int .i64 n] w (Quiet (tri (o lo hi n) (Q lo hi n) (R lo hi n)) w))(arg lit cells:Int):br 105 (λg=>#[]) ⟨op,arg,lit,cells⟩ (λx s=>ei 2 (o (ar s 3 0) (ar s 3 1) (ar s 3 2)) (Q (ar s 3 0) (ar s 3 1) (ar s 3 2)) (R (ar s 3 0) (ar s 3 1) (ar s 3 2)) x s):=by
 intro c g x src s ba w F hs hx IT hb
 have Q8: (Code.ai op).1.toNat=3:=by rcases R0 with⟨rfl,rfl⟩ | ⟨rfl,rfl⟩ | ⟨rfl,rfl⟩<;>decide
 simp only[Q8]at hb⊢
 have hn:=(On.refl hb).drew
 have An:=(On.refl hb).ab 0 rfl
 have a0:=aj An (j:=0) oM
 have a1:=aj An (j:=1) oM
 have a2:=aj An (j:=2) oM
 have th: ∀W,On F w (aa (ae ba 3 (ag (s.args 3))::vL c g x src s)) W->W.cell? (ba,0)=some ((ar s 3 0):Vl)∧W.cell? (ba,1)=some ((ar s 3 1):Vl)∧W.cell? (ba,2)=some ((ar s 3 2):Vl):=λW h=>⟨aj (h.ab 0 rfl) oM,aj (h.ab 0 rfl) oM,aj (h.ab 0 rfl) oM⟩
 have WA:=λw=>hd (ar s 3 0) (ar s 3 1) (ar s 3 2) w
 clear hd
 unfold ei
 simp only
 generalize Q (ar s 3 0) (ar s 3 1) (ar s 3 2)=Q at *
 generalize R (ar s 3 0) (ar s 3 1) (ar s 3 2)=R at *
 generalize o (ar s 3 0) (ar s 3 1) (ar s 3 2)=o at *
 generalize ar s 3 0=X at *
 generalize ar s 3 1=Y at *
 generalize ar s 3 2=Z at *
 generalize ag (s.args 3)=ac at *
 have Rd:=An.lt
 show Calls _ _ #[op,.slice ba 3 3] _ _
 clear hb An Q8 IT hs hx
 have Z3:=λw=>vS ((2:Nat):Int) w
 replace⟨Z3,th⟩:=iB Z3 th
 cases o with
 | true=>
   show Calls _ _ _ _ (λe w'=>e = .panicked [flt 7]∧On F w (VA c g x src s) w')
   replace WA:=hid WA
   rcases R0 with⟨rfl,rfl⟩ | ⟨rfl,rfl⟩ | ⟨rfl,rfl⟩
   all_goals
    go_enter func105,ntmps105
    go_wp2_with fail
    go_region_held (λw'=>w'.cell? (ba,0)=some (X:Vl)∧w'.cell? (ba,1)=some (Y:Vl)∧w'.cell? (ba,2)=some (Z:Vl)) (go_keep)
     ((first
       | (go_at_call 140;refine(Z3.out _).mono ?_;rintro e w5 ⟨b,rfl,hb,kb,Uu⟩;have hn:=On.below (by assumption) hb;have⟨n0,n1,n2⟩:=th.out _ hn;clear hb)
       | ((first|go_at_call 145|go_at_call 146|go_at_call 142);refine mo (WA.out _) λw5 hb=>?_;unfold tri;simp only[];have hn:=On.below (by assumption) hb;have⟨n0,n1,n2⟩:=th.out _ hn;(try have kb:=(hb.cell (p:=⟨b,0,none⟩) Uu).trans kb);(try have Uu:=Nat.lt_of_lt_of_le Uu hb.size);clear hb)
       | (go_at_call 190;refine dead (vw 7 (by decide) _ _ _ _) ⟨rfl,rfl,On.tail (by assumption)⟩ ?_;intro hF e w5 he hw;subst he;subst hw;replace hF:=hid hF)))
    all_goals exact hF.out.elim
 | false=>
   show Calls _ _ _ _ (λe w'=>ii (jP 2 Q R) (vL c g x src s) F w e w')
   replace WA:=hid WA
   rcases R0 with⟨rfl,rfl⟩ | ⟨rfl,rfl⟩ | ⟨rfl,rfl⟩
   all_goals
    go_enter func105,ntmps105
    go_wp2_with fail
    go_region_held (λw'=>w'.cell? (ba,0)=some (X:Vl)∧w'.cell? (ba,1)=some (Y:Vl)∧w'.cell? (ba,2)=some (Z:Vl)) (go_keep)
     ((first
       | (go_at_call 140;refine(Z3.out _).mono ?_;rintro e w5 ⟨b,rfl,hb,kb,Uu⟩;have hn:=On.below (by assumption) hb;have⟨n0,n1,n2⟩:=th.out _ hn;clear hb)
       | ((first|go_at_call 145|go_at_call 146|go_at_call 142);refine mo (WA.out _) λw5 hb=>?_;unfold tri;simp only[];have hn:=On.below (by assumption) hb;have⟨n0,n1,n2⟩:=th.out _ hn;(try have kb:=(hb.cell (p:=⟨b,0,none⟩) Uu).trans kb);(try have Uu:=Nat.lt_of_lt_of_le Uu hb.size);clear hb)
       | (go_at_call 190;refine(On.make (by assumption) (Ak 2 oM Q R _ _ Uu kb)).mono ?_;rintro e w6 ⟨B,⟨b2,rfl,rfl⟩,h⟩;have h6:On F w (aa (ae b2 3 (ag (jP 2 Q R))::ae ba 3 ac::vL c g x src s)) w6:=On.flat h;have⟨n0,n1,n2⟩:=th.out _ h6.tail;clear h;replace h6:=hid h6)))
    all_goals go_wp2
    all_goals go_ret
    all_goals exact⟨some ⟨b2,0,none⟩,_,ae b2 3 (ag (jP 2 Q R)),rfl,aA _ _,h6.out.drop 1 rfl⟩
theorem KJ(arg lit cells:Int):br 105 (λg=>#[]) ⟨55,arg,lit,cells⟩ (λx s=>ei 2 (rB (ar s 3 1) (ar s 3 2)) (udQ (ar s 3 0) (ar s 3 1) (ar s 3 2)) (udR (ar s 3 0) (ar s 3 1) (ar s 3 2)) x s):=H5 (o:=(λ_ b c=>rB b c)) (Q:=udQ) (R:=udR) (by simp) J1 arg lit cells
theorem KS(arg lit cells:Int):br 105 (λg=>#[]) ⟨56,arg,lit,cells⟩ (λx s=>ei 2 (kO (ar s 3 0) (ar s 3 1) (ar s 3 2)) (dvQ (ar s 3 0) (ar s 3 1) (ar s 3 2)) (dvR (ar s 3 0) (ar s 3 1) (ar s 3 2)) x s):=H5 (o:=kO) (Q:=dvQ) (R:=dvR) (by simp) OC arg lit cells
theorem LX(arg lit cells:Int):br 105 (λg=>#[]) ⟨57,arg,lit,cells⟩ (λx s=>ei 2 (jr (ar s 3 0) (ar s 3 1) (ar s 3 2)) (fdQ (ar s 3 0) (ar s 3 1) (ar s 3 2)) (fdR (ar s 3 0) (ar s 3 1) (ar s 3 2)) x s):=H5 (o:=jr) (Q:=fdQ) (R:=fdR) (by simp) I7 arg lit cells
theorem ML(arg lit cells:Int):cH 105 (λ_=>#[]) ⟨53,arg,lit,cells⟩ (λs=>[dI (ar s 2 0) (ar s 2 1),tHi (ar s 2 0) (ar s 2 1)]):=by
 intro c g x src s ba w F hs IT hb
 have Q8: (Code.ai 53).1.toNat=2:=by decide
 simp only[Q8]at hb⊢
 have hnB:=(On.refl hb).drew
 have hnA:=((On.refl hb).box #[(0:Int),(0:Int)] 227).drew
 have An:=(On.refl hb).ab 0 rfl
 have a0:=aj An (j:=0) oM
 have a1:=aj An (j:=1) oM
 have th: ∀W,On F w (aa (ae ba 3 (ag (s.args 2))::vL c g x src s)) W->W.cell? (ba,0)=some ((ar s 2 0):Vl)∧W.cell? (ba,1)=some ((ar s 2 1):Vl):=λW h=>⟨aj (h.ab 0 rfl) oM,aj (h.ab 0 rfl) oM⟩
 have htm:=λw=>CZ (ar s 2 0) (ar s 2 1) w
 generalize dI (ar s 2 0) (ar s 2 1)=lo at *
 generalize tHi (ar s 2 0) (ar s 2 1)=hi at *
 generalize ar s 2 0=X at *
 generalize ar s 2 1=Y at *
 generalize ag (s.args 2)=ac at *
 have Rd:=An.lt
 have ZF:ba<w.heap.size+1:=by omega
 have RP:=World.new_ne w ⟨ba,0,none⟩ a0
 have hic:=World.new_ne w ⟨ba,1,none⟩ a1
 have hfK:w.heap.size≠ba:=by omega
 show Calls _ _ #[(53:Int),.slice ba 2 2] _ _
 clear hb An Q8 IT hs
 replace⟨th,htm,hnA,hnB⟩:=iD th htm hnA hnB
 go_enter func105,ntmps105
 go_wp2_with fail
 go_region_held (λw'=>w'.cell? (ba,0)=some (X:Vl)∧w'.cell? (ba,1)=some (Y:Vl)) (go_keep)
  ((go_at_call 143;refine mo (htm.out _) λw5 hb=>?_
    first
    | (have Q7:=On.below hnA.out hb;have⟨n0,n1⟩:=th.out _ Q7.tail;have k0:w5.cell? (w.heap.size,0)=some (.int .i64 0):=(Q7.ab 0 rfl).cell 0;have k1:w5.cell? (w.heap.size,1)=some (.int .i64 0):=(Q7.ab 0 rfl).cell 1;have f0:=(Q7.ab 0 rfl).frozen 0;have f1:=(Q7.ab 0 rfl).frozen 1;have lt5:=(Q7.ab 0 rfl).lt;clear hb;replace Q7:=hid Q7)
    | (have Q7:=On.below hnB.out hb;have⟨n0,n1⟩:=th.out _ Q7;have lt5:=(Q7.ab 0 rfl).lt;clear hb;replace Q7:=hid Q7)))
 all_goals go_wp2
 all_goals go_ret
 all_goals first
  | (have h9:=((Q7.out.setAt 0 rfl 0 (.int .i64 lo)).setAt 0 rfl 1 (.int .i64 hi)).box #[lo,hi] 3
     rw[show((w5.setCell (w.heap.size,0) (.int .i64 lo)).setCell (w.heap.size,1) (.int .i64 hi)).heap.size=w5.heap.size by simp]at h9
     exact⟨some ⟨w5.heap.size,0,none⟩,2,ae w5.heap.size 3 (ag [lo,hi]),rfl,aA _ _,(h9.drop 1 rfl).drop 1 rfl⟩)
  | (have h9:=((Q7.out.box #[lo,hi] 227).box #[lo,hi] 3)
     simp only[World.size_alloc]at h9
     exact⟨some ⟨w5.heap.size+1,0,none⟩,2,ae (w5.heap.size+1) 3 (ag [lo,hi]),rfl,aA _ _,(h9.drop 1 rfl).drop 1 rfl⟩)
theorem Jf(arg lit cells:Int):cH 105 (λ_=>#[]) ⟨54,arg,lit,cells⟩ (λs=>[dI (ar s 2 0) (ar s 2 1),te (ar s 2 0) (ar s 2 1)]):=by
 intro c g x src s ba w F hs IT hb
 have Q8: (Code.ai 54).1.toNat=2:=by decide
 simp only[Q8]at hb⊢
 have hnB:=(On.refl hb).drew
 have hnA:=((On.refl hb).box #[(0:Int),(0:Int)] 227).drew
 have An:=(On.refl hb).ab 0 rfl
 have a0:=aj An (j:=0) oM
 have a1:=aj An (j:=1) oM
 have th: ∀W,On F w (aa (ae ba 3 (ag (s.args 2))::vL c g x src s)) W->W.cell? (ba,0)=some ((ar s 2 0):Vl)∧W.cell? (ba,1)=some ((ar s 2 1):Vl):=λW h=>⟨aj (h.ab 0 rfl) oM,aj (h.ab 0 rfl) oM⟩
 have htm:=λw=>zG (ar s 2 0) (ar s 2 1) w
 generalize dI (ar s 2 0) (ar s 2 1)=lo at *
 generalize te (ar s 2 0) (ar s 2 1)=hi at *
 generalize ar s 2 0=X at *
 generalize ar s 2 1=Y at *
 generalize ag (s.args 2)=ac at *
 have Rd:=An.lt
 have ZF:ba<w.heap.size+1:=by omega
 have RP:=World.new_ne w ⟨ba,0,none⟩ a0
 have hic:=World.new_ne w ⟨ba,1,none⟩ a1
 have hfK:w.heap.size≠ba:=by omega
 show Calls _ _ #[(54:Int),.slice ba 2 2] _ _
 clear hb An Q8 IT hs
 replace⟨th,htm,hnA,hnB⟩:=iD th htm hnA hnB
 go_enter func105,ntmps105
 go_wp2_with fail
 go_region_held (λw'=>w'.cell? (ba,0)=some (X:Vl)∧w'.cell? (ba,1)=some (Y:Vl)) (go_keep)
  ((go_at_call 144;refine mo (htm.out _) λw5 hb=>?_
    first
    | (have Q7:=On.below hnA.out hb;have⟨n0,n1⟩:=th.out _ Q7.tail;have k0:w5.cell? (w.heap.size,0)=some (.int .i64 0):=(Q7.ab 0 rfl).cell 0;have k1:w5.cell? (w.heap.size,1)=some (.int .i64 0):=(Q7.ab 0 rfl).cell 1;have f0:=(Q7.ab 0 rfl).frozen 0;have f1:=(Q7.ab 0 rfl).frozen 1;have lt5:=(Q7.ab 0 rfl).lt;clear hb;replace Q7:=hid Q7)
    | (have Q7:=On.below hnB.out hb;have⟨n0,n1⟩:=th.out _ Q7;have lt5:=(Q7.ab 0 rfl).lt;clear hb;replace Q7:=hid Q7)))
 all_goals go_wp2
 all_goals go_ret
 all_goals first
  | (have h9:=((Q7.out.setAt 0 rfl 0 (.int .i64 lo)).setAt 0 rfl 1 (.int .i64 hi)).box #[lo,hi] 3
     rw[show((w5.setCell (w.heap.size,0) (.int .i64 lo)).setCell (w.heap.size,1) (.int .i64 hi)).heap.size=w5.heap.size by simp]at h9
     exact⟨some ⟨w5.heap.size,0,none⟩,2,ae w5.heap.size 3 (ag [lo,hi]),rfl,aA _ _,(h9.drop 1 rfl).drop 1 rfl⟩)
  | (have h9:=((Q7.out.box #[lo,hi] 227).box #[lo,hi] 3)
     simp only[World.size_alloc]at h9
     exact⟨some ⟨w5.heap.size+1,0,none⟩,2,ae (w5.heap.size+1) 3 (ag [lo,hi]),rfl,aA _ _,(h9.drop 1 rfl).drop 1 rfl⟩)
