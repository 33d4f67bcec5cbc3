/- math/bits.Div64: two words by one. Conditions: the higher word is below the divisor. -/
import Derived.Test.YteaijdgnagkllaaGreatDoorZd16
import Derived.Test.YteaijdgnagkllaaGreatDoorZ00
import Derived.Test.YteaijdgnagkllaaGreatDoorZShelf
namespace Go.Proofs.YteaijdgnagkllaaGreatDoor
set_option linter.unusedVariables false
set_option linter.unusedSimpArgs false
set_option maxHeartbeats 8000000
set_option maxRecDepth 100000
open Go.RowKit Go.Lib Go.Deep
namespace Vm
theorem sub_nat(a b:Nat)(h:b<=a)(ha:a<18446744073709551616):IntKind.u64.wrap ((a:Int) - (b:Int))= ((a-b:Nat):Int):=by
 rw[IntKind.wrap_u64]
 omega
theorem tdiv_nat(a b:Nat)(ha:a<18446744073709551616):IntKind.u64.wrap ((a:Int) / (b:Int))= ((a/b:Nat):Int):=by
 have h1: (a:Int) / (b:Int)= ((a/b:Nat):Int):=rfl
 have h2:a/b<=a:=Nat.div_le_self a b
 rw[h1,Mul64.wrapN _ oM]
theorem mod_back(u d Y:Nat)(h:d=u/Y)(hY:Y<18446744073709551616)(h0:0<Y):IntKind.u64.wrap (IntKind.u64.wrap (u:Int) -IntKind.u64.wrap ((d:Int)* (Y:Int)))= ((u % Y:Nat):Int):=by
 subst h
 have h1:=Nat.div_add_mod' u Y
 have h2:=Nat.mod_lt u h0
 rw[Mul64.mulN]
 generalize u/Y*Y=p at *
 generalize u % Y=m at *
 simp only[IntKind.wrap_u64]
 omega
theorem div64_some(hi lo y:Nat)(h0:hi≠0)(h:hi<y)(hlo:lo<18446744073709551616)(hy:y<18446744073709551616)(w:World):
 Calls Tryz.prog 267 #[.int .u64 (hi:Int),.int .u64 (lo:Int),.int .u64 (y:Int)] w (Same (.tuple #[.int .u64 (((hi*18446744073709551616+lo) /y:Nat):Int),.int .u64 (((hi*18446744073709551616+lo) % y:Nat):Int)]) w):=by
 have hl:=Tryz.bits_LeadingZeros64 (y:Int)
 obtain⟨n1,n2,n3,n4⟩:=Div.lead_norm y oM hy
 obtain⟨d1,d2,d3⟩:=Div.div_all hi lo y (Div.lead y) h hlo oM
 rw[d2,<-d3]
 have e1: ((y:Int) ==0)=false:=by rw[beq_eq_false_iff_ne];omega
 have e2:decide (y<=hi)=false:=decide_eq_false oM
 have e3: ((hi:Int) ==0)=false:=by rw[beq_eq_false_iff_ne];omega
 have hl:=λw=>(hl w oM oM)
 rw[show(y:Int).toNat=y by omega,n4]at hl
 generalize Div.lead y=s at *
 clear n4 d2 d3
 have hws:IntKind.u64.wrap (s:Int)= (s:Int):=by rw[IntKind.wrap_u64];omega
 have hws2:IntKind.u64.wrap (64- (s:Int))= ((64-s:Nat):Int):=by rw[IntKind.wrap_u64];omega
 have hm1:min (s:Int).toNat 64=s:=by omega
 have hm2:min ((64-s:Nat):Int).toNat 64=64-s:=by omega
 have hpos:0<2 ^ s:=Nat.two_pow_pos s
 have hP: ∀k:Nat,((2:Int) ^ k)= ((2 ^ k:Nat):Int):=λk=>by simp
 have hlow:lo/2 ^ (64-s) <2 ^ s:=by
  refine Nat.div_lt_of_lt_mul ?_
  rw[<-Nat.pow_add,show 64-s+s=64 by omega]
  exact hlo
 obtain⟨Y,hY⟩: ∃Y,y*2 ^ s=Y:=⟨_,rfl⟩
 obtain⟨u2,hu2⟩: ∃u2,hi*2 ^ s+lo/2 ^ (64-s)=u2:=⟨_,rfl⟩
 obtain⟨L,hL⟩: ∃L,lo*2 ^ s % 18446744073709551616=L:=⟨_,rfl⟩
 have hLlt:L<18446744073709551616:=by rw[<-hL];exact Nat.mod_lt _ (by decide)
 have E2:IntKind.u64.wrap ((y:Int)*2 ^ s)= (Y:Int):=by
  rw[hP,Mul64.mulN,hY,Mul64.wrapN Y oM]
 have hh1:hi*2 ^ s<18446744073709551616:=by
  generalize hi*2 ^ s=A at *
  generalize lo/2 ^ (64-s)=B at *
  generalize y*2 ^ s=C at *
  omega
 have hh2:hi*2 ^ s+lo/2 ^ (64-s) <18446744073709551616:=by
  generalize hi*2 ^ s=A at *
  generalize lo/2 ^ (64-s)=B at *
  generalize y*2 ^ s=C at *
  omega
 have E11:bits .or .u64 (IntKind.u64.wrap ((hi:Int)*2 ^ s)) ((lo:Int) /2 ^ (64-s))= (u2:Int):=by
  rw[hP,hP,Mul64.mulN,Mul64.wrapN _ hh1,<-Int.natCast_ediv,Div.or_low _ _ _ hlow hh2,hu2]
 have E12:IntKind.u64.wrap ((lo:Int)*2 ^ s)= (L:Int):=by
  rw[hP,Mul64.mulN,Mul64.wrapM,hL]
 have E8:min (IntKind.u64.wrap (s:Int)).toNat 64=s:=by rw[hws,hm1]
 rw[hY,hu2]at d1
 rw[hY]at n2 n3
 rw[hY,hu2,hL]
 obtain⟨Y1,hY1⟩: ∃Y1,Y/4294967296=Y1:=⟨_,rfl⟩
 obtain⟨Y0,hY0⟩: ∃Y0,Y % 4294967296=Y0:=⟨_,rfl⟩
 obtain⟨u1,hu1⟩: ∃u1,L/4294967296=u1:=⟨_,rfl⟩
 obtain⟨u0,hu0⟩: ∃u0,L % 4294967296=u0:=⟨_,rfl⟩
 rw[hu1,hu0]
 have E9: (Y:Int) /4294967296= (Y1:Int):=by rw[Mul64.divN,hY1]
 have E10:bits .and .u64 (Y:Int) 4294967295= (Y0:Int):=by rw[Mul64.maskN Y n3,hY0]
 have E13: (L:Int) /4294967296= (u1:Int):=by rw[Mul64.divN,hu1]
 have E14:bits .and .u64 (L:Int) 4294967295= (u0:Int):=by rw[Mul64.maskN L hLlt,hu0]
 have E15:IntKind.u64.wrap ((u2:Int) / (Y1:Int))= ((u2/Y1:Nat):Int):=tdiv_nat _ _ oM
 have E16:IntKind.u64.wrap ((u2:Int) -IntKind.u64.wrap (((u2/Y1:Nat):Int)* (Y1:Int)))= ((u2-u2/Y1*Y1:Nat):Int):=by
  have h1:=Nat.div_mul_le_self u2 Y1
  rw[Mul64.mulN,Mul64.wrapN _ oM,sub_nat _ _ h1 oM]
 have eY: ¬Y1=0:=by omega
 have hYs:Y1*4294967296+Y0=Y:=by omega
 have hseek1:=Div.seek_start (y1:=Y1) (y0:=Y0) (u2:=u2) (u1:=u1) oM oM oM oM oM
 obtain⟨q1,hq1⟩: ∃q1,u2/Y1=q1:=⟨_,rfl⟩
 obtain⟨r1,hr1⟩: ∃r1,u2-u2/Y1*Y1=r1:=⟨_,rfl⟩
 rw[hr1]at E16 hseek1
 rw[hq1]at E15 E16 hseek1
 obtain⟨Q1,hQ1⟩: ∃Q1,(u2*4294967296+u1) /Y=Q1:=⟨_,rfl⟩
 obtain⟨m,hm⟩: ∃m,(u2*4294967296+u1) % Y=m:=⟨_,rfl⟩
 have hmY:m<Y:=by rw[<-hm];exact Nat.mod_lt _ oM
 have E17:IntKind.u64.wrap (IntKind.u64.wrap (IntKind.u64.wrap ((u2:Int)*4294967296) + (u1:Int)) -IntKind.u64.wrap ((Q1:Int)* (Y:Int)))= (m:Int):=by
  have h1:=mod_back (u2*4294967296+u1) Q1 Y hQ1.symm oM oM
  rw[hm]at h1
  rw[<-h1]
  simp only[IntKind.wrap_u64,Int.natCast_add,Int.natCast_mul]
  omega
 rw[hQ1,hm]
 have E18:IntKind.u64.wrap ((m:Int) / (Y1:Int))= ((m/Y1:Nat):Int):=tdiv_nat _ _ oM
 have E19:IntKind.u64.wrap ((m:Int) -IntKind.u64.wrap (((m/Y1:Nat):Int)* (Y1:Int)))= ((m-m/Y1*Y1:Nat):Int):=by
  have h1:=Nat.div_mul_le_self m Y1
  rw[Mul64.mulN,Mul64.wrapN _ oM,sub_nat _ _ h1 oM]
 have hseek2:=Div.seek_start (y1:=Y1) (y0:=Y0) (u2:=m) (u1:=u0) oM oM oM oM oM
 obtain⟨q2,hq2⟩: ∃q2,m/Y1=q2:=⟨_,rfl⟩
 obtain⟨r2,hr2⟩: ∃r2,m-m/Y1*Y1=r2:=⟨_,rfl⟩
 rw[hr2]at E19 hseek2
 rw[hq2]at E18 E19 hseek2
 obtain⟨Q0,hQ0⟩: ∃Q0,(m*4294967296+u0) /Y=Q0:=⟨_,rfl⟩
 obtain⟨k,hk⟩: ∃k,(m*4294967296+u0) % Y=k:=⟨_,rfl⟩
 have E20:IntKind.u64.wrap (IntKind.u64.wrap (IntKind.u64.wrap ((m:Int)*4294967296) + (u0:Int)) -IntKind.u64.wrap ((Q0:Int)* (Y:Int)))= (k:Int):=by
  have h1:=mod_back (m*4294967296+u0) Q0 Y hQ0.symm oM oM
  rw[hk]at h1
  rw[<-h1]
  simp only[IntKind.wrap_u64,Int.natCast_add,Int.natCast_mul]
  omega
 rw[hQ0,hk]
 have hb1:Q1<4294967296:=by
  have:=Div.quot_lt hseek1
  rw[hYs,hQ1]at this
  exact this
 have hb2:Q0<4294967296:=by
  have:=Div.quot_lt hseek2
  rw[hYs,hQ0]at this
  exact this
 have E21:IntKind.u64.wrap (IntKind.u64.wrap ((Q1:Int)*4294967296) + (Q0:Int))= ((Q1*4294967296+Q0:Nat):Int):=by
  simp only[IntKind.wrap_u64]
  omega
 obtain⟨A1,hA1⟩: ∃A1,Q1*4294967296+Q0=A1:=⟨_,rfl⟩
 obtain⟨A2,hA2⟩: ∃A2,k/2 ^ s=A2:=⟨_,rfl⟩
 rw[hA1]at E21
 rw[hA1,hA2]
 have E22: (k:Int) /2 ^ s= (A2:Int):=by rw[hP,<-Int.natCast_ediv,hA2]
 rw[<-hYs]at hQ1 hQ0
 replace hl:=hid hl
 replace hseek1:=hid hseek1
 replace hseek2:=hid hseek2
 replace hQ1:=hid hQ1
 replace hQ0:=hid hQ0
 clear hh1 hh2 n1 n2 n3 d1 hm1 hm2 hpos hP hlow hY hu2 hL hLlt hY1 hY0 hu1 hu0 hYs hq1 hr1 hm hmY hq2 hr2 hk hb1 hb2 hA1 hA2 hws hws2 h0 h hlo hy
 go_enter Tryz.func267,Tryz.ntmps267
 go_wp2_with fail
 refine(hl.out _).mono ?_
 rintro e w1 ⟨rfl,rfl⟩
 simp only[]
 go_upto_block 0 with fail
 go_cut [15] (λa wx=>a = .int .u64 (Q1:Int)∧wx=w1)
 case first=>
  go_wp2_with fail
  go_loopw [15,16] (λa b wx=> ∃q r:Nat,a = .int .u64 (q:Int)∧b = .int .u64 (r:Int)∧Div.Seek Y1 Y0 u2 u1 q r∧wx=w1) (λa _ _=>(RowKit.intOf a).toNat)
  case atStart=>exact⟨q1,r1,rfl,rfl,hseek1.out,rfl⟩
  case round=>
   obtain⟨q,r,rfl,rfl,hS,rfl⟩:=hrel
   have hmost:=hS.most
   have hrr:=hS.hr
   have hy1:=hS.hi
   have hlo1:=hS.lo
   have z0:=Div.seek_more hS
   have z1:=Div.seek_break hS
   have z2:=Div.seek_next hS
   have z3:=Div.seek_stop hS
   rw[hQ1.out]at z0 z1 z3
   have hmulq:q<4294967296->q*Y0<18446744073709551616:=λh=>by
    have h1:q*Y0<=4294967295*4294967295:=Nat.mul_le_mul oM (by have:=hS.hy0;omega)
    omega
   have hu1:=hS.hu1
   obtain⟨p,hp⟩: ∃p,q*Y0=p:=⟨_,rfl⟩
   obtain⟨z,hz⟩: ∃z,4294967296*r+u1=z:=⟨_,rfl⟩
   rw[hp]at z0 z1 z2 z3 hmulq
   rw[hz]at z0 z1 z2 z3
   have F2:IntKind.u64.wrap (IntKind.u64.wrap (4294967296* (r:Int)) + (u1:Int))= (z:Int):=by
    simp only[IntKind.wrap_u64]
    omega
   have F1:q<4294967296->IntKind.u64.wrap ((q:Int)* (Y0:Int))= (p:Int):=λh=>by rw[Mul64.mulN,hp,Mul64.wrapN _ (hmulq h)]
   obtain⟨q',hq'⟩: ∃q',q-1=q':=⟨_,rfl⟩
   obtain⟨r',hr'⟩: ∃r',r+Y1=r':=⟨_,rfl⟩
   rw[hq',hr']at z1 z2
   have F4:IntKind.u64.wrap ((r:Int) + (Y1:Int))= (r':Int):=by
    simp only[IntKind.wrap_u64]
    omega
   have F3: (4294967296<=q∨z<p)->IntKind.u64.wrap ((q:Int) -1)= (q':Int):=λh=>by
    have:=z0 h
    simp only[IntKind.wrap_u64]
    omega
   replace z0:=hid z0
   replace z1:=hid z1
   replace z2:=hid z2
   replace z3:=hid z3
   replace hp:=hid hp
   replace hz:=hid hz
   replace hq':=hid hq'
   replace hr':=hid hr'
   replace hS:=hid hS
   clear hmost hrr hy1 hlo1 hmulq hu1
   by_cases hge:4294967296<=q
   ·have t1:decide ((4294967296:Int)<=(q:Int))=true:=decide_eq_true oM
    have hc:=hid (show 4294967296<=q∨z<p from .inl hge)
    replace F3:=F3 hc.out
    replace hge:=hid hge
    clear F1
    by_cases hbr:4294967296<=r'
    ·have t3:decide ((4294967296:Int)<=(r':Int))=true:=decide_eq_true oM
     have hfin:=hid (z1.out hc.out hbr)
     replace hbr:=hid hbr
     go_wp2
     go_meet
     exact⟨congrArg (λn:Nat=>Value.int .u64 (n:Int)) hfin.out,rfl⟩
    ·have t3:decide ((4294967296:Int)<=(r':Int))=false:=decide_eq_false oM
     have hnx:=hid (z2.out hc.out oM)
     replace hbr:=hid hbr
     go_wp2
     go_roundw
     case rel=>exact⟨q',r',rfl,rfl,hnx.out,by first|rfl|trivial⟩
     case measure=>have h1:=hq'.out;have h2:=hge.out;simp[RowKit.intOf];omega
   ·have t1:decide ((4294967296:Int)<=(q:Int))=false:=decide_eq_false oM
    replace F1:=F1 oM
    by_cases hgt:z<p
    ·have t2:decide (z<p)=true:=decide_eq_true hgt
     have hc:=hid (show 4294967296<=q∨z<p from .inr hgt)
     have hpos:=hid (z0.out hc.out)
     replace F3:=F3 hc.out
     replace hge:=hid hge
     replace hgt:=hid hgt
     by_cases hbr:4294967296<=r'
     ·have t3:decide ((4294967296:Int)<=(r':Int))=true:=decide_eq_true oM
      have hfin:=hid (z1.out hc.out hbr)
      replace hbr:=hid hbr
      go_wp2
      go_meet
      exact⟨congrArg (λn:Nat=>Value.int .u64 (n:Int)) hfin.out,rfl⟩
     ·have t3:decide ((4294967296:Int)<=(r':Int))=false:=decide_eq_false oM
      have hnx:=hid (z2.out hc.out oM)
      replace hbr:=hid hbr
      go_wp2
      go_roundw
      case rel=>exact⟨q',r',rfl,rfl,hnx.out,by first|rfl|trivial⟩
      case measure=>have h1:=hq'.out;have h2:=hpos.out;simp[RowKit.intOf];omega
    ·have t2:decide (z<p)=false:=decide_eq_false hgt
     have hfin:=hid (z3.out oM)
     replace hge:=hid hge
     replace hgt:=hid hgt
     clear F3
     go_wp2
     go_meet
     exact⟨congrArg (λn:Nat=>Value.int .u64 (n:Int)) hfin.out,rfl⟩
 case rest=>
  obtain⟨rfl,hwx⟩:=hcut
  replace hwx:=hwx.symm
  subst hwx
  go_upto_block 2 with fail
  go_cut [18] (λa wx=>a = .int .u64 (Q0:Int)∧wx=w1)
  case first=>
   go_wp2_with fail
   go_loopw [18,16] (λa b wx=> ∃q r:Nat,a = .int .u64 (q:Int)∧b = .int .u64 (r:Int)∧Div.Seek Y1 Y0 m u0 q r∧wx=w1) (λa _ _=>(RowKit.intOf a).toNat)
   case atStart=>exact⟨q2,r2,rfl,rfl,hseek2.out,rfl⟩
   case round=>
    obtain⟨q,r,rfl,rfl,hS,rfl⟩:=hrel
    have hmost:=hS.most
    have hrr:=hS.hr
    have hy1:=hS.hi
    have hlo1:=hS.lo
    have z0:=Div.seek_more hS
    have z1:=Div.seek_break hS
    have z2:=Div.seek_next hS
    have z3:=Div.seek_stop hS
    rw[hQ0.out]at z0 z1 z3
    have hmulq:q<4294967296->q*Y0<18446744073709551616:=λh=>by
     have h1:q*Y0<=4294967295*4294967295:=Nat.mul_le_mul oM (by have:=hS.hy0;omega)
     omega
    have hu1:=hS.hu1
    obtain⟨p,hp⟩: ∃p,q*Y0=p:=⟨_,rfl⟩
    obtain⟨z,hz⟩: ∃z,4294967296*r+u0=z:=⟨_,rfl⟩
    rw[hp]at z0 z1 z2 z3 hmulq
    rw[hz]at z0 z1 z2 z3
    have F2:IntKind.u64.wrap (IntKind.u64.wrap (4294967296* (r:Int)) + (u0:Int))= (z:Int):=by
     simp only[IntKind.wrap_u64]
     omega
    have F1:q<4294967296->IntKind.u64.wrap ((q:Int)* (Y0:Int))= (p:Int):=λh=>by rw[Mul64.mulN,hp,Mul64.wrapN _ (hmulq h)]
    obtain⟨q',hq'⟩: ∃q',q-1=q':=⟨_,rfl⟩
    obtain⟨r',hr'⟩: ∃r',r+Y1=r':=⟨_,rfl⟩
    rw[hq',hr']at z1 z2
    have F4:IntKind.u64.wrap ((r:Int) + (Y1:Int))= (r':Int):=by
     simp only[IntKind.wrap_u64]
     omega
    have F3: (4294967296<=q∨z<p)->IntKind.u64.wrap ((q:Int) -1)= (q':Int):=λh=>by
     have:=z0 h
     simp only[IntKind.wrap_u64]
     omega
    replace z0:=hid z0
    replace z1:=hid z1
    replace z2:=hid z2
    replace z3:=hid z3
    replace hp:=hid hp
    replace hz:=hid hz
    replace hq':=hid hq'
    replace hr':=hid hr'
    replace hS:=hid hS
    clear hmost hrr hy1 hlo1 hmulq hu1
    by_cases hge:4294967296<=q
    ·have t1:decide ((4294967296:Int)<=(q:Int))=true:=decide_eq_true oM
     have hc:=hid (show 4294967296<=q∨z<p from .inl hge)
     replace F3:=F3 hc.out
     replace hge:=hid hge
     clear F1
     by_cases hbr:4294967296<=r'
     ·have t3:decide ((4294967296:Int)<=(r':Int))=true:=decide_eq_true oM
      have hfin:=hid (z1.out hc.out hbr)
      replace hbr:=hid hbr
      go_wp2
      go_meet
      exact⟨congrArg (λn:Nat=>Value.int .u64 (n:Int)) hfin.out,rfl⟩
     ·have t3:decide ((4294967296:Int)<=(r':Int))=false:=decide_eq_false oM
      have hnx:=hid (z2.out hc.out oM)
      replace hbr:=hid hbr
      go_wp2
      go_roundw
      case rel=>exact⟨q',r',rfl,rfl,hnx.out,by first|rfl|trivial⟩
      case measure=>have h1:=hq'.out;have h2:=hge.out;simp[RowKit.intOf];omega
    ·have t1:decide ((4294967296:Int)<=(q:Int))=false:=decide_eq_false oM
     replace F1:=F1 oM
     by_cases hgt:z<p
     ·have t2:decide (z<p)=true:=decide_eq_true hgt
      have hc:=hid (show 4294967296<=q∨z<p from .inr hgt)
      have hpos:=hid (z0.out hc.out)
      replace F3:=F3 hc.out
      replace hge:=hid hge
      replace hgt:=hid hgt
      by_cases hbr:4294967296<=r'
      ·have t3:decide ((4294967296:Int)<=(r':Int))=true:=decide_eq_true oM
       have hfin:=hid (z1.out hc.out hbr)
       replace hbr:=hid hbr
       go_wp2
       go_meet
       exact⟨congrArg (λn:Nat=>Value.int .u64 (n:Int)) hfin.out,rfl⟩
      ·have t3:decide ((4294967296:Int)<=(r':Int))=false:=decide_eq_false oM
       have hnx:=hid (z2.out hc.out oM)
       replace hbr:=hid hbr
       go_wp2
       go_roundw
       case rel=>exact⟨q',r',rfl,rfl,hnx.out,by first|rfl|trivial⟩
       case measure=>have h1:=hq'.out;have h2:=hpos.out;simp[RowKit.intOf];omega
     ·have t2:decide (z<p)=false:=decide_eq_false hgt
      have hfin:=hid (z3.out oM)
      replace hge:=hid hge
      replace hgt:=hid hgt
      clear F3
      go_wp2
      go_meet
      exact⟨congrArg (λn:Nat=>Value.int .u64 (n:Int)) hfin.out,rfl⟩
  case rest=>
   obtain⟨rfl,hwx⟩:=hcut
   replace hwx:=hwx.symm
   subst hwx
   go_wp2
   go_ret2
   exact⟨rfl,rfl⟩
theorem div64_walk(hi lo y:Nat)(h:hi<y)(hlo:lo<18446744073709551616)(hy:y<18446744073709551616)(w:World):
 Calls Tryz.prog 267 #[.int .u64 (hi:Int),.int .u64 (lo:Int),.int .u64 (y:Int)] w (Drew (.tuple #[.int .u64 (((hi*18446744073709551616+lo) /y:Nat):Int),.int .u64 (((hi*18446744073709551616+lo) % y:Nat):Int)]) w):=by
 by_cases h0:hi=0
 ·subst h0
  rw[Nat.zero_mul,Nat.zero_add]
  have e1: ((y:Int) ==0)=false:=by rw[beq_eq_false_iff_ne];omega
  have e0: ¬y=0:=by omega
  have e2:decide (y<=0)=false:=decide_eq_false oM
  obtain⟨Q,hQ⟩: ∃Q,lo/y=Q:=⟨_,rfl⟩
  obtain⟨R,hR⟩: ∃R,lo % y=R:=⟨_,rfl⟩
  have E1:IntKind.u64.wrap ((lo:Int) / (y:Int))= (Q:Int):=by rw[tdiv_nat _ _ hlo,hQ]
  have E2: (lo:Int) % (y:Int)= (R:Int):=by rw[<-Int.natCast_emod,hR]
  rw[hQ,hR]
  clear hQ hR h hlo hy
  go_enter Tryz.func267,Tryz.ntmps267
  go_wp2_with fail
  go_quiet (fail)
  go_wp2
  rw[<-E2]
  go_ret2
  exact⟨rfl,_,rfl⟩
 ·exact(div64_some hi lo y h0 h hlo hy w).mono λe w' ⟨h1,h2⟩=>⟨h1,0,h2⟩
end Vm
end Go.Proofs.YteaijdgnagkllaaGreatDoor
