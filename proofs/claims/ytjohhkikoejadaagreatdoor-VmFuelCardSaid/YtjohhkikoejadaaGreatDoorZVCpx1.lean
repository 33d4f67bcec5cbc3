/- Chapter 2: the program's complex numbers of whole parts: exactly. Conditions: as written. -/
import Derived.Test.YtjohhkikoejadaaGreatDoorOm
import Derived.Test.YtjohhkikoejadaaGreatDoorZ02
import Derived.Test.YtjohhkikoejadaaGreatDoorZVFlt
import Derived.Test.YtjohhkikoejadaaGreatDoorZ03
import Derived.IntWalk
import Derived.Laws.BitsAllLaws
namespace Go.Proofs.YtjohhkikoejadaaGreatDoor
set_option linter.unusedVariables false
set_option maxRecDepth 100000
open Go.RowKit Go.Lib Flt
namespace Vm
structure IC(b:Nat)(n:Int) :Prop where
 i:IsI b n
 lt:b<18446744073709551616
 sm:n.natAbs<9007199254740992
def inP(n:Int) :Bool:=decide (n.natAbs<=16777216)
theorem cH{n:Int}(h:inP n=true) :n.natAbs<=16777216:=of_decide_eq_true h
theorem mz{d:Ieee.Datum}:Ieee.double.write d<18446744073709551616:=by
 have:=Ieee.Format.write_lt Ieee.double d
 have e: (2:Nat) ^ Ieee.double.width=18446744073709551616:=by decide
 omega
theorem tZ(n:Int)(h:n.natAbs<9007199254740992) :IC (floatOfInt .f64 n) n:=⟨of_int n h,mz (d:= .number (decide (n<0)) n.natAbs 0),h⟩
theorem ic0:IC 0 0:=by
 have h:=tZ 0 (by decide)
 have e:floatOfInt .f64 0=0:=by decide
 rwa[e]at h
theorem ic1:IC 4607182418800017408 1:=by
 have h:=tZ 1 (by decide)
 have e:floatOfInt .f64 1=4607182418800017408:=by decide
 rwa[e]at h
theorem NF:IC 13830554455654793216 (-1):=by
 have h:=tZ (-1) (by decide)
 have e:floatOfInt .f64 (-1) =13830554455654793216:=by decide
 rwa[e]at h
theorem NV:IC 4715268809856909312 16777216:=by
 have h:=tZ 16777216 (by decide)
 have e:floatOfInt .f64 16777216=4715268809856909312:=by decide
 rwa[e]at h
theorem oy{x y:Nat}{a b:Int}(h1:IC x a)(h2:IC y b)(h: (a+b).natAbs<9007199254740992) : ∃r,floatBits .add .f64 x y=some r∧IC r (a+b):=by
 obtain⟨r,hr,hi⟩:=DI.sum h1.i h2.i h
 have e:floatBits .add .f64 x y=some r:=hr
 exact⟨r,e,hi,by
  rcases hs: (Ieee.double.read x).sum (Ieee.double.read y)with _|d
  ·rw[hs]at hr;cases hr
  ·rw[hs]at hr;cases hr;exact mz,h⟩
theorem vW{x y:Nat}{a b:Int}(h1:IC x a)(h2:IC y b)(h: (a-b).natAbs<9007199254740992) : ∃r,floatBits .sub .f64 x y=some r∧IC r (a-b):=by
 obtain⟨r,hr,hi⟩:=DI.sum h1.i (DI.opposite h2.i) (by rw[<-Int.sub_eq_add_neg];exact h)
 rw[<-Int.sub_eq_add_neg]at hi
 have e:floatBits .sub .f64 x y=some r:=hr
 exact⟨r,e,hi,by
  rcases hs: (Ieee.double.read x).sum (Ieee.double.read y).opposite with _|d
  ·rw[hs]at hr;cases hr
  ·rw[hs]at hr;cases hr;exact mz,h⟩
theorem km{x y:Nat}{a b:Int}(h1:IC x a)(h2:IC y b)(h: (a*b).natAbs<9007199254740992) : ∃r,floatBits .mul .f64 x y=some r∧IC r (a*b):=by
 obtain⟨r,hr,hi⟩:=DI.product h1.i h2.i h
 have e:floatBits .mul .f64 x y=some r:=hr
 exact⟨r,e,hi,by
  rcases hs: (Ieee.double.read x).product (Ieee.double.read y)with _|d
  ·rw[hs]at hr;cases hr
  ·rw[hs]at hr;cases hr;exact mz,h⟩
theorem Ll{x:Nat}{a:Int}(h:IC x a) :IC (x ^^^ 9223372036854775808) (-a):=⟨IsI.neg h.i h.lt,by
 have h1:=h.lt
 exact Nat.xor_lt_two_pow (n:=64) h1 oM,by have:=h.sm;omega⟩
theorem wJ{x y:Nat}{a b:Int}(h1:IC x a)(h2:IC y b) :FloatKind.f64.format.order x y=some (compare a b):=DI.order h1.i h2.i
theorem Ih{x:Nat}{a:Int}(h:IC x a) :floatToIntVal .f64 x .i64=some a:=by
 unfold floatToIntVal
 have e: (FloatKind.f64.decode x).toInt .zero=some a:=DI.toInt h.i
 rw[e]
 have h1:=h.sm
 have h2:IntKind.i64.min = -9223372036854775808:=by decide
 have h3:IntKind.i64.max=9223372036854775807:=by decide
 simp only[h2,h3]
 rw[if_pos oM]
theorem HP{x:Nat}{a:Int}(h:IC x a) : ∃r,FloatKind.f64.encode ((FloatKind.f64.decode x).integral .zero) =r∧IC r a:=⟨_,rfl,IsI.Nr h.i h.sm,mz,h.sm⟩
theorem M6{x:Nat}{a:Int}(h:IC x a) :IC (x % 9223372036854775808) (a.natAbs:Int):=⟨IsI.abs h.i,by omega,by have:=h.sm;simpa using this⟩
theorem cmp_eq(a:Int) :compare a a = .eq:=by rw[Int.compare_eq_ite_lt];simp
theorem wA(P:Program)(x:Nat)(w:World)(s:Bool)(m:Nat)(p:Int)(hd:FloatKind.f64.decode x = .number s m p) :
 (Extern.MathFloor.toIntegral "math.archTrunc" .zero #[.float .f64 x]).run P w = .ok (.float .f64 (FloatKind.f64.encode ((Ieee.Datum.number s m p).integral .zero))) w:=by
 obtain⟨A,hA⟩ : ∃A:Bool->Nat->Sem Value,Extern.MathFloor.toIntegral "math.archTrunc" .zero #[.float .f64 x] = (match FloatKind.f64.decode x with
  | .nan s t=>A s t
  | d=>pure (.float .f64 (FloatKind.f64.encode (d.integral .zero)))):=⟨_,rfl⟩
 rw[hA,hd]
 rfl
theorem Em{x:Nat}{a:Int}(h:IC x a)(w:World) :Calls Tryz.prog 239 #[.float .f64 x] w (λe w'=> ∃r,e = .returned (.float .f64 r)∧IC r a∧w'=w):=by
 obtain⟨r,hr,hi⟩:=HP h
 have hcall: (callFunc 250 #[.float .f64 x]).run Tryz.prog w = .ok (.value (.float .f64 r)) w:=by
  rw[run_callFunc_extern Tryz.func250 kR kR kR (e:=Extern.MathFloor.toIntegral "math.archTrunc" .zero) kR]
  obtain⟨s,m,k,hd,_⟩:=h.i
  have hd2:FloatKind.f64.decode x = .number s m (-(k:Int)):=hd
  have h3:=wA Tryz.prog x w s m _ hd2
  rw[hd2]at hr
  rw[hr]at h3
  rw[h3]
  rfl
 replace hi:=hid hi
 clear h hr
 replace hcall:=hid hcall
 go_enter Tryz.func239,Tryz.ntmps239
 go_wp2_with fail
 rw[hcall.out]
 clear hcall
 go_wp2_with fail
 go_ret
 exact⟨r,rfl,hi.out,rfl⟩
theorem JD{x:Nat}{a:Int}(h:IC x a)(w:World) :Calls Tryz.prog 240 #[.float .f64 x] w (λe w'=> ∃r,e = .returned (.float .f64 r)∧IC r (a.natAbs:Int)∧w'=w):=by
 have hi:=M6 h
 have h1: (callFunc 253 #[.float .f64 x]).run Tryz.prog w = .ok (.value (.int .u64 (x:Int))) w:=by
  rw[run_callFunc_extern Tryz.func253 kR kR kR (e:=Extern.MathFloatBits.float64bits) kR]
  rfl
 have h3:bits .andNot .u64 (x:Int) 9223372036854775808= ((x % 9223372036854775808:Nat) :Int):=by
  have h4:=u64_andNot_nat x 9223372036854775808 h.lt oM
  have h5:x &&& (18446744073709551615-9223372036854775808) =x % 9223372036854775808:=Nat.and_two_pow_sub_one_eq_mod x 63
  rw[h5]at h4
  exact h4
 have h2: (callFunc 252 #[.int .u64 ((x % 9223372036854775808:Nat) :Int)]).run Tryz.prog w = .ok (.value (.float .f64 (x % 9223372036854775808))) w:=by
  rw[run_callFunc_extern Tryz.func252 kR kR kR (e:=Extern.MathFloatBits.float64frombits) kR]
  rfl
 generalize x % 9223372036854775808=y at *
 replace hi:=hid hi
 clear h
 go_enter Tryz.func240,Tryz.ntmps240
 go_wp2
 go_ret
 exact⟨y,rfl,hi.out,rfl⟩
theorem tw{x:Nat}{a:Int}(h:IC x a)(w:World) :Calls Tryz.prog 219 #[.float .f64 x] w (aA (.bool (inP a)) w):=by
 have ht:=hid (λw=>Em h w)
 have hab:=hid (λw=>JD h w)
 have hc:inP a=decide (a.natAbs<=16777216):=rfl
 go_enter Tryz.func219,Tryz.ntmps219
 go_wp2_with fail
 refine(ht.out _).mono ?_
 rintro e w1 ⟨r,rfl,hr,rfl⟩
 simp only[]
 have o1: (FloatKind.f64.format.order x r==some .eq) =true:=by rw[wJ h hr,cmp_eq];rfl
 go_wp2_with fail
 refine(hab.out _).mono ?_
 rintro e w2 ⟨q,rfl,hq,rfl⟩
 simp only[]
 have o2: (FloatKind.f64.format.order q 4715268809856909312==some .lt||FloatKind.f64.format.order q 4715268809856909312==some .eq) =inP a:=by
  rw[wJ hq NV,Int.compare_eq_ite_lt,hc]
  by_cases h1:a.natAbs<=16777216
  ·rw[decide_eq_true h1]
   by_cases h2: (a.natAbs:Int) <16777216
   ·rw[if_pos h2];rfl
   ·rw[if_neg h2,if_neg oM];rfl
  ·rw[decide_eq_false h1,if_neg oM,if_pos oM];rfl
 go_wp2
 go_ret
 exact⟨rfl,rfl⟩
theorem oj{x y:Nat}{a b:Int}(h1:IC x a)(h2:IC y b)(w:World) :Calls Tryz.prog 199 #[.complex .f64 x y] w (aA (.bool (inP a&&inP b)) w):=by
 have k1:=hid (λw=>tw h1 w)
 have k2:=hid (λw=>tw h2 w)
 clear h1 h2
 rcases ha:inP a with _|_
 ·rw[ha]at k1
  clear ha
  go_enter Tryz.func199,Tryz.ntmps199
  go_wp2_with fail
  refine(k1.out _).mono ?_
  rintro e w1 ⟨rfl,rfl⟩
  simp only[]
  go_wp2
  go_ret
  exact⟨rfl,rfl⟩
 ·rw[ha]at k1
  clear ha
  generalize inP b=o at *
  go_enter Tryz.func199,Tryz.ntmps199
  go_wp2_with fail
  refine(k1.out _).mono ?_
  rintro e w1 ⟨rfl,rfl⟩
  simp only[]
  go_wp2_with fail
  refine(k2.out _).mono ?_
  rintro e w1 ⟨rfl,rfl⟩
  simp only[]
  go_wp2
  go_ret
  exact⟨by simp,rfl⟩
def Mc(a b:Int)(w:World)(e:Ending)(w':World) :Prop:= ∃r i,e = .returned (.complex .f64 r i)∧IC r a∧IC i b∧w'=w
theorem CB{x y:Nat}{a b:Int}(h1:IC x a)(h2:IC y b)(w:World) :Calls Tryz.prog 218 #[.complex .f64 x y] w (Mc a b w):=by
 obtain⟨r,hr,kr⟩:=oy h1 ic0 (by rw[Int.add_zero];exact h1.sm)
 obtain⟨i,hi,ki⟩:=oy h2 ic0 (by rw[Int.add_zero];exact h2.sm)
 rw[Int.add_zero]at kr ki
 have f1 : ∀(t:TypeId) (w:World),(binOp .add t (.float .f64 x) (.float .f64 0)).run Tryz.prog w = .ok (.float .f64 r) w:=λt w=>run_float_arith w .add t .f64 x 0 r hr
 have f2 : ∀(t:TypeId) (w:World),(binOp .add t (.float .f64 y) (.float .f64 0)).run Tryz.prog w = .ok (.float .f64 i) w:=λt w=>run_float_arith w .add t .f64 y 0 i hi
 replace kr:=hid kr
 replace ki:=hid ki
 clear h1 h2 hr hi
 go_enter Tryz.func218,Tryz.ntmps218
 go_wp2
 go_ret
 exact⟨r,i,rfl,kr.out,ki.out,rfl⟩
theorem kW{x y:Nat}{a b:Int}(h1:IC x a)(h2:IC y b)(ha:inP a=true)(hb:inP b=true)(w:World) :Calls Tryz.prog 164 #[.complex .f64 x y] w (aA (.tuple #[a,b,(0:Int)]) w):=by
 have hr:=oj h1 h2 w
 rw[ha,hb]at hr
 have f1 : ∀(w:World),(convert 239 3 (.float .f64 x)).run Tryz.prog w = .ok (.int .i64 a) w:=λw=>run_convert_float_int w 239 3 .f64 .i64 x a kR Tryz.underlying3 (Ih h1)
 have f2 : ∀(w:World),(convert 239 3 (.float .f64 y)).run Tryz.prog w = .ok (.int .i64 b) w:=λw=>run_convert_float_int w 239 3 .f64 .i64 y b kR Tryz.underlying3 (Ih h2)
 replace hr:=hid hr
 clear h1 h2 ha hb
 go_enter Tryz.func164,Tryz.ntmps164
 go_wp2_with fail
 refine hr.out.mono ?_
 rintro e w1 ⟨rfl,rfl⟩
 simp only[]
 go_wp2
 exact bodyPost_ret (v:= .tuple #[a,b,(0:Int)]) (by simp[results,Tryz.results164,go_sem]) rfl ⟨rfl,rfl⟩
theorem Lu(v:Value)(w:World) :Calls Tryz.prog 217 #[.nilIface,.iface 64 (.int .i64 1)] w (aA (.bool false) w):=by
 have heq : ∀w:World,(binOp .eql 262 .nilIface (.iface 64 (.int .i64 1))).run Tryz.prog w = .ok (.bool false) w:=λw=>rfl
 go_enter Tryz.func217,Tryz.ntmps217
 go_wp2
 go_ret
 exact⟨rfl,rfl⟩
def dx(a b:Int)(w:World)(e:Ending)(w':World) :Prop:=
 if(inP a&&inP b) =true then∃r i,e = .returned (.tuple #[.complex .f64 r i,(0:Int)])∧IC r a∧IC i b∧Below w.heap.size w w'
 else e = .returned (.tuple #[.complex .f64 0 0,(8:Int)])∧Below w.heap.size w w'
theorem kH{x y:Nat}{a b:Int}(h1:IC x a)(h2:IC y b)(w:World) :Calls Tryz.prog 197 #[.complex .f64 x y,.nilIface] w (dx a b w):=by
 have hr:=hid (λw=>oj h1 h2 w)
 have hc:=hid (λw=>CB h1 h2 w)
 have hn:=hid (λw=>Lu .nilIface w)
 unfold dx
 clear h1 h2
 rcases ho: (inP a&&inP b)with _|_
 ·rw[ho]at hr
  simp only[Bool.false_eq_true,if_false]
  go_enter Tryz.func197,Tryz.ntmps197
  go_wp2_with fail
  refine(hn.out _).mono ?_
  rintro e w1 ⟨rfl,rfl⟩
  simp only[]
  go_wp2_with fail
  refine(hr.out _).mono ?_
  rintro e w1 ⟨rfl,rfl⟩
  simp only[]
  go_wp2
  go_ret2
  exact⟨rfl,Below.refl _ _⟩
 ·rw[ho]at hr
  simp only[if_true]
  go_enter Tryz.func197,Tryz.ntmps197
  go_wp2_with fail
  refine(hn.out _).mono ?_
  rintro e w1 ⟨rfl,rfl⟩
  simp only[]
  go_wp2_with fail
  refine(hr.out _).mono ?_
  rintro e w1 ⟨rfl,rfl⟩
  simp only[]
  go_wp2_with fail
  refine(hc.out _).mono ?_
  rintro e w1 ⟨r,i,rfl,kr,ki,rfl⟩
  simp only[]
  go_wp2
  go_ret2
  exact⟨r,i,rfl,kr,ki,Below.refl _ _⟩
end Vm
end Go.Proofs.YtjohhkikoejadaaGreatDoor
