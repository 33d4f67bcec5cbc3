/- Chapter 4. Conditions: as written. -/
import Derived.Test.YtilaogbkdbbdkaaGreatDoorOm
import Derived.Test.YtilaogbkdbbdkaaGreatDoorZ19
open Go.Proofs.Tryz
namespace Go.Proofs.YtilaogbkdbbdkaaGreatDoor
set_option linter.unusedVariables false
set_option linter.unusedSimpArgs false
set_option maxHeartbeats 8000000
set_option maxRecDepth 100000
open Go.RowKit Go.Lib Go.Deep
namespace Vm
def pJ(gr n d:Nat)(un ov:Int):Array Value:=#[.slice gr n n,(d:Int),un,ov]
def fC(g gr d:Nat)(un ov:Int)(all:List Int):List Asr:=[ae g 186 (pJ gr all.length d un ov),ae gr 3 (ag all)]
theorem Ox(n:Nat):madeCells #[Value.int .i64 0] n=ag (List.replicate n 0):=by
 unfold ag
 apply Array.ext'
 simp[madeCells,Nat.mod_one]
 apply List.ext_getElem<;>simp
theorem ints_set(all:List Int)(d:Nat)(v:Int): (ag all).setIfInBounds d (.int .i64 v)=ag (all.set d v):=by
 unfold ag
 apply Array.ext'
 simp[List.map_set]
theorem FC{w:World}{gr:Nat}{all:List Int}(h:Blk w gr 3 (ag all))(d:Nat)(hd:d<all.length):w.cell? (gr,d)=some ((all.getD d 0):Vl):=by
 rw[h.cell d]
 simp[ag,hd]
section
variable {w w1:World}{F:Nat->Prop}{g gr d:Nat}{un ov:Int}{all:List Int}
theorem Df(h:On F w (aa (fC g gr d un ov all)) w1)(hd:d<all.length)(hn:all.length<=512)(rb:Nat)(v:Int)(hv:w1.cell? (rb,0)=some (v:Vl)):
 Calls prog 61 #[g,.slice rb 1 1] w1 (Got (.returned (.int .i64 0)) (aa (fC g gr (d+1) un ov (all.set d v))) F w):=by
 have IS:=λW (h:On F w (aa (fC g gr d un ov all)) W)=>(by
  have h1:=h.setAt 1 rfl d (.int .i64 v)
  rw[ints_set]at h1
  have h2:=On.setAt 0 (g:=g) (t:=186) (cs:=pJ gr all.length d un ov) h1.drew rfl 1 (.int .i64 ((d:Int) +1))
  have e: (pJ gr all.length d un ov).setIfInBounds 1 (.int .i64 ((d:Int) +1))=pJ gr (all.set d v).length (d+1) un ov:=by rw[List.length_set];rfl
  rw[e]at h2
  exact h2:On F w (aa (fC g gr (d+1) un ov (all.set d v))) (((W.setCell (gr,d) (.int .i64 v)).drew).setCell (g,1) (.int .i64 ((d:Int) +1))))
 have Sb:=λW (h:On F w (aa (fC g gr d un ov all)) W)=>(by
  have hg:Blk W g 186 (pJ gr all.length d un ov):=h.ab 0 rfl
  have hr:Blk W gr 3 (ag all):=h.ab 1 rfl
  exact⟨hg.cell 0,hg.cell 1,hg.frozen 1,FC hr d hd,hr.frozen d,hg.ne_ hr (by decide)⟩:
   W.cell? (g,0)=some (.slice gr all.length all.length)∧W.cell? (g,1)=some ((d:Int):Vl)∧W.frozen? (g,1)=false∧W.cell? (gr,d)=some ((all.getD d 0):Vl)∧W.frozen? (gr,d)=false∧g≠gr)
 obtain⟨c0,c1,f1,cr,fr,RP⟩:=Sb _ h
 generalize all.getD d 0=old at *
 generalize all.length=n at *
 replace⟨IS,Sb,h⟩:=iC IS Sb h
 go_enter func61,ntmps61
 go_wp2
 go_quiet (fail)
 have h2:=h.out.drewN nq
 have Ry: (w1.drewN nq).cell? (rb,0)=some (v:Vl):=hv
 obtain⟨w2,Q8⟩: ∃w2,w1.drewN nq=w2:=⟨_,rfl⟩
 rw[Q8]at h2 Ry⊢
 clear Q8 h hv c0 c1 f1 cr fr RP
 obtain⟨c0,c1,f1,cr,fr,RP⟩:=Sb.out _ h2
 have RL:=hid (IS.out _ h2)
 replace h2:=hid h2
 clear IS Sb
 go_wp2
 go_loopg [5] 1 (λk t wr=>(k=1∧t = .int .i64 0∧wr=w2)∨(k=0∧t = .int .i64 1∧On F w (aa (fC g gr (d+1) un ov (all.set d v))) wr))
 case atStart=>exact .inl ⟨rfl,rfl,rfl⟩
 case round=>
  rcases hrel with⟨hk,rfl,rfl⟩ | ⟨hk,rfl,h⟩
  ·replace hk:=hid hk
   go_wp2
   go_region
   go_wp2
   go_roundg 0
   case measure=>rw[hk.out];omega
   case rel=>exact .inr ⟨rfl,rfl,RL.out⟩
  ·replace h:=hid h
   replace hk:=hid hk
   go_wp2
   go_ret
   exact⟨rfl,h.out⟩
theorem IK(rg:Int)(n:Nat)(hn:n<=512)(un ov:Int)(WB: (rg=4∧un=1∧ov=2)∨(rg=5∧un=3∧ov=4))(w:World):
 Calls prog 53 #[rg,((8*n:Nat):Int)] w (cz (λe B=> ∃g gr,e = .returned (.tuple #[.pointer (some ⟨g,0,none⟩),.bool true])∧B=aa (fC g gr 0 un ov (List.replicate n 0))) Nob w):=by
 have hmk:=run_make_row' (P:=prog) 23 3 (.int .i64 0) 8 underlying23 kR rfl .i64 .i64 n oM oM w
 rw[Ox]at hmk
 have hq: ((8*n:Nat):Int).tdiv 8= (n:Int):=by rw[Int.tdiv_eq_ediv_of_nonneg oM];omega
 have Sk: ((8*n:Nat):Int) /8= (n:Int):=by omega
 have so:=((On.refl (A:=aa []) (F:=Nob) (w:=w) (λ_ h=>h)).box (ag (List.replicate n 0)) 3)
 have hlen: (List.replicate n (0:Int)).length=n:=by simp
 have IS:=λW (h:On Nob w (aa [ae (w.heap.size+1) 186 (pJ w.heap.size n 0 un ov),ae w.heap.size 3 (ag (List.replicate n 0))]) W)=>(by
  unfold fC
  rw[hlen]
  exact h:On Nob w (aa (fC (w.heap.size+1) w.heap.size 0 un ov (List.replicate n 0))) W)
 have hn8: ((8*n:Nat):Int)=8* (n:Int):=by omega
 have hsz: (w.alloc (.cells (ag (List.replicate n 0)) 3)).heap.size=w.heap.size+1:=by simp
 have Re:=so.box (pJ w.heap.size n 0 un ov) 186
 rw[hsz]at Re
 unfold pJ at Re IS
 have RL:=IS _ Re
 generalize ag (List.replicate n 0)=row at *
 rw[hn8]
 rw[hn8]at Sk hq
 replace⟨so,IS,RL,hn8⟩:=iD so IS RL hn8
 clear hlen Re
 rcases WB with⟨rfl,rfl,rfl⟩ | ⟨rfl,rfl,rfl⟩
 ·go_enter func53,ntmps53
  go_wp2
  go_ret2
  exact⟨_,⟨_,_,rfl,rfl⟩,RL.out⟩
 ·go_enter func53,ntmps53
  go_wp2
  go_ret2
  exact⟨_,⟨_,_,rfl,rfl⟩,RL.out⟩
end
end Vm
open Go.RowKit Go.Lib Go.Deep Flt
namespace Vm
def sB(w:World)(gs n:Nat):Prop:= ∀k,k<n->∃x y a b,w.cell? ⟨gs,k,none⟩=some (.complex .f64 x y)∧IC x a∧IC y b∧inP a=true∧inP b=true
theorem jO(gs n:Nat)(hn:n<=4)(w:World)(hc:sB w gs n):Calls prog 212 #[.slice gs n n] w (ax .nilIface w):=by
 replace hc:=hid hc
 go_enter func212,ntmps212
 go_wp2
 go_loopg [7] n (λk t wr=> ∃j:Nat,j+k=n∧t = .int .i64 (j:Int)∧wr=w)
 case atStart=>exact⟨0,by omega,rfl,rfl⟩
 case round=>
  obtain⟨j,hj,rfl,rfl⟩:=hrel
  by_cases RQ:j<n
  ·obtain⟨x,y,a,b,th,h1,h2,ha,hb⟩:=hc.out j RQ
   have hr:=oT h1 h2 wr
   rw[ha,hb]at hr
   replace hr:=hid hr
   clear h1 h2 ha hb
   go_wp2_with fail
   refine hr.out.mono ?_
   rintro e w1 ⟨rfl,rfl⟩
   simp only[]
   go_wp2
   go_roundg (gk-1)
   case measure=>omega
   case rel=>exact⟨j+1,by omega,by go_num,rfl⟩
  ·go_wp2
   go_ret
   exact⟨rfl,rfl⟩
theorem of_run{a b:Int}(ha:V64 a)(hb:V64 b)(h1:inP a=true)(h2:inP b=true)(w:World):Calls prog 210 #[a,b] w (ax (.tuple #[.complex .f64 (floatOfInt .f64 a) (floatOfInt .f64 b),(0:Int)]) w):=by
 have k1:=cN h1
 have k2:=cN h2
 have t1:decide ((16777216:Int) <max a b)=false:=decide_eq_false oM
 have t2:decide (min a b< (-16777216:Int))=false:=decide_eq_false oM
 go_enter func210,ntmps210
 go_wp2
 go_ret2
 exact⟨rfl,rfl⟩
theorem Qb{a b:Int}(ha:V64 a)(hb:V64 b)(h: (inP a&&inP b)=false)(w:World):Calls prog 210 #[a,b] w (ax (.tuple #[.complex .f64 0 0,(8:Int)]) w):=by
 by_cases h1: (16777216:Int) <max a b
 ·have t1:decide ((16777216:Int) <max a b)=true:=decide_eq_true h1
  go_enter func210,ntmps210
  go_wp2
  go_ret2
  exact⟨rfl,rfl⟩
 ·have t1:decide ((16777216:Int) <max a b)=false:=decide_eq_false h1
  have t2:decide (min a b< (-16777216:Int))=true:=decide_eq_true (by
   unfold inP at h
   rw[Bool.and_eq_false_iff,decide_eq_false_iff_not,decide_eq_false_iff_not]at h
   omega)
  go_enter func210,ntmps210
  go_wp2
  go_ret2
  exact⟨rfl,rfl⟩
def cxE(a b:Int):Ending:=if(inP a&&inP b)=true then .returned (.complex .f64 (floatOfInt .f64 a) (floatOfInt .f64 b))else .panicked [flt 19]
theorem xb{a b:Int}(ha:V64 a)(hb:V64 b)(w:World):Calls prog 166 #[a,b] w (λe w'=>e=cxE a b∧w'=w):=by
 unfold cxE
 rcases ho: (inP a&&inP b)with _|_
 ·rw[if_neg (by decide)]
  have hof:=hid (Qb ha hb ho w)
  clear ha hb ho
  go_enter func166,ntmps166
  go_wp2_with fail
  refine hof.out.mono ?_
  rintro e w1 ⟨rfl,rfl⟩
  simp only[]
  go_wp2_with fail
  refine(bR _ _).mono ?_
  rintro e w1 ⟨rfl,rfl⟩
  exact⟨rfl,rfl,rfl⟩
 ·rw[if_pos rfl]
  rw[Bool.and_eq_true]at ho
  have hof:=hid (of_run ha hb ho.1 ho.2 w)
  clear ha hb ho
  generalize floatOfInt .f64 a=x at *
  generalize floatOfInt .f64 b=y at *
  go_enter func166,ntmps166
  go_wp2_with fail
  refine hof.out.mono ?_
  rintro e w1 ⟨rfl,rfl⟩
  simp only[]
  go_wp2_with fail
  refine(bz _ _).mono ?_
  rintro e w1 ⟨rfl,rfl⟩
  simp only[]
  go_wp2
  go_ret
  exact⟨rfl,rfl⟩
structure CR(x y:Nat)(a b:Int):Prop where
 x:IC x a
 y:IC y b
 a:inP a=true
 b:inP b=true
theorem CR.of{a b:Int}(h: (inP a&&inP b)=true):CR (floatOfInt .f64 a) (floatOfInt .f64 b) a b:=by
 rw[Bool.and_eq_true]at h
 have h1:=cN h.1
 have h2:=cN h.2
 exact⟨tU a oM,tU b oM,h.1,h.2⟩
theorem pg{x y x2 y2:Nat}{a b a2 b2:Int}(h1:CR x y a b)(h2:CR x2 y2 a2 b2)(w:World)(t:TypeId):sB (w.alloc (.cells #[.complex .f64 x y,.complex .f64 x2 y2] t)) w.heap.size 2:=by
 have hb:=Blk.new w t #[.complex .f64 x y,.complex .f64 x2 y2]
 intro k hk
 have:k=0∨k=1:=by omega
 rcases this with rfl|rfl
 ·exact⟨x,y,a,b,hb.cell 0,h1.x,h1.y,h1.a,h1.b⟩
 ·exact⟨x2,y2,a2,b2,hb.cell 1,h2.x,h2.y,h2.a,h2.b⟩
theorem tR{x y:Nat}{a b:Int}(h1:CR x y a b)(w:World)(t:TypeId):sB (w.alloc (.cells #[.complex .f64 x y] t)) w.heap.size 1:=by
 have hb:=Blk.new w t #[.complex .f64 x y]
 intro k hk
 have:k=0:=by omega
 subst this
 exact⟨x,y,a,b,hb.cell 0,h1.x,h1.y,h1.a,h1.b⟩
theorem dT.yes{a b:Int}{w:World}{e:Ending}{w':World}(h:dT a b w e w')(ho: (inP a&&inP b)=true): ∃r i,e = .returned (.tuple #[.complex .f64 r i,(0:Int)])∧IC r a∧IC i b∧Below w.heap.size w w':=by
 unfold dT at h
 rwa[if_pos ho]at h
theorem dT.no{a b:Int}{w:World}{e:Ending}{w':World}(h:dT a b w e w')(ho: ¬(inP a&&inP b)=true):e = .returned (.tuple #[.complex .f64 0 0,(8:Int)])∧Below w.heap.size w w':=by
 unfold dT at h
 rwa[if_neg ho]at h
theorem dT.up{a b:Int}{w w1:World}{e:Ending}{w':World}(h:dT a b w1 e w')(hb:Below w.heap.size w w1):dT a b w e w':=by
 unfold dT at *
 split
 ·rename_i ho
  rw[if_pos ho]at h
  obtain⟨r,i,he,h1,h2,h3⟩:=h
  exact⟨r,i,he,h1,h2,hb.trans (h3.mono hb.size)⟩
 ·rename_i ho
  rw[if_neg ho]at h
  exact⟨h.1,hb.trans (h.2.mono hb.size)⟩
theorem Gz{x y x2 y2:Nat}{a b a2 b2:Int}(h1:CR x y a b)(h2:CR x2 y2 a2 b2)(w:World):Calls prog 167 #[.complex .f64 x y,.complex .f64 x2 y2] w (dT (a+a2) (b+b2) w):=by
 have k1:=cN h1.a
 have k2:=cN h1.b
 have k3:=cN h2.a
 have k4:=cN h2.b
 obtain⟨r,hr,kr⟩:=o8 h1.x h2.x oM
 obtain⟨i,hi,ki⟩:=o8 h1.y h2.y oM
 have f1: ∀(w:World),(binOp .add 146 (.complex .f64 x y) (.complex .f64 x2 y2)).run prog w = .ok (.complex .f64 r i) w:=λw=>run_complex_sum w .add (by simp) 146 .f64 x y x2 y2 r i (by unfold cSumBits;rw[hr,hi];rfl)
 clear hr hi
 have An:=pg h1 h2 w 146
 have ha:=jO w.heap.size 2 oM _ An
 have ht:=λw=>lD kr ki w
 have Q9:Below w.heap.size w (w.alloc (.cells #[.complex .f64 x y,.complex .f64 x2 y2] 146)):=(Below.refl _ _).alloc (Nat.le_refl _) _
 replace⟨ha,ht,Q9⟩:=iC ha ht Q9
 clear h1 h2 k1 k2 k3 k4 kr ki An
 go_enter func167,ntmps167
 go_wp2_with fail
 refine ha.out.mono ?_
 rintro e w1 ⟨rfl,rfl⟩
 simp only[]
 go_wp2_with fail
 refine(ht.out _).mono ?_
 intro e w1 hT
 replace hT:=hT.up Q9.out
 generalize hA:a+a2=A at *
 generalize hB:b+b2=B at *
 clear hA hB
 by_cases ho: (inP A&&inP B)=true
 ·obtain⟨r2,i2,rfl,g1,g2,g3⟩:=hT.yes ho
  replace hT:=hid hT
  clear ho g1 g2 g3
  simp only[]
  go_wp2
  go_ret2
  exact hT.out
 ·obtain⟨rfl,g3⟩:=hT.no ho
  replace hT:=hid hT
  clear ho g3
  simp only[]
  go_wp2
  go_ret2
  exact hT.out
theorem Gn{x y x2 y2:Nat}{a b a2 b2:Int}(h1:CR x y a b)(h2:CR x2 y2 a2 b2)(w:World):Calls prog 168 #[.complex .f64 x y,.complex .f64 x2 y2] w (dT (a-a2) (b-b2) w):=by
 have k1:=cN h1.a
 have k2:=cN h1.b
 have k3:=cN h2.a
 have k4:=cN h2.b
 obtain⟨r,hr,kr⟩:=vW h1.x h2.x oM
 obtain⟨i,hi,ki⟩:=vW h1.y h2.y oM
 have f1: ∀(w:World),(binOp .sub 146 (.complex .f64 x y) (.complex .f64 x2 y2)).run prog w = .ok (.complex .f64 r i) w:=λw=>run_complex_sum w .sub (by simp) 146 .f64 x y x2 y2 r i (by unfold cSumBits;rw[hr,hi];rfl)
 clear hr hi
 have An:=pg h1 h2 w 146
 have ha:=jO w.heap.size 2 oM _ An
 have ht:=λw=>lD kr ki w
 have Q9:Below w.heap.size w (w.alloc (.cells #[.complex .f64 x y,.complex .f64 x2 y2] 146)):=(Below.refl _ _).alloc (Nat.le_refl _) _
 replace⟨ha,ht,Q9⟩:=iC ha ht Q9
 clear h1 h2 k1 k2 k3 k4 kr ki An
 go_enter func168,ntmps168
 go_wp2_with fail
 refine ha.out.mono ?_
 rintro e w1 ⟨rfl,rfl⟩
 simp only[]
 go_wp2_with fail
 refine(ht.out _).mono ?_
 intro e w1 hT
 replace hT:=hT.up Q9.out
 generalize hA:a-a2=A at *
 generalize hB:b-b2=B at *
 clear hA hB
 by_cases ho: (inP A&&inP B)=true
 ·obtain⟨r2,i2,rfl,g1,g2,g3⟩:=hT.yes ho
  replace hT:=hid hT
  clear ho g1 g2 g3
  simp only[]
  go_wp2
  go_ret2
  exact hT.out
 ·obtain⟨rfl,g3⟩:=hT.no ho
  replace hT:=hid hT
  clear ho g3
  simp only[]
  go_wp2
  go_ret2
  exact hT.out
theorem GB{x y x2 y2:Nat}{a b a2 b2:Int}(h1:CR x y a b)(h2:CR x2 y2 a2 b2)(w:World):Calls prog 169 #[.complex .f64 x y,.complex .f64 x2 y2] w (dT (a*a2-b*b2) (a*b2+b*a2) w):=by
 have k1:=cN h1.a
 have k2:=cN h1.b
 have k3:=cN h2.a
 have k4:=cN h2.b
 have m1: (a*a2).natAbs<=281474976710656:=by rw[Int.natAbs_mul];exact Nat.mul_le_mul k1 k3
 have m2: (b*b2).natAbs<=281474976710656:=by rw[Int.natAbs_mul];exact Nat.mul_le_mul k2 k4
 have m3: (a*b2).natAbs<=281474976710656:=by rw[Int.natAbs_mul];exact Nat.mul_le_mul k1 k4
 have m4: (b*a2).natAbs<=281474976710656:=by rw[Int.natAbs_mul];exact Nat.mul_le_mul k2 k3
 obtain⟨p1,hp1,q1⟩:=kV h1.x h2.x oM
 obtain⟨p2,WT,q2⟩:=kV h1.y h2.y oM
 obtain⟨p3,YO,q3⟩:=kV h1.x h2.y oM
 obtain⟨p4,hp4,q4⟩:=kV h1.y h2.x oM
 obtain⟨r,hr,kr⟩:=vW q1 q2 oM
 obtain⟨i,hi,ki⟩:=o8 q3 q4 oM
 have f1: ∀(w:World),(binOp .mul 146 (.complex .f64 x y) (.complex .f64 x2 y2)).run prog w = .ok (.complex .f64 r i) w:=λw=>run_complex_mul w 146 x y x2 y2 r i (by unfold cMulBits;rw[hp1,WT];simp only[Option.bind_some];rw[hr,YO,hp4];simp only[Option.bind_some];rw[hi];rfl)
 clear m1 m2 m3 m4 hp1 WT YO hp4 q1 q2 q3 q4 hr hi
 have An:=pg h1 h2 w 146
 have ha:=jO w.heap.size 2 oM _ An
 have ht:=λw=>lD kr ki w
 have Q9:Below w.heap.size w (w.alloc (.cells #[.complex .f64 x y,.complex .f64 x2 y2] 146)):=(Below.refl _ _).alloc (Nat.le_refl _) _
 replace⟨ha,ht,Q9⟩:=iC ha ht Q9
 clear h1 h2 k1 k2 k3 k4 kr ki An
 go_enter func169,ntmps169
 go_wp2_with fail
 refine ha.out.mono ?_
 rintro e w1 ⟨rfl,rfl⟩
 simp only[]
 go_wp2_with fail
 refine(ht.out _).mono ?_
 intro e w1 hT
 replace hT:=hT.up Q9.out
 generalize hA:a*a2-b*b2=A at *
 generalize hB:a*b2+b*a2=B at *
 clear hA hB
 by_cases ho: (inP A&&inP B)=true
 ·obtain⟨r2,i2,rfl,g1,g2,g3⟩:=hT.yes ho
  replace hT:=hid hT
  clear ho g1 g2 g3
  simp only[]
  go_wp2
  go_ret2
  exact hT.out
 ·obtain⟨rfl,g3⟩:=hT.no ho
  replace hT:=hid hT
  clear ho g3
  simp only[]
  go_wp2
  go_ret2
  exact hT.out
theorem Hl(n:Int):bits .and .i64 n 3=n % 4:=by
 have h7: (BitVec.ofInt 64 3).toNat=2 ^ 2-1:=by decide
 have key: (BitVec.ofInt 64 n &&& BitVec.ofInt 64 3).toNat= (n % ((2 ^ 64:Nat):Int)).toNat % 2 ^ 2:=by
  rw[BitVec.toNat_and,BitVec.toNat_ofInt,h7,Nat.and_two_pow_sub_one_eq_mod]
 show IntKind.i64.wrap ((BitVec.ofInt 64 n &&& BitVec.ofInt 64 3).toNat:Nat)=n % 4
 rw[key,IntKind.wrap_i64]
 omega
theorem dT.ends{a b:Int}{w:World}{e:Ending}{w':World}(h:dT a b w e w'): ∃(r i:Nat) (n:Int),e = .returned (.tuple #[.complex .f64 r i,n]):=by
 unfold dT at h
 split at h
 ·obtain⟨r,i,he,_⟩:=h
  exact⟨r,i,0,he⟩
 ·exact⟨0,0,8,h.1⟩
theorem dT.below{a b:Int}{w:World}{e:Ending}{w':World}(h:dT a b w e w'):Below w.heap.size w w':=by
 unfold dT at h
 split at h
 ·obtain⟨r,i,_,_,_,hb⟩:=h
  exact hb
 ·exact h.2
theorem dT.cell{a b:Int}{w:World}{e:Ending}{w':World}{p:Addr}{v:Value}(h:dT a b w e w')(hc:w.cell? p=some v):w'.cell? p=some v:=
 (World.cell?_of_block (h.below.block _ (World.block_lt_of_cell? w _ hc))).trans hc
def qA(k:Nat):Int:=if k=0 then 1 else if k=2 then -1 else 0
def qB(k:Nat):Int:=if k=1 then 1 else if k=3 then -1 else 0
def qx(k:Nat):Nat:=if k=0 then 4607182418800017408 else if k=2 then 13830554455654793216 else 0
def qy(k:Nat):Nat:=if k=1 then 4607182418800017408 else if k=3 then 13830554455654793216 else 0
theorem MV(k:Nat):IC (qx k) (qA k):=by
 unfold qx qA
 split
 ·exact ic1
 ·split
  ·exact Qy
  ·exact ic0
theorem Nj(k:Nat):IC (qy k) (qB k):=by
 unfold qy qB
 split
 ·exact ic1
 ·split
  ·exact Qy
  ·exact ic0
theorem Ni(k:Nat): (qA k).natAbs<=1:=by unfold qA;split;decide;split<;>decide
theorem M9(k:Nat): (qB k).natAbs<=1:=by unfold qB;split;decide;split<;>decide
theorem Fv{x y:Nat}{a b:Int}(h1:CR x y a b)(w:World):Calls prog 170 #[.complex .f64 x y] w (dT a (-b) w):=by
 have ki:=PF h1.y
 have An:=tR h1 w 146
 have ha:=jO w.heap.size 1 oM _ An
 have ht:=λw=>lD h1.x ki w
 have Q9:Below w.heap.size w (w.alloc (.cells #[.complex .f64 x y] 146)):=(Below.refl _ _).alloc (Nat.le_refl _) _
 have hneg: ∀w:World,(Op.unary .neg (.float .f64 y)).run prog w = .ok (.float .f64 (y ^^^ 9223372036854775808)) w:=λw=>rfl
 generalize y ^^^ 9223372036854775808=y2 at *
 replace⟨ha,ht,Q9⟩:=iC ha ht Q9
 clear h1 ki An
 go_enter func170,ntmps170
 go_wp2_with fail
 refine ha.out.mono ?_
 rintro e w1 ⟨rfl,rfl⟩
 simp only[]
 go_wp2_with fail
 refine(ht.out _).mono ?_
 intro e w1 hT
 replace hT:=hT.up Q9.out
 obtain⟨r2,i2,n2,rfl⟩:=hT.ends
 replace hT:=hid hT
 simp only[]
 go_wp2
 go_ret2
 exact hT.out
theorem Fo{x y:Nat}{a b:Int}(h1:CR x y a b)(w:World):Calls prog 172 #[.complex .f64 x y] w (ax (.tuple #[(a*a+b*b:Int),(0:Int)]) w):=by
 have k1:=cN h1.a
 have k2:=cN h1.b
 have m1: (a*a).natAbs<=281474976710656:=by rw[Int.natAbs_mul];exact Nat.mul_le_mul k1 k1
 have m2: (b*b).natAbs<=281474976710656:=by rw[Int.natAbs_mul];exact Nat.mul_le_mul k2 k2
 have hz:wrap64 (wrap64 (a*a) +wrap64 (b*b))=a*a+b*b:=by
  generalize a*a=A at *
  generalize b*b=B at *
  unfold wrap64;omega
 have hp:=lS h1.x h1.y h1.a h1.b w
 replace⟨hp,hz⟩:=iB hp hz
 clear m1 m2 k1 k2 h1
 go_enter func172,ntmps172
 go_wp2_with fail
 refine hp.out.mono ?_
 rintro e w1 ⟨rfl,rfl⟩
 simp only[]
 go_wp2
 go_ret2
 rw[hz.out]
 exact⟨rfl,rfl⟩
theorem tC(w:World)(t:TypeId)(k:Nat)(hk:k<4): (w.alloc (.cells #[.complex .f64 4607182418800017408 0,.complex .f64 0 4607182418800017408,.complex .f64 13830554455654793216 0,.complex .f64 0 13830554455654793216] t)).cell? (w.heap.size,k)=some (.complex .f64 (qx k) (qy k)):=by
 have hb:=Blk.new w t #[.complex .f64 4607182418800017408 0,.complex .f64 0 4607182418800017408,.complex .f64 13830554455654793216 0,.complex .f64 0 13830554455654793216]
 have:k=0∨k=1∨k=2∨k=3:=by omega
 rcases this with rfl|rfl|rfl|rfl
 ·exact hb.cell 0
 ·exact hb.cell 1
 ·exact hb.cell 2
 ·exact hb.cell 3
theorem Fe{x y:Nat}{a b:Int}(h1:CR x y a b)(n:Int)(w:World):Calls prog 171 #[.complex .f64 x y,n] w (dT (a*qA (n % 4).toNat-b*qB (n % 4).toNat) (a*qB (n % 4).toNat+b*qA (n % 4).toNat) w):=by
 obtain⟨k,hk⟩: ∃k:Nat,(n % 4).toNat=k:=⟨_,rfl⟩
 have hk4:k<4:=by omega
 have hand:bits .and .i64 n 3= (k:Int):=by rw[Hl];omega
 rw[hk]
 have k1:=cN h1.a
 have k2:=cN h1.b
 have m1: (a*qA k).natAbs<=16777216:=by rw[Int.natAbs_mul];exact Nat.mul_le_mul k1 (Ni k)
 have m2: (b*qB k).natAbs<=16777216:=by rw[Int.natAbs_mul];exact Nat.mul_le_mul k2 (M9 k)
 have m3: (a*qB k).natAbs<=16777216:=by rw[Int.natAbs_mul];exact Nat.mul_le_mul k1 (M9 k)
 have m4: (b*qA k).natAbs<=16777216:=by rw[Int.natAbs_mul];exact Nat.mul_le_mul k2 (Ni k)
 obtain⟨p1,hp1,q1⟩:=kV h1.x (MV k) oM
 obtain⟨p2,WT,q2⟩:=kV h1.y (Nj k) oM
 obtain⟨p3,YO,q3⟩:=kV h1.x (Nj k) oM
 obtain⟨p4,hp4,q4⟩:=kV h1.y (MV k) oM
 obtain⟨r,hr,kr⟩:=vW q1 q2 oM
 obtain⟨i,hi,ki⟩:=o8 q3 q4 oM
 have f1: ∀(w:World),(binOp .mul 146 (.complex .f64 x y) (.complex .f64 (qx k) (qy k))).run prog w = .ok (.complex .f64 r i) w:=λw=>run_complex_mul w 146 x y (qx k) (qy k) r i (by unfold cMulBits;rw[hp1,WT];simp only[Option.bind_some];rw[hr,YO,hp4];simp only[Option.bind_some];rw[hi];rfl)
 clear m1 m2 m3 m4 hp1 WT YO hp4 q1 q2 q3 q4 hr hi k1 k2
 have ht:=λw=>lD kr ki w
 have hq:=λ(w:World) (t:TypeId)=>tC w t k hk4
 generalize a*qA k-b*qB k=AA at *
 generalize a*qB k+b*qA k=BB at *
 generalize qx k=qxk at *
 generalize qy k=qyk at *
 have ha:=λ(w:World) (t:TypeId)=>jO w.heap.size 1 oM _ (tR h1 w t)
 replace⟨ha,ht,hq⟩:=iC ha ht hq
 have Rj: ∀(w:World) (a:Addr) (x y:Nat) (m:Mode),(store a (.complex .f64 x y) m).run prog w=stored prog w a (.complex .f64 x y) m:=λw a x y m=>run_store prog w a _ m rfl
 clear h1 kr ki
 go_enter func171,ntmps171
 go_wp2_with fail
 have Uk:=hq.out w 282
 have Yw:Below w.heap.size w (w.alloc (.cells #[.complex .f64 4607182418800017408 0,.complex .f64 0 4607182418800017408,.complex .f64 13830554455654793216 0,.complex .f64 0 13830554455654793216] 282)):=(Below.refl _ _).alloc (Nat.le_refl _) _
 clear Rj hq
 generalize w.alloc (.cells #[.complex .f64 4607182418800017408 0,.complex .f64 0 4607182418800017408,.complex .f64 13830554455654793216 0,.complex .f64 0 13830554455654793216] 282)=w1 at *
 generalize Array.mk [Value.complex .f64 4607182418800017408 0,.complex .f64 0 4607182418800017408,.complex .f64 13830554455654793216 0,.complex .f64 0 13830554455654793216]=big at *
 obtain⟨b,hbz⟩: ∃b,w.heap.size=b:=⟨_,rfl⟩
 have Q9: ∀(t:TypeId),Below w.heap.size w (w1.drew.alloc (.cells #[.complex .f64 x y] t)):=λt=>Yw.drew.alloc (by have:=Yw.size;simpa [go_sem]using this) _
 have ha1: ∀t,Calls prog 212 #[.slice w1.heap.size 1 1] (w1.drew.alloc (.cells #[.complex .f64 x y] t)) (ax .nilIface (w1.drew.alloc (.cells #[.complex .f64 x y] t))):=λt=>ha.out w1.drew t
 replace ha1:=hid ha1
 have Sk: ∀t,(w1.drew.alloc (.cells #[.complex .f64 x y] t)).cell? (w.heap.size,k)=some (.complex .f64 qxk qyk):=λt=>by simp[go_sem,World.cell?_alloc_some,Uk]
 rw[hbz]at Uk Sk
 replace Sk:=hid Sk
 rw[show w.heap.size=b from hbz]
 replace⟨Q9,Yw,hbz⟩:=iC Q9 Yw hbz
 go_region_held (λw'=>w'.cell? (b,k)=some (.complex .f64 qxk qyk)) (go_keep)
  ((first
    | (go_at_call 212;refine(ha1.out _).mono ?_;rintro e w5 ⟨rfl,rfl⟩;simp only[])
    | (go_at_call 211;refine(ht.out _).mono ?_;intro e w6 hT;have o0:=hT.cell (Sk.out _);replace hT:=hT.up (Q9.out _);obtain⟨r2,i2,n2,rfl⟩:=hT.ends;replace hT:=hid hT;simp only[])))
 all_goals go_wp2
 all_goals go_ret2
 all_goals exact hT.out
def okC(a b:Int):Bool:=inP a&&inP b
theorem zo{P:Program}{f:FuncId}{args:Array Value}{w:World}{Q:Ending->World->Prop}{n:Int}(hc:Calls P f args w (λe w'=>e = .panicked [flt n]∧w'=w))(hp:Q (.panicked [flt n]) w)(v:Value)
 (hk:False->∀e w',e = .returned v->w'=w->Q e w'):Calls P f args w Q:=hc.mono λe w' h=>by
 obtain⟨rfl,rfl⟩:=h
 exact hp
theorem rX{a b:Int}(ha:V64 a)(hb:V64 b)(h:okC a b=true)(w:World):Calls prog 166 #[a,b] w (λe w'=>e = .returned (.complex .f64 (floatOfInt .f64 a) (floatOfInt .f64 b))∧w'=w):=by
 have:=xb ha hb w
 unfold cxE at this
 rwa[if_pos (show(inP a&&inP b)=true from h)]at this
theorem yV{a b:Int}(ha:V64 a)(hb:V64 b)(h: ¬okC a b=true)(w:World):Calls prog 166 #[a,b] w (λe w'=>e = .panicked [flt 19]∧w'=w):=by
 have:=xb ha hb w
 unfold cxE at this
 rwa[if_neg (show¬(inP a&&inP b)=true from h)]at this
def z2P(A B:Int->Int->Int->Int->Int)(x:Rn)(s:Mt):Rs×List Int:=
 if okC (ar s 4 0) (ar s 4 1)=true∧okC (ar s 4 2) (ar s 4 3)=true∧okC (A (ar s 4 0) (ar s 4 1) (ar s 4 2) (ar s 4 3)) (B (ar s 4 0) (ar s 4 1) (ar s 4 2) (ar s 4 3))=true then(⟨0,x,s⟩,[A (ar s 4 0) (ar s 4 1) (ar s 4 2) (ar s 4 3),B (ar s 4 0) (ar s 4 1) (ar s 4 2) (ar s 4 3)])else(⟨19,x,s⟩,[])
theorem Kq{op:Int}{fn:FuncId}{A B:Int->Int->Int->Int->Int}(R0: (op=94∧fn=167)∨(op=95∧fn=168)∨(op=96∧fn=169))(Sd: ∀{x y x2 y2:Nat} {a b a2 b2:Int},CR x y a b->CR x2 y2 a2 b2->∀w:World,Calls prog fn #[.complex .f64 x y,.complex .f64 x2 y2] w (dT (A a b a2 b2) (B a b a2 b2) w))(arg lit cells:Int):br 112 (λg=>#[]) ⟨op,arg,lit,cells⟩ (z2P A B):=by
 intro c g x src s ba w F hs hx IT hb
 have Q8: (Code.ai op).1.toNat=4:=by rcases R0 with⟨rfl,rfl⟩ | ⟨rfl,rfl⟩ | ⟨rfl,rfl⟩<;>decide
 simp only[Q8]at hb⊢
 have so:=On.refl hb
 have a0:=aj ((On.refl hb).ab 0 rfl) (j:=0) oM
 have a1:=aj ((On.refl hb).ab 0 rfl) (j:=1) oM
 have a2:=aj ((On.refl hb).ab 0 rfl) (j:=2) oM
 have a3:=aj ((On.refl hb).ab 0 rfl) (j:=3) oM
 have v0:=aN s 4 0
 have v1:=aN s 4 1
 have v2:=aN s 4 2
 have v3:=aN s 4 3
 unfold z2P
 generalize ar s 4 0=X at *
 generalize ar s 4 1=Y at *
 generalize ar s 4 2=Z at *
 generalize ar s 4 3=T at *
 show Calls _ _ #[op,.slice ba 4 4] _ _
 rcases R0 with⟨rfl,rfl⟩ | ⟨rfl,rfl⟩ | ⟨rfl,rfl⟩
 all_goals
  generalize ag (s.args 4)=ac at *
  replace so:=hid so
  clear hb Q8 IT hs hx
  by_cases h1:okC X Y=true
  ·have Ym:=hid (λw=>rX v0 v1 h1 w)
   have VP:=CR.of h1
   by_cases h2:okC Z T=true
   ·have hcZ:=hid (λw=>rX v2 v3 h2 w)
    have hf5:=CR.of h2
    have RH:=λw=>Sd VP hf5 w
    generalize floatOfInt .f64 X=fx at *
    generalize floatOfInt .f64 Y=fy at *
    generalize floatOfInt .f64 Z=fz at *
    generalize floatOfInt .f64 T=ft at *
    replace RH:=hid RH
    generalize A X Y Z T=RA at *
    generalize B X Y Z T=RB at *
    clear VP hf5
    by_cases Rq:okC RA RB=true
    ·simp only[h1,h2,Rq,and_self,if_true]
     go_enter func112,ntmps112
     go_wp2_with fail
     go_region_held (λw'=>w'.cell? (ba,0)=some (X:Vl)∧w'.cell? (ba,1)=some (Y:Vl)∧w'.cell? (ba,2)=some (Z:Vl)∧w'.cell? (ba,3)=some (T:Vl)) (go_keep)
      ((go_at_call 166;refine(Ym.out _).mono ?_;rintro e w5 ⟨rfl,rfl⟩;simp only[]))
     all_goals go_wp2_with fail
     go_region_held (λw'=>w'.cell? (ba,0)=some (X:Vl)∧w'.cell? (ba,1)=some (Y:Vl)∧w'.cell? (ba,2)=some (Z:Vl)∧w'.cell? (ba,3)=some (T:Vl)) (go_keep)
      ((go_at_call 166;refine(hcZ.out _).mono ?_;rintro e w5 ⟨rfl,rfl⟩;simp only[]))
     all_goals go_wp2_with fail
     refine(RH.out _).mono ?_
     intro e w7 hT
     obtain⟨r,i,rfl,g1,g2,hb⟩:=hT.yes Rq
     have SL:=hid (On.below so.out.drew.drew hb)
     have hpa:=hid (λw=>lS g1 g2 (Bool.and_eq_true .. ▸Rq).1 (Bool.and_eq_true .. ▸Rq).2 w)
     clear g1 g2 hb hT Rq
     simp only[]
     go_wp2_with fail
     refine(bz _ _).mono ?_
     rintro e w8 ⟨rfl,rfl⟩
     simp only[]
     go_wp2_with fail
     refine(hpa.out _).mono ?_
     rintro e w9 ⟨rfl,rfl⟩
     simp only[]
     have h6:=hid (SL.out.tail.box #[RA,RB] 3)
     go_wp2
     go_ret
     exact⟨some ⟨_,0,none⟩,2,ae _ 3 (ag [RA,RB]),rfl,aA _ _,h6.out⟩
    ·rw[Bool.not_eq_true]at Rq
     simp only[h1,h2,Rq,Bool.false_eq_true,and_false,if_false]
     simp only[show¬(19:Int)=0 by decide,if_false]
     have Rq: ¬okC RA RB=true:=by rw[Rq];decide
     go_enter func112,ntmps112
     go_wp2_with fail
     go_region_held (λw'=>w'.cell? (ba,0)=some (X:Vl)∧w'.cell? (ba,1)=some (Y:Vl)∧w'.cell? (ba,2)=some (Z:Vl)∧w'.cell? (ba,3)=some (T:Vl)) (go_keep)
      ((go_at_call 166;refine(Ym.out _).mono ?_;rintro e w5 ⟨rfl,rfl⟩;simp only[]))
     all_goals go_wp2_with fail
     go_region_held (λw'=>w'.cell? (ba,0)=some (X:Vl)∧w'.cell? (ba,1)=some (Y:Vl)∧w'.cell? (ba,2)=some (Z:Vl)∧w'.cell? (ba,3)=some (T:Vl)) (go_keep)
      ((go_at_call 166;refine(hcZ.out _).mono ?_;rintro e w5 ⟨rfl,rfl⟩;simp only[]))
     all_goals go_wp2_with fail
     refine(RH.out _).mono ?_
     intro e w7 hT
     obtain⟨rfl,hb⟩:=hT.no Rq
     have SL:=hid (On.below so.out.drew.drew hb)
     clear hb hT Rq
     simp only[]
     go_wp2_with fail
     refine(bR _ _).mono ?_
     rintro e w8 ⟨rfl,rfl⟩
     exact⟨rfl,rfl,SL.out.tail⟩
   ·have hcZ:=hid (λw=>yV v2 v3 h2 w)
    rw[Bool.not_eq_true]at h2
    simp only[h2,Bool.false_eq_true,and_false,false_and,if_false]
    simp only[show¬(19:Int)=0 by decide,if_false]
    generalize floatOfInt .f64 X=fx at *
    generalize floatOfInt .f64 Y=fy at *
    clear VP h1 h2
    go_enter func112,ntmps112
    go_wp2_with fail
    go_region_held (λw'=>w'.cell? (ba,0)=some (X:Vl)∧w'.cell? (ba,1)=some (Y:Vl)∧w'.cell? (ba,2)=some (Z:Vl)∧w'.cell? (ba,3)=some (T:Vl)) (go_keep)
     ((go_at_call 166;refine(Ym.out _).mono ?_;rintro e w5 ⟨rfl,rfl⟩;simp only[]))
    all_goals go_wp2_with fail
    go_region_held (λw'=>w'.cell? (ba,0)=some (X:Vl)∧w'.cell? (ba,1)=some (Y:Vl)∧w'.cell? (ba,2)=some (Z:Vl)∧w'.cell? (ba,3)=some (T:Vl)) (go_keep)
     ((go_at_call 166;refine zo (hcZ.out _) ⟨rfl,rfl,so.out.drew.drew.tail⟩ (.complex .f64 0 0) ?_;intro hF e w5 he hw;subst he;subst hw;replace hF:=hid hF;simp only[]))
    all_goals exact hF.out.elim
  ·have Ym:=hid (λw=>yV v0 v1 h1 w)
   rw[Bool.not_eq_true]at h1
   simp only[h1,Bool.false_eq_true,and_false,false_and,if_false]
   simp only[show¬(19:Int)=0 by decide,if_false]
   clear h1
   go_enter func112,ntmps112
   go_wp2_with fail
   go_region_held (λw'=>w'.cell? (ba,0)=some (X:Vl)∧w'.cell? (ba,1)=some (Y:Vl)∧w'.cell? (ba,2)=some (Z:Vl)∧w'.cell? (ba,3)=some (T:Vl)) (go_keep)
    ((go_at_call 166;refine zo (Ym.out _) ⟨rfl,rfl,so.out.drew.tail⟩ (.complex .f64 0 0) ?_;intro hF e w5 he hw;subst he;subst hw;replace hF:=hid hF;simp only[]))
   all_goals exact hF.out.elim
def jj(x:Rn)(s:Mt):Rs×List Int:=
 if okC (ar s 4 0) (ar s 4 1)=true∧okC (ar s 4 2) (ar s 4 3)=true∧okC ((ar s 4 0) + (ar s 4 2)) ((ar s 4 1) + (ar s 4 3))=true then(⟨0,x,s⟩,[(ar s 4 0) + (ar s 4 2),(ar s 4 1) + (ar s 4 3)])else(⟨19,x,s⟩,[])
theorem NH(arg lit cells:Int):br 112 (λg=>#[]) ⟨94,arg,lit,cells⟩ jj:=Kq (A:=λa _ c _=>a+c) (B:=λ_ b _ d=>b+d) (by simp) (λh1 h2 w=>Gz h1 h2 w) arg lit cells
def jt(x:Rn)(s:Mt):Rs×List Int:=
 if okC (ar s 4 0) (ar s 4 1)=true∧okC (ar s 4 2) (ar s 4 3)=true∧okC ((ar s 4 0) - (ar s 4 2)) ((ar s 4 1) - (ar s 4 3))=true then(⟨0,x,s⟩,[(ar s 4 0) - (ar s 4 2),(ar s 4 1) - (ar s 4 3)])else(⟨19,x,s⟩,[])
theorem OO(arg lit cells:Int):br 112 (λg=>#[]) ⟨95,arg,lit,cells⟩ jt:=Kq (A:=λa _ c _=>a-c) (B:=λ_ b _ d=>b-d) (by simp) (λh1 h2 w=>Gn h1 h2 w) arg lit cells
def jg(x:Rn)(s:Mt):Rs×List Int:=
 if okC (ar s 4 0) (ar s 4 1)=true∧okC (ar s 4 2) (ar s 4 3)=true∧okC ((ar s 4 0)* (ar s 4 2) - (ar s 4 1)* (ar s 4 3)) ((ar s 4 0)* (ar s 4 3) + (ar s 4 1)* (ar s 4 2))=true then(⟨0,x,s⟩,[(ar s 4 0)* (ar s 4 2) - (ar s 4 1)* (ar s 4 3),(ar s 4 0)* (ar s 4 3) + (ar s 4 1)* (ar s 4 2)])else(⟨19,x,s⟩,[])
theorem Pv(arg lit cells:Int):br 112 (λg=>#[]) ⟨96,arg,lit,cells⟩ jg:=Kq (A:=λa b c d=>a*c-b*d) (B:=λa b c d=>a*d+b*c) (by simp) (λh1 h2 w=>GB h1 h2 w) arg lit cells
def fi(x:Rn)(s:Mt):Rs×List Int:=
 if okC (ar s 2 0) (ar s 2 1)=true∧okC ((ar s 2 0)) (-(ar s 2 1))=true then(⟨0,x,s⟩,[(ar s 2 0),-(ar s 2 1)])else(⟨19,x,s⟩,[])
theorem LG(arg lit cells:Int):br 112 (λg=>#[]) ⟨97,arg,lit,cells⟩ fi:=by
 intro c g x src s ba w F hs hx IT hb
 have Q8: (Code.ai 97).1.toNat=2:=by decide
 simp only[Q8]at hb⊢
 have so:=On.refl hb
 have a0:=aj ((On.refl hb).ab 0 rfl) (j:=0) oM
 have a1:=aj ((On.refl hb).ab 0 rfl) (j:=1) oM
 have v0:=aN s 2 0
 have v1:=aN s 2 1
 unfold fi
 generalize ar s 2 0=X at *
 generalize ar s 2 1=Y at *
 show Calls _ _ #[(97:Int),.slice ba 2 2] _ _
 generalize ag (s.args 2)=ac at *
 replace so:=hid so
 clear hb Q8 IT hs hx
 by_cases h1:okC X Y=true
 ·have Ym:=hid (λw=>rX v0 v1 h1 w)
  have VP:=CR.of h1
  have RH:=λw=>Fv VP w
  generalize floatOfInt .f64 X=fx at *
  generalize floatOfInt .f64 Y=fy at *
  replace RH:=hid RH
  generalize -Y=RB at *
  clear VP
  by_cases Rq:okC X RB=true
  ·simp only[h1,Rq,and_self,if_true]
   go_enter func112,ntmps112
   go_wp2_with fail
   go_region_held (λw'=>w'.cell? (ba,0)=some (X:Vl)∧w'.cell? (ba,1)=some (Y:Vl)) (go_keep)
    ((go_at_call 166;refine(Ym.out _).mono ?_;rintro e w5 ⟨rfl,rfl⟩;simp only[]))
   all_goals go_wp2_with fail
   refine(RH.out _).mono ?_
   intro e w7 hT
   obtain⟨r,i,rfl,g1,g2,hb⟩:=hT.yes Rq
   have SL:=hid (On.below so.out.drew hb)
   have hpa:=hid (λw=>lS g1 g2 (Bool.and_eq_true .. ▸Rq).1 (Bool.and_eq_true .. ▸Rq).2 w)
   clear g1 g2 hb hT Rq
   simp only[]
   go_wp2_with fail
   refine(bz _ _).mono ?_
   rintro e w8 ⟨rfl,rfl⟩
   simp only[]
   go_wp2_with fail
   refine(hpa.out _).mono ?_
   rintro e w9 ⟨rfl,rfl⟩
   simp only[]
   have h6:=hid (SL.out.tail.box #[X,RB] 3)
   go_wp2
   go_ret
   exact⟨some ⟨_,0,none⟩,2,ae _ 3 (ag [X,RB]),rfl,aA _ _,h6.out⟩
  ·rw[Bool.not_eq_true]at Rq
   simp only[h1,Rq,Bool.false_eq_true,and_false,if_false]
   simp only[show¬(19:Int)=0 by decide,if_false]
   have Rq: ¬okC X RB=true:=by rw[Rq];decide
   go_enter func112,ntmps112
   go_wp2_with fail
   go_region_held (λw'=>w'.cell? (ba,0)=some (X:Vl)∧w'.cell? (ba,1)=some (Y:Vl)) (go_keep)
    ((go_at_call 166;refine(Ym.out _).mono ?_;rintro e w5 ⟨rfl,rfl⟩;simp only[]))
   all_goals go_wp2_with fail
   refine(RH.out _).mono ?_
   intro e w7 hT
   obtain⟨rfl,hb⟩:=hT.no Rq
   have SL:=hid (On.below so.out.drew hb)
   clear hb hT Rq
   simp only[]
   go_wp2_with fail
   refine(bR _ _).mono ?_
   rintro e w8 ⟨rfl,rfl⟩
   exact⟨rfl,rfl,SL.out.tail⟩
 ·have Ym:=hid (λw=>yV v0 v1 h1 w)
  rw[Bool.not_eq_true]at h1
  simp only[h1,Bool.false_eq_true,and_false,false_and,if_false]
  simp only[show¬(19:Int)=0 by decide,if_false]
  clear h1
  go_enter func112,ntmps112
  go_wp2_with fail
  go_region_held (λw'=>w'.cell? (ba,0)=some (X:Vl)∧w'.cell? (ba,1)=some (Y:Vl)) (go_keep)
   ((go_at_call 166;refine zo (Ym.out _) ⟨rfl,rfl,so.out.drew.tail⟩ (.complex .f64 0 0) ?_;intro hF e w5 he hw;subst he;subst hw;replace hF:=hid hF;simp only[]))
  all_goals exact hF.out.elim
def fl(x:Rn)(s:Mt):Rs×List Int:=
 if okC (ar s 2 0) (ar s 2 1)=true then(⟨0,x,s⟩,[(ar s 2 0)* (ar s 2 0) + (ar s 2 1)* (ar s 2 1)])else(⟨19,x,s⟩,[])
theorem Mi(arg lit cells:Int):br 112 (λg=>#[]) ⟨98,arg,lit,cells⟩ fl:=by
 intro c g x src s ba w F hs hx IT hb
 have Q8: (Code.ai 98).1.toNat=2:=by decide
 simp only[Q8]at hb⊢
 have so:=On.refl hb
 have a0:=aj ((On.refl hb).ab 0 rfl) (j:=0) oM
 have a1:=aj ((On.refl hb).ab 0 rfl) (j:=1) oM
 have v0:=aN s 2 0
 have v1:=aN s 2 1
 unfold fl
 generalize ar s 2 0=X at *
 generalize ar s 2 1=Y at *
 show Calls _ _ #[(98:Int),.slice ba 2 2] _ _
 generalize ag (s.args 2)=ac at *
 replace so:=hid so
 clear hb Q8 IT hs hx
 by_cases h1:okC X Y=true
 ·have Ym:=hid (λw=>rX v0 v1 h1 w)
  have VP:=CR.of h1
  have RH:=λw=>Fo VP w
  generalize floatOfInt .f64 X=fx at *
  generalize floatOfInt .f64 Y=fy at *
  replace RH:=hid RH
  clear VP
  simp only[h1,if_true]
  clear h1
  go_enter func112,ntmps112
  go_wp2_with fail
  go_region_held (λw'=>w'.cell? (ba,0)=some (X:Vl)∧w'.cell? (ba,1)=some (Y:Vl)) (go_keep)
   ((go_at_call 166;refine(Ym.out _).mono ?_;rintro e w5 ⟨rfl,rfl⟩;simp only[]))
  all_goals go_wp2_with fail
  refine(RH.out _).mono ?_
  rintro e w7 ⟨rfl,rfl⟩
  simp only[]
  have h6:=hid (so.out.drew.tail.box #[(X*X+Y*Y:Int)] 3)
  go_wp2
  go_ret
  exact⟨some ⟨_,0,none⟩,1,ae _ 3 (ag [X*X+Y*Y]),rfl,aA _ _,h6.out⟩
 ·have Ym:=hid (λw=>yV v0 v1 h1 w)
  rw[Bool.not_eq_true]at h1
  simp only[h1,Bool.false_eq_true,and_false,false_and,if_false]
  simp only[show¬(19:Int)=0 by decide,if_false]
  clear h1
  go_enter func112,ntmps112
  go_wp2_with fail
  go_region_held (λw'=>w'.cell? (ba,0)=some (X:Vl)∧w'.cell? (ba,1)=some (Y:Vl)) (go_keep)
   ((go_at_call 166;refine zo (Ym.out _) ⟨rfl,rfl,so.out.drew.tail⟩ (.complex .f64 0 0) ?_;intro hF e w5 he hw;subst he;subst hw;replace hF:=hid hF;simp only[]))
  all_goals exact hF.out.elim
def fm(x:Rn)(s:Mt):Rs×List Int:=
 if okC (ar s 3 0) (ar s 3 1)=true∧okC ((ar s 3 0)*qA ((ar s 3 2) % 4).toNat- (ar s 3 1)*qB ((ar s 3 2) % 4).toNat) ((ar s 3 0)*qB ((ar s 3 2) % 4).toNat+ (ar s 3 1)*qA ((ar s 3 2) % 4).toNat)=true then(⟨0,x,s⟩,[(ar s 3 0)*qA ((ar s 3 2) % 4).toNat- (ar s 3 1)*qB ((ar s 3 2) % 4).toNat,(ar s 3 0)*qB ((ar s 3 2) % 4).toNat+ (ar s 3 1)*qA ((ar s 3 2) % 4).toNat])else(⟨19,x,s⟩,[])
theorem Kv(arg lit cells:Int):br 112 (λg=>#[]) ⟨99,arg,lit,cells⟩ fm:=by
 intro c g x src s ba w F hs hx IT hb
 have Q8: (Code.ai 99).1.toNat=3:=by decide
 simp only[Q8]at hb⊢
 have so:=On.refl hb
 have a0:=aj ((On.refl hb).ab 0 rfl) (j:=0) oM
 have a1:=aj ((On.refl hb).ab 0 rfl) (j:=1) oM
 have a2:=aj ((On.refl hb).ab 0 rfl) (j:=2) oM
 have v0:=aN s 3 0
 have v1:=aN s 3 1
 have v2:=aN s 3 2
 unfold fm
 generalize ar s 3 0=X at *
 generalize ar s 3 1=Y at *
 generalize ar s 3 2=Z at *
 show Calls _ _ #[(99:Int),.slice ba 3 3] _ _
 generalize ag (s.args 3)=ac at *
 replace so:=hid so
 clear hb Q8 IT hs hx
 by_cases h1:okC X Y=true
 ·have Ym:=hid (λw=>rX v0 v1 h1 w)
  have VP:=CR.of h1
  have RH:=λw=>Fe VP Z w
  generalize floatOfInt .f64 X=fx at *
  generalize floatOfInt .f64 Y=fy at *
  replace RH:=hid RH
  generalize X*qA (Z % 4).toNat-Y*qB (Z % 4).toNat=RA at *
  generalize X*qB (Z % 4).toNat+Y*qA (Z % 4).toNat=RB at *
  clear VP
  by_cases Rq:okC RA RB=true
  ·simp only[h1,Rq,and_self,if_true]
   go_enter func112,ntmps112
   go_wp2_with fail
   go_region_held (λw'=>w'.cell? (ba,0)=some (X:Vl)∧w'.cell? (ba,1)=some (Y:Vl)∧w'.cell? (ba,2)=some (Z:Vl)) (go_keep)
    ((go_at_call 166;refine(Ym.out _).mono ?_;rintro e w5 ⟨rfl,rfl⟩;simp only[]))
   all_goals go_wp2_with fail
   refine(RH.out _).mono ?_
   intro e w7 hT
   obtain⟨r,i,rfl,g1,g2,hb⟩:=hT.yes Rq
   have SL:=hid (On.below so.out.drew hb)
   have hpa:=hid (λw=>lS g1 g2 (Bool.and_eq_true .. ▸Rq).1 (Bool.and_eq_true .. ▸Rq).2 w)
   clear g1 g2 hb hT Rq
   simp only[]
   go_wp2_with fail
   refine(bz _ _).mono ?_
   rintro e w8 ⟨rfl,rfl⟩
   simp only[]
   go_wp2_with fail
   refine(hpa.out _).mono ?_
   rintro e w9 ⟨rfl,rfl⟩
   simp only[]
   have h6:=hid (SL.out.tail.box #[RA,RB] 3)
   go_wp2
   go_ret
   exact⟨some ⟨_,0,none⟩,2,ae _ 3 (ag [RA,RB]),rfl,aA _ _,h6.out⟩
  ·rw[Bool.not_eq_true]at Rq
   simp only[h1,Rq,Bool.false_eq_true,and_false,if_false]
   simp only[show¬(19:Int)=0 by decide,if_false]
   have Rq: ¬okC RA RB=true:=by rw[Rq];decide
   go_enter func112,ntmps112
   go_wp2_with fail
   go_region_held (λw'=>w'.cell? (ba,0)=some (X:Vl)∧w'.cell? (ba,1)=some (Y:Vl)∧w'.cell? (ba,2)=some (Z:Vl)) (go_keep)
    ((go_at_call 166;refine(Ym.out _).mono ?_;rintro e w5 ⟨rfl,rfl⟩;simp only[]))
   all_goals go_wp2_with fail
   refine(RH.out _).mono ?_
   intro e w7 hT
   obtain⟨rfl,hb⟩:=hT.no Rq
   have SL:=hid (On.below so.out.drew hb)
   clear hb hT Rq
   simp only[]
   go_wp2_with fail
   refine(bR _ _).mono ?_
   rintro e w8 ⟨rfl,rfl⟩
   exact⟨rfl,rfl,SL.out.tail⟩
 ·have Ym:=hid (λw=>yV v0 v1 h1 w)
  rw[Bool.not_eq_true]at h1
  simp only[h1,Bool.false_eq_true,and_false,false_and,if_false]
  simp only[show¬(19:Int)=0 by decide,if_false]
  clear h1
  go_enter func112,ntmps112
  go_wp2_with fail
  go_region_held (λw'=>w'.cell? (ba,0)=some (X:Vl)∧w'.cell? (ba,1)=some (Y:Vl)∧w'.cell? (ba,2)=some (Z:Vl)) (go_keep)
   ((go_at_call 166;refine zo (Ym.out _) ⟨rfl,rfl,so.out.drew.tail⟩ (.complex .f64 0 0) ?_;intro hF e w5 he hw;subst he;subst hw;replace hF:=hid hF;simp only[]))
  all_goals exact hF.out.elim
