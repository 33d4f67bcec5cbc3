/- Chapter 4: the document's stack: a new one; a cell pushed. Conditions: as written. -/
import Derived.Test.YtjohhkikoejadaaGreatDoorOm
import Derived.Test.YtjohhkikoejadaaGreatDoorZ02
import Derived.Test.YtjohhkikoejadaaGreatDoorZ16
import Derived.BigRegion
import Derived.Test.YtjohhkikoejadaaGreatDoorZVCpx1
namespace Go.Proofs.YtjohhkikoejadaaGreatDoor
set_option linter.unusedVariables false
set_option linter.unusedSimpArgs false
set_option maxHeartbeats 8000000
set_option maxRecDepth 100000
open Go.RowKit Go.Lib Go.Deep
namespace Vm
def oX(gr n d:Nat)(un ov:Int) :Array Value:= #[.slice gr n n,(d:Int),un,ov]
def fe(g gr d:Nat)(un ov:Int)(all:List Int) :List Asr:=[ae g 168 (oX gr all.length d un ov),ae gr 3 (af all)]
theorem MM(n:Nat) :madeCells #[Value.int .i64 0] n=af (List.replicate n 0):=by
 unfold af
 apply Array.ext'
 simp[madeCells,Nat.mod_one]
 apply List.ext_getElem<;>simp
theorem ints_set(all:List Int)(d:Nat)(v:Int) : (af all).setIfInBounds d (.int .i64 v) =af (all.set d v):=by
 unfold af
 apply Array.ext'
 simp[List.map_set]
theorem Eg{w:World}{gr:Nat}{all:List Int}(h:Blk w gr 3 (af all))(d:Nat)(hd:d<all.length) :w.cell? (gr,d) =some ((all.getD d 0) :Vl):=by
 rw[h.cell d]
 simp[af,hd]
section
variable {w w1:World}{F:Nat->Prop}{g gr d:Nat}{un ov:Int}{all:List Int}
theorem BW(h:On F w (aa (fe g gr d un ov all)) w1)(hd:d<all.length)(hn:all.length<=512)(rb:Nat)(v:Int)(hv:w1.cell? (rb,0) =some (v:Vl)) :
 Calls Tryz.prog 54 #[g,.slice rb 1 1] w1 (Got (.returned (.int .i64 0)) (aa (fe g gr (d+1) un ov (all.set d v))) F w):=by
 have hfin:=λW (h:On F w (aa (fe g gr d un ov all)) W)=>(by
  have h1:=h.setAt 1 rfl d (.int .i64 v)
  rw[ints_set]at h1
  have h2:=On.setAt 0 (g:=g) (t:=168) (cs:=oX gr all.length d un ov) h1.drew rfl 1 (.int .i64 ((d:Int) +1))
  have e: (oX gr all.length d un ov).setIfInBounds 1 (.int .i64 ((d:Int) +1)) =oX gr (all.set d v).length (d+1) un ov:=by rw[List.length_set];rfl
  rw[e]at h2
  exact h2:On F w (aa (fe g gr (d+1) un ov (all.set d v))) (((W.setCell (gr,d) (.int .i64 v)).drew).setCell (g,1) (.int .i64 ((d:Int) +1))))
 have hcs:=λW (h:On F w (aa (fe g gr d un ov all)) W)=>(by
  have hg:Blk W g 168 (oX gr all.length d un ov):=h.ab 0 rfl
  have hr:Blk W gr 3 (af all):=h.ab 1 rfl
  exact⟨hg.cell 0,hg.cell 1,hg.frozen 1,Eg hr d hd,hr.frozen d,hg.ne_ hr (by decide)⟩ :
   W.cell? (g,0) =some (.slice gr all.length all.length)∧W.cell? (g,1) =some ((d:Int) :Vl)∧W.frozen? (g,1) =false∧W.cell? (gr,d) =some ((all.getD d 0) :Vl)∧W.frozen? (gr,d) =false∧g≠gr)
 obtain⟨c0,c1,f1,cr,fr,hne⟩:=hcs _ h
 generalize all.getD d 0=old at *
 generalize all.length=n at *
 replace hfin:=hid hfin
 replace hcs:=hid hcs
 replace h:=hid h
 go_enter Tryz.func54,Tryz.ntmps54
 go_wp2
 go_quiet (fail)
 have h2:=h.out.drewN nq
 have hv2: (w1.drewN nq).cell? (rb,0) =some (v:Vl):=hv
 obtain⟨w2,hw2⟩ : ∃w2,w1.drewN nq=w2:=⟨_,rfl⟩
 rw[hw2]at h2 hv2⊢
 clear hw2 h hv c0 c1 f1 cr fr hne
 obtain⟨c0,c1,f1,cr,fr,hne⟩:=hcs.out _ h2
 have hfin2:=hid (hfin.out _ h2)
 replace h2:=hid h2
 clear hfin hcs
 go_wp2
 go_loopg [5] 1 (λk t wr=>(k=1∧t = .int .i64 0∧wr=w2)∨(k=0∧t = .int .i64 1∧On F w (aa (fe g gr (d+1) un ov (all.set d v))) wr))
 case atStart=>exact .inl ⟨rfl,rfl,rfl⟩
 case round=>
  rcases hrel with⟨hk,rfl,rfl⟩ | ⟨hk,rfl,h⟩
  ·replace hk:=hid hk
   go_wp2
   go_region
   go_wp2
   go_roundg 0
   case measure=>rw[hk.out];omega
   case rel=>exact .inr ⟨rfl,rfl,hfin2.out⟩
  ·replace h:=hid h
   replace hk:=hid hk
   go_wp2
   go_ret
   exact⟨rfl,h.out⟩
theorem H7(rg:Int)(n:Nat)(hn:n<=512)(un ov:Int)(hrg: (rg=4∧un=1∧ov=2)∨(rg=5∧un=3∧ov=4))(w:World) :
 Calls Tryz.prog 46 #[rg,((8*n:Nat) :Int)] w (b8 (λe B=> ∃g gr,e = .returned (.tuple #[.pointer (some ⟨g,0,none⟩),.bool true])∧B=aa (fe g gr 0 un ov (List.replicate n 0))) Nob w):=by
 have hmk:=run_make_row' (P:=Tryz.prog) 23 3 (.int .i64 0) 8 Tryz.underlying23 kR rfl .i64 .i64 n oM oM w
 rw[MM]at hmk
 have hq: ((8*n:Nat) :Int).tdiv 8= (n:Int):=by rw[Int.tdiv_eq_ediv_of_nonneg oM];omega
 have hq2: ((8*n:Nat) :Int) /8= (n:Int):=by omega
 have hon:=((On.refl (A:=aa []) (F:=Nob) (w:=w) (λ_ h=>h)).box (af (List.replicate n 0)) 3)
 have hlen: (List.replicate n (0:Int)).length=n:=by simp
 have hfin:=λW (h:On Nob w (aa [ae (w.heap.size+1) 168 (oX w.heap.size n 0 un ov),ae w.heap.size 3 (af (List.replicate n 0))]) W)=>(by
  unfold fe
  rw[hlen]
  exact h:On Nob w (aa (fe (w.heap.size+1) w.heap.size 0 un ov (List.replicate n 0))) W)
 have hn8: ((8*n:Nat) :Int) =8* (n:Int):=by omega
 have hsz: (w.alloc (.cells (af (List.replicate n 0)) 3)).heap.size=w.heap.size+1:=by simp
 have hbx:=hon.box (oX w.heap.size n 0 un ov) 168
 rw[hsz]at hbx
 unfold oX at hbx hfin
 have hfin2:=hfin _ hbx
 generalize af (List.replicate n 0) =row at *
 rw[hn8]
 rw[hn8]at hq2 hq
 replace hon:=hid hon
 replace hfin:=hid hfin
 replace hfin2:=hid hfin2
 replace hn8:=hid hn8
 clear hlen hbx
 rcases hrg with⟨rfl,rfl,rfl⟩ | ⟨rfl,rfl,rfl⟩
 ·go_enter Tryz.func46,Tryz.ntmps46
  go_wp2
  go_ret2
  exact⟨_,⟨_,_,rfl,rfl⟩,hfin2.out⟩
 ·go_enter Tryz.func46,Tryz.ntmps46
  go_wp2
  go_ret2
  exact⟨_,⟨_,_,rfl,rfl⟩,hfin2.out⟩
end
end Vm
open Go.RowKit Go.Lib Go.Deep Flt
namespace Vm
def qJ(w:World)(gs n:Nat) :Prop:= ∀k,k<n->∃x y a b,w.cell? ⟨gs,k,none⟩ =some (.complex .f64 x y)∧IC x a∧IC y b∧inP a=true∧inP b=true
theorem iV(gs n:Nat)(hn:n<=4)(w:World)(hc:qJ w gs n) :Calls Tryz.prog 198 #[.slice gs n n] w (aA .nilIface w):=by
 replace hc:=hid hc
 go_enter Tryz.func198,Tryz.ntmps198
 go_wp2
 go_loopg [7] n (λk t wr=> ∃j:Nat,j+k=n∧t = .int .i64 (j:Int)∧wr=w)
 case atStart=>exact⟨0,by omega,rfl,rfl⟩
 case round=>
  obtain⟨j,hj,rfl,rfl⟩:=hrel
  by_cases hjl:j<n
  ·obtain⟨x,y,a,b,hcell,h1,h2,ha,hb⟩:=hc.out j hjl
   have hr:=oj h1 h2 wr
   rw[ha,hb]at hr
   replace hr:=hid hr
   clear h1 h2 ha hb
   go_wp2_with fail
   refine hr.out.mono ?_
   rintro e w1 ⟨rfl,rfl⟩
   simp only[]
   go_wp2
   go_roundg (gk-1)
   case measure=>omega
   case rel=>exact⟨j+1,by omega,by go_num,rfl⟩
  ·go_wp2
   go_ret
   exact⟨rfl,rfl⟩
theorem of_run{a b:Int}(ha:V64 a)(hb:V64 b)(h1:inP a=true)(h2:inP b=true)(w:World) :Calls Tryz.prog 196 #[a,b] w (aA (.tuple #[.complex .f64 (floatOfInt .f64 a) (floatOfInt .f64 b),(0:Int)]) w):=by
 have k1:=cH h1
 have k2:=cH h2
 have t1:decide ((16777216:Int) <max a b) =false:=decide_eq_false oM
 have t2:decide (min a b< (-16777216:Int)) =false:=decide_eq_false oM
 go_enter Tryz.func196,Tryz.ntmps196
 go_wp2
 go_ret2
 exact⟨rfl,rfl⟩
theorem Ni{a b:Int}(ha:V64 a)(hb:V64 b)(h: (inP a&&inP b) =false)(w:World) :Calls Tryz.prog 196 #[a,b] w (aA (.tuple #[.complex .f64 0 0,(8:Int)]) w):=by
 by_cases h1: (16777216:Int) <max a b
 ·have t1:decide ((16777216:Int) <max a b) =true:=decide_eq_true h1
  go_enter Tryz.func196,Tryz.ntmps196
  go_wp2
  go_ret2
  exact⟨rfl,rfl⟩
 ·have t1:decide ((16777216:Int) <max a b) =false:=decide_eq_false h1
  have t2:decide (min a b< (-16777216:Int)) =true:=decide_eq_true (by
   unfold inP at h
   rw[Bool.and_eq_false_iff,decide_eq_false_iff_not,decide_eq_false_iff_not]at h
   omega)
  go_enter Tryz.func196,Tryz.ntmps196
  go_wp2
  go_ret2
  exact⟨rfl,rfl⟩
def cxE(a b:Int) :Ending:=if(inP a&&inP b) =true then .returned (.complex .f64 (floatOfInt .f64 a) (floatOfInt .f64 b))else .panicked [flt 19]
theorem xP{a b:Int}(ha:V64 a)(hb:V64 b)(w:World) :Calls Tryz.prog 157 #[a,b] w (λe w'=>e=cxE a b∧w'=w):=by
 unfold cxE
 rcases ho: (inP a&&inP b)with _|_
 ·rw[if_neg (by decide)]
  have hof:=hid (Ni ha hb ho w)
  clear ha hb ho
  go_enter Tryz.func157,Tryz.ntmps157
  go_wp2_with fail
  refine hof.out.mono ?_
  rintro e w1 ⟨rfl,rfl⟩
  simp only[]
  go_wp2_with fail
  refine(bV _ _).mono ?_
  rintro e w1 ⟨rfl,rfl⟩
  exact⟨rfl,rfl,rfl⟩
 ·rw[if_pos rfl]
  rw[Bool.and_eq_true]at ho
  have hof:=hid (of_run ha hb ho.1 ho.2 w)
  clear ha hb ho
  generalize floatOfInt .f64 a=x at *
  generalize floatOfInt .f64 b=y at *
  go_enter Tryz.func157,Tryz.ntmps157
  go_wp2_with fail
  refine hof.out.mono ?_
  rintro e w1 ⟨rfl,rfl⟩
  simp only[]
  go_wp2_with fail
  refine(bF _ _).mono ?_
  rintro e w1 ⟨rfl,rfl⟩
  simp only[]
  go_wp2
  go_ret
  exact⟨rfl,rfl⟩
structure CR(x y:Nat)(a b:Int) :Prop where
 x:IC x a
 y:IC y b
 a:inP a=true
 b:inP b=true
theorem CR.of{a b:Int}(h: (inP a&&inP b) =true) :CR (floatOfInt .f64 a) (floatOfInt .f64 b) a b:=by
 rw[Bool.and_eq_true]at h
 have h1:=cH h.1
 have h2:=cH h.2
 exact⟨tZ a oM,tZ b oM,h.1,h.2⟩
theorem nS{x y x2 y2:Nat}{a b a2 b2:Int}(h1:CR x y a b)(h2:CR x2 y2 a2 b2)(w:World)(t:TypeId) :qJ (w.alloc (.cells #[.complex .f64 x y,.complex .f64 x2 y2] t)) w.heap.size 2:=by
 have hb:=Blk.new w t #[.complex .f64 x y,.complex .f64 x2 y2]
 intro k hk
 have:k=0∨k=1:=by omega
 rcases this with rfl|rfl
 ·exact⟨x,y,a,b,hb.cell 0,h1.x,h1.y,h1.a,h1.b⟩
 ·exact⟨x2,y2,a2,b2,hb.cell 1,h2.x,h2.y,h2.a,h2.b⟩
theorem ue{x y:Nat}{a b:Int}(h1:CR x y a b)(w:World)(t:TypeId) :qJ (w.alloc (.cells #[.complex .f64 x y] t)) w.heap.size 1:=by
 have hb:=Blk.new w t #[.complex .f64 x y]
 intro k hk
 have:k=0:=by omega
 subst this
 exact⟨x,y,a,b,hb.cell 0,h1.x,h1.y,h1.a,h1.b⟩
theorem dx.yes{a b:Int}{w:World}{e:Ending}{w':World}(h:dx a b w e w')(ho: (inP a&&inP b) =true) : ∃r i,e = .returned (.tuple #[.complex .f64 r i,(0:Int)])∧IC r a∧IC i b∧Below w.heap.size w w':=by
 unfold dx at h
 rwa[if_pos ho]at h
theorem dx.no{a b:Int}{w:World}{e:Ending}{w':World}(h:dx a b w e w')(ho : ¬(inP a&&inP b) =true) :e = .returned (.tuple #[.complex .f64 0 0,(8:Int)])∧Below w.heap.size w w':=by
 unfold dx at h
 rwa[if_neg ho]at h
theorem dx.up{a b:Int}{w w1:World}{e:Ending}{w':World}(h:dx a b w1 e w')(hb:Below w.heap.size w w1) :dx a b w e w':=by
 unfold dx at *
 split
 ·rename_i ho
  rw[if_pos ho]at h
  obtain⟨r,i,he,h1,h2,h3⟩:=h
  exact⟨r,i,he,h1,h2,hb.trans (h3.mono hb.size)⟩
 ·rename_i ho
  rw[if_neg ho]at h
  exact⟨h.1,hb.trans (h.2.mono hb.size)⟩
theorem Hs{x y x2 y2:Nat}{a b a2 b2:Int}(h1:CR x y a b)(h2:CR x2 y2 a2 b2)(w:World) :Calls Tryz.prog 158 #[.complex .f64 x y,.complex .f64 x2 y2] w (dx (a+a2) (b+b2) w):=by
 have k1:=cH h1.a
 have k2:=cH h1.b
 have k3:=cH h2.a
 have k4:=cH h2.b
 obtain⟨r,hr,kr⟩:=oy h1.x h2.x oM
 obtain⟨i,hi,ki⟩:=oy h1.y h2.y oM
 have f1 : ∀(w:World),(binOp .add 137 (.complex .f64 x y) (.complex .f64 x2 y2)).run Tryz.prog w = .ok (.complex .f64 r i) w:=λw=>run_complex_sum w .add (by simp) 137 .f64 x y x2 y2 r i (by unfold cSumBits;rw[hr,hi];rfl)
 clear hr hi
 have hrow:=nS h1 h2 w 137
 have ha:=iV w.heap.size 2 oM _ hrow
 have ht:=λw=>kH kr ki w
 have hbl:Below w.heap.size w (w.alloc (.cells #[.complex .f64 x y,.complex .f64 x2 y2] 137)):=(Below.refl _ _).alloc (Nat.le_refl _) _
 replace ha:=hid ha
 replace ht:=hid ht
 replace hbl:=hid hbl
 clear h1 h2 k1 k2 k3 k4 kr ki hrow
 go_enter Tryz.func158,Tryz.ntmps158
 go_wp2_with fail
 refine ha.out.mono ?_
 rintro e w1 ⟨rfl,rfl⟩
 simp only[]
 go_wp2_with fail
 refine(ht.out _).mono ?_
 intro e w1 hT
 replace hT:=hT.up hbl.out
 generalize hA:a+a2=A at *
 generalize hB:b+b2=B at *
 clear hA hB
 by_cases ho: (inP A&&inP B) =true
 ·obtain⟨r2,i2,rfl,g1,g2,g3⟩:=hT.yes ho
  replace hT:=hid hT
  clear ho g1 g2 g3
  simp only[]
  go_wp2
  go_ret2
  exact hT.out
 ·obtain⟨rfl,g3⟩:=hT.no ho
  replace hT:=hid hT
  clear ho g3
  simp only[]
  go_wp2
  go_ret2
  exact hT.out
theorem FL{x y x2 y2:Nat}{a b a2 b2:Int}(h1:CR x y a b)(h2:CR x2 y2 a2 b2)(w:World) :Calls Tryz.prog 159 #[.complex .f64 x y,.complex .f64 x2 y2] w (dx (a-a2) (b-b2) w):=by
 have k1:=cH h1.a
 have k2:=cH h1.b
 have k3:=cH h2.a
 have k4:=cH h2.b
 obtain⟨r,hr,kr⟩:=vW h1.x h2.x oM
 obtain⟨i,hi,ki⟩:=vW h1.y h2.y oM
 have f1 : ∀(w:World),(binOp .sub 137 (.complex .f64 x y) (.complex .f64 x2 y2)).run Tryz.prog w = .ok (.complex .f64 r i) w:=λw=>run_complex_sum w .sub (by simp) 137 .f64 x y x2 y2 r i (by unfold cSumBits;rw[hr,hi];rfl)
 clear hr hi
 have hrow:=nS h1 h2 w 137
 have ha:=iV w.heap.size 2 oM _ hrow
 have ht:=λw=>kH kr ki w
 have hbl:Below w.heap.size w (w.alloc (.cells #[.complex .f64 x y,.complex .f64 x2 y2] 137)):=(Below.refl _ _).alloc (Nat.le_refl _) _
 replace ha:=hid ha
 replace ht:=hid ht
 replace hbl:=hid hbl
 clear h1 h2 k1 k2 k3 k4 kr ki hrow
 go_enter Tryz.func159,Tryz.ntmps159
 go_wp2_with fail
 refine ha.out.mono ?_
 rintro e w1 ⟨rfl,rfl⟩
 simp only[]
 go_wp2_with fail
 refine(ht.out _).mono ?_
 intro e w1 hT
 replace hT:=hT.up hbl.out
 generalize hA:a-a2=A at *
 generalize hB:b-b2=B at *
 clear hA hB
 by_cases ho: (inP A&&inP B) =true
 ·obtain⟨r2,i2,rfl,g1,g2,g3⟩:=hT.yes ho
  replace hT:=hid hT
  clear ho g1 g2 g3
  simp only[]
  go_wp2
  go_ret2
  exact hT.out
 ·obtain⟨rfl,g3⟩:=hT.no ho
  replace hT:=hid hT
  clear ho g3
  simp only[]
  go_wp2
  go_ret2
  exact hT.out
theorem Iu{x y x2 y2:Nat}{a b a2 b2:Int}(h1:CR x y a b)(h2:CR x2 y2 a2 b2)(w:World) :Calls Tryz.prog 160 #[.complex .f64 x y,.complex .f64 x2 y2] w (dx (a*a2-b*b2) (a*b2+b*a2) w):=by
 have k1:=cH h1.a
 have k2:=cH h1.b
 have k3:=cH h2.a
 have k4:=cH h2.b
 have m1: (a*a2).natAbs<=281474976710656:=by rw[Int.natAbs_mul];exact Nat.mul_le_mul k1 k3
 have m2: (b*b2).natAbs<=281474976710656:=by rw[Int.natAbs_mul];exact Nat.mul_le_mul k2 k4
 have m3: (a*b2).natAbs<=281474976710656:=by rw[Int.natAbs_mul];exact Nat.mul_le_mul k1 k4
 have m4: (b*a2).natAbs<=281474976710656:=by rw[Int.natAbs_mul];exact Nat.mul_le_mul k2 k3
 obtain⟨p1,hp1,q1⟩:=km h1.x h2.x oM
 obtain⟨p2,hp2,q2⟩:=km h1.y h2.y oM
 obtain⟨p3,hp3,q3⟩:=km h1.x h2.y oM
 obtain⟨p4,hp4,q4⟩:=km h1.y h2.x oM
 obtain⟨r,hr,kr⟩:=vW q1 q2 oM
 obtain⟨i,hi,ki⟩:=oy q3 q4 oM
 have f1 : ∀(w:World),(binOp .mul 137 (.complex .f64 x y) (.complex .f64 x2 y2)).run Tryz.prog w = .ok (.complex .f64 r i) w:=λw=>run_complex_mul w 137 x y x2 y2 r i (by unfold cMulBits;rw[hp1,hp2];simp only[Option.bind_some];rw[hr,hp3,hp4];simp only[Option.bind_some];rw[hi];rfl)
 clear m1 m2 m3 m4 hp1 hp2 hp3 hp4 q1 q2 q3 q4 hr hi
 have hrow:=nS h1 h2 w 137
 have ha:=iV w.heap.size 2 oM _ hrow
 have ht:=λw=>kH kr ki w
 have hbl:Below w.heap.size w (w.alloc (.cells #[.complex .f64 x y,.complex .f64 x2 y2] 137)):=(Below.refl _ _).alloc (Nat.le_refl _) _
 replace ha:=hid ha
 replace ht:=hid ht
 replace hbl:=hid hbl
 clear h1 h2 k1 k2 k3 k4 kr ki hrow
 go_enter Tryz.func160,Tryz.ntmps160
 go_wp2_with fail
 refine ha.out.mono ?_
 rintro e w1 ⟨rfl,rfl⟩
 simp only[]
 go_wp2_with fail
 refine(ht.out _).mono ?_
 intro e w1 hT
 replace hT:=hT.up hbl.out
 generalize hA:a*a2-b*b2=A at *
 generalize hB:a*b2+b*a2=B at *
 clear hA hB
 by_cases ho: (inP A&&inP B) =true
 ·obtain⟨r2,i2,rfl,g1,g2,g3⟩:=hT.yes ho
  replace hT:=hid hT
  clear ho g1 g2 g3
  simp only[]
  go_wp2
  go_ret2
  exact hT.out
 ·obtain⟨rfl,g3⟩:=hT.no ho
  replace hT:=hid hT
  clear ho g3
  simp only[]
  go_wp2
  go_ret2
  exact hT.out
theorem Gr(n:Int) :bits .and .i64 n 3=n % 4:=by
 have h7: (BitVec.ofInt 64 3).toNat=2 ^ 2-1:=by decide
 have key: (BitVec.ofInt 64 n &&& BitVec.ofInt 64 3).toNat= (n % ((2 ^ 64:Nat) :Int)).toNat % 2 ^ 2:=by
  rw[BitVec.toNat_and,BitVec.toNat_ofInt,h7,Nat.and_two_pow_sub_one_eq_mod]
 show IntKind.i64.wrap ((BitVec.ofInt 64 n &&& BitVec.ofInt 64 3).toNat:Nat) =n % 4
 rw[key,IntKind.wrap_i64]
 omega
theorem dx.ends{a b:Int}{w:World}{e:Ending}{w':World}(h:dx a b w e w') : ∃(r i:Nat) (n:Int),e = .returned (.tuple #[.complex .f64 r i,n]):=by
 unfold dx at h
 split at h
 ·obtain⟨r,i,he,_⟩:=h
  exact⟨r,i,0,he⟩
 ·exact⟨0,0,8,h.1⟩
theorem dx.below{a b:Int}{w:World}{e:Ending}{w':World}(h:dx a b w e w') :Below w.heap.size w w':=by
 unfold dx at h
 split at h
 ·obtain⟨r,i,_,_,_,hb⟩:=h
  exact hb
 ·exact h.2
theorem dx.cell{a b:Int}{w:World}{e:Ending}{w':World}{p:Addr}{v:Value}(h:dx a b w e w')(hc:w.cell? p=some v) :w'.cell? p=some v:=
 (World.cell?_of_block (h.below.block _ (World.block_lt_of_cell? w _ hc))).trans hc
def qA(k:Nat) :Int:=if k=0 then 1 else if k=2 then -1 else 0
def qB(k:Nat) :Int:=if k=1 then 1 else if k=3 then -1 else 0
def qx(k:Nat) :Nat:=if k=0 then 4607182418800017408 else if k=2 then 13830554455654793216 else 0
def qy(k:Nat) :Nat:=if k=1 then 4607182418800017408 else if k=3 then 13830554455654793216 else 0
theorem KT(k:Nat) :IC (qx k) (qA k):=by
 unfold qx qA
 split
 ·exact ic1
 ·split
  ·exact NF
  ·exact ic0
theorem KB(k:Nat) :IC (qy k) (qB k):=by
 unfold qy qB
 split
 ·exact ic1
 ·split
  ·exact NF
  ·exact ic0
theorem KQ(k:Nat) : (qA k).natAbs<=1:=by unfold qA;split;decide;split<;>decide
theorem KE(k:Nat) : (qB k).natAbs<=1:=by unfold qB;split;decide;split<;>decide
theorem Dw{x y:Nat}{a b:Int}(h1:CR x y a b)(w:World) :Calls Tryz.prog 161 #[.complex .f64 x y] w (dx a (-b) w):=by
 have ki:=Ll h1.y
 have hrow:=ue h1 w 137
 have ha:=iV w.heap.size 1 oM _ hrow
 have ht:=λw=>kH h1.x ki w
 have hbl:Below w.heap.size w (w.alloc (.cells #[.complex .f64 x y] 137)):=(Below.refl _ _).alloc (Nat.le_refl _) _
 have hneg : ∀w:World,(Op.unary .neg (.float .f64 y)).run Tryz.prog w = .ok (.float .f64 (y ^^^ 9223372036854775808)) w:=λw=>rfl
 generalize y ^^^ 9223372036854775808=y2 at *
 replace ha:=hid ha
 replace ht:=hid ht
 replace hbl:=hid hbl
 clear h1 ki hrow
 go_enter Tryz.func161,Tryz.ntmps161
 go_wp2_with fail
 refine ha.out.mono ?_
 rintro e w1 ⟨rfl,rfl⟩
 simp only[]
 go_wp2_with fail
 refine(ht.out _).mono ?_
 intro e w1 hT
 replace hT:=hT.up hbl.out
 obtain⟨r2,i2,n2,rfl⟩:=hT.ends
 replace hT:=hid hT
 simp only[]
 go_wp2
 go_ret2
 exact hT.out
theorem ED{x y:Nat}{a b:Int}(h1:CR x y a b)(w:World) :Calls Tryz.prog 163 #[.complex .f64 x y] w (aA (.tuple #[(a*a+b*b:Int),(0:Int)]) w):=by
 have k1:=cH h1.a
 have k2:=cH h1.b
 have m1: (a*a).natAbs<=281474976710656:=by rw[Int.natAbs_mul];exact Nat.mul_le_mul k1 k1
 have m2: (b*b).natAbs<=281474976710656:=by rw[Int.natAbs_mul];exact Nat.mul_le_mul k2 k2
 have hz:wrap64 (wrap64 (a*a) +wrap64 (b*b)) =a*a+b*b:=by
  generalize a*a=A at *
  generalize b*b=B at *
  unfold wrap64;omega
 have hp:=kW h1.x h1.y h1.a h1.b w
 replace hp:=hid hp
 clear m1 m2 k1 k2 h1
 replace hz:=hid hz
 go_enter Tryz.func163,Tryz.ntmps163
 go_wp2_with fail
 refine hp.out.mono ?_
 rintro e w1 ⟨rfl,rfl⟩
 simp only[]
 go_wp2
 go_ret2
 rw[hz.out]
 exact⟨rfl,rfl⟩
theorem sN(w:World)(t:TypeId)(k:Nat)(hk:k<4) : (w.alloc (.cells #[.complex .f64 4607182418800017408 0,.complex .f64 0 4607182418800017408,.complex .f64 13830554455654793216 0,.complex .f64 0 13830554455654793216] t)).cell? (w.heap.size,k) =some (.complex .f64 (qx k) (qy k)):=by
 have hb:=Blk.new w t #[.complex .f64 4607182418800017408 0,.complex .f64 0 4607182418800017408,.complex .f64 13830554455654793216 0,.complex .f64 0 13830554455654793216]
 have:k=0∨k=1∨k=2∨k=3:=by omega
 rcases this with rfl|rfl|rfl|rfl
 ·exact hb.cell 0
 ·exact hb.cell 1
 ·exact hb.cell 2
 ·exact hb.cell 3
theorem CP{x y:Nat}{a b:Int}(h1:CR x y a b)(n:Int)(w:World) :Calls Tryz.prog 162 #[.complex .f64 x y,n] w (dx (a*qA (n % 4).toNat-b*qB (n % 4).toNat) (a*qB (n % 4).toNat+b*qA (n % 4).toNat) w):=by
 obtain⟨k,hk⟩ : ∃k:Nat,(n % 4).toNat=k:=⟨_,rfl⟩
 have hk4:k<4:=by omega
 have hand:bits .and .i64 n 3= (k:Int):=by rw[Gr];omega
 rw[hk]
 have k1:=cH h1.a
 have k2:=cH h1.b
 have m1: (a*qA k).natAbs<=16777216:=by rw[Int.natAbs_mul];exact Nat.mul_le_mul k1 (KQ k)
 have m2: (b*qB k).natAbs<=16777216:=by rw[Int.natAbs_mul];exact Nat.mul_le_mul k2 (KE k)
 have m3: (a*qB k).natAbs<=16777216:=by rw[Int.natAbs_mul];exact Nat.mul_le_mul k1 (KE k)
 have m4: (b*qA k).natAbs<=16777216:=by rw[Int.natAbs_mul];exact Nat.mul_le_mul k2 (KQ k)
 obtain⟨p1,hp1,q1⟩:=km h1.x (KT k) oM
 obtain⟨p2,hp2,q2⟩:=km h1.y (KB k) oM
 obtain⟨p3,hp3,q3⟩:=km h1.x (KB k) oM
 obtain⟨p4,hp4,q4⟩:=km h1.y (KT k) oM
 obtain⟨r,hr,kr⟩:=vW q1 q2 oM
 obtain⟨i,hi,ki⟩:=oy q3 q4 oM
 have f1 : ∀(w:World),(binOp .mul 137 (.complex .f64 x y) (.complex .f64 (qx k) (qy k))).run Tryz.prog w = .ok (.complex .f64 r i) w:=λw=>run_complex_mul w 137 x y (qx k) (qy k) r i (by unfold cMulBits;rw[hp1,hp2];simp only[Option.bind_some];rw[hr,hp3,hp4];simp only[Option.bind_some];rw[hi];rfl)
 clear m1 m2 m3 m4 hp1 hp2 hp3 hp4 q1 q2 q3 q4 hr hi k1 k2
 have ht:=λw=>kH kr ki w
 have hq:=λ(w:World) (t:TypeId)=>sN w t k hk4
 generalize a*qA k-b*qB k=AA at *
 generalize a*qB k+b*qA k=BB at *
 generalize qx k=qxk at *
 generalize qy k=qyk at *
 have ha:=λ(w:World) (t:TypeId)=>iV w.heap.size 1 oM _ (ue h1 w t)
 replace ha:=hid ha
 replace ht:=hid ht
 replace hq:=hid hq
 have hst : ∀(w:World) (a:Addr) (x y:Nat) (m:Mode),(store a (.complex .f64 x y) m).run Tryz.prog w=stored Tryz.prog w a (.complex .f64 x y) m:=λw a x y m=>run_store Tryz.prog w a _ m rfl
 clear h1 kr ki
 go_enter Tryz.func162,Tryz.ntmps162
 go_wp2_with fail
 have hq1:=hq.out w 264
 have hbl1:Below w.heap.size w (w.alloc (.cells #[.complex .f64 4607182418800017408 0,.complex .f64 0 4607182418800017408,.complex .f64 13830554455654793216 0,.complex .f64 0 13830554455654793216] 264)):=(Below.refl _ _).alloc (Nat.le_refl _) _
 clear hst hq
 generalize w.alloc (.cells #[.complex .f64 4607182418800017408 0,.complex .f64 0 4607182418800017408,.complex .f64 13830554455654793216 0,.complex .f64 0 13830554455654793216] 264) =w1 at *
 generalize Array.mk [Value.complex .f64 4607182418800017408 0,.complex .f64 0 4607182418800017408,.complex .f64 13830554455654793216 0,.complex .f64 0 13830554455654793216] =big at *
 obtain⟨b,hbz⟩ : ∃b,w.heap.size=b:=⟨_,rfl⟩
 have hbl : ∀(t:TypeId),Below w.heap.size w (w1.drew.alloc (.cells #[.complex .f64 x y] t)):=λt=>hbl1.drew.alloc (by have:=hbl1.size;simpa [go_sem]using this) _
 have ha1 : ∀t,Calls Tryz.prog 198 #[.slice w1.heap.size 1 1] (w1.drew.alloc (.cells #[.complex .f64 x y] t)) (aA .nilIface (w1.drew.alloc (.cells #[.complex .f64 x y] t))):=λt=>ha.out w1.drew t
 replace ha1:=hid ha1
 have hq2 : ∀t,(w1.drew.alloc (.cells #[.complex .f64 x y] t)).cell? (w.heap.size,k) =some (.complex .f64 qxk qyk):=λt=>by simp[go_sem,World.cell?_alloc_some,hq1]
 rw[hbz]at hq1 hq2
 replace hq2:=hid hq2
 rw[show w.heap.size=b from hbz]
 replace hbl:=hid hbl
 replace hbl1:=hid hbl1
 replace hbz:=hid hbz
 go_region_held (λw'=>w'.cell? (b,k) =some (.complex .f64 qxk qyk)) (go_keep)
  ((first
    | (go_at_call 198;refine(ha1.out _).mono ?_;rintro e w5 ⟨rfl,rfl⟩;simp only[])
    | (go_at_call 197;refine(ht.out _).mono ?_;intro e w6 hT;have o0:=hT.cell (hq2.out _);replace hT:=hT.up (hbl.out _);obtain⟨r2,i2,n2,rfl⟩:=hT.ends;replace hT:=hid hT;simp only[])))
 all_goals go_wp2
 all_goals go_ret2
 all_goals exact hT.out
end Vm
end Go.Proofs.YtjohhkikoejadaaGreatDoor
