/- Chapter 11: a word laid into both lists. Conditions: as written. Printed by gen_vlaid.py. -/
import Derived.Test.YtjohhkikoejadaaGreatDoorOm
import Derived.Test.YtjohhkikoejadaaGreatDoorZ02
import Derived.Test.YtjohhkikoejadaaGreatDoorZ23
import Derived.Test.YtjohhkikoejadaaGreatDoorZ27
import Derived.Test.YtjohhkikoejadaaGreatDoorZVRng
import Derived.Test.YtjohhkikoejadaaGreatDoorZ17
import Derived.Test.YtjohhkikoejadaaGreatDoorZ11
import Derived.Test.YtjohhkikoejadaaGreatDoorZ16
namespace Go.Proofs.YtjohhkikoejadaaGreatDoor
set_option linter.unusedVariables false
set_option linter.unusedSimpArgs false
set_option maxHeartbeats 8000000
set_option maxRecDepth 100000
open Go.RowKit Go.Lib Go.Deep
namespace Vm
def cn(gI g gW:Nat)(wcs:Array Value)(gr gb bg en cap:Nat)(q p:Img×Dc) :List Asr:=
 [DcA gI g (bg+8) en q.2,au gI q.1,ae gW 83 wcs,bz gr gb bg en cap false p.2,RbA gb p.1]
theorem dO.at8{q q':Img×Dc}{fr en:Nat}(h:dO q q')(h8:At8 q.1 q.2 fr en) :At8 q'.1 q'.2 fr en:=h8.next h.img h.dc h.al h.rg
section
variable {w W:World}{F:Nat->Prop}{B:Asr}{gI g gW gr gb bg en cap:Nat}{wcs:Array Value}{q p:Img×Dc}
theorem tu(h:On F w (aa (B::cn gI g gW wcs gr gb bg en cap q p)) W)(h8:At8 q.1 q.2 (bg+8) en)(s:ByteArray)(hsz:s.size<=9223372036854775807) :
 Calls Tryz.prog 70 #[g,.string s] W (Got (.returned (.tuple #[(q.2.iD q.1 s.data.toList),(q.2.bZ q.1 s.data.toList)])) (aa (B::cn gI g gW wcs gr gb bg en cap (q.2.cB q.1 s.data.toList,q.2.cz q.1 s.data.toList) p)) F w):=
 h.cD 1 2 (by decide) rfl rfl λF' hb=>Ha hb h8 s hsz
theorem tR(h:On F w (aa (B::cn gI g gW wcs gr gb bg en cap q p)) W)(h8:At8 p.1 p.2 (bg+8) en)(hs:p.2.shut p.1=false)(s:ByteArray)(hsz:s.size<=9223372036854775807) :
 Calls Tryz.prog 71 #[gr,.string s] W (Got (.returned (.tuple #[(p.2.iD p.1 s.data.toList),(p.2.bZ p.1 s.data.toList)])) (aa (B::cn gI g gW wcs gr gb bg en cap q (p.2.cB p.1 s.data.toList,p.2.cz p.1 s.data.toList))) F w):=
 h.cD 4 5 (by decide) rfl rfl λF' hb=>DQ (On.refl hb) h8 hs s hsz
theorem I7(h:On F w (aa (B::cn gI g gW wcs gr gb bg en cap q p)) W)(h8:At8 q.1 q.2 (bg+8) en) :
 Calls Tryz.prog 72 #[g] W (Got (.returned (.tuple #[])) (aa (B::cn gI g gW wcs gr gb bg en cap (q.2.cq q.1 eL,q.2) p)) F w):=
 h.cD 1 2 (by decide) rfl rfl λF' hb=>LM hb h8
theorem Ld(h:On F w (aa (B::cn gI g gW wcs gr gb bg en cap q p)) W)(h8:At8 q.1 q.2 (bg+8) en) :
 Calls Tryz.prog 74 #[g] W (Got (.returned (.tuple #[])) (aa (B::cn gI g gW wcs gr gb bg en cap (q.2.cq q.1 kk,q.2) p)) F w):=
 h.cD 1 2 (by decide) rfl rfl λF' hb=>wi hb h8
theorem JP(h:On F w (aa (B::cn gI g gW wcs gr gb bg en cap q p)) W)(h8:At8 p.1 p.2 (bg+8) en)(hs:p.2.shut p.1=false) :
 Calls Tryz.prog 73 #[gr,(32:Int),(0:Int)] W (Got (.returned (.tuple #[])) (aa (B::cn gI g gW wcs gr gb bg en cap q (p.2.cq p.1 eL,p.2))) F w):=
 h.cD 4 5 (by decide) rfl rfl λF' hb=>B6 (On.refl hb) h8 hs 32 0 eL Aw oM oM
theorem Lz(h:On F w (aa (B::cn gI g gW wcs gr gb bg en cap q p)) W)(h8:At8 p.1 p.2 (bg+8) en)(hs:p.2.shut p.1=false) :
 Calls Tryz.prog 73 #[gr,(0:Int),(64:Int)] W (Got (.returned (.tuple #[])) (aa (B::cn gI g gW wcs gr gb bg en cap q (p.2.cq p.1 kk,p.2))) F w):=
 h.cD 4 5 (by decide) rfl rfl λF' hb=>B6 (On.refl hb) h8 hs 0 64 kk EA oM oM
theorem Fs(h:On F w (aa (B::cn gI g gW wcs gr gb bg en cap q p)) W)(h8:At8 q.1 q.2 (bg+8) en)(v:Int)(hv:V64 v) :
 Calls Tryz.prog 75 #[g,v] W (Got (.returned (q.2.bo q.1)) (aa (B::cn gI g gW wcs gr gb bg en cap (q.2.bp q.1 v,q.2.bq q.1) p)) F w):=
 h.cD 1 2 (by decide) rfl rfl λF' hb=>vJ hb h8 v hv
theorem F8(h:On F w (aa (B::cn gI g gW wcs gr gb bg en cap q p)) W)(h8:At8 p.1 p.2 (bg+8) en)(hs:p.2.shut p.1=false)(v:Int)(hv:V64 v) :
 Calls Tryz.prog 76 #[gr,v] W (Got (.returned (p.2.bo p.1)) (aa (B::cn gI g gW wcs gr gb bg en cap q (p.2.bp p.1 v,p.2.bq p.1))) F w):=
 h.cD 4 5 (by decide) rfl rfl λF' hb=>Fv (On.refl hb) h8 hs v hv
def rk(x:Wrd)(A:Option Addr)(cp:Nat) :Array Value:= #[.string x.name,.bool x.hid,.bool x.imm,.slice A x.cells.length cp]
theorem uf{L:List Asr}{x:Wrd}{A:Option Addr}{cp bx:Nat}(h:On F w (aa (ae bx 48 (rk x A cp) ::L)) W) :W.cell? (bx,0) =some (.string x.name)∧W.cell? (bx,1) =some (.bool x.hid)∧W.cell? (bx,2) =some (.bool x.imm)∧W.cell? (bx,3) =some (.slice A x.cells.length cp):=
 let hb:=h.ab 0 rfl
 ⟨hb.cell 0,hb.cell 1,hb.cell 2,hb.cell 3⟩
theorem GA(hb: (aa (cn gI g gW wcs gr gb bg en cap q q)).holds w F)(h8:At8 q.1 q.2 (bg+8) en)(hsh:q.2.shut q.1=false)(x:Wrd)(A:Option Addr)(cp:Nat)(hsz:x.name.size<=9223372036854775807)
 (kernel:Bool) (gk gs:Nat) (hw1:wcs[1]? = some (gk:Vl)) (hw2:wcs[2]? = some (gs:Vl)) (hgr:gr=if kernel then gk else gs) (hf:q.2.bZ q.1 x.name.data.toList≠0) :
 Calls Tryz.prog 50 #[g,gW,.bool kernel,.agg #[.string x.name,.bool x.hid,.bool x.imm,.slice A x.cells.length cp]] w (Got (.returned (.bool true)) (aa (cn gI g gW wcs gr gb bg en cap q q)) F w):=by
 have hon:=(On.refl hb).box (rk x A cp) 48
 have e1: (q.2.cB q.1 x.name.data.toList,q.2.cz q.1 x.name.data.toList) =q:=by
  unfold Dc.cB Dc.cz
  rw[if_neg hf,if_neg hf]
 have hp:=tu hon h8 x.name hsz
 rw[e1]at hp
 have hr:=λW (h:On F w (aa (ae w.heap.size 48 (rk x A cp) ::cn gI g gW wcs gr gb bg en cap q q)) W)=>tR h h8 hsh x.name hsz
 rw[e1]at hr
 have hz:=λW (h:On F w (aa (ae w.heap.size 48 (rk x A cp) ::cn gI g gW wcs gr gb bg en cap q q)) W)=>uf h
 have hwb:Blk w gW 83 wcs:=(On.refl hb).ab 2 rfl
 have cw1:=(hwb.cell 1).trans hw1
 have cw2:=(hwb.cell 2).trans hw2
 have hf2: (q.2.bZ q.1 x.name.data.toList != 0) =true:=by simpa using hf
 have hf3: (q.2.bZ q.1 x.name.data.toList != q.2.bZ q.1 x.name.data.toList) =false:=by simp
 generalize q.2.iD q.1 x.name.data.toList=cv at *
 generalize q.2.bZ q.1 x.name.data.toList=cf at *
 have hwlt:=hwb.lt
 unfold rk at hp hr hz hon
 replace hon:=Lib.hid hon
 replace hp:=Lib.hid hp
 replace hr:=Lib.hid hr
 replace hz:=Lib.hid hz
 clear hb hwb hf h8 hsh e1 hw1 hw2
 cases kernel with
 | true=>
   simp only[if_true]at hgr
   subst hgr
   go_enter Tryz.func50,Tryz.ntmps50
   go_wp2_with fail
   refine hp.out.mono ?_
   rintro e w1 ⟨rfl,h1⟩
   obtain⟨z0,z1,z2,z3⟩:=hz.out _ h1
   have hr1:=Lib.hid (hr.out _ h1)
   clear h1
   go_wp2_with fail
   refine hr1.out.mono ?_
   rintro e w2 ⟨rfl,h2⟩
   replace h2:=Lib.hid h2
   go_wp2
   go_ret
   exact⟨rfl,h2.out.tail⟩
 | false=>
   simp only[Bool.false_eq_true,if_false]at hgr
   subst hgr
   go_enter Tryz.func50,Tryz.ntmps50
   go_wp2_with fail
   refine hp.out.mono ?_
   rintro e w1 ⟨rfl,h1⟩
   obtain⟨z0,z1,z2,z3⟩:=hz.out _ h1
   have hr1:=Lib.hid (hr.out _ h1)
   clear h1
   go_wp2_with fail
   refine hr1.out.mono ?_
   rintro e w2 ⟨rfl,h2⟩
   replace h2:=Lib.hid h2
   go_wp2
   go_ret
   exact⟨rfl,h2.out.tail⟩
theorem vg(v:Int)(l:List Int)(q:Img×Dc) :commasS (v::l) q=if q.2.bo q.1=0 then commasS l (q.2.bp q.1 v,q.2.bq q.1)else q:=rfl
def jP(hid:Bool)(q:Img×Dc) :Img×Dc:=if hid then q else(q.2.cq q.1 eL,q.2)
def yF(imm:Bool)(q:Img×Dc) :Img×Dc:=if imm then(q.2.cq q.1 kk,q.2)else q
theorem mark_eq(x:Wrd)(q:Img×Dc) : (p9 x q.1 q.2,q.2) =yF x.imm (jP x.hid q):=by
 unfold p9 yF jP
 cases x.imm<;>cases x.hid<;>rfl
theorem AD(hid:Bool){q:Img×Dc}(h1:q.1.Ok)(h2:q.2.Ok q.1) :dO q (jP hid q):=by
 unfold jP
 split
 ·exact dO.refl h1 h2
 ·exact sX h1 h2
theorem EF(imm:Bool){q:Img×Dc}(h1:q.1.Ok)(h2:q.2.Ok q.1) :dO q (yF imm q):=by
 unfold yF
 split
 ·exact xg h1 h2
 ·exact dO.refl h1 h2
theorem Cy(hb: (aa (cn gI g gW wcs gr gb bg en cap q q)).holds w F)(h8:At8 q.1 q.2 (bg+8) en)(hsh:q.2.shut q.1=false)(x:Wrd)(A:Option Addr)(cp:Nat)(hsz:x.name.size<=9223372036854775807)
 (hi:mO w A x.cells) (hfar:x.cells≠[]->Far F A) (hv : ∀v∈x.cells,V64 v) (hcl:x.cells.length<=9223372036854775807)
 (kernel:Bool) (gk gs:Nat) (hw1:wcs[1]? = some (gk:Vl)) (hw2:wcs[2]? = some (gs:Vl)) (hgr:gr=if kernel then gk else gs) (hf:q.2.bZ q.1 x.name.data.toList=0) :
 Calls Tryz.prog 50 #[g,gW,.bool kernel,.agg #[.string x.name,.bool x.hid,.bool x.imm,.slice A x.cells.length cp]] w (Got (.returned (.bool true)) (aa (cn gI g gW wcs gr gb bg en cap (dD x q) (dD x q))) F w):=by
 have hon:=(On.refl hb).box (rk x A cp) 48
 have hp:=tu hon h8 x.name hsz
 have hr:=λW (q1:Img×Dc) (h:On F w (aa (ae w.heap.size 48 (rk x A cp) ::cn gI g gW wcs gr gb bg en cap q1 q)) W)=>tR h h8 hsh x.name hsz
 have g1:=oV (S:=q.1) (D:=q.2) h8.img h8.ok x.name.data.toList
 have e0:dD x q=commasS x.cells (yF x.imm (jP x.hid (q.2.cB q.1 x.name.data.toList,q.2.cz q.1 x.name.data.toList))):=by
  unfold dD
  rw[if_neg (by rw[hf];decide),<-mark_eq]
 have g1':dO q (q.2.cB q.1 x.name.data.toList,q.2.cz q.1 x.name.data.toList):=g1
 generalize (q.2.cB q.1 x.name.data.toList,q.2.cz q.1 x.name.data.toList) =q1 at *
 have h81:=g1'.at8 h8
 have hs1:q1.2.shut q1.1=false:=g1'.shut.trans hsh
 have g2:=AD x.hid h81.img h81.ok
 have h82:=g2.at8 h81
 have hs2:=g2.shut.trans hs1
 have g3:=EF x.imm h82.img h82.ok
 have h83:=g3.at8 h82
 have hs3:=g3.shut.trans hs2
 have hz:=λW (q1 q2:Img×Dc) (h:On F w (aa (ae w.heap.size 48 (rk x A cp) ::cn gI g gW wcs gr gb bg en cap q1 q2)) W)=>uf h
 have hwb:Blk w gW 83 wcs:=(On.refl hb).ab 2 rfl
 have cw1:=(hwb.cell 1).trans hw1
 have cw2:=(hwb.cell 2).trans hw2
 have hwlt:=hwb.lt
 rw[e0]
 rw[hf]at hp hr
 have hshow:=λW (h:On F w (aa (ae w.heap.size 48 (rk x A cp) ::cn gI g gW wcs gr gb bg en cap q1 q1)) W)=>I7 h h81
 have hshow2:=λW (h:On F w (aa (ae w.heap.size 48 (rk x A cp) ::cn gI g gW wcs gr gb bg en cap (q1.2.cq q1.1 eL,q1.2) q1)) W)=>JP h h81 hs1
 generalize q.2.iD q.1 x.name.data.toList=cv at *
 clear hf g1 e0 hw1 hw2 hwb
 unfold rk at hp hr hz hon hshow hshow2
 obtain⟨nm,hid,imm,cells⟩:=x
 simp only at *
 replace hon:=Lib.hid hon
 replace hp:=Lib.hid hp
 replace hr:=Lib.hid hr
 replace hz:=Lib.hid hz
 replace hshow:=Lib.hid hshow
 replace hshow2:=Lib.hid hshow2
 replace h82:=Lib.hid h82
 replace h83:=Lib.hid h83
 replace hs2:=Lib.hid hs2
 replace hs3:=Lib.hid hs3
 replace hi:=Lib.hid hi
 replace hfar:=Lib.hid hfar
 replace hv:=Lib.hid hv
 replace hgr:=Lib.hid hgr
 clear hb h8 hsh g1' g2 g3 h81 hs1
 go_enter Tryz.func50,Tryz.ntmps50
 go_upto_if 21 with fail
 go_cut [9] (λr wx=>r = .pointer gr∧wx=w.alloc (.cells #[.string nm,.bool hid,.bool imm,.slice A cells.length cp] 48))
 case first=>
  have hg:=hgr.out
  cases kernel with
  | true=>
    simp only[if_true]at hg
    subst hg
    go_wp2_with fail
    go_meet
    exact⟨rfl,rfl⟩
  | false=>
    simp only[Bool.false_eq_true,if_false]at hg
    subst hg
    go_wp2_with fail
    go_meet
    exact⟨rfl,rfl⟩
 case rest=>
  obtain⟨rfl,rfl⟩:=hcut
  clear cw1 cw2
  go_wp2_with fail
  refine hp.out.mono ?_
  rintro e w1 ⟨rfl,h1⟩
  obtain⟨z0,z1,z2,z3⟩:=hz.out _ _ _ h1
  have hr1:=Lib.hid (hr.out _ _ h1)
  clear h1
  go_wp2_with fail
  refine hr1.out.mono ?_
  rintro e w2 ⟨rfl,h2⟩
  clear z0 z1 z2 z3
  obtain⟨z0,z1,z2,z3⟩:=hz.out _ _ _ h2
  go_upto_if 47 with fail
  go_cut [] (λwx=>On F w (aa (ae w.heap.size 48 #[.string nm,.bool hid,.bool imm,.slice A cells.length cp] ::cn gI g gW wcs gr gb bg en cap (jP hid q1) (jP hid q1))) wx)
  case first=>
   cases hid with
   | true=>
     replace h2:=Lib.hid h2
     go_wp2_with fail
     go_meet
     exact h2.out
   | false=>
     have hs:=Lib.hid (hshow.out _ h2)
     clear h2 z0 z1 z2 z3
     go_wp2_with fail
     refine hs.out.mono ?_
     rintro e w3 ⟨rfl,h3⟩
     have hq:=Lib.hid (hshow2.out _ h3)
     clear h3
     go_wp2_with fail
     refine hq.out.mono ?_
     rintro e w4 ⟨rfl,h4⟩
     replace h4:=Lib.hid h4
     go_wp2_with fail
     go_meet
     exact h4.out
  case rest=>
   have h3:=hcut
   clear hshow hshow2 h2 z0 z1 z2 z3 hp hr hr1
   have him:=Ld h3 h82.out
   have him2:=λW (h:On F w (aa (ae w.heap.size 48 #[.string nm,.bool hid,.bool imm,.slice A cells.length cp] ::cn gI g gW wcs gr gb bg en cap ((jP hid q1).2.cq (jP hid q1).1 kk,(jP hid q1).2) (jP hid q1))) W)=>Lz h h82.out hs2.out
   generalize jP hid q1=q2 at *
   obtain⟨z0,z1,z2,z3⟩:=hz.out _ _ _ h3
   replace h3:=Lib.hid h3
   replace him:=Lib.hid him
   replace him2:=Lib.hid him2
   clear hcut
   go_upto_if 53 with fail
   go_cut [] (λwx=>On F w (aa (ae w.heap.size 48 #[.string nm,.bool hid,.bool imm,.slice A cells.length cp] ::cn gI g gW wcs gr gb bg en cap (yF imm q2) (yF imm q2))) wx)
   case first=>
    cases imm with
    | false=>
      go_wp2_with fail
      go_meet
      exact h3.out
    | true=>
      clear z0 z1 z2 z3
      go_wp2_with fail
      refine him.out.mono ?_
      rintro e w3 ⟨rfl,h3⟩
      have hq:=Lib.hid (him2.out _ h3)
      clear h3
      go_wp2_with fail
      refine hq.out.mono ?_
      rintro e w4 ⟨rfl,h4⟩
      replace h4:=Lib.hid h4
      go_wp2_with fail
      go_meet
      exact h4.out
   case rest=>
    have h4:=hcut
    clear hcut h3 him him2 z0 z1 z2 z3
    generalize yF imm q2=q3 at *
    replace h4:=Lib.hid h4
    go_wp2_with fail
    go_loopg [14] cells.length (λk t wr=> ∃(j:Nat) (qj:Img×Dc),j+k=cells.length∧t = .int .i64 (j:Int)∧dO q3 qj∧commasS cells q3=commasS (cells.drop j) qj∧On F w (aa (ae w.heap.size 48 #[.string nm,.bool hid,.bool imm,.slice A cells.length cp] ::cn gI g gW wcs gr gb bg en cap qj qj)) wr)
    case atStart=>exact⟨0,q3,by omega,rfl,dO.refl h83.out.img h83.out.ok,rfl,h4.out⟩
    case round=>
     obtain⟨j,qj,hj,rfl,hgq,hcq,hoj⟩:=hrel
     obtain⟨z0,z1,z2,z3⟩:=hz.out _ _ _ hoj
     by_cases hjl:j<cells.length
     ·obtain⟨v,hvj⟩ : ∃v,cells[j]? = some v:=⟨cells[j],by simp[hjl]⟩
      have hvv:=hv.out v (List.mem_of_getElem? hvj)
      obtain⟨a,ha,hca⟩:=(hoj.ints hi.out (hfar.out λe=>by rw[e]at hvj;simp at hvj)) j v hvj
      have h8j:=hgq.at8 h83.out
      have hsj:=hgq.shut.trans hs3.out
      have hdr:cells.drop j=v::cells.drop (j+1):=by
       rw[List.drop_eq_getElem_cons hjl]
       congr 1
       rw[List.getElem?_eq_getElem hjl]at hvj
       exact Option.some.inj hvj
      rw[hdr,vg]at hcq
      have hg2:dO qj (qj.2.bp qj.1 v,qj.2.bq qj.1):=ml h8j.img h8j.ok v
      have hpc:=Fs hoj h8j v hvv
      have hrc:=λW (h:On F w (aa (ae w.heap.size 48 #[.string nm,.bool hid,.bool imm,.slice A cells.length cp] ::cn gI g gW wcs gr gb bg en cap (qj.2.bp qj.1 v,qj.2.bq qj.1) qj)) W)=>F8 h h8j hsj v hvv
      subst ha
      have hca2:=λW (h:On F w (aa (ae w.heap.size 48 #[.string nm,.bool hid,.bool imm,.slice (some a) cells.length cp] ::cn gI g gW wcs gr gb bg en cap (qj.2.bp qj.1 v,qj.2.bq qj.1) qj)) W)=>(by
       obtain⟨b,hb,hcb⟩:=(h.ints hi.out (hfar.out λe=>by rw[e]at hvj;simp at hvj)) j v hvj
       cases hb
       exact hcb:W.cell? (a.add j) =some (v:Vl))
      have hff: (qj.2.bo qj.1 != qj.2.bo qj.1) =false:=by simp
      by_cases hf0:qj.2.bo qj.1=0
      ·rw[if_pos hf0]at hcq
       rw[hf0]at hpc hrc
       generalize (qj.2.bp qj.1 v,qj.2.bq qj.1) =qn at *
       replace hpc:=Lib.hid hpc
       replace hrc:=Lib.hid hrc
       replace hca2:=Lib.hid hca2
       replace hcq:=Lib.hid hcq
       replace hg2:=Lib.hid hg2
       replace hgq:=Lib.hid hgq
       clear hoj h8j hsj hdr hvv hff hf0 hvj
       go_wp2_with fail
       refine hpc.out.mono ?_
       rintro e w5 ⟨rfl,h5⟩
       have hrq:=Lib.hid (hrc.out _ h5)
       have hc5:=hca2.out _ h5
       clear z0 z1 z2 z3 hca
       obtain⟨z0,z1,z2,z3⟩:=hz.out _ _ _ h5
       clear h5
       go_wp2_with fail
       refine hrq.out.mono ?_
       rintro e w6 ⟨rfl,h6⟩
       replace h6:=Lib.hid h6
       go_wp2
       go_roundg (gk-1)
       case measure=>omega
       case rel=>exact⟨j+1,qn,by omega,by go_num,hgq.out.trans hg2.out,hcq.out,h6.out⟩
      ·rw[if_neg hf0]at hcq
       have e1: (qj.2.bp qj.1 v,qj.2.bq qj.1) =qj:=by
        unfold Dc.bp Dc.bq
        rw[if_neg hf0,if_neg hf0]
       rw[e1]at hpc hrc hca2
       have hft: (qj.2.bo qj.1 != 0) =true:=by simpa using hf0
       generalize qj.2.bo qj.1=ff at *
       replace hpc:=Lib.hid hpc
       replace hrc:=Lib.hid hrc
       replace hca2:=Lib.hid hca2
       replace hcq:=Lib.hid hcq
       clear hoj h8j hsj hdr hvv hf0 hvj hg2 e1 hgq
       go_wp2_with fail
       refine hpc.out.mono ?_
       rintro e w5 ⟨rfl,h5⟩
       have hrq:=Lib.hid (hrc.out _ h5)
       have hc5:=hca2.out _ h5
       clear z0 z1 z2 z3 hca
       obtain⟨z0,z1,z2,z3⟩:=hz.out _ _ _ h5
       clear h5
       go_wp2_with fail
       refine hrq.out.mono ?_
       rintro e w6 ⟨rfl,h6⟩
       replace h6:=Lib.hid h6
       go_wp2
       go_ret
       refine⟨rfl,?_⟩
       rw[hcq.out]
       exact h6.out.tail
     ·have hjj:j=cells.length:=by omega
      subst hjj
      rw[List.drop_length]at hcq
      replace hcq:=Lib.hid hcq
      replace hgq:=Lib.hid hgq
      replace hoj:=Lib.hid hoj
      have hdl:decide ((cells.length:Int) < (cells.length:Int)) =false:=by simp
      go_wp2
      go_ret
      refine⟨rfl,?_⟩
      rw[hcq.out]
      exact hoj.out.tail
theorem tD(hb: (aa (cn gI g gW wcs gr gb bg en cap q q)).holds w F)(h8:At8 q.1 q.2 (bg+8) en)(hsh:q.2.shut q.1=false)(x:Wrd)(A:Option Addr)(cp:Nat)(hsz:x.name.size<=9223372036854775807)
 (hi:mO w A x.cells) (hfar:x.cells≠[]->Far F A) (hv : ∀v∈x.cells,V64 v) (hcl:x.cells.length<=9223372036854775807)
 (kernel:Bool) (gk gs:Nat) (hw1:wcs[1]? = some (gk:Vl)) (hw2:wcs[2]? = some (gs:Vl)) (hgr:gr=if kernel then gk else gs) :
 Calls Tryz.prog 50 #[g,gW,.bool kernel,.agg #[.string x.name,.bool x.hid,.bool x.imm,.slice A x.cells.length cp]] w (Got (.returned (.bool true)) (aa (cn gI g gW wcs gr gb bg en cap (dD x q) (dD x q))) F w):=by
 by_cases hf:q.2.bZ q.1 x.name.data.toList=0
 ·exact Cy hb h8 hsh x A cp hsz hi hfar hv hcl kernel gk gs hw1 hw2 hgr hf
 ·have e:dD x q=q:=by unfold dD;rw[if_pos hf]
  rw[e]
  exact GA hb h8 hsh x A cp hsz kernel gk gs hw1 hw2 hgr hf
end
end Vm
open Go.RowKit Go.Lib Go.Shelf
attribute [local go_sem] Oper.semAt_some
namespace Vm
section
variable {g gI gb fr en:Nat}{D:Dc}{S:Img}
theorem tA(n:Nat)(hn:1<=n)(Bd:Nat)(w:World)(x0:Wd)(rest:List Wd)(hs:Blk w g 136 (cu gI fr en (D.h:Int) (D.l:Int)))(hi:bU w gI gb S)(h8:At8 S D fr en)(hBd:Bd<w.heap.size)(hc:w.cell? (Bd,0) =some (g:Vl))(hws:words S D=x0::rest) :
 Rng.rV n Tryz.prog 60 #[Bd] #[.agg x0.c] w:=by
 intro l W Rt Rp hW hY
 have hwk:=As (hs.below hW hs.lt) ⟨hi.blk.below hW hi.blk.lt,hi.row.below hW hi.row.lt,hi.ok⟩ h8
 rw[hws]at hwk
 have hBd1:=(hW.cell (p:=⟨Bd,0,none⟩) hBd).trans hc
 obtain⟨N,hN⟩ : ∃N,N= (x0::rest).length:=⟨_,rfl⟩
 have hN0:0<N:=by rw[hN];simp
 have hwk2:Calls Tryz.prog 61 #[g] W (λe w'=> ∃A cap,e = .returned (.slice A N cap)∧On Nob W (aa [gz (.slice A N cap) (x0::rest)]) w'):=hwk.mono λe w' ⟨v,he,hon⟩=>by
  obtain⟨F1,hR⟩:=hon.at_ 0 rfl
  rcases fK hR with⟨_,h⟩ | ⟨g1,cap,rfl,_⟩
  ·cases h
  ·rw[hN];exact⟨_,_,he,hon⟩
 refine callsIn_of_wp Tryz.func60 rfl trivial ?_ rfl
 simp only[Tryz.ntmps60,List.size_toArray,List.length_cons,List.length_nil,Nat.reduceAdd,Nat.reduceSub,Array.replicate_succ,Array.replicate_zero,List.push_toArray,List.append_toArray,List.nil_append,List.cons_append]
 replace hwk2:=Lib.hid hwk2
 replace hY:=Lib.hid hY
 replace hW:=Lib.hid hW
 clear hwk hws
 gi_wp2_with (refine⟨trivial,?_⟩;gi_at_call 61;refine(callsIn_wide.2 hwk2.out).mono ?_;rintro e w' ⟨A,cap,rfl,hon⟩)
 have hbw:Below W.heap.size W w':=hon.cg
 obtain⟨F1,hR⟩:=hon.at_ 0 rfl
 rcases fK hR with⟨_,h⟩ | ⟨g1,cap1,hv,hcs⟩
 ·cases h
 injection hv with hA _ hcap
 subst hA hcap
 have hc0:=hcs 0 (by simp) 0 oM
 have hc1:=hcs 0 (by simp) 1 oM
 have hc2:=hcs 0 (by simp) 2 oM
 have hc3:=hcs 0 (by simp) 3 oM
 have hc4:=hcs 0 (by simp) 4 oM
 have hc5:=hcs 0 (by simp) 5 oM
 obtain⟨fn,tmps,assign,body,hy,hRd⟩:=hY.out (w'.alloc (.cells x0.c 50)) (hbw.trans ((Below.refl _ _).alloc hbw.size _))
 obtain⟨nm,hd,xt,im,hh,il⟩:=x0
 have e0: (⟨nm,hd,xt,im,hh,il⟩ :Wd).c = #[.string ⟨nm.toArray⟩,.int .i64 (hd:Int),.int .i64 (xt:Int),.bool im,.bool hh,.bool il]:=rfl
 have e1: ((⟨nm,hd,xt,im,hh,il⟩ ::rest:List Wd)).getD 0 ⟨[],0,0,false,false,false⟩ = ⟨nm,hd,xt,im,hh,il⟩:=rfl
 rw[e1]at hc0 hc1 hc2 hc3 hc4 hc5
 rw[e0]at hc0 hc1 hc2 hc3 hc4 hc5 hy hRd
 simp only[List.getElem?_toArray,List.getElem?_cons_zero,List.getElem?_cons_succ,Nat.add_zero]at hc0 hc1 hc2 hc3 hc4 hc5
 replace hRd:=Lib.hid hRd
 replace hon:=Lib.hid hon
 replace hR:=Lib.hid hR
 replace hcs:=Lib.hid hcs
 replace hbw:=Lib.hid hbw
 clear e0 e1 hY
 have hlen:decide ((0:Int) < (N:Int)) =true:=decide_eq_true oM
 replace hN:=Lib.hid hN
 refine wpIn_loop_once ?_
 gi_wp2
 refine hRd.out.mono ?_
 rintro e W3 (⟨rfl,h3⟩ | ⟨ch,rfl,h3⟩)
 ·replace h3:=Lib.hid h3
  gi_wp2
  refine bodyPost_ret (results_none rfl _ _ _) rfl ?_
  exact .inl ⟨_,rfl,h3.out⟩
 ·exact⟨rfl,.inr ⟨ch,rfl,h3⟩⟩
theorem all_none(n:Nat)(hn:1<=n)(Bd:Nat)(w:World)(hs:Blk w g 136 (cu gI fr en (D.h:Int) (D.l:Int)))(hi:bU w gI gb S)(h8:At8 S D fr en)(hBd:Bd<w.heap.size)(hc:w.cell? (Bd,0) =some (g:Vl))(hws:words S D = [])(l:Nat)(W:World)(hW:Below w.heap.size w W) :
 CallsIn Fence.wide n Tryz.prog 60 (#[.func (.yield l) #[] #[]] ++ #[.pointer Bd]) W (λe W'=>(∃v,e = .returned v)∧Below W.heap.size W W'):=by
 have hwk:=As (hs.below hW hs.lt) ⟨hi.blk.below hW hi.blk.lt,hi.row.below hW hi.row.lt,hi.ok⟩ h8
 rw[hws]at hwk
 have hBd1:=(hW.cell (p:=⟨Bd,0,none⟩) hBd).trans hc
 have hwk2:Calls Tryz.prog 61 #[g] W (λe w'=> ∃A cap,e = .returned (.slice A 0 cap)∧Below W.heap.size W w'):=hwk.mono λe w' ⟨v,he,hon⟩=>by
  obtain⟨F1,hR⟩:=hon.at_ 0 rfl
  rcases fK hR with⟨rfl,_⟩ | ⟨g1,cap,rfl,_⟩
  ·exact⟨none,0,he,hon.cg⟩
  ·exact⟨_,_,he,hon.cg⟩
 refine callsIn_of_wp Tryz.func60 rfl trivial ?_ rfl
 simp only[Tryz.ntmps60,List.size_toArray,List.length_cons,List.length_nil,Nat.reduceAdd,Nat.reduceSub,Array.replicate_succ,Array.replicate_zero,List.push_toArray,List.append_toArray,List.nil_append,List.cons_append]
 replace hwk2:=Lib.hid hwk2
 replace hW:=Lib.hid hW
 clear hwk hws
 gi_wp2_with (refine⟨trivial,?_⟩;gi_at_call 61;refine(callsIn_wide.2 hwk2.out).mono ?_;rintro e w' ⟨A,cap,rfl,hon⟩)
 replace hon:=Lib.hid hon
 refine wpIn_loop_once ?_
 gi_wp2
 go_end0
 exact⟨⟨_,rfl⟩,hon.out⟩
def bd(x:Rn)(s:Mt) :Rs:=
 match words s.S (dS s)with
 | []=>⟨16,x,s⟩
 | wd::_=>
   if s.S.az x.mode wd.xt false≠0 then⟨s.S.az x.mode wd.xt false,x,s⟩
   else if(Code.unpack (s.S.aR x.mode wd.xt)).1≠17 then⟨16,x,s⟩
   else⟨0,x,{ s with S:=s.S.setCell x.mode wd.xt (if Code.right 17 x.next=true then 256*x.next+17 else 0) }⟩
end
section
variable {w w':World}{F:Nat->Prop}{c:Vc}{g:Nat}{x:Rn}{src:Value}{s:Mt}
theorem rX(w:World)(g d:Nat) :Below w.heap.size w ((w.alloc (.cells #[g] 103)).alloc (.cells #[d] 34))∧Blk ((w.alloc (.cells #[g] 103)).alloc (.cells #[d] 34)) w.heap.size 103 #[g]∧Blk ((w.alloc (.cells #[g] 103)).alloc (.cells #[d] 34)) (w.heap.size+1) 34 #[d]∧((w.alloc (.cells #[g] 103)).alloc (.cells #[d] 34)).heap.size=w.heap.size+2:=by
 refine⟨((Below.refl _ w).alloc (Nat.le_refl _) _).alloc (by simp) _,(Blk.new w 103 _).alloc _,?_,by simp⟩
 have h:=Blk.new (w.alloc (.cells #[g] 103)) 34 #[d]
 rw[World.size_alloc]at h
 exact h
theorem GR(hb: (VA c g x src s).holds w F)(hp:Dcs c src s)(hws:words s.S (dS s) = []) :
 Calls Tryz.prog 128 #[g] w (Got (.panicked [flt 16]) (VA c g x src s) F w):=by
 have hon:=(On.refl hb)
 have h7:Blk w c.gS 136 (cu c.gI c.sfr c.sto ((dS s).h:Int) ((dS s).l:Int)):=hon.ab 6 (congrArg some hp.dc)
 obtain⟨gb,hi⟩:=hon.im
 have h8:=hp.at8
 have r0:=hon.r0
 have m1:=hon.m1
 have hlt:=hon.rlt
 have hml:=hon.mlt
 refine(callsIn_wide (n:=3)).1 ?_
 refine callsIn_of_wp_marks Tryz.func128 rfl trivial ?_ rfl
 simp only[Tryz.ntmps128,List.size_toArray,List.length_cons,List.length_nil,Nat.reduceAdd,Nat.reduceSub,Array.replicate_succ,Array.replicate_zero,List.push_toArray,List.append_toArray,List.nil_append,List.cons_append]
 obtain⟨hbl,hB0,hB1,hsz⟩:=rX w g c.gS
 replace hon:=Lib.hid hon
 replace h7:=Lib.hid h7
 replace hi:=Lib.hid hi
 replace h8:=Lib.hid h8
 replace hws:=Lib.hid hws
 replace hbl:=Lib.hid hbl
 replace hB0:=Lib.hid hB0
 replace hB1:=Lib.hid hB1
 replace hsz:=Lib.hid hsz
 gi_wp2_with (refine⟨trivial,?_⟩;gi_at_call 37;refine(callsIn_wide.2 (BR _)).mono ?_;rintro e w' ⟨rfl,rfl⟩)
 generalize (w.alloc (.cells #[g] 103)).alloc (.cells #[c.gS] 34) =W0 at *
 refine Rng.zc oM rfl (enters_of Tryz.func60 kR rfl) ?seq ?fin
 case seq=>
  intro l W hW
  exact all_none 2 oM (w.heap.size+1) W0 (h7.out.below hbl.out h7.out.lt) ⟨hi.out.blk.below hbl.out hi.out.blk.lt,hi.out.row.below hbl.out hi.out.row.lt,hi.out.ok⟩ h8.out (by rw[hsz.out];omega) (hB1.out.cell 0) hws.out l W hW
 case fin=>
  intro W4 hb4 hk4
  gi_wp2
  have hfin:Below w.heap.size w (W4.putObj W0.heap.size (.deferred none)):=Rng.sU (hbl.out.trans (hb4.mono hbl.out.size)) _ (by rw[hsz.out];omega) _
  exact⟨by simp,.inl ⟨_,_,rfl,run_takeDeferred hk4,⟨rfl,hon.out.below hfin⟩⟩⟩
theorem td(hb: (VA c g x src s).holds w F)(hp:Dcs c src s)(x0:Wd)(rest:List Wd)(hws:words s.S (dS s) =x0::rest)(f v k:Int)(hf:s.S.az x.mode x0.xt false=f)(hv:s.S.aR x.mode x0.xt=v)(hk: (f≠0∧f=k)∨(f=0∧((Code.unpack v).1==17) =false∧k=16)) :
 Calls Tryz.prog 128 #[g] w (Got (.panicked [flt k]) (VA c g x src s) F w):=by
 have hon:=(On.refl hb)
 have h7:Blk w c.gS 136 (cu c.gI c.sfr c.sto ((dS s).h:Int) ((dS s).l:Int)):=hon.ab 6 (congrArg some hp.dc)
 obtain⟨gb,hi⟩:=hon.im
 have h8:=hp.at8
 have r0:=hon.r0
 have m1:=hon.m1
 have hlt:=hon.rlt
 have hml:=hon.mlt
 refine(callsIn_wide (n:=3)).1 ?_
 refine callsIn_of_wp_marks Tryz.func128 rfl trivial ?_ rfl
 simp only[Tryz.ntmps128,List.size_toArray,List.length_cons,List.length_nil,Nat.reduceAdd,Nat.reduceSub,Array.replicate_succ,Array.replicate_zero,List.push_toArray,List.append_toArray,List.nil_append,List.cons_append]
 obtain⟨hbl,hB0,hB1,hsz⟩:=rX w g c.gS
 replace hon:=Lib.hid hon
 replace h7:=Lib.hid h7
 replace hi:=Lib.hid hi
 replace h8:=Lib.hid h8
 replace hws:=Lib.hid hws
 replace hbl:=Lib.hid hbl
 replace hB0:=Lib.hid hB0
 replace hB1:=Lib.hid hB1
 replace hsz:=Lib.hid hsz
 gi_wp2_with (refine⟨trivial,?_⟩;gi_at_call 37;refine(callsIn_wide.2 (BR _)).mono ?_;rintro e w' ⟨rfl,rfl⟩)
 generalize (w.alloc (.cells #[g] 103)).alloc (.cells #[c.gS] 34) =W0 at *
 refine Rng.Bj oM rfl (enters_of Tryz.func60 kR rfl) (x0:= #[.agg x0.c]) rfl (tA 2 oM (w.heap.size+1) W0 x0 rest (h7.out.below hbl.out h7.out.lt) ⟨hi.out.blk.below hbl.out hi.out.blk.lt,hi.out.row.below hbl.out hi.out.row.lt,hi.out.ok⟩ h8.out (by rw[hsz.out];omega) (hB1.out.cell 0) hws.out)
  (λch W3=>ch = [flt k]∧Below W0.heap.size W0 W3∧W3.heap[W0.heap.size]? = some (.deferred (some []))) ?round ?fin
 case round=>
  intro W hW hWs
  obtain⟨nm,hd,xt,im,hh,il⟩:=x0
  simp only[Wd.c]
  gi_wp2
  have hal:Below W.heap.size W (W.alloc (.cells #[.string ⟨nm.toArray⟩,(hd:Int),(xt:Int),.bool im,.bool hh,.bool il] 50)):=(Below.refl _ W).alloc (Nat.le_refl _) _
  have hBx:=Blk.new W 50 #[.string ⟨nm.toArray⟩,(hd:Int),(xt:Int),.bool im,.bool hh,.bool il]
  refine⟨hal,?_⟩
  intro W2 hbg
  have hW0W:W0.heap.size<=W.heap.size:=hW.size
  have hne:W.heap.size≠W0.heap.size+1:=by omega
  have hbx:Blk W2 W.heap.size 50 #[.string ⟨nm.toArray⟩,(hd:Int),(xt:Int),.bool im,.bool hh,.bool il]:=(hbg.other _ hne).trans hBx
  have hbw:Below W0.heap.size W0 W2:=hbg.below
  have hbw2:Below w.heap.size w W2:=hbl.out.trans (hbw.mono hbl.out.size)
  have hon2:On F w (VA c g x src s) W2:=hon.out.below hbw2
  have hq0:W2.cell? (w.heap.size,0) =some (g:Vl):=(hbw.cell (p:=⟨w.heap.size,0,none⟩) (by show w.heap.size<W0.heap.size;rw[hsz.out];omega)).trans (hB0.out.cell 0)
  have hq1:=hon2.r0
  have hq2:=hon2.m0
  have hq3:=hon2.r1
  have hq4:W2.cell? (W.heap.size,2) =some ((xt:Int) :Vl):=hbx.cell 2
  obtain⟨gb2,hi2⟩:=hon2.drew.im
  have hce:=jE hi2 x.mode xt
  rw[hf,hv]at hce
  clear hf hv
  have hun:=λw=>dt v w
  generalize (Code.unpack v).1=op at *
  generalize (Code.unpack v).2.1=ar1 at *
  generalize (Code.unpack v).2.2=ok1 at *
  replace hun:=Lib.hid hun
  replace hk:=Lib.hid hk
  refine Rng.Ah (Rng.kB (Rng.ou ?_))
  refine Rng.ix (S:=λw'=>w'.cell? (w.heap.size,0) =some (g:Vl)∧w'.cell? (g,0) =some (c.gM:Vl)∧w'.cell? (c.gM,0) =some (c.gI:Vl)∧w'.cell? (g,1) =some (x.mode:Vl)∧w'.cell? (W.heap.size,2) =some ((xt:Int) :Vl)) _ kR (by rintro⟨a,w,h,_⟩;cases h) (Rng.lU kR) ?_
  have hS: (λw':World=>w'.cell? (w.heap.size,0) =some (g:Vl)∧w'.cell? (g,0) =some (c.gM:Vl)∧w'.cell? (c.gM,0) =some (c.gI:Vl)∧w'.cell? (g,1) =some (x.mode:Vl)∧w'.cell? (W.heap.size,2) =some ((xt:Int) :Vl)) W2.drew:=⟨hq0,hq1,hq2,hq3,hq4⟩
  replace hce:=Lib.hid hce
  refine tkL 0 ?_
  refine pt ?_
  refine tkL 1 ?_
  refine pt ?_
  refine tkL 2 ?_
  refine pt ?_
  refine tkL 3 ?_
  refine pt ?_
  refine tkL 4 ?_
  refine pt ?_
  refine tkL 5 ?_
  refine pt ?_
  refine tkL 6 ?_
  refine pt ?_
  refine tkL 7 ?_
  refine pt ?_
  refine tkL 8 ?_
  refine pt ?_
  refine tkL 9 ?_
  refine pt ?_
  refine tkL 10 ?_
  refine pt ?_
  refine tkL 11 ?_
  refine pt ?_
  refine tkL 12 ?_
  refine pt ?_
  refine wpAnyH_ready (rs:=[13]) kR (by simp) ?_
  refine AllReadyH.cons rfl (λK hK=> ?step) ?more
  case more=>exact AllReadyH.nil
  go_simp
  go_wp2_with (go_at_call 68;refine hce.out.mono ?_;rintro e w5 ⟨rfl,h5⟩)
  replace h5:Below W2.heap.size W2 w5:=((Below.refl W2.heap.size W2).drew).trans h5
  have hs5:W2.heap.size<=w5.heap.size:=h5.size
  have hb5:Below W0.heap.size W0 w5:=hbw.trans (h5.mono hbw.size)
  have hon5:On F w (VA c g x src s) w5:=hon2.below h5
  have hbx5:Blk w5 W.heap.size 50 #[.string ⟨nm.toArray⟩,(hd:Int),(xt:Int),.bool im,.bool hh,.bool il]:=hbx.below h5 hbx.lt
  have hk5:w5.heap[W0.heap.size]? = some (.deferred (some [])):=(h5.block W0.heap.size (Array.getElem?_eq_some_iff.1 hbg.mark).1).trans hbg.mark
  have p0:w5.cell? (w.heap.size,0) =some (g:Vl):=(hb5.cell (p:=⟨w.heap.size,0,none⟩) (by show w.heap.size<W0.heap.size;rw[hsz.out];omega)).trans (hB0.out.cell 0)
  have p1:=hon5.r0
  have p2:=hon5.m0
  have p3:=hon5.r1
  have p5:=hon5.r4
  have p4:w5.cell? (W.heap.size,2) =some ((xt:Int) :Vl):=hbx5.cell 2
  refine hK.out _ _ ?hS9 (λhHeld=> ?rs99)
  case hS9=>exact⟨p0,p1,p2,p3,p4⟩
  clear hK K
  refine tkL 14 ?_
  refine pt ?_
  refine tkL 15 ?_
  refine pt ?_
  refine tkL 16 ?_
  refine pt ?_
  refine tkL 17 ?_
  refine pt ?_
  refine tkL 18 ?_
  refine pt ?_
  refine wpAnyH_done kR ?_ _
  refine⟨rfl,?_⟩
  rcases hk.out with⟨hf0,rfl⟩ | ⟨rfl,hop,rfl⟩
  ·refine Rng.kB (Rng.o7 ?_)
   rw[show List.range _ = [0,1]from rfl]
   refine Rng.vz (v:= .int .i64 f) (w':=w5) rfl kR (λ_ _=>trivial) (by go_simp) ?_
   refine Rng.tj (f:=64) (args:= #[.int .i64 f]) (w':=w5) rfl kR (λ_ _=>trivial) (by go_simp) rfl (λh=>by cases h) ?_
   refine CallsIn.inRound _ (callsIn_wide.2 ((cG f hf0 w5).mono ?_))
   rintro e w6 ⟨rfl,rfl⟩
   exact⟨_,rfl,rfl,hb5,hk5⟩
  ·refine Rng.kB (Rng.ou ?_)
   gi_wp2_with (refine⟨trivial,?_⟩;gi_at_call 64;refine CallsIn.inRound _ (callsIn_wide.2 ((bD _).mono ?_));rintro e w6 ⟨rfl,rfl⟩)
   refine Rng.kB (Rng.ou ?_)
   gi_wp2_with (refine⟨trivial,?_⟩;gi_at_call 86;refine CallsIn.inRound _ (callsIn_wide.2 ((hun.out _).mono ?_));rintro e w6 ⟨rfl,rfl⟩)
   refine Rng.kB (Rng.o7 ?_)
   rw[show List.range _ = [0,1,2]from rfl]
   refine Rng.vz (v:= .int .i64 op) (w':=w6) rfl kR (λ_ _=>trivial) (by go_simp) ?_
   refine Rng.vz (v:= .bool false) (w':=w6) rfl kR (λ_ _=>trivial) (by go_simp) ?_
   refine Rng.tj (f:=89) (args:= #[.bool false,.int .i64 16]) (w':=w6) rfl kR (λ_ _=>trivial) (by go_simp) rfl (λh=>by cases h) ?_
   refine CallsIn.inRound _ (callsIn_wide.2 ((bV 16 _).mono ?_))
   rintro e w6 ⟨rfl,rfl⟩
   exact⟨_,rfl,rfl,hb5,hk5⟩
 case fin=>
  rintro ch W3 ⟨rfl,hb3,hk3⟩
  have hfin:Below w.heap.size w (W3.putObj W0.heap.size (.deferred none)):=Rng.sU (hbl.out.trans (hb3.mono hbl.out.size)) _ (by rw[hsz.out];omega) _
  exact⟨by simp,.inl ⟨_,_,rfl,run_takeDeferred hk3,⟨rfl,hon.out.below hfin⟩⟩⟩
theorem wG(hb: (VA c g x src s).holds w F)(hp:Dcs c src s)(x0:Wd)(rest:List Wd)(hws:words s.S (dS s) =x0::rest)(hf:s.S.az x.mode x0.xt false=0)(hf2:s.S.az x.mode x0.xt true=0)(v:Int)(hv:s.S.aR x.mode x0.xt=v)(hop: ((Code.unpack v).1==17) =true)(pv:Int)(pk:Bool)(hpk : ∀w,Calls Tryz.prog 174 #[(17:Int),x.next] w (aA (.tuple #[pv,.bool pk]) w))(hpv:V64 pv)(s2:Mt)(hs2:s2 = { s with S:=s.S.setCell x.mode x0.xt pv }) :
 Calls Tryz.prog 128 #[g] w (Got (.returned (.tuple #[])) (VA c g x src s2) F w):=by
 have hFlt : ∀k,F k->k<w.heap.size:=λk hk=>(VA c g x src s).lt hb hk
 have hbk : ∀Wb,Below w.heap.size w Wb->(VA c g x src s).holds Wb F:=λWb h=>(VA c g x src s).kept hb (Kept.fU h) (λ_ _ h=>h)
 have hset : ∀Wb,Below w.heap.size w Wb->Calls Tryz.prog 55 #[c.gI,x.mode,(x0.xt:Int),pv] Wb.drew (Got (.returned (.int .i64 0)) (VA c g x src s2) F Wb):=λWb h=>by
  have h1:=(On.refl (hbk Wb h)).drew.bA 2 rfl (λF' ha=>fL ha x.mode x0.xt pv hpv)
  rw[hf2]at h1
  rw[hs2]
  exact h1
 have hkeep7 : ∀(Wb w7:World),On F Wb (VA c g x src s2) w7->∀{t:TypeId} {cs:Array Value} (k:Nat),¬k<w.heap.size->Blk Wb k t cs->Blk w7 k t cs:=λWb w7 h t cs k hk hB=>by
  obtain⟨F2,_,hkp,_⟩:=h
  exact hB.kept hkp (λh=>hk (hFlt k h))
 clear hs2
 have hon:=(On.refl hb)
 have h7:Blk w c.gS 136 (cu c.gI c.sfr c.sto ((dS s).h:Int) ((dS s).l:Int)):=hon.ab 6 (congrArg some hp.dc)
 obtain⟨gb,hi⟩:=hon.im
 have h8:=hp.at8
 have r0:=hon.r0
 have m1:=hon.m1
 have hlt:=hon.rlt
 have hml:=hon.mlt
 refine(callsIn_wide (n:=3)).1 ?_
 refine callsIn_of_wp_marks Tryz.func128 rfl trivial ?_ rfl
 simp only[Tryz.ntmps128,List.size_toArray,List.length_cons,List.length_nil,Nat.reduceAdd,Nat.reduceSub,Array.replicate_succ,Array.replicate_zero,List.push_toArray,List.append_toArray,List.nil_append,List.cons_append]
 obtain⟨hbl,hB0,hB1,hsz⟩:=rX w g c.gS
 replace hon:=Lib.hid hon
 replace h7:=Lib.hid h7
 replace hi:=Lib.hid hi
 replace h8:=Lib.hid h8
 replace hws:=Lib.hid hws
 replace hbl:=Lib.hid hbl
 replace hB0:=Lib.hid hB0
 replace hB1:=Lib.hid hB1
 replace hsz:=Lib.hid hsz
 gi_wp2_with (refine⟨trivial,?_⟩;gi_at_call 37;refine(callsIn_wide.2 (BR _)).mono ?_;rintro e w' ⟨rfl,rfl⟩)
 generalize (w.alloc (.cells #[g] 103)).alloc (.cells #[c.gS] 34) =W0 at *
 refine Rng.D9 oM rfl (enters_of Tryz.func60 kR rfl) (x0:= #[.agg x0.c]) rfl (tA 2 oM (w.heap.size+1) W0 x0 rest (h7.out.below hbl.out h7.out.lt) ⟨hi.out.blk.below hbl.out hi.out.blk.lt,hi.out.row.below hbl.out hi.out.row.lt,hi.out.ok⟩ h8.out (by rw[hsz.out];omega) (hB1.out.cell 0) hws.out)
  (λW3=> ∃(Wb:World) (F2:Nat->Prop),Below w.heap.size w Wb∧W0.heap.size+2<=Wb.heap.size∧(VA c g x src s2).holds W3 F2∧Kept F Wb W3∧(∀k,F2 k->F k∨Wb.heap.size<=k)) ?round ?fin
 case round=>
  intro W hW hWs
  obtain⟨nm,hd,xt,im,hh,il⟩:=x0
  simp only[Wd.c]
  gi_wp2
  have hal:Below W.heap.size W (W.alloc (.cells #[.string ⟨nm.toArray⟩,(hd:Int),(xt:Int),.bool im,.bool hh,.bool il] 50)):=(Below.refl _ W).alloc (Nat.le_refl _) _
  have hBx:=Blk.new W 50 #[.string ⟨nm.toArray⟩,(hd:Int),(xt:Int),.bool im,.bool hh,.bool il]
  refine⟨hal,?_⟩
  intro W2 hbg
  have hW0W:W0.heap.size<=W.heap.size:=hW.size
  have hne:W.heap.size≠W0.heap.size+1:=by omega
  have hbx:Blk W2 W.heap.size 50 #[.string ⟨nm.toArray⟩,(hd:Int),(xt:Int),.bool im,.bool hh,.bool il]:=(hbg.other _ hne).trans hBx
  have hbw:Below W0.heap.size W0 W2:=hbg.below
  have hbw2:Below w.heap.size w W2:=hbl.out.trans (hbw.mono hbl.out.size)
  have hon2:On F w (VA c g x src s) W2:=hon.out.below hbw2
  have hq0:W2.cell? (w.heap.size,0) =some (g:Vl):=(hbw.cell (p:=⟨w.heap.size,0,none⟩) (by show w.heap.size<W0.heap.size;rw[hsz.out];omega)).trans (hB0.out.cell 0)
  have hq1:=hon2.r0
  have hq2:=hon2.m0
  have hq3:=hon2.r1
  have hq4:W2.cell? (W.heap.size,2) =some ((xt:Int) :Vl):=hbx.cell 2
  obtain⟨gb2,hi2⟩:=hon2.drew.im
  have hce:=jE hi2 x.mode xt
  rw[hf,hv]at hce
  have hun:=λw=>dt v w
  generalize (Code.unpack v).1=op at *
  generalize (Code.unpack v).2.1=ar1 at *
  generalize (Code.unpack v).2.2=ok1 at *
  replace hun:=Lib.hid hun
  replace hset:=Lib.hid hset
  replace hkeep7:=Lib.hid hkeep7
  replace hpk:=Lib.hid hpk
  replace hbk:=Lib.hid hbk
  replace hce:=Lib.hid hce
  replace hbg:=Lib.hid hbg
  replace hon:=Lib.hid hon
  refine wpIn_block ?_
  refine Rng.K5 ?_
  refine Rng.ix (S:=λw'=>w'.cell? (w.heap.size,0) =some (g:Vl)∧w'.cell? (g,0) =some (c.gM:Vl)∧w'.cell? (c.gM,0) =some (c.gI:Vl)∧w'.cell? (g,1) =some (x.mode:Vl)∧w'.cell? (W.heap.size,2) =some ((xt:Int) :Vl)) _ kR (by rintro⟨a,w,h,_⟩;cases h) (Rng.lU kR) ?_
  have hS: (λw':World=>w'.cell? (w.heap.size,0) =some (g:Vl)∧w'.cell? (g,0) =some (c.gM:Vl)∧w'.cell? (c.gM,0) =some (c.gI:Vl)∧w'.cell? (g,1) =some (x.mode:Vl)∧w'.cell? (W.heap.size,2) =some ((xt:Int) :Vl)) W2.drew:=⟨hq0,hq1,hq2,hq3,hq4⟩
  refine tkL 0 ?_
  refine pt ?_
  refine tkL 1 ?_
  refine pt ?_
  refine tkL 2 ?_
  refine pt ?_
  refine tkL 3 ?_
  refine pt ?_
  refine tkL 4 ?_
  refine pt ?_
  refine tkL 5 ?_
  refine pt ?_
  refine tkL 6 ?_
  refine pt ?_
  refine tkL 7 ?_
  refine pt ?_
  refine tkL 8 ?_
  refine pt ?_
  refine tkL 9 ?_
  refine pt ?_
  refine tkL 10 ?_
  refine pt ?_
  refine tkL 11 ?_
  refine pt ?_
  refine tkL 12 ?_
  refine pt ?_
  refine wpAnyH_ready (rs:=[13]) kR (by simp) ?_
  refine AllReadyH.cons rfl (λK hK=> ?step) ?more
  case more=>exact AllReadyH.nil
  go_simp
  go_wp2_with (go_at_call 68;refine hce.out.mono ?_;rintro e w5 ⟨rfl,h5⟩)
  replace h5:Below W2.heap.size W2 w5:=((Below.refl W2.heap.size W2).drew).trans h5
  have hs5:W2.heap.size<=w5.heap.size:=h5.size
  have hb5:Below W0.heap.size W0 w5:=hbw.trans (h5.mono hbw.size)
  have hon5:On F w (VA c g x src s) w5:=hon2.below h5
  have hbx5:Blk w5 W.heap.size 50 #[.string ⟨nm.toArray⟩,(hd:Int),(xt:Int),.bool im,.bool hh,.bool il]:=hbx.below h5 hbx.lt
  have hk5:w5.heap[W0.heap.size]? = some (.deferred (some [])):=(h5.block W0.heap.size (Array.getElem?_eq_some_iff.1 hbg.out.mark).1).trans hbg.out.mark
  have p0:w5.cell? (w.heap.size,0) =some (g:Vl):=(hb5.cell (p:=⟨w.heap.size,0,none⟩) (by show w.heap.size<W0.heap.size;rw[hsz.out];omega)).trans (hB0.out.cell 0)
  have p1:=hon5.r0
  have p2:=hon5.m0
  have p3:=hon5.r1
  have p5:=hon5.r4
  have p4:w5.cell? (W.heap.size,2) =some ((xt:Int) :Vl):=hbx5.cell 2
  refine hK.out _ _ ?hS9 (λhHeld=> ?rs99)
  case hS9=>exact⟨p0,p1,p2,p3,p4⟩
  clear hK K
  refine tkL 14 ?_
  refine pt ?_
  refine tkL 15 ?_
  refine pt ?_
  refine tkL 16 ?_
  refine pt ?_
  refine tkL 17 ?_
  refine pt ?_
  refine tkL 18 ?_
  refine pt ?_
  refine wpAnyH_done kR ?_ _
  refine⟨rfl,?_⟩
  refine Rng.J1 ?_
  gi_wp2_with (refine⟨trivial,?_⟩;gi_at_call 64;refine CallsIn.inRound _ (callsIn_wide.2 ((bD _).mono ?_));rintro e w6 ⟨rfl,rfl⟩)
  refine Lib.hid (Rng.J1 ?_)
  gi_wp2_with (refine⟨trivial,?_⟩;gi_at_call 86;refine CallsIn.inRound _ (callsIn_wide.2 ((hun.out _).mono ?_));rintro e w6 ⟨rfl,rfl⟩)
  refine Lib.hid (Rng.J1 ?_)
  gi_wp2_with (refine⟨trivial,?_⟩;gi_at_call 89;refine CallsIn.inRound _ (callsIn_wide.2 ((bF _ _).mono ?_));rintro e w6 ⟨rfl,rfl⟩)
  refine Lib.hid (Rng.J1 ?_)
  gi_wp2_with (refine⟨trivial,?_⟩;gi_at_call 174;refine CallsIn.inRound _ (callsIn_wide.2 ((hpk.out _).mono ?_));rintro e w6 ⟨rfl,rfl⟩)
  refine Lib.hid (Rng.K5 ?_)
  have hbw5:Below w.heap.size w w6:=hbl.out.trans (hb5.mono hbl.out.size)
  have hsc:=hset.out w6 hbw5
  have hbg2:=hbg.out.mark
  have hl2:W0.heap.size+1<W2.heap.size:=by have:=hbg.out.size;have h2:=hal.size;rw[World.size_alloc]at this;omega
  have hB05:Blk w6 w.heap.size 103 #[g]:=hB0.out.below hb5 (by rw[hsz.out];omega)
  refine Rng.ix (S:=(λw':World=>w'.cell? (w.heap.size,0) =some (g:Vl)∧w'.cell? (g,0) =some (c.gM:Vl)∧w'.cell? (c.gM,0) =some (c.gI:Vl)∧w'.cell? (g,1) =some (x.mode:Vl)∧w'.cell? (W.heap.size,2) =some ((xt:Int) :Vl))) _ kR (by rintro⟨a,w,h,_⟩;cases h) (Rng.lU kR) ?_
  have hSb: (λw':World=>w'.cell? (w.heap.size,0) =some (g:Vl)∧w'.cell? (g,0) =some (c.gM:Vl)∧w'.cell? (c.gM,0) =some (c.gI:Vl)∧w'.cell? (g,1) =some (x.mode:Vl)∧w'.cell? (W.heap.size,2) =some ((xt:Int) :Vl)) w6.drew:=⟨p0,p1,p2,p3,p4⟩
  replace hsc:=Lib.hid hsc
  refine tkL 0 ?_
  refine pt ?_
  refine tkL 1 ?_
  refine pt ?_
  refine tkL 2 ?_
  refine pt ?_
  refine tkL 3 ?_
  refine pt ?_
  refine tkL 4 ?_
  refine pt ?_
  refine tkL 5 ?_
  refine pt ?_
  refine tkL 6 ?_
  refine pt ?_
  refine tkL 7 ?_
  refine pt ?_
  refine tkL 8 ?_
  refine pt ?_
  refine tkL 9 ?_
  refine pt ?_
  refine tkL 10 ?_
  refine pt ?_
  refine tkL 11 ?_
  refine pt ?_
  refine tkL 12 ?_
  refine pt ?_
  refine tkL 13 ?_
  refine pt ?_
  refine wpAnyH_ready (rs:=[14]) kR (by simp) ?_
  refine AllReadyH.cons rfl (λK hK=> ?step2) ?more2
  case more2=>exact AllReadyH.nil
  go_simp
  go_wp2_with (go_at_call 55;refine hsc.out.mono ?_;rintro e w7 ⟨rfl,h7w⟩)
  have hs7:=h7w.size
  have hB7:Blk w7 w.heap.size 103 #[g]:=hkeep7.out _ _ h7w _ (by have:=hsz.out;omega) hB05
  have hX7:Blk w7 W.heap.size 50 #[.string ⟨nm.toArray⟩,(hd:Int),(xt:Int),.bool im,.bool hh,.bool il]:=hkeep7.out _ _ h7w _ (by have:=hsz.out;omega) hbx5
  have p70:=hB7.cell 0
  have p71:=h7w.r0
  have p72:=h7w.m0
  have p73:=h7w.r1
  have p74:w7.cell? (W.heap.size,2) =some ((xt:Int) :Vl):=hX7.cell 2
  refine hK.out _ _ ?hS92 (λhHeld=> ?rs992)
  case hS92=>exact⟨p70,p71,p72,p73,p74⟩
  clear hK K
  refine wpAnyH_ready (rs:=[15]) kR (by simp) ?_
  refine AllReadyH.cons rfl (λK hK=> ?step3) ?more3
  case more3=>exact AllReadyH.nil
  go_simp
  go_wp2_with (go_at_call 64;refine(bD _).mono ?_;rintro e w8 ⟨rfl,rfl⟩)
  refine hK.out _ _ ⟨p70,p71,p72,p73,p74⟩ (λhHeld=> ?_)
  clear hK K
  refine wpAnyH_done kR ?_ _
  refine⟨rfl,?_⟩
  gi_wp2
  obtain⟨F2,hV,⟨k1,k2,k3,k4,k5⟩,hF2⟩:=h7w
  have hs0:=hsz.out
  have hs1:=h5.size
  have hx0:=h5.block W0.heap.size oM
  have hx1:=h5.block (W0.heap.size+1) hl2
  exact⟨trivial,⟨_,hbw5,by omega,F2,hV,⟨k1,k2,k3,k4,k5⟩,hF2⟩,(k5 _ oM (λh=>by have:=hFlt _ h;omega)).trans hx0,(k5 _ oM (λh=>by have:=hFlt _ h;omega)).trans hx1⟩
 case fin=>
  rintro W3 W4 ⟨Wb,F2,hbb,hsb,hV,⟨k1,k2,k3,k4,k5⟩,hF2⟩ hoth hs4 h1 h2 h3 hmark
  have hs0:=hsz.out
  have hsw:=hbb.size
  gi_wp2
  have hfin:On F w (VA c g x src s2) (W4.putObj W0.heap.size (.deferred none)):=by
   refine⟨F2,(VA c g x src s2).kept hV (T:=λk=>k=W0.heap.size∨k=W0.heap.size+1) ⟨h1,h2,h3,by rw[World.putObj_size];omega,λk hk hn=> ?_⟩ ?_,⟨h1.trans (k1.trans hbb.os),h2.trans (k2.trans hbb.tape),h3.trans (k3.trans hbb.output),by rw[World.putObj_size];omega,λk hk hn=> ?_⟩,λk hk=>(hF2 k hk).imp id λh=>by omega⟩
   ·exact(World.putObj_heap_other (λe=>hn (.inl e))).trans (hoth k (λe=>hn (.inr e)))
   ·rintro k hk (rfl|rfl)
    ·rcases hF2 _ hk with h|h
     ·have:=hFlt _ h;omega
     ·omega
    ·rcases hF2 _ hk with h|h
     ·have:=hFlt _ h;omega
     ·omega
   ·exact(World.putObj_heap_other oM).trans ((hoth k oM).trans ((k5 k oM hn).trans (hbb.block k hk)))
  refine⟨by simp,.inl ⟨_,_,rfl,run_takeDeferred hmark,?_⟩⟩
  exact⟨.tuple #[],by simp[results,Tryz.results128,go_sem],rfl,hfin⟩
end
theorem uq(S:Img)(D:Dc) : ∀(k:Nat) (a:Int),∀x∈wordsF S D k a,D.fr S<=x.xt
 | 0,_,x,h=>by cases h
 | k+1,a,x,h=>by
   unfold wordsF at h
   split at h
   ·cases h
   ·rename_i w next hw
    have h1:D.fr S<=w.xt:=by
     unfold cL at hw
     split at hw
     ·cases hw
     ·rename_i h0
      simp only at hw
      split at hw
      ·cases hw
      ·simp only[Option.some.injEq,Prod.mk.injEq]at hw
       obtain⟨rfl,_⟩:=hw
       show D.fr S<=up _
       have:=(ed (a.toNat+9+ (S.b.getD (a.toNat+8) 0).toNat % 32)).1
       omega
    split at h
    ·rw[List.mem_singleton.1 h];exact h1
    ·rcases List.mem_cons.1 h with h|h
     ·rw[h];exact h1
     ·exact uq S D k next x h
theorem zO(S:Img)(m a:Int)(ha: (S.beg 3:Int)<=a)(h:S.az m a false=0) :S.az m a true=0:=by
 have hr:S.region a≠1∧S.region a≠2:=by
  have h2:S.beg 2<=S.beg 3:=by show S.k<=S.k+S.s;omega
  unfold Img.region
  constructor <;> ·repeat' split
                   all_goals omega
 unfold Img.az at *
 split at h
 ·cases h
 rename_i h8
 rw[if_neg h8]
 split at h
 ·rename_i hro
  rw[if_pos]
  unfold Img.aS at *
  simp only[Bool.or_eq_true,Bool.and_eq_true]at *
  rcases hro with hro| ⟨h1,h2⟩
  ·exact .inl hro
  ·refine .inr ⟨h1,?_⟩
   unfold Img.lets at *
   simp only[if_true,Bool.false_eq_true,if_false]at *
   unfold Img.may at *
   split at h2
   ·simp at h2
   ·rename_i hm
    rw[if_neg hm]
    split
    ·rename_i h0
     rw[if_neg (λh=>hr.1 h.1)]
     rfl
    ·rename_i h0
     rw[if_neg h0]at h2
     rw[if_neg (λh=>h.elim hr.1 (λh=>hr.2 h.1))]at h2⊢
     split at h2
     ·rename_i h3;rw[if_pos h3];rfl
     ·simp at h2
 ·cases h
section
variable {w:World}{F:Nat->Prop}{c:Vc}{g:Nat}{x:Rn}{src:Value}{s:Mt}
theorem Hn(x:Rn)(s:Mt) : (bd x s).x=x:=by
 unfold bd
 split
 ·rfl
 ·split
  ·rfl
  ·split<;>rfl
theorem BU(hs:s.Ok)(x:Rn) : (bd x s).s.Ok:=by
 unfold bd
 split
 ·exact hs
 ·split
  ·exact hs
  ·split
   ·exact hs
   ·exact⟨hs.pd,hs.pr,hs.d,hs.r,hs.du,hs.dv,hs.ru,hs.rv⟩
theorem Mm(hb: (VA c g x src s).holds w F)(hp:Dcs c src s)(hx:x.Ok) :
 Calls Tryz.prog 128 #[g] w (Got (bO (bd x s).f) (VA c g x src (bd x s).s) F w):=by
 rcases hws:words s.S (dS s)with _| ⟨x0,rest⟩
 ·have e:bd x s= ⟨16,x,s⟩:=by unfold bd;rw[hws]
  rw[e]
  exact GR hb hp hws
 ·have hxt: (s.S.beg 3:Int)<=(x0.xt:Int):=by
   have h1:=uq s.S (dS s) ((dS s).l+1) (dS s).l x0 (by show x0∈words s.S (dS s);rw[hws];simp)
   have h2: (dS s).fr s.S=s.S.beg 3+8:=rfl
   omega
  by_cases hf:s.S.az x.mode x0.xt false=0
  ·have hf2:=zO s.S x.mode x0.xt hxt hf
   by_cases hop: (Code.unpack (s.S.aR x.mode x0.xt)).1=17
   ·have e:bd x s= ⟨0,x,{ s with S:=s.S.setCell x.mode x0.xt (if Code.right 17 x.next=true then 256*x.next+17 else 0) }⟩:=by
     unfold bd
     rw[hws]
     simp only[hf,hop,ne_eq,not_true,if_false]
    rw[e]
    rcases hr:Code.right 17 x.next with _|_
    ·exact wG hb hp x0 rest hws hf hf2 _ rfl (by rw[hop];rfl) 0 false (λw=>Ku 17 x.next w hr) (by unfold V64;omega) _ rfl
    ·have hro:=Code.sR hr
     exact wG hb hp x0 rest hws hf hf2 _ rfl (by rw[hop];rfl) (256*x.next+17) true (λw=>HK 17 x.next w hr) (by unfold V64;omega) _ rfl
   ·have e:bd x s= ⟨16,x,s⟩:=by
     unfold bd
     rw[hws]
     simp only[hf,ne_eq,not_true,if_false]
     rw[if_pos hop]
    rw[e]
    exact td hb hp x0 rest hws _ _ _ hf rfl (.inr ⟨rfl,by simpa using hop,rfl⟩)
  ·have e:bd x s= ⟨s.S.az x.mode x0.xt false,x,s⟩:=by
    unfold bd
    rw[hws]
    simp only
    rw[if_pos hf]
   rw[e]
   have:=td hb hp x0 rest hws _ _ _ rfl rfl (.inl ⟨hf,rfl⟩)
   rw[eD hf]
   exact this
end
def tO(P:Kn)(f:FuncId)(i:ao)(q:Rn->Mt->Rs) :Prop:=
 ∀(c:Vc) (g:Nat) (x:Rn) (src:Value) (s:Mt) (ba:Nat) (w:World) (F:Nat->Prop),P c src s->s.Ok->x.Ok->V64 i.arg->V64 i.lit->db i x s->
  (aa (ae ba 3 (af (s.args (Code.ah i.op).1.toNat)) ::vL c g x src s)).holds w F->
  Calls Tryz.prog f #[g,i.v,.slice ba (Code.ah i.op).1.toNat (Code.ah i.op).1.toNat] w (Got (bO (q x s).f) (aa (ae ba 3 (af (s.args (Code.ah i.op).1.toNat)) ::vL c g (q x s).x src (q x s).s)) F w)
theorem sy(P:Kn)(i:ao)(q:Rn->Mt->Rs)(hop:i.op<=20)(hq:tO P 96 i q) :dE P i q:=by
 intro c g x src s w F hp hs hx hv1 hv2 hask hb
 obtain⟨op,arg,lit,cells⟩:=i
 simp only at hop
 show Calls _ _ #[_,.agg #[op,arg,lit,cells]] _ _
 have hon:=(On.refl hb).box #[op,arg,lit,cells] 155
 have hw:=nh op
 have hwa:=λw=>jl op w
 obtain⟨n,hn⟩ : ∃n:Nat,(Code.ah op).1= (n:Int):=⟨(Code.ah op).1.toNat,by omega⟩
 have hn2: (Code.ah op).1.toNat=n:=by omega
 have hn8:n<=8:=by omega
 rw[hn]at hwa
 generalize (Code.ah op).2=ly at *
 have hargs:=λw1 (h1:On F w (aa (ae w.heap.size 155 #[op,arg,lit,cells] ::vL c g x src s)) w1)=>h1.aW λF' hb' _ _=>kX hb' hs n hn8
 have hctl : ∀w1 w2 ba,On F w (aa (ae w1 155 #[op,arg,lit,cells] ::ae ba 3 (af (s.args n)) ::vL c g x src s)) w2->
  Calls Tryz.prog 96 #[g,.agg #[op,arg,lit,cells],.slice ba n n] w2 (Got (bO (q x s).f) (aa (ae w1 155 #[op,arg,lit,cells] ::ae ba 3 (af (s.args n)) ::vL c g (q x s).x src (q x s).s)) F w):=by
  intro w1 w2 ba h
  refine h.aW λF' hb' _ _=> ?_
  have h1:=hq c g x src s ba w2 F' hp hs hx hv1 hv2 hask
  simp only[hn2]at h1
  exact h1 hb'
 have hle:decide (op<=20) =true:=decide_eq_true hop
 generalize q x s=Q at *
 obtain⟨f,x',s'⟩:=Q
 simp only at hctl⊢
 replace hwa:=Lib.hid hwa
 replace hargs:=Lib.hid hargs
 replace hctl:=Lib.hid hctl
 replace hon:=Lib.hid hon
 clear hb hq hs hx hask hw hn hn2 hv1 hv2 hop
 go_enter Tryz.func67,Tryz.ntmps67
 go_wp2_with fail
 refine(hwa.out _).mono ?_
 rintro e w1 ⟨rfl,hb1⟩
 have hon1:=hon.out.below hb1
 replace hargs:=Lib.hid (hargs.out _ hon1)
 clear hb1
 go_wp2_with fail
 refine hargs.out.mono ?_
 rintro e w2 ⟨rfl,hon2⟩
 have b0:w2.cell? (w.heap.size,0) =some (op:Vl):=(hon2.ab 0 rfl).cell 0
 have b1:w2.cell? (w.heap.size,1) =some (arg:Vl):=(hon2.ab 0 rfl).cell 1
 have b2:w2.cell? (w.heap.size,2) =some (lit:Vl):=(hon2.ab 0 rfl).cell 2
 have b3:w2.cell? (w.heap.size,3) =some (cells:Vl):=(hon2.ab 0 rfl).cell 3
 replace hctl:=Lib.hid (hctl.out _ _ _ hon2)
 clear hon2 hon1
 go_wp2_with fail
 refine hctl.out.mono ?_
 rintro e w3 ⟨he,hon3⟩
 have hon4:=Lib.hid hon3.tail.tail
 clear hon3
 by_cases hf:f=0
 ·have he2:bO f = .returned (.tuple #[]):=by unfold bO;rw[if_pos hf]
  rw[he2]at he
  subst he
  replace he2:=Lib.hid he2
  clear hf
  go_wp2
  go_end0
  exact⟨he2.out.symm,hon4.out⟩
 ·have he2:bO f = .panicked [flt f]:=by unfold bO;rw[if_neg hf]
  rw[he2]at he
  subst he
  replace he2:=Lib.hid he2
  clear hf
  go_wp2
  exact⟨rfl,he2.out.symm,hon4.out⟩
def jL(x:Rn)(s:Mt) :Rs:=if(bd x s).f=0 then back x (bd x s).s else bd x s
theorem Ht(arg lit cells:Int) :tO Dcs 96 ⟨18,arg,lit,cells⟩ jL:=by
 intro c g x src s ba w F hp hs hx hv1 hv2 hask hb
 have hon:=(On.refl hb).box #[(18:Int),arg,lit,cells] 155
 have h0:0<s.r:=by
  have h1:=hask.off
  have h2:=hx.base
  have e: (returns 18 arg s.same).1=1:=rfl
  simp only[e]at h1
  omega
 have hdn:=hon.bE 2 (by simp) λF'' hb'' _ _=>Mm hb'' hp hx
 have hr: (bd x s).s.r=s.r:=by
  unfold bd
  split
  ·rfl
  ·split
   ·rfl
   ·split<;>rfl
 have hS2:=BU hs x
 have hx2:=Hn x s
 have hbf: (back x (bd x s).s).f=0:=by unfold back;rw[if_neg (by rw[hr];omega)]
 have hbk : ∀W,On F w (aa (ae w.heap.size 155 #[(18:Int),arg,lit,cells] ::ae ba 3 (af (s.args (Code.ah 18).1.toNat)) ::vL c g x src (bd x s).s)) W->
  Calls Tryz.prog 127 #[g] W (Got (.returned (.tuple #[])) (aa (ae w.heap.size 155 #[(18:Int),arg,lit,cells] ::ae ba 3 (af (s.args (Code.ah 18).1.toNat)) ::vL c g (back x (bd x s).s).x src (back x (bd x s).s).s)) F w):=λW hW=>hW.bE 2 (by simp) λF'' hb'' _ _=>AE hb'' hS2 (by rw[hr];exact h0)
 have hdn':Calls Tryz.prog 128 #[g] (w.alloc (.cells #[(18:Int),arg,lit,cells] 155)) (Got (bO (bd x s).f) (aa (ae w.heap.size 155 #[(18:Int),arg,lit,cells] ::ae ba 3 (af (s.args (Code.ah 18).1.toNat)) ::vL c g x src (bd x s).s)) F w):=hdn
 have hq:jL x s=if(bd x s).f=0 then⟨0,(back x (bd x s).s).x,(back x (bd x s).s).s⟩else⟨(bd x s).f,x,(bd x s).s⟩:=by
  unfold jL
  by_cases h: (bd x s).f=0
  ·rw[if_pos h,if_pos h]
   generalize back x (bd x s).s=Q at *
   obtain⟨f,x1,s1⟩:=Q
   simp only at hbf
   rw[hbf]
  ·rw[if_neg h,if_neg h]
   generalize bd x s=Q at *
   obtain⟨f,x1,s1⟩:=Q
   simp only at hx2
   rw[hx2]
 rw[hq]
 show Calls _ _ #[_,.agg #[(18:Int),arg,lit,cells],_] _ (Got _ (aa (ae ba 3 (af (s.args (Code.ah 18).1.toNat)) ::_)) _ _)
 clear hq hbf hx2 hS2 hr hdn
 generalize (back x (bd x s).s).x=x' at *
 generalize (back x (bd x s).s).s=s' at *
 generalize (bd x s).s=s2 at *
 generalize (bd x s).f=f at *
 generalize af (s.args (Code.ah 18).1.toNat) =ac at *
 generalize (Code.ah 18).1.toNat=n at *
 replace hbk:=Lib.hid hbk
 clear hb hs hx hask hp h0 hon
 by_cases hf:f=0
 ·simp only[if_pos hf]
  have e1:bO f = .returned (.tuple #[]):=by unfold bO;rw[if_pos hf]
  rw[e1]at hdn'
  have e2:bO 0 = .returned (.tuple #[]):=rfl
  simp only[e2]
  replace hdn':=Lib.hid hdn'
  clear e1 e2 hf
  go_enter Tryz.func96,Tryz.ntmps96
  go_wp2_with fail
  refine hdn'.out.mono ?_
  rintro e w1 ⟨rfl,h1⟩
  replace h1:=Lib.hid (hbk.out _ h1)
  simp only[]
  go_wp2_with fail
  refine h1.out.mono ?_
  rintro e w2 ⟨rfl,h2⟩
  replace h2:=Lib.hid h2
  simp only[]
  go_wp2
  go_end0
  exact⟨rfl,h2.out.tail⟩
 ·simp only[if_neg hf]
  rw[eD hf]at hdn'⊢
  replace hdn':=Lib.hid hdn'
  replace hf:=Lib.hid hf
  go_enter Tryz.func96,Tryz.ntmps96
  go_wp2_with fail
  refine hdn'.out.mono ?_
  rintro e w1 ⟨rfl,h1⟩
  exact⟨rfl,rfl,h1.tail⟩
end Vm
end Go.Proofs.YtjohhkikoejadaaGreatDoor
