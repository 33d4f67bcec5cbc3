/- Chapter 11. Conditions: as written. -/
import Derived.Test.YtilaogbkdbbdkaaGreatDoorZ27
import Derived.Test.YtilaogbkdbbdkaaGreatDoorZ23
import Derived.Test.YtilaogbkdbbdkaaGreatDoorZVRng
open Go.Proofs.Tryz
namespace Go.Proofs.YtilaogbkdbbdkaaGreatDoor
set_option linter.unusedVariables false
set_option linter.unusedSimpArgs false
set_option maxHeartbeats 8000000
set_option maxRecDepth 100000
open Go.RowKit Go.Lib Go.Deep
namespace Vm
def cu(gI g gW:Nat)(wcs:Array Value)(gr gb bg en cap:Nat)(q p:Img×Dc):List Asr:=
 [Rk gI g (bg+8) en q.2,av gI q.1,ae gW 86 wcs,bD gr gb bg en cap false p.2,RbA gb p.1]
theorem dX.at8{q q':Img×Dc}{fr en:Nat}(h:dX q q')(h8:At8 q.1 q.2 fr en):At8 q'.1 q'.2 fr en:=h8.next h.img h.dc h.al h.rg
section
variable {w W:World}{F:Nat->Prop}{B:Asr}{gI g gW gr gb bg en cap:Nat}{wcs:Array Value}{q p:Img×Dc}
theorem uC(h:On F w (aa (B::cu gI g gW wcs gr gb bg en cap q p)) W)(h8:At8 q.1 q.2 (bg+8) en)(s:ByteArray)(hsz:s.size<=9223372036854775807):
 Calls prog 78 #[g,.string s] W (Got (.returned (.tuple #[(q.2.jo q.1 s.data.toList),(q.2.bU q.1 s.data.toList)])) (aa (B::cu gI g gW wcs gr gb bg en cap (q.2.bQ q.1 s.data.toList,q.2.cg q.1 s.data.toList) p)) F w):=
 h.cn 1 2 (by decide) rfl rfl λF' hb=>HU hb h8 s hsz
theorem tN(h:On F w (aa (B::cu gI g gW wcs gr gb bg en cap q p)) W)(h8:At8 p.1 p.2 (bg+8) en)(hs:p.2.shut p.1=false)(s:ByteArray)(hsz:s.size<=9223372036854775807):
 Calls prog 79 #[gr,.string s] W (Got (.returned (.tuple #[(p.2.jo p.1 s.data.toList),(p.2.bU p.1 s.data.toList)])) (aa (B::cu gI g gW wcs gr gb bg en cap q (p.2.bQ p.1 s.data.toList,p.2.cg p.1 s.data.toList))) F w):=
 h.cn 4 5 (by decide) rfl rfl λF' hb=>FI (On.refl hb) h8 hs s hsz
theorem Kx(h:On F w (aa (B::cu gI g gW wcs gr gb bg en cap q p)) W)(h8:At8 q.1 q.2 (bg+8) en):
 Calls prog 80 #[g] W (Got (.returned (.tuple #[])) (aa (B::cu gI g gW wcs gr gb bg en cap (q.2.bO q.1 eH,q.2) p)) F w):=
 h.cn 1 2 (by decide) rfl rfl λF' hb=>N4 hb h8
theorem Nu(h:On F w (aa (B::cu gI g gW wcs gr gb bg en cap q p)) W)(h8:At8 q.1 q.2 (bg+8) en):
 Calls prog 82 #[g] W (Got (.returned (.tuple #[])) (aa (B::cu gI g gW wcs gr gb bg en cap (q.2.bO q.1 lp,q.2) p)) F w):=
 h.cn 1 2 (by decide) rfl rfl λF' hb=>zI hb h8
theorem KA(h:On F w (aa (B::cu gI g gW wcs gr gb bg en cap q p)) W)(h8:At8 p.1 p.2 (bg+8) en)(hs:p.2.shut p.1=false):
 Calls prog 81 #[gr,(32:Int),(0:Int)] W (Got (.returned (.tuple #[])) (aa (B::cu gI g gW wcs gr gb bg en cap q (p.2.bO p.1 eH,p.2))) F w):=
 h.cn 4 5 (by decide) rfl rfl λF' hb=>Cw (On.refl hb) h8 hs 32 0 eH Az oM oM
theorem OW(h:On F w (aa (B::cu gI g gW wcs gr gb bg en cap q p)) W)(h8:At8 p.1 p.2 (bg+8) en)(hs:p.2.shut p.1=false):
 Calls prog 81 #[gr,(0:Int),(64:Int)] W (Got (.returned (.tuple #[])) (aa (B::cu gI g gW wcs gr gb bg en cap q (p.2.bO p.1 lp,p.2))) F w):=
 h.cn 4 5 (by decide) rfl rfl λF' hb=>Cw (On.refl hb) h8 hs 0 64 lp D6 oM oM
theorem Jh(h:On F w (aa (B::cu gI g gW wcs gr gb bg en cap q p)) W)(h8:At8 q.1 q.2 (bg+8) en)(v:Int)(hv:V64 v):
 Calls prog 83 #[g,v] W (Got (.returned (q.2.bm q.1)) (aa (B::cu gI g gW wcs gr gb bg en cap (q.2.bi q.1 v,q.2.bw q.1) p)) F w):=
 h.cn 1 2 (by decide) rfl rfl λF' hb=>vx hb h8 v hv
theorem GP(h:On F w (aa (B::cu gI g gW wcs gr gb bg en cap q p)) W)(h8:At8 p.1 p.2 (bg+8) en)(hs:p.2.shut p.1=false)(v:Int)(hv:V64 v):
 Calls prog 84 #[gr,v] W (Got (.returned (p.2.bm p.1)) (aa (B::cu gI g gW wcs gr gb bg en cap q (p.2.bi p.1 v,p.2.bw p.1))) F w):=
 h.cn 4 5 (by decide) rfl rfl λF' hb=>Js (On.refl hb) h8 hs v hv
def qU(x:Wrd)(A:Option Addr)(cp:Nat):Array Value:=#[.string x.name,.bool x.hid,.bool x.imm,.slice A x.cells.length cp]
theorem uY{L:List Asr}{x:Wrd}{A:Option Addr}{cp bx:Nat}(h:On F w (aa (ae bx 29 (qU x A cp)::L)) W):W.cell? (bx,0)=some (.string x.name)∧W.cell? (bx,1)=some (.bool x.hid)∧W.cell? (bx,2)=some (.bool x.imm)∧W.cell? (bx,3)=some (.slice A x.cells.length cp):=
 let hb:=h.ab 0 rfl
 ⟨hb.cell 0,hb.cell 1,hb.cell 2,hb.cell 3⟩
theorem JF(hb: (aa (cu gI g gW wcs gr gb bg en cap q q)).holds w F)(h8:At8 q.1 q.2 (bg+8) en)(R7:q.2.shut q.1=false)(x:Wrd)(A:Option Addr)(cp:Nat)(hsz:x.name.size<=9223372036854775807)
 (kernel:Bool) (gk gs:Nat) (Ui:wcs[1]? = some (gk:Vl)) (Q8:wcs[2]? = some (gs:Vl)) (hgr:gr=if kernel then gk else gs) (hf:q.2.bU q.1 x.name.data.toList≠0):
 Calls prog 57 #[g,gW,.bool kernel,.agg #[.string x.name,.bool x.hid,.bool x.imm,.slice A x.cells.length cp]] w (Got (.returned (.bool true)) (aa (cu gI g gW wcs gr gb bg en cap q q)) F w):=by
 have so:=(On.refl hb).box (qU x A cp) 29
 have e1: (q.2.bQ q.1 x.name.data.toList,q.2.cg q.1 x.name.data.toList)=q:=by
  unfold Dc.bQ Dc.cg
  rw[if_neg hf,if_neg hf]
 have hp:=uC so h8 x.name hsz
 rw[e1]at hp
 have hr:=λW (h:On F w (aa (ae w.heap.size 29 (qU x A cp)::cu gI g gW wcs gr gb bg en cap q q)) W)=>tN h h8 R7 x.name hsz
 rw[e1]at hr
 have hz:=λW (h:On F w (aa (ae w.heap.size 29 (qU x A cp)::cu gI g gW wcs gr gb bg en cap q q)) W)=>uY h
 have Z5:Blk w gW 86 wcs:=(On.refl hb).ab 2 rfl
 have cw1:=(Z5.cell 1).trans Ui
 have cw2:=(Z5.cell 2).trans Q8
 have RG: (q.2.bU q.1 x.name.data.toList != 0)=true:=by simpa using hf
 have hf3: (q.2.bU q.1 x.name.data.toList != q.2.bU q.1 x.name.data.toList)=false:=by simp
 generalize q.2.jo q.1 x.name.data.toList=cv at *
 generalize q.2.bU q.1 x.name.data.toList=cf at *
 have hjf:=Z5.lt
 unfold qU at hp hr hz so
 replace so:=Lib.hid so
 replace hp:=Lib.hid hp
 replace hr:=Lib.hid hr
 replace hz:=Lib.hid hz
 clear hb Z5 hf h8 R7 e1 Ui Q8
 cases kernel with
 | true=>
   simp only[if_true]at hgr
   subst hgr
   go_enter func57,ntmps57
   go_wp2_with fail
   refine mo hp.out λw1 h1=>?_
   obtain⟨z0,z1,z2,z3⟩:=hz.out _ h1
   have Ue:=Lib.hid (hr.out _ h1)
   clear h1
   go_wp2_with fail
   refine mo Ue.out λw2 h2=>?_
   replace h2:=Lib.hid h2
   go_wp2
   go_ret
   exact⟨rfl,h2.out.tail⟩
 | false=>
   simp only[Bool.false_eq_true,if_false]at hgr
   subst hgr
   go_enter func57,ntmps57
   go_wp2_with fail
   refine mo hp.out λw1 h1=>?_
   obtain⟨z0,z1,z2,z3⟩:=hz.out _ h1
   have Ue:=Lib.hid (hr.out _ h1)
   clear h1
   go_wp2_with fail
   refine mo Ue.out λw2 h2=>?_
   replace h2:=Lib.hid h2
   go_wp2
   go_ret
   exact⟨rfl,h2.out.tail⟩
theorem vQ(v:Int)(l:List Int)(q:Img×Dc):eO (v::l) q=if q.2.bm q.1=0 then eO l (q.2.bi q.1 v,q.2.bw q.1)else q:=rfl
def kI(hid:Bool)(q:Img×Dc):Img×Dc:=if hid then q else(q.2.bO q.1 eH,q.2)
def xp(imm:Bool)(q:Img×Dc):Img×Dc:=if imm then(q.2.bO q.1 lp,q.2)else q
theorem mark_eq(x:Wrd)(q:Img×Dc): (lu x q.1 q.2,q.2)=xp x.imm (kI x.hid q):=by
 unfold lu xp kI
 cases x.imm<;>cases x.hid<;>rfl
theorem Bo(hid:Bool){q:Img×Dc}(h1:q.1.Ok)(h2:q.2.Ok q.1):dX q (kI hid q):=by
 unfold kI
 split
 ·exact dX.refl h1 h2
 ·exact oW h1 h2
theorem Fp(imm:Bool){q:Img×Dc}(h1:q.1.Ok)(h2:q.2.Ok q.1):dX q (xp imm q):=by
 unfold xp
 split
 ·exact xe h1 h2
 ·exact dX.refl h1 h2
theorem EO(hb: (aa (cu gI g gW wcs gr gb bg en cap q q)).holds w F)(h8:At8 q.1 q.2 (bg+8) en)(R7:q.2.shut q.1=false)(x:Wrd)(A:Option Addr)(cp:Nat)(hsz:x.name.size<=9223372036854775807)
 (hi:ln w A x.cells) (SF:x.cells≠[]->Far F A) (hv: ∀v∈x.cells,V64 v) (RX:x.cells.length<=9223372036854775807)
 (kernel:Bool) (gk gs:Nat) (Ui:wcs[1]? = some (gk:Vl)) (Q8:wcs[2]? = some (gs:Vl)) (hgr:gr=if kernel then gk else gs) (hf:q.2.bU q.1 x.name.data.toList=0):
 Calls prog 57 #[g,gW,.bool kernel,.agg #[.string x.name,.bool x.hid,.bool x.imm,.slice A x.cells.length cp]] w (Got (.returned (.bool true)) (aa (cu gI g gW wcs gr gb bg en cap (db x q) (db x q))) F w):=by
 have so:=(On.refl hb).box (qU x A cp) 29
 have hp:=uC so h8 x.name hsz
 have hr:=λW (q1:Img×Dc) (h:On F w (aa (ae w.heap.size 29 (qU x A cp)::cu gI g gW wcs gr gb bg en cap q1 q)) W)=>tN h h8 R7 x.name hsz
 have g1:=lj (S:=q.1) (D:=q.2) h8.img h8.ok x.name.data.toList
 have e0:db x q=eO x.cells (xp x.imm (kI x.hid (q.2.bQ q.1 x.name.data.toList,q.2.cg q.1 x.name.data.toList))):=by
  unfold db
  rw[if_neg (by rw[hf];decide),<-mark_eq]
 have g1':dX q (q.2.bQ q.1 x.name.data.toList,q.2.cg q.1 x.name.data.toList):=g1
 generalize (q.2.bQ q.1 x.name.data.toList,q.2.cg q.1 x.name.data.toList)=q1 at *
 have h81:=g1'.at8 h8
 have R1:q1.2.shut q1.1=false:=g1'.shut.trans R7
 have g2:=Bo x.hid h81.img h81.ok
 have h82:=g2.at8 h81
 have Sw:=g2.shut.trans R1
 have g3:=Fp x.imm h82.img h82.ok
 have h83:=g3.at8 h82
 have Yq:=g3.shut.trans Sw
 have hz:=λW (q1 q2:Img×Dc) (h:On F w (aa (ae w.heap.size 29 (qU x A cp)::cu gI g gW wcs gr gb bg en cap q1 q2)) W)=>uY h
 have Z5:Blk w gW 86 wcs:=(On.refl hb).ab 2 rfl
 have cw1:=(Z5.cell 1).trans Ui
 have cw2:=(Z5.cell 2).trans Q8
 have hjf:=Z5.lt
 rw[e0]
 rw[hf]at hp hr
 have Y4:=λW (h:On F w (aa (ae w.heap.size 29 (qU x A cp)::cu gI g gW wcs gr gb bg en cap q1 q1)) W)=>Kx h h81
 have WE:=λW (h:On F w (aa (ae w.heap.size 29 (qU x A cp)::cu gI g gW wcs gr gb bg en cap (q1.2.bO q1.1 eH,q1.2) q1)) W)=>KA h h81 R1
 generalize q.2.jo q.1 x.name.data.toList=cv at *
 clear hf g1 e0 Ui Q8 Z5
 unfold qU at hp hr hz so Y4 WE
 obtain⟨nm,hid,imm,cells⟩:=x
 simp only at *
 replace so:=Lib.hid so
 replace hp:=Lib.hid hp
 replace hr:=Lib.hid hr
 replace hz:=Lib.hid hz
 replace Y4:=Lib.hid Y4
 replace WE:=Lib.hid WE
 replace h82:=Lib.hid h82
 replace h83:=Lib.hid h83
 replace Sw:=Lib.hid Sw
 replace Yq:=Lib.hid Yq
 replace hi:=Lib.hid hi
 replace SF:=Lib.hid SF
 replace hv:=Lib.hid hv
 replace hgr:=Lib.hid hgr
 clear hb h8 R7 g1' g2 g3 h81 R1
 go_enter func57,ntmps57
 go_upto_if 21 with fail
 go_cut [9] (λr wx=>r = .pointer gr∧wx=w.alloc (.cells #[.string nm,.bool hid,.bool imm,.slice A cells.length cp] 29))
 case first=>
  have hg:=hgr.out
  cases kernel with
  | true=>
    simp only[if_true]at hg
    subst hg
    go_wp2_with fail
    go_meet
    exact⟨rfl,rfl⟩
  | false=>
    simp only[Bool.false_eq_true,if_false]at hg
    subst hg
    go_wp2_with fail
    go_meet
    exact⟨rfl,rfl⟩
 case rest=>
  obtain⟨rfl,rfl⟩:=hcut
  clear cw1 cw2
  go_wp2_with fail
  refine mo hp.out λw1 h1=>?_
  obtain⟨z0,z1,z2,z3⟩:=hz.out _ _ _ h1
  have Ue:=Lib.hid (hr.out _ _ h1)
  clear h1
  go_wp2_with fail
  refine mo Ue.out λw2 h2=>?_
  clear z0 z1 z2 z3
  obtain⟨z0,z1,z2,z3⟩:=hz.out _ _ _ h2
  go_upto_if 47 with fail
  go_cut [] (λwx=>On F w (aa (ae w.heap.size 29 #[.string nm,.bool hid,.bool imm,.slice A cells.length cp]::cu gI g gW wcs gr gb bg en cap (kI hid q1) (kI hid q1))) wx)
  case first=>
   cases hid with
   | true=>
     replace h2:=Lib.hid h2
     go_wp2_with fail
     go_meet
     exact h2.out
   | false=>
     have hs:=Lib.hid (Y4.out _ h2)
     clear h2 z0 z1 z2 z3
     go_wp2_with fail
     refine mo hs.out λw3 h3=>?_
     have hq:=Lib.hid (WE.out _ h3)
     clear h3
     go_wp2_with fail
     refine mo hq.out λw4 h4=>?_
     replace h4:=Lib.hid h4
     go_wp2_with fail
     go_meet
     exact h4.out
  case rest=>
   have h3:=hcut
   clear Y4 WE h2 z0 z1 z2 z3 hp hr Ue
   have him:=Nu h3 h82.out
   have hcu:=λW (h:On F w (aa (ae w.heap.size 29 #[.string nm,.bool hid,.bool imm,.slice A cells.length cp]::cu gI g gW wcs gr gb bg en cap ((kI hid q1).2.bO (kI hid q1).1 lp,(kI hid q1).2) (kI hid q1))) W)=>OW h h82.out Sw.out
   generalize kI hid q1=q2 at *
   obtain⟨z0,z1,z2,z3⟩:=hz.out _ _ _ h3
   replace h3:=Lib.hid h3
   replace him:=Lib.hid him
   replace hcu:=Lib.hid hcu
   clear hcut
   go_upto_if 53 with fail
   go_cut [] (λwx=>On F w (aa (ae w.heap.size 29 #[.string nm,.bool hid,.bool imm,.slice A cells.length cp]::cu gI g gW wcs gr gb bg en cap (xp imm q2) (xp imm q2))) wx)
   case first=>
    cases imm with
    | false=>
      go_wp2_with fail
      go_meet
      exact h3.out
    | true=>
      clear z0 z1 z2 z3
      go_wp2_with fail
      refine mo him.out λw3 h3=>?_
      have hq:=Lib.hid (hcu.out _ h3)
      clear h3
      go_wp2_with fail
      refine mo hq.out λw4 h4=>?_
      replace h4:=Lib.hid h4
      go_wp2_with fail
      go_meet
      exact h4.out
   case rest=>
    have h4:=hcut
    clear hcut h3 him hcu z0 z1 z2 z3
    generalize xp imm q2=q3 at *
    replace h4:=Lib.hid h4
    go_wp2_with fail
    go_loopg [14] cells.length (λk t wr=> ∃(j:Nat) (qj:Img×Dc),j+k=cells.length∧t = .int .i64 (j:Int)∧dX q3 qj∧eO cells q3=eO (cells.drop j) qj∧On F w (aa (ae w.heap.size 29 #[.string nm,.bool hid,.bool imm,.slice A cells.length cp]::cu gI g gW wcs gr gb bg en cap qj qj)) wr)
    case atStart=>exact⟨0,q3,by omega,rfl,dX.refl h83.out.img h83.out.ok,rfl,h4.out⟩
    case round=>
     obtain⟨j,qj,hj,rfl,hgq,Zg,RC⟩:=hrel
     obtain⟨z0,z1,z2,z3⟩:=hz.out _ _ _ RC
     by_cases RQ:j<cells.length
     ·obtain⟨v,hvj⟩: ∃v,cells[j]? = some v:=⟨cells[j],by simp[RQ]⟩
      have Zy:=hv.out v (List.mem_of_getElem? hvj)
      obtain⟨a,ha,Zv⟩:=(RC.ints hi.out (SF.out λe=>by rw[e]at hvj;simp at hvj)) j v hvj
      have h8j:=hgq.at8 h83.out
      have Zb:=hgq.shut.trans Yq.out
      have hdr:cells.drop j=v::cells.drop (j+1):=by
       rw[List.drop_eq_getElem_cons RQ]
       congr 1
       rw[List.getElem?_eq_getElem RQ]at hvj
       exact Option.some.inj hvj
      rw[hdr,vQ]at Zg
      have hg2:dX qj (qj.2.bi qj.1 v,qj.2.bw qj.1):=kh h8j.img h8j.ok v
      have V2:=Jh RC h8j v Zy
      have hrc:=λW (h:On F w (aa (ae w.heap.size 29 #[.string nm,.bool hid,.bool imm,.slice A cells.length cp]::cu gI g gW wcs gr gb bg en cap (qj.2.bi qj.1 v,qj.2.bw qj.1) qj)) W)=>GP h h8j Zb v Zy
      subst ha
      have ZR:=λW (h:On F w (aa (ae w.heap.size 29 #[.string nm,.bool hid,.bool imm,.slice (some a) cells.length cp]::cu gI g gW wcs gr gb bg en cap (qj.2.bi qj.1 v,qj.2.bw qj.1) qj)) W)=>(by
       obtain⟨b,hb,SI⟩:=(h.ints hi.out (SF.out λe=>by rw[e]at hvj;simp at hvj)) j v hvj
       cases hb
       exact SI:W.cell? (a.add j)=some (v:Vl))
      have ZU: (qj.2.bm qj.1 != qj.2.bm qj.1)=false:=by simp
      by_cases SJ:qj.2.bm qj.1=0
      ·rw[if_pos SJ]at Zg
       rw[SJ]at V2 hrc
       generalize (qj.2.bi qj.1 v,qj.2.bw qj.1)=qn at *
       replace V2:=Lib.hid V2
       replace hrc:=Lib.hid hrc
       replace ZR:=Lib.hid ZR
       replace Zg:=Lib.hid Zg
       replace hg2:=Lib.hid hg2
       replace hgq:=Lib.hid hgq
       clear RC h8j Zb hdr Zy ZU SJ hvj
       go_wp2_with fail
       refine mo V2.out λw5 h5=>?_
       have hrq:=Lib.hid (hrc.out _ h5)
       have R3:=ZR.out _ h5
       clear z0 z1 z2 z3 Zv
       obtain⟨z0,z1,z2,z3⟩:=hz.out _ _ _ h5
       clear h5
       go_wp2_with fail
       refine mo hrq.out λw6 h6=>?_
       replace h6:=Lib.hid h6
       go_wp2
       go_roundg (gk-1)
       case measure=>omega
       case rel=>exact⟨j+1,qn,by omega,by go_num,hgq.out.trans hg2.out,Zg.out,h6.out⟩
      ·rw[if_neg SJ]at Zg
       have e1: (qj.2.bi qj.1 v,qj.2.bw qj.1)=qj:=by
        unfold Dc.bi Dc.bw
        rw[if_neg SJ,if_neg SJ]
       rw[e1]at V2 hrc ZR
       have hft: (qj.2.bm qj.1 != 0)=true:=by simpa using SJ
       generalize qj.2.bm qj.1=ff at *
       replace V2:=Lib.hid V2
       replace hrc:=Lib.hid hrc
       replace ZR:=Lib.hid ZR
       replace Zg:=Lib.hid Zg
       clear RC h8j Zb hdr Zy SJ hvj hg2 e1 hgq
       go_wp2_with fail
       refine mo V2.out λw5 h5=>?_
       have hrq:=Lib.hid (hrc.out _ h5)
       have R3:=ZR.out _ h5
       clear z0 z1 z2 z3 Zv
       obtain⟨z0,z1,z2,z3⟩:=hz.out _ _ _ h5
       clear h5
       go_wp2_with fail
       refine mo hrq.out λw6 h6=>?_
       replace h6:=Lib.hid h6
       go_wp2
       go_ret
       refine⟨rfl,?_⟩
       rw[Zg.out]
       exact h6.out.tail
     ·have TJ:j=cells.length:=by omega
      subst TJ
      rw[List.drop_length]at Zg
      replace Zg:=Lib.hid Zg
      replace hgq:=Lib.hid hgq
      replace RC:=Lib.hid RC
      have hdl:decide ((cells.length:Int) < (cells.length:Int))=false:=by simp
      go_wp2
      go_ret
      refine⟨rfl,?_⟩
      rw[Zg.out]
      exact RC.out.tail
theorem uK(hb: (aa (cu gI g gW wcs gr gb bg en cap q q)).holds w F)(h8:At8 q.1 q.2 (bg+8) en)(R7:q.2.shut q.1=false)(x:Wrd)(A:Option Addr)(cp:Nat)(hsz:x.name.size<=9223372036854775807)
 (hi:ln w A x.cells) (SF:x.cells≠[]->Far F A) (hv: ∀v∈x.cells,V64 v) (RX:x.cells.length<=9223372036854775807)
 (kernel:Bool) (gk gs:Nat) (Ui:wcs[1]? = some (gk:Vl)) (Q8:wcs[2]? = some (gs:Vl)) (hgr:gr=if kernel then gk else gs):
 Calls prog 57 #[g,gW,.bool kernel,.agg #[.string x.name,.bool x.hid,.bool x.imm,.slice A x.cells.length cp]] w (Got (.returned (.bool true)) (aa (cu gI g gW wcs gr gb bg en cap (db x q) (db x q))) F w):=by
 by_cases hf:q.2.bU q.1 x.name.data.toList=0
 ·exact EO hb h8 R7 x A cp hsz hi SF hv RX kernel gk gs Ui Q8 hgr hf
 ·have e:db x q=q:=by unfold db;rw[if_pos hf]
  rw[e]
  exact JF hb h8 R7 x A cp hsz kernel gk gs Ui Q8 hgr hf
end
end Vm
open Go.RowKit Go.Lib Go.Shelf
attribute [local go_sem] Oper.semAt_some
namespace Vm
section
variable {g gI gb fr en:Nat}{D:Dc}{S:Img}
theorem uR(n:Nat)(hn:1<=n)(Bd:Nat)(w:World)(x0:Wd)(rest:List Wd)(hs:Blk w g 123 (cm gI fr en (D.h:Int) (D.l:Int)))(hi:b9 w gI gb S)(h8:At8 S D fr en)(VR:Bd<w.heap.size)(hc:w.cell? (Bd,0)=some (g:Vl))(Uo:words S D=x0::rest):
 Rng.rJ n prog 65 #[Bd] #[.agg x0.c] w:=by
 intro l W Rt Rp hW hY
 have hwk:=Bv (hs.below hW hs.lt) ⟨hi.blk.below hW hi.blk.lt,hi.row.below hW hi.row.lt,hi.ok⟩ h8
 rw[Uo]at hwk
 have hjA:=(hW.cell (p:=⟨Bd,0,none⟩) VR).trans hc
 obtain⟨N,hN⟩: ∃N,N= (x0::rest).length:=⟨_,rfl⟩
 have hN0:0<N:=by rw[hN];simp
 have WK:Calls prog 66 #[g] W (λe w'=> ∃A cap,e = .returned (.slice A N cap)∧On Nob W (aa [pF (.slice A N cap) (x0::rest)]) w'):=hwk.mono λe w' ⟨v,he,so⟩=>by
  obtain⟨F1,hR⟩:=so.at_ 0 rfl
  rcases jL hR with⟨_,h⟩ | ⟨g1,cap,rfl,_⟩
  ·cases h
  ·rw[hN];exact⟨_,_,he,so⟩
 refine callsIn_of_wp func65 rfl trivial ?_ rfl
 simp only[ntmps65,List.size_toArray,List.length_cons,List.length_nil,Nat.reduceAdd,Nat.reduceSub,Array.replicate_succ,Array.replicate_zero,List.push_toArray,List.append_toArray,List.nil_append,List.cons_append]
 replace WK:=Lib.hid WK
 replace hY:=Lib.hid hY
 replace hW:=Lib.hid hW
 clear hwk Uo
 gi_wp2_with (refine⟨trivial,?_⟩;gi_at_call 66;refine(callsIn_wide.2 WK.out).mono ?_;rintro e w' ⟨A,cap,rfl,so⟩)
 have Rr:Below W.heap.size W w':=so.dY
 obtain⟨F1,hR⟩:=so.at_ 0 rfl
 rcases jL hR with⟨_,h⟩ | ⟨g1,ZC,hv,Sb⟩
 ·cases h
 injection hv with hA _ Yd
 subst hA Yd
 have Za:=Sb 0 (by simp) 0 oM
 have Si:=Sb 0 (by simp) 1 oM
 have RZ:=Sb 0 (by simp) 2 oM
 have VQ:=Sb 0 (by simp) 3 oM
 have WZ:=Sb 0 (by simp) 4 oM
 have R3:=Sb 0 (by simp) 5 oM
 obtain⟨fn,tmps,assign,body,hy,hRd⟩:=hY.out (w'.alloc (.cells x0.c 43)) (Rr.trans ((Below.refl _ _).alloc Rr.size _))
 obtain⟨nm,hd,xt,im,hh,il⟩:=x0
 have e0: (⟨nm,hd,xt,im,hh,il⟩:Wd).c=#[.string ⟨nm.toArray⟩,.int .i64 (hd:Int),.int .i64 (xt:Int),.bool im,.bool hh,.bool il]:=rfl
 have e1: ((⟨nm,hd,xt,im,hh,il⟩::rest:List Wd)).getD 0 ⟨[],0,0,false,false,false⟩= ⟨nm,hd,xt,im,hh,il⟩:=rfl
 rw[e1]at Za Si RZ VQ WZ R3
 rw[e0]at Za Si RZ VQ WZ R3 hy hRd
 simp only[List.getElem?_toArray,List.getElem?_cons_zero,List.getElem?_cons_succ,Nat.add_zero]at Za Si RZ VQ WZ R3
 replace hRd:=Lib.hid hRd
 replace so:=Lib.hid so
 replace hR:=Lib.hid hR
 replace Sb:=Lib.hid Sb
 replace Rr:=Lib.hid Rr
 clear e0 e1 hY
 have hlen:decide ((0:Int) < (N:Int))=true:=decide_eq_true oM
 replace hN:=Lib.hid hN
 refine wpIn_loop_once ?_
 gi_wp2
 refine hRd.out.mono ?_
 rintro e W3 (⟨rfl,h3⟩ | ⟨ch,rfl,h3⟩)
 ·replace h3:=Lib.hid h3
  gi_wp2
  refine bodyPost_ret (results_none rfl _ _ _) rfl ?_
  exact .inl ⟨_,rfl,h3.out⟩
 ·exact⟨rfl,.inr ⟨ch,rfl,h3⟩⟩
theorem all_none(n:Nat)(hn:1<=n)(Bd:Nat)(w:World)(hs:Blk w g 123 (cm gI fr en (D.h:Int) (D.l:Int)))(hi:b9 w gI gb S)(h8:At8 S D fr en)(VR:Bd<w.heap.size)(hc:w.cell? (Bd,0)=some (g:Vl))(Uo:words S D = [])(l:Nat)(W:World)(hW:Below w.heap.size w W):
 CallsIn Fence.wide n prog 65 (#[.func (.yield l) #[] #[]]++#[.pointer Bd]) W (λe W'=>(∃v,e = .returned v)∧Below W.heap.size W W'):=by
 have hwk:=Bv (hs.below hW hs.lt) ⟨hi.blk.below hW hi.blk.lt,hi.row.below hW hi.row.lt,hi.ok⟩ h8
 rw[Uo]at hwk
 have hjA:=(hW.cell (p:=⟨Bd,0,none⟩) VR).trans hc
 have WK:Calls prog 66 #[g] W (λe w'=> ∃A cap,e = .returned (.slice A 0 cap)∧Below W.heap.size W w'):=hwk.mono λe w' ⟨v,he,so⟩=>by
  obtain⟨F1,hR⟩:=so.at_ 0 rfl
  rcases jL hR with⟨rfl,_⟩ | ⟨g1,cap,rfl,_⟩
  ·exact⟨none,0,he,so.dY⟩
  ·exact⟨_,_,he,so.dY⟩
 refine callsIn_of_wp func65 rfl trivial ?_ rfl
 simp only[ntmps65,List.size_toArray,List.length_cons,List.length_nil,Nat.reduceAdd,Nat.reduceSub,Array.replicate_succ,Array.replicate_zero,List.push_toArray,List.append_toArray,List.nil_append,List.cons_append]
 replace WK:=Lib.hid WK
 replace hW:=Lib.hid hW
 clear hwk Uo
 gi_wp2_with (refine⟨trivial,?_⟩;gi_at_call 66;refine(callsIn_wide.2 WK.out).mono ?_;rintro e w' ⟨A,cap,rfl,so⟩)
 replace so:=Lib.hid so
 refine wpIn_loop_once ?_
 gi_wp2
 go_end0
 exact⟨⟨_,rfl⟩,so.out⟩
def bh(x:Rn)(s:Mt):Rs:=
 match words s.S (dS s)with
 | []=>⟨16,x,s⟩
 | wd::_=>
   if s.S.ay x.mode wd.xt false≠0 then⟨s.S.ay x.mode wd.xt false,x,s⟩
   else if(Code.unpack (s.S.aP x.mode wd.xt)).1≠17 then⟨16,x,s⟩
   else⟨0,x,{ s with S:=s.S.setCell x.mode wd.xt (if Code.right 17 x.next=true then 256*x.next+17 else 0) }⟩
end
section
variable {w w':World}{F:Nat->Prop}{c:Vc}{g:Nat}{x:Rn}{src:Value}{s:Mt}
theorem sW(w:World)(g d:Nat):Below w.heap.size w ((w.alloc (.cells #[g] 100)).alloc (.cells #[d] 33))∧Blk ((w.alloc (.cells #[g] 100)).alloc (.cells #[d] 33)) w.heap.size 100 #[g]∧Blk ((w.alloc (.cells #[g] 100)).alloc (.cells #[d] 33)) (w.heap.size+1) 33 #[d]∧((w.alloc (.cells #[g] 100)).alloc (.cells #[d] 33)).heap.size=w.heap.size+2:=by
 refine⟨((Below.refl _ w).alloc (Nat.le_refl _) _).alloc (by simp) _,(Blk.new w 100 _).alloc _,?_,by simp⟩
 have h:=Blk.new (w.alloc (.cells #[g] 100)) 33 #[d]
 rw[World.size_alloc]at h
 exact h
theorem JR(hb: (VA c g x src s).holds w F)(hp:Dcs c src s)(Uo:words s.S (dS s)= []):
 Calls prog 137 #[g] w (Got (.panicked [flt 16]) (VA c g x src s) F w):=by
 have so:=(On.refl hb)
 have h7:Blk w c.gS 123 (cm c.gI c.sfr c.sto ((dS s).h:Int) ((dS s).l:Int)):=so.ab 6 (congrArg some hp.dc)
 obtain⟨gb,hi⟩:=so.im
 have h8:=hp.at8
 have r0:=so.r0
 have m1:=so.m1
 have Rd:=so.rlt
 have hml:=so.mlt
 refine(callsIn_wide (n:=3)).1 ?_
 refine callsIn_of_wp_marks func137 rfl trivial ?_ rfl
 simp only[ntmps137,List.size_toArray,List.length_cons,List.length_nil,Nat.reduceAdd,Nat.reduceSub,Array.replicate_succ,Array.replicate_zero,List.push_toArray,List.append_toArray,List.nil_append,List.cons_append]
 obtain⟨Q9,Zt,YH,hsz⟩:=sW w g c.gS
 replace so:=Lib.hid so
 replace h7:=Lib.hid h7
 replace hi:=Lib.hid hi
 replace h8:=Lib.hid h8
 replace Uo:=Lib.hid Uo
 replace Q9:=Lib.hid Q9
 replace Zt:=Lib.hid Zt
 replace YH:=Lib.hid YH
 replace hsz:=Lib.hid hsz
 gi_wp2_with (refine⟨trivial,?_⟩;gi_at_call 39;refine(callsIn_wide.2 (Di _)).mono ?_;rintro e w' ⟨rfl,rfl⟩)
 generalize (w.alloc (.cells #[g] 100)).alloc (.cells #[c.gS] 33)=W0 at *
 refine Rng.Ce oM rfl (enters_of func65 kR rfl) ?seq ?fin
 case seq=>
  intro l W hW
  exact all_none 2 oM (w.heap.size+1) W0 (h7.out.below Q9.out h7.out.lt) ⟨hi.out.blk.below Q9.out hi.out.blk.lt,hi.out.row.below Q9.out hi.out.row.lt,hi.out.ok⟩ h8.out (by rw[hsz.out];omega) (YH.out.cell 0) Uo.out l W hW
 case fin=>
  intro W4 XV hk4
  gi_wp2
  have IS:Below w.heap.size w (W4.putObj W0.heap.size (.deferred none)):=Rng.uM (Q9.out.trans (XV.mono Q9.out.size)) _ (by rw[hsz.out];omega) _
  exact⟨by simp,.inl ⟨_,_,rfl,run_takeDeferred hk4,⟨rfl,so.out.below IS⟩⟩⟩
theorem tT(hb: (VA c g x src s).holds w F)(hp:Dcs c src s)(x0:Wd)(rest:List Wd)(Uo:words s.S (dS s)=x0::rest)(f v k:Int)(hf:s.S.ay x.mode x0.xt false=f)(hv:s.S.aP x.mode x0.xt=v)(hk: (f≠0∧f=k)∨(f=0∧((Code.unpack v).1==17)=false∧k=16)):
 Calls prog 137 #[g] w (Got (.panicked [flt k]) (VA c g x src s) F w):=by
 have so:=(On.refl hb)
 have h7:Blk w c.gS 123 (cm c.gI c.sfr c.sto ((dS s).h:Int) ((dS s).l:Int)):=so.ab 6 (congrArg some hp.dc)
 obtain⟨gb,hi⟩:=so.im
 have h8:=hp.at8
 have r0:=so.r0
 have m1:=so.m1
 have Rd:=so.rlt
 have hml:=so.mlt
 refine(callsIn_wide (n:=3)).1 ?_
 refine callsIn_of_wp_marks func137 rfl trivial ?_ rfl
 simp only[ntmps137,List.size_toArray,List.length_cons,List.length_nil,Nat.reduceAdd,Nat.reduceSub,Array.replicate_succ,Array.replicate_zero,List.push_toArray,List.append_toArray,List.nil_append,List.cons_append]
 obtain⟨Q9,Zt,YH,hsz⟩:=sW w g c.gS
 replace so:=Lib.hid so
 replace h7:=Lib.hid h7
 replace hi:=Lib.hid hi
 replace h8:=Lib.hid h8
 replace Uo:=Lib.hid Uo
 replace Q9:=Lib.hid Q9
 replace Zt:=Lib.hid Zt
 replace YH:=Lib.hid YH
 replace hsz:=Lib.hid hsz
 gi_wp2_with (refine⟨trivial,?_⟩;gi_at_call 39;refine(callsIn_wide.2 (Di _)).mono ?_;rintro e w' ⟨rfl,rfl⟩)
 generalize (w.alloc (.cells #[g] 100)).alloc (.cells #[c.gS] 33)=W0 at *
 refine Rng.zR oM rfl (enters_of func65 kR rfl) (x0:=#[.agg x0.c]) rfl (uR 2 oM (w.heap.size+1) W0 x0 rest (h7.out.below Q9.out h7.out.lt) ⟨hi.out.blk.below Q9.out hi.out.blk.lt,hi.out.row.below Q9.out hi.out.row.lt,hi.out.ok⟩ h8.out (by rw[hsz.out];omega) (YH.out.cell 0) Uo.out)
  (λch W3=>ch = [flt k]∧Below W0.heap.size W0 W3∧W3.heap[W0.heap.size]? = some (.deferred (some []))) ?round ?fin
 case round=>
  intro W hW hWs
  obtain⟨nm,hd,xt,im,hh,il⟩:=x0
  simp only[Wd.c]
  gi_wp2
  have RY:Below W.heap.size W (W.alloc (.cells #[.string ⟨nm.toArray⟩,(hd:Int),(xt:Int),.bool im,.bool hh,.bool il] 43)):=(Below.refl _ W).alloc (Nat.le_refl _) _
  have hBx:=Blk.new W 43 #[.string ⟨nm.toArray⟩,(hd:Int),(xt:Int),.bool im,.bool hh,.bool il]
  refine⟨RY,?_⟩
  intro W2 Zo
  have hjy:W0.heap.size<=W.heap.size:=hW.size
  have RP:W.heap.size≠W0.heap.size+1:=by omega
  have Re:Blk W2 W.heap.size 43 #[.string ⟨nm.toArray⟩,(hd:Int),(xt:Int),.bool im,.bool hh,.bool il]:=(Zo.other _ RP).trans hBx
  have Rr:Below W0.heap.size W0 W2:=Zo.below
  have WL:Below w.heap.size w W2:=Q9.out.trans (Rr.mono Q9.out.size)
  have BY:On F w (VA c g x src s) W2:=so.out.below WL
  have hq0:W2.cell? (w.heap.size,0)=some (g:Vl):=(Rr.cell (p:=⟨w.heap.size,0,none⟩) (by show w.heap.size<W0.heap.size;rw[hsz.out];omega)).trans (Zt.out.cell 0)
  have Uk:=BY.r0
  have Sk:=BY.m0
  have Ww:=BY.r1
  have ZY:W2.cell? (W.heap.size,2)=some ((xt:Int):Vl):=Re.cell 2
  obtain⟨gb2,YN⟩:=BY.drew.im
  have Ta:=jT YN x.mode xt
  rw[hf,hv]at Ta
  clear hf hv
  have Sn:=λw=>dR v w
  generalize (Code.unpack v).1=op at *
  generalize (Code.unpack v).2.1=ar1 at *
  generalize (Code.unpack v).2.2=ok1 at *
  replace Sn:=Lib.hid Sn
  replace hk:=Lib.hid hk
  refine Rng.AL (Rng.la (Rng.ox ?_))
  refine Rng.jQj (S:=λw'=>w'.cell? (w.heap.size,0)=some (g:Vl)∧w'.cell? (g,0)=some (c.gM:Vl)∧w'.cell? (c.gM,0)=some (c.gI:Vl)∧w'.cell? (g,1)=some (x.mode:Vl)∧w'.cell? (W.heap.size,2)=some ((xt:Int):Vl)) _ kR (by rintro⟨a,w,h,_⟩;cases h) (Rng.mM kR) ?_
  have hS: (λw':World=>w'.cell? (w.heap.size,0)=some (g:Vl)∧w'.cell? (g,0)=some (c.gM:Vl)∧w'.cell? (c.gM,0)=some (c.gI:Vl)∧w'.cell? (g,1)=some (x.mode:Vl)∧w'.cell? (W.heap.size,2)=some ((xt:Int):Vl)) W2.drew:=⟨hq0,Uk,Sk,Ww,ZY⟩
  replace Ta:=Lib.hid Ta
  refine tkL 0 ?_
  refine pt ?_
  refine tkL 1 ?_
  refine pt ?_
  refine tkL 2 ?_
  refine pt ?_
  refine tkL 3 ?_
  refine pt ?_
  refine tkL 4 ?_
  refine pt ?_
  refine tkL 5 ?_
  refine pt ?_
  refine tkL 6 ?_
  refine pt ?_
  refine tkL 7 ?_
  refine pt ?_
  refine tkL 8 ?_
  refine pt ?_
  refine tkL 9 ?_
  refine pt ?_
  refine tkL 10 ?_
  refine pt ?_
  refine tkL 11 ?_
  refine pt ?_
  refine tkL 12 ?_
  refine pt ?_
  refine wpAnyH_ready (rs:=[13]) kR (by simp) ?_
  refine AllReadyH.cons rfl (λK hK=> ?step) ?more
  case more=>exact AllReadyH.nil
  go_simp
  go_wp2_with (go_at_call 73;refine mo Ta.out λw5 h5=>?_)
  replace h5:Below W2.heap.size W2 w5:=((Below.refl W2.heap.size W2).drew).trans h5
  have hs5:W2.heap.size<=w5.heap.size:=h5.size
  have UF:Below W0.heap.size W0 w5:=Rr.trans (h5.mono Rr.size)
  have Rf:On F w (VA c g x src s) w5:=BY.below h5
  have hcK:Blk w5 W.heap.size 43 #[.string ⟨nm.toArray⟩,(hd:Int),(xt:Int),.bool im,.bool hh,.bool il]:=Re.below h5 Re.lt
  have hk5:w5.heap[W0.heap.size]? = some (.deferred (some [])):=(h5.block W0.heap.size (Array.getElem?_eq_some_iff.1 Zo.mark).1).trans Zo.mark
  have p0:w5.cell? (w.heap.size,0)=some (g:Vl):=(UF.cell (p:=⟨w.heap.size,0,none⟩) (by show w.heap.size<W0.heap.size;rw[hsz.out];omega)).trans (Zt.out.cell 0)
  have p1:=Rf.r0
  have p2:=Rf.m0
  have p3:=Rf.r1
  have p5:=Rf.r4
  have p4:w5.cell? (W.heap.size,2)=some ((xt:Int):Vl):=hcK.cell 2
  refine hK.out _ _ ?hS9 (λhaN=> ?rs99)
  case hS9=>exact⟨p0,p1,p2,p3,p4⟩
  clear hK K
  refine tkL 14 ?_
  refine pt ?_
  refine tkL 15 ?_
  refine pt ?_
  refine tkL 16 ?_
  refine pt ?_
  refine tkL 17 ?_
  refine pt ?_
  refine tkL 18 ?_
  refine pt ?_
  refine wpAnyH_done kR ?_ _
  refine⟨rfl,?_⟩
  rcases hk.out with⟨SJ,rfl⟩ | ⟨rfl,RH,rfl⟩
  ·refine Rng.la (Rng.pX ?_)
   rw[show List.range _ = [0,1]from rfl]
   refine Rng.wE (v:= .int .i64 f) (w':=w5) rfl kR (λ_ _=>trivial) (by go_simp) ?_
   refine Rng.um (f:=69) (args:=#[.int .i64 f]) (w':=w5) rfl kR (λ_ _=>trivial) (by go_simp) rfl (λh=>by cases h) ?_
   refine CallsIn.inRound _ (callsIn_wide.2 ((cJ f SJ w5).mono ?_))
   rintro e w6 ⟨rfl,rfl⟩
   exact⟨_,rfl,rfl,UF,hk5⟩
  ·refine Rng.la (Rng.ox ?_)
   gi_wp2_with (refine⟨trivial,?_⟩;gi_at_call 69;refine CallsIn.inRound _ (callsIn_wide.2 ((bL _).mono ?_));rintro e w6 ⟨rfl,rfl⟩)
   refine Rng.la (Rng.ox ?_)
   gi_wp2_with (refine⟨trivial,?_⟩;gi_at_call 92;refine CallsIn.inRound _ (callsIn_wide.2 ((Sn.out _).mono ?_));rintro e w6 ⟨rfl,rfl⟩)
   refine Rng.la (Rng.pX ?_)
   rw[show List.range _ = [0,1,2]from rfl]
   refine Rng.wE (v:= .int .i64 op) (w':=w6) rfl kR (λ_ _=>trivial) (by go_simp) ?_
   refine Rng.wE (v:= .bool false) (w':=w6) rfl kR (λ_ _=>trivial) (by go_simp) ?_
   refine Rng.um (f:=95) (args:=#[.bool false,.int .i64 16]) (w':=w6) rfl kR (λ_ _=>trivial) (by go_simp) rfl (λh=>by cases h) ?_
   refine CallsIn.inRound _ (callsIn_wide.2 ((bR 16 _).mono ?_))
   rintro e w6 ⟨rfl,rfl⟩
   exact⟨_,rfl,rfl,UF,hk5⟩
 case fin=>
  rintro ch W3 ⟨rfl,So,V5⟩
  have IS:Below w.heap.size w (W3.putObj W0.heap.size (.deferred none)):=Rng.uM (Q9.out.trans (So.mono Q9.out.size)) _ (by rw[hsz.out];omega) _
  exact⟨by simp,.inl ⟨_,_,rfl,run_takeDeferred V5,⟨rfl,so.out.below IS⟩⟩⟩
theorem yc(hb: (VA c g x src s).holds w F)(hp:Dcs c src s)(x0:Wd)(rest:List Wd)(Uo:words s.S (dS s)=x0::rest)(hf:s.S.ay x.mode x0.xt false=0)(RG:s.S.ay x.mode x0.xt true=0)(v:Int)(hv:s.S.aP x.mode x0.xt=v)(RH: ((Code.unpack v).1==17)=true)(pv:Int)(pk:Bool)(WX: ∀w,Calls prog 188 #[(17:Int),x.next] w (ax (.tuple #[pv,.bool pk]) w))(hpv:V64 pv)(s2:Mt)(Sw:s2 = { s with S:=s.S.setCell x.mode x0.xt pv }):
 Calls prog 137 #[g] w (Got (.returned (.tuple #[])) (VA c g x src s2) F w):=by
 have haY: ∀k,F k->k<w.heap.size:=λk hk=>(VA c g x src s).lt hb hk
 have Vu: ∀Wb,Below w.heap.size w Wb->(VA c g x src s).holds Wb F:=λWb h=>(VA c g x src s).kept hb (Kept.gZ h) (λ_ _ h=>h)
 have ON: ∀Wb,Below w.heap.size w Wb->Calls prog 62 #[c.gI,x.mode,(x0.xt:Int),pv] Wb.drew (Got (.returned (.int .i64 0)) (VA c g x src s2) F Wb):=λWb h=>by
  have h1:=(On.refl (Vu Wb h)).drew.bG 2 rfl (λF' ha=>fY ha x.mode x0.xt pv hpv)
  rw[RG]at h1
  rw[Sw]
  exact h1
 have Yy: ∀(Wb w7:World),On F Wb (VA c g x src s2) w7->∀{t:TypeId} {cs:Array Value} (k:Nat),¬k<w.heap.size->Blk Wb k t cs->Blk w7 k t cs:=λWb w7 h t cs k hk hB=>by
  obtain⟨F2,_,hkp,_⟩:=h
  exact hB.kept hkp (λh=>hk (haY k h))
 clear Sw
 have so:=(On.refl hb)
 have h7:Blk w c.gS 123 (cm c.gI c.sfr c.sto ((dS s).h:Int) ((dS s).l:Int)):=so.ab 6 (congrArg some hp.dc)
 obtain⟨gb,hi⟩:=so.im
 have h8:=hp.at8
 have r0:=so.r0
 have m1:=so.m1
 have Rd:=so.rlt
 have hml:=so.mlt
 refine(callsIn_wide (n:=3)).1 ?_
 refine callsIn_of_wp_marks func137 rfl trivial ?_ rfl
 simp only[ntmps137,List.size_toArray,List.length_cons,List.length_nil,Nat.reduceAdd,Nat.reduceSub,Array.replicate_succ,Array.replicate_zero,List.push_toArray,List.append_toArray,List.nil_append,List.cons_append]
 obtain⟨Q9,Zt,YH,hsz⟩:=sW w g c.gS
 replace so:=Lib.hid so
 replace h7:=Lib.hid h7
 replace hi:=Lib.hid hi
 replace h8:=Lib.hid h8
 replace Uo:=Lib.hid Uo
 replace Q9:=Lib.hid Q9
 replace Zt:=Lib.hid Zt
 replace YH:=Lib.hid YH
 replace hsz:=Lib.hid hsz
 gi_wp2_with (refine⟨trivial,?_⟩;gi_at_call 39;refine(callsIn_wide.2 (Di _)).mono ?_;rintro e w' ⟨rfl,rfl⟩)
 generalize (w.alloc (.cells #[g] 100)).alloc (.cells #[c.gS] 33)=W0 at *
 refine Rng.Ek oM rfl (enters_of func65 kR rfl) (x0:=#[.agg x0.c]) rfl (uR 2 oM (w.heap.size+1) W0 x0 rest (h7.out.below Q9.out h7.out.lt) ⟨hi.out.blk.below Q9.out hi.out.blk.lt,hi.out.row.below Q9.out hi.out.row.lt,hi.out.ok⟩ h8.out (by rw[hsz.out];omega) (YH.out.cell 0) Uo.out)
  (λW3=> ∃(Wb:World) (F2:Nat->Prop),Below w.heap.size w Wb∧W0.heap.size+2<=Wb.heap.size∧(VA c g x src s2).holds W3 F2∧Kept F Wb W3∧(∀k,F2 k->F k∨Wb.heap.size<=k)) ?round ?fin
 case round=>
  intro W hW hWs
  obtain⟨nm,hd,xt,im,hh,il⟩:=x0
  simp only[Wd.c]
  gi_wp2
  have RY:Below W.heap.size W (W.alloc (.cells #[.string ⟨nm.toArray⟩,(hd:Int),(xt:Int),.bool im,.bool hh,.bool il] 43)):=(Below.refl _ W).alloc (Nat.le_refl _) _
  have hBx:=Blk.new W 43 #[.string ⟨nm.toArray⟩,(hd:Int),(xt:Int),.bool im,.bool hh,.bool il]
  refine⟨RY,?_⟩
  intro W2 Zo
  have hjy:W0.heap.size<=W.heap.size:=hW.size
  have RP:W.heap.size≠W0.heap.size+1:=by omega
  have Re:Blk W2 W.heap.size 43 #[.string ⟨nm.toArray⟩,(hd:Int),(xt:Int),.bool im,.bool hh,.bool il]:=(Zo.other _ RP).trans hBx
  have Rr:Below W0.heap.size W0 W2:=Zo.below
  have WL:Below w.heap.size w W2:=Q9.out.trans (Rr.mono Q9.out.size)
  have BY:On F w (VA c g x src s) W2:=so.out.below WL
  have hq0:W2.cell? (w.heap.size,0)=some (g:Vl):=(Rr.cell (p:=⟨w.heap.size,0,none⟩) (by show w.heap.size<W0.heap.size;rw[hsz.out];omega)).trans (Zt.out.cell 0)
  have Uk:=BY.r0
  have Sk:=BY.m0
  have Ww:=BY.r1
  have ZY:W2.cell? (W.heap.size,2)=some ((xt:Int):Vl):=Re.cell 2
  obtain⟨gb2,YN⟩:=BY.drew.im
  have Ta:=jT YN x.mode xt
  rw[hf,hv]at Ta
  have Sn:=λw=>dR v w
  generalize (Code.unpack v).1=op at *
  generalize (Code.unpack v).2.1=ar1 at *
  generalize (Code.unpack v).2.2=ok1 at *
  replace Sn:=Lib.hid Sn
  replace ON:=Lib.hid ON
  replace Yy:=Lib.hid Yy
  replace WX:=Lib.hid WX
  replace Vu:=Lib.hid Vu
  replace Ta:=Lib.hid Ta
  replace Zo:=Lib.hid Zo
  replace so:=Lib.hid so
  refine wpIn_block ?_
  refine Rng.ND ?_
  refine Rng.jQj (S:=λw'=>w'.cell? (w.heap.size,0)=some (g:Vl)∧w'.cell? (g,0)=some (c.gM:Vl)∧w'.cell? (c.gM,0)=some (c.gI:Vl)∧w'.cell? (g,1)=some (x.mode:Vl)∧w'.cell? (W.heap.size,2)=some ((xt:Int):Vl)) _ kR (by rintro⟨a,w,h,_⟩;cases h) (Rng.mM kR) ?_
  have hS: (λw':World=>w'.cell? (w.heap.size,0)=some (g:Vl)∧w'.cell? (g,0)=some (c.gM:Vl)∧w'.cell? (c.gM,0)=some (c.gI:Vl)∧w'.cell? (g,1)=some (x.mode:Vl)∧w'.cell? (W.heap.size,2)=some ((xt:Int):Vl)) W2.drew:=⟨hq0,Uk,Sk,Ww,ZY⟩
  refine tkL 0 ?_
  refine pt ?_
  refine tkL 1 ?_
  refine pt ?_
  refine tkL 2 ?_
  refine pt ?_
  refine tkL 3 ?_
  refine pt ?_
  refine tkL 4 ?_
  refine pt ?_
  refine tkL 5 ?_
  refine pt ?_
  refine tkL 6 ?_
  refine pt ?_
  refine tkL 7 ?_
  refine pt ?_
  refine tkL 8 ?_
  refine pt ?_
  refine tkL 9 ?_
  refine pt ?_
  refine tkL 10 ?_
  refine pt ?_
  refine tkL 11 ?_
  refine pt ?_
  refine tkL 12 ?_
  refine pt ?_
  refine wpAnyH_ready (rs:=[13]) kR (by simp) ?_
  refine AllReadyH.cons rfl (λK hK=> ?step) ?more
  case more=>exact AllReadyH.nil
  go_simp
  go_wp2_with (go_at_call 73;refine mo Ta.out λw5 h5=>?_)
  replace h5:Below W2.heap.size W2 w5:=((Below.refl W2.heap.size W2).drew).trans h5
  have hs5:W2.heap.size<=w5.heap.size:=h5.size
  have UF:Below W0.heap.size W0 w5:=Rr.trans (h5.mono Rr.size)
  have Rf:On F w (VA c g x src s) w5:=BY.below h5
  have hcK:Blk w5 W.heap.size 43 #[.string ⟨nm.toArray⟩,(hd:Int),(xt:Int),.bool im,.bool hh,.bool il]:=Re.below h5 Re.lt
  have hk5:w5.heap[W0.heap.size]? = some (.deferred (some [])):=(h5.block W0.heap.size (Array.getElem?_eq_some_iff.1 Zo.out.mark).1).trans Zo.out.mark
  have p0:w5.cell? (w.heap.size,0)=some (g:Vl):=(UF.cell (p:=⟨w.heap.size,0,none⟩) (by show w.heap.size<W0.heap.size;rw[hsz.out];omega)).trans (Zt.out.cell 0)
  have p1:=Rf.r0
  have p2:=Rf.m0
  have p3:=Rf.r1
  have p5:=Rf.r4
  have p4:w5.cell? (W.heap.size,2)=some ((xt:Int):Vl):=hcK.cell 2
  refine hK.out _ _ ?hS9 (λhaN=> ?rs99)
  case hS9=>exact⟨p0,p1,p2,p3,p4⟩
  clear hK K
  refine tkL 14 ?_
  refine pt ?_
  refine tkL 15 ?_
  refine pt ?_
  refine tkL 16 ?_
  refine pt ?_
  refine tkL 17 ?_
  refine pt ?_
  refine tkL 18 ?_
  refine pt ?_
  refine wpAnyH_done kR ?_ _
  refine⟨rfl,?_⟩
  refine Rng.LF ?_
  gi_wp2_with (refine⟨trivial,?_⟩;gi_at_call 69;refine CallsIn.inRound _ (callsIn_wide.2 ((bL _).mono ?_));rintro e w6 ⟨rfl,rfl⟩)
  refine Lib.hid (Rng.LF ?_)
  gi_wp2_with (refine⟨trivial,?_⟩;gi_at_call 92;refine CallsIn.inRound _ (callsIn_wide.2 ((Sn.out _).mono ?_));rintro e w6 ⟨rfl,rfl⟩)
  refine Lib.hid (Rng.LF ?_)
  gi_wp2_with (refine⟨trivial,?_⟩;gi_at_call 95;refine CallsIn.inRound _ (callsIn_wide.2 ((bz _ _).mono ?_));rintro e w6 ⟨rfl,rfl⟩)
  refine Lib.hid (Rng.LF ?_)
  gi_wp2_with (refine⟨trivial,?_⟩;gi_at_call 188;refine CallsIn.inRound _ (callsIn_wide.2 ((WX.out _).mono ?_));rintro e w6 ⟨rfl,rfl⟩)
  refine Lib.hid (Rng.ND ?_)
  have hgP:Below w.heap.size w w6:=Q9.out.trans (UF.mono Q9.out.size)
  have ZJ:=ON.out w6 hgP
  have hbg2:=Zo.out.mark
  have Ug:W0.heap.size+1<W2.heap.size:=by have:=Zo.out.size;have h2:=RY.size;rw[World.size_alloc]at this;omega
  have hie:Blk w6 w.heap.size 100 #[g]:=Zt.out.below UF (by rw[hsz.out];omega)
  refine Rng.jQj (S:=(λw':World=>w'.cell? (w.heap.size,0)=some (g:Vl)∧w'.cell? (g,0)=some (c.gM:Vl)∧w'.cell? (c.gM,0)=some (c.gI:Vl)∧w'.cell? (g,1)=some (x.mode:Vl)∧w'.cell? (W.heap.size,2)=some ((xt:Int):Vl))) _ kR (by rintro⟨a,w,h,_⟩;cases h) (Rng.mM kR) ?_
  have hSb: (λw':World=>w'.cell? (w.heap.size,0)=some (g:Vl)∧w'.cell? (g,0)=some (c.gM:Vl)∧w'.cell? (c.gM,0)=some (c.gI:Vl)∧w'.cell? (g,1)=some (x.mode:Vl)∧w'.cell? (W.heap.size,2)=some ((xt:Int):Vl)) w6.drew:=⟨p0,p1,p2,p3,p4⟩
  replace ZJ:=Lib.hid ZJ
  refine tkL 0 ?_
  refine pt ?_
  refine tkL 1 ?_
  refine pt ?_
  refine tkL 2 ?_
  refine pt ?_
  refine tkL 3 ?_
  refine pt ?_
  refine tkL 4 ?_
  refine pt ?_
  refine tkL 5 ?_
  refine pt ?_
  refine tkL 6 ?_
  refine pt ?_
  refine tkL 7 ?_
  refine pt ?_
  refine tkL 8 ?_
  refine pt ?_
  refine tkL 9 ?_
  refine pt ?_
  refine tkL 10 ?_
  refine pt ?_
  refine tkL 11 ?_
  refine pt ?_
  refine tkL 12 ?_
  refine pt ?_
  refine tkL 13 ?_
  refine pt ?_
  refine wpAnyH_ready (rs:=[14]) kR (by simp) ?_
  refine AllReadyH.cons rfl (λK hK=> ?step2) ?more2
  case more2=>exact AllReadyH.nil
  go_simp
  go_wp2_with (go_at_call 62;refine mo ZJ.out λw7 h7w=>?_)
  have hs7:=h7w.size
  have hB7:Blk w7 w.heap.size 100 #[g]:=Yy.out _ _ h7w _ (by have:=hsz.out;omega) hie
  have hX7:Blk w7 W.heap.size 43 #[.string ⟨nm.toArray⟩,(hd:Int),(xt:Int),.bool im,.bool hh,.bool il]:=Yy.out _ _ h7w _ (by have:=hsz.out;omega) hcK
  have p70:=hB7.cell 0
  have p71:=h7w.r0
  have p72:=h7w.m0
  have p73:=h7w.r1
  have p74:w7.cell? (W.heap.size,2)=some ((xt:Int):Vl):=hX7.cell 2
  refine hK.out _ _ ?hS92 (λhaN=> ?rs992)
  case hS92=>exact⟨p70,p71,p72,p73,p74⟩
  clear hK K
  refine wpAnyH_ready (rs:=[15]) kR (by simp) ?_
  refine AllReadyH.cons rfl (λK hK=> ?step3) ?more3
  case more3=>exact AllReadyH.nil
  go_simp
  go_wp2_with (go_at_call 69;refine(bL _).mono ?_;rintro e w8 ⟨rfl,rfl⟩)
  refine hK.out _ _ ⟨p70,p71,p72,p73,p74⟩ (λhaN=> ?_)
  clear hK K
  refine wpAnyH_done kR ?_ _
  refine⟨rfl,?_⟩
  gi_wp2
  obtain⟨F2,hV,⟨k1,k2,k3,k4,k5⟩,Wx⟩:=h7w
  have hs0:=hsz.out
  have R1:=h5.size
  have hx0:=h5.block W0.heap.size oM
  have YI:=h5.block (W0.heap.size+1) Ug
  exact⟨trivial,⟨_,hgP,by omega,F2,hV,⟨k1,k2,k3,k4,k5⟩,Wx⟩,(k5 _ oM (λh=>by have:=haY _ h;omega)).trans hx0,(k5 _ oM (λh=>by have:=haY _ h;omega)).trans YI⟩
 case fin=>
  rintro W3 W4 ⟨Wb,F2,hbb,ZV,hV,⟨k1,k2,k3,k4,k5⟩,Wx⟩ hgE Zj h1 h2 h3 hf6
  have hs0:=hsz.out
  have hsw:=hbb.size
  gi_wp2
  have IS:On F w (VA c g x src s2) (W4.putObj W0.heap.size (.deferred none)):=by
   refine⟨F2,(VA c g x src s2).kept hV (T:=λk=>k=W0.heap.size∨k=W0.heap.size+1) ⟨h1,h2,h3,by rw[World.putObj_size];omega,λk hk hn=> ?_⟩ ?_,⟨h1.trans (k1.trans hbb.os),h2.trans (k2.trans hbb.tape),h3.trans (k3.trans hbb.output),by rw[World.putObj_size];omega,λk hk hn=> ?_⟩,λk hk=>(Wx k hk).imp id λh=>by omega⟩
   ·exact(World.putObj_heap_other (λe=>hn (.inl e))).trans (hgE k (λe=>hn (.inr e)))
   ·rintro k hk (rfl|rfl)
    ·rcases Wx _ hk with h|h
     ·have:=haY _ h;omega
     ·omega
    ·rcases Wx _ hk with h|h
     ·have:=haY _ h;omega
     ·omega
   ·exact(World.putObj_heap_other oM).trans ((hgE k oM).trans ((k5 k oM hn).trans (hbb.block k hk)))
  refine⟨by simp,.inl ⟨_,_,rfl,run_takeDeferred hf6,?_⟩⟩
  exact⟨.tuple #[],by simp[results,results137,go_sem],rfl,IS⟩
end
theorem uQ(S:Img)(D:Dc): ∀(k:Nat) (a:Int),∀x∈eI S D k a,D.fr S<=x.xt
 | 0,_,x,h=>by cases h
 | k+1,a,x,h=>by
   unfold eI at h
   split at h
   ·cases h
   ·rename_i w next hw
    have h1:D.fr S<=w.xt:=by
     unfold eB at hw
     split at hw
     ·cases hw
     ·rename_i h0
      simp only at hw
      split at hw
      ·cases hw
      ·simp only[Option.some.injEq,Prod.mk.injEq]at hw
       obtain⟨rfl,_⟩:=hw
       show D.fr S<=up _
       have:=(ee (a.toNat+9+ (S.b.getD (a.toNat+8) 0).toNat % 32)).1
       omega
    split at h
    ·rw[List.mem_singleton.1 h];exact h1
    ·rcases List.mem_cons.1 h with h|h
     ·rw[h];exact h1
     ·exact uQ S D k next x h
theorem AR(S:Img)(m a:Int)(ha: (S.beg 3:Int)<=a)(h:S.ay m a false=0):S.ay m a true=0:=by
 have hr:S.region a≠1∧S.region a≠2:=by
  have h2:S.beg 2<=S.beg 3:=by show S.k<=S.k+S.s;omega
  unfold Img.region
  constructor <;> ·repeat' split
                   all_goals omega
 unfold Img.ay at *
 split at h
 ·cases h
 rename_i h8
 rw[if_neg h8]
 split at h
 ·rename_i YG
  rw[if_pos]
  unfold Img.aO at *
  simp only[Bool.or_eq_true,Bool.and_eq_true]at *
  rcases YG with YG| ⟨h1,h2⟩
  ·exact .inl YG
  ·refine .inr ⟨h1,?_⟩
   unfold Img.lets at *
   simp only[if_true,Bool.false_eq_true,if_false]at *
   unfold Img.may at *
   split at h2
   ·simp at h2
   ·rename_i hm
    rw[if_neg hm]
    split
    ·rename_i h0
     rw[if_neg (λh=>hr.1 h.1)]
     rfl
    ·rename_i h0
     rw[if_neg h0]at h2
     rw[if_neg (λh=>h.elim hr.1 (λh=>hr.2 h.1))]at h2⊢
     split at h2
     ·rename_i h3;rw[if_pos h3];rfl
     ·simp at h2
 ·cases h
section
variable {w:World}{F:Nat->Prop}{c:Vc}{g:Nat}{x:Rn}{src:Value}{s:Mt}
theorem HY(x:Rn)(s:Mt): (bh x s).x=x:=by
 unfold bh
 split
 ·rfl
 ·split
  ·rfl
  ·split<;>rfl
theorem Cv(hs:s.Ok)(x:Rn): (bh x s).s.Ok:=by
 unfold bh
 split
 ·exact hs
 ·split
  ·exact hs
  ·split
   ·exact hs
   ·exact⟨hs.pd,hs.pr,hs.d,hs.r,hs.du,hs.dv,hs.ru,hs.rv⟩
theorem NG(hb: (VA c g x src s).holds w F)(hp:Dcs c src s)(hx:x.Ok):
 Calls prog 137 #[g] w (Got (bp (bh x s).f) (VA c g x src (bh x s).s) F w):=by
 rcases Uo:words s.S (dS s)with _| ⟨x0,rest⟩
 ·have e:bh x s= ⟨16,x,s⟩:=by unfold bh;rw[Uo]
  rw[e]
  exact JR hb hp Uo
 ·have Ua: (s.S.beg 3:Int)<=(x0.xt:Int):=by
   have h1:=uQ s.S (dS s) ((dS s).l+1) (dS s).l x0 (by show x0∈words s.S (dS s);rw[Uo];simp)
   have h2: (dS s).fr s.S=s.S.beg 3+8:=rfl
   omega
  by_cases hf:s.S.ay x.mode x0.xt false=0
  ·have RG:=AR s.S x.mode x0.xt Ua hf
   by_cases RH: (Code.unpack (s.S.aP x.mode x0.xt)).1=17
   ·have e:bh x s= ⟨0,x,{ s with S:=s.S.setCell x.mode x0.xt (if Code.right 17 x.next=true then 256*x.next+17 else 0) }⟩:=by
     unfold bh
     rw[Uo]
     simp only[hf,RH,ne_eq,not_true,if_false]
    rw[e]
    rcases hr:Code.right 17 x.next with _|_
    ·exact yc hb hp x0 rest Uo hf RG _ rfl (by rw[RH];rfl) 0 false (λw=>KQ 17 x.next w hr) (by unfold V64;omega) _ rfl
    ·have YG:=Code.ud hr
     exact yc hb hp x0 rest Uo hf RG _ rfl (by rw[RH];rfl) (256*x.next+17) true (λw=>I4 17 x.next w hr) (by unfold V64;omega) _ rfl
   ·have e:bh x s= ⟨16,x,s⟩:=by
     unfold bh
     rw[Uo]
     simp only[hf,ne_eq,not_true,if_false]
     rw[if_pos RH]
    rw[e]
    exact tT hb hp x0 rest Uo _ _ _ hf rfl (.inr ⟨rfl,by simpa using RH,rfl⟩)
  ·have e:bh x s= ⟨s.S.ay x.mode x0.xt false,x,s⟩:=by
    unfold bh
    rw[Uo]
    simp only
    rw[if_pos hf]
   rw[e]
   have:=tT hb hp x0 rest Uo _ _ _ rfl rfl (.inl ⟨hf,rfl⟩)
   rw[cB hf]
   exact this
end
def tH(P:Kn)(f:FuncId)(i:aq)(q:Rn->Mt->Rs):Prop:=
 ∀(c:Vc) (g:Nat) (x:Rn) (src:Value) (s:Mt) (ba:Nat) (w:World) (F:Nat->Prop),P c src s->s.Ok->x.Ok->V64 i.arg->V64 i.lit->cw i x s->
  (aa (ae ba 3 (ag (s.args (Code.ai i.op).1.toNat))::vL c g x src s)).holds w F->
  Calls prog f #[g,i.v,.slice ba (Code.ai i.op).1.toNat (Code.ai i.op).1.toNat] w (Got (bp (q x s).f) (aa (ae ba 3 (ag (s.args (Code.ai i.op).1.toNat))::vL c g (q x s).x src (q x s).s)) F w)
theorem tz(P:Kn)(i:aq)(q:Rn->Mt->Rs)(RH:i.op<=20)(hq:tH P 102 i q):ej P i q:=by
 intro c g x src s w F hp hs hx RM Ry IT hb
 obtain⟨op,arg,lit,cells⟩:=i
 simp only at RH
 show Calls _ _ #[_,.agg #[op,arg,lit,cells]] _ _
 have so:=(On.refl hb).box #[op,arg,lit,cells] 164
 have hw:=nA op
 have Sh:=λw=>jn op w
 obtain⟨n,hn⟩: ∃n:Nat,(Code.ai op).1= (n:Int):=⟨(Code.ai op).1.toNat,by omega⟩
 have Zx: (Code.ai op).1.toNat=n:=by omega
 have hn8:n<=8:=by omega
 rw[hn]at Sh
 generalize (Code.ai op).2=ly at *
 have hargs:=λw1 (h1:On F w (aa (ae w.heap.size 164 #[op,arg,lit,cells]::vL c g x src s)) w1)=>h1.aM λF' RJ _ _=>j6 RJ hs n hn8
 have V9: ∀w1 w2 ba,On F w (aa (ae w1 164 #[op,arg,lit,cells]::ae ba 3 (ag (s.args n))::vL c g x src s)) w2->
  Calls prog 102 #[g,.agg #[op,arg,lit,cells],.slice ba n n] w2 (Got (bp (q x s).f) (aa (ae w1 164 #[op,arg,lit,cells]::ae ba 3 (ag (s.args n))::vL c g (q x s).x src (q x s).s)) F w):=by
  intro w1 w2 ba h
  refine h.aM λF' RJ _ _=> ?_
  have h1:=hq c g x src s ba w2 F' hp hs hx RM Ry IT
  simp only[Zx]at h1
  exact h1 RJ
 have hle:decide (op<=20)=true:=decide_eq_true RH
 generalize q x s=Q at *
 obtain⟨f,x',s'⟩:=Q
 simp only at V9⊢
 replace Sh:=Lib.hid Sh
 replace hargs:=Lib.hid hargs
 replace V9:=Lib.hid V9
 replace so:=Lib.hid so
 clear hb hq hs hx IT hw hn Zx RM Ry RH
 go_enter func72,ntmps72
 go_wp2_with fail
 refine mo (Sh.out _) λw1 Rh=>?_
 have M0:=so.out.below Rh
 replace hargs:=Lib.hid (hargs.out _ M0)
 clear Rh
 go_wp2_with fail
 refine mo hargs.out λw2 BY=>?_
 have b0:w2.cell? (w.heap.size,0)=some (op:Vl):=(BY.ab 0 rfl).cell 0
 have b1:w2.cell? (w.heap.size,1)=some (arg:Vl):=(BY.ab 0 rfl).cell 1
 have b2:w2.cell? (w.heap.size,2)=some (lit:Vl):=(BY.ab 0 rfl).cell 2
 have b3:w2.cell? (w.heap.size,3)=some (cells:Vl):=(BY.ab 0 rfl).cell 3
 replace V9:=Lib.hid (V9.out _ _ _ BY)
 clear BY M0
 go_wp2_with fail
 refine V9.out.mono ?_
 rintro e w3 ⟨he,Rb⟩
 have Ra:=Lib.hid Rb.tail.tail
 clear Rb
 by_cases hf:f=0
 ·have SH:bp f = .returned (.tuple #[]):=by unfold bp;rw[if_pos hf]
  rw[SH]at he
  subst he
  replace SH:=Lib.hid SH
  clear hf
  go_wp2
  go_end0
  exact⟨SH.out.symm,Ra.out⟩
 ·have SH:bp f = .panicked [flt f]:=by unfold bp;rw[if_neg hf]
  rw[SH]at he
  subst he
  replace SH:=Lib.hid SH
  clear hf
  go_wp2
  exact⟨rfl,SH.out.symm,Ra.out⟩
def iX(x:Rn)(s:Mt):Rs:=if(bh x s).f=0 then back x (bh x s).s else bh x s
theorem Ha(arg lit cells:Int):tH Dcs 102 ⟨18,arg,lit,cells⟩ iX:=by
 intro c g x src s ba w F hp hs hx RM Ry IT hb
 have so:=(On.refl hb).box #[(18:Int),arg,lit,cells] 164
 have h0:0<s.r:=by
  have h1:=IT.off
  have h2:=hx.base
  have e: (returns 18 arg s.same).1=1:=rfl
  simp only[e]at h1
  omega
 have hdn:=so.bj 2 (by simp) λF'' SG _ _=>NG SG hp hx
 have hr: (bh x s).s.r=s.r:=by
  unfold bh
  split
  ·rfl
  ·split
   ·rfl
   ·split<;>rfl
 have hS2:=Cv hs x
 have SE:=HY x s
 have hbf: (back x (bh x s).s).f=0:=by unfold back;rw[if_neg (by rw[hr];omega)]
 have Vu: ∀W,On F w (aa (ae w.heap.size 164 #[(18:Int),arg,lit,cells]::ae ba 3 (ag (s.args (Code.ai 18).1.toNat))::vL c g x src (bh x s).s)) W->
  Calls prog 136 #[g] W (Got (.returned (.tuple #[])) (aa (ae w.heap.size 164 #[(18:Int),arg,lit,cells]::ae ba 3 (ag (s.args (Code.ai 18).1.toNat))::vL c g (back x (bh x s).s).x src (back x (bh x s).s).s)) F w):=λW hW=>hW.bj 2 (by simp) λF'' SG _ _=>BJ SG hS2 (by rw[hr];exact h0)
 have YY:Calls prog 137 #[g] (w.alloc (.cells #[(18:Int),arg,lit,cells] 164)) (Got (bp (bh x s).f) (aa (ae w.heap.size 164 #[(18:Int),arg,lit,cells]::ae ba 3 (ag (s.args (Code.ai 18).1.toNat))::vL c g x src (bh x s).s)) F w):=hdn
 have hq:iX x s=if(bh x s).f=0 then⟨0,(back x (bh x s).s).x,(back x (bh x s).s).s⟩else⟨(bh x s).f,x,(bh x s).s⟩:=by
  unfold iX
  by_cases h: (bh x s).f=0
  ·rw[if_pos h,if_pos h]
   generalize back x (bh x s).s=Q at *
   obtain⟨f,x1,s1⟩:=Q
   simp only at hbf
   rw[hbf]
  ·rw[if_neg h,if_neg h]
   generalize bh x s=Q at *
   obtain⟨f,x1,s1⟩:=Q
   simp only at SE
   rw[SE]
 rw[hq]
 show Calls _ _ #[_,.agg #[(18:Int),arg,lit,cells],_] _ (Got _ (aa (ae ba 3 (ag (s.args (Code.ai 18).1.toNat))::_)) _ _)
 clear hq hbf SE hS2 hr hdn
 generalize (back x (bh x s).s).x=x' at *
 generalize (back x (bh x s).s).s=s' at *
 generalize (bh x s).s=s2 at *
 generalize (bh x s).f=f at *
 generalize ag (s.args (Code.ai 18).1.toNat)=ac at *
 generalize (Code.ai 18).1.toNat=n at *
 replace Vu:=Lib.hid Vu
 clear hb hs hx IT hp h0 so
 by_cases hf:f=0
 ·simp only[if_pos hf]
  have e1:bp f = .returned (.tuple #[]):=by unfold bp;rw[if_pos hf]
  rw[e1]at YY
  have e2:bp 0 = .returned (.tuple #[]):=rfl
  simp only[e2]
  replace YY:=Lib.hid YY
  clear e1 e2 hf
  go_enter func102,ntmps102
  go_wp2_with fail
  refine mo YY.out λw1 h1=>?_
  replace h1:=Lib.hid (Vu.out _ h1)
  simp only[]
  go_wp2_with fail
  refine mo h1.out λw2 h2=>?_
  replace h2:=Lib.hid h2
  simp only[]
  go_wp2
  go_end0
  exact⟨rfl,h2.out.tail⟩
 ·simp only[if_neg hf]
  rw[cB hf]at YY⊢
  replace YY:=Lib.hid YY
  replace hf:=Lib.hid hf
  go_enter func102,ntmps102
  go_wp2_with fail
  refine mo YY.out λw1 h1=>?_
  exact⟨rfl,rfl,h1.tail⟩
