/- Chapter 11: a word laid into both lists. Conditions: as written. Printed by gen_vlaid.py. -/
import Derived.Test.YtngdikikclfgjaaGreatDoorZ20
import Derived.Test.YtngdikikclfgjaaGreatDoorZ22
import Derived.Test.YtngdikikclfgjaaGreatDoorZVRng
open Go.Proofs.Tryz
namespace Go.Proofs.YtngdikikclfgjaaGreatDoor
set_option linter.unusedVariables false
set_option linter.unusedSimpArgs false
set_option maxHeartbeats 8000000
set_option maxRecDepth 100000
open Go.RowKit Go.Lib Go.Deep
namespace Vm
def laidL(gI g gW:Nat)(wcs:Array Value)(gr gb bg en cap:Nat)(q p:Img×Dc):List Asr:=
 [DcA gI g (bg+8) en q.2,ImgA gI q.1,BlkA gW 81 wcs,RDicA gr gb bg en cap false p.2,RbA gb p.1]
theorem Grew.at8{q q':Img×Dc}{fr en:Nat}(h:Grew q q')(h8:At8 q.1 q.2 fr en):At8 q'.1 q'.2 fr en:=h8.next h.img h.dc h.al h.rg
section
variable {w W:World}{F:Nat->Prop}{B:Asr}{gI g gW gr gb bg en cap:Nat}{wcs:Array Value}{q p:Img×Dc}
theorem lp_create(h:On F w (AllA (B::laidL gI g gW wcs gr gb bg en cap q p)) W)(h8:At8 q.1 q.2 (bg+8) en)(s:ByteArray)(hsz:s.size<=9223372036854775807):
 Calls prog 74 #[g,.string s] W (Got (.returned (.tuple #[(q.2.createV q.1 s.data.toList),(q.2.createF q.1 s.data.toList)])) (AllA (B::laidL gI g gW wcs gr gb bg en cap (q.2.createS q.1 s.data.toList,q.2.createD q.1 s.data.toList) p)) F w):=
 h.callAt2G 1 2 (by decide) rfl rfl λF' hb=>d_create hb h8 s hsz
theorem lr_create(h:On F w (AllA (B::laidL gI g gW wcs gr gb bg en cap q p)) W)(h8:At8 p.1 p.2 (bg+8) en)(hs:p.2.shut p.1=false)(s:ByteArray)(hsz:s.size<=9223372036854775807):
 Calls prog 75 #[gr,.string s] W (Got (.returned (.tuple #[(p.2.createV p.1 s.data.toList),(p.2.createF p.1 s.data.toList)])) (AllA (B::laidL gI g gW wcs gr gb bg en cap q (p.2.createS p.1 s.data.toList,p.2.createD p.1 s.data.toList))) F w):=
 h.callAt2G 4 5 (by decide) rfl rfl λF' hb=>rd_create (On.refl hb) h8 hs s hsz
theorem lp_show(h:On F w (AllA (B::laidL gI g gW wcs gr gb bg en cap q p)) W)(h8:At8 q.1 q.2 (bg+8) en):
 Calls prog 76 #[g] W (Got (.returned (.tuple #[])) (AllA (B::laidL gI g gW wcs gr gb bg en cap (q.2.turnS q.1 showT,q.2) p)) F w):=
 h.callAt2G 1 2 (by decide) rfl rfl λF' hb=>d_show hb h8
theorem lp_imm(h:On F w (AllA (B::laidL gI g gW wcs gr gb bg en cap q p)) W)(h8:At8 q.1 q.2 (bg+8) en):
 Calls prog 78 #[g] W (Got (.returned (.tuple #[])) (AllA (B::laidL gI g gW wcs gr gb bg en cap (q.2.turnS q.1 immT,q.2) p)) F w):=
 h.callAt2G 1 2 (by decide) rfl rfl λF' hb=>d_immediate hb h8
theorem lr_show(h:On F w (AllA (B::laidL gI g gW wcs gr gb bg en cap q p)) W)(h8:At8 p.1 p.2 (bg+8) en)(hs:p.2.shut p.1=false):
 Calls prog 77 #[gr,(32:Int),(0:Int)] W (Got (.returned (.tuple #[])) (AllA (B::laidL gI g gW wcs gr gb bg en cap q (p.2.turnS p.1 showT,p.2))) F w):=
 h.callAt2G 4 5 (by decide) rfl rfl λF' hb=>rd_flag (On.refl hb) h8 hs 32 0 showT flags_show oM oM
theorem lr_imm(h:On F w (AllA (B::laidL gI g gW wcs gr gb bg en cap q p)) W)(h8:At8 p.1 p.2 (bg+8) en)(hs:p.2.shut p.1=false):
 Calls prog 77 #[gr,(0:Int),(64:Int)] W (Got (.returned (.tuple #[])) (AllA (B::laidL gI g gW wcs gr gb bg en cap q (p.2.turnS p.1 immT,p.2))) F w):=
 h.callAt2G 4 5 (by decide) rfl rfl λF' hb=>rd_flag (On.refl hb) h8 hs 0 64 immT flags_imm oM oM
theorem lp_comma(h:On F w (AllA (B::laidL gI g gW wcs gr gb bg en cap q p)) W)(h8:At8 q.1 q.2 (bg+8) en)(v:Int)(hv:V64 v):
 Calls prog 79 #[g,v] W (Got (.returned (q.2.commaF q.1)) (AllA (B::laidL gI g gW wcs gr gb bg en cap (q.2.commaS q.1 v,q.2.commaD q.1) p)) F w):=
 h.callAt2G 1 2 (by decide) rfl rfl λF' hb=>d_comma hb h8 v hv
theorem lr_comma(h:On F w (AllA (B::laidL gI g gW wcs gr gb bg en cap q p)) W)(h8:At8 p.1 p.2 (bg+8) en)(hs:p.2.shut p.1=false)(v:Int)(hv:V64 v):
 Calls prog 80 #[gr,v] W (Got (.returned (p.2.commaF p.1)) (AllA (B::laidL gI g gW wcs gr gb bg en cap q (p.2.commaS p.1 v,p.2.commaD p.1))) F w):=
 h.callAt2G 4 5 (by decide) rfl rfl λF' hb=>rd_comma (On.refl hb) h8 hs v hv
def wrdC(x:Wrd)(A:Option Addr)(cp:Nat):Array Value:=#[.string x.name,.bool x.hid,.bool x.imm,.slice A x.cells.length cp]
theorem wrd_cells{L:List Asr}{x:Wrd}{A:Option Addr}{cp bx:Nat}(h:On F w (AllA (BlkA bx 27 (wrdC x A cp)::L)) W):W.cell? (bx,0)=some (.string x.name)∧W.cell? (bx,1)=some (.bool x.hid)∧W.cell? (bx,2)=some (.bool x.imm)∧W.cell? (bx,3)=some (.slice A x.cells.length cp):=
 let hb:=h.blkAt 0 rfl
 ⟨hb.cell 0,hb.cell 1,hb.cell 2,hb.cell 3⟩
theorem laid_bad(hb: (AllA (laidL gI g gW wcs gr gb bg en cap q q)).holds w F)(h8:At8 q.1 q.2 (bg+8) en)(hsh:q.2.shut q.1=false)(x:Wrd)(A:Option Addr)(cp:Nat)(hsz:x.name.size<=9223372036854775807)
 (kernel:Bool) (gk gs:Nat) (hw1:wcs[1]? = some (gk:Vl)) (hw2:wcs[2]? = some (gs:Vl)) (hgr:gr=if kernel then gk else gs) (hf:q.2.createF q.1 x.name.data.toList≠0):
 Calls prog 52 #[g,gW,.bool kernel,.agg #[.string x.name,.bool x.hid,.bool x.imm,.slice A x.cells.length cp]] w (Got (.returned (.bool true)) (AllA (laidL gI g gW wcs gr gb bg en cap q q)) F w):=by
 have hon:=(On.refl hb).box (wrdC x A cp) 27
 have e1: (q.2.createS q.1 x.name.data.toList,q.2.createD q.1 x.name.data.toList)=q:=by
  unfold Dc.createS Dc.createD
  rw[if_neg hf,if_neg hf]
 have hp:=lp_create hon h8 x.name hsz
 rw[e1]at hp
 have hr:=λW (h:On F w (AllA (BlkA w.heap.size 27 (wrdC x A cp)::laidL gI g gW wcs gr gb bg en cap q q)) W)=>lr_create h h8 hsh x.name hsz
 rw[e1]at hr
 have hz:=λW (h:On F w (AllA (BlkA w.heap.size 27 (wrdC x A cp)::laidL gI g gW wcs gr gb bg en cap q q)) W)=>wrd_cells h
 have hwb:Blk w gW 81 wcs:=(On.refl hb).blkAt 2 rfl
 have cw1:=(hwb.cell 1).trans hw1
 have cw2:=(hwb.cell 2).trans hw2
 have hf2: (q.2.createF q.1 x.name.data.toList != 0)=true:=by simpa using hf
 have hf3: (q.2.createF q.1 x.name.data.toList != q.2.createF q.1 x.name.data.toList)=false:=by simp
 generalize q.2.createV q.1 x.name.data.toList=cv at *
 generalize q.2.createF q.1 x.name.data.toList=cf at *
 have hwlt:=hwb.lt
 unfold wrdC at hp hr hz hon
 replace hon:=Lib.hid hon
 replace hp:=Lib.hid hp
 replace hr:=Lib.hid hr
 replace hz:=Lib.hid hz
 clear hb hwb hf h8 hsh e1 hw1 hw2
 cases kernel with
 | true=>
   simp only[if_true]at hgr
   subst hgr
   go_enter func52,ntmps52
   go_wp2_with fail
   refine mo hp.out λw1 h1=>?_
   obtain⟨z0,z1,z2,z3⟩:=hz.out _ h1
   have hr1:=Lib.hid (hr.out _ h1)
   clear h1
   go_wp2_with fail
   refine mo hr1.out λw2 h2=>?_
   replace h2:=Lib.hid h2
   go_wp2
   go_ret
   exact⟨rfl,h2.out.tail⟩
 | false=>
   simp only[Bool.false_eq_true,if_false]at hgr
   subst hgr
   go_enter func52,ntmps52
   go_wp2_with fail
   refine mo hp.out λw1 h1=>?_
   obtain⟨z0,z1,z2,z3⟩:=hz.out _ h1
   have hr1:=Lib.hid (hr.out _ h1)
   clear h1
   go_wp2_with fail
   refine mo hr1.out λw2 h2=>?_
   replace h2:=Lib.hid h2
   go_wp2
   go_ret
   exact⟨rfl,h2.out.tail⟩
theorem commasS_cons(v:Int)(l:List Int)(q:Img×Dc):commasS (v::l) q=if q.2.commaF q.1=0 then commasS l (q.2.commaS q.1 v,q.2.commaD q.1)else q:=rfl
def showQ(hid:Bool)(q:Img×Dc):Img×Dc:=if hid then q else(q.2.turnS q.1 showT,q.2)
def immQ(imm:Bool)(q:Img×Dc):Img×Dc:=if imm then(q.2.turnS q.1 immT,q.2)else q
theorem mark_eq(x:Wrd)(q:Img×Dc): (markS x q.1 q.2,q.2)=immQ x.imm (showQ x.hid q):=by
 unfold markS immQ showQ
 cases x.imm<;>cases x.hid<;>rfl
theorem grew_showQ(hid:Bool){q:Img×Dc}(h1:q.1.Ok)(h2:q.2.Ok q.1):Grew q (showQ hid q):=by
 unfold showQ
 split
 ·exact Grew.refl h1 h2
 ·exact grew_show h1 h2
theorem grew_immQ(imm:Bool){q:Img×Dc}(h1:q.1.Ok)(h2:q.2.Ok q.1):Grew q (immQ imm q):=by
 unfold immQ
 split
 ·exact grew_imm h1 h2
 ·exact Grew.refl h1 h2
theorem laid_good(hb: (AllA (laidL gI g gW wcs gr gb bg en cap q q)).holds w F)(h8:At8 q.1 q.2 (bg+8) en)(hsh:q.2.shut q.1=false)(x:Wrd)(A:Option Addr)(cp:Nat)(hsz:x.name.size<=9223372036854775807)
 (hi:Ints w A x.cells) (hfar:x.cells≠[]->Far F A) (hv: ∀v∈x.cells,V64 v) (hcl:x.cells.length<=9223372036854775807)
 (kernel:Bool) (gk gs:Nat) (hw1:wcs[1]? = some (gk:Vl)) (hw2:wcs[2]? = some (gs:Vl)) (hgr:gr=if kernel then gk else gs) (hf:q.2.createF q.1 x.name.data.toList=0):
 Calls prog 52 #[g,gW,.bool kernel,.agg #[.string x.name,.bool x.hid,.bool x.imm,.slice A x.cells.length cp]] w (Got (.returned (.bool true)) (AllA (laidL gI g gW wcs gr gb bg en cap (laidS x q) (laidS x q))) F w):=by
 have hon:=(On.refl hb).box (wrdC x A cp) 27
 have hp:=lp_create hon h8 x.name hsz
 have hr:=λW (q1:Img×Dc) (h:On F w (AllA (BlkA w.heap.size 27 (wrdC x A cp)::laidL gI g gW wcs gr gb bg en cap q1 q)) W)=>lr_create h h8 hsh x.name hsz
 have g1:=grew_create (S:=q.1) (D:=q.2) h8.img h8.ok x.name.data.toList
 have e0:laidS x q=commasS x.cells (immQ x.imm (showQ x.hid (q.2.createS q.1 x.name.data.toList,q.2.createD q.1 x.name.data.toList))):=by
  unfold laidS
  rw[if_neg (by rw[hf];decide),<-mark_eq]
 have g1':Grew q (q.2.createS q.1 x.name.data.toList,q.2.createD q.1 x.name.data.toList):=g1
 generalize (q.2.createS q.1 x.name.data.toList,q.2.createD q.1 x.name.data.toList)=q1 at *
 have h81:=g1'.at8 h8
 have hs1:q1.2.shut q1.1=false:=g1'.shut.trans hsh
 have g2:=grew_showQ x.hid h81.img h81.ok
 have h82:=g2.at8 h81
 have hs2:=g2.shut.trans hs1
 have g3:=grew_immQ x.imm h82.img h82.ok
 have h83:=g3.at8 h82
 have hs3:=g3.shut.trans hs2
 have hz:=λW (q1 q2:Img×Dc) (h:On F w (AllA (BlkA w.heap.size 27 (wrdC x A cp)::laidL gI g gW wcs gr gb bg en cap q1 q2)) W)=>wrd_cells h
 have hwb:Blk w gW 81 wcs:=(On.refl hb).blkAt 2 rfl
 have cw1:=(hwb.cell 1).trans hw1
 have cw2:=(hwb.cell 2).trans hw2
 have hwlt:=hwb.lt
 rw[e0]
 rw[hf]at hp hr
 have hshow:=λW (h:On F w (AllA (BlkA w.heap.size 27 (wrdC x A cp)::laidL gI g gW wcs gr gb bg en cap q1 q1)) W)=>lp_show h h81
 have hshow2:=λW (h:On F w (AllA (BlkA w.heap.size 27 (wrdC x A cp)::laidL gI g gW wcs gr gb bg en cap (q1.2.turnS q1.1 showT,q1.2) q1)) W)=>lr_show h h81 hs1
 generalize q.2.createV q.1 x.name.data.toList=cv at *
 clear hf g1 e0 hw1 hw2 hwb
 unfold wrdC at hp hr hz hon hshow hshow2
 obtain⟨nm,hid,imm,cells⟩:=x
 simp only at *
 replace hon:=Lib.hid hon
 replace hp:=Lib.hid hp
 replace hr:=Lib.hid hr
 replace hz:=Lib.hid hz
 replace hshow:=Lib.hid hshow
 replace hshow2:=Lib.hid hshow2
 replace h82:=Lib.hid h82
 replace h83:=Lib.hid h83
 replace hs2:=Lib.hid hs2
 replace hs3:=Lib.hid hs3
 replace hi:=Lib.hid hi
 replace hfar:=Lib.hid hfar
 replace hv:=Lib.hid hv
 replace hgr:=Lib.hid hgr
 clear hb h8 hsh g1' g2 g3 h81 hs1
 go_enter func52,ntmps52
 go_upto_if 21 with fail
 go_cut [9] (λr wx=>r = .pointer gr∧wx=w.alloc (.cells #[.string nm,.bool hid,.bool imm,.slice A cells.length cp] 27))
 case first=>
  have hg:=hgr.out
  cases kernel with
  | true=>
    simp only[if_true]at hg
    subst hg
    go_wp2_with fail
    go_meet
    exact⟨rfl,rfl⟩
  | false=>
    simp only[Bool.false_eq_true,if_false]at hg
    subst hg
    go_wp2_with fail
    go_meet
    exact⟨rfl,rfl⟩
 case rest=>
  obtain⟨rfl,rfl⟩:=hcut
  clear cw1 cw2
  go_wp2_with fail
  refine mo hp.out λw1 h1=>?_
  obtain⟨z0,z1,z2,z3⟩:=hz.out _ _ _ h1
  have hr1:=Lib.hid (hr.out _ _ h1)
  clear h1
  go_wp2_with fail
  refine mo hr1.out λw2 h2=>?_
  clear z0 z1 z2 z3
  obtain⟨z0,z1,z2,z3⟩:=hz.out _ _ _ h2
  go_upto_if 47 with fail
  go_cut [] (λwx=>On F w (AllA (BlkA w.heap.size 27 #[.string nm,.bool hid,.bool imm,.slice A cells.length cp]::laidL gI g gW wcs gr gb bg en cap (showQ hid q1) (showQ hid q1))) wx)
  case first=>
   cases hid with
   | true=>
     replace h2:=Lib.hid h2
     go_wp2_with fail
     go_meet
     exact h2.out
   | false=>
     have hs:=Lib.hid (hshow.out _ h2)
     clear h2 z0 z1 z2 z3
     go_wp2_with fail
     refine mo hs.out λw3 h3=>?_
     have hq:=Lib.hid (hshow2.out _ h3)
     clear h3
     go_wp2_with fail
     refine mo hq.out λw4 h4=>?_
     replace h4:=Lib.hid h4
     go_wp2_with fail
     go_meet
     exact h4.out
  case rest=>
   have h3:=hcut
   clear hshow hshow2 h2 z0 z1 z2 z3 hp hr hr1
   have him:=lp_imm h3 h82.out
   have him2:=λW (h:On F w (AllA (BlkA w.heap.size 27 #[.string nm,.bool hid,.bool imm,.slice A cells.length cp]::laidL gI g gW wcs gr gb bg en cap ((showQ hid q1).2.turnS (showQ hid q1).1 immT,(showQ hid q1).2) (showQ hid q1))) W)=>lr_imm h h82.out hs2.out
   generalize showQ hid q1=q2 at *
   obtain⟨z0,z1,z2,z3⟩:=hz.out _ _ _ h3
   replace h3:=Lib.hid h3
   replace him:=Lib.hid him
   replace him2:=Lib.hid him2
   clear hcut
   go_upto_if 53 with fail
   go_cut [] (λwx=>On F w (AllA (BlkA w.heap.size 27 #[.string nm,.bool hid,.bool imm,.slice A cells.length cp]::laidL gI g gW wcs gr gb bg en cap (immQ imm q2) (immQ imm q2))) wx)
   case first=>
    cases imm with
    | false=>
      go_wp2_with fail
      go_meet
      exact h3.out
    | true=>
      clear z0 z1 z2 z3
      go_wp2_with fail
      refine mo him.out λw3 h3=>?_
      have hq:=Lib.hid (him2.out _ h3)
      clear h3
      go_wp2_with fail
      refine mo hq.out λw4 h4=>?_
      replace h4:=Lib.hid h4
      go_wp2_with fail
      go_meet
      exact h4.out
   case rest=>
    have h4:=hcut
    clear hcut h3 him him2 z0 z1 z2 z3
    generalize immQ imm q2=q3 at *
    replace h4:=Lib.hid h4
    go_wp2_with fail
    go_loopg [14] cells.length (λk t wr=> ∃(j:Nat) (qj:Img×Dc),j+k=cells.length∧t = .int .i64 (j:Int)∧Grew q3 qj∧commasS cells q3=commasS (cells.drop j) qj∧On F w (AllA (BlkA w.heap.size 27 #[.string nm,.bool hid,.bool imm,.slice A cells.length cp]::laidL gI g gW wcs gr gb bg en cap qj qj)) wr)
    case atStart=>exact⟨0,q3,by omega,rfl,Grew.refl h83.out.img h83.out.ok,rfl,h4.out⟩
    case round=>
     obtain⟨j,qj,hj,rfl,hgq,hcq,hoj⟩:=hrel
     obtain⟨z0,z1,z2,z3⟩:=hz.out _ _ _ hoj
     by_cases hjl:j<cells.length
     ·obtain⟨v,hvj⟩: ∃v,cells[j]? = some v:=⟨cells[j],by simp[hjl]⟩
      have hvv:=hv.out v (List.mem_of_getElem? hvj)
      obtain⟨a,ha,hca⟩:=(hoj.ints hi.out (hfar.out λe=>by rw[e]at hvj;simp at hvj)) j v hvj
      have h8j:=hgq.at8 h83.out
      have hsj:=hgq.shut.trans hs3.out
      have hdr:cells.drop j=v::cells.drop (j+1):=by
       rw[List.drop_eq_getElem_cons hjl]
       congr 1
       rw[List.getElem?_eq_getElem hjl]at hvj
       exact Option.some.inj hvj
      rw[hdr,commasS_cons]at hcq
      have hg2:Grew qj (qj.2.commaS qj.1 v,qj.2.commaD qj.1):=grew_comma h8j.img h8j.ok v
      have hpc:=lp_comma hoj h8j v hvv
      have hrc:=λW (h:On F w (AllA (BlkA w.heap.size 27 #[.string nm,.bool hid,.bool imm,.slice A cells.length cp]::laidL gI g gW wcs gr gb bg en cap (qj.2.commaS qj.1 v,qj.2.commaD qj.1) qj)) W)=>lr_comma h h8j hsj v hvv
      subst ha
      have hca2:=λW (h:On F w (AllA (BlkA w.heap.size 27 #[.string nm,.bool hid,.bool imm,.slice (some a) cells.length cp]::laidL gI g gW wcs gr gb bg en cap (qj.2.commaS qj.1 v,qj.2.commaD qj.1) qj)) W)=>(by
       obtain⟨b,hb,hcb⟩:=(h.ints hi.out (hfar.out λe=>by rw[e]at hvj;simp at hvj)) j v hvj
       cases hb
       exact hcb:W.cell? (a.add j)=some (v:Vl))
      have hff: (qj.2.commaF qj.1 != qj.2.commaF qj.1)=false:=by simp
      by_cases hf0:qj.2.commaF qj.1=0
      ·rw[if_pos hf0]at hcq
       rw[hf0]at hpc hrc
       generalize (qj.2.commaS qj.1 v,qj.2.commaD qj.1)=qn at *
       replace hpc:=Lib.hid hpc
       replace hrc:=Lib.hid hrc
       replace hca2:=Lib.hid hca2
       replace hcq:=Lib.hid hcq
       replace hg2:=Lib.hid hg2
       replace hgq:=Lib.hid hgq
       clear hoj h8j hsj hdr hvv hff hf0 hvj
       go_wp2_with fail
       refine mo hpc.out λw5 h5=>?_
       have hrq:=Lib.hid (hrc.out _ h5)
       have hc5:=hca2.out _ h5
       clear z0 z1 z2 z3 hca
       obtain⟨z0,z1,z2,z3⟩:=hz.out _ _ _ h5
       clear h5
       go_wp2_with fail
       refine mo hrq.out λw6 h6=>?_
       replace h6:=Lib.hid h6
       go_wp2
       go_roundg (gk-1)
       case measure=>omega
       case rel=>exact⟨j+1,qn,by omega,by go_num,hgq.out.trans hg2.out,hcq.out,h6.out⟩
      ·rw[if_neg hf0]at hcq
       have e1: (qj.2.commaS qj.1 v,qj.2.commaD qj.1)=qj:=by
        unfold Dc.commaS Dc.commaD
        rw[if_neg hf0,if_neg hf0]
       rw[e1]at hpc hrc hca2
       have hft: (qj.2.commaF qj.1 != 0)=true:=by simpa using hf0
       generalize qj.2.commaF qj.1=ff at *
       replace hpc:=Lib.hid hpc
       replace hrc:=Lib.hid hrc
       replace hca2:=Lib.hid hca2
       replace hcq:=Lib.hid hcq
       clear hoj h8j hsj hdr hvv hf0 hvj hg2 e1 hgq
       go_wp2_with fail
       refine mo hpc.out λw5 h5=>?_
       have hrq:=Lib.hid (hrc.out _ h5)
       have hc5:=hca2.out _ h5
       clear z0 z1 z2 z3 hca
       obtain⟨z0,z1,z2,z3⟩:=hz.out _ _ _ h5
       clear h5
       go_wp2_with fail
       refine mo hrq.out λw6 h6=>?_
       replace h6:=Lib.hid h6
       go_wp2
       go_ret
       refine⟨rfl,?_⟩
       rw[hcq.out]
       exact h6.out.tail
     ·have hjj:j=cells.length:=by omega
      subst hjj
      rw[List.drop_length]at hcq
      replace hcq:=Lib.hid hcq
      replace hgq:=Lib.hid hgq
      replace hoj:=Lib.hid hoj
      have hdl:decide ((cells.length:Int) < (cells.length:Int))=false:=by simp
      go_wp2
      go_ret
      refine⟨rfl,?_⟩
      rw[hcq.out]
      exact hoj.out.tail
theorem laid_walk(hb: (AllA (laidL gI g gW wcs gr gb bg en cap q q)).holds w F)(h8:At8 q.1 q.2 (bg+8) en)(hsh:q.2.shut q.1=false)(x:Wrd)(A:Option Addr)(cp:Nat)(hsz:x.name.size<=9223372036854775807)
 (hi:Ints w A x.cells) (hfar:x.cells≠[]->Far F A) (hv: ∀v∈x.cells,V64 v) (hcl:x.cells.length<=9223372036854775807)
 (kernel:Bool) (gk gs:Nat) (hw1:wcs[1]? = some (gk:Vl)) (hw2:wcs[2]? = some (gs:Vl)) (hgr:gr=if kernel then gk else gs):
 Calls prog 52 #[g,gW,.bool kernel,.agg #[.string x.name,.bool x.hid,.bool x.imm,.slice A x.cells.length cp]] w (Got (.returned (.bool true)) (AllA (laidL gI g gW wcs gr gb bg en cap (laidS x q) (laidS x q))) F w):=by
 by_cases hf:q.2.createF q.1 x.name.data.toList=0
 ·exact laid_good hb h8 hsh x A cp hsz hi hfar hv hcl kernel gk gs hw1 hw2 hgr hf
 ·have e:laidS x q=q:=by unfold laidS;rw[if_pos hf]
  rw[e]
  exact laid_bad hb h8 hsh x A cp hsz kernel gk gs hw1 hw2 hgr hf
end
end Vm
open Go.RowKit Go.Lib Go.Shelf
attribute [local go_sem] Oper.semAt_some
namespace Vm
section
variable {g gI gb fr en:Nat}{D:Dc}{S:Img}
theorem all_first(n:Nat)(hn:1<=n)(Bd:Nat)(w:World)(x0:Wd)(rest:List Wd)(hs:Blk w g 102 (dictC gI fr en (D.h:Int) (D.l:Int)))(hi:IRep w gI gb S)(h8:At8 S D fr en)(hBd:Bd<w.heap.size)(hc:w.cell? (Bd,0)=some (g:Vl))(hws:words S D=x0::rest):
 Rng.FirstSeq n prog 64 #[Bd] #[.agg x0.c] w:=by
 intro l W Rt Rp hW hY
 have hwk:=d_walk (hs.below hW hs.lt) ⟨hi.blk.below hW hi.blk.lt,hi.row.below hW hi.row.lt,hi.ok⟩ h8
 rw[hws]at hwk
 have hBd1:=(hW.cell (p:=⟨Bd,0,none⟩) hBd).trans hc
 obtain⟨N,hN⟩: ∃N,N= (x0::rest).length:=⟨_,rfl⟩
 have hN0:0<N:=by rw[hN];simp
 have hwk2:Calls prog 65 #[g] W (λe w'=> ∃A cap,e = .returned (.slice A N cap)∧On Nob W (AllA [RowW (.slice A N cap) (x0::rest)]) w'):=hwk.mono λe w' ⟨v,he,hon⟩=>by
  obtain⟨F1,hR⟩:=hon.at_ 0 rfl
  rcases rowW_form hR with⟨_,h⟩ | ⟨g1,cap,rfl,_⟩
  ·cases h
  ·rw[hN];exact⟨_,_,he,hon⟩
 refine callsIn_of_wp func64 rfl trivial ?_ rfl
 simp only[ntmps64,List.size_toArray,List.length_cons,List.length_nil,Nat.reduceAdd,Nat.reduceSub,Array.replicate_succ,Array.replicate_zero,List.push_toArray,List.append_toArray,List.nil_append,List.cons_append]
 replace hwk2:=Lib.hid hwk2
 replace hY:=Lib.hid hY
 replace hW:=Lib.hid hW
 clear hwk hws
 gi_wp2_with (refine⟨trivial,?_⟩;gi_at_call 65;refine(callsIn_wide.2 hwk2.out).mono ?_;rintro e w' ⟨A,cap,rfl,hon⟩)
 have hbw:Below W.heap.size W w':=hon.outB
 obtain⟨F1,hR⟩:=hon.at_ 0 rfl
 rcases rowW_form hR with⟨_,h⟩ | ⟨g1,cap1,hv,hcs⟩
 ·cases h
 injection hv with hA _ hcap
 subst hA hcap
 have hc0:=hcs 0 (by simp) 0 oM
 have hc1:=hcs 0 (by simp) 1 oM
 have hc2:=hcs 0 (by simp) 2 oM
 have hc3:=hcs 0 (by simp) 3 oM
 have hc4:=hcs 0 (by simp) 4 oM
 have hc5:=hcs 0 (by simp) 5 oM
 obtain⟨fn,tmps,assign,body,hy,hRd⟩:=hY.out (w'.alloc (.cells x0.c 36)) (hbw.trans ((Below.refl _ _).alloc hbw.size _))
 obtain⟨nm,hd,xt,im,hh,il⟩:=x0
 have e0: (⟨nm,hd,xt,im,hh,il⟩:Wd).c=#[.string ⟨nm.toArray⟩,.int .i64 (hd:Int),.int .i64 (xt:Int),.bool im,.bool hh,.bool il]:=rfl
 have e1: ((⟨nm,hd,xt,im,hh,il⟩::rest:List Wd)).getD 0 ⟨[],0,0,false,false,false⟩= ⟨nm,hd,xt,im,hh,il⟩:=rfl
 rw[e1]at hc0 hc1 hc2 hc3 hc4 hc5
 rw[e0]at hc0 hc1 hc2 hc3 hc4 hc5 hy hRd
 simp only[List.getElem?_toArray,List.getElem?_cons_zero,List.getElem?_cons_succ,Nat.add_zero]at hc0 hc1 hc2 hc3 hc4 hc5
 replace hRd:=Lib.hid hRd
 replace hon:=Lib.hid hon
 replace hR:=Lib.hid hR
 replace hcs:=Lib.hid hcs
 replace hbw:=Lib.hid hbw
 clear e0 e1 hY
 have hlen:decide ((0:Int) < (N:Int))=true:=decide_eq_true oM
 replace hN:=Lib.hid hN
 refine wpIn_loop_once ?_
 gi_wp2
 refine hRd.out.mono ?_
 rintro e W3 (⟨rfl,h3⟩ | ⟨ch,rfl,h3⟩)
 ·replace h3:=Lib.hid h3
  gi_wp2
  refine bodyPost_ret (results_none rfl _ _ _) rfl ?_
  exact .inl ⟨_,rfl,h3.out⟩
 ·exact⟨rfl,.inr ⟨ch,rfl,h3⟩⟩
theorem all_none(n:Nat)(hn:1<=n)(Bd:Nat)(w:World)(hs:Blk w g 102 (dictC gI fr en (D.h:Int) (D.l:Int)))(hi:IRep w gI gb S)(h8:At8 S D fr en)(hBd:Bd<w.heap.size)(hc:w.cell? (Bd,0)=some (g:Vl))(hws:words S D = [])(l:Nat)(W:World)(hW:Below w.heap.size w W):
 CallsIn Fence.wide n prog 64 (#[.func (.yield l) #[] #[]]++#[.pointer Bd]) W (λe W'=>(∃v,e = .returned v)∧Below W.heap.size W W'):=by
 have hwk:=d_walk (hs.below hW hs.lt) ⟨hi.blk.below hW hi.blk.lt,hi.row.below hW hi.row.lt,hi.ok⟩ h8
 rw[hws]at hwk
 have hBd1:=(hW.cell (p:=⟨Bd,0,none⟩) hBd).trans hc
 have hwk2:Calls prog 65 #[g] W (λe w'=> ∃A cap,e = .returned (.slice A 0 cap)∧Below W.heap.size W w'):=hwk.mono λe w' ⟨v,he,hon⟩=>by
  obtain⟨F1,hR⟩:=hon.at_ 0 rfl
  rcases rowW_form hR with⟨rfl,_⟩ | ⟨g1,cap,rfl,_⟩
  ·exact⟨none,0,he,hon.outB⟩
  ·exact⟨_,_,he,hon.outB⟩
 refine callsIn_of_wp func64 rfl trivial ?_ rfl
 simp only[ntmps64,List.size_toArray,List.length_cons,List.length_nil,Nat.reduceAdd,Nat.reduceSub,Array.replicate_succ,Array.replicate_zero,List.push_toArray,List.append_toArray,List.nil_append,List.cons_append]
 replace hwk2:=Lib.hid hwk2
 replace hW:=Lib.hid hW
 clear hwk hws
 gi_wp2_with (refine⟨trivial,?_⟩;gi_at_call 65;refine(callsIn_wide.2 hwk2.out).mono ?_;rintro e w' ⟨A,cap,rfl,hon⟩)
 replace hon:=Lib.hid hon
 refine wpIn_loop_once ?_
 gi_wp2
 go_end0
 exact⟨⟨_,rfl⟩,hon.out⟩
def doneQ(x:Rn)(s:Mt):Rs:=
 match words s.S (dS s)with
 | []=>⟨16,x,s⟩
 | wd::_=>
   if s.S.cellF x.mode wd.xt false≠0 then⟨s.S.cellF x.mode wd.xt false,x,s⟩
   else if(Code.unpack (s.S.cellV x.mode wd.xt)).1≠17 then⟨16,x,s⟩
   else⟨0,x,{ s with S:=s.S.setCell x.mode wd.xt (if Code.right 17 x.next=true then 256*x.next+17 else 0) }⟩
end
section
variable {w w':World}{F:Nat->Prop}{c:Vc}{g:Nat}{x:Rn}{src:Value}{s:Mt}
theorem done_pre(w:World)(g d:Nat):Below w.heap.size w ((w.alloc (.cells #[g] 107)).alloc (.cells #[d] 39))∧Blk ((w.alloc (.cells #[g] 107)).alloc (.cells #[d] 39)) w.heap.size 107 #[g]∧Blk ((w.alloc (.cells #[g] 107)).alloc (.cells #[d] 39)) (w.heap.size+1) 39 #[d]∧((w.alloc (.cells #[g] 107)).alloc (.cells #[d] 39)).heap.size=w.heap.size+2:=by
 refine⟨((Below.refl _ w).alloc (Nat.le_refl _) _).alloc (by simp) _,(Blk.new w 107 _).alloc _,?_,by simp⟩
 have h:=Blk.new (w.alloc (.cells #[g] 107)) 39 #[d]
 rw[World.size_alloc]at h
 exact h
theorem done_nil(hb: (VA c g x src s).holds w F)(hp:Dcs c src s)(hws:words s.S (dS s)= []):
 Calls prog 138 #[g] w (Got (.panicked [flt 16]) (VA c g x src s) F w):=by
 have hon:=(On.refl hb)
 have h7:Blk w c.gS 102 (dictC c.gI c.sfr c.sto ((dS s).h:Int) ((dS s).l:Int)):=hon.blkAt 6 (congrArg some hp.dc)
 obtain⟨gb,hi⟩:=hon.im
 have h8:=hp.at8
 have r0:=hon.r0
 have m1:=hon.m1
 have hlt:=hon.rlt
 have hml:=hon.mlt
 refine(callsIn_wide (n:=3)).1 ?_
 refine callsIn_of_wp_marks func138 rfl trivial ?_ rfl
 simp only[ntmps138,List.size_toArray,List.length_cons,List.length_nil,Nat.reduceAdd,Nat.reduceSub,Array.replicate_succ,Array.replicate_zero,List.push_toArray,List.append_toArray,List.nil_append,List.cons_append]
 obtain⟨hbl,hB0,hB1,hsz⟩:=done_pre w g c.gS
 replace hon:=Lib.hid hon
 replace h7:=Lib.hid h7
 replace hi:=Lib.hid hi
 replace h8:=Lib.hid h8
 replace hws:=Lib.hid hws
 replace hbl:=Lib.hid hbl
 replace hB0:=Lib.hid hB0
 replace hB1:=Lib.hid hB1
 replace hsz:=Lib.hid hsz
 gi_wp2_with (refine⟨trivial,?_⟩;gi_at_call 39;refine(callsIn_wide.2 (d_all _)).mono ?_;rintro e w' ⟨rfl,rfl⟩)
 generalize (w.alloc (.cells #[g] 107)).alloc (.cells #[c.gS] 39)=W0 at *
 refine Rng.range_none oM rfl (enters_of func64 kR rfl) ?seq ?fin
 case seq=>
  intro l W hW
  exact all_none 2 oM (w.heap.size+1) W0 (h7.out.below hbl.out h7.out.lt) ⟨hi.out.blk.below hbl.out hi.out.blk.lt,hi.out.row.below hbl.out hi.out.row.lt,hi.out.ok⟩ h8.out (by rw[hsz.out];omega) (hB1.out.cell 0) hws.out l W hW
 case fin=>
  intro W4 hb4 hk4
  gi_wp2
  have hfin:Below w.heap.size w (W4.putObj W0.heap.size (.deferred none)):=Rng.below_put (hbl.out.trans (hb4.mono hbl.out.size)) _ (by rw[hsz.out];omega) _
  exact⟨by simp,.inl ⟨_,_,rfl,run_takeDeferred hk4,⟨rfl,hon.out.below hfin⟩⟩⟩
theorem done_dies(hb: (VA c g x src s).holds w F)(hp:Dcs c src s)(x0:Wd)(rest:List Wd)(hws:words s.S (dS s)=x0::rest)(f v k:Int)(hf:s.S.cellF x.mode x0.xt false=f)(hv:s.S.cellV x.mode x0.xt=v)(hk: (f≠0∧f=k)∨(f=0∧((Code.unpack v).1==17)=false∧k=16)):
 Calls prog 138 #[g] w (Got (.panicked [flt k]) (VA c g x src s) F w):=by
 have hon:=(On.refl hb)
 have h7:Blk w c.gS 102 (dictC c.gI c.sfr c.sto ((dS s).h:Int) ((dS s).l:Int)):=hon.blkAt 6 (congrArg some hp.dc)
 obtain⟨gb,hi⟩:=hon.im
 have h8:=hp.at8
 have r0:=hon.r0
 have m1:=hon.m1
 have hlt:=hon.rlt
 have hml:=hon.mlt
 refine(callsIn_wide (n:=3)).1 ?_
 refine callsIn_of_wp_marks func138 rfl trivial ?_ rfl
 simp only[ntmps138,List.size_toArray,List.length_cons,List.length_nil,Nat.reduceAdd,Nat.reduceSub,Array.replicate_succ,Array.replicate_zero,List.push_toArray,List.append_toArray,List.nil_append,List.cons_append]
 obtain⟨hbl,hB0,hB1,hsz⟩:=done_pre w g c.gS
 replace hon:=Lib.hid hon
 replace h7:=Lib.hid h7
 replace hi:=Lib.hid hi
 replace h8:=Lib.hid h8
 replace hws:=Lib.hid hws
 replace hbl:=Lib.hid hbl
 replace hB0:=Lib.hid hB0
 replace hB1:=Lib.hid hB1
 replace hsz:=Lib.hid hsz
 gi_wp2_with (refine⟨trivial,?_⟩;gi_at_call 39;refine(callsIn_wide.2 (d_all _)).mono ?_;rintro e w' ⟨rfl,rfl⟩)
 generalize (w.alloc (.cells #[g] 107)).alloc (.cells #[c.gS] 39)=W0 at *
 refine Rng.range_dies oM rfl (enters_of func64 kR rfl) (x0:=#[.agg x0.c]) rfl (all_first 2 oM (w.heap.size+1) W0 x0 rest (h7.out.below hbl.out h7.out.lt) ⟨hi.out.blk.below hbl.out hi.out.blk.lt,hi.out.row.below hbl.out hi.out.row.lt,hi.out.ok⟩ h8.out (by rw[hsz.out];omega) (hB1.out.cell 0) hws.out)
  (λch W3=>ch = [flt k]∧Below W0.heap.size W0 W3∧W3.heap[W0.heap.size]? = some (.deferred (some []))) ?round ?fin
 case round=>
  intro W hW hWs
  obtain⟨nm,hd,xt,im,hh,il⟩:=x0
  simp only[Wd.c]
  gi_wp2
  have hal:Below W.heap.size W (W.alloc (.cells #[.string ⟨nm.toArray⟩,(hd:Int),(xt:Int),.bool im,.bool hh,.bool il] 36)):=(Below.refl _ W).alloc (Nat.le_refl _) _
  have hBx:=Blk.new W 36 #[.string ⟨nm.toArray⟩,(hd:Int),(xt:Int),.bool im,.bool hh,.bool il]
  refine⟨hal,?_⟩
  intro W2 hbg
  have hW0W:W0.heap.size<=W.heap.size:=hW.size
  have hne:W.heap.size≠W0.heap.size+1:=by omega
  have hbx:Blk W2 W.heap.size 36 #[.string ⟨nm.toArray⟩,(hd:Int),(xt:Int),.bool im,.bool hh,.bool il]:=(hbg.other _ hne).trans hBx
  have hbw:Below W0.heap.size W0 W2:=hbg.below
  have hbw2:Below w.heap.size w W2:=hbl.out.trans (hbw.mono hbl.out.size)
  have hon2:On F w (VA c g x src s) W2:=hon.out.below hbw2
  have hq0:W2.cell? (w.heap.size,0)=some (g:Vl):=(hbw.cell (p:=⟨w.heap.size,0,none⟩) (by show w.heap.size<W0.heap.size;rw[hsz.out];omega)).trans (hB0.out.cell 0)
  have hq1:=hon2.r0
  have hq2:=hon2.m0
  have hq3:=hon2.r1
  have hq4:W2.cell? (W.heap.size,2)=some ((xt:Int):Vl):=hbx.cell 2
  obtain⟨gb2,hi2⟩:=hon2.drew.im
  have hce:=i_cell hi2 x.mode xt
  rw[hf,hv]at hce
  clear hf hv
  have hun:=λw=>unpack_walk v w
  generalize (Code.unpack v).1=op at *
  generalize (Code.unpack v).2.1=ar1 at *
  generalize (Code.unpack v).2.2=ok1 at *
  replace hun:=Lib.hid hun
  replace hk:=Lib.hid hk
  refine Rng.dies_block (Rng.dies_seq (Rng.dies_then ?_))
  refine Rng.region_inRound (S:=λw'=>w'.cell? (w.heap.size,0)=some (g:Vl)∧w'.cell? (g,0)=some (c.gM:Vl)∧w'.cell? (c.gM,0)=some (c.gI:Vl)∧w'.cell? (g,1)=some (x.mode:Vl)∧w'.cell? (W.heap.size,2)=some ((xt:Int):Vl)) _ kR (by rintro⟨a,w,h,_⟩;cases h) (Rng.noDefer_of kR) ?_
  have hS: (λw':World=>w'.cell? (w.heap.size,0)=some (g:Vl)∧w'.cell? (g,0)=some (c.gM:Vl)∧w'.cell? (c.gM,0)=some (c.gI:Vl)∧w'.cell? (g,1)=some (x.mode:Vl)∧w'.cell? (W.heap.size,2)=some ((xt:Int):Vl)) W2.drew:=⟨hq0,hq1,hq2,hq3,hq4⟩
  replace hce:=Lib.hid hce
  refine tkL 0 ?_
  refine pt ?_
  refine tkL 1 ?_
  refine pt ?_
  refine tkL 2 ?_
  refine pt ?_
  refine tkL 3 ?_
  refine pt ?_
  refine tkL 4 ?_
  refine pt ?_
  refine tkL 5 ?_
  refine pt ?_
  refine tkL 6 ?_
  refine pt ?_
  refine tkL 7 ?_
  refine pt ?_
  refine tkL 8 ?_
  refine pt ?_
  refine tkL 9 ?_
  refine pt ?_
  refine tkL 10 ?_
  refine pt ?_
  refine tkL 11 ?_
  refine pt ?_
  refine tkL 12 ?_
  refine pt ?_
  refine wpAnyH_ready (rs:=[13]) kR (by simp) ?_
  refine AllReadyH.cons rfl (λK hK=> ?step) ?more
  case more=>exact AllReadyH.nil
  go_simp
  go_wp2_with (go_at_call 72;refine mo hce.out λw5 h5=>?_)
  replace h5:Below W2.heap.size W2 w5:=((Below.refl W2.heap.size W2).drew).trans h5
  have hs5:W2.heap.size<=w5.heap.size:=h5.size
  have hb5:Below W0.heap.size W0 w5:=hbw.trans (h5.mono hbw.size)
  have hon5:On F w (VA c g x src s) w5:=hon2.below h5
  have hbx5:Blk w5 W.heap.size 36 #[.string ⟨nm.toArray⟩,(hd:Int),(xt:Int),.bool im,.bool hh,.bool il]:=hbx.below h5 hbx.lt
  have hk5:w5.heap[W0.heap.size]? = some (.deferred (some [])):=(h5.block W0.heap.size (Array.getElem?_eq_some_iff.1 hbg.mark).1).trans hbg.mark
  have p0:w5.cell? (w.heap.size,0)=some (g:Vl):=(hb5.cell (p:=⟨w.heap.size,0,none⟩) (by show w.heap.size<W0.heap.size;rw[hsz.out];omega)).trans (hB0.out.cell 0)
  have p1:=hon5.r0
  have p2:=hon5.m0
  have p3:=hon5.r1
  have p5:=hon5.r4
  have p4:w5.cell? (W.heap.size,2)=some ((xt:Int):Vl):=hbx5.cell 2
  refine hK.out _ _ ?hS9 (λhHeld=> ?rs99)
  case hS9=>exact⟨p0,p1,p2,p3,p4⟩
  clear hK K
  refine tkL 14 ?_
  refine pt ?_
  refine tkL 15 ?_
  refine pt ?_
  refine tkL 16 ?_
  refine pt ?_
  refine tkL 17 ?_
  refine pt ?_
  refine tkL 18 ?_
  refine pt ?_
  refine wpAnyH_done kR ?_ _
  refine⟨rfl,?_⟩
  rcases hk.out with⟨hf0,rfl⟩ | ⟨rfl,hop,rfl⟩
  ·refine Rng.dies_seq (Rng.dies_region ?_)
   rw[show List.range _ = [0,1]from rfl]
   refine Rng.dies_op (v:= .int .i64 f) (w':=w5) rfl kR (λ_ _=>trivial) (by go_simp) ?_
   refine Rng.dies_call (f:=68) (args:=#[.int .i64 f]) (w':=w5) rfl kR (λ_ _=>trivial) (by go_simp) rfl (λh=>by cases h) ?_
   refine CallsIn.inRound _ (callsIn_wide.2 ((try_no f hf0 w5).mono ?_))
   rintro e w6 ⟨rfl,rfl⟩
   exact⟨_,rfl,rfl,hb5,hk5⟩
  ·refine Rng.dies_seq (Rng.dies_then ?_)
   gi_wp2_with (refine⟨trivial,?_⟩;gi_at_call 68;refine CallsIn.inRound _ (callsIn_wide.2 ((try_ok _).mono ?_));rintro e w6 ⟨rfl,rfl⟩)
   refine Rng.dies_seq (Rng.dies_then ?_)
   gi_wp2_with (refine⟨trivial,?_⟩;gi_at_call 91;refine CallsIn.inRound _ (callsIn_wide.2 ((hun.out _).mono ?_));rintro e w6 ⟨rfl,rfl⟩)
   refine Rng.dies_seq (Rng.dies_region ?_)
   rw[show List.range _ = [0,1,2]from rfl]
   refine Rng.dies_op (v:= .int .i64 op) (w':=w6) rfl kR (λ_ _=>trivial) (by go_simp) ?_
   refine Rng.dies_op (v:= .bool false) (w':=w6) rfl kR (λ_ _=>trivial) (by go_simp) ?_
   refine Rng.dies_call (f:=94) (args:=#[.bool false,.int .i64 16]) (w':=w6) rfl kR (λ_ _=>trivial) (by go_simp) rfl (λh=>by cases h) ?_
   refine CallsIn.inRound _ (callsIn_wide.2 ((must_no 16 _).mono ?_))
   rintro e w6 ⟨rfl,rfl⟩
   exact⟨_,rfl,rfl,hb5,hk5⟩
 case fin=>
  rintro ch W3 ⟨rfl,hb3,hk3⟩
  have hfin:Below w.heap.size w (W3.putObj W0.heap.size (.deferred none)):=Rng.below_put (hbl.out.trans (hb3.mono hbl.out.size)) _ (by rw[hsz.out];omega) _
  exact⟨by simp,.inl ⟨_,_,rfl,run_takeDeferred hk3,⟨rfl,hon.out.below hfin⟩⟩⟩
theorem done_ret(hb: (VA c g x src s).holds w F)(hp:Dcs c src s)(x0:Wd)(rest:List Wd)(hws:words s.S (dS s)=x0::rest)(hf:s.S.cellF x.mode x0.xt false=0)(hf2:s.S.cellF x.mode x0.xt true=0)(v:Int)(hv:s.S.cellV x.mode x0.xt=v)(hop: ((Code.unpack v).1==17)=true)(pv:Int)(pk:Bool)(hpk: ∀w,Calls prog 205 #[(17:Int),x.next] w (Same (.tuple #[pv,.bool pk]) w))(hpv:V64 pv)(s2:Mt)(hs2:s2 = { s with S:=s.S.setCell x.mode x0.xt pv }):
 Calls prog 138 #[g] w (Got (.returned (.tuple #[])) (VA c g x src s2) F w):=by
 have hFlt: ∀k,F k->k<w.heap.size:=λk hk=>(VA c g x src s).lt hb hk
 have hbk: ∀Wb,Below w.heap.size w Wb->(VA c g x src s).holds Wb F:=λWb h=>(VA c g x src s).kept hb (Kept.ofBelow0 h) (λ_ _ h=>h)
 have hset: ∀Wb,Below w.heap.size w Wb->Calls prog 58 #[c.gI,x.mode,(x0.xt:Int),pv] Wb.drew (Got (.returned (.int .i64 0)) (VA c g x src s2) F Wb):=λWb h=>by
  have h1:=(On.refl (hbk Wb h)).drew.callAtG 2 rfl (λF' ha=>g_setCell ha x.mode x0.xt pv hpv)
  rw[hf2]at h1
  rw[hs2]
  exact h1
 have hkeep7: ∀(Wb w7:World),On F Wb (VA c g x src s2) w7->∀{t:TypeId} {cs:Array Value} (k:Nat),¬k<w.heap.size->Blk Wb k t cs->Blk w7 k t cs:=λWb w7 h t cs k hk hB=>by
  obtain⟨F2,_,hkp,_⟩:=h
  exact hB.kept hkp (λh=>hk (hFlt k h))
 clear hs2
 have hon:=(On.refl hb)
 have h7:Blk w c.gS 102 (dictC c.gI c.sfr c.sto ((dS s).h:Int) ((dS s).l:Int)):=hon.blkAt 6 (congrArg some hp.dc)
 obtain⟨gb,hi⟩:=hon.im
 have h8:=hp.at8
 have r0:=hon.r0
 have m1:=hon.m1
 have hlt:=hon.rlt
 have hml:=hon.mlt
 refine(callsIn_wide (n:=3)).1 ?_
 refine callsIn_of_wp_marks func138 rfl trivial ?_ rfl
 simp only[ntmps138,List.size_toArray,List.length_cons,List.length_nil,Nat.reduceAdd,Nat.reduceSub,Array.replicate_succ,Array.replicate_zero,List.push_toArray,List.append_toArray,List.nil_append,List.cons_append]
 obtain⟨hbl,hB0,hB1,hsz⟩:=done_pre w g c.gS
 replace hon:=Lib.hid hon
 replace h7:=Lib.hid h7
 replace hi:=Lib.hid hi
 replace h8:=Lib.hid h8
 replace hws:=Lib.hid hws
 replace hbl:=Lib.hid hbl
 replace hB0:=Lib.hid hB0
 replace hB1:=Lib.hid hB1
 replace hsz:=Lib.hid hsz
 gi_wp2_with (refine⟨trivial,?_⟩;gi_at_call 39;refine(callsIn_wide.2 (d_all _)).mono ?_;rintro e w' ⟨rfl,rfl⟩)
 generalize (w.alloc (.cells #[g] 107)).alloc (.cells #[c.gS] 39)=W0 at *
 refine Rng.range_ret oM rfl (enters_of func64 kR rfl) (x0:=#[.agg x0.c]) rfl (all_first 2 oM (w.heap.size+1) W0 x0 rest (h7.out.below hbl.out h7.out.lt) ⟨hi.out.blk.below hbl.out hi.out.blk.lt,hi.out.row.below hbl.out hi.out.row.lt,hi.out.ok⟩ h8.out (by rw[hsz.out];omega) (hB1.out.cell 0) hws.out)
  (λW3=> ∃(Wb:World) (F2:Nat->Prop),Below w.heap.size w Wb∧W0.heap.size+2<=Wb.heap.size∧(VA c g x src s2).holds W3 F2∧Kept F Wb W3∧(∀k,F2 k->F k∨Wb.heap.size<=k)) ?round ?fin
 case round=>
  intro W hW hWs
  obtain⟨nm,hd,xt,im,hh,il⟩:=x0
  simp only[Wd.c]
  gi_wp2
  have hal:Below W.heap.size W (W.alloc (.cells #[.string ⟨nm.toArray⟩,(hd:Int),(xt:Int),.bool im,.bool hh,.bool il] 36)):=(Below.refl _ W).alloc (Nat.le_refl _) _
  have hBx:=Blk.new W 36 #[.string ⟨nm.toArray⟩,(hd:Int),(xt:Int),.bool im,.bool hh,.bool il]
  refine⟨hal,?_⟩
  intro W2 hbg
  have hW0W:W0.heap.size<=W.heap.size:=hW.size
  have hne:W.heap.size≠W0.heap.size+1:=by omega
  have hbx:Blk W2 W.heap.size 36 #[.string ⟨nm.toArray⟩,(hd:Int),(xt:Int),.bool im,.bool hh,.bool il]:=(hbg.other _ hne).trans hBx
  have hbw:Below W0.heap.size W0 W2:=hbg.below
  have hbw2:Below w.heap.size w W2:=hbl.out.trans (hbw.mono hbl.out.size)
  have hon2:On F w (VA c g x src s) W2:=hon.out.below hbw2
  have hq0:W2.cell? (w.heap.size,0)=some (g:Vl):=(hbw.cell (p:=⟨w.heap.size,0,none⟩) (by show w.heap.size<W0.heap.size;rw[hsz.out];omega)).trans (hB0.out.cell 0)
  have hq1:=hon2.r0
  have hq2:=hon2.m0
  have hq3:=hon2.r1
  have hq4:W2.cell? (W.heap.size,2)=some ((xt:Int):Vl):=hbx.cell 2
  obtain⟨gb2,hi2⟩:=hon2.drew.im
  have hce:=i_cell hi2 x.mode xt
  rw[hf,hv]at hce
  have hun:=λw=>unpack_walk v w
  generalize (Code.unpack v).1=op at *
  generalize (Code.unpack v).2.1=ar1 at *
  generalize (Code.unpack v).2.2=ok1 at *
  replace hun:=Lib.hid hun
  replace hset:=Lib.hid hset
  replace hkeep7:=Lib.hid hkeep7
  replace hpk:=Lib.hid hpk
  replace hbk:=Lib.hid hbk
  replace hce:=Lib.hid hce
  replace hbg:=Lib.hid hbg
  replace hon:=Lib.hid hon
  refine wpIn_block ?_
  refine Rng.seqN ?_
  refine Rng.region_inRound (S:=λw'=>w'.cell? (w.heap.size,0)=some (g:Vl)∧w'.cell? (g,0)=some (c.gM:Vl)∧w'.cell? (c.gM,0)=some (c.gI:Vl)∧w'.cell? (g,1)=some (x.mode:Vl)∧w'.cell? (W.heap.size,2)=some ((xt:Int):Vl)) _ kR (by rintro⟨a,w,h,_⟩;cases h) (Rng.noDefer_of kR) ?_
  have hS: (λw':World=>w'.cell? (w.heap.size,0)=some (g:Vl)∧w'.cell? (g,0)=some (c.gM:Vl)∧w'.cell? (c.gM,0)=some (c.gI:Vl)∧w'.cell? (g,1)=some (x.mode:Vl)∧w'.cell? (W.heap.size,2)=some ((xt:Int):Vl)) W2.drew:=⟨hq0,hq1,hq2,hq3,hq4⟩
  refine tkL 0 ?_
  refine pt ?_
  refine tkL 1 ?_
  refine pt ?_
  refine tkL 2 ?_
  refine pt ?_
  refine tkL 3 ?_
  refine pt ?_
  refine tkL 4 ?_
  refine pt ?_
  refine tkL 5 ?_
  refine pt ?_
  refine tkL 6 ?_
  refine pt ?_
  refine tkL 7 ?_
  refine pt ?_
  refine tkL 8 ?_
  refine pt ?_
  refine tkL 9 ?_
  refine pt ?_
  refine tkL 10 ?_
  refine pt ?_
  refine tkL 11 ?_
  refine pt ?_
  refine tkL 12 ?_
  refine pt ?_
  refine wpAnyH_ready (rs:=[13]) kR (by simp) ?_
  refine AllReadyH.cons rfl (λK hK=> ?step) ?more
  case more=>exact AllReadyH.nil
  go_simp
  go_wp2_with (go_at_call 72;refine mo hce.out λw5 h5=>?_)
  replace h5:Below W2.heap.size W2 w5:=((Below.refl W2.heap.size W2).drew).trans h5
  have hs5:W2.heap.size<=w5.heap.size:=h5.size
  have hb5:Below W0.heap.size W0 w5:=hbw.trans (h5.mono hbw.size)
  have hon5:On F w (VA c g x src s) w5:=hon2.below h5
  have hbx5:Blk w5 W.heap.size 36 #[.string ⟨nm.toArray⟩,(hd:Int),(xt:Int),.bool im,.bool hh,.bool il]:=hbx.below h5 hbx.lt
  have hk5:w5.heap[W0.heap.size]? = some (.deferred (some [])):=(h5.block W0.heap.size (Array.getElem?_eq_some_iff.1 hbg.out.mark).1).trans hbg.out.mark
  have p0:w5.cell? (w.heap.size,0)=some (g:Vl):=(hb5.cell (p:=⟨w.heap.size,0,none⟩) (by show w.heap.size<W0.heap.size;rw[hsz.out];omega)).trans (hB0.out.cell 0)
  have p1:=hon5.r0
  have p2:=hon5.m0
  have p3:=hon5.r1
  have p5:=hon5.r4
  have p4:w5.cell? (W.heap.size,2)=some ((xt:Int):Vl):=hbx5.cell 2
  refine hK.out _ _ ?hS9 (λhHeld=> ?rs99)
  case hS9=>exact⟨p0,p1,p2,p3,p4⟩
  clear hK K
  refine tkL 14 ?_
  refine pt ?_
  refine tkL 15 ?_
  refine pt ?_
  refine tkL 16 ?_
  refine pt ?_
  refine tkL 17 ?_
  refine pt ?_
  refine tkL 18 ?_
  refine pt ?_
  refine wpAnyH_done kR ?_ _
  refine⟨rfl,?_⟩
  refine Rng.seqH ?_
  gi_wp2_with (refine⟨trivial,?_⟩;gi_at_call 68;refine CallsIn.inRound _ (callsIn_wide.2 ((try_ok _).mono ?_));rintro e w6 ⟨rfl,rfl⟩)
  refine Lib.hid (Rng.seqH ?_)
  gi_wp2_with (refine⟨trivial,?_⟩;gi_at_call 91;refine CallsIn.inRound _ (callsIn_wide.2 ((hun.out _).mono ?_));rintro e w6 ⟨rfl,rfl⟩)
  refine Lib.hid (Rng.seqH ?_)
  gi_wp2_with (refine⟨trivial,?_⟩;gi_at_call 94;refine CallsIn.inRound _ (callsIn_wide.2 ((must_ok _ _).mono ?_));rintro e w6 ⟨rfl,rfl⟩)
  refine Lib.hid (Rng.seqH ?_)
  gi_wp2_with (refine⟨trivial,?_⟩;gi_at_call 205;refine CallsIn.inRound _ (callsIn_wide.2 ((hpk.out _).mono ?_));rintro e w6 ⟨rfl,rfl⟩)
  refine Lib.hid (Rng.seqN ?_)
  have hbw5:Below w.heap.size w w6:=hbl.out.trans (hb5.mono hbl.out.size)
  have hsc:=hset.out w6 hbw5
  have hbg2:=hbg.out.mark
  have hl2:W0.heap.size+1<W2.heap.size:=by have:=hbg.out.size;have h2:=hal.size;rw[World.size_alloc]at this;omega
  have hB05:Blk w6 w.heap.size 107 #[g]:=hB0.out.below hb5 (by rw[hsz.out];omega)
  refine Rng.region_inRound (S:=(λw':World=>w'.cell? (w.heap.size,0)=some (g:Vl)∧w'.cell? (g,0)=some (c.gM:Vl)∧w'.cell? (c.gM,0)=some (c.gI:Vl)∧w'.cell? (g,1)=some (x.mode:Vl)∧w'.cell? (W.heap.size,2)=some ((xt:Int):Vl))) _ kR (by rintro⟨a,w,h,_⟩;cases h) (Rng.noDefer_of kR) ?_
  have hSb: (λw':World=>w'.cell? (w.heap.size,0)=some (g:Vl)∧w'.cell? (g,0)=some (c.gM:Vl)∧w'.cell? (c.gM,0)=some (c.gI:Vl)∧w'.cell? (g,1)=some (x.mode:Vl)∧w'.cell? (W.heap.size,2)=some ((xt:Int):Vl)) w6.drew:=⟨p0,p1,p2,p3,p4⟩
  replace hsc:=Lib.hid hsc
  refine tkL 0 ?_
  refine pt ?_
  refine tkL 1 ?_
  refine pt ?_
  refine tkL 2 ?_
  refine pt ?_
  refine tkL 3 ?_
  refine pt ?_
  refine tkL 4 ?_
  refine pt ?_
  refine tkL 5 ?_
  refine pt ?_
  refine tkL 6 ?_
  refine pt ?_
  refine tkL 7 ?_
  refine pt ?_
  refine tkL 8 ?_
  refine pt ?_
  refine tkL 9 ?_
  refine pt ?_
  refine tkL 10 ?_
  refine pt ?_
  refine tkL 11 ?_
  refine pt ?_
  refine tkL 12 ?_
  refine pt ?_
  refine tkL 13 ?_
  refine pt ?_
  refine wpAnyH_ready (rs:=[14]) kR (by simp) ?_
  refine AllReadyH.cons rfl (λK hK=> ?step2) ?more2
  case more2=>exact AllReadyH.nil
  go_simp
  go_wp2_with (go_at_call 58;refine mo hsc.out λw7 h7w=>?_)
  have hs7:=h7w.size
  have hB7:Blk w7 w.heap.size 107 #[g]:=hkeep7.out _ _ h7w _ (by have:=hsz.out;omega) hB05
  have hX7:Blk w7 W.heap.size 36 #[.string ⟨nm.toArray⟩,(hd:Int),(xt:Int),.bool im,.bool hh,.bool il]:=hkeep7.out _ _ h7w _ (by have:=hsz.out;omega) hbx5
  have p70:=hB7.cell 0
  have p71:=h7w.r0
  have p72:=h7w.m0
  have p73:=h7w.r1
  have p74:w7.cell? (W.heap.size,2)=some ((xt:Int):Vl):=hX7.cell 2
  refine hK.out _ _ ?hS92 (λhHeld=> ?rs992)
  case hS92=>exact⟨p70,p71,p72,p73,p74⟩
  clear hK K
  refine wpAnyH_ready (rs:=[15]) kR (by simp) ?_
  refine AllReadyH.cons rfl (λK hK=> ?step3) ?more3
  case more3=>exact AllReadyH.nil
  go_simp
  go_wp2_with (go_at_call 68;refine(try_ok _).mono ?_;rintro e w8 ⟨rfl,rfl⟩)
  refine hK.out _ _ ⟨p70,p71,p72,p73,p74⟩ (λhHeld=> ?_)
  clear hK K
  refine wpAnyH_done kR ?_ _
  refine⟨rfl,?_⟩
  gi_wp2
  obtain⟨F2,hV,⟨k1,k2,k3,k4,k5⟩,hF2⟩:=h7w
  have hs0:=hsz.out
  have hs1:=h5.size
  have hx0:=h5.block W0.heap.size oM
  have hx1:=h5.block (W0.heap.size+1) hl2
  exact⟨trivial,⟨_,hbw5,by omega,F2,hV,⟨k1,k2,k3,k4,k5⟩,hF2⟩,(k5 _ oM (λh=>by have:=hFlt _ h;omega)).trans hx0,(k5 _ oM (λh=>by have:=hFlt _ h;omega)).trans hx1⟩
 case fin=>
  rintro W3 W4 ⟨Wb,F2,hbb,hsb,hV,⟨k1,k2,k3,k4,k5⟩,hF2⟩ hoth hs4 h1 h2 h3 hmark
  have hs0:=hsz.out
  have hsw:=hbb.size
  gi_wp2
  have hfin:On F w (VA c g x src s2) (W4.putObj W0.heap.size (.deferred none)):=by
   refine⟨F2,(VA c g x src s2).kept hV (T:=λk=>k=W0.heap.size∨k=W0.heap.size+1) ⟨h1,h2,h3,by rw[World.putObj_size];omega,λk hk hn=> ?_⟩ ?_,⟨h1.trans (k1.trans hbb.os),h2.trans (k2.trans hbb.tape),h3.trans (k3.trans hbb.output),by rw[World.putObj_size];omega,λk hk hn=> ?_⟩,λk hk=>(hF2 k hk).imp id λh=>by omega⟩
   ·exact(World.putObj_heap_other (λe=>hn (.inl e))).trans (hoth k (λe=>hn (.inr e)))
   ·rintro k hk (rfl|rfl)
    ·rcases hF2 _ hk with h|h
     ·have:=hFlt _ h;omega
     ·omega
    ·rcases hF2 _ hk with h|h
     ·have:=hFlt _ h;omega
     ·omega
   ·exact(World.putObj_heap_other oM).trans ((hoth k oM).trans ((k5 k oM hn).trans (hbb.block k hk)))
  refine⟨by simp,.inl ⟨_,_,rfl,run_takeDeferred hmark,?_⟩⟩
  exact⟨.tuple #[],by simp[results,results138,go_sem],rfl,hfin⟩
end
theorem wordsF_xt(S:Img)(D:Dc): ∀(k:Nat) (a:Int),∀x∈wordsF S D k a,D.fr S<=x.xt
 | 0,_,x,h=>by cases h
 | k+1,a,x,h=>by
   unfold wordsF at h
   split at h
   ·cases h
   ·rename_i w next hw
    have h1:D.fr S<=w.xt:=by
     unfold headW at hw
     split at hw
     ·cases hw
     ·rename_i h0
      simp only at hw
      split at hw
      ·cases hw
      ·simp only[Option.some.injEq,Prod.mk.injEq]at hw
       obtain⟨rfl,_⟩:=hw
       show D.fr S<=up _
       have:=(up_ge (a.toNat+9+ (S.b.getD (a.toNat+8) 0).toNat % 32)).1
       omega
    split at h
    ·rw[List.mem_singleton.1 h];exact h1
    ·rcases List.mem_cons.1 h with h|h
     ·rw[h];exact h1
     ·exact wordsF_xt S D k next x h
theorem cellF_both(S:Img)(m a:Int)(ha: (S.beg 3:Int)<=a)(h:S.cellF m a false=0):S.cellF m a true=0:=by
 have hr:S.region a≠1∧S.region a≠2:=by
  have h2:S.beg 2<=S.beg 3:=by show S.k<=S.k+S.s;omega
  unfold Img.region
  constructor <;> ·repeat' split
                   all_goals omega
 unfold Img.cellF at *
 split at h
 ·cases h
 rename_i h8
 rw[if_neg h8]
 split at h
 ·rename_i hro
  rw[if_pos]
  unfold Img.rowOk at *
  simp only[Bool.or_eq_true,Bool.and_eq_true]at *
  rcases hro with hro| ⟨h1,h2⟩
  ·exact .inl hro
  ·refine .inr ⟨h1,?_⟩
   unfold Img.lets at *
   simp only[if_true,Bool.false_eq_true,if_false]at *
   unfold Img.may at *
   split at h2
   ·simp at h2
   ·rename_i hm
    rw[if_neg hm]
    split
    ·rename_i h0
     rw[if_neg (λh=>hr.1 h.1)]
     rfl
    ·rename_i h0
     rw[if_neg h0]at h2
     rw[if_neg (λh=>h.elim hr.1 (λh=>hr.2 h.1))]at h2⊢
     split at h2
     ·rename_i h3;rw[if_pos h3];rfl
     ·simp at h2
 ·cases h
section
variable {w:World}{F:Nat->Prop}{c:Vc}{g:Nat}{x:Rn}{src:Value}{s:Mt}
theorem done_x(x:Rn)(s:Mt): (doneQ x s).x=x:=by
 unfold doneQ
 split
 ·rfl
 ·split
  ·rfl
  ·split<;>rfl
theorem done_ok(hs:s.Ok)(x:Rn): (doneQ x s).s.Ok:=by
 unfold doneQ
 split
 ·exact hs
 ·split
  ·exact hs
  ·split
   ·exact hs
   ·exact⟨hs.pd,hs.pr,hs.d,hs.r,hs.du,hs.dv,hs.ru,hs.rv⟩
theorem v_done(hb: (VA c g x src s).holds w F)(hp:Dcs c src s)(hx:x.Ok):
 Calls prog 138 #[g] w (Got (tryE (doneQ x s).f) (VA c g x src (doneQ x s).s) F w):=by
 rcases hws:words s.S (dS s)with _| ⟨x0,rest⟩
 ·have e:doneQ x s= ⟨16,x,s⟩:=by unfold doneQ;rw[hws]
  rw[e]
  exact done_nil hb hp hws
 ·have hxt: (s.S.beg 3:Int)<=(x0.xt:Int):=by
   have h1:=wordsF_xt s.S (dS s) ((dS s).l+1) (dS s).l x0 (by show x0∈words s.S (dS s);rw[hws];simp)
   have h2: (dS s).fr s.S=s.S.beg 3+8:=rfl
   omega
  by_cases hf:s.S.cellF x.mode x0.xt false=0
  ·have hf2:=cellF_both s.S x.mode x0.xt hxt hf
   by_cases hop: (Code.unpack (s.S.cellV x.mode x0.xt)).1=17
   ·have e:doneQ x s= ⟨0,x,{ s with S:=s.S.setCell x.mode x0.xt (if Code.right 17 x.next=true then 256*x.next+17 else 0) }⟩:=by
     unfold doneQ
     rw[hws]
     simp only[hf,hop,ne_eq,not_true,if_false]
    rw[e]
    rcases hr:Code.right 17 x.next with _|_
    ·exact done_ret hb hp x0 rest hws hf hf2 _ rfl (by rw[hop];rfl) 0 false (λw=>pack_no 17 x.next w hr) (by unfold V64;omega) _ rfl
    ·have hro:=Code.right_ops hr
     exact done_ret hb hp x0 rest hws hf hf2 _ rfl (by rw[hop];rfl) (256*x.next+17) true (λw=>pack_yes 17 x.next w hr) (by unfold V64;omega) _ rfl
   ·have e:doneQ x s= ⟨16,x,s⟩:=by
     unfold doneQ
     rw[hws]
     simp only[hf,ne_eq,not_true,if_false]
     rw[if_pos hop]
    rw[e]
    exact done_dies hb hp x0 rest hws _ _ _ hf rfl (.inr ⟨rfl,by simpa using hop,rfl⟩)
  ·have e:doneQ x s= ⟨s.S.cellF x.mode x0.xt false,x,s⟩:=by
    unfold doneQ
    rw[hws]
    simp only
    rw[if_pos hf]
   rw[e]
   have:=done_dies hb hp x0 rest hws _ _ _ rfl rfl (.inl ⟨hf,rfl⟩)
   rw[tryE_no hf]
   exact this
end
def PartG(P:Kn)(f:FuncId)(i:Inst)(q:Rn->Mt->Rs):Prop:=
 ∀(c:Vc) (g:Nat) (x:Rn) (src:Value) (s:Mt) (ba:Nat) (w:World) (F:Nat->Prop),P c src s->s.Ok->x.Ok->V64 i.arg->V64 i.lit->Asked i x s->
  (AllA (BlkA ba 3 (intsC (s.args (Code.wants i.op).1.toNat))::vL c g x src s)).holds w F->
  Calls prog f #[g,i.v,.slice ba (Code.wants i.op).1.toNat (Code.wants i.op).1.toNat] w (Got (tryE (q x s).f) (AllA (BlkA ba 3 (intsC (s.args (Code.wants i.op).1.toNat))::vL c g (q x s).x src (q x s).s)) F w)
theorem does_controlG(P:Kn)(i:Inst)(q:Rn->Mt->Rs)(hop:i.op<=20)(hq:PartG P 101 i q):DoesG P i q:=by
 intro c g x src s w F hp hs hx hv1 hv2 hask hb
 obtain⟨op,arg,lit,cells⟩:=i
 simp only at hop
 show Calls _ _ #[_,.agg #[op,arg,lit,cells]] _ _
 have hon:=(On.refl hb).box #[op,arg,lit,cells] 168
 have hw:=wants_le op
 have hwa:=λw=>v_wants op w
 obtain⟨n,hn⟩: ∃n:Nat,(Code.wants op).1= (n:Int):=⟨(Code.wants op).1.toNat,by omega⟩
 have hn2: (Code.wants op).1.toNat=n:=by omega
 have hn8:n<=8:=by omega
 rw[hn]at hwa
 generalize (Code.wants op).2=ly at *
 have hargs:=λw1 (h1:On F w (AllA (BlkA w.heap.size 168 #[op,arg,lit,cells]::vL c g x src s)) w1)=>h1.callTail λF' hb' _ _=>v_args' hb' hs n hn8
 have hctl: ∀w1 w2 ba,On F w (AllA (BlkA w1 168 #[op,arg,lit,cells]::BlkA ba 3 (intsC (s.args n))::vL c g x src s)) w2->
  Calls prog 101 #[g,.agg #[op,arg,lit,cells],.slice ba n n] w2 (Got (tryE (q x s).f) (AllA (BlkA w1 168 #[op,arg,lit,cells]::BlkA ba 3 (intsC (s.args n))::vL c g (q x s).x src (q x s).s)) F w):=by
  intro w1 w2 ba h
  refine h.callTail λF' hb' _ _=> ?_
  have h1:=hq c g x src s ba w2 F' hp hs hx hv1 hv2 hask
  simp only[hn2]at h1
  exact h1 hb'
 have hle:decide (op<=20)=true:=decide_eq_true hop
 generalize q x s=Q at *
 obtain⟨f,x',s'⟩:=Q
 simp only at hctl⊢
 replace hwa:=Lib.hid hwa
 replace hargs:=Lib.hid hargs
 replace hctl:=Lib.hid hctl
 replace hon:=Lib.hid hon
 clear hb hq hs hx hask hw hn hn2 hv1 hv2 hop
 go_enter func71,ntmps71
 go_wp2_with fail
 refine mo (hwa.out _) λw1 hb1=>?_
 have hon1:=hon.out.below hb1
 replace hargs:=Lib.hid (hargs.out _ hon1)
 clear hb1
 go_wp2_with fail
 refine mo hargs.out λw2 hon2=>?_
 have b0:w2.cell? (w.heap.size,0)=some (op:Vl):=(hon2.blkAt 0 rfl).cell 0
 have b1:w2.cell? (w.heap.size,1)=some (arg:Vl):=(hon2.blkAt 0 rfl).cell 1
 have b2:w2.cell? (w.heap.size,2)=some (lit:Vl):=(hon2.blkAt 0 rfl).cell 2
 have b3:w2.cell? (w.heap.size,3)=some (cells:Vl):=(hon2.blkAt 0 rfl).cell 3
 replace hctl:=Lib.hid (hctl.out _ _ _ hon2)
 clear hon2 hon1
 go_wp2_with fail
 refine hctl.out.mono ?_
 rintro e w3 ⟨he,hon3⟩
 have hon4:=Lib.hid hon3.tail.tail
 clear hon3
 by_cases hf:f=0
 ·have he2:tryE f = .returned (.tuple #[]):=by unfold tryE;rw[if_pos hf]
  rw[he2]at he
  subst he
  replace he2:=Lib.hid he2
  clear hf
  go_wp2
  go_end0
  exact⟨he2.out.symm,hon4.out⟩
 ·have he2:tryE f = .panicked [flt f]:=by unfold tryE;rw[if_neg hf]
  rw[he2]at he
  subst he
  replace he2:=Lib.hid he2
  clear hf
  go_wp2
  exact⟨rfl,he2.out.symm,hon4.out⟩
def doesP(x:Rn)(s:Mt):Rs:=if(doneQ x s).f=0 then back x (doneQ x s).s else doneQ x s
theorem ctl_does(arg lit cells:Int):PartG Dcs 101 ⟨18,arg,lit,cells⟩ doesP:=by
 intro c g x src s ba w F hp hs hx hv1 hv2 hask hb
 have hon:=(On.refl hb).box #[(18:Int),arg,lit,cells] 168
 have h0:0<s.r:=by
  have h1:=hask.off
  have h2:=hx.base
  have e: (returns 18 arg s.same).1=1:=rfl
  simp only[e]at h1
  omega
 have hdn:=hon.callDrop 2 (by simp) λF'' hb'' _ _=>v_done hb'' hp hx
 have hr: (doneQ x s).s.r=s.r:=by
  unfold doneQ
  split
  ·rfl
  ·split
   ·rfl
   ·split<;>rfl
 have hS2:=done_ok hs x
 have hx2:=done_x x s
 have hbf: (back x (doneQ x s).s).f=0:=by unfold back;rw[if_neg (by rw[hr];omega)]
 have hbk: ∀W,On F w (AllA (BlkA w.heap.size 168 #[(18:Int),arg,lit,cells]::BlkA ba 3 (intsC (s.args (Code.wants 18).1.toNat))::vL c g x src (doneQ x s).s)) W->
  Calls prog 137 #[g] W (Got (.returned (.tuple #[])) (AllA (BlkA w.heap.size 168 #[(18:Int),arg,lit,cells]::BlkA ba 3 (intsC (s.args (Code.wants 18).1.toNat))::vL c g (back x (doneQ x s).s).x src (back x (doneQ x s).s).s)) F w):=λW hW=>hW.callDrop 2 (by simp) λF'' hb'' _ _=>v_back hb'' hS2 (by rw[hr];exact h0)
 have hdn':Calls prog 138 #[g] (w.alloc (.cells #[(18:Int),arg,lit,cells] 168)) (Got (tryE (doneQ x s).f) (AllA (BlkA w.heap.size 168 #[(18:Int),arg,lit,cells]::BlkA ba 3 (intsC (s.args (Code.wants 18).1.toNat))::vL c g x src (doneQ x s).s)) F w):=hdn
 have hq:doesP x s=if(doneQ x s).f=0 then⟨0,(back x (doneQ x s).s).x,(back x (doneQ x s).s).s⟩else⟨(doneQ x s).f,x,(doneQ x s).s⟩:=by
  unfold doesP
  by_cases h: (doneQ x s).f=0
  ·rw[if_pos h,if_pos h]
   generalize back x (doneQ x s).s=Q at *
   obtain⟨f,x1,s1⟩:=Q
   simp only at hbf
   rw[hbf]
  ·rw[if_neg h,if_neg h]
   generalize doneQ x s=Q at *
   obtain⟨f,x1,s1⟩:=Q
   simp only at hx2
   rw[hx2]
 rw[hq]
 show Calls _ _ #[_,.agg #[(18:Int),arg,lit,cells],_] _ (Got _ (AllA (BlkA ba 3 (intsC (s.args (Code.wants 18).1.toNat))::_)) _ _)
 clear hq hbf hx2 hS2 hr hdn
 generalize (back x (doneQ x s).s).x=x' at *
 generalize (back x (doneQ x s).s).s=s' at *
 generalize (doneQ x s).s=s2 at *
 generalize (doneQ x s).f=f at *
 generalize intsC (s.args (Code.wants 18).1.toNat)=ac at *
 generalize (Code.wants 18).1.toNat=n at *
 replace hbk:=Lib.hid hbk
 clear hb hs hx hask hp h0 hon
 by_cases hf:f=0
 ·simp only[if_pos hf]
  have e1:tryE f = .returned (.tuple #[]):=by unfold tryE;rw[if_pos hf]
  rw[e1]at hdn'
  have e2:tryE 0 = .returned (.tuple #[]):=rfl
  simp only[e2]
  replace hdn':=Lib.hid hdn'
  clear e1 e2 hf
  go_enter func101,ntmps101
  go_wp2_with fail
  refine mo hdn'.out λw1 h1=>?_
  replace h1:=Lib.hid (hbk.out _ h1)
  simp only[]
  go_wp2_with fail
  refine mo h1.out λw2 h2=>?_
  replace h2:=Lib.hid h2
  simp only[]
  go_wp2
  go_end0
  exact⟨rfl,h2.out.tail⟩
 ·simp only[if_neg hf]
  rw[tryE_no hf]at hdn'⊢
  replace hdn':=Lib.hid hdn'
  replace hf:=Lib.hid hf
  go_enter func101,ntmps101
  go_wp2_with fail
  refine mo hdn'.out λw1 h1=>?_
  exact⟨rfl,rfl,h1.tail⟩
end Vm
end Go.Proofs.YtngdikikclfgjaaGreatDoor
