/- Chapter 13: the words of both kernels are laid. Conditions: as written. -/
import Derived.Test.YteaijdgnagkllaaGreatDoorZdOTable
import Derived.Test.YteaijdgnagkllaaGreatDoorZd41
open Go.Proofs.Tryz
namespace Go.Proofs.YteaijdgnagkllaaGreatDoor
set_option linter.unusedVariables false
set_option linter.unusedSimpArgs false
set_option maxHeartbeats 8000000
set_option maxRecDepth 100000
open Go.RowKit Go.Lib Go.Deep
namespace Vm
theorem ints_blkO{W:World}{g:Nat}{t:TypeId}{l:List Int}(h1:Blk W g t (intsC l)):Ints W (some ⟨g,0,none⟩) l:=λk v hk=>by
 refine⟨_,rfl,?_⟩
 have e2: ((⟨g,0,none⟩:Addr).add k)= ⟨g,k,none⟩:=by simp[Addr.add];intro h;exact h.symm
 rw[e2,h1.cell k]
 simp[intsC,hk]
section
variable {w W:World}{F:Nat->Prop}{b:Bo}{gr gb cap:Nat}{wcs:Array Value}{q:Img×Dc}
theorem kw_call{g cp:Nat}{B1:Asr}{x:KW}{rest:List KW}(h:On F w (AllA (BlkA g 3 (intsC x.cells)::B1::owL b gr gb 16384 cap wcs q q)) W)(hk:KGo (x::rest) q)(hx:KwFine x)(hw1:wcs[1]? = some (gr:Vl))(hcl:x.cells.length<=1000):
 Calls prog 61 #[b.gB,.string ⟨x.name.toArray⟩,.bool x.inl,.slice (some ⟨g,0,none⟩) x.cells.length cp] W (Got (.returned (.bool true)) (AllA (BlkA g 3 (intsC x.cells)::B1::owL b gr gb 16384 cap wcs (kwS x q) (kwS x q))) F w):=by
 refine h.callTail λF' hb' hB _=> ?_
 obtain⟨F3,h3,hd⟩:=hB
 have hg:F3 g:=(h3.2 g).2 rfl
 have hlt:g<W.heap.size:=h3.1.lt
 refine(On.refl hb').callTail λF'' hb'' _ hF''=> ?_
 obtain⟨l,hgr⟩:=hk.gr
 refine o_word hb'' hk.at8 hgr x hx hk.fits hw1 (some ⟨g,0,none⟩) cp (ints_blkO h3.1) (λa ha hk=> ?_) hcl
 cases ha
 rcases hF'' _ hk with h1|h1
 ·exact hd g hg h1
 ·have h2:W.heap.size<=g:=h1
  omega
theorem o_kernel(hb: (AllA (owL b gr gb 16384 cap wcs (img13,ker0) (img13,ker0))).holds w F)(hw1:wcs[1]? = some (gr:Vl)):
 Calls prog 33 #[b.gB] w (Got (.returned (.bool true)) (AllA (owL b gr gb 16384 cap wcs k13 k13)) F w):=by
 have hon:=(On.refl hb).box (strC opNames) 9
 have hcall:=λ(W:World) (g:Nat) (B1:Asr) (x:KW) (rest:List KW) (q:Img×Dc) (cp:Nat) (h:On F w (AllA (BlkA g 3 (intsC x.cells)::B1::owL b gr gb 16384 cap wcs q q)) W) (hk:KGo (x::rest) q) (hx:KwFine x) (hcl:x.cells.length<=1000)=>kw_call (cp:=cp) h hk hx hw1 hcl
 replace hon:=hid hon
 replace hcall:=hid hcall
 clear hb hw1
 go_enter func33,ntmps33
 go_wp2_with fail
 refine(o_table w).mono ?_
 rintro e w1 ⟨rfl,rfl⟩
 simp only[]
 go_wp2_with fail
 go_loopg [4] 97 (λk t wr=> ∃(op:Nat) (qj:Img×Dc),10<=op∧op+k=107∧t = .int .i64 (op:Int)∧KGo ((opsFrom op k).map opW++ (spsFrom 0 36).map spW) qj∧On F w (AllA (BlkA w.heap.size 9 (strC opNames)::owL b gr gb 16384 cap wcs qj qj)) wr)
 case atStart=>exact⟨10,_,by omega,by omega,rfl,by rw[<-kernel_split];exact KGo.start,hon.out⟩
 case round=>
  obtain⟨op,qj,ho1,ho2,rfl,hkg,hoj⟩:=hrel
  by_cases hlt:op<107
  ·obtain⟨k',hk'⟩: ∃k',gk=k'+1:=⟨gk-1,by omega⟩
   rw[hk']at hkg
   by_cases hal:op<17∨20<op
   ·rw[opsFrom_go hal,List.map_cons,List.cons_append]at hkg
    have hx:=opW_fine op ⟨ho1,hlt⟩
    have hbx:=hoj.box (intsC [(op:Int),1]) 3
    have hcl:=hcall.out _ _ _ (opW op) _ qj 2 hbx hkg hx (by show 2<=1000;decide)
    have hc:wr.cell? (w.heap.size,op)=some (.string ⟨(opNames.getD op []).toArray⟩):=by
     rw[(hoj.blkAt 0 rfl).cell op]
     exact strC_at opNames op (by show op<107;exact hlt)
    have hnx:=hkg.next hx
    generalize kwS (opW op) qj=qn at *
    change Calls prog 61 #[b.gB,.string ⟨(opNames.getD op []).toArray⟩,.bool true,.slice (some ⟨wr.heap.size,0,none⟩) 2 2] _ _ at hcl
    generalize (opNames.getD op []).toArray=nm at *
    replace hcl:=hid hcl
    replace hnx:=hid hnx
    clear hkg hoj hx hbx
    rcases hal with hal|hal
    ·have g1:decide ((17:Int)<=(op:Int))=false:=decide_eq_false oM
     go_wp2_with fail
     refine mo hcl.out λw5 h5=>?_
     simp only[]
     have h6:=hid h5.tail
     clear h5
     go_wp2
     go_roundg k'
     case measure=>omega
     case rel=>exact⟨op+1,qn,by omega,by omega,by go_num,hnx.out,h6.out⟩
    ·have g1:decide ((17:Int)<=(op:Int))=true:=decide_eq_true oM
     have g2:decide ((op:Int)<=20)=false:=decide_eq_false oM
     go_wp2_with fail
     refine mo hcl.out λw5 h5=>?_
     simp only[]
     have h6:=hid h5.tail
     clear h5
     go_wp2
     go_roundg k'
     case measure=>omega
     case rel=>exact⟨op+1,qn,by omega,by omega,by go_num,hnx.out,h6.out⟩
   ·rw[opsFrom_skip hal]at hkg
    have g1:decide ((17:Int)<=(op:Int))=true:=decide_eq_true oM
    have g2:decide ((op:Int)<=20)=true:=decide_eq_true oM
    replace hoj:=hid hoj
    replace hkg:=hid hkg
    go_wp2
    go_roundg k'
    case measure=>omega
    case rel=>exact⟨op+1,qj,by omega,by omega,by go_num,hkg.out,hoj.out⟩
  ·obtain rfl:gk=0:=by omega
   have hop:op=107:=by omega
   subst hop
   have e0:opsFrom 107 0 = []:=rfl
   rw[e0,List.map_nil,List.nil_append]at hkg
   have hon2:=(hoj.tail).box (strC spNames) 9
   replace hon2:=hid hon2
   replace hkg:=hid hkg
   clear hoj hon
   go_wp2_with fail
   refine(o_specials wr).mono ?_
   rintro e w1 ⟨rfl,rfl⟩
   simp only[]
   generalize wr.heap.size=g0 at *
   go_wp2_with fail
   go_loopg [7] 36 (λk t wr2=> ∃(j:Nat) (qj:Img×Dc),j+k=36∧t = .int .i64 (j:Int)∧KGo ((spsFrom j k).map spW) qj∧On F w (AllA (BlkA g0 9 (strC spNames)::owL b gr gb 16384 cap wcs qj qj)) wr2)
   case atStart=>exact⟨0,_,by omega,rfl,hkg.out,hon2.out⟩
   case round=>
    obtain⟨j,qj2,hj,rfl,hkg2,hoj⟩:=hrel
    by_cases hlt:j<36
    ·obtain⟨k',hk'⟩: ∃k',gk=k'+1:=⟨gk-1,by omega⟩
     rw[hk']at hkg2
     have e1:spsFrom j (k'+1)=j::spsFrom (j+1) k':=List.range'_succ
     rw[e1,List.map_cons]at hkg2
     have hx:=spW_fine j hlt
     have hbx:=hoj.box (intsC [256* ((j:Int) +1) +20]) 3
     have hcl:=hcall.out _ _ _ (spW j) _ qj2 1 hbx hkg2 hx (by show 1<=1000;decide)
     have hc:=(hoj.blkAt 0 rfl).cell j
     rw[strC_at spNames j (by show j<36;exact hlt)]at hc
     have hnx:=hkg2.next hx
     generalize kwS (spW j) qj2=qn at *
     change Calls prog 61 #[b.gB,.string ⟨(spNames.getD j []).toArray⟩,.bool false,.slice (some ⟨_,0,none⟩) 1 1] _ _ at hcl
     generalize (spNames.getD j []).toArray=nm at *
     replace hcl:=hid hcl
     replace hnx:=hid hnx
     clear hkg2 hoj hx hbx e1
     go_wp2_with fail
     refine mo hcl.out λw5 h5=>?_
     simp only[]
     have h6:=hid h5.tail
     clear h5
     go_wp2
     go_roundg k'
     case measure=>omega
     case rel=>exact⟨j+1,qn,by omega,by go_num,hnx.out,h6.out⟩
    ·obtain rfl:gk=0:=by omega
     have e1:spsFrom j 0 = []:=rfl
     rw[e1,List.map_nil]at hkg2
     have hq:qj2=k13:=hkg2.all
     subst hq
     replace hoj:=hid hoj
     clear hkg2
     go_wp2
     go_ret
     exact⟨rfl,hoj.out.tail⟩
end
def set13:Array Value:=#[(1:Int),(60000:Int),.string ⟨#[]⟩,(300:Int),(29:Int),(29:Int),(10:Int)]
theorem plain13(w:World):Calls prog 9 #[] w (Quiet (.agg set13) w):=by
 unfold set13
 go_enter func9,ntmps9
 go_wp2
 have hb:=Blk.new w 26 #[(1:Int),(60000:Int),.string ⟨#[]⟩,(300:Int),(29:Int),(29:Int),(10:Int)]
 have c0:=hb.cell 0
 have c1:=hb.cell 1
 have c2:=hb.cell 2
 have c3:=hb.cell 3
 have c4:=hb.cell 4
 have c5:=hb.cell 5
 have c6:=hb.cell 6
 exact bodyPost_ret (v:= .agg #[(1:Int),(60000:Int),.string ⟨#[]⟩,(300:Int),(29:Int),(29:Int),(10:Int)]) (by simp[results,results9,go_sem,c0,c1,c2,c3,c4,c5,c6]) rfl ⟨rfl,(Below.refl _ _).alloc (Nat.le_refl _) _⟩
theorem pick13(c n:Int)(w:World)(hc:0<=c∧c<n)(hn:n<=9223372036854775807):
 Calls prog 10 #[c,n] w (Same (c:Int) w):=by
 have h:0<=c:=hc.1
 have hn0:0<n:=by omega
 go_enter func10,ntmps10
 go_wp2
 go_ret
 exact⟨by show Ending.returned (.int .i64 (c % n))=_;rw[Int.emod_eq_of_lt hc.1 hc.2],rfl⟩
theorem lay13(w:World):Calls prog 25 #[.agg set13] w (Quiet wideV w):=by
 unfold set13
 have pk1:=λW=>pick13 300 400 W oM oM
 have pk2:=λW=>pick13 29 30 W oM oM
 replace pk1:=hid pk1
 replace pk2:=hid pk2
 go_enter func25,ntmps25
 go_wp2_with fail
 have h0:=Blk.new w 26 #[(1:Int),(60000:Int),.string ⟨#[]⟩,(300:Int),(29:Int),(29:Int),(10:Int)]
 have b3:=h0.cell 3
 have b4:=h0.cell 4
 have b5:=h0.cell 5
 replace h0:=hid h0
 go_region_held (λw'=>w'.cell? (w.heap.size,3)=some ((300:Int):Vl)∧w'.cell? (w.heap.size,4)=some ((29:Int):Vl)∧w'.cell? (w.heap.size,5)=some ((29:Int):Vl)) (go_keep)
  ((first
    | (go_at_call_of 10 (Value.int .i64 300);refine(pk1.out _).mono ?_;rintro e w1 ⟨rfl,rfl⟩;simp only[])
    | (go_at_call_of 10 (Value.int .i64 29);refine(pk2.out _).mono ?_;rintro e w1 ⟨rfl,rfl⟩;simp only[])))
 all_goals go_wp2_with fail
 have e1:IntKind.i64.wrap 2400=2400:=by rw[IntKind.wrap_i64];omega
 have e2:IntKind.i64.wrap 232=232:=by rw[IntKind.wrap_i64];omega
 have e3:IntKind.i64.wrap (256+2400)=2656:=by rw[IntKind.wrap_i64];omega
 have e4:IntKind.i64.wrap (64+232)=296:=by rw[IntKind.wrap_i64];omega
 rw[e1,e2,e3,e4]
 have hon:=(((On.refl (A:=AllA []) (F:=Nob) (w:=w) (λ_ h=>h)).box #[(1:Int),(60000:Int),.string ⟨#[]⟩,(300:Int),(29:Int),(29:Int),(10:Int)] 26).box #[(16384:Int),(64:Int),(2656:Int),(296:Int),(296:Int)] 70).drew
 have hz: (w.alloc (.cells #[(1:Int),(60000:Int),.string ⟨#[]⟩,(300:Int),(29:Int),(29:Int),(10:Int)] 26)).heap.size=w.heap.size+1:=by simp
 have hbk:=hon.blkAt 0 rfl
 rw[hz]at hbk
 have c0:=hbk.cell 0
 have c1:=hbk.cell 1
 have c2:=hbk.cell 2
 have c3:=hbk.cell 3
 have c4:=hbk.cell 4
 exact bodyPost_ret (v:=wideV) (by simp[results,results25,go_sem,c0,c1,c2,c3,c4,wideV]) rfl ⟨rfl,(((Below.refl _ _).alloc (Nat.le_refl _) _).alloc (by simp) _).drew⟩
def codeDrop:Nat->Code->Code
 | 0,c=>c
 | n+1,.seq _ b=>codeDrop n b
 | _+1,c=>c
theorem p_start{w W:World}{F:Nat->Prop}{A1 A2 A3 A4 A5 A6 A7 A8 A9 A10 A11:Asr}(h:On F w (AllA [A1,A2,A3,A4,A5,A6,A7,A8,A9,A10,A11]) W):On F w (AllA [A1,A3,A4,A5,A6,A7,A8,A9,A10,A2,A11]) W:=by
 replace h:On F w (AllA [A11,A1,A2,A3,A4,A5,A6,A7,A8,A9,A10]) W:=h.front 10 rfl
 replace h:On F w (AllA [A2,A11,A1,A3,A4,A5,A6,A7,A8,A9,A10]) W:=h.front 2 rfl
 replace h:On F w (AllA [A10,A2,A11,A1,A3,A4,A5,A6,A7,A8,A9]) W:=h.front 10 rfl
 replace h:On F w (AllA [A9,A10,A2,A11,A1,A3,A4,A5,A6,A7,A8]) W:=h.front 10 rfl
 replace h:On F w (AllA [A8,A9,A10,A2,A11,A1,A3,A4,A5,A6,A7]) W:=h.front 10 rfl
 replace h:On F w (AllA [A7,A8,A9,A10,A2,A11,A1,A3,A4,A5,A6]) W:=h.front 10 rfl
 replace h:On F w (AllA [A6,A7,A8,A9,A10,A2,A11,A1,A3,A4,A5]) W:=h.front 10 rfl
 replace h:On F w (AllA [A5,A6,A7,A8,A9,A10,A2,A11,A1,A3,A4]) W:=h.front 10 rfl
 replace h:On F w (AllA [A4,A5,A6,A7,A8,A9,A10,A2,A11,A1,A3]) W:=h.front 10 rfl
 replace h:On F w (AllA [A3,A4,A5,A6,A7,A8,A9,A10,A2,A11,A1]) W:=h.front 10 rfl
 replace h:On F w (AllA [A1,A3,A4,A5,A6,A7,A8,A9,A10,A2,A11]) W:=h.front 10 rfl
 exact h
def tab13:Caps.Tab:=Caps.made 1 60000 ⟨#[]⟩
def x03:Rw:=⟨img13,ker0,stu13,false,Caps.made 0 0 ⟨#[]⟩,0,List.replicate 37 0,0,List.replicate 37 0,0,0,0,false⟩
theorem md_start3{w W:World}{r:Rc}{gws bx:Nat}{sc:Array Value}(h:On Nob w (AllA [AllA (BlkA r.gW 91 (worldC r r.gK (.slice gws 1 1) 0 0 0 false)::BlkA gws 84 #[r.gK]::newO r),BlkA bx 26 sc]) W):
 On Nob w (AllA [DocB r r.gK (.slice gws 1 1) x03,BlkA gws 84 #[r.gK],BlkA bx 26 sc]) W:=by
 have h2:=p_start h.flat
 exact On.unflat (L1:=docO r r.gK (.slice gws 1 1) x03) h2
theorem i_make3(w:World):Calls prog 26 #[wideV] w (PostE (λe B=> ∃g,e = .returned (.tuple #[.pointer (some ⟨g,0,none⟩),(0:Int)])∧B=ImgA g img13) Nob w):=
 make_of_at (w:=w) (R:=λe B=> ∃g,e = .returned (.tuple #[.pointer (some ⟨g,0,none⟩),(0:Int)])∧B=ImgA g img13) λw0 L h=>(a_new h 16384 64 2656 296 296 img13_fits).mono λe w' ⟨g,he,h2⟩=>⟨_,⟨g,he,rfl⟩,h2⟩
theorem tab13_no:Caps.newErr 1 60000 ⟨#[]⟩=0:=by decide
theorem k13_cl:k13.1.cl=false:=k13_laid.2.1.al.cl
structure Oends(c:Vc)(b:Bo):Prop where
 m:c.gM=b.gM
 i:c.gI=b.gI
 s:c.gS=b.gS
 k:c.gK=b.gK
 t:c.gT=b.gT
 sfr:c.sfr=16456
 sto:c.sto=19104
 kfr:c.kfr=8
 kto:c.kto=16384
 tell:c.tell = .nilFunc
 rest:c.rest=λ_=>[RowP c.ws [c.gS,c.gK]]
def MadeO(e:Ending)(B:Asr):Prop:= ∃(c:Vc) (b:Bo) (wo:Value),Oends c b∧e = .returned (.pointer (some ⟨b.gB,0,none⟩))∧B=AllA (BlkA b.gB 36 (bothO b)::uL c b.gO wo 0 m13)
theorem pd13:pdOf img13= ⟨19104,37,1,2⟩:=rfl
theorem pr13:prOf img13= ⟨19400,37,3,4⟩:=rfl
def progO(b:Bo)(r:Rc)(wo ws:Value)(gD gR gws bx:Nat)(q:Img×Dc):List Asr:=
 [BlkA b.gB 36 (bothO b),BlkA b.gO 94 (newOC b.gM b.gS wo),RowP wo [b.gS,b.gK],BlkA b.gM 108 (newC b.gI b.gS b.gT b.gP ws gD gR),StkA b.gI gD (pdOf img13) 0,StkA b.gI gR (prOf img13) 0,RowP ws [b.gS,b.gK],
  DcA b.gI b.gS 16456 19104 stu13,DcA b.gI b.gK 8 16384 q.2,TabA b.gT tab13,ImgA b.gI q.1,BlkA bx 26 set13,BlkA gws 84 #[r.gK]]
def mdO(b:Bo)(r:Rc)(wo ws:Value)(gD gR gws bx:Nat)(l:Nat)(v:Value)(q:Img×Dc)(x:Rw):List Asr:=progO b r wo ws gD gR gws bx q++docO r l v x
theorem row_noneO{w:World}{F:Nat->Prop}{gws:Nat}{v:Value}(h: (BlkA gws 84 #[v]).holds w F): (RowK 84 1 (.slice (some ⟨gws,0,none⟩) 0 1) 0 []).holds w F:=
 ⟨⟨rfl,.inr ⟨gws,1,#[v],rfl,Nat.zero_le _,h.1,by omega,by decide,rfl,rfl⟩⟩,λk=>⟨λhk=>by rw[(h.2 k).1 hk];rfl,λhk=>(h.2 k).2 (by cases hk;rfl)⟩⟩
section
variable {w W:World}{gI gK gS gT gP gM gD gR gO gws bx:Nat}{ws wo v:Value}{r:Rc}{b:Bo}{l:Nat}{q:Img×Dc}{x:Rw}
theorem o_at0{at_:Int}(c3:W.cell? (gO,3)=some (at_:Vl)):Calls prog 12 #[gO] W (Same (at_:Int) W):=by
 go_enter func12,ntmps12
 go_wp2
 go_ret
 exact⟨rfl,rfl⟩
theorem n_data(c5:W.cell? (gM,5)=some (gD:Vl)):Calls prog 16 #[gM] W (Same gD W):=by
 go_enter func16,ntmps16
 go_wp2
 go_ret
 exact⟨rfl,rfl⟩
theorem n_return(c5:W.cell? (gM,6)=some (gD:Vl)):Calls prog 32 #[gM] W (Same gD W):=by
 go_enter func32,ntmps32
 go_wp2
 go_ret
 exact⟨rfl,rfl⟩
theorem md_kernel(h:On Nob w (AllA [BlkA gO 94 (newOC gM gS wo),RowP wo [gS,gK],BlkA gM 108 (newC gI gS gT gP ws gD gR),StkA gI gD (pdOf img13) 0,StkA gI gR (prOf img13) 0,RowP ws [gS,gK],BlkA gP 150 turC,DcA gI gS 16456 19104 stu13,DcA gI gK 8 16384 ker0,TabA gT tab13,ImgA gI img13,DocB r r.gK v { x03 with T:=tab13 },BlkA gws 84 #[r.gK],BlkA bx 26 set13]) W):
 Calls prog 33 #[W.heap.size] (W.alloc (.cells (bothO ⟨W.heap.size,gI,gK,gS,gT,gP,gM,gO,r.gW⟩) 36)) (Got (.returned (.bool true)) (AllA (mdO ⟨W.heap.size,gI,gK,gS,gT,gP,gM,gO,r.gW⟩ r wo ws gD gR gws bx r.gK v k13 { x03 with T:=tab13,S:=k13.1,K:=k13.2 })) Nob w):=by
 have h1:=h.box (bothO ⟨W.heap.size,gI,gK,gS,gT,gP,gM,gO,r.gW⟩) 36
 have h2:=(h1.front 12 rfl).flat
 have h3:=On.pickA [9,18,20,0,5,8,10,11,12,13,14,15,17,19,22,21,1,2,3,4,6,7] h2 (by decide)
 have h4:On Nob w (AllA (owL ⟨W.heap.size,gI,gK,gS,gT,gP,gM,gO,r.gW⟩ r.gK r.gb 16384 19696 (worldC r r.gK v 0 0 0 false) (img13,ker0) (img13,ker0)++ [BlkA gO 94 (newOC gM gS wo),RowP wo [gS,gK],BlkA gM 108 (newC gI gS gT gP ws gD gR),StkA gI gD (pdOf img13) 0,StkA gI gR (prOf img13) 0,RowP ws [gS,gK],DcA gI gS 16456 19104 stu13,TabA gT tab13,BlkA bx 26 set13,BlkA gws 84 #[r.gK],RefA r.gC tab13,AllA (rstkL r.gR r.gRr 0 3 4 (List.replicate 37 0)),AllA (rstkL r.gD r.gDr 0 1 2 (List.replicate 37 0)),RDicA r.gS r.gb 16448 19104 3248 false stu13,BlkA r.gT 197 (rturC 0 0 1 0 true),BlkA r.gM 130 (rimgCells r.gb img13)])) _:=h3
 have hk:=h4.unflat.callAtG 0 rfl (λF' hb=>o_kernel hb rfl)
 refine hk.mono ?_
 rintro e w' ⟨he,h5⟩
 have h6:=On.pickA [0,6,7,8,9,10,11,12,1,13,2,14,15,3,16,17,18,19,4,20,21,5] h5.flat (by decide)
 have h7:On Nob w (AllA (progO ⟨W.heap.size,gI,gK,gS,gT,gP,gM,gO,r.gW⟩ r wo ws gD gR gws bx k13 ++ [BlkA r.gW 91 (worldC r r.gK v 0 0 0 false),RefA r.gC tab13,AllA (rstkL r.gR r.gRr 0 3 4 (List.replicate 37 0)),AllA (rstkL r.gD r.gDr 0 1 2 (List.replicate 37 0)),RDicA r.gS r.gb 16448 19104 3248 false stu13,RDicA r.gK r.gb 0 16384 19696 false k13.2,BlkA r.gT 197 (rturC 0 0 1 0 true),BlkA r.gM 130 (rimgCells r.gb img13),RbA r.gb k13.1])) w':=h6
 rw[<-rimg_alike r.gb k13_laid.2.1.al]at h7
 exact⟨he,h7⟩
theorem mo_seal1(h:On Nob w (AllA (mdO b r wo ws gD gR gws bx l v q x)) W):Calls prog 34 #[b.gI] W (Got (.returned q.1.openF) (AllA (mdO b r wo ws gD gR gws bx l v (q.1.sealed,q.2) x)) Nob w):=
 h.callAtG 10 rfl λF' hb=>got_of_at hb λw0 L h=>a_seal h
theorem mo_seal2(h:On Nob w (AllA (mdO b r wo ws gD gR gws bx l v q x)) W)(hS:x.S.Ok)(hc:x.S.cl=false):Calls prog 35 #[r.gW] W (Got (.returned (.tuple #[])) (AllA (mdO b r wo ws gD gR gws bx l v q { x with S:=x.S.sealed,kcl:=true })) Nob w):=
 h.callDrop 13 (by simp[mdO,progO]) λF' hb _ _=>w_seal3 hb hS hc
theorem n_base{gb:Nat}{S:Img}(c0:W.cell? (gM,0)=some (gI:Vl))(hi:IRep W gI gb S):Calls prog 37 #[gM] W (λe w'=>e = .returned (S.beg 3:Int)∧∃n,w'=W.drewN n):=by
 have hsp:=i_span hi 3 oM oM
 replace hsp:=hid hsp
 clear hi
 go_enter func37,ntmps37
 go_wp2_with fail
 refine hsp.out.mono ?_
 rintro e w1 ⟨rfl,n,rfl⟩
 go_wp2
 go_ret
 exact⟨rfl,n,rfl⟩
theorem baseF3{S:Img}(hL:Lay3 S)(w:Bool):S.cellF 0 16448 w=0:=by
 obtain⟨b2,b3,b4,b5,b6⟩:=hL.begs
 have hr:S.region ((16448:Nat):Int)=3:=S.region_eq oM oM oM oM (by show((16448:Nat):Int) < ((S.beg 4:Nat):Int);omega)
 have hrow:S.rowOk 0 ((16448:Nat):Int) 8 w=true:=by
  unfold Img.rowOk Img.lets Img.may
  rw[hr]
  have h4:decide (((8:Nat):Int)<=(S.beg (3+1):Int) - ((16448:Nat):Int))=true:=decide_eq_true (by show((8:Nat):Int)<=((S.beg 4:Nat):Int) -_;omega)
  rw[h4]
  cases w<;>simp
 unfold Img.cellF
 rw[if_neg (by decide)]
 exact if_pos hrow
theorem d_set3{F:Nat->Prop}{gM gb:Nat}{S:Img}{L:List Asr}(i j:Nat)(hij:i≠j)(h:On F w (AllA L) W)(hi:L[i]? = some (BlkA gM 130 (rimgCells gb S)))(hj:L[j]? = some (RbA gb S))(hS:S.Ok)(m a v:Int)(hf:S.cellF m a true=0)(hv:V64 v):
 Calls prog 38 #[gM,m,a,v] W (Got (.returned (0:Int)) (AllA ((L.set j (RbA gb (S.setCell m a v))).set i (BlkA gM 130 (rimgCells gb (S.setCell m a v))))) F w):=by
 refine h.callAt2G i j hij hi hj λF' hb=> ?_
 obtain⟨F1,F2,h1,h2,hd,hF⟩:=hb
 obtain⟨F3,F4,h3,h4,hd2,hF2⟩:=h2
 have hr:IRRep W gM gb S:=⟨h1.1,h3.1,hS⟩
 have hal:a % 8=0:=by
  apply Classical.byContradiction
  intro hn
  unfold Img.cellF at hf
  rw[if_pos hn]at hf
  cases hf
 have hok:S.rowOk m a 8 true=true:=by
  cases hk:S.rowOk m a 8 true
  ·unfold Img.cellF at hf
   rw[if_neg oM,if_neg (by rw[hk];simp)]at hf
   cases hf
  ·rfl
 rcases r_row_of hr m a 8 oM oM true with⟨hk,_⟩ | ⟨hk,k,rfl,hle,hrow⟩
 ·rw[hk]at hok;cases hok
 refine(r_set_yes hr m v hv k hle hal hrow).mono ?_
 rintro e w' ⟨rfl,hb',hk'⟩
 have e1:S.setCell m k v=S.put k (toB v):=by unfold Img.setCell;rw[if_pos hf];rfl
 have hFk:F' gb:=(hF gb).2 (.inr ((hF2 gb).2 (.inl ((h3.2 gb).2 rfl))))
 refine⟨rfl,F',⟨F1,F2,⟨?_,h1.2⟩,⟨F3,F4,⟨?_,h3.2⟩,h4,hd2,hF2⟩,hd,hF⟩,hk'.mono (λk hk=>by rw[hk];exact hFk),λk hk=> .inl hk⟩
 ·rw[e1,rimg_alike gb (Alike.put S k (toB v))]
  exact h1.1.kept hk' hr.ne
 ·rw[e1]
  exact hb'
theorem mo_end{x:Rw}{q:Img×Dc}(hq:q= (kS,k13.2)){rv:Value}{n:Nat}{xs:List Value}(h:On Nob w (AllA ((progO b r wo ws gD gR gws bx q).set 12 (RowK 84 1 rv n xs)++docO r l v x)) W): ∃c,Oends c b∧On Nob w (AllA (BlkA b.gB 36 (bothO b)::uL c b.gO wo 0 m13)) W:=by
 subst hq
 have hk: ((k13.2.h:Nat):Int)=3872:=by rw[k13_laid.2.2.1];rfl
 have h1:=(On.pick [BlkA b.gB 36 (bothO b),BlkA b.gO 94 (newOC b.gM b.gS wo),RowP wo [b.gS,b.gK],BlkA b.gM 108 (newC b.gI b.gS b.gT b.gP ws gD gR),StkA b.gI gD (pdOf img13) 0,StkA b.gI gR (prOf img13) 0,RowP ws [b.gS,b.gK],
  DcA b.gI b.gS 16456 19104 stu13,DcA b.gI b.gK 8 16384 k13.2,TabA b.gT tab13,ImgA b.gI kS,BlkA bx 26 set13,RowK 84 1 rv n xs] [0,1,2,3,10,4,5,9,7,8,6] h (by decide)).dropTail
 rw[pd13,pr13]at h1
 unfold DcA at h1
 rw[hk]at h1
 have h3:=h1.emptyA
 have h4:=On.pickA [1,2,3,4,5,6,7,8,9,10,0,11] h3 (by decide)
 exact⟨⟨b.gM,b.gI,gD,gR,b.gT,b.gS,b.gK,b.gP,ws,.nilFunc,16456,19104,8,16384,λ_=>AllA [],λ_=>[RowP ws [b.gS,b.gK]]⟩,⟨rfl,rfl,rfl,rfl,rfl,rfl,rfl,rfl,rfl,rfl,rfl⟩,h4⟩
end
theorem ok_I{w W:World}{b:Bo}{r:Rc}{wo ws:Value}{gD gR gws:Nat}{rv v:Value}{n:Nat}{xs:List Value}(hW:b.gW=r.gW)(hon:On Nob w (AllA ((progO b r wo ws gD gR gws w.heap.size (k13.1.sealed,k13.2)).set 12 (RowK 84 1 rv n xs)++docO r r.gS v { x03 with T:=tab13,S:=k13.1.sealed,K:=k13.2,kcl:=true })) W){u0 u4 u15 u16 u17 u18 u19 u20 u21 u22 u23 u24 u25 u26 u27 u28 u29 u30 u31 u32 u33 u34 u35 u36 u37 u38 u39 u40 u41 u42 u43 u44 u45 u46 u47 u48 u49 u50 u51 u52 u53 u54 u55 u56 u57 u58 u59 u60 u61 u62 u63 u64 u65 u66 u67 u68 u69 u70 u71 u72 u73 u74 u75 u76 u77 u78 u79 u80 u81 u82 u83 u84 u85 u86 u87 u88 u89 u90 u91 u92 u93 u94 u95 u96 u97 u98 u99 u100 u101 u102 u103 u104 u105 u106 u107 u108 u109 u110 u111 u112 u113 u114 u115 u116 u117 u118 u119 u120 u121 u122 u123 u124 u125 u126 u127 u128 u129 u130 u131 u132 u133 u134 u135 u136 u137 u138 u139 u140 u141 u142 u143 u144 u145 u146 u147 u148 u149 u150 u151 u152 u153 u154 u155 u156 u157 u158 u159 u160 u161 u162 u163 u164 u165 u166 u167 u168 u169 u170 u171 u172 u173 u174 u175 u176 u177 u178 u179 u180 u181 u182 u183 u184 u185 u186 u187 u188 u189 u190 u191 u192 u193 u194 u195 u196 u197 u198 u199 u200 u201 u202 u203 u204 u205 u206 u207 u208 u209 u210 u211 u212 u213 u214 u215 u216:Value}:Code.wp prog (codeDrop 23 (Tryz.f8.body.getD .skip)) (bodyPost prog Tryz.f8 (PostE MadeO Nob w)) ⟨List.toArray (u0 :: .pointer w.heap.size :: .pointer none :: .pointer r.gW::u4 :: .pointer b.gI :: .int .i64 0 :: .pointer b.gT :: .int .i64 0 :: .pointer b.gK :: .pointer b.gS :: .pointer b.gP :: .pointer b.gM :: .pointer b.gO :: .pointer b.gB::u15::u16::u17::u18::u19::u20::u21::u22::u23::u24::u25::u26::u27::u28::u29::u30::u31::u32::u33::u34::u35::u36::u37::u38::u39::u40::u41::u42::u43::u44::u45::u46::u47::u48::u49::u50::u51::u52::u53::u54::u55::u56::u57::u58::u59::u60::u61::u62::u63::u64::u65::u66::u67::u68::u69::u70::u71::u72::u73::u74::u75::u76::u77::u78::u79::u80::u81::u82::u83::u84::u85::u86::u87::u88::u89::u90::u91::u92::u93::u94::u95::u96::u97::u98::u99::u100::u101::u102::u103::u104::u105::u106::u107::u108::u109::u110::u111::u112::u113::u114::u115::u116::u117::u118::u119::u120::u121::u122::u123::u124::u125::u126::u127::u128::u129::u130::u131::u132::u133::u134::u135::u136::u137::u138::u139::u140::u141::u142::u143::u144::u145::u146::u147::u148::u149::u150::u151::u152::u153::u154::u155::u156::u157::u158::u159::u160::u161::u162::u163::u164::u165::u166::u167::u168::u169::u170::u171::u172::u173::u174::u175::u176::u177::u178::u179::u180::u181::u182::u183::u184::u185::u186::u187::u188::u189::u190::u191::u192::u193::u194::u195::u196::u197::u198::u199::u200::u201::u202::u203::u204::u205::u206::u207::u208::u209::u210::u211::u212::u213::u214::u215::u216 :: []),[]⟩ W:=by
 conv=>
  arg 2
  unfold Tryz.f8
  dsimp only[codeDrop,Option.getD]
 have hL:=k13_lay.seal
 have hok:k13.1.sealed.Ok:=Img.Ok.seal k13_laid.1.img
 have hF:=baseF3 hL true
 have eS:k13.1.sealed.setCell 0 16448 10=kS:=base_put3 hL 10
 have hv10:V64 10:=by unfold V64;omega
 have e3:k13.1.sealed.beg 3=16448:=hL.begs.2.1
 have hbx:Blk W w.heap.size 26 set13:=hon.blkAt 11 rfl
 have s6:W.cell? (w.heap.size,6)=some ((10:Int):Vl):=hbx.cell 6
 have bM:Blk W b.gM 108 (newC b.gI b.gS b.gT b.gP ws gD gR):=hon.blkAt 3 rfl
 obtain⟨gb,hi⟩:=hon.drew.img 10 rfl
 have hb3:=n_base (W:=W.drew) (gM:=b.gM) (gI:=b.gI) (bM.cell 0) hi
 rw[e3]at hb3
 have hsc:=λn=>(hon.drewN n).callAtG 10 rfl (λF' ha=>g_setCell ha 0 16448 10 hv10)
 rw[hF,eS]at hsc
 have hsc2:=λk=>(hsc k:Calls prog 36 #[b.gI,(0:Int),(16448:Int),(10:Int)] (W.drewN k) (Got (.returned (0:Int)) (AllA ((progO b r wo ws gD gR gws w.heap.size (kS,k13.2)).set 12 (RowK 84 1 rv n xs)++docO r r.gS v { x03 with T:=tab13,S:=k13.1.sealed,K:=k13.2,kcl:=true })) Nob w))
 have hcs:=λW2 (h:On Nob w (AllA ((progO b r wo ws gD gR gws w.heap.size (kS,k13.2)).set 12 (RowK 84 1 rv n xs)++docO r r.gS v { x03 with T:=tab13,S:=k13.1.sealed,K:=k13.2,kcl:=true })) W2)=>(by
  have h1:Blk W2 w.heap.size 26 set13:=h.blkAt 11 rfl
  have h2:Blk W2 r.gW 91 (worldC r r.gS v 0 0 0 false):=h.blkAt 13 rfl
  exact⟨h1.cell 6,h2.cell 0⟩:W2.cell? (w.heap.size,6)=some ((10:Int):Vl)∧W2.cell? (r.gW,0)=some (r.gM:Vl))
 have hwb:=λW2 (h:On Nob w (AllA ((progO b r wo ws gD gR gws w.heap.size (kS,k13.2)).set 12 (RowK 84 1 rv n xs)++docO r r.gS v { x03 with T:=tab13,S:=k13.1.sealed,K:=k13.2,kcl:=true })) W2)=>(by
  have hq:Calls prog 39 #[r.gW] W2 (Quiet ((k13.1.sealed.beg 3:Nat):Int) W2):=w_base3 (F:=Nob) (w:=w) (l:=r.gS) (ws:=v) (x:={ x03 with T:=tab13,S:=k13.1.sealed,K:=k13.2,kcl:=true }) h.unflat.tail hok
  rw[e3]at hq
  exact hq:Calls prog 39 #[r.gW] W2 (Quiet (16448:Int) W2))
 have hrs:=λW2 (h:On Nob w (AllA ((progO b r wo ws gD gR gws w.heap.size (kS,k13.2)).set 12 (RowK 84 1 rv n xs)++docO r r.gS v { x03 with T:=tab13,S:=k13.1.sealed,K:=k13.2,kcl:=true })) W2)=>d_set3 20 21 (by decide) h rfl rfl hok 0 16448 10 hF hv10
 have hcs3:=λW2 (h:On Nob w (AllA ((progO b r wo ws gD gR gws w.heap.size (kS,k13.2)).set 12 (RowK 84 1 rv n xs)++docO r r.gS v { x03 with T:=tab13,S:=kS,K:=k13.2,kcl:=true })) W2)=>(by
  have h1:Blk W2 w.heap.size 26 set13:=h.blkAt 11 rfl
  have h2:Blk W2 r.gW 91 (worldC r r.gS v 0 0 0 false):=h.blkAt 13 rfl
  exact⟨h1.cell 6,h2.cell 0⟩:W2.cell? (w.heap.size,6)=some ((10:Int):Vl)∧W2.cell? (r.gW,0)=some (r.gM:Vl))
 replace hb3:=hid hb3
 replace hsc2:=hid hsc2
 replace hcs:=hid hcs
 replace hwb:=hid hwb
 replace hrs:=hid hrs
 replace hcs3:=hid hcs3
 replace hon:=hid hon
 clear hsc hi bM hbx hL hok hF eS e3 hv10
 go_upto_region 29 with fail
 go_cut [15] (λt wx=>t = .int .i64 0∧On Nob w (AllA ((progO b r wo ws gD gR gws w.heap.size (kS,k13.2)).set 12 (RowK 84 1 rv n xs)++docO r r.gS v { x03 with T:=tab13,S:=k13.1.sealed,K:=k13.2,kcl:=true })) wx)
 case first=>
  go_region_held (λw'=>w'.cell? (w.heap.size,6)=some ((10:Int):Vl)) (go_keep)
   ((first
     | (go_at_call 37;refine hb3.out.mono ?_;rintro e w1 ⟨rfl,nb,rfl⟩;simp only[];have k7: (W.drewN (1+nb)).cell? (w.heap.size,6)=some ((10:Int):Vl):=s6)
     | (go_at_call 36;refine mo (hsc2.out _) λw1 h=>?_;simp only[];have⟨m0,m1⟩:=hcs.out _ h;replace h:=hid h)))
  all_goals go_wp2_with fail
  all_goals go_meet
  all_goals exact⟨rfl,h.out⟩
 case rest=>
  obtain⟨rfl,hc5⟩:=hcut
  clear hb3 hsc2 hon s6
  have⟨z0,z1⟩:=hcs.out _ hc5
  have hwb5:=hid (hwb.out _ hc5.drew)
  have hlt:=(hc5.blkAt 13 rfl).lt
  have hlt4:w.heap.size<wc.heap.size:=(hc5.blkAt 11 rfl).lt
  replace hc5:=hid hc5
  go_upto_region 30 with fail
  go_cut [] (λwx=>On Nob w (AllA ((progO b r wo ws gD gR gws w.heap.size (kS,k13.2)).set 12 (RowK 84 1 rv n xs)++docO r r.gS v { x03 with T:=tab13,S:=kS,K:=k13.2,kcl:=true })) wx)
  case first=>
   go_region_held (λw'=>w'.cell? (r.gW,0)=some (r.gM:Vl)∧w'.cell? (w.heap.size,6)=some ((10:Int):Vl)) (go_keep)
    ((first
      | (go_at_call 39;refine mo hwb5.out λw1 hbl=>?_;simp only[];have h5:=hc5.out.drew.below hbl;have⟨m0,m1⟩:=hcs.out _ h5;have hs5:=hid (hrs.out _ h5);replace h5:=hid h5)
      | (go_at_call 38;refine mo hs5.out λw2 h=>?_;simp only[];have⟨n0,n1⟩:=hcs3.out _ h;replace h:=hid h)))
   all_goals go_wp2_with fail
   all_goals go_meet
   all_goals exact h.out
  case rest=>
   obtain⟨c,hc,hfin⟩:=mo_end rfl hcut
   replace hfin:=hid hfin
   clear hcut hwb hrs hcs hcs3 hwb5 hc5 z0 z1
   go_wp2_with fail
   go_ret
   exact⟨_,⟨c,b,wo,hc,rfl,rfl⟩,hfin.out⟩
theorem ptr2_newsO{w:World}{B:Nat}{t:TypeId}{g1 g2:Nat}(hb:Blk w B t #[.pointer (some ⟨g1,0,none⟩),.pointer (some ⟨g2,0,none⟩)]): ∀j u,[Value.pointer (some ⟨g1,0,none⟩),.pointer (some ⟨g2,0,none⟩)][j]? = some u->w.cell? ((⟨B,0,none⟩:Addr).add j)=some u:=λj u hu=>World.news_of_block hb j u hu
theorem ptr2_oneO(g1 g2:Nat): ∀u∈[Value.pointer (some (⟨g1,0,none⟩:Addr)),.pointer (some (⟨g2,0,none⟩:Addr))],u.oneCell'=true:=by
 intro u hu
 simp only[List.mem_cons,List.mem_nil_iff,or_false]at hu
 rcases hu with rfl|rfl<;>rfl
theorem info_rpO: (prog.info? 84).map (λi=>(i.zero,i.size,i.bytes))=some (some (.pointer none),1,8):=by kernel_rfl
theorem ok_H{w W:World}{b:Bo}{r:Rc}{wo ws:Value}{gD gR gws:Nat}(hW:b.gW=r.gW)(hon:On Nob w (AllA ((progO b r wo ws gD gR gws w.heap.size (k13.1.sealed,k13.2)).set 12 (RowK 84 1 (.slice (some ⟨gws,0,none⟩) 0 1) 0 [])++docO r r.gS (.slice (some ⟨gws,0,none⟩) 0 1) { x03 with T:=tab13,S:=k13.1.sealed,K:=k13.2,kcl:=true })) W){u0 u4 u15 u16 u17 u18 u19 u20 u21 u22 u23 u24 u25 u26 u27 u28 u29 u30 u31 u32 u33 u34 u35 u36 u37 u38 u39 u40 u41 u42 u43 u44 u45 u46 u47 u48 u49 u50 u51 u52 u53 u54 u55 u56 u57 u58 u59 u60 u61 u62 u63 u64 u65 u66 u67 u68 u69 u70 u71 u72 u73 u74 u75 u76 u77 u78 u79 u80 u81 u82 u83 u84 u85 u86 u87 u88 u89 u90 u91 u92 u93 u94 u95 u96 u97 u98 u99 u100 u101 u102 u103 u104 u105 u106 u107 u108 u109 u110 u111 u112 u113 u114 u115 u116 u117 u118 u119 u120 u121 u122 u123 u124 u125 u126 u127 u128 u129 u130 u131 u132 u133 u134 u135 u136 u137 u138 u139 u140 u141 u142 u143 u144 u145 u146 u147 u148 u149 u150 u151 u152 u153 u154 u155 u156 u157 u158 u159 u160 u161 u162 u163 u164 u165 u166 u167 u168 u169 u170 u171 u172 u173 u174 u175 u176 u177 u178 u179 u180 u181 u182 u183 u184 u185 u186 u187 u188 u189 u190 u191 u192 u193 u194 u195 u196 u197 u198 u199 u200 u201 u202 u203 u204 u205 u206 u207 u208 u209 u210 u211 u212 u213 u214 u215 u216:Value}:Code.wp prog (codeDrop 22 (Tryz.f8.body.getD .skip)) (bodyPost prog Tryz.f8 (PostE MadeO Nob w)) ⟨List.toArray (u0 :: .pointer w.heap.size :: .pointer none :: .pointer r.gW::u4 :: .pointer b.gI :: .int .i64 0 :: .pointer b.gT :: .int .i64 0 :: .pointer b.gK :: .pointer b.gS :: .pointer b.gP :: .pointer b.gM :: .pointer b.gO :: .pointer b.gB::u15::u16::u17::u18::u19::u20::u21::u22::u23::u24::u25::u26::u27::u28::u29::u30::u31::u32::u33::u34::u35::u36::u37::u38::u39::u40::u41::u42::u43::u44::u45::u46::u47::u48::u49::u50::u51::u52::u53::u54::u55::u56::u57::u58::u59::u60::u61::u62::u63::u64::u65::u66::u67::u68::u69::u70::u71::u72::u73::u74::u75::u76::u77::u78::u79::u80::u81::u82::u83::u84::u85::u86::u87::u88::u89::u90::u91::u92::u93::u94::u95::u96::u97::u98::u99::u100::u101::u102::u103::u104::u105::u106::u107::u108::u109::u110::u111::u112::u113::u114::u115::u116::u117::u118::u119::u120::u121::u122::u123::u124::u125::u126::u127::u128::u129::u130::u131::u132::u133::u134::u135::u136::u137::u138::u139::u140::u141::u142::u143::u144::u145::u146::u147::u148::u149::u150::u151::u152::u153::u154::u155::u156::u157::u158::u159::u160::u161::u162::u163::u164::u165::u166::u167::u168::u169::u170::u171::u172::u173::u174::u175::u176::u177::u178::u179::u180::u181::u182::u183::u184::u185::u186::u187::u188::u189::u190::u191::u192::u193::u194::u195::u196::u197::u198::u199::u200::u201::u202::u203::u204::u205::u206::u207::u208::u209::u210::u211::u212::u213::u214::u215::u216 :: []),[]⟩ W:=by
 conv=>
  arg 2
  unfold Tryz.f8
  dsimp only[codeDrop,Option.getD]
 have hbl:Blk W r.gW 91 (worldC r r.gS (.slice (some ⟨gws,0,none⟩) 0 1) 0 0 0 false):=hon.blkAt 13 rfl
 have c1:W.cell? ⟨r.gW,1,none⟩=some (.pointer (some ⟨r.gK,0,none⟩)):=hbl.cell 1
 have c2:W.cell? ⟨r.gW,2,none⟩=some (.pointer (some ⟨r.gS,0,none⟩)):=hbl.cell 2
 have c4:W.cell? ⟨r.gW,4,none⟩=some (.slice (some ⟨gws,0,none⟩) 0 1):=hbl.cell 4
 obtain⟨F1,hR⟩:=hon.at_ (A:=RowK 84 1 (.slice (some ⟨gws,0,none⟩) 0 1) 0 []) 12 rfl
 have hown:=hR.1
 obtain⟨i0,hi0,hz0,hz1,hz2⟩:=info_parts info_rpO
 have hlt:=hbl.lt
 have hne: (Value.slice (some ⟨gws,0,none⟩) 0 1).ownBlock≠some r.gW:=λe=>by
  obtain⟨F1,F2,h1,h2,hd⟩:=hon.apart (A:=BlkA r.gW 91 (worldC r r.gS (.slice (some ⟨gws,0,none⟩) 0 1) 0 0 0 false)) (B:=RowK 84 1 (.slice (some ⟨gws,0,none⟩) 0 1) 0 []) 13 12 (by decide) rfl rfl
  exact hd r.gW ((h1.2 _).2 rfl) ((h2.2 _).2 e)
 have hnl:0+2<=maxLen∧(0+2)*8<=140737488355328:=by unfold maxLen;omega
 have hfin:=λ(w2 w3:World) (sg cap:Nat) (hon:On Nob w (AllA ((progO b r wo ws gD gR gws w.heap.size (k13.1.sealed,k13.2)).set 12 (RowK 84 1 (.slice (some ⟨gws,0,none⟩) 0 1) 0 [])++docO r r.gS (.slice (some ⟨gws,0,none⟩) 0 1) { x03 with T:=tab13,S:=k13.1.sealed,K:=k13.2,kcl:=true })) w2) (hG:w3.ownsRow 0 84 1 (.slice (some ⟨sg,0,none⟩) (0+2) cap) (0+2) ([]++ [.pointer (some ⟨r.gS,0,none⟩),.pointer (some ⟨r.gK,0,none⟩)])) (hgrow:w2.grownBy w3 (Value.slice (some ⟨gws,0,none⟩) 0 1).ownBlock) (hat: (Value.slice (some ⟨gws,0,none⟩) 0 1).ownBlock=some sg∨sg=w2.heap.size)=>(by
  have h1:=hon.growAt 12 rfl hG hgrow (grew_at hat)
  have h2:=h1.setAt 13 rfl 4 (.slice (some ⟨sg,0,none⟩) (0+2) cap)
  exact h2:On Nob w (AllA ((progO b r wo ws gD gR gws w.heap.size (k13.1.sealed,k13.2)).set 12 (RowK 84 1 (.slice (some ⟨sg,0,none⟩) (0+2) cap) (0+2) ([]++ [.pointer (some ⟨r.gS,0,none⟩),.pointer (some ⟨r.gK,0,none⟩)]))++docO r r.gS (.slice (some ⟨sg,0,none⟩) (0+2) cap) { x03 with T:=tab13,S:=k13.1.sealed,K:=k13.2,kcl:=true })) (w3.setCell ⟨r.gW,4,none⟩ (.slice (some ⟨sg,0,none⟩) (0+2) cap)))
 replace hon:=hid hon
 replace hown:=hid hown
 replace hi0:=hid hi0
 replace hz0:=hid hz0
 replace hz1:=hid hz1
 replace hz2:=hid hz2
 replace hnl:=hid hnl
 replace hfin:=hid hfin
 replace hbl:=hid hbl
 replace hne:=hid hne
 clear hR
 go_upto_region 28 with fail
 go_cut [] (λwx=> ∃sg cap,On Nob w (AllA ((progO b r wo ws gD gR gws w.heap.size (k13.1.sealed,k13.2)).set 12 (RowK 84 1 (.slice (some ⟨sg,0,none⟩) (0+2) cap) (0+2) ([]++ [.pointer (some ⟨r.gS,0,none⟩),.pointer (some ⟨r.gK,0,none⟩)]))++docO r r.gS (.slice (some ⟨sg,0,none⟩) (0+2) cap) { x03 with T:=tab13,S:=k13.1.sealed,K:=k13.2,kcl:=true })) wx)
 case first=>
  go_region_law ((refine step_append_lies _ rfl (.tmp 186) (.tmp 195) 85 rfl 0 84 i0 (.pointer none) 1 8 ?_ ?_ ?_ ?_ ?_ ?_ ?_ (.slice (some ⟨gws,0,none⟩) 0 1) 0 [] ?_ ?_ ⟨W.heap.size,0,none⟩ 2 2 [.pointer (some ⟨r.gS,0,none⟩),.pointer (some ⟨r.gK,0,none⟩)] ?_ ?_ ?_ ?_ ?_ ?_ ?_ ?_ (W.heap.size+1) ?_ ?_;exact underlying85;exact hi0.out;exact hz0.out;exact hz1.out;exact hz2.out;rfl;omega;rfl;exact ownsRow_drew (hown.out.alloc _);rfl;rfl;refine ptr2_newsO (t:=84) ?_;refine Blk.drew (Blk.new' ?_);simp;exact ptr2_oneO _ _;omega;exact hnl.out.1;exact hnl.out.2;omega;simp;intro sg cap w3 hG hgrow hat hlt3;have hB1:=Blk.grown (hbl.out.alloc _).drew hgrow (λe=>hne.out e.symm);have c4b:w3.cell? ⟨r.gW,4,none⟩=some (.slice (some ⟨gws,0,none⟩) 0 1):=hB1.cell 4;have f4b:=hB1.frozen 4))
  all_goals
   have hd:=hfin.out _ w3 sg cap (hon.out.alloc _).drew hG hgrow (by
    rcases hat with h|h
    ·exact .inl h
    ·exact .inr (by rw[h];simp))
   replace hd:=hid hd
   clear hG hgrow hB1 hat
  all_goals go_wp2_with fail
  all_goals go_meet
  all_goals exact⟨_,_,hd.out⟩
 case rest=>
  obtain⟨sg,cap,h1⟩:=hcut
  clear hon hbl hown hne c1 c2 c4 hfin
  apply_assumption
  exact ok_I hW h1
theorem ok_G{w W:World}{b:Bo}{r:Rc}{wo ws:Value}{gD gR gws:Nat}(hW:b.gW=r.gW)(hon:On Nob w (AllA (mdO b r wo ws gD gR gws w.heap.size r.gK (.slice gws 1 1) k13 { x03 with T:=tab13,S:=k13.1,K:=k13.2 })) W){u0 u15 u16 u17 u18 u19 u20 u21 u22 u23 u24 u25 u26 u27 u28 u29 u30 u31 u32 u33 u34 u35 u36 u37 u38 u39 u40 u41 u42 u43 u44 u45 u46 u47 u48 u49 u50 u51 u52 u53 u54 u55 u56 u57 u58 u59 u60 u61 u62 u63 u64 u65 u66 u67 u68 u69 u70 u71 u72 u73 u74 u75 u76 u77 u78 u79 u80 u81 u82 u83 u84 u85 u86 u87 u88 u89 u90 u91 u92 u93 u94 u95 u96 u97 u98 u99 u100 u101 u102 u103 u104 u105 u106 u107 u108 u109 u110 u111 u112 u113 u114 u115 u116 u117 u118 u119 u120 u121 u122 u123 u124 u125 u126 u127 u128 u129 u130 u131 u132 u133 u134 u135 u136 u137 u138 u139 u140 u141 u142 u143 u144 u145 u146 u147 u148 u149 u150 u151 u152 u153 u154 u155 u156 u157 u158 u159 u160 u161 u162 u163 u164 u165 u166 u167 u168 u169 u170 u171 u172 u173 u174 u175 u176 u177 u178 u179 u180 u181 u182 u183 u184 u185 u186 u187 u188 u189 u190 u191 u192 u193 u194 u195 u196 u197 u198 u199 u200 u201 u202 u203 u204 u205 u206 u207 u208 u209 u210 u211 u212 u213 u214 u215 u216:Value}:Code.wp prog (codeDrop 17 (Tryz.f8.body.getD .skip)) (bodyPost prog Tryz.f8 (PostE MadeO Nob w)) ⟨List.toArray (u0 :: .pointer w.heap.size :: .pointer none :: .pointer r.gW :: .bool true :: .pointer b.gI :: .int .i64 0 :: .pointer b.gT :: .int .i64 0 :: .pointer b.gK :: .pointer b.gS :: .pointer b.gP :: .pointer b.gM :: .pointer b.gO :: .pointer b.gB::u15::u16::u17::u18::u19::u20::u21::u22::u23::u24::u25::u26::u27::u28::u29::u30::u31::u32::u33::u34::u35::u36::u37::u38::u39::u40::u41::u42::u43::u44::u45::u46::u47::u48::u49::u50::u51::u52::u53::u54::u55::u56::u57::u58::u59::u60::u61::u62::u63::u64::u65::u66::u67::u68::u69::u70::u71::u72::u73::u74::u75::u76::u77::u78::u79::u80::u81::u82::u83::u84::u85::u86::u87::u88::u89::u90::u91::u92::u93::u94::u95::u96::u97::u98::u99::u100::u101::u102::u103::u104::u105::u106::u107::u108::u109::u110::u111::u112::u113::u114::u115::u116::u117::u118::u119::u120::u121::u122::u123::u124::u125::u126::u127::u128::u129::u130::u131::u132::u133::u134::u135::u136::u137::u138::u139::u140::u141::u142::u143::u144::u145::u146::u147::u148::u149::u150::u151::u152::u153::u154::u155::u156::u157::u158::u159::u160::u161::u162::u163::u164::u165::u166::u167::u168::u169::u170::u171::u172::u173::u174::u175::u176::u177::u178::u179::u180::u181::u182::u183::u184::u185::u186::u187::u188::u189::u190::u191::u192::u193::u194::u195::u196::u197::u198::u199::u200::u201::u202::u203::u204::u205::u206::u207::u208::u209::u210::u211::u212::u213::u214::u215::u216 :: []),[]⟩ W:=by
 conv=>
  arg 2
  unfold Tryz.f8
  dsimp only[codeDrop,Option.getD]
 have hse:=hid (mo_seal1 hon)
 replace hon:=hid hon
 go_wp2_with fail
 refine mo hse.out λw2 h2=>?_
 simp only[]
 have hse2:=hid (mo_seal2 h2 k13_laid.1.img k13_cl)
 replace h2:=hid h2
 clear hse hon
 go_wp2_with fail
 refine mo hse2.out λw3 h3=>?_
 simp only[]
 have hbl:Blk w3 r.gW 91 (worldC r r.gK (.slice gws 1 1) 0 0 0 false):=h3.blkAt 13 rfl
 have d2:w3.cell? (r.gW,2)=some (r.gS:Vl):=hbl.cell 2
 have d3:w3.cell? (r.gW,3)=some (r.gK:Vl):=hbl.cell 3
 have f3:=hbl.frozen 3
 have h4:=h3.setAt 13 rfl 3 (.pointer (some ⟨r.gS,0,none⟩))
 have hbl4:Blk (w3.setCell (r.gW,3) (.pointer (some ⟨r.gS,0,none⟩))) r.gW 91 (worldC r r.gS (.slice gws 1 1) 0 0 0 false):=h4.blkAt 13 rfl
 have d4: (w3.setCell (r.gW,3) (.pointer (some ⟨r.gS,0,none⟩))).cell? (r.gW,4)=some (.slice gws 1 1):=hbl4.cell 4
 have f4:=hbl4.frozen 4
 have h5:=On.asAt (A':=RowK 84 1 (.slice (some ⟨gws,0,none⟩) 0 1) 0 []) 12 (h4.setAt 13 rfl 4 (.slice (some ⟨gws,0,none⟩) 0 1)) rfl (λF'=>row_noneO)
 have h6:On Nob w (AllA ((progO b r wo ws gD gR gws w.heap.size (k13.1.sealed,k13.2)).set 12 (RowK 84 1 (.slice (some ⟨gws,0,none⟩) 0 1) 0 [])++docO r r.gS (.slice (some ⟨gws,0,none⟩) 0 1) { x03 with T:=tab13,S:=k13.1.sealed,K:=k13.2,kcl:=true })) ((w3.setCell (r.gW,3) (.pointer (some ⟨r.gS,0,none⟩))).setCell (r.gW,4) (.slice (some ⟨gws,0,none⟩) 0 1)):=h5
 replace hbl:=hid hbl
 replace hbl4:=hid hbl4
 replace h3:=hid h3
 replace h6:=hid h6
 clear hse2 h2 h4 h5
 go_upto_region 27 with fail
 go_cut [] (λwx=>On Nob w (AllA ((progO b r wo ws gD gR gws w.heap.size (k13.1.sealed,k13.2)).set 12 (RowK 84 1 (.slice (some ⟨gws,0,none⟩) 0 1) 0 [])++docO r r.gS (.slice (some ⟨gws,0,none⟩) 0 1) { x03 with T:=tab13,S:=k13.1.sealed,K:=k13.2,kcl:=true })) wx)
 case first=>
  go_wp2_with fail
  go_meet
  exact h6.out
 case rest=>
  clear h3 hbl hbl4 h6 d2 d3 d4 f3 f4
  apply_assumption
  exact ok_H hW hcut
theorem ok_F{w W:World}{gI gK gS gT gP gM gD gR gO gws:Nat}{ws wo:Value}{r:Rc}(hon:On Nob w (AllA [BlkA gO 94 (newOC gM gS wo),RowP wo [gS,gK],BlkA gM 108 (newC gI gS gT gP ws gD gR),StkA gI gD (pdOf img13) 0,StkA gI gR (prOf img13) 0,RowP ws [gS,gK],BlkA gP 150 turC,DcA gI gS 16456 19104 stu13,DcA gI gK 8 16384 ker0,TabA gT tab13,ImgA gI img13,DocB r r.gK (.slice gws 1 1) { x03 with T:=tab13 },BlkA gws 84 #[r.gK],BlkA w.heap.size 26 set13]) W){u0 u4 u14 u15 u16 u17 u18 u19 u20 u21 u22 u23 u24 u25 u26 u27 u28 u29 u30 u31 u32 u33 u34 u35 u36 u37 u38 u39 u40 u41 u42 u43 u44 u45 u46 u47 u48 u49 u50 u51 u52 u53 u54 u55 u56 u57 u58 u59 u60 u61 u62 u63 u64 u65 u66 u67 u68 u69 u70 u71 u72 u73 u74 u75 u76 u77 u78 u79 u80 u81 u82 u83 u84 u85 u86 u87 u88 u89 u90 u91 u92 u93 u94 u95 u96 u97 u98 u99 u100 u101 u102 u103 u104 u105 u106 u107 u108 u109 u110 u111 u112 u113 u114 u115 u116 u117 u118 u119 u120 u121 u122 u123 u124 u125 u126 u127 u128 u129 u130 u131 u132 u133 u134 u135 u136 u137 u138 u139 u140 u141 u142 u143 u144 u145 u146 u147 u148 u149 u150 u151 u152 u153 u154 u155 u156 u157 u158 u159 u160 u161 u162 u163 u164 u165 u166 u167 u168 u169 u170 u171 u172 u173 u174 u175 u176 u177 u178 u179 u180 u181 u182 u183 u184 u185 u186 u187 u188 u189 u190 u191 u192 u193 u194 u195 u196 u197 u198 u199 u200 u201 u202 u203 u204 u205 u206 u207 u208 u209 u210 u211 u212 u213 u214 u215 u216:Value}:Code.wp prog (codeDrop 14 (Tryz.f8.body.getD .skip)) (bodyPost prog Tryz.f8 (PostE MadeO Nob w)) ⟨List.toArray (u0 :: .pointer w.heap.size :: .pointer none :: .pointer r.gW::u4 :: .pointer gI :: .int .i64 0 :: .pointer gT :: .int .i64 0 :: .pointer gK :: .pointer gS :: .pointer gP :: .pointer (some ⟨gM,0,none⟩):: .pointer (some ⟨gO,0,none⟩)::u14::u15::u16::u17::u18::u19::u20::u21::u22::u23::u24::u25::u26::u27::u28::u29::u30::u31::u32::u33::u34::u35::u36::u37::u38::u39::u40::u41::u42::u43::u44::u45::u46::u47::u48::u49::u50::u51::u52::u53::u54::u55::u56::u57::u58::u59::u60::u61::u62::u63::u64::u65::u66::u67::u68::u69::u70::u71::u72::u73::u74::u75::u76::u77::u78::u79::u80::u81::u82::u83::u84::u85::u86::u87::u88::u89::u90::u91::u92::u93::u94::u95::u96::u97::u98::u99::u100::u101::u102::u103::u104::u105::u106::u107::u108::u109::u110::u111::u112::u113::u114::u115::u116::u117::u118::u119::u120::u121::u122::u123::u124::u125::u126::u127::u128::u129::u130::u131::u132::u133::u134::u135::u136::u137::u138::u139::u140::u141::u142::u143::u144::u145::u146::u147::u148::u149::u150::u151::u152::u153::u154::u155::u156::u157::u158::u159::u160::u161::u162::u163::u164::u165::u166::u167::u168::u169::u170::u171::u172::u173::u174::u175::u176::u177::u178::u179::u180::u181::u182::u183::u184::u185::u186::u187::u188::u189::u190::u191::u192::u193::u194::u195::u196::u197::u198::u199::u200::u201::u202::u203::u204::u205::u206::u207::u208::u209::u210::u211::u212::u213::u214::u215::u216 :: []),[]⟩ W:=by
 conv=>
  arg 2
  unfold Tryz.f8
  dsimp only[codeDrop,Option.getD]
 have bO:Blk W gO 94 (newOC gM gS wo):=hon.blkAt 0 rfl
 have bM:Blk W gM 108 (newC gI gS gT gP ws gD gR):=hon.blkAt 2 rfl
 have hat:=o_at0 (W:=W) (at_:=0) ((bO.cell 3:W.cell? (gO,3)=some ((0:Int):Vl)))
 have hda:=n_data (W:=W) (gD:=gD) ((bM.cell 5:W.cell? (gM,5)=some (gD:Vl)))
 have hre:=n_return (W:=W) (gD:=gR) ((bM.cell 6:W.cell? (gM,6)=some (gR:Vl)))
 replace hat:=hid hat
 replace hda:=hid hda
 replace hre:=hid hre
 replace bO:=hid bO
 replace bM:=hid bM
 replace hon:=hid hon
 go_upto_region 18 with fail
 go_cut [148] (λt wx=>t = .bool false∧wx=W)
 case first=>
  go_wp2_with fail
  refine hat.out.mono ?_
  rintro e w1 ⟨rfl,rfl⟩
  simp only[]
  go_wp2_with fail
  refine hda.out.mono ?_
  rintro e w2 ⟨rfl,rfl⟩
  simp only[]
  go_wp2_with fail
  refine hre.out.mono ?_
  rintro e w3 ⟨rfl,rfl⟩
  simp only[]
  go_wp2_with fail
  go_meet
  exact⟨rfl,rfl⟩
 case rest=>
  obtain⟨rfl,rfl⟩:=hcut
  have h2:=hon.out
  generalize wc=W2 at *
  clear hat hda hre bO bM hon
  have hkn:=md_kernel h2
  unfold bothO at hkn
  replace hkn:=hid hkn
  replace h2:=hid h2
  go_upto_region 21 with fail
  go_cut [4,14] (λt4 t14 wx=>t14 = .pointer (some ⟨W2.heap.size,0,none⟩)∧t4 = .bool true∧On Nob w (AllA (mdO ⟨W2.heap.size,gI,gK,gS,gT,gP,gM,gO,r.gW⟩ r wo ws gD gR gws w.heap.size r.gK (.slice gws 1 1) k13 { x03 with T:=tab13,S:=k13.1,K:=k13.2 })) wx)
  case first=>
   go_wp2_with fail
   refine mo hkn.out λw1 h=>?_
   replace h:=hid h
   simp only[]
   go_wp2_with fail
   go_meet
   exact⟨rfl,rfl,h.out⟩
  case rest=>
   obtain⟨rfl,rfl,h3⟩:=hcut
   clear h2 hkn
   apply_assumption
   exact ok_G (b:=⟨W2.heap.size,gI,gK,gS,gT,gP,gM,gO,r.gW⟩) rfl h3
theorem ok_E{w W:World}{gI gK gS gT gP gws:Nat}{r:Rc}(hon:On Nob w (AllA [BlkA gP 150 turC,DcA gI gS 16456 19104 stu13,DcA gI gK 8 16384 ker0,TabA gT tab13,ImgA gI img13,DocB r r.gK (.slice gws 1 1) { x03 with T:=tab13 },BlkA gws 84 #[r.gK],BlkA w.heap.size 26 set13]) W){u0 u4 u12 u13 u14 u15 u16 u17 u18 u19 u20 u21 u22 u23 u24 u25 u26 u27 u28 u29 u30 u31 u32 u33 u34 u35 u36 u37 u38 u39 u40 u41 u42 u43 u44 u45 u46 u47 u48 u49 u50 u51 u52 u53 u54 u55 u56 u57 u58 u59 u60 u61 u62 u63 u64 u65 u66 u67 u68 u69 u70 u71 u72 u73 u74 u75 u76 u77 u78 u79 u80 u81 u82 u83 u84 u85 u86 u87 u88 u89 u90 u91 u92 u93 u94 u95 u96 u97 u98 u99 u100 u101 u102 u103 u104 u105 u106 u107 u108 u109 u110 u111 u112 u113 u114 u115 u116 u117 u118 u119 u120 u121 u122 u123 u124 u125 u126 u127 u128 u129 u130 u131 u132 u133 u134 u135 u136 u137 u138 u139 u140 u141 u142 u143 u144 u145 u146 u147 u148 u149 u150 u151 u152 u153 u154 u155 u156 u157 u158 u159 u160 u161 u162 u163 u164 u165 u166 u167 u168 u169 u170 u171 u172 u173 u174 u175 u176 u177 u178 u179 u180 u181 u182 u183 u184 u185 u186 u187 u188 u189 u190 u191 u192 u193 u194 u195 u196 u197 u198 u199 u200 u201 u202 u203 u204 u205 u206 u207 u208 u209 u210 u211 u212 u213 u214 u215 u216:Value}:Code.wp prog (codeDrop 10 (Tryz.f8.body.getD .skip)) (bodyPost prog Tryz.f8 (PostE MadeO Nob w)) ⟨List.toArray (u0 :: .pointer w.heap.size :: .pointer none :: .pointer r.gW::u4 :: .pointer gI :: .int .i64 0 :: .pointer gT :: .int .i64 0 :: .pointer gK :: .pointer gS :: .pointer gP::u12::u13::u14::u15::u16::u17::u18::u19::u20::u21::u22::u23::u24::u25::u26::u27::u28::u29::u30::u31::u32::u33::u34::u35::u36::u37::u38::u39::u40::u41::u42::u43::u44::u45::u46::u47::u48::u49::u50::u51::u52::u53::u54::u55::u56::u57::u58::u59::u60::u61::u62::u63::u64::u65::u66::u67::u68::u69::u70::u71::u72::u73::u74::u75::u76::u77::u78::u79::u80::u81::u82::u83::u84::u85::u86::u87::u88::u89::u90::u91::u92::u93::u94::u95::u96::u97::u98::u99::u100::u101::u102::u103::u104::u105::u106::u107::u108::u109::u110::u111::u112::u113::u114::u115::u116::u117::u118::u119::u120::u121::u122::u123::u124::u125::u126::u127::u128::u129::u130::u131::u132::u133::u134::u135::u136::u137::u138::u139::u140::u141::u142::u143::u144::u145::u146::u147::u148::u149::u150::u151::u152::u153::u154::u155::u156::u157::u158::u159::u160::u161::u162::u163::u164::u165::u166::u167::u168::u169::u170::u171::u172::u173::u174::u175::u176::u177::u178::u179::u180::u181::u182::u183::u184::u185::u186::u187::u188::u189::u190::u191::u192::u193::u194::u195::u196::u197::u198::u199::u200::u201::u202::u203::u204::u205::u206::u207::u208::u209::u210::u211::u212::u213::u214::u215::u216 :: []),[]⟩ W:=by
 conv=>
  arg 2
  unfold Tryz.f8
  dsimp only[codeDrop,Option.getD]
 obtain⟨gbI,hiI⟩:=hon.img 4 rfl
 have hrow:=λ(W2:World) (h:Below W.heap.size W W2)=>(⟨hiI.blk.below h hiI.blk.lt,hiI.row.below h hiI.row.lt,hiI.ok⟩:IRep W2 gI gbI img13)
 have hvm:=λ(W2:World) (h:Below W.heap.size W W2) (hb:Blk W2 W.heap.size 29 #[gS,gK])=>(hon.below h).make (vm_new (gS:=gS) (gT:=gT) (gP:=gP) (rb:=W.heap.size) (n:=2) (cap:=2) (ds:=[gS,gK]) (hrow W2 h) (by decide) (by decide) oM false ⟨λj g hj=>by
  rcases j with _|_|j
  ·simp at hj;subst hj;exact hb.cell 0
  ·simp at hj;subst hj;exact hb.cell 1
  ·simp at hj,rfl⟩)
 replace hon:=hid hon
 replace hvm:=hid hvm
 clear hrow hiI
 go_upto_region 14 with fail
 go_cut [6,12] (λt6 t12 wx=> ∃(gM gD gR:Nat) (ws:Value),t12 = .pointer (some ⟨gM,0,none⟩)∧t6 = .int .i64 0∧On Nob w (AllA [BlkA gM 108 (newC gI gS gT gP ws gD gR),StkA gI gD (pdOf img13) 0,StkA gI gR (prOf img13) 0,RowP ws [gS,gK],BlkA gP 150 turC,DcA gI gS 16456 19104 stu13,DcA gI gK 8 16384 ker0,TabA gT tab13,ImgA gI img13,DocB r r.gK (.slice gws 1 1) { x03 with T:=tab13 },BlkA gws 84 #[r.gK],BlkA w.heap.size 26 set13]) wx)
 case first=>
  go_wp2_with fail
  refine(hvm.out _ ((Below.refl _ _).alloc (Nat.le_refl _) _) (Blk.new _ _ _)).mono ?_
  rintro e w1 ⟨B,⟨gM,gD,gR,ws,rfl,rfl⟩,h⟩
  have h1:=hid h.flat
  clear h hvm
  simp only[]
  go_wp2_with fail
  go_meet
  exact⟨gM,gD,gR,ws,rfl,rfl,h1.out⟩
 case rest=>
  obtain⟨gM,gD,gR,ws,rfl,rfl,h1⟩:=hcut
  clear hon hvm
  have hou:=λ(W2:World) (h:Below wc.heap.size wc W2) (hb:Blk W2 wc.heap.size 29 #[gS,gK])=>(h1.below h).make (ou_new (gM:=gM) (gS:=gS) (rb:=wc.heap.size) (n:=2) (cap:=2) (ds:=[gS,gK]) oM false ⟨λj g hj=>by
   rcases j with _|_|j
   ·simp at hj;subst hj;exact hb.cell 0
   ·simp at hj;subst hj;exact hb.cell 1
   ·simp at hj,rfl⟩)
  replace h1:=hid h1
  replace hou:=hid hou
  go_upto_region 17 with fail
  go_cut [6,13] (λt6 t13 wx=> ∃(gO:Nat) (wo:Value),t13 = .pointer (some ⟨gO,0,none⟩)∧t6 = .int .i64 0∧On Nob w (AllA [BlkA gO 94 (newOC gM gS wo),RowP wo [gS,gK],BlkA gM 108 (newC gI gS gT gP ws gD gR),StkA gI gD (pdOf img13) 0,StkA gI gR (prOf img13) 0,RowP ws [gS,gK],BlkA gP 150 turC,DcA gI gS 16456 19104 stu13,DcA gI gK 8 16384 ker0,TabA gT tab13,ImgA gI img13,DocB r r.gK (.slice gws 1 1) { x03 with T:=tab13 },BlkA gws 84 #[r.gK],BlkA w.heap.size 26 set13]) wx)
  case first=>
   go_wp2_with fail
   refine(hou.out _ ((Below.refl _ _).alloc (Nat.le_refl _) _) (Blk.new _ _ _)).mono ?_
   rintro e w1 ⟨B,⟨gO,wo,rfl,rfl⟩,h⟩
   have h2:=hid h.flat
   clear h hou
   simp only[]
   go_wp2_with fail
   go_meet
   exact⟨gO,wo,rfl,rfl,h2.out⟩
  case rest=>
   obtain⟨gO,wo,rfl,rfl,h2⟩:=hcut
   clear h1 hou
   apply_assumption
   exact ok_F h2
theorem ok_D{w W:World}{gI gT gws:Nat}{r:Rc}(hon:On Nob w (AllA [TabA gT tab13,ImgA gI img13,DocB r r.gK (.slice gws 1 1) { x03 with T:=tab13 },BlkA gws 84 #[r.gK],BlkA w.heap.size 26 set13]) W){u0 u4 u6 u8 u9 u10 u11 u12 u13 u14 u15 u16 u17 u18 u19 u20 u21 u22 u23 u24 u25 u26 u27 u28 u29 u30 u31 u32 u33 u34 u35 u36 u37 u38 u39 u40 u41 u42 u43 u44 u45 u46 u47 u48 u49 u50 u51 u52 u53 u54 u55 u56 u57 u58 u59 u60 u61 u62 u63 u64 u65 u66 u67 u68 u69 u70 u71 u72 u73 u74 u75 u76 u77 u78 u79 u80 u81 u82 u83 u84 u85 u86 u87 u88 u89 u90 u91 u92 u93 u94 u95 u96 u97 u98 u99 u100 u101 u102 u103 u104 u105 u106 u107 u108 u109 u110 u111 u112 u113 u114 u115 u116 u117 u118 u119 u120 u121 u122 u123 u124 u125 u126 u127 u128 u129 u130 u131 u132 u133 u134 u135 u136 u137 u138 u139 u140 u141 u142 u143 u144 u145 u146 u147 u148 u149 u150 u151 u152 u153 u154 u155 u156 u157 u158 u159 u160 u161 u162 u163 u164 u165 u166 u167 u168 u169 u170 u171 u172 u173 u174 u175 u176 u177 u178 u179 u180 u181 u182 u183 u184 u185 u186 u187 u188 u189 u190 u191 u192 u193 u194 u195 u196 u197 u198 u199 u200 u201 u202 u203 u204 u205 u206 u207 u208 u209 u210 u211 u212 u213 u214 u215 u216:Value}:Code.wp prog (codeDrop 7 (Tryz.f8.body.getD .skip)) (bodyPost prog Tryz.f8 (PostE MadeO Nob w)) ⟨List.toArray (u0 :: .pointer w.heap.size :: .pointer none :: .pointer r.gW::u4 :: .pointer gI::u6 :: .pointer gT::u8::u9::u10::u11::u12::u13::u14::u15::u16::u17::u18::u19::u20::u21::u22::u23::u24::u25::u26::u27::u28::u29::u30::u31::u32::u33::u34::u35::u36::u37::u38::u39::u40::u41::u42::u43::u44::u45::u46::u47::u48::u49::u50::u51::u52::u53::u54::u55::u56::u57::u58::u59::u60::u61::u62::u63::u64::u65::u66::u67::u68::u69::u70::u71::u72::u73::u74::u75::u76::u77::u78::u79::u80::u81::u82::u83::u84::u85::u86::u87::u88::u89::u90::u91::u92::u93::u94::u95::u96::u97::u98::u99::u100::u101::u102::u103::u104::u105::u106::u107::u108::u109::u110::u111::u112::u113::u114::u115::u116::u117::u118::u119::u120::u121::u122::u123::u124::u125::u126::u127::u128::u129::u130::u131::u132::u133::u134::u135::u136::u137::u138::u139::u140::u141::u142::u143::u144::u145::u146::u147::u148::u149::u150::u151::u152::u153::u154::u155::u156::u157::u158::u159::u160::u161::u162::u163::u164::u165::u166::u167::u168::u169::u170::u171::u172::u173::u174::u175::u176::u177::u178::u179::u180::u181::u182::u183::u184::u185::u186::u187::u188::u189::u190::u191::u192::u193::u194::u195::u196::u197::u198::u199::u200::u201::u202::u203::u204::u205::u206::u207::u208::u209::u210::u211::u212::u213::u214::u215::u216 :: []),[]⟩ W:=by
 conv=>
  arg 2
  unfold Tryz.f8
  dsimp only[codeDrop,Option.getD]
 obtain⟨gbI,hiI⟩:=hon.img 1 rfl
 have hk:=hon.make (n_dict hiI 1 (.inl rfl))
 replace hon:=hid hon
 replace hk:=hid hk
 clear hiI
 go_upto_region 9 with fail
 go_cut [6,9] (λt6 t9 wx=> ∃gK,t9 = .pointer (some ⟨gK,0,none⟩)∧t6 = .int .i64 0∧On Nob w (AllA [DcA gI gK 8 16384 ker0,TabA gT tab13,ImgA gI img13,DocB r r.gK (.slice gws 1 1) { x03 with T:=tab13 },BlkA gws 84 #[r.gK],BlkA w.heap.size 26 set13]) wx)
 case first=>
  go_wp2_with fail
  refine hk.out.mono ?_
  rintro e w1 ⟨B,⟨gK,rfl,rfl⟩,h⟩
  replace h:=hid h
  simp only[]
  go_wp2_with fail
  go_meet
  exact⟨gK,rfl,rfl,h.out⟩
 case rest=>
  obtain⟨gK,rfl,rfl,hon10⟩:=hcut
  clear hon hk
  obtain⟨gbI,hiI⟩:=hon10.img 2 rfl
  have hk:=hon10.make (n_dict hiI 3 (.inr rfl))
  replace hon10:=hid hon10
  replace hk:=hid hk
  clear hiI
  go_upto_region 10 with fail
  go_cut [8,10] (λt8 t10 wx=> ∃gS,t10 = .pointer (some ⟨gS,0,none⟩)∧t8 = .int .i64 0∧On Nob w (AllA [DcA gI gS 16456 19104 stu13,DcA gI gK 8 16384 ker0,TabA gT tab13,ImgA gI img13,DocB r r.gK (.slice gws 1 1) { x03 with T:=tab13 },BlkA gws 84 #[r.gK],BlkA w.heap.size 26 set13]) wx)
  case first=>
   go_wp2_with fail
   refine hk.out.mono ?_
   rintro e w1 ⟨B,⟨gS,rfl,rfl⟩,h⟩
   replace h:=hid h
   simp only[]
   go_wp2_with fail
   go_meet
   exact⟨gS,rfl,rfl,h.out⟩
  case rest=>
   obtain⟨gS,rfl,rfl,hon11⟩:=hcut
   clear hon10 hk
   have hk:=hon11.make (n_turtle _)
   replace hon11:=hid hon11
   replace hk:=hid hk
   go_upto_region 11 with fail
   go_cut [11] (λt11 wx=> ∃gP,t11 = .pointer (some ⟨gP,0,none⟩)∧On Nob w (AllA [BlkA gP 150 turC,DcA gI gS 16456 19104 stu13,DcA gI gK 8 16384 ker0,TabA gT tab13,ImgA gI img13,DocB r r.gK (.slice gws 1 1) { x03 with T:=tab13 },BlkA gws 84 #[r.gK],BlkA w.heap.size 26 set13]) wx)
   case first=>
    go_wp2_with fail
    refine hk.out.mono ?_
    rintro e w1 ⟨B,⟨gP,rfl,rfl⟩,h⟩
    replace h:=hid h
    simp only[]
    go_wp2_with fail
    go_meet
    exact⟨gP,rfl,h.out⟩
   case rest=>
    obtain⟨gP,rfl,hon12⟩:=hcut
    clear hon11 hk
    apply_assumption
    exact ok_E hon12
theorem t_make(w:World)(p r:Int)(s:ByteArray)(h0:Caps.newErr p r s=0):Calls prog 27 #[p,r,.string s] w (PostE (λe B=> ∃g,e = .returned (.tuple #[.pointer (some ⟨g,0,none⟩),(0:Int)])∧B=TabA g (Caps.made p r s)) Nob w):=
 make_of_at (w:=w) (R:=λe B=> ∃g,e = .returned (.tuple #[.pointer (some ⟨g,0,none⟩),(0:Int)])∧B=TabA g (Caps.made p r s)) λw0 L h=>(t_new h p r s h0).mono λe w' ⟨g,he,h2⟩=>⟨_,⟨g,he,rfl⟩,h2⟩
theorem ok_C{w W:World}{gI gT gws:Nat}{r:Rc}(hon:On Nob w (AllA [TabA gT tab13,ImgA gI img13,DocB r r.gK (.slice gws 1 1) x03,BlkA gws 84 #[r.gK],BlkA w.heap.size 26 set13]) W){u0 u9 u10 u11 u12 u13 u14 u15 u16 u17 u18 u19 u20 u21 u22 u23 u24 u25 u26 u27 u28 u29 u30 u31 u32 u33 u34 u35 u36 u37 u38 u39 u40 u41 u42 u43 u44 u45 u46 u47 u48 u49 u50 u51 u52 u53 u54 u55 u56 u57 u58 u59 u60 u61 u62 u63 u64 u65 u66 u67 u68 u69 u70 u71 u72 u73 u74 u75 u76 u77 u78 u79 u80 u81 u82 u83 u84 u85 u86 u87 u88 u89 u90 u91 u92 u93 u94 u95 u96 u97 u98 u99 u100 u101 u102 u103 u104 u105 u106 u107 u108 u109 u110 u111 u112 u113 u114 u115 u116 u117 u118 u119 u120 u121 u122 u123 u124 u125 u126 u127 u128 u129 u130 u131 u132 u133 u134 u135 u136 u137 u138 u139 u140 u141 u142 u143 u144 u145 u146 u147 u148 u149 u150 u151 u152 u153 u154 u155 u156 u157 u158 u159 u160 u161 u162 u163 u164 u165 u166 u167 u168 u169 u170 u171 u172 u173 u174 u175 u176 u177 u178 u179 u180 u181 u182 u183 u184 u185 u186 u187 u188 u189 u190 u191 u192 u193 u194 u195 u196 u197 u198 u199 u200 u201 u202 u203 u204 u205 u206 u207 u208 u209 u210 u211 u212 u213 u214 u215 u216:Value}:Code.wp prog (codeDrop 5 (Tryz.f8.body.getD .skip)) (bodyPost prog Tryz.f8 (PostE MadeO Nob w)) ⟨List.toArray (u0 :: .pointer w.heap.size :: .pointer none :: .pointer r.gW :: .bool true :: .pointer gI :: .int .i64 0 :: .pointer gT :: .int .i64 0::u9::u10::u11::u12::u13::u14::u15::u16::u17::u18::u19::u20::u21::u22::u23::u24::u25::u26::u27::u28::u29::u30::u31::u32::u33::u34::u35::u36::u37::u38::u39::u40::u41::u42::u43::u44::u45::u46::u47::u48::u49::u50::u51::u52::u53::u54::u55::u56::u57::u58::u59::u60::u61::u62::u63::u64::u65::u66::u67::u68::u69::u70::u71::u72::u73::u74::u75::u76::u77::u78::u79::u80::u81::u82::u83::u84::u85::u86::u87::u88::u89::u90::u91::u92::u93::u94::u95::u96::u97::u98::u99::u100::u101::u102::u103::u104::u105::u106::u107::u108::u109::u110::u111::u112::u113::u114::u115::u116::u117::u118::u119::u120::u121::u122::u123::u124::u125::u126::u127::u128::u129::u130::u131::u132::u133::u134::u135::u136::u137::u138::u139::u140::u141::u142::u143::u144::u145::u146::u147::u148::u149::u150::u151::u152::u153::u154::u155::u156::u157::u158::u159::u160::u161::u162::u163::u164::u165::u166::u167::u168::u169::u170::u171::u172::u173::u174::u175::u176::u177::u178::u179::u180::u181::u182::u183::u184::u185::u186::u187::u188::u189::u190::u191::u192::u193::u194::u195::u196::u197::u198::u199::u200::u201::u202::u203::u204::u205::u206::u207::u208::u209::u210::u211::u212::u213::u214::u215::u216 :: []),[]⟩ W:=by
 conv=>
  arg 2
  unfold Tryz.f8
  dsimp only[codeDrop,Option.getD]
 have hbx:Blk W w.heap.size 26 set13:=hon.blkAt 4 rfl
 have c0:W.cell? (w.heap.size,0)=some ((1:Int):Vl):=hbx.cell 0
 have c1:W.cell? (w.heap.size,1)=some ((60000:Int):Vl):=hbx.cell 1
 have c2:W.cell? (w.heap.size,2)=some (.string ⟨#[]⟩):=hbx.cell 2
 have pk1:=λW=>pick13 1 32 W oM oM
 have pk2:=λW=>pick13 60000 65537 W oM oM
 replace pk1:=hid pk1
 replace pk2:=hid pk2
 have ht:=hid (hon.drew.callAt 2 rfl λF' hb=>w_caps3 hb 1 60000 ⟨#[]⟩ tab13_no)
 replace hon:=hid hon
 replace hbx:=hid hbx
 go_upto_region 8 with fail
 go_cut [3] (λt3 wx=> ∃r:Rc,t3 = .pointer r.gW∧On Nob w (AllA [TabA gT tab13,ImgA gI img13,DocB r r.gK (.slice gws 1 1) { x03 with T:=tab13 },BlkA gws 84 #[r.gK],BlkA w.heap.size 26 set13]) wx)
 case first=>
  go_region_held (λw'=>w'.cell? (w.heap.size,0)=some ((1:Int):Vl)∧w'.cell? (w.heap.size,1)=some ((60000:Int):Vl)∧w'.cell? (w.heap.size,2)=some (.string ⟨#[]⟩)) (go_keep)
   ((first
     | (go_at_call_of 10 (Value.int .i64 1);refine(pk1.out _).mono ?_;rintro e w1 ⟨rfl,rfl⟩;simp only[])
     | (go_at_call_of 10 (Value.int .i64 60000);refine(pk2.out _).mono ?_;rintro e w1 ⟨rfl,rfl⟩;simp only[])
     | (go_at_call 28;refine ht.out.mono ?_;rintro e w5 ⟨B,⟨gC,rfl,rfl⟩,h⟩;have hbx1:Blk w5 w.heap.size 26 set13:=h.blkAt 4 rfl;have e0:w5.cell? (w.heap.size,0)=some ((1:Int):Vl):=hbx1.cell 0;have e1:w5.cell? (w.heap.size,1)=some ((60000:Int):Vl):=hbx1.cell 1;have e2:w5.cell? (w.heap.size,2)=some (.string ⟨#[]⟩):=hbx1.cell 2;replace hbx1:=hid hbx1;replace h:=hid h;simp only[])))
  all_goals go_wp2_with fail
  all_goals go_meet
  all_goals exact⟨{ r with gC:=gC },rfl,h.out⟩
 case rest=>
  clear hon ht c0 c1 c2 hbx pk1 pk2
  obtain⟨r,rfl,hon9⟩:=hcut
  apply_assumption
  exact ok_D hon9
theorem ok_B{w W:World}{gI gws:Nat}{r:Rc}(hon:On Nob w (AllA [ImgA gI img13,DocB r r.gK (.slice gws 1 1) x03,BlkA gws 84 #[r.gK],BlkA w.heap.size 26 set13]) W){u0 u7 u8 u9 u10 u11 u12 u13 u14 u15 u16 u17 u18 u19 u20 u21 u22 u23 u24 u25 u26 u27 u28 u29 u30 u31 u32 u33 u34 u35 u36 u37 u38 u39 u40 u41 u42 u43 u44 u45 u46 u47 u48 u49 u50 u51 u52 u53 u54 u55 u56 u57 u58 u59 u60 u61 u62 u63 u64 u65 u66 u67 u68 u69 u70 u71 u72 u73 u74 u75 u76 u77 u78 u79 u80 u81 u82 u83 u84 u85 u86 u87 u88 u89 u90 u91 u92 u93 u94 u95 u96 u97 u98 u99 u100 u101 u102 u103 u104 u105 u106 u107 u108 u109 u110 u111 u112 u113 u114 u115 u116 u117 u118 u119 u120 u121 u122 u123 u124 u125 u126 u127 u128 u129 u130 u131 u132 u133 u134 u135 u136 u137 u138 u139 u140 u141 u142 u143 u144 u145 u146 u147 u148 u149 u150 u151 u152 u153 u154 u155 u156 u157 u158 u159 u160 u161 u162 u163 u164 u165 u166 u167 u168 u169 u170 u171 u172 u173 u174 u175 u176 u177 u178 u179 u180 u181 u182 u183 u184 u185 u186 u187 u188 u189 u190 u191 u192 u193 u194 u195 u196 u197 u198 u199 u200 u201 u202 u203 u204 u205 u206 u207 u208 u209 u210 u211 u212 u213 u214 u215 u216:Value}:Code.wp prog (codeDrop 4 (Tryz.f8.body.getD .skip)) (bodyPost prog Tryz.f8 (PostE MadeO Nob w)) ⟨List.toArray (u0 :: .pointer w.heap.size :: .pointer none :: .pointer r.gW :: .bool true :: .pointer gI :: .int .i64 0::u7::u8::u9::u10::u11::u12::u13::u14::u15::u16::u17::u18::u19::u20::u21::u22::u23::u24::u25::u26::u27::u28::u29::u30::u31::u32::u33::u34::u35::u36::u37::u38::u39::u40::u41::u42::u43::u44::u45::u46::u47::u48::u49::u50::u51::u52::u53::u54::u55::u56::u57::u58::u59::u60::u61::u62::u63::u64::u65::u66::u67::u68::u69::u70::u71::u72::u73::u74::u75::u76::u77::u78::u79::u80::u81::u82::u83::u84::u85::u86::u87::u88::u89::u90::u91::u92::u93::u94::u95::u96::u97::u98::u99::u100::u101::u102::u103::u104::u105::u106::u107::u108::u109::u110::u111::u112::u113::u114::u115::u116::u117::u118::u119::u120::u121::u122::u123::u124::u125::u126::u127::u128::u129::u130::u131::u132::u133::u134::u135::u136::u137::u138::u139::u140::u141::u142::u143::u144::u145::u146::u147::u148::u149::u150::u151::u152::u153::u154::u155::u156::u157::u158::u159::u160::u161::u162::u163::u164::u165::u166::u167::u168::u169::u170::u171::u172::u173::u174::u175::u176::u177::u178::u179::u180::u181::u182::u183::u184::u185::u186::u187::u188::u189::u190::u191::u192::u193::u194::u195::u196::u197::u198::u199::u200::u201::u202::u203::u204::u205::u206::u207::u208::u209::u210::u211::u212::u213::u214::u215::u216 :: []),[]⟩ W:=by
 conv=>
  arg 2
  unfold Tryz.f8
  dsimp only[codeDrop,Option.getD]
 have hbx:Blk W w.heap.size 26 set13:=hon.blkAt 3 rfl
 have c0:W.cell? (w.heap.size,0)=some ((1:Int):Vl):=hbx.cell 0
 have c1:W.cell? (w.heap.size,1)=some ((60000:Int):Vl):=hbx.cell 1
 have c2:W.cell? (w.heap.size,2)=some (.string ⟨#[]⟩):=hbx.cell 2
 have pk1:=λW=>pick13 1 32 W oM oM
 have pk2:=λW=>pick13 60000 65537 W oM oM
 replace pk1:=hid pk1
 replace pk2:=hid pk2
 have ht:=hid (hon.drew.make (t_make W.drew 1 60000 ⟨#[]⟩ tab13_no))
 replace hon:=hid hon
 replace hbx:=hid hbx
 go_upto_region 5 with fail
 go_cut [7,8] (λt7 t8 wx=> ∃gT,t7 = .pointer (some ⟨gT,0,none⟩)∧t8 = .int .i64 0∧On Nob w (AllA [TabA gT tab13,ImgA gI img13,DocB r r.gK (.slice gws 1 1) x03,BlkA gws 84 #[r.gK],BlkA w.heap.size 26 set13]) wx)
 case first=>
  go_region_held (λw'=>w'.cell? (w.heap.size,0)=some ((1:Int):Vl)∧w'.cell? (w.heap.size,1)=some ((60000:Int):Vl)∧w'.cell? (w.heap.size,2)=some (.string ⟨#[]⟩)) (go_keep)
   ((first
     | (go_at_call_of 10 (Value.int .i64 1);refine(pk1.out _).mono ?_;rintro e w1 ⟨rfl,rfl⟩;simp only[])
     | (go_at_call_of 10 (Value.int .i64 60000);refine(pk2.out _).mono ?_;rintro e w1 ⟨rfl,rfl⟩;simp only[])
     | (go_at_call 27;refine ht.out.mono ?_;rintro e w5 ⟨B,⟨gT,rfl,rfl⟩,h⟩;have hbx1:Blk w5 w.heap.size 26 set13:=h.blkAt 4 rfl;have e0:w5.cell? (w.heap.size,0)=some ((1:Int):Vl):=hbx1.cell 0;have e1:w5.cell? (w.heap.size,1)=some ((60000:Int):Vl):=hbx1.cell 1;have e2:w5.cell? (w.heap.size,2)=some (.string ⟨#[]⟩):=hbx1.cell 2;replace hbx1:=hid hbx1;replace h:=hid h;simp only[])))
  all_goals go_wp2_with fail
  all_goals go_meet
  all_goals exact⟨_,rfl,rfl,h.out⟩
 case rest=>
  obtain⟨gT,rfl,rfl,hon8⟩:=hcut
  clear hon hbx c0 c1 c2 ht
  apply_assumption
  exact ok_C hon8
theorem o_made(w:World):Calls prog 8 #[.agg set13] w (PostE MadeO Nob w):=by
 have hon0:=(On.refl (A:=AllA []) (F:=Nob) (w:=w) (λ_ h=>h)).box set13 26
 have hon0:=hid hon0
 have hly:=hid lay13
 unfold set13
 go_enter func8,ntmps8
 have b0:Blk (w.alloc (.cells set13 26)) w.heap.size 26 set13:=hon0.out.blkAt 0 rfl
 replace b0:=hid b0
 go_upto_region 3 with fail
 go_cut [3,4] (λt3 t4 wx=> ∃(r:Rc) (gws:Nat),t3 = .pointer r.gW∧t4 = .bool true∧On Nob w (AllA [DocB r r.gK (.slice gws 1 1) x03,BlkA gws 84 #[r.gK],BlkA w.heap.size 26 set13]) wx)
 case first=>
  go_wp2_with fail
  refine mo (hly.out _) λw1 hb1=>?_
  have hon3:=hid (hon0.out.below hb1)
  clear hon0 hb1
  go_wp2_with fail
  refine(hon3.out.make (w_new3 _)).mono ?_
  rintro e w2 ⟨B,⟨r,gws,rfl,rfl⟩,hon4⟩
  have hon5:=hid (md_start3 hon4)
  clear hon3 hon4
  go_wp2_with fail
  go_meet
  exact⟨r,gws,rfl,rfl,hon5.out⟩
 case rest=>
  obtain⟨r,gws,rfl,rfl,hon5⟩:=hcut
  have hb:Blk wc w.heap.size 26 set13:=hon5.blkAt 2 rfl
  have c0:wc.cell? (w.heap.size,0)=some ((1:Int):Vl):=hb.cell 0
  have c1:wc.cell? (w.heap.size,1)=some ((60000:Int):Vl):=hb.cell 1
  have c2:wc.cell? (w.heap.size,2)=some (.string ⟨#[]⟩):=hb.cell 2
  have c3:wc.cell? (w.heap.size,3)=some ((300:Int):Vl):=hb.cell 3
  have c4:wc.cell? (w.heap.size,4)=some ((29:Int):Vl):=hb.cell 4
  have c5:wc.cell? (w.heap.size,5)=some ((29:Int):Vl):=hb.cell 5
  have c6:wc.cell? (w.heap.size,6)=some ((10:Int):Vl):=hb.cell 6
  replace hb:=hid hb
  replace hon5:=hid hon5
  clear hon0 b0
  go_upto_region 4 with fail
  go_cut [5,6] (λt5 t6 wx=> ∃gI,t5 = .pointer (some ⟨gI,0,none⟩)∧t6 = .int .i64 0∧On Nob w (AllA [ImgA gI img13,DocB r r.gK (.slice gws 1 1) x03,BlkA gws 84 #[r.gK],BlkA w.heap.size 26 set13]) wx)
  case first=>
   go_wp2_with fail
   refine mo (hly.out _) λw1 hb1=>?_
   have hon6:=hid (hon5.out.below hb1)
   clear hon5 hb1
   go_wp2_with fail
   refine(hon6.out.make (i_make3 _)).mono ?_
   rintro e w2 ⟨B,⟨gI,rfl,rfl⟩,hon7⟩
   replace hon7:=hid hon7
   clear hon6
   go_wp2_with fail
   go_meet
   exact⟨gI,rfl,rfl,hon7.out⟩
  case rest=>
   obtain⟨gI,rfl,rfl,hon7⟩:=hcut
   clear hon5 c0 c1 c2 c3 c4 c5 c6 hb
   apply_assumption
   exact ok_B hon7
section
variable {w W w1:World}{F:Nat->Prop}{c:Vc}{b:Bo}{wo:Value}{at_:Int}{s:Mt}{B:Asr}{gO:Nat}{a a':Oa}{f:Int}{n:Nat}
def restL(c:Vc)(w:World):List Asr:=[RowP c.ws [c.gS,c.gK],OldA w]
theorem Oends.oc0(hc:Oends c b)(hP:Pows w)(hB:Bruijn w)(g gs:Nat)(wv:Value):Oc0 ((c.plus (OldA w)).src gs (restL c w)) ⟨g,gO,gs,wv⟩ (restL c w):=
 ⟨hc.sfr,hc.sto,hc.kfr,hc.kto,hc.tell,λt k=>rfl,⟨0,rfl⟩,⟨1,OldA w,rfl,λW F h=>⟨hP.below h.2,hB.below h.2⟩⟩⟩
theorem Oends.restP(hc:Oends c b)(e:Ext): (c.plus (OldA w)).rest e=restL c w:=by
 show c.rest e++_=_
 rw[hc.rest]
 rfl
theorem OB.start(h:OB a s)(text:List UInt8)(hl:text.length<=60000)(left:Nat)(h2:left<=1000000):PI { a with R:=text,left:=left,tl:=text.length } (rx0 1 left) { s with ext:=⟨⟨text.toArray⟩,0⟩ }:=by
 have e: (⟨text.toArray⟩:ByteArray).size=text.length:=List.size_toArray
 exact⟨⟨⟨h.om.ext _,h.T,h.here,h.last,h.sn,h.f,h.codes⟩,by show(⟨text.toArray⟩:ByteArray).size<=_;rw[e];exact hl,e,Nat.zero_le _,rfl,rfl,h2,rfl⟩,rfl,rfl⟩
theorem pair_run(hc:Oends c b)(hP:Pows w)(hB:Bruijn w)(h:On F w1 (AllA (B::uL (c.plus (OldA w)) gO wo at_ s)) W)(hob:OB a s)(text:List UInt8)(hl:text.length<=60000)(fuel:Int)(left:Nat)(hf:clip fuel=left)(k p:Int)(hk: (left:Int) - (a'.left:Int)=k)(hp: ((a'.tl-a'.R.length:Nat):Int)=p)
 (hR: ∀c' o,Oc0 c' o (restL c w)->ReadsR c' o (restL c w) f (PI a') n (PI { a with R:=text,left:=left,tl:=text.length })):
 Calls prog 13 #[gO,(1:Int),.string ⟨text.toArray⟩,fuel] W (λe w'=> ∃s',OB a' s'∧e = .returned (.tuple #[f,k])∧On F w1 (AllA (B::uL (c.plus (OldA w)) gO wo p s')) w'):=by
 have e: (⟨text.toArray⟩:ByteArray).size=text.length:=List.size_toArray
 have hcl: (left:Int)<=1000000:=by unfold clip at hf;omega
 refine(h.callTailR (R:=λe L'=> ∃x s',PI a' x s'∧e = .returned (.tuple #[f,(clip fuel-x.left:Int)])∧L'=uL (c.plus (OldA w)) gO wo (s'.ext.at_:Int) s') λF' hb=>(o_run (Q:=PI a') (f:=f) (n:=n) (On.refl hb) (hc.restP) 1 fuel ⟨text.toArray⟩ (by rw[e];exact hl) (λx s h=>by have h1:=h.1.left;have h2:=h.1.l2;omega) (λg gs=>⟨_,hR _ _ (hc.oc0 hP hB g gs wo),?_⟩)).mono ?_).mono ?_
 ·rw[hf]
  exact hob.start text hl left oM
 ·rintro e w' ⟨x,s',hq,he,h⟩
  exact⟨_,⟨x,s',hq,he,rfl⟩,h⟩
 ·rintro e w' ⟨L',⟨x,s',hq,he,rfl⟩,h⟩
  refine⟨s',hq.1.b,?_,?_⟩
  ·rw[he,hf,hq.1.left,hk]
  ·rw[<-hp,<-hq.1.at_]
   exact h
theorem pair_old(hc:Oends c b)(h:On F w1 (AllA (B::uL (c.plus (OldA w)) gO wo at_ s)) W):Below w.heap.size w W:=by
 unfold uL mL at h
 rw[hc.restP]at h
 exact h.old 12 rfl
theorem ob_m13:OB ⟨[],[],[],16456,0,[],[],0,0⟩ m13:=⟨om_m13,rfl,rfl,rfl,rfl,⟨rfl,rfl,rfl⟩,λp hp=>by cases hp⟩
theorem made_pair3(h:On F w (AllA [OldA w]) W):Calls prog 8 #[.agg set13] W (λe w'=> ∃c b wo,Oends c b∧e = .returned (.pointer (some ⟨b.gB,0,none⟩))∧On F w (AllA (BlkA b.gB 36 (bothO b)::uL (c.plus (OldA w)) b.gO wo 0 m13)) w'):=by
 refine(h.make (o_made W)).mono ?_
 rintro e w' ⟨B,⟨c,b,wo,hc,he,rfl⟩,h2⟩
 exact⟨c,b,wo,hc,he,h2.flat⟩
theorem u_output(h:On F w (AllA (B::uL c gO wo at_ s)) W):Calls prog 23 #[c.gT] W (Same (.string s.T.out) W):=by
 obtain⟨F1,hT⟩:=h.at_ 7 rfl
 exact CRep.output hT
theorem shown13(hP:Pows w)(hB:Bruijn w):Calls prog 7 #[] w (λe w'=>e = .returned (.bool true)∧Below w.heap.size w w'):=by
 have hon0:=hid (old_start w)
 go_enter func7,ntmps7
 go_wp2_with fail
 refine mo (plain13 _) λw1 hb1=>?_
 simp only[]
 have hon1:=hid (hon0.out.below hb1)
 clear hb1 hon0
 go_wp2_with fail
 refine(made_pair3 hon1.out).mono ?_
 rintro e w2 ⟨c,b,wo,hc,rfl,h2⟩
 simp only[]
 have b2:Blk w2 b.gB 36 (bothO b):=h2.blkAt 0 rfl
 have z6:w2.cell? (b.gB,6)=some (b.gO:Vl):=b2.cell 6
 have hr:=hid (pair_run hc hP hB h2 ob_m13 [50,32,51,32,43,32,46] (by decide) 1000 1000 (by decide) 15 7 rfl rfl (λc' o h0=>reads_1 h0))
 clear b2
 replace h2:=hid h2
 go_wp2_with fail
 refine hr.out.mono ?_
 rintro e w3 ⟨s3,ho3,rfl,h3⟩
 simp only[]
 have y6:w3.cell? (b.gB,6)=some (b.gO:Vl):=(show Blk w3 b.gB 36 (bothO b)from h3.blkAt 0 rfl).cell 6
 have hat:=hid (o_at0 (W:=w3) (gO:=b.gO) (at_:=7) ((show Blk w3 b.gO 94 (outerC (c.plus (OldA w)) wo 7)from h3.blkAt 1 rfl).cell 3))
 have hr2:=hid (pair_run hc hP hB h3 ho3 [58,32,115,113,32,100,117,112,32,42,32,59,32,55,32,115,113,32,46] (by decide) 1000 1000 (by decide) 32 19 rfl rfl (λc' o h0=>reads_2 h0))
 clear hr h2 z6
 replace h3:=hid h3
 replace ho3:=hid ho3
 go_wp2_with fail
 refine hat.out.mono ?_
 rintro e w4 ⟨rfl,rfl⟩
 simp only[]
 go_wp2_with fail
 refine hr2.out.mono ?_
 rintro e w5 ⟨s5,ho5,rfl,h5⟩
 simp only[]
 have x6:w5.cell? (b.gB,6)=some (b.gO:Vl):=(show Blk w5 b.gB 36 (bothO b)from h5.blkAt 0 rfl).cell 6
 have hr3:=hid (pair_run hc hP hB h5 ho5 [110,111,115,117,99,104] (by decide) 1000 1000 (by decide) 7 6 rfl rfl (λc' o h0=>reads_3 h0))
 clear hr2 h3 hat y6 ho3
 replace h5:=hid h5
 replace ho5:=hid ho5
 go_wp2_with fail
 refine hr3.out.mono ?_
 rintro e w6 ⟨s6,ho6,rfl,h6⟩
 simp only[]
 have x3:w6.cell? (b.gB,3)=some (b.gT:Vl):=(show Blk w6 b.gB 36 (bothO b)from h6.blkAt 0 rfl).cell 3
 have hT:s6.T.out= ⟨#[53,32,52,57,32]⟩:=by rw[ho6.T];rfl
 have hou:=u_output h6
 rw[hT,show(c.plus (OldA w)).gT=b.gT from hc.t]at hou
 replace hou:=hid hou
 have hb6:=hid (pair_old hc h6)
 clear hr3 h5 x6 ho5 h6 ho6 hT
 go_wp2_with fail
 refine hou.out.mono ?_
 rintro e w7 ⟨rfl,rfl⟩
 simp only[]
 go_wp2
 go_ret
 exact⟨rfl,hb6.out⟩
end
end Vm
end Go.Proofs.YteaijdgnagkllaaGreatDoor
