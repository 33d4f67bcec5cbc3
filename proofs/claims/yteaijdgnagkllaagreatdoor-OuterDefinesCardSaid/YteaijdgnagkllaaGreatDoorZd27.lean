/- Chapter 11: a word laid into both lists. Conditions: as written. Printed by gen_vlaid.py. -/
import Derived.Test.YteaijdgnagkllaaGreatDoorZd24
import Derived.Test.YteaijdgnagkllaaGreatDoorZd26
open Go.Proofs.Tryz
namespace Go.Proofs.YteaijdgnagkllaaGreatDoor
set_option linter.unusedVariables false
set_option linter.unusedSimpArgs false
set_option maxHeartbeats 8000000
set_option maxRecDepth 100000
open Go.RowKit Go.Lib Go.Deep
namespace Vm
def laidL(gI g gW:Nat)(wcs:Array Value)(gr gb bg en cap:Nat)(q p:Img×Dc):List Asr:=
 [DcA gI g (bg+8) en q.2,ImgA gI q.1,BlkA gW 91 wcs,RDicA gr gb bg en cap false p.2,RbA gb p.1]
theorem Grew.at8{q q':Img×Dc}{fr en:Nat}(h:Grew q q')(h8:At8 q.1 q.2 fr en):At8 q'.1 q'.2 fr en:=h8.next h.img h.dc h.al h.rg
section
variable {w W:World}{F:Nat->Prop}{B:Asr}{gI g gW gr gb bg en cap:Nat}{wcs:Array Value}{q p:Img×Dc}
theorem lp_create(h:On F w (AllA (B::laidL gI g gW wcs gr gb bg en cap q p)) W)(h8:At8 q.1 q.2 (bg+8) en)(s:ByteArray)(hsz:s.size<=9223372036854775807):
 Calls prog 86 #[g,.string s] W (Got (.returned (.tuple #[(q.2.createV q.1 s.data.toList),(q.2.createF q.1 s.data.toList)])) (AllA (B::laidL gI g gW wcs gr gb bg en cap (q.2.createS q.1 s.data.toList,q.2.createD q.1 s.data.toList) p)) F w):=
 h.callAt2G 1 2 (by decide) rfl rfl λF' hb=>d_create hb h8 s hsz
theorem lr_create(h:On F w (AllA (B::laidL gI g gW wcs gr gb bg en cap q p)) W)(h8:At8 p.1 p.2 (bg+8) en)(hs:p.2.shut p.1=false)(s:ByteArray)(hsz:s.size<=9223372036854775807):
 Calls prog 87 #[gr,.string s] W (Got (.returned (.tuple #[(p.2.createV p.1 s.data.toList),(p.2.createF p.1 s.data.toList)])) (AllA (B::laidL gI g gW wcs gr gb bg en cap q (p.2.createS p.1 s.data.toList,p.2.createD p.1 s.data.toList))) F w):=
 h.callAt2G 4 5 (by decide) rfl rfl λF' hb=>rd_create (On.refl hb) h8 hs s hsz
theorem lp_show(h:On F w (AllA (B::laidL gI g gW wcs gr gb bg en cap q p)) W)(h8:At8 q.1 q.2 (bg+8) en):
 Calls prog 88 #[g] W (Got (.returned (.tuple #[])) (AllA (B::laidL gI g gW wcs gr gb bg en cap (q.2.turnS q.1 showT,q.2) p)) F w):=
 h.callAt2G 1 2 (by decide) rfl rfl λF' hb=>d_show hb h8
theorem lr_show(h:On F w (AllA (B::laidL gI g gW wcs gr gb bg en cap q p)) W)(h8:At8 p.1 p.2 (bg+8) en)(hs:p.2.shut p.1=false):
 Calls prog 89 #[gr,(32:Int),(0:Int)] W (Got (.returned (.tuple #[])) (AllA (B::laidL gI g gW wcs gr gb bg en cap q (p.2.turnS p.1 showT,p.2))) F w):=
 h.callAt2G 4 5 (by decide) rfl rfl λF' hb=>rd_flag (On.refl hb) h8 hs 32 0 showT flags_show oM oM
theorem lp_comma(h:On F w (AllA (B::laidL gI g gW wcs gr gb bg en cap q p)) W)(h8:At8 q.1 q.2 (bg+8) en)(v:Int)(hv:V64 v):
 Calls prog 91 #[g,v] W (Got (.returned (q.2.commaF q.1)) (AllA (B::laidL gI g gW wcs gr gb bg en cap (q.2.commaS q.1 v,q.2.commaD q.1) p)) F w):=
 h.callAt2G 1 2 (by decide) rfl rfl λF' hb=>d_comma hb h8 v hv
theorem lr_comma(h:On F w (AllA (B::laidL gI g gW wcs gr gb bg en cap q p)) W)(h8:At8 p.1 p.2 (bg+8) en)(hs:p.2.shut p.1=false)(v:Int)(hv:V64 v):
 Calls prog 92 #[gr,v] W (Got (.returned (p.2.commaF p.1)) (AllA (B::laidL gI g gW wcs gr gb bg en cap q (p.2.commaS p.1 v,p.2.commaD p.1))) F w):=
 h.callAt2G 4 5 (by decide) rfl rfl λF' hb=>rd_comma (On.refl hb) h8 hs v hv
theorem commasS_cons(v:Int)(l:List Int)(q:Img×Dc):commasS (v::l) q=if q.2.commaF q.1=0 then commasS l (q.2.commaS q.1 v,q.2.commaD q.1)else q:=rfl
end
theorem inl_turns:Turns 139 inlT:=by
 intro c w
 have e:bits .or .u8 (c.toNat:Int) 128= (((inlT c).toNat:Nat):Int):=by
  have h:=u8_or_nat c.toNat 128 c.toNat_lt oM
  rw[show((128:Nat):Int)=128 from rfl]at h
  rw[h]
  unfold inlT
  rw[UInt8.toNat_or]
  rfl
 replace e:=hid e
 go_enter func139,ntmps139
 go_wp2
 go_ret
 exact⟨by rw[<-e.out];rfl,rfl⟩
theorem flags_inl:Flags 0 128 inlT:=λc=>by
 have h: ∀b:Fin 256,bits .or .u8 (bits .andNot .u8 (b.val:Int) 0) 128= ((b.val ||| 128:Nat):Int):=by decide +kernel
 rw[h ⟨c.toNat,c.toNat_lt⟩]
 unfold inlT
 rw[UInt8.toNat_or]
 rfl
section
variable {w W:World}{F:Nat->Prop}{B:Asr}{gI g gW gr gb bg en cap fr:Nat}{wcs:Array Value}{q p:Img×Dc}{S:Img}{D:Dc}
theorem d_inline(hb: (AllA [DcA gI g fr en D,ImgA gI S]).holds w F)(h8:At8 S D fr en):
 Calls prog 90 #[g] w (Got (.returned (.tuple #[])) (AllA [DcA gI g fr en D,ImgA gI (D.turnS S inlT)]) F w):=by
 have h:=d_marks hb h8 139 inlT inl_turns (λ_ _=>by kernel_rfl)
 replace h:=hid h
 clear hb h8
 go_enter func90,ntmps90
 go_wp2_with fail
 refine mo h.out λw1 h1=>?_
 replace h1:=hid h1
 go_wp2
 go_end0
 exact⟨rfl,h1.out⟩
theorem lp_inl(h:On F w (AllA (B::laidL gI g gW wcs gr gb bg en cap q p)) W)(h8:At8 q.1 q.2 (bg+8) en):
 Calls prog 90 #[g] W (Got (.returned (.tuple #[])) (AllA (B::laidL gI g gW wcs gr gb bg en cap (q.2.turnS q.1 inlT,q.2) p)) F w):=
 h.callAt2G 1 2 (by decide) rfl rfl λF' hb=>d_inline hb h8
theorem lr_inl(h:On F w (AllA (B::laidL gI g gW wcs gr gb bg en cap q p)) W)(h8:At8 p.1 p.2 (bg+8) en)(hs:p.2.shut p.1=false):
 Calls prog 89 #[gr,(0:Int),(128:Int)] W (Got (.returned (.tuple #[])) (AllA (B::laidL gI g gW wcs gr gb bg en cap q (p.2.turnS p.1 inlT,p.2))) F w):=
 h.callAt2G 4 5 (by decide) rfl rfl λF' hb=>rd_flag (On.refl hb) h8 hs 0 128 inlT flags_inl oM oM
end
theorem inl_flag(b:UInt8):inlT b= (b &&& ~~~(0:UInt8) ||| 128):=by
 unfold inlT
 have h:b &&& ~~~(0:UInt8)=b:=by
  rw[show ~~~(0:UInt8)=255 from rfl]
  apply UInt8.toNat_inj.1
  rw[UInt8.toNat_and]
  have h1: ∀n:Fin 256,n.val &&& 255=n.val:=by decide +kernel
  exact h1 ⟨b.toNat,b.toNat_lt⟩
 rw[h]
theorem turn_inl(S:Img)(D:Dc):D.turnS S inlT=D.flagS S 0 128:=by
 unfold Dc.turnS Dc.flagS
 split
 ·rfl
 ·rw[inl_flag]
theorem grew_inl{S:Img}{D:Dc}(hS:S.Ok)(hD:D.Ok S):Grew (S,D) (D.turnS S inlT,D):=by
 rw[turn_inl]
 have h:=Dc.ok_flag hS hD 0 128
 exact⟨h.1,h.2,Dc.alike_flag _ _ _ _,rfl⟩
structure Bo where
 gB:Nat
 gI:Nat
 gK:Nat
 gS:Nat
 gT:Nat
 gP:Nat
 gM:Nat
 gO:Nat
 gW:Nat
def bothO(b:Bo):Array Value:=#[b.gI,b.gK,b.gS,b.gT,b.gP,b.gM,b.gO,b.gW]
section
variable {w W:World}{F:Nat->Prop}{b:Bo}{gr gb en cap:Nat}{wcs:Array Value}{q:Img×Dc}{l:List Wd}
def owL(b:Bo)(gr gb en cap:Nat)(wcs:Array Value)(q p:Img×Dc):List Asr:=BlkA b.gB 36 (bothO b)::laidL b.gI b.gK b.gW wcs gr gb 0 en cap q p
theorem ow_cells2{p:Img×Dc}(h:On F w (AllA (owL b gr gb en cap wcs q p)) W)(gk:Nat)(hw1:wcs[1]? = some (gk:Vl)):W.cell? (b.gB,1)=some (b.gK:Vl)∧W.cell? (b.gB,7)=some (b.gW:Vl)∧W.cell? (b.gW,1)=some (gk:Vl):=
 have h0:=h.blkAt 0 rfl
 have h1:Blk W b.gW 91 wcs:=h.blkAt 3 rfl
 ⟨h0.cell 1,h0.cell 7,(h1.cell 1).trans hw1⟩
def inlQ(inl:Bool)(q:Img×Dc):Img×Dc:=if inl then(q.2.turnS q.1 inlT,q.2)else q
theorem grew_inlQ(inl:Bool){q:Img×Dc}(h1:q.1.Ok)(h2:q.2.Ok q.1):Grew q (inlQ inl q):=by
 unfold inlQ
 split
 ·exact grew_inl h1 h2
 ·exact Grew.refl h1 h2
theorem kwS_eq(x:KW)(q:Img×Dc):kwS x q=commasS x.cells (inlQ x.inl ((q.2.createD q.1 x.name).turnS (q.2.createS q.1 x.name) showT,q.2.createD q.1 x.name)):=by
 unfold kwS inlQ
 cases x.inl<;>rfl
theorem comma_fine{S:Img}{D:Dc}(h8:D.h % 8=0)(hr:D.h+8<=D.lim S)(hs:D.shut S=false):D.commaF S=0:=by
 unfold Dc.commaF
 rw[if_neg oM,if_neg oM,if_neg (by rw[hs];decide)]
theorem commaD_h{S:Img}{D:Dc}(h:D.commaF S=0): (D.commaD S).h=D.h+8:=by unfold Dc.commaD;rw[if_pos h]
theorem lim_grew{q q':Img×Dc}(h:Grew q q'):q'.2.lim q'.1=q.2.lim q.1:=by
 unfold Dc.lim
 rw[h.rg,h.al.beg]
theorem o_word(hb: (AllA (owL b gr gb en cap wcs q q)).holds w F)(h8:At8 q.1 q.2 8 en)(hg:Grows q l)(x:KW)(hx:KwFine x)(hr:kwEnd q.2.h x<=q.2.lim q.1)(hw1:wcs[1]? = some (gr:Vl))(A:Option Addr)(cp:Nat)(hi:Ints w A x.cells)(hfar:Far F A)(hcl:x.cells.length<=1000):
 Calls prog 61 #[b.gB,.string ⟨x.name.toArray⟩,.bool x.inl,.slice A x.cells.length cp] w (Got (.returned (.bool true)) (AllA (owL b gr gb en cap wcs (kwS x q) (kwS x q))) F w):=by
 have hon:=On.refl hb
 obtain⟨f,e1,e2,_,_⟩:=kw_create hg x hx.1 hr
 obtain⟨hn1,hn2⟩:=nameB_len hx.1
 have hsz: (⟨x.name.toArray⟩:ByteArray).size<=9223372036854775807:=by show x.name.toArray.size<=_;rw[List.size_toArray];omega
 have hd: (⟨x.name.toArray⟩:ByteArray).data.toList=x.name:=rfl
 have hsh:=hg.shut
 have hp:=lp_create (p:=q) hon h8 ⟨x.name.toArray⟩ hsz
 have hr2:=λW (q1:Img×Dc) (h:On F w (AllA (owL b gr gb en cap wcs q1 q)) W)=>lr_create h h8 hsh ⟨x.name.toArray⟩ hsz
 rw[hd,f]at hp hr2
 have g1:Grew q (q.2.createS q.1 x.name,q.2.createD q.1 x.name):=grew_create h8.img h8.ok x.name
 have hxe:=kwS_eq x q
 have hq1h: (q.2.createD q.1 x.name).h=kwXt q.2.h x:=by rw[e2]
 have hxt8:kwXt q.2.h x % 8=0:=by have:=hg.al8;have:=up_ge (1+x.name.length);unfold kwXt;omega
 rw[hxe]
 generalize q.2.createV q.1 x.name=cv at *
 obtain⟨q1,hq1⟩: ∃q1,(q.2.createS q.1 x.name,q.2.createD q.1 x.name)=q1:=⟨_,rfl⟩
 have hS1:q.2.createS q.1 x.name=q1.1:=by rw[<-hq1]
 have hD1:q.2.createD q.1 x.name=q1.2:=by rw[<-hq1]
 rw[hq1]at g1 hp hr2
 rw[hS1,hD1]
 rw[hD1]at hq1h
 have h81:=g1.at8 h8
 have hs1:q1.2.shut q1.1=false:=g1.shut.trans hsh
 have g2:=grew_show h81.img h81.ok
 have h82:=g2.at8 h81
 have hs2:q1.2.shut (q1.2.turnS q1.1 showT)=false:=g2.shut.trans hs1
 have g3:=grew_inlQ x.inl h82.img h82.ok
 have h83:=g3.at8 h82
 have hs3:=g3.shut.trans hs2
 have hshow:=λW (h:On F w (AllA (owL b gr gb en cap wcs q1 q1)) W)=>lp_show h h81
 have hshow2:=λW (h:On F w (AllA (owL b gr gb en cap wcs (q1.2.turnS q1.1 showT,q1.2) q1)) W)=>lr_show h h81 hs1
 have hl3: (inlQ x.inl (q1.2.turnS q1.1 showT,q1.2)).2.lim (inlQ x.inl (q1.2.turnS q1.1 showT,q1.2)).1=q.2.lim q.1:=(lim_grew g3).trans ((lim_grew g2).trans (lim_grew g1))
 have hh3: (inlQ x.inl (q1.2.turnS q1.1 showT,q1.2)).2.h=kwXt q.2.h x:=by
  unfold inlQ
  split<;>exact hq1h
 have hcs:=λW (q1 p1:Img×Dc) (h:On F w (AllA (owL b gr gb en cap wcs q1 p1)) W)=>ow_cells2 h gr hw1
 have hv:=hx.2
 have hend:kwEnd q.2.h x=kwXt q.2.h x+8*x.cells.length:=rfl
 rw[hend]at hr
 generalize q.2.lim q.1=lim at *
 generalize kwXt q.2.h x=xt at *
 obtain⟨nm,inl,cells⟩:=x
 simp only at *
 obtain⟨q2,hq2⟩: ∃q2,((q1.2.turnS q1.1 showT,q1.2):Img×Dc)=q2:=⟨_,rfl⟩
 have h82b:At8 q2.1 q2.2 8 en:=by rw[<-hq2];exact h82
 have hs2b:q2.2.shut q2.1=false:=by rw[<-hq2];exact hs2
 have hin:=λW (h:On F w (AllA (owL b gr gb en cap wcs q2 q2)) W)=>lp_inl h h82b
 have hin2:=λW (h:On F w (AllA (owL b gr gb en cap wcs (q2.2.turnS q2.1 inlT,q2.2) q2)) W)=>lr_inl h h82b hs2b
 rw[hq2]at hshow2 hl3 hh3 h83 hs3⊢
 have hshow':=λW (h:On F w (AllA (owL b gr gb en cap wcs q1 q1)) W)=>(by have:=hshow W h;rw[hq2]at this;exact this:Calls prog 88 #[b.gK] W (Got (.returned (.tuple #[])) (AllA (owL b gr gb en cap wcs q2 q1)) F w))
 have hshow2':=λW (h:On F w (AllA (owL b gr gb en cap wcs q2 q1)) W)=>(by have:=hshow2 W h;exact this:Calls prog 89 #[gr,(32:Int),(0:Int)] W (Got (.returned (.tuple #[])) (AllA (owL b gr gb en cap wcs q2 q2)) F w))
 clear hshow hshow2
 have c0:=hcs _ _ _ hon
 obtain⟨c1,c7,d1⟩:=c0
 replace hon:=hid hon
 replace hp:=hid hp
 replace hr2:=hid hr2
 replace hshow':=hid hshow'
 replace hshow2':=hid hshow2'
 replace hin:=hid hin
 replace hin2:=hid hin2
 replace h83:=hid h83
 replace hs3:=hid hs3
 replace hl3:=hid hl3
 replace hh3:=hid hh3
 replace hcs:=hid hcs
 replace hv:=hid hv
 replace hi:=hid hi
 replace hfar:=hid hfar
 replace hr:=hid hr
 replace hxt8:=hid hxt8
 clear hb h8 hg hx f e1 e2 hd hsh g1 hxe hq1h h81 hs1 g2 h82 hs2 g3 hw1 hend hq1 hS1 hD1 hq2
 go_enter func61,ntmps61
 go_wp2_with fail
 refine mo hp.out λw1 h1=>?_
 simp only[]
 clear c1 c7 d1
 obtain⟨c1,c7,d1⟩:=hcs.out _ _ _ h1
 have hr3:=hid (hr2.out _ _ h1)
 clear h1
 go_wp2_with fail
 refine mo hr3.out λw2 h2=>?_
 simp only[]
 clear c1 c7 d1
 obtain⟨c1,c7,d1⟩:=hcs.out _ _ _ h2
 have hr3:=hid (hshow'.out _ h2)
 clear h2
 go_wp2_with fail
 refine mo hr3.out λw3 h3=>?_
 simp only[]
 clear c1 c7 d1
 obtain⟨c1,c7,d1⟩:=hcs.out _ _ _ h3
 have hr3:=hid (hshow2'.out _ h3)
 clear h3
 go_wp2_with fail
 refine mo hr3.out λw4 h4=>?_
 simp only[]
 clear c1 c7 d1
 obtain⟨c1,c7,d1⟩:=hcs.out _ _ _ h4
 go_upto_if 54 with fail
 go_cut [] (λwx=>On F w (AllA (owL b gr gb en cap wcs (inlQ inl q2) (inlQ inl q2))) wx)
 case first=>
  cases inl with
  | false=>
    replace h4:=hid h4
    go_wp2_with fail
    go_meet
    exact h4.out
  | true=>
    have hr3:=hid (hin.out _ h4)
    clear h4
    go_wp2_with fail
    refine mo hr3.out λw5 h5=>?_
    simp only[]
    clear c1 c7 d1
    obtain⟨c1,c7,d1⟩:=hcs.out _ _ _ h5
    have hr3:=hid (hin2.out _ h5)
    clear h5
    go_wp2_with fail
    refine mo hr3.out λw6 h6=>?_
    simp only[]
    replace h6:=hid h6
    go_wp2_with fail
    go_meet
    exact h6.out
 case rest=>
  have h5:=hcut
  clear hcut c1 c7 d1 hr3 h4 hin hin2 hshow' hshow2' hp hr2 hon
  generalize inlQ inl q2=q3 at *
  replace h5:=hid h5
  go_wp2_with fail
  go_loopg [13] cells.length (λk t wr=> ∃(j:Nat) (qj:Img×Dc),j+k=cells.length∧t = .int .i64 (j:Int)∧Grew q3 qj∧commasS cells q3=commasS (cells.drop j) qj∧qj.2.h=xt+8*j∧On F w (AllA (owL b gr gb en cap wcs qj qj)) wr)
  case atStart=>exact⟨0,q3,by omega,rfl,Grew.refl h83.out.img h83.out.ok,rfl,hh3.out,h5.out⟩
  case round=>
   obtain⟨j,qj,hj,rfl,hgq,hcq,hqh,hoj⟩:=hrel
   by_cases hjl:j<cells.length
   ·obtain⟨v,hvj⟩: ∃v,cells[j]? = some v:=⟨cells[j],by simp[hjl]⟩
    have hvv:=hv.out v (List.mem_of_getElem? hvj)
    have h8j:=hgq.at8 h83.out
    have hsj:=hgq.shut.trans hs3.out
    have hlj:qj.2.lim qj.1=lim:=(lim_grew hgq).trans hl3.out
    have hc0:qj.2.commaF qj.1=0:=comma_fine (by have:=hxt8.out;omega) (by have:=hr.out;omega) hsj
    have hdr:cells.drop j=v::cells.drop (j+1):=by
     rw[List.drop_eq_getElem_cons hjl]
     congr 1
     rw[List.getElem?_eq_getElem hjl]at hvj
     exact Option.some.inj hvj
    rw[hdr,commasS_cons,if_pos hc0]at hcq
    have hg2:Grew qj (qj.2.commaS qj.1 v,qj.2.commaD qj.1):=grew_comma h8j.img h8j.ok v
    have hqh2:=(commaD_h hc0).trans (show qj.2.h+8=xt+8* (j+1)by omega)
    obtain⟨ad,hA,hca⟩:=(hoj.ints hi.out hfar.out) j v hvj
    subst hA
    have hca2:=λW (q1 p1:Img×Dc) (h:On F w (AllA (owL b gr gb en cap wcs q1 p1)) W)=>(by
     obtain⟨b2,hb2,hcb⟩:=(h.ints hi.out hfar.out) j v hvj
     cases hb2
     exact hcb:W.cell? (ad.add j)=some (v:Vl))
    have hpc:=λW (h:On F w (AllA (owL b gr gb en cap wcs qj qj)) W)=>lp_comma h h8j v hvv
    have hrc:=λW (h:On F w (AllA (owL b gr gb en cap wcs (qj.2.commaS qj.1 v,qj.2.commaD qj.1) qj)) W)=>lr_comma h h8j hsj v hvv
    rw[hc0]at hpc hrc
    obtain⟨qn,hqn⟩: ∃qn,(qj.2.commaS qj.1 v,qj.2.commaD qj.1)=qn:=⟨_,rfl⟩
    have hqh3:qn.2.h=xt+8* (j+1):=by rw[<-hqn];exact hqh2
    rw[hqn]at hg2 hcq hpc hrc
    obtain⟨c1,c7,d1⟩:=hcs.out _ _ _ hoj
    have hpd:=hid (hpc _ hoj.drew)
    replace hrc:=hid hrc
    replace hca2:=hid hca2
    replace hcq:=hid hcq
    replace hg2:=hid hg2
    replace hgq:=hid hgq
    replace hqh3:=hid hqh3
    clear hpc hoj h8j hsj hdr hvv hc0 hvj hqh2 hqn hlj hqh
    go_wp2_with fail
    go_region_held (λw'=>w'.cell? (b.gB,1)=some (b.gK:Vl)∧w'.cell? (ad.add j)=some (v:Vl)) (go_keep)
     ((go_at_call 91;refine mo hpd.out λw5 h5b=>?_;simp only[];have⟨k1,k7,l1⟩:=hcs.out _ _ _ h5b;have kc:=hca2.out _ _ _ h5b;have hrd:=hid (hrc.out _ h5b.drew);clear h5b))
    go_wp2_with fail
    go_region_held (λw'=>w'.cell? (b.gB,7)=some (b.gW:Vl)∧w'.cell? (b.gW,1)=some (gr:Vl)∧w'.cell? (ad.add j)=some (v:Vl)) (go_keep)
     ((go_at_call 92;refine mo hrd.out λw6 h6b=>?_;simp only[];have⟨m1,m7,n1⟩:=hcs.out _ _ _ h6b;have kc2:=hca2.out _ _ _ h6b;replace h6b:=hid h6b))
    go_wp2
    go_roundg (gk-1)
    case measure=>omega
    case rel=>exact⟨j+1,qn,by omega,by go_num,hgq.out.trans hg2.out,hcq.out,hqh3.out,h6b.out⟩
   ·have hje:j=cells.length:=by omega
    have hdr:cells.drop j = []:=List.drop_eq_nil_of_le oM
    rw[hdr]at hcq
    have hcq2:commasS cells q3=qj:=hcq
    replace hcq2:=hid hcq2
    replace hoj:=hid hoj
    clear hcq hdr
    go_wp2
    go_ret
    rw[hcq2.out]
    exact⟨rfl,hoj.out⟩
end
end Vm
end Go.Proofs.YteaijdgnagkllaaGreatDoor
