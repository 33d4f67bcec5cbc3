/- Chapter 13: what a word is, as the reader finds out. Conditions: as written. -/
import Derived.Test.YteaijdgnagkllaaGreatDoorZdVFnd
import Derived.Test.YteaijdgnagkllaaGreatDoorZdVGoes
import Derived.Test.YteaijdgnagkllaaGreatDoorZd27
open Go.Proofs.Tryz
namespace Go.Proofs.YteaijdgnagkllaaGreatDoor
set_option linter.unusedVariables false
set_option linter.unusedSimpArgs false
set_option maxHeartbeats 8000000
set_option maxRecDepth 100000
open Go.RowKit Go.Lib Go.Deep
namespace Vm
inductive KV
 | sp (k:Int) (nm:ByteArray)
 | fd (w:Wd)
 | nu (n:Int)
 | no
def KV.v:KV->Value
 | .sp k nm=> .iface 168 (.agg #[.int .i64 k,.string nm])
 | .fd w=> .iface 171 (.agg w.c)
 | .nu n=> .iface 174 (.agg #[.int .i64 n])
 | .no=> .nilIface
def spOf(s:Mt)(nm:ByteArray)(wd:Wd):KV:=
 if s.S.region (wd.xt:Int)=1∧(Code.unpack (s.S.cellV 0 (wd.xt:Int))).1=20 then .sp (Code.unpack (s.S.cellV 0 (wd.xt:Int))).2.1 nm else .fd wd
def nuOf(s:Mt)(nm:ByteArray):KV:=
 if(parseN nm.data.toList (s.S.cellV 0 (s.S.beg 3:Int))).2=true then .nu (parseN nm.data.toList (s.S.cellV 0 (s.S.beg 3:Int))).1 else .no
def kvOf(s:Mt)(nm:ByteArray):KV:=
 match(findW s.S (dS s) nm.data.toList).or (findW s.S (dK s) nm.data.toList)with
 | some wd=>spOf s nm wd
 | none=>nuOf s nm
structure OLists(c:Vc)(s:Mt):Prop where
 hs:0<=s.hs
 ls:0<=s.ls
 hk:0<=s.hk
 lk:0<=s.lk
 s8:At8 s.S (dS s) c.sfr c.sto
 k8:At8 s.S (dK s) c.kfr c.kto
theorem Below.keptN{w W W2:World}(h:Below w.heap.size w W)(hk:Kept Nob W W2):Below w.heap.size w W2:=
 ⟨hk.os.trans h.os,hk.tape.trans h.tape,hk.output.trans h.output,Nat.le_trans h.size hk.size,λk hk'=>(hk.block k (by have:=h.size;omega) (λh=>h)).trans (h.block k hk')⟩
section
variable {w w' W:World}{F:Nat->Prop}{c:Vc}{o:Oc}{x:Rx}{s:Mt}{L:List Asr}{B:Asr}
theorem x_image(h:Blk W c.gM 108 (machC c s)):Calls prog 96 #[c.gM] W (Same c.gI W):=by
 have c0:W.cell? (c.gM,0)=some (c.gI:Vl):=h.cell 0
 clear h
 go_enter func96,ntmps96
 go_wp2
 go_ret
 exact⟨rfl,rfl⟩
theorem o_finds(hk:OLists c s)(h:On F w (AllA (oL c o x s)) W)(nm:ByteArray)(hn:nm.size<=140737488355327):
 Calls prog 18 #[c.gS,.string nm] W (FindPost (findW s.S (dS s) nm.data.toList) W)∧Calls prog 18 #[c.gK,.string nm] W (FindPost (findW s.S (dK s) nm.data.toList) W):=by
 have b6:Blk W c.gS 146 (dictC c.gI c.sfr c.sto s.hs s.ls):=h.blkAt 9 rfl
 have b7:Blk W c.gK 146 (dictC c.gI c.kfr c.kto s.hk s.lk):=h.blkAt 10 rfl
 obtain⟨gb,hI⟩:=h.img 5 rfl
 have e1: ((dS s).h:Int)=s.hs:=Int.toNat_of_nonneg hk.hs
 have e2: ((dS s).l:Int)=s.ls:=Int.toNat_of_nonneg hk.ls
 have e3: ((dK s).h:Int)=s.hk:=Int.toNat_of_nonneg hk.hk
 have e4: ((dK s).l:Int)=s.lk:=Int.toNat_of_nonneg hk.lk
 rw[<-e1,<-e2]at b6
 rw[<-e3,<-e4]at b7
 exact⟨d_find W b6 hI hk.s8 nm hn,d_find W b7 hI hk.k8 nm hn⟩
theorem o_dfind(hk:OLists c s)(h:On F w (AllA (oL c o x s)) W)(nm:ByteArray)(hn:nm.size<=140737488355327):
 ∃rb cap,o.wv = .slice (some ⟨rb,0,none⟩) 2 cap∧Calls prog 97 #[.string nm,.slice (some ⟨rb,0,none⟩) 2 cap] W (FindPost ((findW s.S (dS s) nm.data.toList).or (findW s.S (dK s) nm.data.toList)) W):=by
 obtain⟨F1,hrow⟩:=h.at_ 2 rfl
 obtain⟨rb,cap,hv,h0,h1⟩:=row_two hrow.1
 exact⟨rb,cap,hv,dfind_walk W rb cap c.gS c.gK nm _ _ h0 h1 (λW2 hb=>(o_finds hk (h.below hb) nm hn).1) (λW2 hb=>(o_finds hk (h.below hb) nm hn).2)⟩
theorem o_way(h:On F w (AllA (oL c o x s)) W):W.cell? (o.g,0)=some (o.gO:Vl)∧W.cell? (o.gO,0)=some (c.gM:Vl)∧W.cell? (o.gO,1)=some (c.gS:Vl)∧W.cell? (o.gO,2)=some o.wv:=
 have h0:Blk W o.g 101 (readC o x):=h.blkAt 0 rfl
 have h1:Blk W o.gO 94 (outerC c o.wv 0):=h.blkAt 1 rfl
 ⟨h0.cell 0,h1.cell 0,h1.cell 1,h1.cell 2⟩
theorem rd_known(hk:OLists c s)(h:On F w (AllA (oL c o x s)) W)(nm:ByteArray)(hn:nm.size<=140737488355327):
 Calls prog 68 #[o.g,.string nm] W (Quiet (kvOf s nm).v W):=by
 obtain⟨rb,cap,hwv,hfd⟩:=o_dfind hk h nm hn
 obtain⟨c0,d0,d1,d2⟩:=o_way h
 rw[hwv]at d2
 have him:=x_image (s:=s) (h.blkAt 4 rfl)
 have hway:=λW2 (hb:Below W.heap.size W W2)=>o_way (h.below hb)
 have hreg:=λW2 (hb:Below W.heap.size W W2) a=>(by obtain⟨gb,hI⟩:=(h.below hb).img 5 rfl;exact i_region hI a:Calls prog 83 #[c.gI,.int .i64 a] W2 (Same (s.S.region a:Int) W2))
 have hcel:=λW2 (hb:Below W.heap.size W W2) a=>(by obtain⟨gb,hI⟩:=(h.below hb).img 5 rfl;exact i_cell hI 0 a:Calls prog 79 #[c.gI,(0:Int),.int .i64 a] W2 (λe w'=>e = .returned (.tuple #[(s.S.cellV 0 a),(s.S.cellF 0 a false)])∧Below W2.heap.size W2 w'))
 have hbase:=λW2 (hb:Below W.heap.size W W2)=>(by obtain⟨gb,hI⟩:=(h.below hb).img 5 rfl;exact x_base (c:=c) (s:=s) ((h.below hb).blkAt 4 rfl) hI:Calls prog 37 #[c.gM] W2 (Quiet (s.S.beg 3:Int) W2))
 obtain⟨V,hV⟩: ∃V,(kvOf s nm).v=V:=⟨_,rfl⟩
 rw[hV]
 unfold kvOf at hV
 generalize (findW s.S (dS s) nm.data.toList).or (findW s.S (dK s) nm.data.toList)=R at *
 replace hfd:=hid hfd
 replace him:=hid him
 replace hway:=hid hway
 replace hreg:=hid hreg
 replace hcel:=hid hcel
 replace hbase:=hid hbase
 replace hV:=hid hV
 clear h hk
 go_enter func68,ntmps68
 go_wp2_with fail
 refine him.out.mono ?_
 rintro e w1 ⟨rfl,rfl⟩
 simp only[]
 go_wp2_with fail
 refine mo hfd.out λw2 hb=>?_
 rcases R with _| ⟨nm1,hd1,xt1,im1,hh1,il1⟩
 ·unfold foundV noWd
  simp only[Option.isSome]
  have hb2:Below w1.heap.size w1 (w2.alloc (.cells #[.string ⟨#[]⟩,(0:Int),(0:Int),.bool false,.bool false,.bool false] 55)):=hb.trans (((Below.refl _ _).alloc (Nat.le_refl _) _).mono hb.size)
  obtain⟨e0,f0,f1,f2⟩:=hway.out _ hb2
  have hbs:=hid (hbase.out _ hb2)
  obtain⟨pv,hpv⟩: ∃pv,parseN nm.data.toList (s.S.cellV 0 (s.S.beg 3:Int))=pv:=⟨_,rfl⟩
  have hps:=λW2=>parse_walk nm oM (s.S.cellV 0 (s.S.beg 3:Int)) W2
  have hV2: (nuOf s nm).v=V:=hV.out
  unfold nuOf at hV2
  rw[hpv]at hps hV2
  replace hV2:=hid hV2
  replace hps:=hid hps
  replace hpv:=hid hpv
  replace hb2:=hid hb2
  replace hb:=hid hb
  go_wp2_with fail
  refine mo hbs.out λw3 hb3=>?_
  simp only[]
  have hb4:=hb2.out.trans (hb3.mono hb2.out.size)
  have hc4:=hid (hcel.out _ hb4 (s.S.beg 3:Int))
  replace hb4:=hid hb4
  clear hb3
  go_wp2_with fail
  refine mo hc4.out λw4 hb5=>?_
  simp only[]
  have hb6:=hid (hb4.out.trans (hb5.mono hb4.out.size))
  clear hb5
  go_wp2_with fail
  refine mo (hps.out _) λw5 hk5=>?_
  simp only[]
  have hb7:=hid (Below.keptN hb6.out hk5)
  clear hk5
  obtain⟨pn,pb⟩:=pv
  cases pb with
  | true=>
    go_wp2
    go_ret
    rw[<-hV2.out]
    exact⟨rfl,hb7.out⟩
  | false=>
    go_wp2
    go_ret
    rw[<-hV2.out]
    exact⟨rfl,hb7.out⟩
 ·unfold foundV Wd.c
  simp only[Option.isSome]
  have hb2:Below w1.heap.size w1 (w2.alloc (.cells #[.string ⟨nm1.toArray⟩,(hd1:Int),(xt1:Int),.bool im1,.bool hh1,.bool il1] 55)):=hb.trans (((Below.refl _ _).alloc (Nat.le_refl _) _).mono hb.size)
  have hrg:=hid (hreg.out _ hb2 (xt1:Int))
  have hc4:=hid (hcel.out _ hb2 (xt1:Int))
  have hV2: (spOf s nm ⟨nm1,hd1,xt1,im1,hh1,il1⟩).v=V:=hV.out
  unfold spOf at hV2
  simp only at hV2
  clear hV
  generalize s.S.cellV 0 (xt1:Int)=cv at *
  generalize s.S.cellF 0 (xt1:Int) false=cf at *
  generalize s.S.region (xt1:Int)=rg at *
  have hun:=λW2=>unpack_walk cv W2
  generalize (Code.unpack cv).1=u1 at *
  generalize (Code.unpack cv).2.1=u2 at *
  generalize (Code.unpack cv).2.2=u3 at *
  replace hb2:=hid hb2
  replace hb:=hid hb
  replace hun:=hid hun
  replace hV2:=hid hV2
  go_wp2_with fail
  refine hrg.out.mono ?_
  rintro e w3 ⟨rfl,rfl⟩
  simp only[]
  by_cases h1:rg=1
  ·subst h1
   go_wp2_with fail
   refine mo hc4.out λw4 hb5=>?_
   simp only[]
   have hb6:=hid (hb2.out.trans (hb5.mono hb2.out.size))
   have hk6:Blk w4 w2.heap.size 55 #[.string ⟨nm1.toArray⟩,(hd1:Int),(xt1:Int),.bool im1,.bool hh1,.bool il1]:=(hb5.block _ (by simp)).trans (Blk.new _ _ _)
   have z0:=hk6.cell 0
   have z1:=hk6.cell 1
   have z2:=hk6.cell 2
   have z3:=hk6.cell 3
   have z4:=hk6.cell 4
   have z5:=hk6.cell 5
   clear hb5
   replace hk6:=hid hk6
   go_wp2_with fail
   refine(hun.out _).mono ?_
   rintro e w5 ⟨rfl,rfl⟩
   simp only[]
   by_cases h20:u1=20
   ·subst h20
    go_wp2
    go_ret
    rw[<-hV2.out,if_pos (by simp)]
    exact⟨rfl,hb6.out⟩
   ·have g20: (u1==20)=false:=by simpa using h20
    replace h20:=hid h20
    go_wp2
    go_ret
    rw[<-hV2.out,if_neg (λh=>h20.out h.2)]
    exact⟨rfl,hb6.out⟩
  ·have g1: ((rg:Int) ==1)=false:=by rw[beq_eq_false_iff_ne];omega
   replace h1:=hid h1
   go_wp2
   go_ret
   rw[<-hV2.out,if_neg (λh=>h1.out h.1)]
   exact⟨rfl,hb2.out⟩
end
def find2(s:Mt)(nm:List UInt8):Option Wd:=(findW s.S (dS s) nm).or (findW s.S (dK s) nm)
theorem Wk.find{c:Vc}{g:Nat}{x:Rn}{src:Value}{s:Mt}(hp:Wk c src s)(L:List Asr){w W:World}{F:Nat->Prop}(h:On F w (AllA (L++vL c g x src s)) W)(nm:ByteArray)(hn:nm.size<=140737488355327):
 Calls prog 97 #[.string nm,c.ws] W (FindPost (find2 s nm.data.toList) W):=by
 obtain⟨i,hi⟩:=hp.ws
 obtain⟨F',hF⟩:=h.at_ _ (rest_at (c:=c) (g:=g) (x:=x) (src:=src) (s2:=s) hi L)
 obtain⟨gw,cap,hv,h0,h1⟩:=row_two hF.1
 have hvl: ∀j,(L++vL c g x src s)[L.length+j]? = (vL c g x src s)[j]? :=λj=>by rw[List.getElem?_append_right oM];congr 1;omega
 have b6:=h.blkAt (L.length+6) (hvl 6)
 have b7:=h.blkAt (L.length+7) (hvl 7)
 obtain⟨gb,hI⟩:=h.img (L.length+2) (hvl 2)
 have b6':Blk W c.gS 146 (dictC c.gI c.sfr c.sto ((dS s).h:Int) ((dS s).l:Int)):=by
  show Blk W c.gS 146 (dictC c.gI c.sfr c.sto ((s.hs.toNat:Nat):Int) ((s.ls.toNat:Nat):Int))
  rw[Int.toNat_of_nonneg hp.dcs.h,Int.toNat_of_nonneg hp.dcs.l]
  exact b6
 have b7':Blk W c.gK 146 (dictC c.gI c.kfr c.kto ((dK s).h:Int) ((dK s).l:Int)):=by
  show Blk W c.gK 146 (dictC c.gI c.kfr c.kto ((s.hk.toNat:Nat):Int) ((s.lk.toNat:Nat):Int))
  rw[Int.toNat_of_nonneg hp.hk,Int.toNat_of_nonneg hp.lk]
  exact b7
 rw[hv]
 refine dfind_walk W gw cap c.gS c.gK nm _ _ h0 h1 (λW' hb=> ?_) (λW' hb=> ?_)
 ·exact d_find W' (b6'.below hb b6'.lt) ⟨hI.blk.below hb hI.blk.lt,hI.row.below hb hI.row.lt,hI.ok⟩ hp.dcs.at8 nm hn
 ·exact d_find W' (b7'.below hb b7'.lt) ⟨hI.blk.below hb hI.blk.lt,hI.row.below hb hI.row.lt,hI.ok⟩ hp.kat nm hn
def laysD:List Int->Mt->Int×Mt
 | [],s=>(0,s)
 | v::l,s=>if(dS s).commaF s.S=0 then laysD l (s.onDict ((dS s).commaS s.S v) ((dS s).commaD s.S))else((dS s).commaF s.S,s.onDict ((dS s).commaS s.S v) ((dS s).commaD s.S))
theorem laysD_cons(v:Int)(l:List Int)(s:Mt):laysD (v::l) s=if(dS s).commaF s.S=0 then laysD l (s.onDict ((dS s).commaS s.S v) ((dS s).commaD s.S))else((dS s).commaF s.S,s.onDict ((dS s).commaS s.S v) ((dS s).commaD s.S)):=rfl
section
variable {w w' W:World}{F:Nat->Prop}{c:Vc}{o:Oc}{x:Rx}{s:Mt}{L:List Asr}{B:Asr}
theorem Dcs.callO{f:FuncId}{args:Array Value}{e0:Ending}{S':Img}{D':Dc}{src:Value}(hp:Dcs c src s)(h:On F w (AllA (oL c o x s)) w')
 (hc: ∀F',(AllA [DcA c.gI c.gS c.sfr c.sto (dS s),ImgA c.gI s.S]).holds w' F'->Calls prog f args w' (Got e0 (AllA [DcA c.gI c.gS c.sfr c.sto D',ImgA c.gI S']) F' w')):
 Calls prog f args w' (Got e0 (AllA (oL c o x (s.onDict S' D'))) F w):=
 h.callAt2G 9 5 (by decide) (congrArg some hp.dc) rfl hc
theorem ord_lay(hb: (AllA (oL c o x s)).holds w F)(hd:Dcs c .nilIface s)(A:Option Addr)(cap:Nat)(l:List Int)(hi:Ints w A l)(hfar:Far F A)(hv: ∀v∈l,V64 v)(hl:l.length<=1000):
 Calls prog 106 #[o.g,.slice A l.length cap] w (Got (.returned (laysD l s).1) (AllA (oL c o x (laysD l s).2)) F w):=by
 have hon:=On.refl hb
 obtain⟨R,hR⟩: ∃R,laysD l s=R:=⟨_,rfl⟩
 rw[hR]
 have hway:=λ(s2:Mt) W2 (h:On F w (AllA (oL c o x s2)) W2)=>o_way h
 replace hon:=hid hon
 replace hway:=hid hway
 replace hi:=hid hi
 replace hfar:=hid hfar
 replace hv:=hid hv
 replace hR:=hid hR
 clear hb
 go_enter func106,ntmps106
 go_wp2_with fail
 go_loopg [10] l.length (λk t wr=> ∃(j:Nat) (sj:Mt),j+k=l.length∧t = .int .i64 (j:Int)∧Dcs c .nilIface sj∧laysD (l.drop j) sj=R∧On F w (AllA (oL c o x sj)) wr)
 case atStart=>exact⟨0,s,by omega,rfl,hd,hR.out,hon.out⟩
 case round=>
  obtain⟨j,sj,hj,rfl,hdj,hlj,hoj⟩:=hrel
  by_cases hjl:j<l.length
  ·obtain⟨v,hvj⟩: ∃v,l[j]? = some v:=⟨l[j],by simp[hjl]⟩
   have hvv:=hv.out v (List.mem_of_getElem? hvj)
   have hdr:l.drop j=v::l.drop (j+1):=by
    rw[List.drop_eq_getElem_cons hjl]
    congr 1
    rw[List.getElem?_eq_getElem hjl]at hvj
    exact Option.some.inj hvj
   rw[hdr,laysD_cons]at hlj
   have hg:=hdj.onGrew (grew_comma hdj.at8.img hdj.at8.ok v)
   obtain⟨ad,hA,hca⟩:=(hoj.ints hi.out hfar.out) j v hvj
   subst hA
   have hcm:=hdj.callO hoj (λF' ha=>d_comma ha hdj.at8 v hvv)
   obtain⟨c0,d0,d1,d2⟩:=hway.out _ _ hoj
   generalize (sj.onDict ((dS sj).commaS sj.S v) ((dS sj).commaD sj.S))=sn at *
   generalize (dS sj).commaF sj.S=cf at *
   replace hcm:=hid hcm
   replace hg:=hid hg.1
   replace hoj:=hid hoj
   replace hdj:=hid hdj
   clear hdr hvv hvj
   by_cases hf:cf=0
   ·rw[if_pos hf]at hlj
    subst hf
    replace hlj:=hid hlj
    go_wp2_with fail
    refine mo hcm.out λw5 h5=>?_
    simp only[]
    replace h5:=hid h5
    go_wp2
    go_roundg (gk-1)
    case measure=>omega
    case rel=>exact⟨j+1,sn,by omega,by go_num,hg.out,hlj.out,h5.out⟩
   ·rw[if_neg hf]at hlj
    have hf2: (cf != 0)=true:=by simpa using hf
    replace hlj:=hid hlj
    replace hf:=hid hf
    go_wp2_with fail
    refine mo hcm.out λw5 h5=>?_
    simp only[]
    replace h5:=hid h5
    go_wp2
    go_ret
    rw[<-hlj.out]
    exact⟨rfl,h5.out⟩
  ·have hdr:l.drop j = []:=List.drop_eq_nil_of_le oM
   rw[hdr]at hlj
   have hlj2: ((0:Int),sj)=R:=hlj
   replace hlj2:=hid hlj2
   replace hoj:=hid hoj
   replace hdj:=hid hdj
   clear hdr hlj
   go_wp2
   go_ret
   rw[<-hlj2.out]
   exact⟨rfl,hoj.out⟩
theorem rd_layBox{g cap:Nat}{l:List Int}(h:On F w (AllA (BlkA g 3 (intsC l)::oL c o x s)) W)(hd:Dcs c .nilIface s)(hv: ∀v∈l,V64 v)(hl:l.length<=1000):
 Calls prog 106 #[o.g,.slice (some ⟨g,0,none⟩) l.length cap] W (Got (.returned (laysD l s).1) (AllA (BlkA g 3 (intsC l)::oL c o x (laysD l s).2)) F w):=
 h.callTail λF' hb' ⟨F3,h3,hdj⟩ _=>ord_lay hb' hd (some ⟨g,0,none⟩) cap l (by
  intro k v hk
  refine⟨_,rfl,?_⟩
  have e2: ((⟨g,0,none⟩:Addr).add k)= ⟨g,k,none⟩:=by simp[Addr.add];intro h;exact h.symm
  rw[e2,h3.1.cell k]
  simp[intsC,hk]) (λa ha hk=>by cases ha;exact hdj g ((h3.2 g).2 rfl) hk) hv hl
theorem rd_num_comp(h:On F w (AllA (oL c o x s)) W)(hd:Dcs c .nilIface s)(hc:x.comp=true)(n:Int)(hn:V64 n):
 Calls prog 71 #[o.g,n] W (Got (.returned (laysD [2,n] s).1) (AllA (oL c o x (laysD [2,n] s).2)) F w):=by
 have hbx:=h.box (intsC [2,n]) 3
 have hly:=rd_layBox (cap:=2) hbx hd (λv hv=>by
  simp only[List.mem_cons,List.mem_nil_iff,or_false]at hv
  rcases hv with rfl|rfl
  ·unfold V64;omega
  ·exact hn) (by show 2<=1000;decide)
 have c4:W.cell? (o.g,4)=some (.bool true):=by
  have h0:Blk W o.g 101 (readC o x):=h.blkAt 0 rfl
  have:=h0.cell 4
  rw[<-hc]
  exact this
 generalize laysD [2,n] s=R at *
 replace hly:=hid hly
 clear hbx h hd hc
 go_enter func71,ntmps71
 go_wp2_with fail
 refine mo hly.out λw5 h5=>?_
 simp only[]
 replace h5:=hid h5.tail
 go_wp2
 go_ret
 exact⟨rfl,h5.out⟩
theorem o_push{rb:Nat}{v:Int}(h:On F w (AllA (BlkA rb 3 (intsC [v])::oL c o x s)) W)(hs:s.Ok)(hv:V64 v)(hroom:s.d<s.pd.rm):
 Calls prog 113 #[c.gD,.slice (some ⟨rb,0,none⟩) 1 1] W (Got (.returned (.int .i64 0)) (AllA (BlkA rb 3 (intsC [v])::oL c o x (s.pushD [v]))) F w):=
 h.callAt2WG 7 6 (by decide) rfl rfl λF' hb ho=>by
  obtain⟨F3,h3,hd⟩:=ho.2 0 _ (by decide) (by decide) rfl
  refine k_push_yes hb hs.pd [v] (λu hu=>by rw[List.mem_singleton.1 hu];exact hv) (some ⟨rb,0,none⟩) 1 ?_ (λa ha hk=>by cases ha;exact hd rb ((h3.2 rb).2 rfl) hk) hs.d (by show 1<=_;omega)
  intro k u hk
  refine⟨_,rfl,?_⟩
  have e2: ((⟨rb,0,none⟩:Addr).add k)= ⟨rb,k,none⟩:=by simp[Addr.add];intro h;exact h.symm
  rw[e2,h3.1.cell k]
  rcases k with _|k<;>simp_all[intsC]
theorem o_data(h:On F w (AllA (oL c o x s)) W):Calls prog 16 #[c.gM] W (Same c.gD W):=x_data (h.blkAt 4 rfl)
theorem rd_num_push(h:On F w (AllA (oL c o x s)) W)(hs:s.Ok)(hc:x.comp=false)(n:Int)(hn:V64 n)(hroom:s.d<s.pd.rm):
 Calls prog 71 #[o.g,n] W (Got (.returned (0:Int)) (AllA (oL c o x (s.pushD [n]))) F w):=by
 have hbx:=h.box (intsC [n]) 3
 have hly:=o_push hbx hs hn hroom
 have hda:=o_data h
 obtain⟨c0,d0,d1,d2⟩:=o_way h
 have c4:W.cell? (o.g,4)=some (.bool false):=by
  have h0:Blk W o.g 101 (readC o x):=h.blkAt 0 rfl
  have:=h0.cell 4
  rw[<-hc]
  exact this
 generalize s.pushD [n]=s2 at *
 replace hly:=hid hly
 replace hda:=hid hda
 clear hbx h hs hc
 go_enter func71,ntmps71
 go_wp2_with fail
 refine hda.out.mono ?_
 rintro e w4 ⟨rfl,rfl⟩
 simp only[]
 go_wp2_with fail
 refine mo hly.out λw5 h5=>?_
 simp only[]
 replace h5:=hid h5.tail
 go_wp2
 go_ret
 exact⟨rfl,h5.out⟩
theorem rd_found_run(h:On F w (AllA (oL c o x s)) W)(wd:Wd)(hc:x.comp=false∨wd.imm=true)(f n:Int)(s2:Mt)(hn:0<=n)(hn2:n<=x.left)(hl2:x.left<=1000000)
 (hrun: ∀W' F',(AllA (mL c s)).holds W' F'->Calls prog 112 #[c.gM,x.mode,(wd.xt:Int),x.left,o.gs] W' (Got (.returned (.tuple #[f,n])) (AllA (mL c s2)) F' W')):
 Calls prog 70 #[o.g,.agg wd.c] W (Got (.returned f) (AllA (oL c o { x with left:=x.left-n } s2)) F w):=by
 obtain⟨nm1,hd1,xt1,im1,hh1,il1⟩:=wd
 unfold Wd.c
 simp only at hc hrun⊢
 have hbx:=h.box #[.string ⟨nm1.toArray⟩,(hd1:Int),(xt1:Int),.bool im1,.bool hh1,.bool il1] 55
 have hcl:=λW2 (h2:On F w (AllA (BlkA W.heap.size 55 #[.string ⟨nm1.toArray⟩,(hd1:Int),(xt1:Int),.bool im1,.bool hh1,.bool il1]::oL c o x s)) W2)=>
  (On.callDrop (e0:= .returned (.tuple #[f,n])) (L':=mL c s2) 5 (by simp[oL]) h2 (λF' hb _ _=>hrun W2 F' hb):Calls prog 112 #[c.gM,x.mode,(xt1:Int),x.left,o.gs] W2 (Got (.returned (.tuple #[f,n])) (AllA (BlkA W.heap.size 55 #[.string ⟨nm1.toArray⟩,(hd1:Int),(xt1:Int),.bool im1,.bool hh1,.bool il1]::oL c o x s2)) F w))
 have hway:=λ(x2:Rx) (s2:Mt) W2 (h:On F w (AllA (BlkA W.heap.size 55 #[.string ⟨nm1.toArray⟩,(hd1:Int),(xt1:Int),.bool im1,.bool hh1,.bool il1]::oL c o x2 s2)) W2)=>(by
  have h0:Blk W2 o.g 101 (readC o x2):=h.blkAt 1 rfl
  have h1:Blk W2 o.gO 94 (outerC c o.wv 0):=h.blkAt 2 rfl
  exact⟨h0.cell 0,h0.cell 1,h0.cell 2,h0.cell 3,h0.cell 4,h1.cell 0,(h.blkAt 0 rfl).cell 2,(h.blkAt 0 rfl).cell 3,h0.frozen 2⟩:W2.cell? (o.g,0)=some (o.gO:Vl)∧W2.cell? (o.g,1)=some (x2.mode:Vl)∧W2.cell? (o.g,2)=some (x2.left:Vl)∧W2.cell? (o.g,3)=some (o.gs:Vl)∧W2.cell? (o.g,4)=some (.bool x2.comp)∧W2.cell? (o.gO,0)=some (c.gM:Vl)∧W2.cell? (W.heap.size,2)=some ((xt1:Int):Vl)∧W2.cell? (W.heap.size,3)=some (.bool im1)∧W2.frozen? (o.g,2)=false)
 have hfin: ∀W2,On F w (AllA (BlkA W.heap.size 55 #[.string ⟨nm1.toArray⟩,(hd1:Int),(xt1:Int),.bool im1,.bool hh1,.bool il1]::oL c o x s2)) W2->On F w (AllA (oL c o { x with left:=x.left-n } s2)) (W2.setCell (o.g,2) (.int .i64 (x.left-n))):=λW2 h2=>(h2.setAt 1 rfl 2 (.int .i64 (x.left-n))).tail
 obtain⟨c0,c1,c2,c3,c4,d0,e2,e3,f2⟩:=hway _ _ _ hbx
 have hcd:=hid (hcl _ hbx.drew)
 replace hbx:=hid hbx
 replace hway:=hid hway
 replace hfin:=hid hfin
 clear hcl h hrun
 obtain⟨md,lf,cmp,opn,xt,fp,fo⟩:=x
 simp only at *
 cases cmp with
 | false=>
   clear hc
   go_enter func70,ntmps70
   go_wp2_with fail
   go_region_held (λw'=>w'.cell? (o.g,0)=some (o.gO:Vl)∧w'.cell? (o.g,1)=some (md:Vl)∧w'.cell? (o.g,2)=some (lf:Vl)∧w'.cell? (o.g,3)=some (o.gs:Vl)∧w'.cell? (o.gO,0)=some (c.gM:Vl)∧w'.cell? (W.heap.size,2)=some ((xt1:Int):Vl)) (go_keep)
    ((go_at_call 112;refine mo hcd.out λw5 h5=>?_;simp only[];have⟨y0,y1,y2,y3,y4,u0,u2,u3,uf⟩:=hway.out _ _ _ h5;have hf5:=hid (hfin.out _ h5);clear h5))
   go_wp2
   go_ret
   exact⟨rfl,hf5.out⟩
 | true=>
   obtain rfl:im1=true:=by rcases hc with h|h<;>first|exact h|cases h
   clear hc
   go_enter func70,ntmps70
   go_wp2_with fail
   go_region_held (λw'=>w'.cell? (o.g,0)=some (o.gO:Vl)∧w'.cell? (o.g,1)=some (md:Vl)∧w'.cell? (o.g,2)=some (lf:Vl)∧w'.cell? (o.g,3)=some (o.gs:Vl)∧w'.cell? (o.gO,0)=some (c.gM:Vl)∧w'.cell? (W.heap.size,2)=some ((xt1:Int):Vl)) (go_keep)
    ((go_at_call 112;refine mo hcd.out λw5 h5=>?_;simp only[];have⟨y0,y1,y2,y3,y4,u0,u2,u3,uf⟩:=hway.out _ _ _ h5;have hf5:=hid (hfin.out _ h5);clear h5))
   go_wp2
   go_ret
   exact⟨rfl,hf5.out⟩
end
def FlowA(g:Nat):Asr:=BlkA g 280 #[.slice none 0 0]
theorem fl_new(w:World):Calls prog 148 #[] w (PostE (λe B=> ∃g,e = .returned (.pointer (some ⟨g,0,none⟩))∧B=FlowA g) Nob w):=by
 have hon:=(On.refl (A:=AllA []) (F:=Nob) (w:=w) (λ_ h=>h)).box #[.slice none 0 0] 280
 replace hon:=hid hon
 go_enter func148,ntmps148
 go_wp2
 go_ret
 exact⟨_,⟨w.heap.size,rfl,rfl⟩,hon.out.ofOne⟩
theorem fl_end{w:World}{g:Nat}(h:Blk w g 280 #[.slice none 0 0]):Calls prog 149 #[g] w (Same (0:Int) w):=by
 have c0:w.cell? (g,0)=some (.slice none 0 0):=h.cell 0
 clear h
 go_enter func149,ntmps149
 go_wp2
 go_ret
 exact⟨rfl,rfl⟩
section
variable {w w' W:World}{F:Nat->Prop}{c:Vc}{o:Oc}{x:Rx}{s:Mt}{L:List Asr}{B:Asr}
def Rx.opens(x:Rx)(xt:Int)(g:Nat):Rx:={ x with xt:=xt,opn:=true,comp:=true,fp:= .pointer (some ⟨g,0,none⟩),fo:=FlowA g }
def Rx.shuts(x:Rx):Rx:={ x with opn:=false,comp:=false }
theorem rd_colon(h:On F w (AllA (oL c o x s)) W)(hd:Dcs c .nilIface s)(nm:ByteArray)(hn:nm.size<=60000)(hf: (dS s).createF s.S nm.data.toList=0):
 Calls prog 101 #[o.g,.string nm] W (λe w'=>e = .returned (0:Int)∧∃g,On F w (AllA (oL c o (x.opens ((dS s).createV s.S nm.data.toList) g) (s.onDict ((dS s).createS s.S nm.data.toList) ((dS s).createD s.S nm.data.toList)))) w'):=by
 have hcr:=hd.callO h (λF' ha=>d_create ha hd.at8 nm oM)
 rw[hf]at hcr
 obtain⟨c0,d0,d1,d2⟩:=o_way h
 generalize (s.onDict ((dS s).createS s.S nm.data.toList) ((dS s).createD s.S nm.data.toList))=s2 at *
 generalize (dS s).createV s.S nm.data.toList=V at *
 replace hcr:=hid hcr
 replace h:=hid h
 clear hd hf
 go_enter func101,ntmps101
 go_wp2_with fail
 refine mo hcr.out λw4 h4=>?_
 simp only[]
 have hmk:=hid (h4.make (fl_new w4))
 replace h4:=hid h4
 go_wp2_with fail
 refine hmk.out.mono ?_
 rintro e w5 ⟨B,⟨g,rfl,rfl⟩,h5⟩
 simp only[]
 have h6:On F w (AllA (BlkA o.g 101 (readC o x)::BlkA o.gO 94 (outerC c o.wv 0)::RowP o.wv [c.gS,c.gK]::FlowA g::mL c s2)) w5:=(((h5.drop 4 rfl).front 3 rfl).front 3 rfl).front 3 rfl
 have h7:On F w (AllA (oL c o (x.opens V g) s2)) ((((w5.setCell (o.g,6) (.int .i64 V)).setCell (o.g,5) (.bool true)).setCell (o.g,4) (.bool true)).setCell (o.g,7) (.pointer (some ⟨g,0,none⟩))):=(((h6.setAt 0 rfl 6 (.int .i64 V)).setAt 0 rfl 5 (.bool true)).setAt 0 rfl 4 (.bool true)).setAt 0 rfl 7 (.pointer (some ⟨g,0,none⟩))
 have hrd:Blk w5 o.g 101 (readC o x):=h6.blkAt 0 rfl
 have f4:=hrd.frozen 4
 have f5:=hrd.frozen 5
 have f6:=hrd.frozen 6
 have f7:=hrd.frozen 7
 have q4:w5.cell? (o.g,4)=some (.bool x.comp):=hrd.cell 4
 have q5:w5.cell? (o.g,5)=some (.bool x.opn):=hrd.cell 5
 have q6:w5.cell? (o.g,6)=some (x.xt:Vl):=hrd.cell 6
 have q7:w5.cell? (o.g,7)=some x.fp:=hrd.cell 7
 replace h7:=hid h7
 clear h5 h6 hrd hmk
 go_wp2
 go_ret
 exact⟨rfl,g,h7.out⟩
theorem rd_semi{g:Nat}(h:On F w (AllA (oL c o x s)) W)(hd:Dcs c .nilIface s)(hx:x.fo=FlowA g)(hp:x.fp = .pointer (some ⟨g,0,none⟩))(hc: (dS s).commaF s.S=0):
 Calls prog 102 #[o.g] W (Got (.returned (0:Int)) (AllA (oL c o x.shuts ((s.onDict ((dS s).commaS s.S 1) ((dS s).commaD s.S)).onDict ((dS (s.onDict ((dS s).commaS s.S 1) ((dS s).commaD s.S))).turnS (s.onDict ((dS s).commaS s.S 1) ((dS s).commaD s.S)).S showT) (dS (s.onDict ((dS s).commaS s.S 1) ((dS s).commaD s.S)))))) F w):=by
 have hbx:=h.box (intsC [1]) 3
 have hly:=rd_layBox (cap:=1) (l:=[1]) hbx hd (λv hv=>by rw[List.mem_singleton.1 hv];unfold V64;omega) (by decide)
 have e1:laysD [1] s= (0,s.onDict ((dS s).commaS s.S 1) ((dS s).commaD s.S)):=by
  rw[laysD_cons,if_pos hc]
  rfl
 rw[e1]at hly
 have hd2:=(hd.onGrew (grew_comma hd.at8.img hd.at8.ok 1)).1
 have hfl:Blk W g 280 #[.slice none 0 0]:=h.blkAt 3 (by show some x.fo=_;rw[hx];rfl)
 have hen:=fl_end hfl
 have hrd:Blk W o.g 101 (readC o x):=h.blkAt 0 rfl
 have c7:W.cell? (o.g,7)=some (.pointer (some ⟨g,0,none⟩)):=by rw[<-hp];exact hrd.cell 7
 obtain⟨c0,d0,d1,d2⟩:=o_way h
 generalize s.onDict ((dS s).commaS s.S 1) ((dS s).commaD s.S)=s2 at *
 have hsh:=λW2 (h2:On F w (AllA (oL c o x s2)) W2)=>hd2.callO h2 (λF' ha=>d_show ha hd2.at8)
 generalize (s2.onDict ((dS s2).turnS s2.S showT) (dS s2))=s3 at *
 have hway:=λ(s2:Mt) W2 (h:On F w (AllA (oL c o x s2)) W2)=>o_way h
 have hfin: ∀W2,On F w (AllA (oL c o x s3)) W2->On F w (AllA (oL c o x.shuts s3)) ((W2.setCell (o.g,5) (.bool false)).setCell (o.g,4) (.bool false)):=λW2 h2=>(h2.setAt 0 rfl 5 (.bool false)).setAt 0 rfl 4 (.bool false)
 have hrd3:=λW2 (h:On F w (AllA (oL c o x s3)) W2)=>(by
  have h0:Blk W2 o.g 101 (readC o x):=h.blkAt 0 rfl
  exact⟨h0.cell 4,h0.cell 5,h0.frozen 4,h0.frozen 5⟩:W2.cell? (o.g,4)=some (.bool x.comp)∧W2.cell? (o.g,5)=some (.bool x.opn)∧W2.frozen? (o.g,4)=false∧W2.frozen? (o.g,5)=false)
 replace hen:=hid hen
 replace hly:=hid hly
 replace hsh:=hid hsh
 replace hway:=hid hway
 replace hfin:=hid hfin
 replace hrd3:=hid hrd3
 clear h hd hd2 hbx hrd hfl e1 hx hp hc
 go_enter func102,ntmps102
 go_wp2_with fail
 refine hen.out.mono ?_
 rintro e w4 ⟨rfl,rfl⟩
 simp only[]
 go_wp2_with fail
 refine mo hly.out λw5 h5=>?_
 simp only[]
 have h6:=h5.tail
 have⟨y0,z0,z1,z2⟩:=hway.out _ _ h6
 have hs6:=hid (hsh.out _ h6)
 clear h5 h6
 go_wp2_with fail
 refine mo hs6.out λw7 h7=>?_
 simp only[]
 have⟨q4,q5,f4,f5⟩:=hrd3.out _ h7
 have h8:=hid (hfin.out _ h7)
 clear h7
 go_wp2
 go_ret
 exact⟨rfl,h8.out⟩
end
section
variable {w w' W:World}{F:Nat->Prop}{c:Vc}{o:Oc}{x:Rx}{s:Mt}{L:List Asr}{B:Asr}
theorem rd_flags(h:On F w (AllA (oL c o x s)) W):W.cell? (o.g,4)=some (.bool x.comp)∧W.cell? (o.g,5)=some (.bool x.opn):=
 have h0:Blk W o.g 101 (readC o x):=h.blkAt 0 rfl
 ⟨h0.cell 4,h0.cell 5⟩
theorem rd_may1(h:W.cell? (o.g,4)=some (.bool false)∧W.cell? (o.g,5)=some (.bool false)):Calls prog 100 #[o.g,(1:Int)] W (Same (.bool true) W):=by
 obtain⟨c4,c5⟩:=h
 go_enter func100,ntmps100
 go_wp2
 go_ret
 exact⟨rfl,rfl⟩
theorem rd_may2(h:W.cell? (o.g,4)=some (.bool true)):Calls prog 100 #[o.g,(2:Int)] W (Same (.bool true) W):=by
 go_enter func100,ntmps100
 go_wp2
 go_ret
 exact⟨rfl,rfl⟩
def colX(x:Rx)(s:Mt)(g:Nat):Rx:=({ x with left:=x.left-exC s.ext }:Rx).opens ((dS s).createV s.S (exW s.ext).data.toList) g
def colS(s:Mt):Mt:=(s.readTo (exN s.ext)).onDict ((dS s).createS s.S (exW s.ext).data.toList) ((dS s).createD s.S (exW s.ext).data.toList)
theorem rd_sp_colon(h:On F w (AllA (oL c o x s)) W)(hr:OSrc c o s L)(hd:Dcs c .nilIface s)(hx1:x.comp=false)(hx2:x.opn=false)(hl1:0<=x.left)(hl2:x.left<=1000000)(hnear: ¬x.left<exC s.ext)(nm:ByteArray)
 (hn:Dc.nameB (exW s.ext).data.toList=true) (hf: (dS s).createF s.S (exW s.ext).data.toList=0):
 Calls prog 69 #[o.g,.agg #[(1:Int),.string nm]] W (λe w'=>e = .returned (0:Int)∧∃g,On F w (AllA (oL c o (colX x s g) (colS s))) w'):=by
 obtain⟨n1,n2⟩:=name_size hn
 have hbx:=h.box #[(1:Int),.string nm] 168
 have hfl:=rd_flags hbx.tail
 rw[hx1,hx2]at hfl
 have hm:=rd_may1 (o:=o) hfl
 have hE:=(ex_bounds hr.sz hr.le).2
 have hwd:=hbx.callTail (λF' hb' _ _=>rd_word_near (On.refl hb') hr hl1 hl2 hnear)
 have hd1:Dcs c .nilIface (s.readTo (exN s.ext)):=⟨hd.h,hd.l,hd.at8⟩
 have hcl:=λW2 (h2:On F w (AllA (oL c o { x with left:=x.left-exC s.ext } (s.readTo (exN s.ext)))) W2)=>rd_colon h2 hd1 (exW s.ext) hE.2 hf
 have hne: (exW s.ext).toList.isEmpty=false:=ne_list (λe=>by rw[e]at n1;exact absurd n1 (by decide))
 have hgt:decide ((31:Int) < ((exW s.ext).size:Int))=false:=decide_eq_false oM
 change∀W2,On F w (AllA (oL c o { x with left:=x.left-exC s.ext } (s.readTo (exN s.ext)))) W2->Calls prog 101 #[o.g,.string (exW s.ext)] W2 (λe w'=>e = .returned (0:Int)∧∃g,On F w (AllA (oL c o (colX x s g) (colS s))) w')at hcl
 generalize s.readTo (exN s.ext)=s1 at *
 generalize ({ x with left:=x.left-exC s.ext }:Rx)=x1 at *
 generalize colS s=s2 at *
 generalize exW s.ext=T at *
 replace hbx:=hid hbx
 replace hm:=hid hm
 replace hwd:=hid hwd
 replace hcl:=hid hcl
 clear h hd hd1 hfl hx1 hx2 hnear hr hf hn
 go_enter func69,ntmps69
 go_wp2_with fail
 refine hm.out.mono ?_
 rintro e w4 ⟨rfl,rfl⟩
 simp only[]
 go_wp2_with fail
 refine mo hwd.out λw5 h5=>?_
 simp only[]
 have hc5:=hid (hcl.out _ h5.tail)
 have z0:w5.cell? (W.heap.size,0)=some (1:Int):=(h5.blkAt 0 rfl).cell 0
 have z1:w5.cell? (W.heap.size,1)=some (.string nm):=(h5.blkAt 0 rfl).cell 1
 clear h5
 go_wp2_with fail
 refine hc5.out.mono ?_
 rintro e w6 ⟨rfl,g,h6⟩
 simp only[]
 replace h6:=hid h6
 go_wp2
 go_ret
 exact⟨rfl,g,h6.out⟩
theorem rd_sp_semi{g:Nat}(h:On F w (AllA (oL c o x s)) W)(hd:Dcs c .nilIface s)(hx1:x.comp=true)(hx:x.fo=FlowA g)(hp:x.fp = .pointer (some ⟨g,0,none⟩))(hc: (dS s).commaF s.S=0)(nm:ByteArray)(s3:Mt)
 (hs3: ((s.onDict ((dS s).commaS s.S 1) ((dS s).commaD s.S)).onDict ((dS (s.onDict ((dS s).commaS s.S 1) ((dS s).commaD s.S))).turnS (s.onDict ((dS s).commaS s.S 1) ((dS s).commaD s.S)).S showT) (dS (s.onDict ((dS s).commaS s.S 1) ((dS s).commaD s.S))))=s3):
 Calls prog 69 #[o.g,.agg #[(2:Int),.string nm]] W (Got (.returned (0:Int)) (AllA (oL c o x.shuts s3)) F w):=by
 have hbx:=h.box #[(2:Int),.string nm] 168
 have hfl:=(rd_flags hbx.tail).1
 rw[hx1]at hfl
 have hm:=rd_may2 (o:=o) hfl
 have hsm:=rd_semi hbx.tail hd hx hp hc
 rw[hs3]at hsm
 replace hbx:=hid hbx
 replace hm:=hid hm
 replace hsm:=hid hsm
 clear h hd hfl hx1 hx hp hc hs3
 go_enter func69,ntmps69
 go_wp2_with fail
 refine hm.out.mono ?_
 rintro e w4 ⟨rfl,rfl⟩
 simp only[]
 go_wp2_with fail
 refine mo hsm.out λw5 h5=>?_
 simp only[]
 replace h5:=hid h5
 go_wp2
 go_ret
 exact⟨rfl,h5.out⟩
end
section
variable {w w' W:World}{F:Nat->Prop}{c:Vc}{o:Oc}{x:Rx}{s:Mt}
theorem rd_found_inl(h:On F w (AllA (oL c o x s)) W)(hd:Dcs c .nilIface s)(hc:x.comp=true)(wd:Wd)(hi:wd.imm=false)(hl:wd.inl=true)(v:Int)(hv:V64 v)(hcF:s.S.cellF x.mode (wd.xt:Int) false=0)(hcV:s.S.cellV x.mode (wd.xt:Int)=v):
 Calls prog 70 #[o.g,.agg wd.c] W (Got (.returned (laysD [v] s).1) (AllA (oL c o x (laysD [v] s).2)) F w):=by
 obtain⟨nm1,hd1,xt1,im1,hh1,il1⟩:=wd
 unfold Wd.c
 simp only at hi hl hcF hcV⊢
 subst hi hl
 have hbx:=h.box #[.string ⟨nm1.toArray⟩,(hd1:Int),(xt1:Int),.bool false,.bool hh1,.bool true] 55
 obtain⟨c0,d0,d1,d2⟩:=o_way hbx.tail
 have h0:Blk (W.alloc (.cells #[.string ⟨nm1.toArray⟩,(hd1:Int),(xt1:Int),.bool false,.bool hh1,.bool true] 55)) o.g 101 (readC o x):=hbx.blkAt 1 rfl
 have c1: (W.alloc (.cells #[.string ⟨nm1.toArray⟩,(hd1:Int),(xt1:Int),.bool false,.bool hh1,.bool true] 55)).cell? (o.g,1)=some (x.mode:Vl):=h0.cell 1
 have c4: (W.alloc (.cells #[.string ⟨nm1.toArray⟩,(hd1:Int),(xt1:Int),.bool false,.bool hh1,.bool true] 55)).cell? (o.g,4)=some (.bool true):=by
  have e: (readC o x)[4]? = some (.bool x.comp):=rfl
  rw[hc]at e
  exact(h0.cell 4).trans e
 have hb0:=hbx.blkAt 0 rfl
 have e2:=hb0.cell 2
 have e3:=hb0.cell 3
 have e5:=hb0.cell 5
 have him:=x_image (s:=s) (hbx.drew.blkAt 5 rfl)
 obtain⟨gb,hI⟩:=hbx.drew.img 6 rfl
 have hcl:=i_cell hI x.mode (xt1:Int)
 rw[hcV,hcF]at hcl
 have hly:=λW2 (h2:On F w (AllA (oL c o x s)) W2)=>rd_layBox (cap:=1) (l:=[v]) (h2.box (intsC [v]) 3) hd (λu hu=>by rw[List.mem_singleton.1 hu];exact hv) (by show 1<=1000;omega)
 have htl:=hbx.drew.tail
 have hcs:=λW2 (h:On F w (AllA (BlkA W.heap.size 55 #[.string ⟨nm1.toArray⟩,(hd1:Int),(xt1:Int),.bool false,.bool hh1,.bool true]::oL c o x s)) W2)=>(by
  have h0:Blk W2 o.g 101 (readC o x):=h.blkAt 1 rfl
  have h1:Blk W2 o.gO 94 (outerC c o.wv 0):=h.blkAt 2 rfl
  exact⟨h0.cell 0,h0.cell 1,h1.cell 0,(h.blkAt 0 rfl).cell 2⟩:W2.cell? (o.g,0)=some (o.gO:Vl)∧W2.cell? (o.g,1)=some (x.mode:Vl)∧W2.cell? (o.gO,0)=some (c.gM:Vl)∧W2.cell? (W.heap.size,2)=some ((xt1:Int):Vl))
 have hbd:=hid hbx.drew
 replace hcs:=hid hcs
 replace htl:=hid htl
 replace hcl:=hid hcl
 replace him:=hid him
 replace hly:=hid hly
 generalize laysD [v] s=R at *
 clear hbx hb0 h h0 hI hd hcF hcV hc
 go_enter func70,ntmps70
 go_wp2_with fail
 go_region_held (λw'=>w'.cell? (o.g,0)=some (o.gO:Vl)∧w'.cell? (o.g,1)=some (x.mode:Vl)∧w'.cell? (o.gO,0)=some (c.gM:Vl)∧w'.cell? (W.heap.size,2)=some ((xt1:Int):Vl)) (go_keep)
  ((first
    | (go_at_call 96;refine him.out.mono ?_;rintro e w4 ⟨rfl,rfl⟩;simp only[])
    | (go_at_call 79;refine mo hcl.out λw5 hb5=>?_;simp only[];have hbx5:=hbd.out.below hb5;have⟨y0,y1,y2,y3⟩:=hcs.out _ hbx5;have hly5:=hid (hly.out _ hbx5.tail);have⟨z0,z1,z2,z3⟩:=o_way hbx5.tail;clear hb5 hbx5)))
 go_wp2_with fail
 refine mo hly5.out λw6 h6=>?_
 simp only[]
 replace h6:=hid h6.tail
 go_wp2
 go_ret
 exact⟨rfl,h6.out⟩
end
end Vm
end Go.Proofs.YteaijdgnagkllaaGreatDoor
