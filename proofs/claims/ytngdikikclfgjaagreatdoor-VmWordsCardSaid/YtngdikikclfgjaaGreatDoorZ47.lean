/- Chapter 11: both machines run maker: what Both.goes needs. Conditions: as written. -/
import Derived.Test.YtngdikikclfgjaaGreatDoorZ46
open Go.Proofs.Tryz
namespace Go.Proofs.YtngdikikclfgjaaGreatDoor
set_option linter.unusedVariables false
set_option linter.unusedSimpArgs false
set_option maxHeartbeats 8000000
set_option maxRecDepth 100000
open Go.RowKit Go.Lib Go.Deep
namespace Vm
def Vc.re(c:Vc)(f:Ext->List Asr):Vc:={ c with rest:=f }
def rw3(a:Mw)(b:Bc)(r:Rc):List Asr:=[RowP a.ws [b.gS,b.gK],BlkA b.gP 143 turC,RowK 75 1 a.v2 2 (ptrsC [r.gS,r.gK])]
def srcC(c:Vc)(gs:Nat)(L:List Asr):Vc:=c.re λe=>SrcA gs e.text e.at_::L
def Mt.withText(s:Mt)(T:ByteArray)(i:Nat):Mt:={ s with ext:=⟨T,i⟩ }
section
variable {w W:World}{F:Nat->Prop}{a:Mw}{b:Bc}{r:Rc}{x:Rw}{t:Mt}{T:ByteArray}{m v:Int}{gs gx:Nat}
theorem p_src{A B G M1 M2 M3 M4 M5 M6 M7 M8 RA PA KA:Asr}{L:List Asr}(h:On F w (AllA (B::A::G::M1::M2::M3::M4::M5::M6::M7::M8::RA::PA::KA::L)) W):On F w (AllA (G::M1::M2::M3::M4::M5::M6::M7::M8::A::RA::PA::KA::B::L)) W:=by
 replace h:On F w (AllA (KA::B::A::G::M1::M2::M3::M4::M5::M6::M7::M8::RA::PA::L)) W:=h.front 13 rfl
 replace h:On F w (AllA (PA::KA::B::A::G::M1::M2::M3::M4::M5::M6::M7::M8::RA::L)) W:=h.front 13 rfl
 replace h:On F w (AllA (RA::PA::KA::B::A::G::M1::M2::M3::M4::M5::M6::M7::M8::L)) W:=h.front 13 rfl
 replace h:On F w (AllA (A::RA::PA::KA::B::G::M1::M2::M3::M4::M5::M6::M7::M8::L)) W:=h.front 4 rfl
 replace h:On F w (AllA (M8::A::RA::PA::KA::B::G::M1::M2::M3::M4::M5::M6::M7::L)) W:=h.front 13 rfl
 replace h:On F w (AllA (M7::M8::A::RA::PA::KA::B::G::M1::M2::M3::M4::M5::M6::L)) W:=h.front 13 rfl
 replace h:On F w (AllA (M6::M7::M8::A::RA::PA::KA::B::G::M1::M2::M3::M4::M5::L)) W:=h.front 13 rfl
 replace h:On F w (AllA (M5::M6::M7::M8::A::RA::PA::KA::B::G::M1::M2::M3::M4::L)) W:=h.front 13 rfl
 replace h:On F w (AllA (M4::M5::M6::M7::M8::A::RA::PA::KA::B::G::M1::M2::M3::L)) W:=h.front 13 rfl
 replace h:On F w (AllA (M3::M4::M5::M6::M7::M8::A::RA::PA::KA::B::G::M1::M2::L)) W:=h.front 13 rfl
 replace h:On F w (AllA (M2::M3::M4::M5::M6::M7::M8::A::RA::PA::KA::B::G::M1::L)) W:=h.front 13 rfl
 replace h:On F w (AllA (M1::M2::M3::M4::M5::M6::M7::M8::A::RA::PA::KA::B::G::L)) W:=h.front 13 rfl
 replace h:On F w (AllA (G::M1::M2::M3::M4::M5::M6::M7::M8::A::RA::PA::KA::B::L)) W:=h.front 13 rfl
 exact h
theorem Rep.text{s:Mt}{k:Nat}{cs ds rs:List Int}(h:Rep s k cs ds rs)(T:ByteArray)(i:Nat):Rep (s.withText T i) k cs ds rs:=⟨h.img,h.lay,h.pd,h.pr,h.code,h.d,h.r,h.dle,h.rle,h.dv,h.rv⟩
theorem low_pushR{s:Mt}{cs ds:List Int}{k:Nat}(h:Rep s k cs ds []): (s.pushR [0]).S.Ok∧∀i,i<16960->(s.pushR [0]).S.b.getD i 0=s.S.b.getD i 0:=by
 have e: (s.pushR [0]).S=spush s.S 17088 0 [0]:=by
  show spush s.S s.pr.fr s.r [0]=_
  rw[h.pr,h.r]
  rfl
 rw[e]
 exact spush_low [0] s.S 17088 0 h.img h.lay (.inr ⟨rfl,by simp⟩)
theorem dcs_M{c:Vc}{src:Value}{s:Mt}(hf:c.sfr=16456)(ht:c.sto=16960)(hS:s.S.Ok)(hL:Lay0 s.S)(hd:dS s=dM):Dcs c src s:=by
 have e1:s.hs.toNat=16512:=congrArg Dc.h hd
 have e2:s.ls.toNat=16456:=congrArg Dc.l hd
 refine⟨by omega,by omega,?_⟩
 rw[hd,hf,ht]
 exact at8_at hS hL 16512 16456 (by decide) (by decide) (by decide) (by decide) (by decide)
theorem go_prog(hm:m=1∨m=2)(hv:V64 v)(hT:T.size<=60000)(hE:wdE T 0<=T.size)(L:List Asr):
 ∃q:Rs,q.s.ext= ⟨T,(wOut T).i⟩ ∧Left T v q.s∧q.s.Ok∧Dcs (srcC (endC a b r x) gs L) (.pointer (some ⟨gs,0,none⟩)) q.s∧q.s.seen.length<=4∧q.s.tells=true∧
  ∀W F',(AllA (mL (srcC (endC a b r x) gs L) ((setupM v).mt.withText T 0))).holds W F'->Calls prog 12 #[.pointer (some ⟨b.gM,0,none⟩),.int .i64 m,.int .i64 16472,.int .i64 100,.pointer (some ⟨gs,0,none⟩)] W (Got (.returned (.tuple #[.int .i64 (wOut T).f,.int .i64 (100- (wOut T).left)])) (AllA (mL (srcC (endC a b r x) gs L) q.s)) F' W):=by
 obtain⟨h1,h2,h3,h4,h5⟩:=setupM_rep v hv
 have hR:=h1.text T 0
 have e3: ((setupM v).mt.withText T 0).seen = []:=h3
 have e4: ((setupM v).mt.withText T 0).tells=true:=h4
 have e5:dS ((setupM v).mt.withText T 0)=dM:=h5
 have e6: ((setupM v).mt.withText T 0).ext= ⟨T,0⟩:=rfl
 have e2:HeadM ((setupM v).mt.withText T 0).S:=h2
 generalize (setupM v).mt.withText T 0=s at *
 have hlow:=low_pushR hR
 have hN:Now m ⟨T,0⟩ (s.pushR [0]).S dM [v] 100 16472 ⟨m,100,16472,0,false,false,0⟩ (s.pushR [0]):=⟨⟨0,rfl⟩,hR.pushR1 0 (by unfold V64;omega) (by simp),rfl,e5,e6⟩
 obtain⟨q,q1,q2,q3,q4,q5⟩:=prog_src hm hv rfl (λi hi=>by rw[hlow.2 _ oM];exact e2 i hi) hN hE
 have hK:KwS (srcC (endC a b r x) gs L) (.pointer (some ⟨gs,0,none⟩)) s:=⟨dcs_M rfl rfl hR.img hR.lay e5,gs,L,rfl,λk=>rfl,by rw[e6];exact hT,by rw[e6];exact Nat.zero_le _⟩
 have ht:=tab_word kwS_ok crS_ok 4 (by decide)
 have hroom:1<=s.pr.rm-s.r:=by rw[hR.pr,hR.r];decide
 have hP:KwS (srcC (endC a b r x) gs L) (.pointer (some ⟨gs,0,none⟩)) s∧s.seen.length+4<=4:=⟨hK,by rw[e3];decide⟩
 have hs:=hR.ok
 have hok:=start_ok m 100
 have hg:=goesT_ok ht (srcC (endC a b r x) gs L) (.pointer (some ⟨gs,0,none⟩)) 4 ⟨m,100,16472,0,false,false,0⟩ (s.pushR [0]) q (ht.push 4 _ _ _ [0] hP) (pushR_ok hs [0] hroom) ⟨hok.base,hok.base2,hok.next,by unfold V64;show(-9223372036854775808:Int)<=16472∧(16472:Int)<=9223372036854775807;omega,hok.left,hok.left2⟩ q1
 have hrun:=λW F' (hb: (AllA (mL (srcC (endC a b r x) gs L) s)).holds W F')=>v_runT ht 4 (some ⟨gs,0,none⟩) hb hP hs (by rw[e4];exact end_tell (a:=a) (b:=b) (r:=r) (x:=x)) m 16472 100 (by unfold V64;omega) hroom q q1
 rw[q2,q3]at hrun
 exact⟨q,q4,q5,hg.1,hg.2.2.2.1.1,hg.2.2.2.2,hg.2.2.1.trans e4,hrun⟩
end
section
variable {w W:World}{F:Nat->Prop}{a:Mw}{b:Bc}{r:Rc}{x:Rw}{t:Mt}{T:ByteArray}{m v:Int}{gs gx:Nat}
theorem s_at{g i:Nat}(h:W.cell? (g,1)=some (.int .i64 (i:Int))):Calls prog 38 #[.pointer (some ⟨g,0,none⟩)] W (Same (.int .i64 (i:Int)) W):=by
 go_enter func38,ntmps38
 go_wp2
 go_ret
 exact⟨rfl,rfl⟩
def goC(m:Int)(T:ByteArray):Array Value:=#[.int .i64 m,.int .i64 0,.int .i64 0,.int .i64 100,.bool false,.string T,.bool false]
theorem goes_src(hm:m=1∨m=2)(hv:V64 v)(hT:T.size<=60000)(hE:wdE T 0<=T.size)(hC:0<=wdC T 0)(hx:DocM v x)(hW:b.gW=r.gW)(ht:t= (setupM v).mt)(h:On F w (AllA (mL (endC a b r x) t)) W):
 Calls prog 7 #[.pointer (some ⟨b.gB,0,none⟩),.agg (goC m T)] W (λe w'=>e = .returned (.bool true)∧∃(q:Rs) (gs:Nat) (L:List Asr),Left T v q.s∧q.s.Ok∧Dcs (srcC (endC a b r x) gs L) (.pointer none) q.s∧q.s.seen.length<=4∧q.s.tells=true∧On F w (AllA (mL (srcC (endC a b r x) gs L) q.s)) w'):=by
 have hon0:=h.box (goC m T) 34
 have hbase: ∀W2,On F w (AllA (BlkA W.heap.size 34 (goC m T)::mL (endC a b r x) t)) W2->Calls prog 34 #[.pointer (some ⟨b.gW,0,none⟩)] W2 (λe w'=>e = .returned (.int .i64 16448)∧On F w (AllA (BlkA W.heap.size 34 (goC m T)::mL (endC a b r x) t)) w'):=λW2 h2=>by
  have h3:=w_base (pair_doc h2.tail) hx.made.ok
  rw[hx.made.lay.begs.2.1]at h3
  rw[hW]
  exact h3.mono λe w' ⟨he,hb⟩=>⟨he,h2.below hb⟩
 have hcs: ∀(B:Asr) W2,On F w (AllA (B::mL (endC a b r x) t)) W2->W2.cell? (b.gB,5)=some (.pointer (some ⟨b.gM,0,none⟩))∧W2.cell? (b.gB,6)=some (.pointer (some ⟨b.gW,0,none⟩))∧W2.cell? (b.gW,2)=some (.pointer (some ⟨r.gS,0,none⟩)):=λB W2 h2=>by
  have he:Ends (endC a b r x) b:=end_ends
  obtain⟨p,cap0,z0,z1,z2,z3,z4,z5,z6,z7⟩:=ends_both he h2.tail
  have hw:Blk W2 r.gW 81 (worldC r r.gS a.v2 x.fault x.used x.hidden x.tells):=h2.tail.blkAt 11 rfl
  have d2:=hw.cell 2
  rw[hW]at z6⊢
  exact⟨z5,z6,d2⟩
 have hgo: ∀(L:List Asr) W2,On F w (AllA (BlkA W.heap.size 34 (goC m T)::L)) W2->W2.cell? (W.heap.size,0)=some (.int .i64 m)∧W2.cell? (W.heap.size,1)=some (.int .i64 0)∧W2.cell? (W.heap.size,2)=some (.int .i64 0)∧W2.cell? (W.heap.size,3)=some (.int .i64 100)∧W2.cell? (W.heap.size,4)=some (.bool false)∧W2.cell? (W.heap.size,5)=some (.string T)∧W2.cell? (W.heap.size,6)=some (.bool false):=λL W2 h2=>by
  have hb:Blk W2 W.heap.size 34 (goC m T):=h2.blkAt 0 rfl
  exact⟨hb.cell 0,hb.cell 1,hb.cell 2,hb.cell 3,hb.cell 4,hb.cell 5,hb.cell 6⟩
 have hall: ∀W2,On F w (AllA (BlkA W.heap.size 34 (goC m T)::mL (endC a b r x) t)) W2->Calls prog 35 #[.pointer (some ⟨r.gS,0,none⟩)] W2 (λe w'=> ∃sg cap,e = .returned (.slice (some ⟨sg,0,none⟩) 1 cap)∧w'.cell? (sg,2)=some (.int .i64 16472)∧On F w (AllA (RowW (.slice (some ⟨sg,0,none⟩) 1 cap) [wordM]::BlkA W.heap.size 34 (goC m T)::mL (endC a b r x) t)) w'):=λW2 h2=>by
  have h8:At8 x.S x.D 16456 16960:=by rw[hx.D];exact at8_at hx.made.ok hx.made.lay 16512 16456 (by decide) (by decide) (by decide) (by decide) (by decide)
  have h1:=r_all (pair_rl h2.tail h8)
  rw[words_m hx.made.ok hx.made.lay hx.made.head (by rw[hx.D];rfl) (by rw[hx.D];rfl)]at h1
  have h3:Calls prog 35 #[.pointer (some ⟨r.gS,0,none⟩)] W2 (PostE (λe B=> ∃v,e = .returned v∧B=AllA [RowW v [wordM]]) Nob W2):=h1.mono λe w' ⟨v,he,hon⟩=>⟨_,⟨v,he,rfl⟩,hon⟩
  refine(h2.make h3).mono ?_
  rintro e w' ⟨B,⟨v,rfl,rfl⟩,hon⟩
  have hon2:On F w (AllA (RowW v [wordM]::BlkA W.heap.size 34 (goC m T)::mL (endC a b r x) t)) w':=hon.flat
  obtain⟨F1,hrow⟩:=hon2.at_ 0 rfl
  rcases rowW_form hrow with⟨_,h3⟩ | ⟨sg,cap,rfl,h3⟩
  ·cases h3
  ·exact⟨sg,cap,rfl,h3 0 (by decide) 2 (by decide),hon2⟩
 have hnew: ∀W,Calls prog 36 #[.string T] W (PostE (λe B=> ∃g:Nat,e = .returned (.tuple #[.pointer (some ⟨g,0,none⟩),.int .i64 0])∧B=SrcA g T 0) Nob W):=λW=>(new_walk T hT W).mono λe w' ⟨v,A,F3,⟨g,hv,hA⟩,he,hh,hk,hF⟩=>⟨A,⟨g,by rw[he,hv],hA⟩,F3,hh,hk,hF⟩
 replace hall:=hid hall
 replace hnew:=hid hnew
 replace hbase:=hid hbase
 replace hcs:=hid hcs
 replace hgo:=hid hgo
 replace hon0:=hid hon0
 replace h:=hid h
 replace hx:=hid hx
 replace hW:=hid hW
 replace ht:=hid ht
 show Calls _ _ #[_,.agg #[.int .i64 m,.int .i64 0,.int .i64 0,.int .i64 100,.bool false,.string T,.bool false]] _ _
 go_enter func7,ntmps7
 go_upto_region 1 with fail
 go_cut [] (λwx=>On F w (AllA (BlkA W.heap.size 34 (goC m T)::mL (endC a b r x) t)) wx)
 case first=>
  have z6: (W.alloc (.cells #[.int .i64 m,.int .i64 0,.int .i64 0,.int .i64 100,.bool false,.string T,.bool false] 34)).cell? (b.gB,6)=some (.pointer (some ⟨b.gW,0,none⟩)):=(hcs.out _ _ hon0.out).2.1
  have g2: (W.alloc (.cells #[.int .i64 m,.int .i64 0,.int .i64 0,.int .i64 100,.bool false,.string T,.bool false] 34)).cell? (W.heap.size,2)=some (.int .i64 0):=(hgo.out _ _ hon0.out).2.2.1
  go_region_held (λw'=>w'.cell? (b.gB,6)=some (.pointer (some ⟨b.gW,0,none⟩))∧w'.cell? (W.heap.size,2)=some (.int .i64 0)) (go_keep)
   ((go_at_call 34;refine mo (hbase.out _ (hon0.out.drewN _)) λw3 h3=>?_;simp only[];obtain⟨n5,n6,n2⟩:=hcs.out _ _ h3;obtain⟨j0,j1,j2,j3,j4,j5,j6⟩:=hgo.out _ _ h3;replace h3:=hid h3))
  all_goals go_wp2_with fail
  all_goals go_meet
  all_goals exact h3.out
 case rest=>
 have hon1:=hcut
 have z6:=(hcs.out _ _ hon1).2.1
 have z2:=(hcs.out _ _ hon1).2.2
 have g4:=(hgo.out _ _ hon1).2.2.2.2.1
 have hal:=hall.out _ hon1
 replace hal:=hid hal
 replace hon1:=hid hon1
 clear hcut
 go_wp2_with fail
 refine hal.out.mono ?_
 rintro e w2 ⟨sg,cap,rfl,hsg,hon2⟩
 simp only[]
 have g1:=(hgo.out _ _ hon2.tail).2.1
 have g3:=(hgo.out _ _ hon2.tail).2.2.2.1
 have g5:=(hgo.out _ _ hon2.tail).2.2.2.2.2.1
 have g6:=(hgo.out _ _ hon2.tail).2.2.2.2.2.2
 have hnw:=hon2.tail.make (hnew.out _)
 have hsz:decide ((T.size:Int)<=60000)=true:=decide_eq_true oM
 replace hnw:=hid hnw
 replace hon2:=hid hon2
 clear z6 z2 g4 hal
 go_wp2_with fail
 refine hnw.out.mono ?_
 rintro e w3 ⟨B,⟨gs,rfl,rfl⟩,hon3⟩
 simp only[]
 have g5:=(hgo.out _ _ hon3.tail).2.2.2.2.2.1
 have hon4:=hon3.box (srC T 0) 95
 obtain⟨q,q1,q2,q3,q4,q5,q6,hrun⟩:=go_prog (a:=a) (b:=b) (r:=r) (x:=x) (gs:=gs) hm hv hT hE (rw3 a b r++BlkA w3.heap.size 95 (srC T 0)::docL r r.gS a.v2 x)
 have hon5:On F w (AllA (BlkA W.heap.size 34 (goC m T)::mL (srcC (endC a b r x) gs (rw3 a b r++BlkA w3.heap.size 95 (srC T 0)::docL r r.gS a.v2 x)) ((setupM v).mt.withText T 0))) (w3.alloc (.cells #[.string T,.int .i64 0] 95)):=by
  rw[<-ht.out]
  exact p_src hon4
 generalize (setupM v).mt.withText T 0=t0 at *
 have hrn:=λW2 (h2:On F w (AllA (BlkA W.heap.size 34 (goC m T)::mL (srcC (endC a b r x) gs (rw3 a b r++BlkA w3.heap.size 95 (srC T 0)::docL r r.gS a.v2 x)) t0)) W2)=>h2.callTail λF' hb _ _=>hrun W2 F' hb
 have hcq: ∀(B:Asr) (s2:Mt) W2,On F w (AllA (B::mL (srcC (endC a b r x) gs (rw3 a b r++BlkA w3.heap.size 95 (srC T 0)::docL r r.gS a.v2 x)) s2)) W2->W2.cell? (b.gB,5)=some (.pointer (some ⟨b.gM,0,none⟩))∧W2.cell? (b.gB,6)=some (.pointer (some ⟨b.gW,0,none⟩)):=λB s2 W2 h2=>by
  have he0:Ends (endC a b r x) b:=end_ends
  have he:Ends (srcC (endC a b r x) gs (rw3 a b r++BlkA w3.heap.size 95 (srC T 0)::docL r r.gS a.v2 x)) b:=by
   exact⟨he0.m,he0.i,he0.s,he0.k,he0.t,he0.p,he0.sfr,he0.sto,he0.tl,he0.tell⟩
  obtain⟨p,cap0,y0,y1,y2,y3,y4,y5,y6,y7⟩:=ends_both he h2.tail
  exact⟨y5,y6⟩
 have hdoc: ∀W2,On F w (AllA (BlkA W.heap.size 34 (goC m T)::mL (srcC (endC a b r x) gs (rw3 a b r++BlkA w3.heap.size 95 (srC T 0)::docL r r.gS a.v2 x)) q.s)) W2->
  Calls prog 37 #[.pointer (some ⟨b.gW,0,none⟩),.int .i64 m,.int .i64 16472,.int .i64 100,.pointer (some ⟨w3.heap.size,0,none⟩)] W2 (λe w'=>e = .returned (.tuple #[.int .i64 (wOut T).f,.int .i64 (100- (wOut T).left)])∧
   ∃L',On F w (AllA (BlkA W.heap.size 34 (goC m T)::mL (srcC (endC a b r x) gs (rw3 a b r++L')) q.s)) w'∧w'.cell? (w3.heap.size,1)=some (.int .i64 ((wOut T).i:Int))∧w'.cell? (gs,1)=some (.int .i64 ((wOut T).i:Int))):=λW2 h2=>by
  have h3:On F w (AllA (((BlkA W.heap.size 34 (goC m T)::mL (srcC (endC a b r x) gs (rw3 a b r++BlkA w3.heap.size 95 (srC T 0)::docL r r.gS a.v2 x)) q.s).take 13)++qXL (srP w3.heap.size T 0) r a.v2 x)) W2:=h2
  rw[hW.out]
  refine(On.callTailR (R:=λe L'=>e = .returned (.tuple #[.int .i64 (wOut T).f,.int .i64 (100- (wOut T).left)])∧∃gx y x' sv2 se2,L'=pXL (srP w3.heap.size T (wOut T).i) gx (.pointer (some ⟨w3.heap.size,0,none⟩)) y r a.v2 sv2 x' se2) h3.unflat λF' hb=>(doc_src hm hv hx.out hT hE hC (On.refl hb)).mono λe w' ⟨h4,gx,y,x',sv2,se2,h5⟩=>⟨_,⟨h4,gx,y,x',sv2,se2,rfl⟩,h5⟩).mono ?_
  rintro e w' ⟨L',⟨rfl,gx,y,x',sv2,se2,rfl⟩,h5⟩
  have h6:On F w (AllA (BlkA W.heap.size 34 (goC m T)::mL (srcC (endC a b r x) gs (rw3 a b r++pXL (srP w3.heap.size T (wOut T).i) gx (.pointer (some ⟨w3.heap.size,0,none⟩)) y r a.v2 sv2 x' se2)) q.s)) w':=h5.flat
  have k1:Blk w' w3.heap.size 95 (srC T (wOut T).i):=h6.blkAt 13 rfl
  have k2:Blk w' gs 160 #[.string q.s.ext.text,(q.s.ext.at_:Int),((lfs (q.s.ext.text.data.toList.take q.s.ext.at_):Nat):Int)]:=h6.blkAt 9 rfl
  have c2:=k2.cell 1
  rw[q1]at c2
  exact⟨rfl,_,h6,k1.cell 1,c2⟩
 have hcq2: ∀(B:Asr) (L2:List Asr) (s2:Mt) W2,On F w (AllA (B::mL (srcC (endC a b r x) gs L2) s2)) W2->W2.cell? (b.gB,6)=some (.pointer (some ⟨b.gW,0,none⟩)):=λB L2 s2 W2 h2=>by
  have he0:Ends (endC a b r x) b:=end_ends
  have he:Ends (srcC (endC a b r x) gs L2) b:=⟨he0.m,he0.i,he0.s,he0.k,he0.t,he0.p,he0.sfr,he0.sto,he0.tl,he0.tell⟩
  obtain⟨p,cap0,y0,y1,y2,y3,y4,y5,y6,y7⟩:=ends_both he h2.tail
  exact y6
 replace hdoc:=hid hdoc
 replace hcq2:=hid hcq2
 replace hrn:=hid hrn
 replace hcq:=hid hcq
 replace hon5:=hid hon5
 replace q1:=hid q1
 replace q2:=hid q2
 replace q3:=hid q3
 replace q4:=hid q4
 replace q5:=hid q5
 replace q6:=hid q6
 clear hrun hon4 hon3 hnw g1 g3 g6 hsg
 go_upto_region 18 with fail
 go_cut [12,13] (λt12 t13 wx=>t12 = .int .i64 (wOut T).f∧t13 = .int .i64 (100- (wOut T).left)∧On F w (AllA (BlkA W.heap.size 34 (goC m T)::mL (srcC (endC a b r x) gs (rw3 a b r++BlkA w3.heap.size 95 (srC T 0)::docL r r.gS a.v2 x)) q.s)) wx)
 case first=>
  have y5:=(hcq.out _ _ _ hon5.out).1
  have y0:=(hgo.out _ _ hon5.out).1
  go_region_held (λw'=>w'.cell? (b.gB,5)=some (.pointer (some ⟨b.gM,0,none⟩))∧w'.cell? (W.heap.size,0)=some (.int .i64 m)) (go_keep)
   ((go_at_call 12;refine mo (hrn.out _ (hon5.out.drewN _)) λw4 h4=>?_;simp only[];have n5:=(hcq.out _ _ _ h4).1;have n0:=(hgo.out _ _ h4).1;replace h4:=hid h4))
  all_goals go_wp2_with fail
  all_goals go_meet
  all_goals exact⟨rfl,rfl,h4.out⟩
 case rest=>
 obtain⟨rfl,rfl,hon6⟩:=hcut
 have y6:=(hcq.out _ _ _ hon6).2
 have y0:=(hgo.out _ _ hon6).1
 replace hon6:=hid hon6
 go_upto_region 19 with fail
 go_cut [14,15] (λt14 t15 wx=>t14 = .int .i64 (wOut T).f∧t15 = .int .i64 (100- (wOut T).left)∧∃L',On F w (AllA (BlkA W.heap.size 34 (goC m T)::mL (srcC (endC a b r x) gs (rw3 a b r++L')) q.s)) wx∧wx.cell? (w3.heap.size,1)=some (.int .i64 ((wOut T).i:Int))∧wx.cell? (gs,1)=some (.int .i64 ((wOut T).i:Int)))
 case first=>
  go_region_held (λw'=>w'.cell? (b.gB,6)=some (.pointer (some ⟨b.gW,0,none⟩))∧w'.cell? (W.heap.size,0)=some (.int .i64 m)) (go_keep)
   ((go_at_call 37;refine(hdoc.out _ (hon6.out.drewN _)).mono ?_;rintro e w4 ⟨rfl,L',h4,d1,d2⟩;simp only[];have n6:=hcq2.out _ _ _ _ h4;have n0:=(hgo.out _ _ h4).1;replace h4:=hid h4;replace d1:=hid d1;replace d2:=hid d2))
  all_goals go_wp2_with fail
  all_goals go_meet
  all_goals exact⟨rfl,rfl,L',h4.out,d1.out,d2.out⟩
 case rest=>
 obtain⟨rfl,rfl,L',hon7,d1,d2⟩:=hcut
 have hat:=s_at d2
 have e1: ((wOut T).f== (wOut T).f)=true:=by simp
 have e2: ((100- (wOut T).left) == (100- (wOut T).left))=true:=by simp
 have e3: (((wOut T).i:Int) == ((wOut T).i:Int))=true:=by simp
 replace hat:=hid hat
 replace hon7:=hid hon7
 replace d2:=hid d2
 clear y6 y0 hon6
 go_upto_region 20 with fail
 go_quiet ((go_at_call 38;exact Calls.quiet_of_same (s_at (by assumption))))
 go_wp2
 go_ret
 exact⟨rfl,q,gs,rw3 a b r++L',q2.out,q3.out,⟨q4.out.h,q4.out.l,q4.out.at8⟩,q5.out,q6.out,(hon7.out.drewN _).tail⟩
end
section
variable {w W:World}{F:Nat->Prop}{a:Mw}{b:Bc}{r:Rc}{x:Rw}{t:Mt}{T:ByteArray}{m v:Int}{gs gx:Nat}
theorem go_prog_nil(hm:m=1∨m=2)(hv:V64 v):
 ∃q:Rs,q.s.d=1∧q.s.Ok∧Dcs (endC a b r x) (.pointer none) q.s∧q.s.seen.length<=4∧q.s.tells=true∧
  ∀W F',(AllA (mL (endC a b r x) (setupM v).mt)).holds W F'->Calls prog 12 #[.pointer (some ⟨b.gM,0,none⟩),.int .i64 m,.int .i64 16472,.int .i64 100,.pointer none] W (Got (.returned (.tuple #[.int .i64 15,.int .i64 1])) (AllA (mL (endC a b r x) q.s)) F' W):=by
 obtain⟨hR,e2,e3,e4,e5⟩:=setupM_rep v hv
 generalize (setupM v).mt=s at *
 have hN:Now m s.ext (s.pushR [0]).S dM [v] 100 16472 ⟨m,100,16472,0,false,false,0⟩ (s.pushR [0]):=⟨⟨0,rfl⟩,hR.pushR1 0 (by unfold V64;omega) (by simp),rfl,e5,rfl⟩
 obtain⟨q,q1,q2,q3,q4⟩:=prog_nil hm hN
 have hK:KwN (endC a b r x) (.pointer none) s:=⟨dcs_M rfl rfl hR.img hR.lay e5,rfl⟩
 have ht:=tab_word kwN_ok crN_ok 4 (by decide)
 have hroom:1<=s.pr.rm-s.r:=by rw[hR.pr,hR.r];decide
 have hP:KwN (endC a b r x) (.pointer none) s∧s.seen.length+4<=4:=⟨hK,by rw[e3];decide⟩
 have hs:=hR.ok
 have hok:=start_ok m 100
 have hg:=goesT_ok ht (endC a b r x) (.pointer none) 4 ⟨m,100,16472,0,false,false,0⟩ (s.pushR [0]) q (ht.push 4 _ _ _ [0] hP) (pushR_ok hs [0] hroom) ⟨hok.base,hok.base2,hok.next,by unfold V64;show(-9223372036854775808:Int)<=16472∧(16472:Int)<=9223372036854775807;omega,hok.left,hok.left2⟩ q1
 have hrun:=λW F' (hb: (AllA (mL (endC a b r x) s)).holds W F')=>v_runT ht 4 none hb hP hs (by rw[e4];exact end_tell (a:=a) (b:=b) (r:=r) (x:=x)) m 16472 100 (by unfold V64;omega) hroom q q1
 rw[q2,q3]at hrun
 exact⟨q,q4,hg.1,hg.2.2.2.1.1,hg.2.2.2.2,hg.2.2.1.trans e4,hrun⟩
theorem goes_nil(hm:m=1∨m=2)(hv:V64 v)(hT:60000<T.size)(hx:DocM v x)(hW:b.gW=r.gW)(ht:t= (setupM v).mt)(h:On F w (AllA (mL (endC a b r x) t)) W):
 Calls prog 7 #[.pointer (some ⟨b.gB,0,none⟩),.agg (goC m T)] W (λe w'=>e = .returned (.bool true)∧∃(q:Rs) (f:Ext->List Asr),Left T v q.s∧q.s.d=1∧q.s.Ok∧Dcs ((endC a b r x).re f) (.pointer none) q.s∧q.s.seen.length<=4∧q.s.tells=true∧On F w (AllA (mL ((endC a b r x).re f) q.s)) w'):=by
 have hon0:=h.box (goC m T) 34
 have hbase: ∀W2,On F w (AllA (BlkA W.heap.size 34 (goC m T)::mL (endC a b r x) t)) W2->Calls prog 34 #[.pointer (some ⟨b.gW,0,none⟩)] W2 (λe w'=>e = .returned (.int .i64 16448)∧On F w (AllA (BlkA W.heap.size 34 (goC m T)::mL (endC a b r x) t)) w'):=λW2 h2=>by
  have h3:=w_base (pair_doc h2.tail) hx.made.ok
  rw[hx.made.lay.begs.2.1]at h3
  rw[hW]
  exact h3.mono λe w' ⟨he,hb⟩=>⟨he,h2.below hb⟩
 have hcs: ∀(B:Asr) W2,On F w (AllA (B::mL (endC a b r x) t)) W2->W2.cell? (b.gB,5)=some (.pointer (some ⟨b.gM,0,none⟩))∧W2.cell? (b.gB,6)=some (.pointer (some ⟨b.gW,0,none⟩))∧W2.cell? (b.gW,2)=some (.pointer (some ⟨r.gS,0,none⟩)):=λB W2 h2=>by
  have he:Ends (endC a b r x) b:=end_ends
  obtain⟨p,cap0,z0,z1,z2,z3,z4,z5,z6,z7⟩:=ends_both he h2.tail
  have hw:Blk W2 r.gW 81 (worldC r r.gS a.v2 x.fault x.used x.hidden x.tells):=h2.tail.blkAt 11 rfl
  have d2:=hw.cell 2
  rw[hW]at z6⊢
  exact⟨z5,z6,d2⟩
 have hgo: ∀(L:List Asr) W2,On F w (AllA (BlkA W.heap.size 34 (goC m T)::L)) W2->W2.cell? (W.heap.size,0)=some (.int .i64 m)∧W2.cell? (W.heap.size,1)=some (.int .i64 0)∧W2.cell? (W.heap.size,2)=some (.int .i64 0)∧W2.cell? (W.heap.size,3)=some (.int .i64 100)∧W2.cell? (W.heap.size,4)=some (.bool false)∧W2.cell? (W.heap.size,5)=some (.string T)∧W2.cell? (W.heap.size,6)=some (.bool false):=λL W2 h2=>by
  have hb:Blk W2 W.heap.size 34 (goC m T):=h2.blkAt 0 rfl
  exact⟨hb.cell 0,hb.cell 1,hb.cell 2,hb.cell 3,hb.cell 4,hb.cell 5,hb.cell 6⟩
 have hall: ∀W2,On F w (AllA (BlkA W.heap.size 34 (goC m T)::mL (endC a b r x) t)) W2->Calls prog 35 #[.pointer (some ⟨r.gS,0,none⟩)] W2 (λe w'=> ∃sg cap,e = .returned (.slice (some ⟨sg,0,none⟩) 1 cap)∧w'.cell? (sg,2)=some (.int .i64 16472)∧On F w (AllA (RowW (.slice (some ⟨sg,0,none⟩) 1 cap) [wordM]::BlkA W.heap.size 34 (goC m T)::mL (endC a b r x) t)) w'):=λW2 h2=>by
  have h8:At8 x.S x.D 16456 16960:=by rw[hx.D];exact at8_at hx.made.ok hx.made.lay 16512 16456 (by decide) (by decide) (by decide) (by decide) (by decide)
  have h1:=r_all (pair_rl h2.tail h8)
  rw[words_m hx.made.ok hx.made.lay hx.made.head (by rw[hx.D];rfl) (by rw[hx.D];rfl)]at h1
  have h3:Calls prog 35 #[.pointer (some ⟨r.gS,0,none⟩)] W2 (PostE (λe B=> ∃v,e = .returned v∧B=AllA [RowW v [wordM]]) Nob W2):=h1.mono λe w' ⟨v,he,hon⟩=>⟨_,⟨v,he,rfl⟩,hon⟩
  refine(h2.make h3).mono ?_
  rintro e w' ⟨B,⟨v,rfl,rfl⟩,hon⟩
  have hon2:On F w (AllA (RowW v [wordM]::BlkA W.heap.size 34 (goC m T)::mL (endC a b r x) t)) w':=hon.flat
  obtain⟨F1,hrow⟩:=hon2.at_ 0 rfl
  rcases rowW_form hrow with⟨_,h3⟩ | ⟨sg,cap,rfl,h3⟩
  ·cases h3
  ·exact⟨sg,cap,rfl,h3 0 (by decide) 2 (by decide),hon2⟩
 replace hall:=hid hall
 replace hbase:=hid hbase
 replace hcs:=hid hcs
 replace hgo:=hid hgo
 replace hon0:=hid hon0
 replace h:=hid h
 replace hx:=hid hx
 replace hW:=hid hW
 replace ht:=hid ht
 show Calls _ _ #[_,.agg #[.int .i64 m,.int .i64 0,.int .i64 0,.int .i64 100,.bool false,.string T,.bool false]] _ _
 go_enter func7,ntmps7
 go_upto_region 1 with fail
 go_cut [] (λwx=>On F w (AllA (BlkA W.heap.size 34 (goC m T)::mL (endC a b r x) t)) wx)
 case first=>
  have z6: (W.alloc (.cells #[.int .i64 m,.int .i64 0,.int .i64 0,.int .i64 100,.bool false,.string T,.bool false] 34)).cell? (b.gB,6)=some (.pointer (some ⟨b.gW,0,none⟩)):=(hcs.out _ _ hon0.out).2.1
  have g2: (W.alloc (.cells #[.int .i64 m,.int .i64 0,.int .i64 0,.int .i64 100,.bool false,.string T,.bool false] 34)).cell? (W.heap.size,2)=some (.int .i64 0):=(hgo.out _ _ hon0.out).2.2.1
  go_region_held (λw'=>w'.cell? (b.gB,6)=some (.pointer (some ⟨b.gW,0,none⟩))∧w'.cell? (W.heap.size,2)=some (.int .i64 0)) (go_keep)
   ((go_at_call 34;refine mo (hbase.out _ (hon0.out.drewN _)) λw3 h3=>?_;simp only[];obtain⟨n5,n6,n2⟩:=hcs.out _ _ h3;obtain⟨j0,j1,j2,j3,j4,j5,j6⟩:=hgo.out _ _ h3;replace h3:=hid h3))
  all_goals go_wp2_with fail
  all_goals go_meet
  all_goals exact h3.out
 case rest=>
 have hon1:=hcut
 have z6:=(hcs.out _ _ hon1).2.1
 have z2:=(hcs.out _ _ hon1).2.2
 have g4:=(hgo.out _ _ hon1).2.2.2.2.1
 have hal:=hall.out _ hon1
 replace hal:=hid hal
 replace hon1:=hid hon1
 clear hcut
 go_wp2_with fail
 refine hal.out.mono ?_
 rintro e w2 ⟨sg,cap,rfl,hsg,hon2⟩
 simp only[]
 have g1:=(hgo.out _ _ hon2.tail).2.1
 have g3:=(hgo.out _ _ hon2.tail).2.2.2.1
 have g5:=(hgo.out _ _ hon2.tail).2.2.2.2.2.1
 have g6:=(hgo.out _ _ hon2.tail).2.2.2.2.2.2
 have hsz:decide ((T.size:Int)<=60000)=false:=decide_eq_false oM
 obtain⟨q,q2,q3,q4,q5,q6,hrun⟩:=go_prog_nil (a:=a) (b:=b) (r:=r) (x:=x) hm hv
 rw[<-ht.out]at hrun
 have hrn:=λW2 (h2:On F w (AllA (BlkA W.heap.size 34 (goC m T)::mL (endC a b r x) t)) W2)=>h2.callTail λF' hb _ _=>hrun W2 F' hb
 have hdoc: ∀W2,On F w (AllA (BlkA W.heap.size 34 (goC m T)::mL (endC a b r x) q.s)) W2->
  Calls prog 37 #[.pointer (some ⟨b.gW,0,none⟩),.int .i64 m,.int .i64 16472,.int .i64 100,.pointer none] W2 (λe w'=>e = .returned (.tuple #[.int .i64 15,.int .i64 1])∧∃L',On F w (AllA (BlkA W.heap.size 34 (goC m T)::mL ((endC a b r x).re λ_=>rw3 a b r++L') q.s)) w'):=λW2 h2=>by
  have h3:On F w (AllA (((BlkA W.heap.size 34 (goC m T)::mL (endC a b r x) q.s).take 12)++qXL none r a.v2 x)) W2:=h2
  rw[hW.out]
  refine(On.callTailR (R:=λe L'=>e = .returned (.tuple #[.int .i64 15,.int .i64 1])∧∃gx y x' sv2 se2,L'=pXL none gx (.pointer none) y r a.v2 sv2 x' se2) h3.unflat λF' hb=>(doc_nil hm hx.out (On.refl hb)).mono λe w' ⟨h4,gx,y,x',sv2,se2,h5⟩=>⟨_,⟨h4,gx,y,x',sv2,se2,rfl⟩,h5⟩).mono ?_
  rintro e w' ⟨L',⟨rfl,gx,y,x',sv2,se2,rfl⟩,h5⟩
  exact⟨rfl,pXL none gx (.pointer none) y r a.v2 sv2 x' se2,h5.flat⟩
 have hcq2: ∀(B:Asr) (f:Ext->List Asr) (s2:Mt) W2,On F w (AllA (B::mL ((endC a b r x).re f) s2)) W2->W2.cell? (b.gB,5)=some (.pointer (some ⟨b.gM,0,none⟩))∧W2.cell? (b.gB,6)=some (.pointer (some ⟨b.gW,0,none⟩)):=λB f s2 W2 h2=>by
  have he0:Ends (endC a b r x) b:=end_ends
  have he:Ends ((endC a b r x).re f) b:=⟨he0.m,he0.i,he0.s,he0.k,he0.t,he0.p,he0.sfr,he0.sto,he0.tl,he0.tell⟩
  obtain⟨p,cap0,y0,y1,y2,y3,y4,y5,y6,y7⟩:=ends_both he h2.tail
  exact⟨y5,y6⟩
 have hcq: ∀(B:Asr) (s2:Mt) W2,On F w (AllA (B::mL (endC a b r x) s2)) W2->W2.cell? (b.gB,5)=some (.pointer (some ⟨b.gM,0,none⟩))∧W2.cell? (b.gB,6)=some (.pointer (some ⟨b.gW,0,none⟩)):=λB s2 W2 h2=>hcq2 B (endC a b r x).rest s2 W2 h2
 have hon5:=hon2.tail
 replace hdoc:=hid hdoc
 replace hcq2:=hid hcq2
 replace hrn:=hid hrn
 replace hcq:=hid hcq
 replace hon5:=hid hon5
 replace q2:=hid q2
 replace q3:=hid q3
 replace q4:=hid q4
 replace q5:=hid q5
 replace q6:=hid q6
 clear hrun z6 z2 g4 hal hon2
 go_upto_region 18 with fail
 go_cut [12,13] (λt12 t13 wx=>t12 = .int .i64 15∧t13 = .int .i64 1∧On F w (AllA (BlkA W.heap.size 34 (goC m T)::mL (endC a b r x) q.s)) wx)
 case first=>
  have y5:=(hcq.out _ _ _ hon5.out).1
  have y0:=(hgo.out _ _ hon5.out).1
  go_region_held (λw'=>w'.cell? (b.gB,5)=some (.pointer (some ⟨b.gM,0,none⟩))∧w'.cell? (W.heap.size,0)=some (.int .i64 m)) (go_keep)
   ((go_at_call 12;refine mo (hrn.out _ (hon5.out.drewN _)) λw4 h4=>?_;simp only[];have n5:=(hcq.out _ _ _ h4).1;have n0:=(hgo.out _ _ h4).1;replace h4:=hid h4))
  all_goals go_wp2_with fail
  all_goals go_meet
  all_goals exact⟨rfl,rfl,h4.out⟩
 case rest=>
 obtain⟨rfl,rfl,hon6⟩:=hcut
 have y6:=(hcq.out _ _ _ hon6).2
 have y0:=(hgo.out _ _ hon6).1
 replace hon6:=hid hon6
 go_upto_region 19 with fail
 go_cut [14,15] (λt14 t15 wx=>t14 = .int .i64 15∧t15 = .int .i64 1∧∃L',On F w (AllA (BlkA W.heap.size 34 (goC m T)::mL ((endC a b r x).re λ_=>rw3 a b r++L') q.s)) wx)
 case first=>
  go_region_held (λw'=>w'.cell? (b.gB,6)=some (.pointer (some ⟨b.gW,0,none⟩))∧w'.cell? (W.heap.size,0)=some (.int .i64 m)) (go_keep)
   ((go_at_call 37;refine(hdoc.out _ (hon6.out.drewN _)).mono ?_;rintro e w4 ⟨rfl,L',h4⟩;simp only[];have n6:=(hcq2.out _ _ _ _ h4).2;have n0:=(hgo.out _ _ h4).1;replace h4:=hid h4))
  all_goals go_wp2_with fail
  all_goals go_meet
  all_goals exact⟨rfl,rfl,L',h4.out⟩
 case rest=>
 obtain⟨rfl,rfl,L',hon7⟩:=hcut
 replace hon7:=hid hon7
 clear y6 y0 hon6
 go_upto_region 20 with fail
 go_quiet (fail)
 go_wp2
 go_ret
 exact⟨rfl,q,(λ_=>rw3 a b r++L'),.cell q2.out,q2.out,q3.out,⟨q4.out.h,q4.out.l,q4.out.at8⟩,q5.out,q6.out,(hon7.out.drewN _).tail⟩
end
end Vm
end Go.Proofs.YtngdikikclfgjaaGreatDoor
