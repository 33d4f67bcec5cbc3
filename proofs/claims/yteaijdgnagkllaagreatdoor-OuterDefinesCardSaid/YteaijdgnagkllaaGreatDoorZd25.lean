/- Chapter 8: the head at an address, in the program's wordlist. Conditions: as written. -/
import Derived.Test.YteaijdgnagkllaaGreatDoorZd23
open Go.Proofs.Tryz
namespace Go.Proofs.YteaijdgnagkllaaGreatDoor
set_option linter.unusedVariables false
set_option linter.unusedSimpArgs false
set_option maxHeartbeats 8000000
set_option maxRecDepth 100000
open Go.RowKit Go.Lib Go.Deep Go.Maps
namespace Vm
def Wd.c(x:Wd):Array Value:=#[.string ⟨x.name.toArray⟩,(x.head:Int),(x.xt:Int),.bool x.imm,.bool x.hid,.bool x.inl]
def noWd:Array Value:=#[.string ⟨#[]⟩,(0:Int),(0:Int),.bool false,.bool false,.bool false]
def headV:Option (Wd×Int)->Value
 | none=> .tuple #[.agg noWd,(0:Int),.bool false]
 | some (x,n)=> .tuple #[.agg x.c,n,.bool true]
theorem tmod8(a:Int):a.tmod 8=0↔a % 8=0:=by
 rw[<-Int.dvd_iff_tmod_eq_zero,Int.dvd_iff_emod_eq_zero]
section
variable {w w1:World}{F:Nat->Prop}{g gI gb fr en:Nat}{D:Dc}{S:Img}
theorem head_out(hs:Blk w g 146 (dictC gI fr en (D.h:Int) (D.l:Int)))(hen:en<=143360)(hfe:fr<=en)(a:Int)(ha:V64 a)(ho:a % 8≠0∨a<fr∨(en:Int) <a+16):
 Calls prog 126 #[g,a] w (Quiet (headV none) w):=by
 have c1:w.cell? (g,1)=some ((fr:Int):Vl):=hs.cell 1
 have c2:w.cell? (g,2)=some ((en:Int):Vl):=hs.cell 2
 have hlt:=hs.lt
 clear hs
 unfold V64 at ha
 obtain⟨ha1,ha2⟩:=ha
 have hz: (w.alloc (.cells noWd 55)).cell? (w.heap.size,0)=some (.string ⟨#[]⟩):=(Blk.new w 55 noWd).cell 0
 by_cases h0:a % 8≠0
 ·have t1: (a.tmod 8 != 0)=true:=by rw[bne_iff_ne,ne_eq,tmod8];exact h0
  have t2: (a % 8 != 0)=true:=by rw[bne_iff_ne];exact h0
  clear h0 ho hz
  go_enter func126,ntmps126
  go_wp2
  exact bodyPost_ret (v:=headV none) (by simp[results,results126,go_sem,headV,noWd]) rfl ⟨rfl,(Below.refl _ _).alloc (Nat.le_refl _) _⟩
 ·have h0':a % 8=0:=by omega
  by_cases h1:a<fr
  ·by_cases hn:0<=a
   ·have t1: (a % 8 != 0)=false:=by rw[bne_eq_false_iff_eq];exact h0'
    clear h0 ho h0' hz
    go_enter func126,ntmps126
    go_wp2
    exact bodyPost_ret (v:=headV none) (by simp[results,results126,go_sem,headV,noWd]) rfl ⟨rfl,(Below.refl _ _).alloc (Nat.le_refl _) _⟩
   ·have t1: (a.tmod 8 != 0)=false:=by rw[bne_eq_false_iff_eq,tmod8];exact h0'
    clear h0 ho h0' hz
    go_enter func126,ntmps126
    go_wp2
    exact bodyPost_ret (v:=headV none) (by simp[results,results126,go_sem,headV,noWd]) rfl ⟨rfl,(Below.refl _ _).alloc (Nat.le_refl _) _⟩
  ·have h2: (en:Int) <a+16:=by omega
   have t1: (a % 8 != 0)=false:=by rw[bne_eq_false_iff_eq];exact h0'
   have t3:decide ((en:Int) -16<a)=true:=decide_eq_true oM
   clear h0 ho h0' hz
   go_enter func126,ntmps126
   go_wp2
   exact bodyPost_ret (v:=headV none) (by simp[results,results126,go_sem,headV,noWd]) rfl ⟨rfl,(Below.refl _ _).alloc (Nat.le_refl _) _⟩
end
def intE:Value->Option (Dt×List MemPlace)
 | .int .i64 x=>some (.lit (.int .i64 x),[])
 | _=>none
theorem zeroInt(w:World): (zeroValue 3).run prog w = .ok (.int .i64 0) w:=by kernel_rfl
theorem u8K:Keyed prog 5:=Go.Maps.int_keyed underlying5
def flF(b:UInt8)(j:Nat):Lit->Option Dt
 | .int .u8 n=>if(n=32∧1<=j)∨(n=64∧2<=j)∨(n=128∧3<=j)then some (.lit (.int .i64 (bits .and .u8 (b.toNat:Int) n)))else none
 | _=>none
def bitOf:Nat->Int
 | 0=>32
 | 1=>64
 | _=>128
theorem flF_upd(b:UInt8)(j:Nat)(hj:j<3):Upd (flF b j) (flF b (j+1)) (.int .u8 (bitOf j)) (.lit (.int .i64 (bits .and .u8 (b.toNat:Int) (bitOf j)))):=by
 have h3:j=0∨j=1∨j=2:=by omega
 refine⟨?_,λk' hk'=> ?_⟩
 ·rcases h3 with rfl|rfl|rfl<;>simp[flF,bitOf]
 ·cases k'<;>try rfl
  rename_i q n
  cases q<;>try rfl
  have hn:n≠bitOf j:=λe=>hk' (by rw[e])
  unfold flF
  rcases h3 with rfl|rfl|rfl<;>simp[bitOf]at hn⊢ <;> simp[hn]
theorem fl_bits: ∀b:Fin 256,(bits .and .u8 (b.val:Int) 32 != 0)= (b.val/32 % 2==1)∧(bits .and .u8 (b.val:Int) 64 != 0)= (b.val/64 % 2==1)∧(bits .and .u8 (b.val:Int) 128 != 0)= (b.val/128==1)∧
 (0<=bits .and .u8 (b.val:Int) 32∧bits .and .u8 (b.val:Int) 32<=255)∧(0<=bits .and .u8 (b.val:Int) 64∧bits .and .u8 (b.val:Int) 64<=255)∧(0<=bits .and .u8 (b.val:Int) 128∧bits .and .u8 (b.val:Int) 128<=255):=by decide +kernel
theorem and31: ∀b:Fin 256,bits .and .i64 (b.val:Int) 31= ((b.val % 32:Nat):Int):=by decide +kernel
theorem On.put6{w w':World}{F:Nat->Prop}{L:List Asr}{b:Nat}{t:TypeId}{a0 a1 a2 a3 a4 a5:Value}(h:On F w (AllA (BlkA b t #[a0,a1,a2,a3,a4,a5]::L)) w')(y0 y1 y2 y3 y4 y5:Value):
 On F w (AllA (BlkA b t #[y0,y1,y2,y3,y4,y5]::L)) ((((((w'.setCell (b,0) y0).setCell (b,1) y1).setCell (b,2) y2).setCell (b,3) y3).setCell (b,4) y4).setCell (b,5) y5):=
 (((((h.setAt 0 rfl 0 y0).setAt 0 rfl 1 y1).setAt 0 rfl 2 y2).setAt 0 rfl 3 y3).setAt 0 rfl 4 y4).setAt 0 rfl 5 y5
theorem On.six{w w':World}{F:Nat->Prop}{L:List Asr}{b:Nat}{t:TypeId}{a0 a1 a2 a3 a4 a5:Value}(h:On F w (AllA (BlkA b t #[a0,a1,a2,a3,a4,a5]::L)) w'):
 w'.cell? (b,0)=some a0∧w'.cell? (b,1)=some a1∧w'.cell? (b,2)=some a2∧w'.cell? (b,3)=some a3∧w'.cell? (b,4)=some a4∧w'.cell? (b,5)=some a5∧∀i,w'.frozen? ⟨b,i,none⟩=false:=by
 have hb:=h.blkAt 0 rfl
 exact⟨hb.cell 0,hb.cell 1,hb.cell 2,hb.cell 3,hb.cell 4,hb.cell 5,λi=>hb.frozen i⟩
theorem head_ret{w w':World}{F:Nat->Prop}{L:List Asr}{b:Nat}{t:TypeId}{a0 a1 a2 a3 a4 a5:Value}(h:On F w (AllA (BlkA b t #[a0,a1,a2,a3,a4,a5]::L)) w')(tm:Array Value)(v5 v6:Value)(h4:tm.getD 4 undef = .pointer b)(h5:tm.getD 5 undef=v5)(h6:tm.getD 6 undef=v6):
 (results Tryz.f126 tm).run prog w' = .ok (.tuple #[.agg #[a0,a1,a2,a3,a4,a5],v5,v6]) w':=by
 obtain⟨c0,c1,c2,c3,c4,c5,_⟩:=h.six
 subst h5 h6
 have h4':tm[4]?.getD undef = .pointer b:=by simpa using h4
 simp[results,results126,go_sem,h4',c0,c1,c2,c3,c4,c5]
theorem MapG.storeA{w:World}{F:Nat->Prop}{K t e:TypeId}{R:Value->Option (Dt×List MemPlace)}{b n:Nat}{f:Lit->Option Dt}(h: (MapG K R b n f).holds w F)(Kd:Maps.Keyed prog K)(ht:prog.underlying t=some (.map K e))(hn:n<maxLen){key val:Value}{kl:Lit}{d:Dt}{ps:List MemPlace}
 (hkey:keyOf prog K key=some kl) (hv:R val=some (d,ps)) {f':Lit->Option Dt} (hu:Upd f f' kl d): ∃w',(Instr.mapUpdate t (.map (some b)) key val).run prog w = .ok () w'∧∀F',(MapG K R b n f).holds w F'->On F' w (MapG K R b (n+1) f') w':=by
 obtain⟨w',h5,h6,h7⟩:=MapG.store h Kd ht hn hkey hv hu
 exact⟨w',h5,λF' hF'=>⟨F',⟨h6.1,hF'.2⟩,h7.mono λk hk=>(hF'.2 k).2 ((h6.2 k).1 hk),λ_ h=> .inl h⟩⟩
theorem fl_key(n:Int)(h: (Lit.int .u8 n).wf=true):keyOf prog 5 (.int .u8 n)=some (.int .u8 n):=Go.Maps.keyOf_int_mk underlying5 h
theorem fl_store{w:World}{F:Nat->Prop}{mb:Nat}(bc:UInt8)(j:Nat)(hj:j<3)(h: (MapG 5 intE mb j (flF bc j)).holds w F):
 ∃w',(Instr.mapUpdate 273 (.map (some mb)) (.int .u8 (bitOf j)) (.int .i64 (bits .and .u8 (bc.toNat:Int) (bitOf j)))).run prog w = .ok () w'∧∀F',(MapG 5 intE mb j (flF bc j)).holds w F'->On F' w (MapG 5 intE mb (j+1) (flF bc (j+1))) w':=
 MapG.storeA h u8K underlying273 (by unfold maxLen;omega) (fl_key _ (by
  have h3:j=0∨j=1∨j=2:=by omega
  rcases h3 with rfl|rfl|rfl<;>rfl)) rfl (flF_upd bc j hj)
theorem intE_inv{v:Value}{x:Int}{ps:List MemPlace}(h:intE v=some (.lit (.int .i64 x),ps)):v = .int .i64 x:=by
 unfold intE at h
 split at h
 ·injection h with h
  injection h with h _
  injection h with h
  injection h with _ h
  rw[h]
 ·cases h
theorem fl_look{w:World}{F:Nat->Prop}{mb:Nat}(bc:UInt8)(n:Int)(hn:n=32∨n=64∨n=128)(h: (MapG 5 intE mb 3 (flF bc 3)).holds w F):
 (Instr.lookup 273 (.map (some mb)) (.int .u8 n) false).run prog w = .ok (.int .i64 (bits .and .u8 (bc.toNat:Int) n)) w:=by
 have hk:=fl_key n (by rcases hn with rfl|rfl|rfl<;>rfl)
 obtain⟨v,ps,h1,h2⟩:=MapG.look1 h u8K underlying273 (zeroInt w) (zd:= .lit (.int .i64 0)) rfl hk
 have hf:flF bc 3 (.int .u8 n)=some (.lit (.int .i64 (bits .and .u8 (bc.toNat:Int) n))):=by
  rcases hn with rfl|rfl|rfl<;>simp[flF]
 rw[hf]at h2
 rw[h1,intE_inv h2]
section
variable {w w1:World}{F:Nat->Prop}{g gI gb fr en:Nat}{D:Dc}{S:Img}
structure HeadIn(w:World)(g gI fr en p:Nat)(S:Img)(bc:UInt8)(next:Int):Prop where
 c0: ∀w1,Below w.heap.size w w1->w1.cell? (g,0)=some (gI:Vl)
 c1: ∀w1,Below w.heap.size w w1->w1.cell? (g,1)=some ((fr:Int):Vl)
 c2: ∀w1,Below w.heap.size w w1->w1.cell? (g,2)=some ((en:Int):Vl)
 cell: ∀w1,Below w.heap.size w w1->Calls prog 79 #[gI,(0:Int),(p:Int)] w1 λe w'=>e = .returned (.tuple #[next,(0:Int)])∧Below w1.heap.size w1 w'
 byte: ∀w1,Below w.heap.size w w1->Calls prog 175 #[gI,(0:Int),((p:Int) +8:Int)] w1 (Same (.tuple #[.int .u8 (bc.toNat:Int),(0:Int)]) w1)
 text: ∀w1,Below w.heap.size w w1->Calls prog 22 #[gI,(0:Int),((p:Int) +9:Int),((bc.toNat % 32:Nat):Int)] w1 (Same (.tuple #[.string (S.text 0 ((p:Int) +9) ((bc.toNat % 32:Nat):Int)),(S.textF 0 ((p:Int) +9) ((bc.toNat % 32:Nat):Int))]) w1)
theorem head_in(hs:Blk w g 146 (dictC gI fr en (D.h:Int) (D.l:Int)))(hi:IRep w gI gb S)(h8:At8 S D fr en)(p:Nat)(h1:fr<=p)(h2:p+16<=en)(h3:p % 8=0):
 HeadIn w g gI fr en p S (S.b.getD (p+8) 0) (ofB ((S.b.drop p).take 8)):=by
 have hbl: ∀w1,Below w.heap.size w w1->Blk w1 g 146 (dictC gI fr en (D.h:Int) (D.l:Int)):=λw1 hb=>hs.below hb hs.lt
 have hir: ∀w1,Below w.heap.size w w1->IRep w1 gI gb S:=λw1 hb=>⟨hi.blk.below hb hi.blk.lt,hi.row.below hb hi.row.lt,hi.ok⟩
 have hc:S.cellF 0 (p:Int) false=0:=by
  unfold Img.cellF
  rw[h8.ok.rowOk p 8 (by rw[h8.fr];exact h1) (by rw[h8.lim];omega) oM false,if_neg oM]
  rfl
 have hv:S.cellV 0 (p:Int)=ofB ((S.b.drop p).take 8):=by
  unfold Img.cellV
  rw[if_pos hc]
  rfl
 have hbr:=h8.ok.byteR (p+8) (by rw[h8.fr];omega) (by rw[h8.lim];omega)
 rw[show((p+8:Nat):Int)= (p:Int) +8 by omega]at hbr
 refine⟨λw1 hb=>(hbl w1 hb).cell 0,λw1 hb=>(hbl w1 hb).cell 1,λw1 hb=>(hbl w1 hb).cell 2,λw1 hb=> ?_,λw1 hb=> ?_,λw1 hb=> ?_⟩
 ·have h:=i_cell (hir w1 hb) 0 (p:Int)
  rw[hc,hv]at h
  exact h
 ·have h:=i_byte (hir w1 hb) 0 ((p:Int) +8)
  rw[hbr.1,hbr.2]at h
  exact h
 ·exact i_text (hir w1 hb) 0 ((p:Int) +9) _ oM
theorem head_zero(p:Nat)(bc:UInt8)(next:Int)(h:HeadIn w g gI fr en p S bc next)(h1:fr<=p)(h2:p+16<=en)(h3:p % 8=0)(hen:en<=143360)(h0:bc.toNat % 32=0):
 Calls prog 126 #[g,(p:Int)] w (Quiet (headV none) w):=by
 have hon:=(On.refl (A:=AllA []) (F:=Nob) (w:=w) (λ_ h=>h)).box noWd 55
 have c1:=h.c1 _ hon.outB
 have c2:=h.c2 _ hon.outB
 have c0:=h.c0 _ hon.outB
 have hce:=h.cell _ hon.outB
 have t1: ((p:Int) % 8 != 0)=false:=by rw[bne_eq_false_iff_eq];omega
 have ha:=and31 ⟨bc.toNat,bc.toNat_lt⟩
 simp only[h0]at ha
 unfold noWd at hon c0 c1 c2 hce
 have hbc: (bc.toNat:Int)<=255:=by have:=bc.toNat_lt;omega
 replace h:=hid h
 replace hon:=hid hon
 replace hce:=hid hce
 clear h0
 go_enter func126,ntmps126
 go_wp2_with fail
 refine mo hce.out λw1 hb1=>?_
 have hon1:=hon.out.below hb1
 have hby:=h.out.byte _ hon1.outB
 replace c0:=h.out.c0 _ hon1.outB
 replace c2:=h.out.c2 _ hon1.outB
 replace hon1:=hid hon1
 replace hby:=hid hby
 clear hb1
 go_wp2_with fail
 refine hby.out.mono ?_
 rintro e w2 ⟨rfl,rfl⟩
 have hbx:=hon1.out.blkAt 0 rfl
 have z0:=hbx.cell 0
 have z1:=hbx.cell 1
 have z2:=hbx.cell 2
 have z3:=hbx.cell 3
 have z4:=hbx.cell 4
 have z5:=hbx.cell 5
 clear hbx
 go_wp2_with fail
 go_quiet (fail)
 have hon2:=hon1.out.drewN nq
 obtain⟨w3,hw3⟩: ∃w3,w2.drewN nq=w3:=⟨_,rfl⟩
 rw[hw3]at hon2⊢
 clear z0 z1 z2 z3 z4 z5 hw3 hon1 hon
 obtain⟨z0,z1,z2,z3,z4,z5,zf⟩:=hon2.six
 have hfin:=hon2.put6 (.string ⟨#[]⟩) (.int .i64 0) (.int .i64 0) (.bool false) (.bool false) (.bool false)
 replace hon2:=hid hon2
 replace hfin:=hid hfin
 go_wp2
 exact bodyPost_ret (v:=headV none) (head_ret hfin.out _ _ _ rfl rfl rfl) rfl ⟨rfl,hfin.out.outB⟩
theorem head_far(p:Nat)(bc:UInt8)(next:Int)(h:HeadIn w g gI fr en p S bc next)(h1:fr<=p)(h2:p+16<=en)(h3:p % 8=0)(hen:en<=143360)(h0:bc.toNat % 32≠0)(hfar:en<up (p+9+bc.toNat % 32)):
 Calls prog 126 #[g,(p:Int)] w (Quiet (headV none) w):=by
 have hon:=(On.refl (A:=AllA []) (F:=Nob) (w:=w) (λ_ h=>h)).box noWd 55
 have c1:=h.c1 _ hon.outB
 have c2:=h.c2 _ hon.outB
 have c0:=h.c0 _ hon.outB
 have hce:=h.cell _ hon.outB
 have t1: ((p:Int) % 8 != 0)=false:=by rw[bne_eq_false_iff_eq];omega
 have ha:=and31 ⟨bc.toNat,bc.toNat_lt⟩
 simp only at ha
 unfold noWd at hon c0 c1 c2 hce
 have hbc: (bc.toNat:Int)<=255:=by have:=bc.toNat_lt;omega
 obtain⟨n,hn⟩: ∃n:Nat,bc.toNat % 32=n:=⟨_,rfl⟩
 have hn31:n<=31:=by omega
 have hn0:n≠0:=by rw[<-hn];exact h0
 have hnz: ((n:Int) ==0)=false:=by rw[beq_eq_false_iff_ne];omega
 rw[hn]at ha hfar
 have hup:=λw=>d_up (p+9+n) oM w
 rw[show((p+9+n:Nat):Int)= (p:Int) +9+ (n:Int)by omega]at hup
 replace hup:=hid hup
 replace hn:=hid hn
 have hw1:IntKind.i64.wrap ((p:Int) +9)= (p:Int) +9:=IntWalk.i64_in _ oM
 have hw2:IntKind.i64.wrap ((p:Int) +9+ (n:Int))= (p:Int) +9+ (n:Int):=IntWalk.i64_in _ oM
 have hu2:=up_ge (p+9+n)
 have hd16:decide ((en:Int) -16< (p:Int))=false:=decide_eq_false oM
 generalize up (p+9+n)=u at *
 replace h:=hid h
 replace hon:=hid hon
 replace hce:=hid hce
 clear h0
 go_enter func126,ntmps126
 go_wp2_with fail
 refine mo hce.out λw1 hb1=>?_
 have hon1:=hon.out.below hb1
 have hby:=h.out.byte _ hon1.outB
 clear c0 c1 c2
 have c0:=h.out.c0 _ hon1.outB
 have c2:=h.out.c2 _ hon1.outB
 replace hon1:=hid hon1
 replace hby:=hid hby
 clear hb1
 go_wp2_with fail
 refine hby.out.mono ?_
 rintro e w2 ⟨rfl,rfl⟩
 go_wp2_with fail
 go_quiet ((go_at_call 129;exact Calls.quiet_of_same (hup.out _)))
 have hon2:=hon1.out.drewN nq
 obtain⟨w3,hw3⟩: ∃w3,w2.drewN nq=w3:=⟨_,rfl⟩
 rw[hw3]at hon2⊢
 clear hw3 hon1 hon c0 c2
 obtain⟨z0,z1,z2,z3,z4,z5,zf⟩:=hon2.six
 have hfin:=hon2.put6 (.string ⟨#[]⟩) (.int .i64 0) (.int .i64 0) (.bool false) (.bool false) (.bool false)
 replace hon2:=hid hon2
 replace hfin:=hid hfin
 go_wp2
 exact bodyPost_ret (v:=headV none) (head_ret hfin.out _ _ _ rfl rfl rfl) rfl ⟨rfl,hfin.out.outB⟩
theorem head_good(p:Nat)(bc:UInt8)(next:Int)(h:HeadIn w g gI fr en p S bc next)(h1:fr<=p)(h2:p+16<=en)(h3:p % 8=0)(hen:en<=143360)(h0:bc.toNat % 32≠0)(hfar: ¬en<up (p+9+bc.toNat % 32))(nm:ByteArray)(hnm:S.text 0 ((p:Int) +9) ((bc.toNat % 32:Nat):Int)=nm):
 Calls prog 126 #[g,(p:Int)] w (Quiet (headV (some (⟨nm.data.toList,p,up (p+9+bc.toNat % 32),bc.toNat/64 % 2==1,bc.toNat/32 % 2==1,bc.toNat/128==1⟩,next))) w):=by
 rw[show headV (some (⟨nm.data.toList,p,up (p+9+bc.toNat % 32),bc.toNat/64 % 2==1,bc.toNat/32 % 2==1,bc.toNat/128==1⟩,next))= .tuple #[.agg #[.string nm,(p:Int),((up (p+9+bc.toNat % 32):Nat):Int),.bool (bc.toNat/64 % 2==1),.bool (bc.toNat/32 % 2==1),.bool (bc.toNat/128==1)],next,.bool true]from rfl]
 have htx:=λw1 hb=>h.text w1 hb
 rw[hnm]at htx
 generalize S.textF 0 ((p:Int) +9) ((bc.toNat % 32:Nat):Int)=tf at *
 obtain⟨f1,f2,f3,⟨f4,f5⟩,⟨f6,f7⟩,f8,f9⟩:=fl_bits ⟨bc.toNat,bc.toNat_lt⟩
 simp only at f1 f2 f3 f4 f5 f6 f7 f8 f9
 have hon:=(On.refl (A:=AllA []) (F:=Nob) (w:=w) (λ_ h=>h)).box noWd 55
 have c1:=h.c1 _ hon.outB
 have c2:=h.c2 _ hon.outB
 have c0:=h.c0 _ hon.outB
 have hce:=h.cell _ hon.outB
 have t1: ((p:Int) % 8 != 0)=false:=by rw[bne_eq_false_iff_eq];omega
 have ha:=and31 ⟨bc.toNat,bc.toNat_lt⟩
 simp only at ha
 unfold noWd at hon c0 c1 c2 hce
 have hbc: (bc.toNat:Int)<=255:=by have:=bc.toNat_lt;omega
 obtain⟨n,hn⟩: ∃n:Nat,bc.toNat % 32=n:=⟨_,rfl⟩
 have hn31:n<=31:=by omega
 have hn0:n≠0:=by rw[<-hn];exact h0
 have hnz: ((n:Int) ==0)=false:=by rw[beq_eq_false_iff_ne];omega
 rw[hn]at ha hfar htx⊢
 have hup:=λw=>d_up (p+9+n) oM w
 rw[show((p+9+n:Nat):Int)= (p:Int) +9+ (n:Int)by omega]at hup
 replace hup:=hid hup
 replace hn:=hid hn
 have hw1:IntKind.i64.wrap ((p:Int) +9)= (p:Int) +9:=IntWalk.i64_in _ oM
 have hw2:IntKind.i64.wrap ((p:Int) +9+ (n:Int))= (p:Int) +9+ (n:Int):=IntWalk.i64_in _ oM
 have hu2:=up_ge (p+9+n)
 have hd16:decide ((en:Int) -16< (p:Int))=false:=decide_eq_false oM
 generalize up (p+9+n)=u at *
 replace h:=hid h
 replace hon:=hid hon
 replace hce:=hid hce
 clear h0
 go_enter func126,ntmps126
 go_wp2_with fail
 refine mo hce.out λw1 hb1=>?_
 have hon1:=hon.out.below hb1
 have hby:=h.out.byte _ hon1.outB
 clear c0 c1 c2
 have c0:=h.out.c0 _ hon1.outB
 have c2:=h.out.c2 _ hon1.outB
 replace hon1:=hid hon1
 replace hby:=hid hby
 clear hb1
 go_wp2_with fail
 refine hby.out.mono ?_
 rintro e w2 ⟨rfl,rfl⟩
 go_wp2_with fail
 go_quiet ((go_at_call 129;exact Calls.quiet_of_same (hup.out _)))
 have hon2:=hon1.out.drewN nq
 obtain⟨w3,hw3⟩: ∃w3,w2.drewN nq=w3:=⟨_,rfl⟩
 rw[hw3]at hon2⊢
 clear hw3 hon1 hon c0 c2
 have c0:=h.out.c0 _ hon2.outB
 replace htx:=hid (htx _ hon2.outB)
 have hmm:= @run_makeMap prog
 replace hon2:=hid hon2
 go_wp2_with fail
 refine htx.out.mono ?_
 rintro e w4 ⟨rfl,rfl⟩
 have hmp:=(hon2.out.mapA 5 intE).box #[.int .u8 32,.int .u8 64,.int .u8 128] 5
 rw[show(w4.alloc (Obj.map #[] 0)).heap.size=w4.heap.size+1 by simp]at hmp
 have hst: ∀j,j<3->∀wr,On Nob w (AllA [BlkA (w4.heap.size+1) 5 #[.int .u8 32,.int .u8 64,.int .u8 128],MapG 5 intE w4.heap.size j (flF bc j),BlkA w.heap.size 55 #[.string ⟨#[]⟩,(0:Int),(0:Int),.bool false,.bool false,.bool false]]) wr->
  ∃w',(Instr.mapUpdate 273 (.map (some w4.heap.size)) (.int .u8 (bitOf j)) (.int .i64 (bits .and .u8 (bc.toNat:Int) (bitOf j)))).run prog wr = .ok () w'∧
   On Nob w (AllA [BlkA (w4.heap.size+1) 5 #[.int .u8 32,.int .u8 64,.int .u8 128],MapG 5 intE w4.heap.size (j+1) (flF bc (j+1)),BlkA w.heap.size 55 #[.string ⟨#[]⟩,(0:Int),(0:Int),.bool false,.bool false,.bool false]]) w':=λj hj wr ho=>by
  obtain⟨F1,hM⟩:=ho.at_ 1 rfl
  obtain⟨w',hr,hq⟩:=fl_store bc j hj hM
  exact⟨w',hr,ho.stepAt 1 rfl hq⟩
 have h0f:flF bc 0=λ_=>none:=by
  funext k
  cases k<;>try rfl
  rename_i q n
  cases q<;>simp[flF]
 rw[<-h0f]at hmp
 replace h0f:=hid h0f
 replace hst:=hid hst
 replace hmp:=hid hmp
 go_wp2_with fail
 go_loopg [89] 3 (λk t wr=> ∃j:Nat,j+k=3∧t = .int .i64 (j:Int)∧On Nob w (AllA [BlkA (w4.heap.size+1) 5 #[.int .u8 32,.int .u8 64,.int .u8 128],MapG 5 intE w4.heap.size j (flF bc j),BlkA w.heap.size 55 #[.string ⟨#[]⟩,(0:Int),(0:Int),.bool false,.bool false,.bool false]]) wr)
 case atStart=>exact⟨0,by omega,rfl,hmp.out⟩
 case round=>
  obtain⟨j,hj,rfl,hoj⟩:=hrel
  have hrw:=hoj.blkAt 0 rfl
  by_cases hj3:j<3
  ·obtain⟨w5,hup5,ho5⟩:=hst.out j hj3 wr hoj
   have h3:j=0∨j=1∨j=2:=by omega
   have r0:=hrw.cell 0
   have r1:=hrw.cell 1
   have r2:=hrw.cell 2
   replace hoj:=hid hoj
   replace ho5:=hid ho5
   clear hrw
   rcases h3 with rfl|rfl|rfl
   all_goals
    simp only[bitOf]at hup5
    go_wp2_with fail
    go_roundg (gk-1)
    case measure=>omega
    case rel=>exact⟨_,by omega,by go_num,ho5.out⟩
  ·have hjj:j=3:=by omega
   subst hjj
   clear hrw
   have hod:=hoj.drew
   obtain⟨F1,hM⟩:=hod.at_ 1 rfl
   have k64:=fl_look bc 64 oM hM
   have k32:=fl_look bc 32 oM hM
   have k128:=fl_look bc 128 oM hM
   obtain⟨z0,z1,z2,z3,z4,z5,zf⟩:=hoj.tail.tail.six
   have hfin:=(hoj.tail.tail.put6 (.string nm) (.int .i64 (p:Int)) (.int .i64 (u:Int)) (.bool (bc.toNat/64 % 2==1)) (.bool (bc.toNat/32 % 2==1)) (.bool (bc.toNat/128==1))).drew
   have hfull:=((((((hoj.setAt 2 rfl 0 (.string nm)).setAt 2 rfl 1 (.int .i64 (p:Int))).setAt 2 rfl 2 (.int .i64 (u:Int))).setAt 2 rfl 3 (.bool (bc.toNat/64 % 2==1))).setAt 2 rfl 4 (.bool (bc.toNat/32 % 2==1))).setAt 2 rfl 5 (.bool (bc.toNat/128==1))).drew
   obtain⟨F2,hM2⟩:=hfull.at_ 1 rfl
   have j64:=fl_look bc 64 oM hM2
   have j32:=fl_look bc 32 oM hM2
   have j128:=fl_look bc 128 oM hM2
   have hupd:=hid (hup.out wr.drew)
   have q0:=zf 0
   have q1:=zf 1
   have q2:=zf 2
   have q3:=zf 3
   have q4:=zf 4
   have q5:=zf 5
   replace hfin:=hid hfin
   clear hfull hM2 hod hM hoj hst hmp c0 hd16 hnz hu2 t1 hbc htx hmm hce hby h0f f4 f5 f6 f7 f8 f9 ha hfar h1 h2 h3 hen zf h
   generalize bits .and .u8 (bc.toNat:Int) 64=x64 at *
   generalize bits .and .u8 (bc.toNat:Int) 32=x32 at *
   generalize bits .and .u8 (bc.toNat:Int) 128=x128 at *
   generalize (bc.toNat/64 % 2==1)=b64 at *
   generalize (bc.toNat/32 % 2==1)=b32 at *
   generalize (bc.toNat/128==1)=b128 at *
   go_wp2_with fail
   have J:=hid (And.intro j64 (And.intro j32 j128))
   clear j64 j32 j128
   have hmix:prog.follows .mixedOrders=true:=by kernel_rfl
   refine wp_region_held_drew (S:=λw'=>(Instr.lookup 273 (.map (some w4.heap.size)) (.int .u8 64) false).run prog w' = .ok (.int .i64 x64) w'∧(Instr.lookup 273 (.map (some w4.heap.size)) (.int .u8 32) false).run prog w' = .ok (.int .i64 x32) w'∧(Instr.lookup 273 (.map (some w4.heap.size)) (.int .u8 128) false).run prog w' = .ok (.int .i64 x128) w') hmix ⟨k64,k32,k128⟩ (λhHeld=> ?_)
   refine tkL 17 ?_
   (try simp only[go_sem])
   refine tkL 0 ?_
   (try simp only[go_sem])
   refine tkL 1 ?_
   (try simp only[go_sem])
   refine tkL 2 ?_
   (try simp only[go_sem])
   refine tkL 3 ?_
   (try simp only[go_sem])
   refine tkL 4 ?_
   (try simp only[go_sem])
   refine tkL 5 ?_
   (try simp only[go_sem])
   refine tkL 7 ?_
   (try simp only[go_sem])
   refine tkL 8 ?_
   (try simp only[go_sem])
   refine tkL 9 ?_
   (try simp only[go_sem])
   refine tkL 10 ?_
   (try simp only[go_sem])
   refine tkL 11 ?_
   (try simp only[go_sem])
   refine tkL 12 ?_
   (try simp only[go_sem])
   refine tkL 13 ?_
   (try simp only[go_sem])
   refine tkL 14 ?_
   (try simp only[go_sem])
   refine tkL 15 ?_
   (try simp only[go_sem])
   refine wpAnyH_ready (rs:=[6]) kR (by simp) ?_
   refine AllReadyH.cons rfl (λK hK=> ?_) AllReadyH.nil
   go_simp
   go_at_call 129
   refine hupd.out.mono ?_
   rintro e w5 ⟨rfl,rfl⟩
   refine hK.out _ _ ?_ (λhHeld=> ?_)
   ·exact hHeld
   clear hK K
   refine tkL 16 ?_
   (try simp only[go_sem])
   refine wpAnyH_ready (rs:=[18]) kR (by simp) ?_
   refine AllReadyH.cons rfl (λK hK=> ?_) AllReadyH.nil
   go_simp
   refine hK.out _ _ ?_ (λhHeld=> ?_)
   ·exact J.out
   clear hK K hHeld
   refine wpAnyH_ready (rs:=[19]) kR (by simp) ?_
   refine AllReadyH.cons rfl (λK hK=> ?_) AllReadyH.nil
   go_simp
   refine hK.out _ _ ?_ (λhHeld=> ?_)
   ·exact J.out
   clear hK K hHeld
   refine wpAnyH_ready (rs:=[20]) kR (by simp) ?_
   refine AllReadyH.cons rfl (λK hK=> ?_) AllReadyH.nil
   go_simp
   refine hK.out _ _ ?_ (λhHeld=> ?_)
   ·exact J.out
   clear hK K hHeld
   refine wpAnyH_done kR ?_ _
   go_wp2
   exact bodyPost_ret (head_ret hfin.out _ _ _ rfl rfl rfl) rfl ⟨rfl,hfin.out.outB⟩
end
theorem ofB_v64'(l:List UInt8):V64 (ofB l):=by unfold ofB V64 wrap64;omega
section
variable {w w1:World}{F:Nat->Prop}{g gI gb fr en:Nat}{D:Dc}{S:Img}
theorem d_head(hs:Blk w g 146 (dictC gI fr en (D.h:Int) (D.l:Int)))(hi:IRep w gI gb S)(h8:At8 S D fr en)(a:Int)(ha:V64 a):
 Calls prog 126 #[g,a] w (Quiet (headV (headW S D a)) w):=by
 have hle:=h8.le
 have hlo:=h8.lo
 by_cases ho:a % 8≠0∨a<fr∨(en:Int) <a+16
 ·have e:headW S D a=none:=by unfold headW;rw[h8.fr,h8.lim,if_pos ho]
  rw[e]
  exact head_out hs hle oM a ha ho
 obtain⟨p,rfl⟩: ∃p:Nat,a=p:=⟨a.toNat,by omega⟩
 have h1:fr<=p:=by omega
 have h2:p+16<=en:=by omega
 have h3:p % 8=0:=by omega
 have hin:=head_in hs hi h8 p h1 h2 h3
 have e:headW S D (p:Int)= (if(S.b.getD (p+8) 0).toNat % 32=0∨en<up (p+9+ (S.b.getD (p+8) 0).toNat % 32)then none
  else some (⟨(S.b.drop (p+9)).take ((S.b.getD (p+8) 0).toNat % 32),p,up (p+9+ (S.b.getD (p+8) 0).toNat % 32),(S.b.getD (p+8) 0).toNat/64 % 2==1,(S.b.getD (p+8) 0).toNat/32 % 2==1,(S.b.getD (p+8) 0).toNat/128==1⟩,ofB ((S.b.drop p).take 8))):=by
  unfold headW
  rw[h8.fr,h8.lim,if_neg ho]
  rfl
 rw[e]
 by_cases h0: (S.b.getD (p+8) 0).toNat % 32=0
 ·rw[if_pos (.inl h0)]
  exact head_zero p _ _ hin h1 h2 h3 hle h0
 by_cases hf:en<up (p+9+ (S.b.getD (p+8) 0).toNat % 32)
 ·rw[if_pos (.inr hf)]
  exact head_far p _ _ hin h1 h2 h3 hle h0 hf
 rw[if_neg (by rintro(h|h);exact h0 h;exact hf h)]
 have hu:=up_ge (p+9+ (S.b.getD (p+8) 0).toNat % 32)
 have hT:S.text 0 ((p:Int) +9) (((S.b.getD (p+8) 0).toNat % 32:Nat):Int)= ⟨((S.b.drop (p+9)).take ((S.b.getD (p+8) 0).toNat % 32)).toArray⟩:=by
  have hr:=h8.ok.rowOk (p+9) ((S.b.getD (p+8) 0).toNat % 32) (by rw[h8.fr];omega) (by rw[h8.lim];omega) h0 false
  have hF:S.textF 0 ((p:Int) +9) (((S.b.getD (p+8) 0).toNat % 32:Nat):Int)=0:=by
   unfold Img.textF
   rw[if_neg oM,Int.toNat_natCast,show(p:Int) +9= ((p+9:Nat):Int)by omega,hr]
   rfl
  unfold Img.text
  rw[if_pos hF,Int.toNat_natCast,show(p:Int) +9= ((p+9:Nat):Int)by omega]
  rfl
 exact head_good p _ _ hin h1 h2 h3 hle h0 hf _ hT
def wordsC(l:List Wd):List Value:=l.flatMap λx=>x.c.toList
theorem wordsC_snoc(l:List Wd)(x:Wd):wordsC (l ++ [x])=wordsC l++x.c.toList:=by simp[wordsC]
def RowW(v:Value)(l:List Wd):Asr:=RowK 55 6 v l.length (wordsC l)
theorem info_word: (prog.info? 55).map (λi=>(i.zero,i.size,i.bytes))=some (some (.agg #[.string ⟨#[]⟩,(0:Int),(0:Int),.bool false,.bool false,.bool false]),6,40):=by kernel_rfl
theorem word_one(x:Wd): ∀u∈x.c.toList,u.oneCell'=true:=by
 intro u hu
 unfold Wd.c at hu
 simp only[List.mem_cons,List.mem_nil_iff,or_false]at hu
 rcases hu with rfl|rfl|rfl|rfl|rfl|rfl<;>rfl
theorem On.growAt{w w' w'':World}{F:Nat->Prop}{L:List Asr}(i:Nat){e:TypeId}{size n n':Nat}{v v':Value}{xs xs':List Value}(h:On F w (AllA L) w')(hA:L[i]? = some (RowK e size v n xs))(hown:w''.ownsRow 0 e size v' n' xs')(hg:w'.grownBy w'' v.ownBlock)
 (hat: ∀k,v'.ownBlock=some k->v.ownBlock=some k∨w'.heap.size<=k):On F w (AllA (L.set i (RowK e size v' n' xs'))) w'':=
 h.stepAt i hA λF' ha=>⟨λk=>v'.ownBlock=some k,⟨hown,λ_=>Iff.rfl⟩,(Kept.refl F' w').grown hg (λk hv=> .inl ((ha.2 k).2 hv)),λk hk=>(hat k hk).imp (λh=>(ha.2 k).2 h) id⟩
theorem grew_at{v:Value}{sg n cap H:Nat}(h:v.ownBlock=some sg∨sg=H): ∀k,(Value.slice sg n cap).ownBlock=some k->v.ownBlock=some k∨H<=k:=by
 intro k hk
 have hk:some sg=some k:=hk
 cases hk
 rcases h with h|h
 ·exact .inl h
 ·exact .inr oM
theorem walk_row{w w2 w3:World}{v0:Value}{done:List Wd}{x:Wd}{sg cap H:Nat}{cs:List Value}(hon:On Nob w (AllA [RowW v0 done]) w2)(hG:w3.ownsRow 0 55 6 (.slice sg (done.length+1) cap) (done.length+1) (wordsC done++cs))(hgrow:w2.grownBy w3 v0.ownBlock)(hat:v0.ownBlock=some sg∨sg=H)
 (hsn:wordsC (done ++ [x])=wordsC done++cs) (hl: (done ++ [x]).length=done.length+1) (hH:H=w2.heap.size:=by simp):On Nob w (AllA [RowW (.slice sg (done.length+1) cap) (done ++ [x])]) w3:=by
 subst hH
 have h:=hon.growAt 0 rfl hG hgrow (grew_at hat)
 unfold RowW
 rw[hsn,hl]
 exact h
def WalkPost(l:List Wd)(w:World)(e:Ending)(w':World):Prop:= ∃v,e = .returned v∧On Nob w (AllA [RowW v l]) w'
theorem headW_pos{a:Int}{x:Wd}{n:Int}(h:headW S D a=some (x,n)):8<=a∧V64 n:=by
 unfold headW at h
 by_cases ho:a % 8≠0∨a<D.fr S∨(D.lim S:Int) <a+16
 ·rw[if_pos ho]at h;cases h
 rw[if_neg ho]at h
 have hf:8<=D.fr S:=by unfold Dc.fr;omega
 refine⟨by omega,?_⟩
 simp only at h
 split at h
 ·cases h
 ·injection h with h
  injection h with _ h
  rw[<-h]
  exact ofB_v64' _
theorem d_walk(hs:Blk w g 146 (dictC gI fr en (D.h:Int) (D.l:Int)))(hi:IRep w gI gb S)(h8:At8 S D fr en):
 Calls prog 81 #[g] w (WalkPost (words S D) w):=by
 have c4:w.cell? (g,4)=some ((D.l:Int):Vl):=hs.cell 4
 have hl:D.l<=143360:=by have:=h8.ok.l;rw[h8.lim]at this;have:=h8.le;omega
 have hhd: ∀a,V64 a->∀w1,Below w.heap.size w w1->Calls prog 126 #[g,.int .i64 a] w1 (Quiet (headV (headW S D a)) w1):=
  λa ha w1 hb=>d_head (hs.below hb hs.lt) ⟨hi.blk.below hb hi.blk.lt,hi.row.below hb hi.row.lt,hi.ok⟩ h8 a ha
 obtain⟨i0,hi0,hz0,hz1,hz2⟩:=info_parts info_word
 have hv0:V64 (D.l:Int):=by unfold V64;omega
 have hon0:On Nob w (AllA [RowW (.slice none 0 0) []]) w:=(On.refl (A:=AllA []) (F:=Nob) (w:=w) (λ_ h=>h)).addNew (F2:=Nob) ⟨World.ownsRow_nil _ _ _ _,λk=>⟨λh=>h.elim,λh=>by cases h⟩⟩ (Kept.refl _ _) (λ_ h=>h.elim)
 replace hon0:=hid hon0
 replace hhd:=hid hhd
 replace hi0:=hid hi0
 replace hz0:=hid hz0
 replace hz1:=hid hz1
 replace hz2:=hid hz2
 replace hv0:=hid hv0
 clear hs hi h8
 go_enter func81,ntmps81
 go_wp2_with fail
 go_loopg [3,4] (D.l+1) (λgk v t wr=> ∃(v0:Value) (a:Int) (done:List Wd),v0=v∧t = .int .i64 a∧V64 a∧words S D=done++wordsF S D gk a∧a.toNat<gk∧done.length+gk<=D.l+1∧On Nob w (AllA [RowW v0 done]) wr)
 case atStart=>exact⟨_,D.l,[],rfl,rfl,hv0.out,rfl,by omega,by simp,hon0.out⟩
 case round=>
  obtain⟨v0,a,done,hv,rfl,hva,hw,hk,hlen,hoj⟩:=hrel
  subst hv
  have hq:=hhd.out a hva wr hoj.outB
  obtain⟨k',rfl⟩: ∃k',gk=k'+1:=⟨gk-1,by omega⟩
  unfold wordsF at hw
  rcases hx:headW S D a with _| ⟨x,n⟩
  ·rw[hx]at hq hw
   have hq':Calls prog 126 #[g,a] wr (Quiet (.tuple #[.agg #[.string ⟨#[]⟩,(0:Int),(0:Int),.bool false,.bool false,.bool false],(0:Int),.bool false]) wr):=hq
   simp only[List.append_nil]at hw
   rw[hw]
   replace hq':=hid hq'
   replace hoj:=hid hoj
   replace hw:=hid hw
   replace hx:=hid hx
   clear hq
   go_wp2_with fail
   refine mo hq'.out λw2 hb2=>?_
   have hon2:=(hoj.out.below hb2).alloc (.cells #[.string ⟨#[]⟩,(0:Int),(0:Int),.bool false,.bool false,.bool false] 55)
   replace hon2:=hid hon2
   clear hb2
   go_wp2
   go_ret
   exact⟨_,rfl,hon2.out⟩
  ·have hpos:=headW_pos hx
   rw[hx]at hq hw
   simp only at hw
   have hne:1<=a.toNat:=by omega
   have hone:=word_one x
   have hsn:=wordsC_snoc done x
   have hlen1: (done ++ [x]).length=done.length+1:=by simp
   obtain⟨nm,hd,xt,im,hh,il⟩:=x
   have hq':Calls prog 126 #[g,a] wr (Quiet (.tuple #[.agg #[.string ⟨nm.toArray⟩,(hd:Int),(xt:Int),.bool im,.bool hh,.bool il],(n:Int),.bool true]) wr):=hq
   have hone': ∀u∈[Value.string ⟨nm.toArray⟩,.int .i64 (hd:Int),.int .i64 (xt:Int),.bool im,.bool hh,.bool il],u.oneCell'=true:=hone
   have hsn':wordsC (done ++ [⟨nm,hd,xt,im,hh,il⟩])=wordsC done ++ [Value.string ⟨nm.toArray⟩,.int .i64 (hd:Int),.int .i64 (xt:Int),.bool im,.bool hh,.bool il]:=hsn
   clear hq hone hsn hx
   replace hq':=hid hq'
   replace hoj:=hid hoj
   replace hone':=hid hone'
   replace hsn':=hid hsn'
   replace hpos:=hid hpos
   replace hlen1:=hid hlen1
   have hnl:done.length+1<=maxLen∧(done.length+1)*40<=140737488355328:=by unfold maxLen;omega
   replace hnl:=hid hnl
   by_cases hle:a<=n
   ·have hd1:decide (a<=n)=true:=decide_eq_true hle
    rw[if_pos hle]at hw
    replace hw:=hid hw
    go_wp2_with fail
    refine mo hq'.out λw2 hb2=>?_
    have hon2:=(((hoj.out.below hb2).alloc (.cells #[.string ⟨nm.toArray⟩,(hd:Int),(xt:Int),.bool im,.bool hh,.bool il] 55)).alloc (.cells #[.string ⟨nm.toArray⟩,(hd:Int),(xt:Int),.bool im,.bool hh,.bool il] 55))
    obtain⟨F1,hR⟩:=hon2.at_ 0 rfl
    have hown:=hR.1
    replace hon2:=hid hon2
    replace hown:=hid hown
    clear hb2 hR
    go_wp2_with (at_builtin;refine wpList_append_lies _ rfl (.tmp 22) (.tmp 24) 190 rfl 0 55 i0 (.agg #[.string ⟨#[]⟩,(0:Int),(0:Int),.bool false,.bool false,.bool false]) 6 40 underlying190 hi0.out hz0.out hz1.out hz2.out rfl oM v0 done.length (wordsC done) (by rfl) hown.out ⟨w2.heap.size+1,0,none⟩ 1 1 [.string ⟨nm.toArray⟩,.int .i64 (hd:Int),.int .i64 (xt:Int),.bool im,.bool hh,.bool il] (by rfl) rfl (World.news_of_block (Blk.new' (by simp))) hone'.out oM hnl.out.1 hnl.out.2 (Nat.zero_le _) (w2.heap.size+1+1) (by simp) ?_;intro sg cap w3 hG hgrow hat hlt;have hon4:=hid (walk_row hon2.out hG hgrow hat hsn'.out hlen1.out))
    go_ret
    exact⟨_,rfl,by rw[hw.out];exact hon4.out⟩
   ·have hd1:decide (a<=n)=false:=decide_eq_false hle
    rw[if_neg hle]at hw
    replace hw:=hid hw
    go_wp2_with fail
    refine mo hq'.out λw2 hb2=>?_
    have hon2:=(((hoj.out.below hb2).alloc (.cells #[.string ⟨nm.toArray⟩,(hd:Int),(xt:Int),.bool im,.bool hh,.bool il] 55)).alloc (.cells #[.string ⟨nm.toArray⟩,(hd:Int),(xt:Int),.bool im,.bool hh,.bool il] 55))
    obtain⟨F1,hR⟩:=hon2.at_ 0 rfl
    have hown:=hR.1
    replace hon2:=hid hon2
    replace hown:=hid hown
    clear hb2 hR
    go_wp2_with (at_builtin;refine wpList_append_lies _ rfl (.tmp 22) (.tmp 24) 190 rfl 0 55 i0 (.agg #[.string ⟨#[]⟩,(0:Int),(0:Int),.bool false,.bool false,.bool false]) 6 40 underlying190 hi0.out hz0.out hz1.out hz2.out rfl oM v0 done.length (wordsC done) (by rfl) hown.out ⟨w2.heap.size+1,0,none⟩ 1 1 [.string ⟨nm.toArray⟩,.int .i64 (hd:Int),.int .i64 (xt:Int),.bool im,.bool hh,.bool il] (by rfl) rfl (World.news_of_block (Blk.new' (by simp))) hone'.out oM hnl.out.1 hnl.out.2 (Nat.zero_le _) (w2.heap.size+1+1) (by simp) ?_;intro sg cap w3 hG hgrow hat hlt;have hon4:=hid (walk_row hon2.out hG hgrow hat hsn'.out hlen1.out))
    go_roundg k'
    case measure=>omega
    case rel=>exact⟨_,n,done ++ [⟨nm,hd,xt,im,hh,il⟩],rfl,rfl,hpos.out.2,by rw[hw.out,List.append_assoc];rfl,by have:=hpos.out.1;omega,by rw[hlen1.out];omega,hon4.out⟩
end
end Vm
end Go.Proofs.YteaijdgnagkllaaGreatDoor
