/- Chapter 8. Conditions: as written. -/
import Derived.Test.YtilaogbkdbbdkaaGreatDoorOm
import Derived.Test.YtilaogbkdbbdkaaGreatDoorZ21
open Go.Proofs.Tryz
namespace Go.Proofs.YtilaogbkdbbdkaaGreatDoor
set_option linter.unusedVariables false
set_option maxHeartbeats 8000000
set_option maxRecDepth 100000
open Go.RowKit Go.Lib Go.Deep Go.Maps
namespace Vm
def Wd.c(x:Wd):Array Value:=#[.string ⟨x.name.toArray⟩,(x.head:Int),(x.xt:Int),.bool x.imm,.bool x.hid,.bool x.inl]
def eS:Array Value:=#[.string ⟨#[]⟩,(0:Int),(0:Int),.bool false,.bool false,.bool false]
def gX:Option (Wd×Int)->Value
 | none=> .tuple #[.agg eS,(0:Int),.bool false]
 | some (x,n)=> .tuple #[.agg x.c,n,.bool true]
theorem yp(a:Int):a.tmod 8=0↔a % 8=0:=by
 rw[<-Int.dvd_iff_tmod_eq_zero,Int.dvd_iff_emod_eq_zero]
section
variable {w w1:World}{F:Nat->Prop}{g gI gb fr en:Nat}{D:Dc}{S:Img}
theorem J4(hs:Blk w g 123 (cm gI fr en (D.h:Int) (D.l:Int)))(hen:en<=143360)(hfe:fr<=en)(a:Int)(ha:V64 a)(ho:a % 8≠0∨a<fr∨(en:Int) <a+16):
 Calls prog 91 #[g,a] w (Quiet (gX none) w):=by
 have c1:w.cell? (g,1)=some ((fr:Int):Vl):=hs.cell 1
 have c2:w.cell? (g,2)=some ((en:Int):Vl):=hs.cell 2
 have Rd:=hs.lt
 clear hs
 unfold V64 at ha
 obtain⟨ha1,ha2⟩:=ha
 have hz: (w.alloc (.cells eS 43)).cell? (w.heap.size,0)=some (.string ⟨#[]⟩):=(Blk.new w 43 eS).cell 0
 by_cases h0:a % 8≠0
 ·have t1: (a.tmod 8 != 0)=true:=by rw[bne_iff_ne,ne_eq,yp];exact h0
  have t2: (a % 8 != 0)=true:=by rw[bne_iff_ne];exact h0
  clear h0 ho hz
  go_enter func91,ntmps91
  go_wp2
  exact bodyPost_ret (v:=gX none) (by simp[results,results91,go_sem,gX,eS]) rfl ⟨rfl,(Below.refl _ _).alloc (Nat.le_refl _) _⟩
 ·have h0':a % 8=0:=by omega
  by_cases h1:a<fr
  ·by_cases hn:0<=a
   ·have t1: (a % 8 != 0)=false:=by rw[bne_eq_false_iff_eq];exact h0'
    clear h0 ho h0' hz
    go_enter func91,ntmps91
    go_wp2
    exact bodyPost_ret (v:=gX none) (by simp[results,results91,go_sem,gX,eS]) rfl ⟨rfl,(Below.refl _ _).alloc (Nat.le_refl _) _⟩
   ·have t1: (a.tmod 8 != 0)=false:=by rw[bne_eq_false_iff_eq,yp];exact h0'
    clear h0 ho h0' hz
    go_enter func91,ntmps91
    go_wp2
    exact bodyPost_ret (v:=gX none) (by simp[results,results91,go_sem,gX,eS]) rfl ⟨rfl,(Below.refl _ _).alloc (Nat.le_refl _) _⟩
  ·have h2: (en:Int) <a+16:=by omega
   have t1: (a % 8 != 0)=false:=by rw[bne_eq_false_iff_eq];exact h0'
   have t3:decide ((en:Int) -16<a)=true:=decide_eq_true oM
   clear h0 ho h0' hz
   go_enter func91,ntmps91
   go_wp2
   exact bodyPost_ret (v:=gX none) (by simp[results,results91,go_sem,gX,eS]) rfl ⟨rfl,(Below.refl _ _).alloc (Nat.le_refl _) _⟩
end
def tu:Value->Option (Dt×List MemPlace)
 | .int .i64 x=>some (.lit (.int .i64 x),[])
 | _=>none
theorem MI(w:World): (zeroValue 3).run prog w = .ok (.int .i64 0) w:=by kernel_rfl
theorem u8K:Keyed prog 5:=Go.Maps.int_keyed underlying5
def flF(b:UInt8)(j:Nat):Lit->Option Dt
 | .int .u8 n=>if(n=32∧1<=j)∨(n=64∧2<=j)∨(n=128∧3<=j)then some (.lit (.int .i64 (bits .and .u8 (b.toNat:Int) n)))else none
 | _=>none
def mA:Nat->Int
 | 0=>32
 | 1=>64
 | _=>128
theorem MN(b:UInt8)(j:Nat)(hj:j<3):Upd (flF b j) (flF b (j+1)) (.int .u8 (mA j)) (.lit (.int .i64 (bits .and .u8 (b.toNat:Int) (mA j)))):=by
 have h3:j=0∨j=1∨j=2:=by omega
 refine⟨?_,λk' ZP=> ?_⟩
 ·rcases h3 with rfl|rfl|rfl<;>simp[flF,mA]
 ·cases k'<;>try rfl
  rename_i q n
  cases q<;>try rfl
  have hn:n≠mA j:=λe=>ZP (by rw[e])
  unfold flF
  rcases h3 with rfl|rfl|rfl<;>simp[mA]at hn⊢ <;> simp[hn]
theorem MH: ∀b:Fin 256,(bits .and .u8 (b.val:Int) 32 != 0)= (b.val/32 % 2==1)∧(bits .and .u8 (b.val:Int) 64 != 0)= (b.val/64 % 2==1)∧(bits .and .u8 (b.val:Int) 128 != 0)= (b.val/128==1)∧
 (0<=bits .and .u8 (b.val:Int) 32∧bits .and .u8 (b.val:Int) 32<=255)∧(0<=bits .and .u8 (b.val:Int) 64∧bits .and .u8 (b.val:Int) 64<=255)∧(0<=bits .and .u8 (b.val:Int) 128∧bits .and .u8 (b.val:Int) 128<=255):=by decide +kernel
theorem Hq: ∀b:Fin 256,bits .and .i64 (b.val:Int) 31= ((b.val % 32:Nat):Int):=by decide +kernel
theorem On.Ob{w w':World}{F:Nat->Prop}{L:List Asr}{b:Nat}{t:TypeId}{a0 a1 a2 a3 a4 a5:Value}(h:On F w (aa (ae b t #[a0,a1,a2,a3,a4,a5]::L)) w')(y0 y1 y2 y3 y4 y5:Value):
 On F w (aa (ae b t #[y0,y1,y2,y3,y4,y5]::L)) ((((((w'.setCell (b,0) y0).setCell (b,1) y1).setCell (b,2) y2).setCell (b,3) y3).setCell (b,4) y4).setCell (b,5) y5):=
 (((((h.setAt 0 rfl 0 y0).setAt 0 rfl 1 y1).setAt 0 rfl 2 y2).setAt 0 rfl 3 y3).setAt 0 rfl 4 y4).setAt 0 rfl 5 y5
theorem On.six{w w':World}{F:Nat->Prop}{L:List Asr}{b:Nat}{t:TypeId}{a0 a1 a2 a3 a4 a5:Value}(h:On F w (aa (ae b t #[a0,a1,a2,a3,a4,a5]::L)) w'):
 w'.cell? (b,0)=some a0∧w'.cell? (b,1)=some a1∧w'.cell? (b,2)=some a2∧w'.cell? (b,3)=some a3∧w'.cell? (b,4)=some a4∧w'.cell? (b,5)=some a5∧∀i,w'.frozen? ⟨b,i,none⟩=false:=by
 have hb:=h.ab 0 rfl
 exact⟨hb.cell 0,hb.cell 1,hb.cell 2,hb.cell 3,hb.cell 4,hb.cell 5,λi=>hb.frozen i⟩
theorem qW{w w':World}{F:Nat->Prop}{L:List Asr}{b:Nat}{t:TypeId}{a0 a1 a2 a3 a4 a5:Value}(h:On F w (aa (ae b t #[a0,a1,a2,a3,a4,a5]::L)) w')(tm:Array Value)(v5 v6:Value)(h4:tm.getD 4 undef = .pointer b)(h5:tm.getD 5 undef=v5)(h6:tm.getD 6 undef=v6):
 (results Tryz.f91 tm).run prog w' = .ok (.tuple #[.agg #[a0,a1,a2,a3,a4,a5],v5,v6]) w':=by
 obtain⟨c0,c1,c2,c3,c4,c5,_⟩:=h.six
 subst h5 h6
 have h4':tm[4]?.getD undef = .pointer b:=by simpa using h4
 simp[results,results91,go_sem,h4',c0,c1,c2,c3,c4,c5]
theorem jQc.OU{w:World}{F:Nat->Prop}{K t e:TypeId}{R:Value->Option (Dt×List MemPlace)}{b n:Nat}{f:Lit->Option Dt}(h: (jQc K R b n f).holds w F)(Kd:Maps.Keyed prog K)(ht:prog.underlying t=some (.map K e))(hn:n<maxLen){key val:Value}{kl:Lit}{d:Dt}{ps:List MemPlace}
 (hay:keyOf prog K key=some kl) (hv:R val=some (d,ps)) {f':Lit->Option Dt} (hu:Upd f f' kl d): ∃w',(Instr.mapUpdate t (.map (some b)) key val).run prog w = .ok () w'∧∀F',(jQc K R b n f).holds w F'->On F' w (jQc K R b (n+1) f') w':=by
 obtain⟨w',h5,h6,h7⟩:=jQc.store h Kd ht hn hay hv hu
 exact⟨w',h5,λF' Sr=>⟨F',⟨h6.1,Sr.2⟩,h7.mono λk hk=>(Sr.2 k).2 ((h6.2 k).1 hk),λ_ h=> .inl h⟩⟩
theorem JW(n:Int)(h: (Lit.int .u8 n).wf=true):keyOf prog 5 (.int .u8 n)=some (.int .u8 n):=Go.Maps.keyOf_int_mk underlying5 h
theorem I8{w:World}{F:Nat->Prop}{mb:Nat}(bc:UInt8)(j:Nat)(hj:j<3)(h: (jQc 5 tu mb j (flF bc j)).holds w F):
 ∃w',(Instr.mapUpdate 220 (.map (some mb)) (.int .u8 (mA j)) (.int .i64 (bits .and .u8 (bc.toNat:Int) (mA j)))).run prog w = .ok () w'∧∀F',(jQc 5 tu mb j (flF bc j)).holds w F'->On F' w (jQc 5 tu mb (j+1) (flF bc (j+1))) w':=
 jQc.OU h u8K underlying220 (by unfold maxLen;omega) (JW _ (by
  have h3:j=0∨j=1∨j=2:=by omega
  rcases h3 with rfl|rfl|rfl<;>rfl)) rfl (MN bc j hj)
theorem J6{v:Value}{x:Int}{ps:List MemPlace}(h:tu v=some (.lit (.int .i64 x),ps)):v = .int .i64 x:=by
 unfold tu at h
 split at h
 ·injection h with h
  injection h with h _
  injection h with h
  injection h with _ h
  rw[h]
 ·cases h
theorem ma{w:World}{F:Nat->Prop}{mb:Nat}(bc:UInt8)(n:Int)(hn:n=32∨n=64∨n=128)(h: (jQc 5 tu mb 3 (flF bc 3)).holds w F):
 (Instr.lookup 220 (.map (some mb)) (.int .u8 n) false).run prog w = .ok (.int .i64 (bits .and .u8 (bc.toNat:Int) n)) w:=by
 have hk:=JW n (by rcases hn with rfl|rfl|rfl<;>rfl)
 obtain⟨v,ps,h1,h2⟩:=jQc.Qc h u8K underlying220 (MI w) (zd:= .lit (.int .i64 0)) rfl hk
 have hf:flF bc 3 (.int .u8 n)=some (.lit (.int .i64 (bits .and .u8 (bc.toNat:Int) n))):=by
  rcases hn with rfl|rfl|rfl<;>simp[flF]
 rw[hf]at h2
 rw[h1,J6 h2]
section
variable {w w1:World}{F:Nat->Prop}{g gI gb fr en:Nat}{D:Dc}{S:Img}
structure wy(w:World)(g gI fr en p:Nat)(S:Img)(bc:UInt8)(next:Int):Prop where
 c0: ∀w1,Below w.heap.size w w1->w1.cell? (g,0)=some (gI:Vl)
 c1: ∀w1,Below w.heap.size w w1->w1.cell? (g,1)=some ((fr:Int):Vl)
 c2: ∀w1,Below w.heap.size w w1->w1.cell? (g,2)=some ((en:Int):Vl)
 cell: ∀w1,Below w.heap.size w w1->Calls prog 73 #[gI,(0:Int),(p:Int)] w1 λe w'=>e = .returned (.tuple #[next,(0:Int)])∧Below w1.heap.size w1 w'
 byte: ∀w1,Below w.heap.size w w1->Calls prog 134 #[gI,(0:Int),((p:Int) +8:Int)] w1 (ax (.tuple #[.int .u8 (bc.toNat:Int),(0:Int)]) w1)
 text: ∀w1,Below w.heap.size w w1->Calls prog 93 #[gI,(0:Int),((p:Int) +9:Int),((bc.toNat % 32:Nat):Int)] w1 (ax (.tuple #[.string (S.text 0 ((p:Int) +9) ((bc.toNat % 32:Nat):Int)),(S.cD 0 ((p:Int) +9) ((bc.toNat % 32:Nat):Int))]) w1)
theorem Mp(hs:Blk w g 123 (cm gI fr en (D.h:Int) (D.l:Int)))(hi:b9 w gI gb S)(h8:At8 S D fr en)(p:Nat)(h1:fr<=p)(h2:p+16<=en)(h3:p % 8=0):
 wy w g gI fr en p S (S.b.getD (p+8) 0) (ofB ((S.b.drop p).take 8)):=by
 have Q9: ∀w1,Below w.heap.size w w1->Blk w1 g 123 (cm gI fr en (D.h:Int) (D.l:Int)):=λw1 hb=>hs.below hb hs.lt
 have hir: ∀w1,Below w.heap.size w w1->b9 w1 gI gb S:=λw1 hb=>⟨hi.blk.below hb hi.blk.lt,hi.row.below hb hi.row.lt,hi.ok⟩
 have hc:S.ay 0 (p:Int) false=0:=by
  unfold Img.ay
  rw[h8.ok.aO p 8 (by rw[h8.fr];exact h1) (by rw[h8.lim];omega) oM false,if_neg oM]
  rfl
 have hv:S.aP 0 (p:Int)=ofB ((S.b.drop p).take 8):=by
  unfold Img.aP
  rw[if_pos hc]
  rfl
 have Ul:=h8.ok.Na (p+8) (by rw[h8.fr];omega) (by rw[h8.lim];omega)
 rw[show((p+8:Nat):Int)= (p:Int) +8 by omega]at Ul
 refine⟨λw1 hb=>(Q9 w1 hb).cell 0,λw1 hb=>(Q9 w1 hb).cell 1,λw1 hb=>(Q9 w1 hb).cell 2,λw1 hb=> ?_,λw1 hb=> ?_,λw1 hb=> ?_⟩
 ·have h:=jT (hir w1 hb) 0 (p:Int)
  rw[hc,hv]at h
  exact h
 ·have h:=Cf (hir w1 hb) 0 ((p:Int) +8)
  rw[Ul.1,Ul.2]at h
  exact h
 ·exact BR (hir w1 hb) 0 ((p:Int) +9) _ oM
theorem DY(p:Nat)(bc:UInt8)(next:Int)(h:wy w g gI fr en p S bc next)(h1:fr<=p)(h2:p+16<=en)(h3:p % 8=0)(hen:en<=143360)(h0:bc.toNat % 32=0):
 Calls prog 91 #[g,(p:Int)] w (Quiet (gX none) w):=by
 have so:=(On.refl (A:=aa []) (F:=Nob) (w:=w) (λ_ h=>h)).box eS 43
 have c1:=h.c1 _ so.dY
 have c2:=h.c2 _ so.dY
 have c0:=h.c0 _ so.dY
 have Ta:=h.cell _ so.dY
 have t1: ((p:Int) % 8 != 0)=false:=by rw[bne_eq_false_iff_eq];omega
 have ha:=Hq ⟨bc.toNat,bc.toNat_lt⟩
 simp only[h0]at ha
 unfold eS at so c0 c1 c2 Ta
 have hbc: (bc.toNat:Int)<=255:=by have:=bc.toNat_lt;omega
 replace⟨h,so,Ta⟩:=iC h so Ta
 clear h0
 go_enter func91,ntmps91
 go_wp2_with fail
 refine mo Ta.out λw1 Rh=>?_
 have M0:=so.out.below Rh
 have Sv:=h.out.byte _ M0.dY
 replace c0:=h.out.c0 _ M0.dY
 replace c2:=h.out.c2 _ M0.dY
 replace⟨M0,Sv⟩:=iB M0 Sv
 clear Rh
 go_wp2_with fail
 refine Sv.out.mono ?_
 rintro e w2 ⟨rfl,rfl⟩
 have Re:=M0.out.ab 0 rfl
 have z0:=Re.cell 0
 have z1:=Re.cell 1
 have z2:=Re.cell 2
 have z3:=Re.cell 3
 have z4:=Re.cell 4
 have z5:=Re.cell 5
 clear Re
 go_wp2_with fail
 go_quiet (fail)
 have BY:=M0.out.drewN nq
 obtain⟨w3,Sx⟩: ∃w3,w2.drewN nq=w3:=⟨_,rfl⟩
 rw[Sx]at BY⊢
 clear z0 z1 z2 z3 z4 z5 Sx M0 so
 obtain⟨z0,z1,z2,z3,z4,z5,zf⟩:=BY.six
 have IS:=BY.Ob (.string ⟨#[]⟩) (.int .i64 0) (.int .i64 0) (.bool false) (.bool false) (.bool false)
 replace⟨BY,IS⟩:=iB BY IS
 go_wp2
 exact bodyPost_ret (v:=gX none) (qW IS.out _ _ _ rfl rfl rfl) rfl ⟨rfl,IS.out.dY⟩
theorem Ic(p:Nat)(bc:UInt8)(next:Int)(h:wy w g gI fr en p S bc next)(h1:fr<=p)(h2:p+16<=en)(h3:p % 8=0)(hen:en<=143360)(h0:bc.toNat % 32≠0)(SF:en<up (p+9+bc.toNat % 32)):
 Calls prog 91 #[g,(p:Int)] w (Quiet (gX none) w):=by
 have so:=(On.refl (A:=aa []) (F:=Nob) (w:=w) (λ_ h=>h)).box eS 43
 have c1:=h.c1 _ so.dY
 have c2:=h.c2 _ so.dY
 have c0:=h.c0 _ so.dY
 have Ta:=h.cell _ so.dY
 have t1: ((p:Int) % 8 != 0)=false:=by rw[bne_eq_false_iff_eq];omega
 have ha:=Hq ⟨bc.toNat,bc.toNat_lt⟩
 simp only at ha
 unfold eS at so c0 c1 c2 Ta
 have hbc: (bc.toNat:Int)<=255:=by have:=bc.toNat_lt;omega
 obtain⟨n,hn⟩: ∃n:Nat,bc.toNat % 32=n:=⟨_,rfl⟩
 have hjr:n<=31:=by omega
 have SN:n≠0:=by rw[<-hn];exact h0
 have hnz: ((n:Int) ==0)=false:=by rw[beq_eq_false_iff_ne];omega
 rw[hn]at ha SF
 have WG:=λw=>xl (p+9+n) oM w
 rw[show((p+9+n:Nat):Int)= (p:Int) +9+ (n:Int)by omega]at WG
 replace⟨WG,hn⟩:=iB WG hn
 have Ui:IntKind.i64.wrap ((p:Int) +9)= (p:Int) +9:=IntWalk.i64_in _ oM
 have Q8:IntKind.i64.wrap ((p:Int) +9+ (n:Int))= (p:Int) +9+ (n:Int):=IntWalk.i64_in _ oM
 have hu2:=ee (p+9+n)
 have hgS:decide ((en:Int) -16< (p:Int))=false:=decide_eq_false oM
 generalize up (p+9+n)=u at *
 replace⟨h,so,Ta⟩:=iC h so Ta
 clear h0
 go_enter func91,ntmps91
 go_wp2_with fail
 refine mo Ta.out λw1 Rh=>?_
 have M0:=so.out.below Rh
 have Sv:=h.out.byte _ M0.dY
 clear c0 c1 c2
 have c0:=h.out.c0 _ M0.dY
 have c2:=h.out.c2 _ M0.dY
 replace⟨M0,Sv⟩:=iB M0 Sv
 clear Rh
 go_wp2_with fail
 refine Sv.out.mono ?_
 rintro e w2 ⟨rfl,rfl⟩
 go_wp2_with fail
 go_quiet ((go_at_call 120;exact Calls.quiet_of_same (WG.out _)))
 have BY:=M0.out.drewN nq
 obtain⟨w3,Sx⟩: ∃w3,w2.drewN nq=w3:=⟨_,rfl⟩
 rw[Sx]at BY⊢
 clear Sx M0 so c0 c2
 obtain⟨z0,z1,z2,z3,z4,z5,zf⟩:=BY.six
 have IS:=BY.Ob (.string ⟨#[]⟩) (.int .i64 0) (.int .i64 0) (.bool false) (.bool false) (.bool false)
 replace⟨BY,IS⟩:=iB BY IS
 go_wp2
 exact bodyPost_ret (v:=gX none) (qW IS.out _ _ _ rfl rfl rfl) rfl ⟨rfl,IS.out.dY⟩
theorem Ea(p:Nat)(bc:UInt8)(next:Int)(h:wy w g gI fr en p S bc next)(h1:fr<=p)(h2:p+16<=en)(h3:p % 8=0)(hen:en<=143360)(h0:bc.toNat % 32≠0)(SF: ¬en<up (p+9+bc.toNat % 32))(nm:ByteArray)(T9:S.text 0 ((p:Int) +9) ((bc.toNat % 32:Nat):Int)=nm):
 Calls prog 91 #[g,(p:Int)] w (Quiet (gX (some (⟨nm.data.toList,p,up (p+9+bc.toNat % 32),bc.toNat/64 % 2==1,bc.toNat/32 % 2==1,bc.toNat/128==1⟩,next))) w):=by
 rw[show gX (some (⟨nm.data.toList,p,up (p+9+bc.toNat % 32),bc.toNat/64 % 2==1,bc.toNat/32 % 2==1,bc.toNat/128==1⟩,next))= .tuple #[.agg #[.string nm,(p:Int),((up (p+9+bc.toNat % 32):Nat):Int),.bool (bc.toNat/64 % 2==1),.bool (bc.toNat/32 % 2==1),.bool (bc.toNat/128==1)],next,.bool true]from rfl]
 have htx:=λw1 hb=>h.text w1 hb
 rw[T9]at htx
 generalize S.cD 0 ((p:Int) +9) ((bc.toNat % 32:Nat):Int)=tf at *
 obtain⟨f1,f2,f3,⟨f4,f5⟩,⟨f6,f7⟩,f8,f9⟩:=MH ⟨bc.toNat,bc.toNat_lt⟩
 simp only at f1 f2 f3 f4 f5 f6 f7 f8 f9
 have so:=(On.refl (A:=aa []) (F:=Nob) (w:=w) (λ_ h=>h)).box eS 43
 have c1:=h.c1 _ so.dY
 have c2:=h.c2 _ so.dY
 have c0:=h.c0 _ so.dY
 have Ta:=h.cell _ so.dY
 have t1: ((p:Int) % 8 != 0)=false:=by rw[bne_eq_false_iff_eq];omega
 have ha:=Hq ⟨bc.toNat,bc.toNat_lt⟩
 simp only at ha
 unfold eS at so c0 c1 c2 Ta
 have hbc: (bc.toNat:Int)<=255:=by have:=bc.toNat_lt;omega
 obtain⟨n,hn⟩: ∃n:Nat,bc.toNat % 32=n:=⟨_,rfl⟩
 have hjr:n<=31:=by omega
 have SN:n≠0:=by rw[<-hn];exact h0
 have hnz: ((n:Int) ==0)=false:=by rw[beq_eq_false_iff_ne];omega
 rw[hn]at ha SF htx⊢
 have WG:=λw=>xl (p+9+n) oM w
 rw[show((p+9+n:Nat):Int)= (p:Int) +9+ (n:Int)by omega]at WG
 replace⟨WG,hn⟩:=iB WG hn
 have Ui:IntKind.i64.wrap ((p:Int) +9)= (p:Int) +9:=IntWalk.i64_in _ oM
 have Q8:IntKind.i64.wrap ((p:Int) +9+ (n:Int))= (p:Int) +9+ (n:Int):=IntWalk.i64_in _ oM
 have hu2:=ee (p+9+n)
 have hgS:decide ((en:Int) -16< (p:Int))=false:=decide_eq_false oM
 generalize up (p+9+n)=u at *
 replace⟨h,so,Ta⟩:=iC h so Ta
 clear h0
 go_enter func91,ntmps91
 go_wp2_with fail
 refine mo Ta.out λw1 Rh=>?_
 have M0:=so.out.below Rh
 have Sv:=h.out.byte _ M0.dY
 clear c0 c1 c2
 have c0:=h.out.c0 _ M0.dY
 have c2:=h.out.c2 _ M0.dY
 replace⟨M0,Sv⟩:=iB M0 Sv
 clear Rh
 go_wp2_with fail
 refine Sv.out.mono ?_
 rintro e w2 ⟨rfl,rfl⟩
 go_wp2_with fail
 go_quiet ((go_at_call 120;exact Calls.quiet_of_same (WG.out _)))
 have BY:=M0.out.drewN nq
 obtain⟨w3,Sx⟩: ∃w3,w2.drewN nq=w3:=⟨_,rfl⟩
 rw[Sx]at BY⊢
 clear Sx M0 so c0 c2
 have c0:=h.out.c0 _ BY.dY
 replace htx:=hid (htx _ BY.dY)
 have hmm:= @run_makeMap prog
 replace BY:=hid BY
 go_wp2_with fail
 refine htx.out.mono ?_
 rintro e w4 ⟨rfl,rfl⟩
 have hmp:=(BY.out.mapA 5 tu).box #[.int .u8 32,.int .u8 64,.int .u8 128] 5
 rw[show(w4.alloc (Obj.map #[] 0)).heap.size=w4.heap.size+1 by simp]at hmp
 have Rj: ∀j,j<3->∀wr,On Nob w (aa [ae (w4.heap.size+1) 5 #[.int .u8 32,.int .u8 64,.int .u8 128],jQc 5 tu w4.heap.size j (flF bc j),ae w.heap.size 43 #[.string ⟨#[]⟩,(0:Int),(0:Int),.bool false,.bool false,.bool false]]) wr->
  ∃w',(Instr.mapUpdate 220 (.map (some w4.heap.size)) (.int .u8 (mA j)) (.int .i64 (bits .and .u8 (bc.toNat:Int) (mA j)))).run prog wr = .ok () w'∧
   On Nob w (aa [ae (w4.heap.size+1) 5 #[.int .u8 32,.int .u8 64,.int .u8 128],jQc 5 tu w4.heap.size (j+1) (flF bc (j+1)),ae w.heap.size 43 #[.string ⟨#[]⟩,(0:Int),(0:Int),.bool false,.bool false,.bool false]]) w':=λj hj wr ho=>by
  obtain⟨F1,hM⟩:=ho.at_ 1 rfl
  obtain⟨w',hr,hq⟩:=I8 bc j hj hM
  exact⟨w',hr,ho.qX 1 rfl hq⟩
 have h0f:flF bc 0=λ_=>none:=by
  funext k
  cases k<;>try rfl
  rename_i q n
  cases q<;>simp[flF]
 rw[<-h0f]at hmp
 replace⟨h0f,Rj,hmp⟩:=iC h0f Rj hmp
 go_wp2_with fail
 go_loopg [89] 3 (λk t wr=> ∃j:Nat,j+k=3∧t = .int .i64 (j:Int)∧On Nob w (aa [ae (w4.heap.size+1) 5 #[.int .u8 32,.int .u8 64,.int .u8 128],jQc 5 tu w4.heap.size j (flF bc j),ae w.heap.size 43 #[.string ⟨#[]⟩,(0:Int),(0:Int),.bool false,.bool false,.bool false]]) wr)
 case atStart=>exact⟨0,by omega,rfl,hmp.out⟩
 case round=>
  obtain⟨j,hj,rfl,RC⟩:=hrel
  have hrw:=RC.ab 0 rfl
  by_cases hj3:j<3
  ·obtain⟨w5,hjg,ho5⟩:=Rj.out j hj3 wr RC
   have h3:j=0∨j=1∨j=2:=by omega
   have r0:=hrw.cell 0
   have r1:=hrw.cell 1
   have r2:=hrw.cell 2
   replace⟨RC,ho5⟩:=iB RC ho5
   clear hrw
   rcases h3 with rfl|rfl|rfl
   all_goals
    simp only[mA]at hjg
    go_wp2_with fail
    go_roundg (gk-1)
    case measure=>omega
    case rel=>exact⟨_,by omega,by go_num,ho5.out⟩
  ·have TJ:j=3:=by omega
   subst TJ
   clear hrw
   have hod:=RC.drew
   obtain⟨F1,hM⟩:=hod.at_ 1 rfl
   have k64:=ma bc 64 oM hM
   have k32:=ma bc 32 oM hM
   have hh3:=ma bc 128 oM hM
   obtain⟨z0,z1,z2,z3,z4,z5,zf⟩:=RC.tail.tail.six
   have IS:=(RC.tail.tail.Ob (.string nm) (.int .i64 (p:Int)) (.int .i64 (u:Int)) (.bool (bc.toNat/64 % 2==1)) (.bool (bc.toNat/32 % 2==1)) (.bool (bc.toNat/128==1))).drew
   have Z4:=((((((RC.setAt 2 rfl 0 (.string nm)).setAt 2 rfl 1 (.int .i64 (p:Int))).setAt 2 rfl 2 (.int .i64 (u:Int))).setAt 2 rfl 3 (.bool (bc.toNat/64 % 2==1))).setAt 2 rfl 4 (.bool (bc.toNat/32 % 2==1))).setAt 2 rfl 5 (.bool (bc.toNat/128==1))).drew
   obtain⟨F2,hM2⟩:=Z4.at_ 1 rfl
   have j64:=ma bc 64 oM hM2
   have j32:=ma bc 32 oM hM2
   have hgR:=ma bc 128 oM hM2
   have hi3:=hid (WG.out wr.drew)
   have q0:=zf 0
   have q1:=zf 1
   have q2:=zf 2
   have q3:=zf 3
   have q4:=zf 4
   have q5:=zf 5
   replace IS:=hid IS
   clear Z4 hM2 hod hM RC Rj hmp c0 hgS hnz hu2 t1 hbc htx hmm Ta Sv h0f f4 f5 f6 f7 f8 f9 ha SF h1 h2 h3 hen zf h
   generalize bits .and .u8 (bc.toNat:Int) 64=x64 at *
   generalize bits .and .u8 (bc.toNat:Int) 32=x32 at *
   generalize bits .and .u8 (bc.toNat:Int) 128=x128 at *
   generalize (bc.toNat/64 % 2==1)=b64 at *
   generalize (bc.toNat/32 % 2==1)=b32 at *
   generalize (bc.toNat/128==1)=b128 at *
   go_wp2_with fail
   have J:=hid (And.intro j64 (And.intro j32 hgR))
   clear j64 j32 hgR
   have hh9:prog.follows .mixedOrders=true:=by kernel_rfl
   refine wp_region_held_drew (S:=λw'=>(Instr.lookup 220 (.map (some w4.heap.size)) (.int .u8 64) false).run prog w' = .ok (.int .i64 x64) w'∧(Instr.lookup 220 (.map (some w4.heap.size)) (.int .u8 32) false).run prog w' = .ok (.int .i64 x32) w'∧(Instr.lookup 220 (.map (some w4.heap.size)) (.int .u8 128) false).run prog w' = .ok (.int .i64 x128) w') hh9 ⟨k64,k32,hh3⟩ (λhaN=> ?_)
   refine tkL 17 ?_
   (try simp only[go_sem])
   refine tkL 0 ?_
   (try simp only[go_sem])
   refine tkL 1 ?_
   (try simp only[go_sem])
   refine tkL 2 ?_
   (try simp only[go_sem])
   refine tkL 3 ?_
   (try simp only[go_sem])
   refine tkL 4 ?_
   (try simp only[go_sem])
   refine tkL 5 ?_
   (try simp only[go_sem])
   refine tkL 7 ?_
   (try simp only[go_sem])
   refine tkL 8 ?_
   (try simp only[go_sem])
   refine tkL 9 ?_
   (try simp only[go_sem])
   refine tkL 10 ?_
   (try simp only[go_sem])
   refine tkL 11 ?_
   (try simp only[go_sem])
   refine tkL 12 ?_
   (try simp only[go_sem])
   refine tkL 13 ?_
   (try simp only[go_sem])
   refine tkL 14 ?_
   (try simp only[go_sem])
   refine tkL 15 ?_
   (try simp only[go_sem])
   refine wpAnyH_ready (rs:=[6]) kR (by simp) ?_
   refine AllReadyH.cons rfl (λK hK=> ?_) AllReadyH.nil
   go_simp
   go_at_call 120
   refine hi3.out.mono ?_
   rintro e w5 ⟨rfl,rfl⟩
   refine hK.out _ _ ?_ (λhaN=> ?_)
   ·exact haN
   clear hK K
   refine tkL 16 ?_
   (try simp only[go_sem])
   refine wpAnyH_ready (rs:=[18]) kR (by simp) ?_
   refine AllReadyH.cons rfl (λK hK=> ?_) AllReadyH.nil
   go_simp
   refine hK.out _ _ ?_ (λhaN=> ?_)
   ·exact J.out
   clear hK K haN
   refine wpAnyH_ready (rs:=[19]) kR (by simp) ?_
   refine AllReadyH.cons rfl (λK hK=> ?_) AllReadyH.nil
   go_simp
   refine hK.out _ _ ?_ (λhaN=> ?_)
   ·exact J.out
   clear hK K haN
   refine wpAnyH_ready (rs:=[20]) kR (by simp) ?_
   refine AllReadyH.cons rfl (λK hK=> ?_) AllReadyH.nil
   go_simp
   refine hK.out _ _ ?_ (λhaN=> ?_)
   ·exact J.out
   clear hK K haN
   refine wpAnyH_done kR ?_ _
   go_wp2
   exact bodyPost_ret (qW IS.out _ _ _ rfl rfl rfl) rfl ⟨rfl,IS.out.dY⟩
end
theorem JS(l:List UInt8):V64 (ofB l):=by unfold ofB V64 wrap64;omega
section
variable {w w1:World}{F:Nat->Prop}{g gI gb fr en:Nat}{D:Dc}{S:Img}
theorem OA(hs:Blk w g 123 (cm gI fr en (D.h:Int) (D.l:Int)))(hi:b9 w gI gb S)(h8:At8 S D fr en)(a:Int)(ha:V64 a):
 Calls prog 91 #[g,a] w (Quiet (gX (eB S D a)) w):=by
 have hle:=h8.le
 have Sg:=h8.lo
 by_cases ho:a % 8≠0∨a<fr∨(en:Int) <a+16
 ·have e:eB S D a=none:=by unfold eB;rw[h8.fr,h8.lim,if_pos ho]
  rw[e]
  exact J4 hs hle oM a ha ho
 obtain⟨p,rfl⟩: ∃p:Nat,a=p:=⟨a.toNat,by omega⟩
 have h1:fr<=p:=by omega
 have h2:p+16<=en:=by omega
 have h3:p % 8=0:=by omega
 have Se:=Mp hs hi h8 p h1 h2 h3
 have e:eB S D (p:Int)= (if(S.b.getD (p+8) 0).toNat % 32=0∨en<up (p+9+ (S.b.getD (p+8) 0).toNat % 32)then none
  else some (⟨(S.b.drop (p+9)).take ((S.b.getD (p+8) 0).toNat % 32),p,up (p+9+ (S.b.getD (p+8) 0).toNat % 32),(S.b.getD (p+8) 0).toNat/64 % 2==1,(S.b.getD (p+8) 0).toNat/32 % 2==1,(S.b.getD (p+8) 0).toNat/128==1⟩,ofB ((S.b.drop p).take 8))):=by
  unfold eB
  rw[h8.fr,h8.lim,if_neg ho]
  rfl
 rw[e]
 by_cases h0: (S.b.getD (p+8) 0).toNat % 32=0
 ·rw[if_pos (.inl h0)]
  exact DY p _ _ Se h1 h2 h3 hle h0
 by_cases hf:en<up (p+9+ (S.b.getD (p+8) 0).toNat % 32)
 ·rw[if_pos (.inr hf)]
  exact Ic p _ _ Se h1 h2 h3 hle h0 hf
 rw[if_neg (by rintro(h|h);exact h0 h;exact hf h)]
 have hu:=ee (p+9+ (S.b.getD (p+8) 0).toNat % 32)
 have hT:S.text 0 ((p:Int) +9) (((S.b.getD (p+8) 0).toNat % 32:Nat):Int)= ⟨((S.b.drop (p+9)).take ((S.b.getD (p+8) 0).toNat % 32)).toArray⟩:=by
  have hr:=h8.ok.aO (p+9) ((S.b.getD (p+8) 0).toNat % 32) (by rw[h8.fr];omega) (by rw[h8.lim];omega) h0 false
  have hF:S.cD 0 ((p:Int) +9) (((S.b.getD (p+8) 0).toNat % 32:Nat):Int)=0:=by
   unfold Img.cD
   rw[if_neg oM,Int.toNat_natCast,show(p:Int) +9= ((p+9:Nat):Int)by omega,hr]
   rfl
  unfold Img.text
  rw[if_pos hF,Int.toNat_natCast,show(p:Int) +9= ((p+9:Nat):Int)by omega]
  rfl
 exact Ea p _ _ Se h1 h2 h3 hle h0 hf _ hT
def fB(l:List Wd):List Value:=l.flatMap λx=>x.c.toList
theorem xR(l:List Wd)(x:Wd):fB (l ++ [x])=fB l++x.c.toList:=by simp[fB]
def pF(v:Value)(l:List Wd):Asr:=iv 43 6 v l.length (fB l)
theorem DE: (prog.info? 43).map (λi=>(i.zero,i.size,i.bytes))=some (some (.agg #[.string ⟨#[]⟩,(0:Int),(0:Int),.bool false,.bool false,.bool false]),6,40):=by kernel_rfl
theorem Jn(x:Wd): ∀u∈x.c.toList,u.oneCell'=true:=by
 intro u hu
 unfold Wd.c at hu
 simp only[List.mem_cons,List.mem_nil_iff,or_false]at hu
 rcases hu with rfl|rfl|rfl|rfl|rfl|rfl<;>rfl
theorem On.oC{w w' Ut:World}{F:Nat->Prop}{L:List Asr}(i:Nat){e:TypeId}{size n n':Nat}{v v':Value}{xs xs':List Value}(h:On F w (aa L) w')(hA:L[i]? = some (iv e size v n xs))(R6:Ut.ownsRow 0 e size v' n' xs')(hg:w'.grownBy Ut v.ownBlock)
 (SU: ∀k,v'.ownBlock=some k->v.ownBlock=some k∨w'.heap.size<=k):On F w (aa (L.set i (iv e size v' n' xs'))) Ut:=
 h.qX i hA λF' ha=>⟨λk=>v'.ownBlock=some k,⟨R6,λ_=>Iff.rfl⟩,(Kept.refl F' w').grown hg (λk hv=> .inl ((ha.2 k).2 hv)),λk hk=>(SU k hk).imp (λh=>(ha.2 k).2 h) id⟩
theorem lV{v:Value}{sg n cap H:Nat}(h:v.ownBlock=some sg∨sg=H): ∀k,(Value.slice sg n cap).ownBlock=some k->v.ownBlock=some k∨H<=k:=by
 intro k hk
 have hk:some sg=some k:=hk
 cases hk
 rcases h with h|h
 ·exact .inl h
 ·exact .inr oM
theorem x8{w w2 w3:World}{v0:Value}{done:List Wd}{x:Wd}{sg cap H:Nat}{cs:List Value}(so:On Nob w (aa [pF v0 done]) w2)(hG:w3.ownsRow 0 43 6 (.slice sg (done.length+1) cap) (done.length+1) (fB done++cs))(RN:w2.grownBy w3 v0.ownBlock)(SU:v0.ownBlock=some sg∨sg=H)
 (Sy:fB (done ++ [x])=fB done++cs) (hl: (done ++ [x]).length=done.length+1) (hH:H=w2.heap.size:=by simp):On Nob w (aa [pF (.slice sg (done.length+1) cap) (done ++ [x])]) w3:=by
 subst hH
 have h:=so.oC 0 rfl hG RN (lV SU)
 unfold pF
 rw[Sy,hl]
 exact h
def yJ(l:List Wd)(w:World)(e:Ending)(w':World):Prop:= ∃v,e = .returned v∧On Nob w (aa [pF v l]) w'
theorem Fk{a:Int}{x:Wd}{n:Int}(h:eB S D a=some (x,n)):8<=a∧V64 n:=by
 unfold eB at h
 by_cases ho:a % 8≠0∨a<D.fr S∨(D.lim S:Int) <a+16
 ·rw[if_pos ho]at h;cases h
 rw[if_neg ho]at h
 have hf:8<=D.fr S:=by unfold Dc.fr;omega
 refine⟨by omega,?_⟩
 simp only at h
 split at h
 ·cases h
 ·injection h with h
  injection h with _ h
  rw[<-h]
  exact JS _
theorem Bv(hs:Blk w g 123 (cm gI fr en (D.h:Int) (D.l:Int)))(hi:b9 w gI gb S)(h8:At8 S D fr en):
 Calls prog 66 #[g] w (yJ (words S D) w):=by
 have c4:w.cell? (g,4)=some ((D.l:Int):Vl):=hs.cell 4
 have hl:D.l<=143360:=by have:=h8.ok.l;rw[h8.lim]at this;have:=h8.le;omega
 have hhd: ∀a,V64 a->∀w1,Below w.heap.size w w1->Calls prog 91 #[g,.int .i64 a] w1 (Quiet (gX (eB S D a)) w1):=
  λa ha w1 hb=>OA (hs.below hb hs.lt) ⟨hi.blk.below hb hi.blk.lt,hi.row.below hb hi.row.lt,hi.ok⟩ h8 a ha
 obtain⟨i0,Ur,Us,Uj,SQ⟩:=info_parts DE
 have hv0:V64 (D.l:Int):=by unfold V64;omega
 have Ub:On Nob w (aa [pF (.slice none 0 0) []]) w:=(On.refl (A:=aa []) (F:=Nob) (w:=w) (λ_ h=>h)).zX (F2:=Nob) ⟨World.ownsRow_nil _ _ _ _,λk=>⟨λh=>h.elim,λh=>by cases h⟩⟩ (Kept.refl _ _) (λ_ h=>h.elim)
 replace⟨Ub,hhd,Ur,Us,Uj,SQ,hv0⟩:=iG Ub hhd Ur Us Uj SQ hv0
 clear hs hi h8
 go_enter func66,ntmps66
 go_wp2_with fail
 go_loopg [3,4] (D.l+1) (λgk v t wr=> ∃(v0:Value) (a:Int) (done:List Wd),v0=v∧t = .int .i64 a∧V64 a∧words S D=done++eI S D gk a∧a.toNat<gk∧done.length+gk<=D.l+1∧On Nob w (aa [pF v0 done]) wr)
 case atStart=>exact⟨_,D.l,[],rfl,rfl,hv0.out,rfl,by omega,by simp,Ub.out⟩
 case round=>
  obtain⟨v0,a,done,hv,rfl,hva,hw,hk,hlen,RC⟩:=hrel
  subst hv
  have hq:=hhd.out a hva wr RC.dY
  obtain⟨k',rfl⟩: ∃k',gk=k'+1:=⟨gk-1,by omega⟩
  unfold eI at hw
  rcases hx:eB S D a with _| ⟨x,n⟩
  ·rw[hx]at hq hw
   have WH:Calls prog 91 #[g,a] wr (Quiet (.tuple #[.agg #[.string ⟨#[]⟩,(0:Int),(0:Int),.bool false,.bool false,.bool false],(0:Int),.bool false]) wr):=hq
   simp only[List.append_nil]at hw
   rw[hw]
   replace⟨WH,RC,hw,hx⟩:=iD WH RC hw hx
   clear hq
   go_wp2_with fail
   refine mo WH.out λw2 Rm=>?_
   have BY:=(RC.out.below Rm).alloc (.cells #[.string ⟨#[]⟩,(0:Int),(0:Int),.bool false,.bool false,.bool false] 43)
   replace BY:=hid BY
   clear Rm
   go_wp2
   go_ret
   exact⟨_,rfl,BY.out⟩
  ·have WW:=Fk hx
   rw[hx]at hq hw
   simp only at hw
   have RP:1<=a.toNat:=by omega
   have SM:=Jn x
   have Sy:=xR done x
   have VZ: (done ++ [x]).length=done.length+1:=by simp
   obtain⟨nm,hd,xt,im,hh,il⟩:=x
   have WH:Calls prog 91 #[g,a] wr (Quiet (.tuple #[.agg #[.string ⟨nm.toArray⟩,(hd:Int),(xt:Int),.bool im,.bool hh,.bool il],(n:Int),.bool true]) wr):=hq
   have Uz: ∀u∈[Value.string ⟨nm.toArray⟩,.int .i64 (hd:Int),.int .i64 (xt:Int),.bool im,.bool hh,.bool il],u.oneCell'=true:=SM
   have hcF:fB (done ++ [⟨nm,hd,xt,im,hh,il⟩])=fB done ++ [Value.string ⟨nm.toArray⟩,.int .i64 (hd:Int),.int .i64 (xt:Int),.bool im,.bool hh,.bool il]:=Sy
   clear hq SM Sy hx
   replace⟨WH,RC,Uz,hcF,WW,VZ⟩:=iF WH RC Uz hcF WW VZ
   have R9:done.length+1<=maxLen∧(done.length+1)*40<=140737488355328:=by unfold maxLen;omega
   replace R9:=hid R9
   by_cases hle:a<=n
   ·have hd1:decide (a<=n)=true:=decide_eq_true hle
    rw[if_pos hle]at hw
    replace hw:=hid hw
    go_wp2_with fail
    refine mo WH.out λw2 Rm=>?_
    have BY:=(((RC.out.below Rm).alloc (.cells #[.string ⟨nm.toArray⟩,(hd:Int),(xt:Int),.bool im,.bool hh,.bool il] 43)).alloc (.cells #[.string ⟨nm.toArray⟩,(hd:Int),(xt:Int),.bool im,.bool hh,.bool il] 43))
    obtain⟨F1,hR⟩:=BY.at_ 0 rfl
    have R6:=hR.1
    replace⟨BY,R6⟩:=iB BY R6
    clear Rm hR
    go_wp2_with (at_builtin;refine wpList_append_lies _ rfl (.tmp 22) (.tmp 24) 114 rfl 0 43 i0 (.agg #[.string ⟨#[]⟩,(0:Int),(0:Int),.bool false,.bool false,.bool false]) 6 40 underlying114 Ur.out Us.out Uj.out SQ.out rfl oM v0 done.length (fB done) (by rfl) R6.out ⟨w2.heap.size+1,0,none⟩ 1 1 [.string ⟨nm.toArray⟩,.int .i64 (hd:Int),.int .i64 (xt:Int),.bool im,.bool hh,.bool il] (by rfl) rfl (World.news_of_block (Blk.oS (by simp))) Uz.out oM R9.out.1 R9.out.2 (Nat.zero_le _) (w2.heap.size+1+1) (by simp) ?_;intro sg cap w3 hG RN SU Rd;have Ra:=hid (x8 BY.out hG RN SU hcF.out VZ.out))
    go_ret
    exact⟨_,rfl,by rw[hw.out];exact Ra.out⟩
   ·have hd1:decide (a<=n)=false:=decide_eq_false hle
    rw[if_neg hle]at hw
    replace hw:=hid hw
    go_wp2_with fail
    refine mo WH.out λw2 Rm=>?_
    have BY:=(((RC.out.below Rm).alloc (.cells #[.string ⟨nm.toArray⟩,(hd:Int),(xt:Int),.bool im,.bool hh,.bool il] 43)).alloc (.cells #[.string ⟨nm.toArray⟩,(hd:Int),(xt:Int),.bool im,.bool hh,.bool il] 43))
    obtain⟨F1,hR⟩:=BY.at_ 0 rfl
    have R6:=hR.1
    replace⟨BY,R6⟩:=iB BY R6
    clear Rm hR
    go_wp2_with (at_builtin;refine wpList_append_lies _ rfl (.tmp 22) (.tmp 24) 114 rfl 0 43 i0 (.agg #[.string ⟨#[]⟩,(0:Int),(0:Int),.bool false,.bool false,.bool false]) 6 40 underlying114 Ur.out Us.out Uj.out SQ.out rfl oM v0 done.length (fB done) (by rfl) R6.out ⟨w2.heap.size+1,0,none⟩ 1 1 [.string ⟨nm.toArray⟩,.int .i64 (hd:Int),.int .i64 (xt:Int),.bool im,.bool hh,.bool il] (by rfl) rfl (World.news_of_block (Blk.oS (by simp))) Uz.out oM R9.out.1 R9.out.2 (Nat.zero_le _) (w2.heap.size+1+1) (by simp) ?_;intro sg cap w3 hG RN SU Rd;have Ra:=hid (x8 BY.out hG RN SU hcF.out VZ.out))
    go_roundg k'
    case measure=>omega
    case rel=>exact⟨_,n,done ++ [⟨nm,hd,xt,im,hh,il⟩],rfl,rfl,WW.out.2,by rw[hw.out,List.append_assoc];rfl,by have:=WW.out.1;omega,by rw[VZ.out];omega,Ra.out⟩
end
section
variable {w w1:World}{F:Nat->Prop}{g gb bg en cap:Nat}{cl:Bool}{D:Dc}{S:Img}
theorem oV.lt(h:oV w g gb bg en cap cl D):g<w.heap.size:=World.block_lt_of_cell? w _ h.c0
theorem oV.below(h:oV w g gb bg en cap cl D)(hb:Below w.heap.size w w1):oV w1 g gb bg en cap cl D:=
 have hl:=h.lt
 ⟨(hb.cell (p:=⟨g,0,none⟩) hl).trans h.c0,(hb.cell (p:=⟨g,1,none⟩) hl).trans h.c1,(hb.cell (p:=⟨g,2,none⟩) hl).trans h.c2,(hb.cell (p:=⟨g,3,none⟩) hl).trans h.c3,(hb.cell (p:=⟨g,4,none⟩) hl).trans h.c4,λi=>(hb.frozen (p:=⟨g,i,none⟩) hl).trans (h.fr i)⟩
end
section
variable {w w1:World}{F:Nat->Prop}{g gb bg en cap:Nat}{cl:Bool}{D:Dc}{S:Img}
structure ID(w:World)(g gb bg en cap:Nat)(cl:Bool)(D:Dc)(S:Img)(p:Nat):Prop where
 rd:oV w g gb bg en cap cl D
 by_:Blk w gb 5 (ah S.b).toArray
 lo:bg+8<=p
 hi:p+16<=en
 al:p % 8=0
 en_:en<=S.b.length
 sm:en<=143360
 cp:en-bg<=cap
theorem ID.below{p:Nat}(h:ID w g gb bg en cap cl D S p)(hb:Below w.heap.size w w1):ID w1 g gb bg en cap cl D S p:=⟨h.rd.below hb,h.by_.below hb h.by_.lt,h.lo,h.hi,h.al,h.en_,h.sm,h.cp⟩
theorem ID.byte{p:Nat}(h:ID w g gb bg en cap cl D S p)(k:Nat)(hk:k<en):w.cell? (gb,k)=some (.int .u8 ((S.b.getD k 0).toNat:Int)):=by
 have h1:=h.en_
 rw[h.by_.cell]
 simp[ah,show k<S.b.length by omega]
end
section
variable {w w1:World}{F:Nat->Prop}{g gb bg en cap:Nat}{cl:Bool}{D:Dc}{S:Img}
theorem C4(N v:Nat)(hN:N<72057594037927936)(hv:v<256):bits .or .u64 (IntKind.u64.wrap ((N:Int)*256)) (IntKind.u64.wrap (v:Int))= ((v+256*N:Nat):Int):=by
 have e1:IntKind.u64.wrap ((N:Int)*256)= ((N*256:Nat):Int):=by rw[IntKind.wrap_u64];omega
 have e2:IntKind.u64.wrap (v:Int)= ((v:Nat):Int):=by rw[IntKind.wrap_u64];omega
 rw[e1,e2,u64_or _ _ oM oM oM oM,Int.toNat_natCast,Int.toNat_natCast]
 have h:=Nat.shiftLeft_add_eq_or_of_lt (i:=8) (b:=v) hv N
 rw[Nat.shiftLeft_eq]at h
 rw[<-h]
 omega
end
section
variable {w w1:World}{F:Nat->Prop}{g gb bg en cap:Nat}{cl:Bool}{D:Dc}{S:Img}
structure Py(w:World)(g gb bg en cap:Nat)(cl:Bool)(D:Dc)(S:Img):Prop where
 rd:oV w g gb bg en cap cl D
 by_:Blk w gb 5 (ah S.b).toArray
 h8:At8 S D (bg+8) en
 cp:en-bg<=cap
theorem Py.below(h:Py w g gb bg en cap cl D S)(hb:Below w.heap.size w w1):Py w1 g gb bg en cap cl D S:=⟨h.rd.below hb,h.by_.below hb h.by_.lt,h.h8,h.cp⟩
