/- Chapter 11: what is made ahead of each law: the calls that make. Conditions: as written. -/
import Derived.Test.YtjohhkikoejadaaGreatDoorZ02
import Derived.Test.YtjohhkikoejadaaGreatDoorZ35
import Derived.Test.YtjohhkikoejadaaGreatDoorZ23
import Derived.Test.YtjohhkikoejadaaGreatDoorZ32
namespace Go.Proofs.YtjohhkikoejadaaGreatDoor
set_option linter.unusedVariables false
set_option linter.unusedSimpArgs false
set_option maxHeartbeats 8000000
set_option maxRecDepth 100000
open Go.RowKit Go.Lib Go.Deep
namespace Vm
theorem j6(c n:Int)(w:World)(hc:V64 c)(hn:0<n∧n<=9223372036854775807) :
 Calls Tryz.prog 5 #[c,n] w (aA (dG c n) w):=by
 obtain⟨hc1,hc2⟩:=hc
 by_cases h:c<0
 ·have e:dG c n= (-(c+1)).tmod n:=by unfold dG;rw[if_pos h,Int.tmod_eq_emod_of_nonneg (by omega)]
  rw[e]
  clear e
  go_enter Tryz.func5,Tryz.ntmps5
  go_wp2
  go_ret
  exact⟨by rw[Int.neg_tmod];rfl,rfl⟩
 ·have e:dG c n=c.tmod n:=by unfold dG;rw[if_neg h,Int.tmod_eq_emod_of_nonneg (by omega)]
  rw[e]
  clear e
  go_enter Tryz.func5,Tryz.ntmps5
  go_wp2
  go_ret
  exact⟨by rw[Int.tmod_eq_emod_of_nonneg (by omega)];rfl,rfl⟩
theorem BH(p r:Int)(s:ByteArray)(hs:s.size<=4096) :Caps.cC (dG p 32) (dG r 65537) s=0:=by
 unfold Caps.cC dG
 have h1:=Int.emod_nonneg (if p<0 then -(p+1)else p) (show(32:Int)≠0 by omega)
 have h2:=Int.emod_lt_of_pos (if p<0 then -(p+1)else p) (show(0:Int) <32 by omega)
 have h3:=Int.emod_nonneg (if r<0 then -(r+1)else r) (show(65537:Int)≠0 by omega)
 have h4:=Int.emod_lt_of_pos (if r<0 then -(r+1)else r) (show(0:Int) <65537 by omega)
 rw[if_neg (by omega),if_neg (by omega)]
theorem MN(w:World) :Calls Tryz.prog 17 #[ow] w (b8 (λe B=> ∃g,e = .returned (.tuple #[.pointer (some ⟨g,0,none⟩),(0:Int)])∧B=au g bQ) Nob w):=
 jt (w:=w) (R:=λe B=> ∃g,e = .returned (.tuple #[.pointer (some ⟨g,0,none⟩),(0:Int)])∧B=au g bQ) λw0 L h=>(Of h 16384 64 512 128 64 oA).mono λe w' ⟨g,he,h2⟩=>⟨_,⟨g,he,rfl⟩,h2⟩
theorem MH(w:World)(p r:Int)(s:ByteArray)(h0:Caps.cC p r s=0) :Calls Tryz.prog 18 #[p,r,.string s] w (b8 (λe B=> ∃g,e = .returned (.tuple #[.pointer (some ⟨g,0,none⟩),(0:Int)])∧B=de g (Caps.made p r s)) Nob w):=
 jt (w:=w) (R:=λe B=> ∃g,e = .returned (.tuple #[.pointer (some ⟨g,0,none⟩),(0:Int)])∧B=de g (Caps.made p r s)) λw0 L h=>(NK h p r s h0).mono λe w' ⟨g,he,h2⟩=>⟨_,⟨g,he,rfl⟩,h2⟩
section
variable {w W:World}{F:Nat->Prop}{X:Asr}{A:Option Addr}{l:List Int}{xs:List Wrd}
theorem gq.late(h:gq w.heap.size w Nob A xs)(hon:On Nob w X W)(F':Nat->Prop)(hF : ∀k,F' k->Nob k∨w.heap.size<=k) :gq W.heap.size W F' A xs:=by
 intro j x hx
 obtain⟨rb,o,Ax,cp,hi⟩:=h j x hx
 have ho:=hi.on hon
 have hsz:w.heap.size<=W.heap.size:=hon.cg.size
 refine⟨rb,o,Ax,cp,⟨ho.at_,λhk=> ?_,ho.c0,ho.c1,ho.c2,ho.c3,ho.ints,λhne a ha=>⟨λhk=> ?_,?_⟩,ho.name,ho.v64,ho.len⟩⟩
 ·rcases hF rb hk with h1|h1
  ·exact h1
  ·have:=World.block_lt_of_cell? w _ hi.c0
   exact absurd this (by show¬rb<_;omega)
 ·have h3:=(hi.Dn hne a ha).2
  rcases hF _ hk with h1|h1
  ·exact h1
  ·omega
 ·have h3:=(hi.Dn hne a ha).2
  omega
theorem ns.late(h:ns w.heap.size w Nob A l)(hon:On Nob w X W)(F':Nat->Prop)(hF : ∀k,F' k->Nob k∨w.heap.size<=k) :ns W.heap.size W F' A l:=by
 refine⟨λj v hv=> ?_,h.v64,h.len⟩
 obtain⟨rb,o,ha,hk,hc⟩:=h.ints j v hv
 refine⟨rb,o,ha,λhk=> ?_,hon.er hc (λh=>h)⟩
 rcases hF rb hk with h1|h1
 ·exact h1
 ·have:=World.block_lt_of_cell? w _ hc
  exact absurd this (by show¬rb<_;omega)
end
structure dU(w:World)(s:Setup)(m:Sl) :Prop where
 kw:gq w.heap.size w Nob m.kA s.kernel
 sw:gq w.heap.size w Nob m.sA s.aN
 dw:ns w.heap.size w Nob m.dA s.data
 rw_:ns w.heap.size w Nob m.rA s.ret
 kl:s.kernel.length<=9223372036854775807
 sl:s.aN.length<=9223372036854775807
 aQ:V64 s.aQ
 room:V64 s.room
 base:V64 s.base
 inp:s.input.size<=9223372036854775807
 hid:s.hidden.size<=9223372036854775807
def Setup.cut(s:Setup) :Setup:={ s with input:=s.inp,hidden:=s.hid }
theorem Setup.uV(s:Setup) :s.inp.size<=4096:=by
 unfold Setup.inp Setup.gy
 split
 ·decide
 ·rename_i h
  simp at h
  exact h.1
theorem Setup.uZ(s:Setup) :s.hid.size<=64:=by
 unfold Setup.hid Setup.gy
 split
 ·decide
 ·rename_i h
  simp at h
  exact h.2
structure Mw where
 bx:Nat
 sc:Array Value
 v2:Value
 ws:Value
 gD:Nat
 gR:Nat
def mdL(a:Mw)(b:Bc)(r:Rc)(mc:Array Value)(SP:Img)(x:Rw) :List Asr:=
 ae a.bx 25 a.sc::jS 77 1 a.v2 2 (lF [r.gS,r.gK]) ::jU a.ws [b.gS,b.gK] ::ae b.gP 140 mg::de b.gT x.T::DcA b.gI b.gS 16456 16960 x.D::DcA b.gI b.gK 8 16384 x.K ::
  ae b.gB 41 (eK b (.slice none 0 0)) ::ae b.gM 108 mc::cR b.gI a.gD pd0 x.dd::cR b.gI a.gR pr0 x.rd::au b.gI SP::iP r r.gS a.v2 x
def I8(a:Mw)(b:Bc)(r:Rc)(mc:Array Value)(S:Img)(x:Rw) :List Asr:=
 [ae a.bx 25 a.sc,jS 77 1 a.v2 2 (lF [r.gS,r.gK]),jU a.ws [b.gS,b.gK],ae b.gP 140 mg,de b.gT x.T,ae b.gM 108 mc,cR b.gI a.gD pd0 x.dd,cR b.gI a.gR pr0 x.rd,
  sD r.gC x.T,aa (fe r.gR r.gRr x.rd 3 4 x.ra),aa (fe r.gD r.gDr x.dd 1 2 x.da),ae r.gT 166 (qZ 0 0 1 0 true),ae r.gM 120 (aI r.gb S)]
def M5(a:Mw)(b:Bc)(r:Rc)(x:Rw) :List Asr:=
 [ae a.bx 25 a.sc,jS 77 1 a.v2 2 (lF [r.gS,r.gK]),jU a.ws [b.gS,b.gK],ae b.gP 140 mg,de b.gT x.T,DcA b.gI b.gS 16456 16960 x.D,DcA b.gI b.gK 8 16384 x.K,
  sD r.gC x.T,bz r.gS r.gb 16448 16960 704 false x.D,bz r.gK r.gb 0 16384 17152 x.kcl x.K,ae r.gT 166 (qZ 0 0 1 0 true)]
theorem Oj{w W:World}{F:Nat->Prop}{SB W2 WP TU TA DS DK BO MA SD SR IM WO RF RR RD RS RK RT RI RB:Asr}(h:On F w (aa [SB,W2,WP,TU,TA,DS,DK,BO,MA,SD,SR,IM,WO,RF,RR,RD,RS,RK,RT,RI,RB]) W) :On F w (aa [SB,W2,WP,TU,TA,MA,SD,SR,RF,RR,RD,RT,RI,BO,DS,RS,DK,IM,WO,RK,RB]) W:=by
 replace h:On F w (aa [RB,SB,W2,WP,TU,TA,DS,DK,BO,MA,SD,SR,IM,WO,RF,RR,RD,RS,RK,RT,RI]) W:=h.front 20 rfl
 replace h:On F w (aa [RK,RB,SB,W2,WP,TU,TA,DS,DK,BO,MA,SD,SR,IM,WO,RF,RR,RD,RS,RT,RI]) W:=h.front 18 rfl
 replace h:On F w (aa [WO,RK,RB,SB,W2,WP,TU,TA,DS,DK,BO,MA,SD,SR,IM,RF,RR,RD,RS,RT,RI]) W:=h.front 14 rfl
 replace h:On F w (aa [IM,WO,RK,RB,SB,W2,WP,TU,TA,DS,DK,BO,MA,SD,SR,RF,RR,RD,RS,RT,RI]) W:=h.front 14 rfl
 replace h:On F w (aa [DK,IM,WO,RK,RB,SB,W2,WP,TU,TA,DS,BO,MA,SD,SR,RF,RR,RD,RS,RT,RI]) W:=h.front 10 rfl
 replace h:On F w (aa [RS,DK,IM,WO,RK,RB,SB,W2,WP,TU,TA,DS,BO,MA,SD,SR,RF,RR,RD,RT,RI]) W:=h.front 18 rfl
 replace h:On F w (aa [DS,RS,DK,IM,WO,RK,RB,SB,W2,WP,TU,TA,BO,MA,SD,SR,RF,RR,RD,RT,RI]) W:=h.front 11 rfl
 replace h:On F w (aa [BO,DS,RS,DK,IM,WO,RK,RB,SB,W2,WP,TU,TA,MA,SD,SR,RF,RR,RD,RT,RI]) W:=h.front 12 rfl
 replace h:On F w (aa [RI,BO,DS,RS,DK,IM,WO,RK,RB,SB,W2,WP,TU,TA,MA,SD,SR,RF,RR,RD,RT]) W:=h.front 20 rfl
 replace h:On F w (aa [RT,RI,BO,DS,RS,DK,IM,WO,RK,RB,SB,W2,WP,TU,TA,MA,SD,SR,RF,RR,RD]) W:=h.front 20 rfl
 replace h:On F w (aa [RD,RT,RI,BO,DS,RS,DK,IM,WO,RK,RB,SB,W2,WP,TU,TA,MA,SD,SR,RF,RR]) W:=h.front 20 rfl
 replace h:On F w (aa [RR,RD,RT,RI,BO,DS,RS,DK,IM,WO,RK,RB,SB,W2,WP,TU,TA,MA,SD,SR,RF]) W:=h.front 20 rfl
 replace h:On F w (aa [RF,RR,RD,RT,RI,BO,DS,RS,DK,IM,WO,RK,RB,SB,W2,WP,TU,TA,MA,SD,SR]) W:=h.front 20 rfl
 replace h:On F w (aa [SR,RF,RR,RD,RT,RI,BO,DS,RS,DK,IM,WO,RK,RB,SB,W2,WP,TU,TA,MA,SD]) W:=h.front 20 rfl
 replace h:On F w (aa [SD,SR,RF,RR,RD,RT,RI,BO,DS,RS,DK,IM,WO,RK,RB,SB,W2,WP,TU,TA,MA]) W:=h.front 20 rfl
 replace h:On F w (aa [MA,SD,SR,RF,RR,RD,RT,RI,BO,DS,RS,DK,IM,WO,RK,RB,SB,W2,WP,TU,TA]) W:=h.front 20 rfl
 replace h:On F w (aa [TA,MA,SD,SR,RF,RR,RD,RT,RI,BO,DS,RS,DK,IM,WO,RK,RB,SB,W2,WP,TU]) W:=h.front 20 rfl
 replace h:On F w (aa [TU,TA,MA,SD,SR,RF,RR,RD,RT,RI,BO,DS,RS,DK,IM,WO,RK,RB,SB,W2,WP]) W:=h.front 20 rfl
 replace h:On F w (aa [WP,TU,TA,MA,SD,SR,RF,RR,RD,RT,RI,BO,DS,RS,DK,IM,WO,RK,RB,SB,W2]) W:=h.front 20 rfl
 replace h:On F w (aa [W2,WP,TU,TA,MA,SD,SR,RF,RR,RD,RT,RI,BO,DS,RS,DK,IM,WO,RK,RB,SB]) W:=h.front 20 rfl
 replace h:On F w (aa [SB,W2,WP,TU,TA,MA,SD,SR,RF,RR,RD,RT,RI,BO,DS,RS,DK,IM,WO,RK,RB]) W:=h.front 20 rfl
 exact h
theorem Ow{w W:World}{F:Nat->Prop}{SB W2 WP TU TA MA SD SR RF RR RD RT RI BO DK RK DS IM WO RS RB:Asr}(h:On F w (aa [SB,W2,WP,TU,TA,MA,SD,SR,RF,RR,RD,RT,RI,BO,DK,RK,DS,IM,WO,RS,RB]) W) :On F w (aa [SB,W2,WP,TU,TA,DS,DK,BO,MA,SD,SR,IM,WO,RF,RR,RD,RS,RK,RT,RI,RB]) W:=by
 replace h:On F w (aa [RB,SB,W2,WP,TU,TA,MA,SD,SR,RF,RR,RD,RT,RI,BO,DK,RK,DS,IM,WO,RS]) W:=h.front 20 rfl
 replace h:On F w (aa [RI,RB,SB,W2,WP,TU,TA,MA,SD,SR,RF,RR,RD,RT,BO,DK,RK,DS,IM,WO,RS]) W:=h.front 13 rfl
 replace h:On F w (aa [RT,RI,RB,SB,W2,WP,TU,TA,MA,SD,SR,RF,RR,RD,BO,DK,RK,DS,IM,WO,RS]) W:=h.front 13 rfl
 replace h:On F w (aa [RK,RT,RI,RB,SB,W2,WP,TU,TA,MA,SD,SR,RF,RR,RD,BO,DK,DS,IM,WO,RS]) W:=h.front 16 rfl
 replace h:On F w (aa [RS,RK,RT,RI,RB,SB,W2,WP,TU,TA,MA,SD,SR,RF,RR,RD,BO,DK,DS,IM,WO]) W:=h.front 20 rfl
 replace h:On F w (aa [RD,RS,RK,RT,RI,RB,SB,W2,WP,TU,TA,MA,SD,SR,RF,RR,BO,DK,DS,IM,WO]) W:=h.front 15 rfl
 replace h:On F w (aa [RR,RD,RS,RK,RT,RI,RB,SB,W2,WP,TU,TA,MA,SD,SR,RF,BO,DK,DS,IM,WO]) W:=h.front 15 rfl
 replace h:On F w (aa [RF,RR,RD,RS,RK,RT,RI,RB,SB,W2,WP,TU,TA,MA,SD,SR,BO,DK,DS,IM,WO]) W:=h.front 15 rfl
 replace h:On F w (aa [WO,RF,RR,RD,RS,RK,RT,RI,RB,SB,W2,WP,TU,TA,MA,SD,SR,BO,DK,DS,IM]) W:=h.front 20 rfl
 replace h:On F w (aa [IM,WO,RF,RR,RD,RS,RK,RT,RI,RB,SB,W2,WP,TU,TA,MA,SD,SR,BO,DK,DS]) W:=h.front 20 rfl
 replace h:On F w (aa [SR,IM,WO,RF,RR,RD,RS,RK,RT,RI,RB,SB,W2,WP,TU,TA,MA,SD,BO,DK,DS]) W:=h.front 17 rfl
 replace h:On F w (aa [SD,SR,IM,WO,RF,RR,RD,RS,RK,RT,RI,RB,SB,W2,WP,TU,TA,MA,BO,DK,DS]) W:=h.front 17 rfl
 replace h:On F w (aa [MA,SD,SR,IM,WO,RF,RR,RD,RS,RK,RT,RI,RB,SB,W2,WP,TU,TA,BO,DK,DS]) W:=h.front 17 rfl
 replace h:On F w (aa [BO,MA,SD,SR,IM,WO,RF,RR,RD,RS,RK,RT,RI,RB,SB,W2,WP,TU,TA,DK,DS]) W:=h.front 18 rfl
 replace h:On F w (aa [DK,BO,MA,SD,SR,IM,WO,RF,RR,RD,RS,RK,RT,RI,RB,SB,W2,WP,TU,TA,DS]) W:=h.front 19 rfl
 replace h:On F w (aa [DS,DK,BO,MA,SD,SR,IM,WO,RF,RR,RD,RS,RK,RT,RI,RB,SB,W2,WP,TU,TA]) W:=h.front 20 rfl
 replace h:On F w (aa [TA,DS,DK,BO,MA,SD,SR,IM,WO,RF,RR,RD,RS,RK,RT,RI,RB,SB,W2,WP,TU]) W:=h.front 20 rfl
 replace h:On F w (aa [TU,TA,DS,DK,BO,MA,SD,SR,IM,WO,RF,RR,RD,RS,RK,RT,RI,RB,SB,W2,WP]) W:=h.front 20 rfl
 replace h:On F w (aa [WP,TU,TA,DS,DK,BO,MA,SD,SR,IM,WO,RF,RR,RD,RS,RK,RT,RI,RB,SB,W2]) W:=h.front 20 rfl
 replace h:On F w (aa [W2,WP,TU,TA,DS,DK,BO,MA,SD,SR,IM,WO,RF,RR,RD,RS,RK,RT,RI,RB,SB]) W:=h.front 20 rfl
 replace h:On F w (aa [SB,W2,WP,TU,TA,DS,DK,BO,MA,SD,SR,IM,WO,RF,RR,RD,RS,RK,RT,RI,RB]) W:=h.front 20 rfl
 exact h
theorem Ot{w W:World}{F:Nat->Prop}{SB W2 WP TU TA DS DK BO MA SD SR IM WO RF RR RD RS RK RT RI RB:Asr}(h:On F w (aa [SB,W2,WP,TU,TA,DS,DK,BO,MA,SD,SR,IM,WO,RF,RR,RD,RS,RK,RT,RI,RB]) W) :On F w (aa [SB,W2,WP,TU,TA,DS,DK,RF,RS,RK,RT,BO,MA,SD,SR,IM,WO,RD,RR,RI,RB]) W:=by
 replace h:On F w (aa [RB,SB,W2,WP,TU,TA,DS,DK,BO,MA,SD,SR,IM,WO,RF,RR,RD,RS,RK,RT,RI]) W:=h.front 20 rfl
 replace h:On F w (aa [RI,RB,SB,W2,WP,TU,TA,DS,DK,BO,MA,SD,SR,IM,WO,RF,RR,RD,RS,RK,RT]) W:=h.front 20 rfl
 replace h:On F w (aa [RR,RI,RB,SB,W2,WP,TU,TA,DS,DK,BO,MA,SD,SR,IM,WO,RF,RD,RS,RK,RT]) W:=h.front 16 rfl
 replace h:On F w (aa [RD,RR,RI,RB,SB,W2,WP,TU,TA,DS,DK,BO,MA,SD,SR,IM,WO,RF,RS,RK,RT]) W:=h.front 17 rfl
 replace h:On F w (aa [WO,RD,RR,RI,RB,SB,W2,WP,TU,TA,DS,DK,BO,MA,SD,SR,IM,RF,RS,RK,RT]) W:=h.front 16 rfl
 replace h:On F w (aa [IM,WO,RD,RR,RI,RB,SB,W2,WP,TU,TA,DS,DK,BO,MA,SD,SR,RF,RS,RK,RT]) W:=h.front 16 rfl
 replace h:On F w (aa [SR,IM,WO,RD,RR,RI,RB,SB,W2,WP,TU,TA,DS,DK,BO,MA,SD,RF,RS,RK,RT]) W:=h.front 16 rfl
 replace h:On F w (aa [SD,SR,IM,WO,RD,RR,RI,RB,SB,W2,WP,TU,TA,DS,DK,BO,MA,RF,RS,RK,RT]) W:=h.front 16 rfl
 replace h:On F w (aa [MA,SD,SR,IM,WO,RD,RR,RI,RB,SB,W2,WP,TU,TA,DS,DK,BO,RF,RS,RK,RT]) W:=h.front 16 rfl
 replace h:On F w (aa [BO,MA,SD,SR,IM,WO,RD,RR,RI,RB,SB,W2,WP,TU,TA,DS,DK,RF,RS,RK,RT]) W:=h.front 16 rfl
 replace h:On F w (aa [RT,BO,MA,SD,SR,IM,WO,RD,RR,RI,RB,SB,W2,WP,TU,TA,DS,DK,RF,RS,RK]) W:=h.front 20 rfl
 replace h:On F w (aa [RK,RT,BO,MA,SD,SR,IM,WO,RD,RR,RI,RB,SB,W2,WP,TU,TA,DS,DK,RF,RS]) W:=h.front 20 rfl
 replace h:On F w (aa [RS,RK,RT,BO,MA,SD,SR,IM,WO,RD,RR,RI,RB,SB,W2,WP,TU,TA,DS,DK,RF]) W:=h.front 20 rfl
 replace h:On F w (aa [RF,RS,RK,RT,BO,MA,SD,SR,IM,WO,RD,RR,RI,RB,SB,W2,WP,TU,TA,DS,DK]) W:=h.front 20 rfl
 replace h:On F w (aa [DK,RF,RS,RK,RT,BO,MA,SD,SR,IM,WO,RD,RR,RI,RB,SB,W2,WP,TU,TA,DS]) W:=h.front 20 rfl
 replace h:On F w (aa [DS,DK,RF,RS,RK,RT,BO,MA,SD,SR,IM,WO,RD,RR,RI,RB,SB,W2,WP,TU,TA]) W:=h.front 20 rfl
 replace h:On F w (aa [TA,DS,DK,RF,RS,RK,RT,BO,MA,SD,SR,IM,WO,RD,RR,RI,RB,SB,W2,WP,TU]) W:=h.front 20 rfl
 replace h:On F w (aa [TU,TA,DS,DK,RF,RS,RK,RT,BO,MA,SD,SR,IM,WO,RD,RR,RI,RB,SB,W2,WP]) W:=h.front 20 rfl
 replace h:On F w (aa [WP,TU,TA,DS,DK,RF,RS,RK,RT,BO,MA,SD,SR,IM,WO,RD,RR,RI,RB,SB,W2]) W:=h.front 20 rfl
 replace h:On F w (aa [W2,WP,TU,TA,DS,DK,RF,RS,RK,RT,BO,MA,SD,SR,IM,WO,RD,RR,RI,RB,SB]) W:=h.front 20 rfl
 replace h:On F w (aa [SB,W2,WP,TU,TA,DS,DK,RF,RS,RK,RT,BO,MA,SD,SR,IM,WO,RD,RR,RI,RB]) W:=h.front 20 rfl
 exact h
theorem OA{w W:World}{F:Nat->Prop}{SB W2 WP TU TA DS DK RF RS RK RT BO MA SD SR IM WO RD RR RI RB:Asr}(h:On F w (aa [SB,W2,WP,TU,TA,DS,DK,RF,RS,RK,RT,BO,MA,SD,SR,IM,WO,RD,RR,RI,RB]) W) :On F w (aa [SB,W2,WP,TU,TA,DS,DK,BO,MA,SD,SR,IM,WO,RF,RR,RD,RS,RK,RT,RI,RB]) W:=by
 replace h:On F w (aa [RB,SB,W2,WP,TU,TA,DS,DK,RF,RS,RK,RT,BO,MA,SD,SR,IM,WO,RD,RR,RI]) W:=h.front 20 rfl
 replace h:On F w (aa [RI,RB,SB,W2,WP,TU,TA,DS,DK,RF,RS,RK,RT,BO,MA,SD,SR,IM,WO,RD,RR]) W:=h.front 20 rfl
 replace h:On F w (aa [RT,RI,RB,SB,W2,WP,TU,TA,DS,DK,RF,RS,RK,BO,MA,SD,SR,IM,WO,RD,RR]) W:=h.front 12 rfl
 replace h:On F w (aa [RK,RT,RI,RB,SB,W2,WP,TU,TA,DS,DK,RF,RS,BO,MA,SD,SR,IM,WO,RD,RR]) W:=h.front 12 rfl
 replace h:On F w (aa [RS,RK,RT,RI,RB,SB,W2,WP,TU,TA,DS,DK,RF,BO,MA,SD,SR,IM,WO,RD,RR]) W:=h.front 12 rfl
 replace h:On F w (aa [RD,RS,RK,RT,RI,RB,SB,W2,WP,TU,TA,DS,DK,RF,BO,MA,SD,SR,IM,WO,RR]) W:=h.front 19 rfl
 replace h:On F w (aa [RR,RD,RS,RK,RT,RI,RB,SB,W2,WP,TU,TA,DS,DK,RF,BO,MA,SD,SR,IM,WO]) W:=h.front 20 rfl
 replace h:On F w (aa [RF,RR,RD,RS,RK,RT,RI,RB,SB,W2,WP,TU,TA,DS,DK,BO,MA,SD,SR,IM,WO]) W:=h.front 14 rfl
 replace h:On F w (aa [WO,RF,RR,RD,RS,RK,RT,RI,RB,SB,W2,WP,TU,TA,DS,DK,BO,MA,SD,SR,IM]) W:=h.front 20 rfl
 replace h:On F w (aa [IM,WO,RF,RR,RD,RS,RK,RT,RI,RB,SB,W2,WP,TU,TA,DS,DK,BO,MA,SD,SR]) W:=h.front 20 rfl
 replace h:On F w (aa [SR,IM,WO,RF,RR,RD,RS,RK,RT,RI,RB,SB,W2,WP,TU,TA,DS,DK,BO,MA,SD]) W:=h.front 20 rfl
 replace h:On F w (aa [SD,SR,IM,WO,RF,RR,RD,RS,RK,RT,RI,RB,SB,W2,WP,TU,TA,DS,DK,BO,MA]) W:=h.front 20 rfl
 replace h:On F w (aa [MA,SD,SR,IM,WO,RF,RR,RD,RS,RK,RT,RI,RB,SB,W2,WP,TU,TA,DS,DK,BO]) W:=h.front 20 rfl
 replace h:On F w (aa [BO,MA,SD,SR,IM,WO,RF,RR,RD,RS,RK,RT,RI,RB,SB,W2,WP,TU,TA,DS,DK]) W:=h.front 20 rfl
 replace h:On F w (aa [DK,BO,MA,SD,SR,IM,WO,RF,RR,RD,RS,RK,RT,RI,RB,SB,W2,WP,TU,TA,DS]) W:=h.front 20 rfl
 replace h:On F w (aa [DS,DK,BO,MA,SD,SR,IM,WO,RF,RR,RD,RS,RK,RT,RI,RB,SB,W2,WP,TU,TA]) W:=h.front 20 rfl
 replace h:On F w (aa [TA,DS,DK,BO,MA,SD,SR,IM,WO,RF,RR,RD,RS,RK,RT,RI,RB,SB,W2,WP,TU]) W:=h.front 20 rfl
 replace h:On F w (aa [TU,TA,DS,DK,BO,MA,SD,SR,IM,WO,RF,RR,RD,RS,RK,RT,RI,RB,SB,W2,WP]) W:=h.front 20 rfl
 replace h:On F w (aa [WP,TU,TA,DS,DK,BO,MA,SD,SR,IM,WO,RF,RR,RD,RS,RK,RT,RI,RB,SB,W2]) W:=h.front 20 rfl
 replace h:On F w (aa [W2,WP,TU,TA,DS,DK,BO,MA,SD,SR,IM,WO,RF,RR,RD,RS,RK,RT,RI,RB,SB]) W:=h.front 20 rfl
 replace h:On F w (aa [SB,W2,WP,TU,TA,DS,DK,BO,MA,SD,SR,IM,WO,RF,RR,RD,RS,RK,RT,RI,RB]) W:=h.front 20 rfl
 exact h
section
variable {w W:World}{a:Mw}{b:Bc}{r:Rc}{mc:Array Value}{S SP:Img}{x:Rw}{s:Setup}{m:Sl}{c:Vc}{t:Mt}
def wcX(a:Mw)(r:Rc)(x:Rw) :Array Value:=fo r r.gS a.v2 x.fault x.used x.hidden x.av
theorem LI(h:On Nob w (aa (mdL a b r mc x.S x)) W)(hk:x.kcl=false)(hW:b.gW=r.gW) :On Nob w (aa (I8 a b r mc x.S x++lsK b r (wcX a r x) x.D (x.S,x.K))) W:=by
 obtain⟨xS,xK,xD,xk,xT,xdd,xda,xrd,xra,xf,xu,xh,xt⟩:=x
 obtain rfl:xk=false:=hk
 obtain⟨bB,bI,bK,bS,bT,bP,bM,bW⟩:=b
 obtain rfl:bW=r.gW:=hW
 have h2:=Oj h
 exact h2
theorem LX{p:Img×Dc}{K:Dc}(h:On Nob w (aa (I8 a b r mc x.S x++lsS b r (wcX a r x) K p)) W)(hk:x.kcl=false)(hW:b.gW=r.gW)(ha:Alike x.S p.1) :On Nob w (aa (mdL a b r mc p.1 { x with S:=p.1,K:=K,D:=p.2 })) W:=by
 have e:=mi r.gb ha
 obtain⟨xS,xK,xD,xk,xT,xdd,xda,xrd,xra,xf,xu,xh,xt⟩:=x
 obtain rfl:xk=false:=hk
 obtain⟨bB,bI,bK,bS,bT,bP,bM,bW⟩:=b
 obtain rfl:bW=r.gW:=hW
 unfold I8 at h
 rw[<-show aI r.gb p.1=aI r.gb xS from e]at h
 have h2:=Ow h
 exact h2
theorem Gn(h:On Nob w (aa (mdL a b r mc x.S x)) W)(hk:x.kcl=false)(hW:b.gW=r.gW)(h8:At8 x.S x.K 8 16384)(hsh:x.K.shut x.S=false)(h8d:At8 x.S x.D 16456 16960)(hshd:x.D.shut x.S=false)(hs:dU w s m) :
 Calls Tryz.prog 24 #[b.gB,.agg (ak s m)] W (Got (.returned (.bool true)) (aa (mdL a b r mc (cw s.aN ((cw s.kernel (x.S,x.K)).1,x.D)).1 { x with S:=(cw s.aN ((cw s.kernel (x.S,x.K)).1,x.D)).1,K:=(cw s.kernel (x.S,x.K)).2,D:=(cw s.aN ((cw s.kernel (x.S,x.K)).1,x.D)).2 })) Nob w):=by
 have g1:=fC s.kernel (x.S,x.K) h8.img h8.ok
 have h8d':=h8d.ok.alike g1.al
 have g2:=fC s.aN ((cw s.kernel (x.S,x.K)).1,x.D) g1.img h8d'
 have hal:Alike x.S (cw s.aN ((cw s.kernel (x.S,x.K)).1,x.D)).1:=g1.al.trans g2.al
 have hc:=(LI h hk hW).bE 13 (by simp[I8]) (L':=lsS b r (wcX a r x) (cw s.kernel (x.S,x.K)).2 (cw s.aN ((cw s.kernel (x.S,x.K)).1,x.D))) (λF' hb _ hF=>JA (wcs:=wcX a r x) hb h8 hsh h8d hshd (hs.kw.late h F' hF) (hs.sw.late h F' hF) hs.kl hs.sl rfl rfl)
 refine hc.mono ?_
 rintro e w' ⟨he,h4⟩
 exact⟨he,LX h4 hk hW hal⟩
theorem Lm(h:On Nob w (aa (mdL a b r mc SP x)) W)(hW:b.gW=r.gW) :On Nob w (aa (M5 a b r x++stL b r a.gD a.gR mc (wcX a r x) ⟨SP,x.dd,x.rd,x.S,x.dd,x.da,x.rd,x.ra⟩)) W:=by
 obtain⟨bB,bI,bK,bS,bT,bP,bM,bW⟩:=b
 obtain rfl:bW=r.gW:=hW
 have h2:=Ot h
 exact h2
theorem Mq{y:St}(h:On Nob w (aa (M5 a b r x++stL b r a.gD a.gR mc (wcX a r x) y)) W)(h1:y.d=y.dd)(h2:y.r=y.rd)(hW:b.gW=r.gW) :On Nob w (aa (mdL a b r mc y.S { x with S:=y.R,dd:=y.dd,da:=y.da,rd:=y.rd,ra:=y.ra })) W:=by
 obtain⟨yS,yd,yr,yR,ydd,yda,yrd,yra⟩:=y
 obtain rfl:yd=ydd:=h1
 obtain rfl:yr=yrd:=h2
 obtain⟨bB,bI,bK,bS,bT,bP,bM,bW⟩:=b
 obtain rfl:bW=r.gW:=hW
 have h2:=OA h
 exact h2
theorem Ff(h:On Nob w (aa (mdL a b r (rP c t) SP x)) W)(hc:c.gM=b.gM) :On Nob w (aa (gA c t:: (mdL a b r (rP c t) SP x).eraseIdx 8)) W:=by
 unfold gA
 rw[hc]
 exact h.front 8 rfl
end
section
variable {w W:World}{a:Mw}{b:Bc}{r:Rc}{mc:Array Value}{S SP:Img}{x:Rw}{s:Setup}{m:Sl}{c:Vc}{t:Mt}
theorem GV(h:On Nob w (aa (mdL a b r mc SP x)) W) :Calls Tryz.prog 25 #[b.gI] W (Got (.returned SP.ud) (aa (mdL a b r mc SP.opened x)) Nob w):=
 h.bA 11 rfl λF' hb=>fJ hb λw0 L h=>Lv h
theorem E6(h:On Nob w (aa (mdL a b r mc SP x)) W) :Calls Tryz.prog 29 #[b.gI] W (Got (.returned SP.ud) (aa (mdL a b r mc SP.eA x)) Nob w):=
 h.bA 11 rfl λF' hb=>fJ hb λw0 L h=>LH h
theorem HG(h:On Nob w (aa (mdL a b r mc SP x)) W)(hs:SP.s≠0)(l:ByteArray)(hl:l.size<=SP.s) :Calls Tryz.prog 27 #[b.gI,.string l] W (Got (.returned (.int .i64 0)) (aa (mdL a b r mc (Setup.load SP l.data.toList) x)) Nob w):=
 h.bA 11 rfl λF' hb=>Mu hb hs l hl
theorem FT(h:On Nob w (aa (mdL a b r mc SP x)) W)(hS:x.S.Ok)(hc:x.S.cl=false) :Calls Tryz.prog 26 #[r.gW] W (Got (.returned (.tuple #[])) (aa (mdL a b r mc SP { x with S:={ x.S with op:=true } })) Nob w):=
 h.bE 12 (by simp[mdL]) λF' hb _ _=>LQ hb hS hc
theorem EU(h:On Nob w (aa (mdL a b r mc SP x)) W)(hS:x.S.Ok)(hc:x.S.cl=false) :Calls Tryz.prog 30 #[r.gW] W (Got (.returned (.tuple #[])) (aa (mdL a b r mc SP { x with S:=x.S.eA,kcl:=true })) Nob w):=
 h.bE 12 (by simp[mdL]) λF' hb _ _=>Li hb hS hc
theorem HZ(h:On Nob w (aa (mdL a b r mc SP x)) W)(hS:x.S.Ok)(hs:x.S.s<=4096)(l:ByteArray)(hl:l.size<=x.S.s) :Calls Tryz.prog 28 #[r.gM,.string l] W (Got (.returned (.int .i64 0)) (aa (mdL a b r mc SP { x with S:=Setup.load x.S l.data.toList })) Nob w):=
 h.bE 19 (by simp[mdL,iP]) λF' hb _ _=>LW (On.refl hb) hS l hl hs
def st0(SP:Img)(x:Rw) :St:=⟨SP,x.dd,x.rd,x.S,x.dd,x.da,x.rd,x.ra⟩
def stE(s:Setup)(SP:Img)(x:Rw) :St:=((s.ret.take 8).foldl St.onR ((s.data.take 16).foldl St.onD (st0 SP x))).pU s.base
theorem CS(h:On Nob w (aa (mdL a b r mc SP x)) W)(hW:b.gW=r.gW)(hm0:mc[0]? = some (b.gI:Vl))(hm5:mc[5]? = some (a.gD:Vl))(hm6:mc[6]? = some (a.gR:Vl))
 (hxd:x.dd=0∧x.rd=0) (hda:x.da.length=16) (hra:x.ra.length=8) (hS:SP.Ok) (hL:cJ SP) (hR:x.S.Ok) (hLR:cJ x.S) (hs:dU w s m) :
 Calls Tryz.prog 31 #[b.gB,.agg (ak s m)] W (Got (.returned (.bool true)) (aa (mdL a b r mc (stE s SP x).S { x with S:=(stE s SP x).R,dd:=(stE s SP x).dd,da:=(stE s SP x).da,rd:=(stE s SP x).rd,ra:=(stE s SP x).ra })) Nob w):=by
 have hc:=(Lm h hW).bE 11 (by simp[M5]) (L':=stL b r a.gD a.gR mc (wcX a r x) (stE s SP x)) (λF' hb _ hF=>F0 (wcs:=wcX a r x) hb hm0 hm5 hm6 rfl rfl rfl ⟨hxd.1,hxd.1,hxd.2,hxd.2⟩ hda hra hS hL hR hLR (hs.dw.late h F' hF) (hs.rw_.late h F' hF) hs.base)
 refine hc.mono ?_
 rintro e w' ⟨he,h4⟩
 obtain⟨f1,f2,f3,f4,f5,f6,f7,f8⟩:=je (s.ret.take 8) ((s.data.take 16).foldl St.onD (st0 SP x))
 obtain⟨g1,g2,g3,g4,g5,g6,g7,g8⟩:=gJ (s.data.take 16) (st0 SP x)
 refine⟨he,Mq h4 ?_ ?_ hW⟩
 ·show((s.ret.take 8).foldl St.onR ((s.data.take 16).foldl St.onD (st0 SP x))).d= ((s.ret.take 8).foldl St.onR ((s.data.take 16).foldl St.onD (st0 SP x))).dd
  rw[f4,f5,g1,g2]
  rfl
 ·show((s.ret.take 8).foldl St.onR ((s.data.take 16).foldl St.onD (st0 SP x))).r= ((s.ret.take 8).foldl St.onR ((s.data.take 16).foldl St.onD (st0 SP x))).rd
  rw[f1,f2,g4,g5]
  rfl
end
def bl:Nat->Code->Code
 | 0,c=>c
 | n+1,.seq _ b=>bl n b
 | _+1,c=>c
def aO(a:Mw)(b:Bc)(r:Rc)(x:Rw) :Vc:=
 ⟨b.gM,b.gI,a.gD,a.gR,b.gT,b.gS,b.gK,b.gP,a.ws,.func (.func 34) #[b.gB] #[],16456,16960,8,16384,j0 b,
  λ_=>jU a.ws [b.gS,b.gK] ::ae b.gP 140 mg::jS 77 1 a.v2 2 (lF [r.gS,r.gK]) ::iP r r.gS a.v2 x⟩
def x00:Rw:=⟨bQ,jX,iz,false,Caps.made 0 0 ⟨#[]⟩,0,List.replicate 16 0,0,List.replicate 8 0,0,0,0,false⟩
def Setup.jr(s:Setup) :Caps.Tab:=Caps.made (dG s.aQ 32) (dG s.room 65537) s.inp
theorem JQ{w W:World}{F:Nat->Prop}{A1 A2 A3 A4 A5 A6 A7 A8 A9 A10 A11:Asr}(h:On F w (aa [A1,A2,A3,A4,A5,A6,A7,A8,A9,A10,A11]) W) :On F w (aa [A1,A3,A4,A5,A6,A7,A8,A9,A10,A2,A11]) W:=by
 replace h:On F w (aa [A11,A1,A2,A3,A4,A5,A6,A7,A8,A9,A10]) W:=h.front 10 rfl
 replace h:On F w (aa [A2,A11,A1,A3,A4,A5,A6,A7,A8,A9,A10]) W:=h.front 2 rfl
 replace h:On F w (aa [A10,A2,A11,A1,A3,A4,A5,A6,A7,A8,A9]) W:=h.front 10 rfl
 replace h:On F w (aa [A9,A10,A2,A11,A1,A3,A4,A5,A6,A7,A8]) W:=h.front 10 rfl
 replace h:On F w (aa [A8,A9,A10,A2,A11,A1,A3,A4,A5,A6,A7]) W:=h.front 10 rfl
 replace h:On F w (aa [A7,A8,A9,A10,A2,A11,A1,A3,A4,A5,A6]) W:=h.front 10 rfl
 replace h:On F w (aa [A6,A7,A8,A9,A10,A2,A11,A1,A3,A4,A5]) W:=h.front 10 rfl
 replace h:On F w (aa [A5,A6,A7,A8,A9,A10,A2,A11,A1,A3,A4]) W:=h.front 10 rfl
 replace h:On F w (aa [A4,A5,A6,A7,A8,A9,A10,A2,A11,A1,A3]) W:=h.front 10 rfl
 replace h:On F w (aa [A3,A4,A5,A6,A7,A8,A9,A10,A2,A11,A1]) W:=h.front 10 rfl
 replace h:On F w (aa [A1,A3,A4,A5,A6,A7,A8,A9,A10,A2,A11]) W:=h.front 10 rfl
 exact h
theorem Fa{w W:World}{r:Rc}{gws bx:Nat}{sc:Array Value}(h:On Nob w (aa [aa (ae r.gW 83 (fo r r.gK (.slice gws 1 1) 0 0 0 false) ::ae gws 77 #[r.gK] ::Nu r),ae bx 25 sc]) W) :
 On Nob w (aa [ik r r.gK (.slice gws 1 1) x00,ae gws 77 #[r.gK],ae bx 25 sc]) W:=by
 have h2:=JQ h.flat
 exact On.LL (L1:=iP r r.gK (.slice gws 1 1) x00) h2
def mwX(w:World)(s:Setup)(m:Sl)(v2 ws:Value)(gD gR:Nat) :Mw:=⟨w.heap.size,ak s.cut m,v2,ws,gD,gR⟩
def mcN(a:Mw)(b:Bc) :Array Value:=jd b.gI b.gS b.gT b.gP a.ws (.pointer a.gD) (.pointer a.gR)
def x08(s:Setup) :Rw:={ x00 with T:=s.jr }
def x22(s:Setup) :Rw:={ x08 s with S:=s.t1.1,K:=s.k1.2,D:=s.t1.2 }
def x25(s:Setup) :Rw:={ x22 s with S:=s.i2 }
def x32(s:Setup) :Rw:={ x22 s with S:=s.i3,kcl:=true }
def y32(s:Setup) :St:=stE s.cut s.i3 (x32 s)
def x33(s:Setup) :Rw:={ x32 s with S:=(y32 s).R,dd:=(y32 s).dd,da:=(y32 s).da,rd:=(y32 s).rd,ra:=(y32 s).ra }
def x41(s:Setup) :Rw:={ x33 s with fault:=s.fault,used:=s.used,hidden:=s.cP,av:=true }
def lN(s:Setup)(e:Ending)(B:Asr) :Prop:= ∃(a:Mw) (b:Bc) (r:Rc),b.gW=r.gW∧e = .returned (.pointer b.gB)∧B=aa (mL (aO a b r (x41 s)) s.mt)
def c33(a:Mw)(b:Bc) :Vc:=⟨b.gM,b.gI,a.gD,a.gR,b.gT,b.gS,b.gK,b.gP,a.ws,.nilFunc,16456,16960,8,16384,j0 b,λ_=>[]⟩
def t33(s:Setup) :Mt:={ s.m1 with S:=s.m1.S.setCell 0 16448 s.base }
theorem Lw(s:Setup) : (y32 s).S=s.mt.S∧(y32 s).dd=s.mt.d∧(y32 s).rd=s.mt.r:=by
 obtain⟨f1,f2,f3,f4,f5,f6,f7,f8⟩:=je (s.ret.take 8) ((s.data.take 16).foldl St.onD (st0 s.i3 (x32 s)))
 obtain⟨g1,g2,g3,g4,g5,g6,g7,g8⟩:=gJ (s.data.take 16) (st0 s.i3 (x32 s))
 refine⟨?_,?_,?_⟩
 ·show(((s.ret.take 8).foldl St.onR ((s.data.take 16).foldl St.onD (st0 s.i3 (x32 s)))).S).setCell 0 16448 s.base=_
  rw[f8,g8,g4]
  rfl
 ·show((s.ret.take 8).foldl St.onR ((s.data.take 16).foldl St.onD (st0 s.i3 (x32 s)))).dd=_
  rw[f5,g2]
  rfl
 ·show((s.ret.take 8).foldl St.onR ((s.data.take 16).foldl St.onD (st0 s.i3 (x32 s)))).rd=_
  rw[f2,g5]
  rfl
theorem Ip{w:World}{F:Nat->Prop}{b:Bc}(h: (ae b.gB 41 (eK b (.slice none 0 0))).holds w F) : (j0 b []).holds w F:=
 ⟨.slice none 0 0,F,Nob,h,All.one (A:=jS 45 5 (.slice none 0 0) 0 []) ⟨World.ownsRow_nil _ _ _ _,λk=>⟨λh=>h.elim,λh=>by cases h⟩⟩,λk _ h=>h,λk=>⟨.inl,λh=>h.elim id λh=>h.elim⟩⟩
theorem Lc{w W:World}{F:Nat->Prop}{MA SB W2 WP TU TA DS DK BO SD SR IM WO RF RR RD RS RK RT RI RB:Asr}(h:On F w (aa [MA,SB,W2,WP,TU,TA,DS,DK,BO,SD,SR,IM,WO,RF,RR,RD,RS,RK,RT,RI,RB]) W) :On F w (aa [MA,IM,SD,SR,TA,DS,DK,BO,WP,TU,W2,WO,RF,RR,RD,RS,RK,RT,RI,RB,SB]) W:=by
 replace h:On F w (aa [SB,MA,W2,WP,TU,TA,DS,DK,BO,SD,SR,IM,WO,RF,RR,RD,RS,RK,RT,RI,RB]) W:=h.front 1 rfl
 replace h:On F w (aa [RB,SB,MA,W2,WP,TU,TA,DS,DK,BO,SD,SR,IM,WO,RF,RR,RD,RS,RK,RT,RI]) W:=h.front 20 rfl
 replace h:On F w (aa [RI,RB,SB,MA,W2,WP,TU,TA,DS,DK,BO,SD,SR,IM,WO,RF,RR,RD,RS,RK,RT]) W:=h.front 20 rfl
 replace h:On F w (aa [RT,RI,RB,SB,MA,W2,WP,TU,TA,DS,DK,BO,SD,SR,IM,WO,RF,RR,RD,RS,RK]) W:=h.front 20 rfl
 replace h:On F w (aa [RK,RT,RI,RB,SB,MA,W2,WP,TU,TA,DS,DK,BO,SD,SR,IM,WO,RF,RR,RD,RS]) W:=h.front 20 rfl
 replace h:On F w (aa [RS,RK,RT,RI,RB,SB,MA,W2,WP,TU,TA,DS,DK,BO,SD,SR,IM,WO,RF,RR,RD]) W:=h.front 20 rfl
 replace h:On F w (aa [RD,RS,RK,RT,RI,RB,SB,MA,W2,WP,TU,TA,DS,DK,BO,SD,SR,IM,WO,RF,RR]) W:=h.front 20 rfl
 replace h:On F w (aa [RR,RD,RS,RK,RT,RI,RB,SB,MA,W2,WP,TU,TA,DS,DK,BO,SD,SR,IM,WO,RF]) W:=h.front 20 rfl
 replace h:On F w (aa [RF,RR,RD,RS,RK,RT,RI,RB,SB,MA,W2,WP,TU,TA,DS,DK,BO,SD,SR,IM,WO]) W:=h.front 20 rfl
 replace h:On F w (aa [WO,RF,RR,RD,RS,RK,RT,RI,RB,SB,MA,W2,WP,TU,TA,DS,DK,BO,SD,SR,IM]) W:=h.front 20 rfl
 replace h:On F w (aa [W2,WO,RF,RR,RD,RS,RK,RT,RI,RB,SB,MA,WP,TU,TA,DS,DK,BO,SD,SR,IM]) W:=h.front 11 rfl
 replace h:On F w (aa [TU,W2,WO,RF,RR,RD,RS,RK,RT,RI,RB,SB,MA,WP,TA,DS,DK,BO,SD,SR,IM]) W:=h.front 13 rfl
 replace h:On F w (aa [WP,TU,W2,WO,RF,RR,RD,RS,RK,RT,RI,RB,SB,MA,TA,DS,DK,BO,SD,SR,IM]) W:=h.front 13 rfl
 replace h:On F w (aa [BO,WP,TU,W2,WO,RF,RR,RD,RS,RK,RT,RI,RB,SB,MA,TA,DS,DK,SD,SR,IM]) W:=h.front 17 rfl
 replace h:On F w (aa [DK,BO,WP,TU,W2,WO,RF,RR,RD,RS,RK,RT,RI,RB,SB,MA,TA,DS,SD,SR,IM]) W:=h.front 17 rfl
 replace h:On F w (aa [DS,DK,BO,WP,TU,W2,WO,RF,RR,RD,RS,RK,RT,RI,RB,SB,MA,TA,SD,SR,IM]) W:=h.front 17 rfl
 replace h:On F w (aa [TA,DS,DK,BO,WP,TU,W2,WO,RF,RR,RD,RS,RK,RT,RI,RB,SB,MA,SD,SR,IM]) W:=h.front 17 rfl
 replace h:On F w (aa [SR,TA,DS,DK,BO,WP,TU,W2,WO,RF,RR,RD,RS,RK,RT,RI,RB,SB,MA,SD,IM]) W:=h.front 19 rfl
 replace h:On F w (aa [SD,SR,TA,DS,DK,BO,WP,TU,W2,WO,RF,RR,RD,RS,RK,RT,RI,RB,SB,MA,IM]) W:=h.front 19 rfl
 replace h:On F w (aa [IM,SD,SR,TA,DS,DK,BO,WP,TU,W2,WO,RF,RR,RD,RS,RK,RT,RI,RB,SB,MA]) W:=h.front 20 rfl
 replace h:On F w (aa [MA,IM,SD,SR,TA,DS,DK,BO,WP,TU,W2,WO,RF,RR,RD,RS,RK,RT,RI,RB,SB]) W:=h.front 20 rfl
 exact h
theorem L0{w W:World}{s:Setup}{m:Sl}{v2 ws:Value}{gD gR:Nat}{b:Bc}{r:Rc}
 (h:On Nob w (aa (gA (aO (mwX w s m v2 ws gD gR) b r (x41 s)) s.mt:: (mdL (mwX w s m v2 ws gD gR) b r (mcN (mwX w s m v2 ws gD gR) b) (y32 s).S (x41 s)).eraseIdx 8)) W) :
 On Nob w (aa (mL (aO (mwX w s m v2 ws gD gR) b r (x41 s)) s.mt)) W:=by
 obtain⟨e1,e2,e3⟩:=Lw s
 have h2:=Lc h
 have h3:=h2.drop 20 rfl
 have h4:=On.Nh (A':=j0 b []) 7 h3 rfl (λF'=>Ip)
 have e4: (x41 s).dd=s.mt.d:=e2
 have e5: (x41 s).rd=s.mt.r:=e3
 have h5:On Nob w (aa (mL (aO (mwX w s m v2 ws gD gR) b r (x41 s)) s.mt)) W:=by
  unfold mL
  rw[<-e1,<-e4,<-e5]
  exact h4
 exact h5
end Vm
open Go.RowKit Go.Lib
namespace Vm
theorem dU.cut{w:World}{s:Setup}{m:Sl}(h:dU w s m) :dU w s.cut m:=
 ⟨h.kw,h.sw,h.dw,h.rw_,h.kl,h.sl,h.aQ,h.room,h.base,by have:=s.uV;show s.inp.size<=_;omega,by have:=s.uZ;show s.hid.size<=_;omega⟩
theorem B0(s:Setup) :Alike bQ s.t1.1∧s.t1.1.Ok:=by
 have g1:=fC s.kernel (bQ,jX) jy (ve (Alike.refl _))
 have g2:=fC s.aN (s.k1.1,iz) g1.img (pO g1.al)
 exact⟨g1.al.trans g2.al,g2.img⟩
theorem Ci(s:Setup) :s.i2.Ok∧s.i2.cl=false∧cJ s.i2:=by
 obtain⟨ha,ho⟩:=B0 s
 have hl:=xY.alike ha
 have hc:s.t1.1.cl=false:=ha.cl.trans rfl
 unfold Setup.i2
 split
 ·unfold Img.opened
  rw[if_neg (by rw[hc];decide)]
  exact⟨⟨ho.len,ho.small⟩,hc,⟨hl.k,hl.s,hl.u,hl.d,hl.r⟩⟩
 ·exact⟨ho,hc,hl⟩
theorem nE(s:Setup) : (Setup.load s.i2 s.hid.data.toList).Ok∧(Setup.load s.i2 s.hid.data.toList).cl=false∧cJ (Setup.load s.i2 s.hid.data.toList):=by
 obtain⟨ho,hc,hl⟩:=Ci s
 obtain⟨b2,b3,b4,b5,b6⟩:=hl.fY
 have hn:s.hid.data.toList.length<=64:=by have h1:=s.uZ;rw[Lib.size_eq]at h1;exact h1
 refine⟨cV ho _ _ ?_,hc,iC hl _ _⟩
 rw[b2,b6,hl.s,List.length_append,List.length_replicate]
 omega
theorem lr(s:Setup) :s.i3.Ok∧cJ s.i3:=⟨Img.Ok.nZ (nE s).1,cJ.nZ (nE s).2.2⟩
theorem BD:At8 bQ jX 8 16384:=⟨ve (Alike.refl _),jy,rfl,rfl⟩
theorem Cr:At8 bQ iz 16456 16960:=⟨pO (Alike.refl _),jy,rfl,rfl⟩
theorem Oi{w W:World}{s:Setup}{m:Sl}{v2 ws:Value}{gD gR:Nat}{b:Bc}{r:Rc}(hW:b.gW=r.gW)(hs:dU w s m)(hon:On Nob w (aa (mdL (mwX w s m v2 ws gD gR) b r (mcN (mwX w s m v2 ws gD gR) b) (y32 s).S (x33 s))) W){u0 u6 u7 u8 u9 u10 u11 u14 u15 u16 u17 u18 u19 u20 u21 u22 u23 u24 u25 u26 u27 u28 u29 u30 u31 u32 u33 u34 u35 u36 u37 u38 u39 u40 u41 u42 u43 u44 u45 u46 u47 u48 u49 u50 u51 u52 u53 u54 u55 u56 u57 u58 u59 u60 u61 u62 u63 u64 u65 u66 u67 u68 u69 u70 u71 u72 u73 u74 u75 u76 u77 u78 u79 u80 u81 u82 u83 u84 u85 u86 u87 u88 u89 u90 u91 u92 u93 u94 u95 u96 u97 u98 u99 u100 u101 u102 u103 u104 u105 u106 u107 u108 u109 u110 u111 u112 u113 u114 u115 u116 u117 u118 u119 u120 u121 u122 u123 u124 u125 u126 u127 u128 u129 u130 u131 u132 u133 u134 u135 u136 u137 u138 u139 u140 u141 u142 u143 u144 u145 u146 u147 u148 u149 u150 u151 u152 u153 u154 u155 u156 u157 u158 u159 u160 u161 u162 u163 u164 u165 u166 u167 u168 u169 u170 u171 u172 u173 u174 u175 u176 u177 u178 u179 u180 u181 u182 u183 u184 u185 u186 u187 u188 u189 u190 u191 u192 u193 u194 u195 u196 u197 u198 u199 u200 u201 u202 u203 u204 u205 u206 u207 u208 u209 u210 u211 u212 u213 u214 u215 u216 u217 u218 u219 u220 u221 u222 u223 u224 u225 u226 u227 u228 u229 u230 u231 u232 u233 u234:Value}:Code.wp Tryz.prog (bl 25 (Tryz.f6.body.getD .skip)) (bodyPost Tryz.prog Tryz.f6 (b8 (lN s) Nob w)) ⟨List.toArray (u0 :: .pointer w.heap.size :: .pointer none :: .pointer r.gW :: .bool true :: .pointer b.gI::u6::u7::u8::u9::u10::u11 :: .pointer b.gM :: .pointer b.gB::u14::u15::u16::u17::u18::u19::u20::u21::u22::u23::u24::u25::u26::u27::u28::u29::u30::u31::u32::u33::u34::u35::u36::u37::u38::u39::u40::u41::u42::u43::u44::u45::u46::u47::u48::u49::u50::u51::u52::u53::u54::u55::u56::u57::u58::u59::u60::u61::u62::u63::u64::u65::u66::u67::u68::u69::u70::u71::u72::u73::u74::u75::u76::u77::u78::u79::u80::u81::u82::u83::u84::u85::u86::u87::u88::u89::u90::u91::u92::u93::u94::u95::u96::u97::u98::u99::u100::u101::u102::u103::u104::u105::u106::u107::u108::u109::u110::u111::u112::u113::u114::u115::u116::u117::u118::u119::u120::u121::u122::u123::u124::u125::u126::u127::u128::u129::u130::u131::u132::u133::u134::u135::u136::u137::u138::u139::u140::u141::u142::u143::u144::u145::u146::u147::u148::u149::u150::u151::u152::u153::u154::u155::u156::u157::u158::u159::u160::u161::u162::u163::u164::u165::u166::u167::u168::u169::u170::u171::u172::u173::u174::u175::u176::u177::u178::u179::u180::u181::u182::u183::u184::u185::u186::u187::u188::u189::u190::u191::u192::u193::u194::u195::u196::u197::u198::u199::u200::u201::u202::u203::u204::u205::u206::u207::u208::u209::u210::u211::u212::u213::u214::u215::u216::u217::u218::u219::u220::u221::u222::u223::u224::u225::u226::u227::u228::u229::u230::u231::u232::u233::u234 :: []),[]⟩ W:=by
 conv=>
  arg 2
  unfold Tryz.f6
  dsimp only[bl,Option.getD]
 replace hs:=Lib.hid hs
 have hf:On Nob w (aa (gA (c33 (mwX w s m v2 ws gD gR) b) (t33 s) :: (mdL (mwX w s m v2 ws gD gR) b r (mcN (mwX w s m v2 ws gD gR) b) (y32 s).S (x33 s)).eraseIdx 8)) W:=Ff (c:=c33 (mwX w s m v2 ws gD gR) b) (t:=t33 s) hon rfl
 have hb0:Blk W w.heap.size 25 (ak s.cut m):=hon.ab 0 rfl
 have c10:W.cell? (w.heap.size,10) =some (s.fault:Vl):=hb0.cell 10
 have c11:W.cell? (w.heap.size,11) =some (s.used:Vl):=hb0.cell 11
 have c12:W.cell? (w.heap.size,12) =some (s.cP:Vl):=hb0.cell 12
 have ht:=Lib.hid (Lf hf s.fault s.used s.cP)
 clear hb0
 replace hon:=Lib.hid hon
 replace hf:=Lib.hid hf
 go_wp2_with fail
 refine ht.out.mono ?_
 rintro e w1 ⟨rfl,h1⟩
 have hb1:Blk w1 w.heap.size 25 (ak s.cut m):=h1.ab 1 rfl
 have d10:w1.cell? (w.heap.size,10) =some (s.fault:Vl):=hb1.cell 10
 have d11:w1.cell? (w.heap.size,11) =some (s.used:Vl):=hb1.cell 11
 have d12:w1.cell? (w.heap.size,12) =some (s.cP:Vl):=hb1.cell 12
 have hbw:Blk w1 r.gW 83 (fo r r.gS v2 (x33 s).fault (x33 s).used (x33 s).hidden (x33 s).av):=h1.ab 12 rfl
 have g9:w1.cell? (r.gW,9) =some (.int .i64 (x33 s).fault):=hbw.cell 9
 have g10:w1.cell? (r.gW,10) =some (.int .i64 (x33 s).used):=hbw.cell 10
 have g11:w1.cell? (r.gW,11) =some (.int .i64 (x33 s).hidden):=hbw.cell 11
 have f9:=hbw.frozen 9
 have f10:=hbw.frozen 10
 have f11:=hbw.frozen 11
 have hne:=h1.sk 1 12 (by decide) rfl rfl
 have h2:=((h1.setAt 12 rfl 9 (.int .i64 s.fault)).setAt 12 rfl 10 (.int .i64 s.used)).setAt 12 rfl 11 (.int .i64 s.cP)
 have hwt:=Lib.hid (IY h2 rfl (.func 34) #[b.gB] #[] (j0 b) (aO (mwX w s m v2 ws gD gR) b r (x41 s)).rest)
 replace h1:=Lib.hid h1
 replace h2:=Lib.hid h2
 replace hb1:=Lib.hid hb1
 replace hbw:=Lib.hid hbw
 clear c10 c11 c12 ht hf hon
 go_wp2_with fail
 refine hwt.out.mono ?_
 rintro e w2 ⟨rfl,h3⟩
 have hbw2:=h3.ab 12 rfl
 have g12:w2.cell? (r.gW,12) =some (.bool false):=hbw2.cell 12
 have f12:=hbw2.frozen 12
 have h4:=h3.setAt 12 rfl 12 (.bool true)
 have hfin:=Lib.hid (L0 (s:=s) (m:=m) (v2:=v2) (ws:=ws) (gD:=gD) (gR:=gR) (b:=b) (r:=r) h4)
 clear hwt h2 h4 hbw2
 replace h3:=Lib.hid h3
 go_wp2_with fail
 go_ret
 exact⟨_,⟨_,_,_,hW,rfl,rfl⟩,hfin.out⟩
theorem N2{w W:World}{s:Setup}{m:Sl}{v2 ws:Value}{gD gR:Nat}{b:Bc}{r:Rc}(hW:b.gW=r.gW)(hs:dU w s m)(hon:On Nob w (aa (mdL (mwX w s m v2 ws gD gR) b r (mcN (mwX w s m v2 ws gD gR) b) s.i2 (x25 s))) W){u0 u4 u6 u7 u8 u9 u10 u11 u14 u15 u16 u17 u18 u19 u20 u21 u22 u23 u24 u25 u26 u27 u28 u29 u30 u31 u32 u33 u34 u35 u36 u37 u38 u39 u40 u41 u42 u43 u44 u45 u46 u47 u48 u49 u50 u51 u52 u53 u54 u55 u56 u57 u58 u59 u60 u61 u62 u63 u64 u65 u66 u67 u68 u69 u70 u71 u72 u73 u74 u75 u76 u77 u78 u79 u80 u81 u82 u83 u84 u85 u86 u87 u88 u89 u90 u91 u92 u93 u94 u95 u96 u97 u98 u99 u100 u101 u102 u103 u104 u105 u106 u107 u108 u109 u110 u111 u112 u113 u114 u115 u116 u117 u118 u119 u120 u121 u122 u123 u124 u125 u126 u127 u128 u129 u130 u131 u132 u133 u134 u135 u136 u137 u138 u139 u140 u141 u142 u143 u144 u145 u146 u147 u148 u149 u150 u151 u152 u153 u154 u155 u156 u157 u158 u159 u160 u161 u162 u163 u164 u165 u166 u167 u168 u169 u170 u171 u172 u173 u174 u175 u176 u177 u178 u179 u180 u181 u182 u183 u184 u185 u186 u187 u188 u189 u190 u191 u192 u193 u194 u195 u196 u197 u198 u199 u200 u201 u202 u203 u204 u205 u206 u207 u208 u209 u210 u211 u212 u213 u214 u215 u216 u217 u218 u219 u220 u221 u222 u223 u224 u225 u226 u227 u228 u229 u230 u231 u232 u233 u234:Value}:Code.wp Tryz.prog (bl 20 (Tryz.f6.body.getD .skip)) (bodyPost Tryz.prog Tryz.f6 (b8 (lN s) Nob w)) ⟨List.toArray (u0 :: .pointer w.heap.size :: .pointer none :: .pointer r.gW::u4 :: .pointer b.gI::u6::u7::u8::u9::u10::u11 :: .pointer b.gM :: .pointer b.gB::u14::u15::u16::u17::u18::u19::u20::u21::u22::u23::u24::u25::u26::u27::u28::u29::u30::u31::u32::u33::u34::u35::u36::u37::u38::u39::u40::u41::u42::u43::u44::u45::u46::u47::u48::u49::u50::u51::u52::u53::u54::u55::u56::u57::u58::u59::u60::u61::u62::u63::u64::u65::u66::u67::u68::u69::u70::u71::u72::u73::u74::u75::u76::u77::u78::u79::u80::u81::u82::u83::u84::u85::u86::u87::u88::u89::u90::u91::u92::u93::u94::u95::u96::u97::u98::u99::u100::u101::u102::u103::u104::u105::u106::u107::u108::u109::u110::u111::u112::u113::u114::u115::u116::u117::u118::u119::u120::u121::u122::u123::u124::u125::u126::u127::u128::u129::u130::u131::u132::u133::u134::u135::u136::u137::u138::u139::u140::u141::u142::u143::u144::u145::u146::u147::u148::u149::u150::u151::u152::u153::u154::u155::u156::u157::u158::u159::u160::u161::u162::u163::u164::u165::u166::u167::u168::u169::u170::u171::u172::u173::u174::u175::u176::u177::u178::u179::u180::u181::u182::u183::u184::u185::u186::u187::u188::u189::u190::u191::u192::u193::u194::u195::u196::u197::u198::u199::u200::u201::u202::u203::u204::u205::u206::u207::u208::u209::u210::u211::u212::u213::u214::u215::u216::u217::u218::u219::u220::u221::u222::u223::u224::u225::u226::u227::u228::u229::u230::u231::u232::u233::u234 :: []),[]⟩ W:=by
 conv=>
  arg 2
  unfold Tryz.f6
  dsimp only[bl,Option.getD]
 replace hs:=Lib.hid hs
 obtain⟨ho2,hc2,hl2⟩:=Ci s
 obtain⟨ho,hc,hl⟩:=nE s
 have hhid:=s.uZ
 have hb0:Blk W w.heap.size 25 (ak s.cut m):=hon.ab 0 rfl
 have c3:W.cell? (w.heap.size,3) =some (.string s.hid):=hb0.cell 3
 have hld:=Lib.hid (HG hon (by rw[hl2.s];decide) s.hid (by rw[hl2.s];exact hhid))
 clear hb0
 replace hon:=Lib.hid hon
 go_wp2_with fail
 refine hld.out.mono ?_
 rintro e w1 ⟨rfl,h1⟩
 have hb1:Blk w1 w.heap.size 25 (ak s.cut m):=h1.ab 0 rfl
 have d3:w1.cell? (w.heap.size,3) =some (.string s.hid):=hb1.cell 3
 have hbw:Blk w1 r.gW 83 (fo r r.gS v2 (x25 s).fault (x25 s).used (x25 s).hidden (x25 s).av):=h1.ab 12 rfl
 have g0:w1.cell? (r.gW,0) =some (r.gM:Vl):=hbw.cell 0
 have hld2:=Lib.hid (HZ h1.drew (x:=x25 s) ho2 (by show s.i2.s<=4096;rw[hl2.s];decide) s.hid (by show s.hid.size<=s.i2.s;rw[hl2.s];exact hhid))
 replace h1:=Lib.hid h1
 replace hb1:=Lib.hid hb1
 replace hbw:=Lib.hid hbw
 clear hon hld
 go_upto_region 29 with fail
 go_cut [] (λwx=>On Nob w (aa (mdL (mwX w s m v2 ws gD gR) b r (mcN (mwX w s m v2 ws gD gR) b) (Setup.load s.i2 s.hid.data.toList) { x25 s with S:=Setup.load s.i2 s.hid.data.toList })) wx)
 case first=>
  go_region_held (λw'=>w'.cell? (w.heap.size,3) =some (.string s.hid)∧w'.cell? (r.gW,0) =some (r.gM:Vl)) (go_keep)
   ((go_at_call 28;refine hld2.out.mono ?_;rintro e w5 ⟨rfl,h⟩;have hbx1:Blk w5 w.heap.size 25 (ak s.cut m):=h.ab 0 rfl;have e3:w5.cell? (w.heap.size,3) =some (.string s.hid):=hbx1.cell 3;have hbw2:Blk w5 r.gW 83 (fo r r.gS v2 (x25 s).fault (x25 s).used (x25 s).hidden (x25 s).av):=h.ab 12 rfl;have e0:w5.cell? (r.gW,0) =some (r.gM:Vl):=hbw2.cell 0;replace hbx1:=Lib.hid hbx1;replace hbw2:=Lib.hid hbw2;replace h:=Lib.hid h))
  all_goals go_wp2_with fail
  all_goals go_meet
  all_goals exact h.out
 case rest=>
  have hse:=Lib.hid (E6 hcut)
  replace hcut:=Lib.hid hcut
  clear h1 hb1 hbw c3 d3 g0 hld2
  go_wp2_with fail
  refine hse.out.mono ?_
  rintro e w2 ⟨rfl,h2⟩
  have hse2:=Lib.hid (EU h2 (x:={ x25 s with S:=Setup.load s.i2 s.hid.data.toList }) ho hc)
  replace h2:=Lib.hid h2
  clear hse hcut
  go_wp2_with fail
  refine hse2.out.mono ?_
  rintro e w3 ⟨rfl,h3⟩
  have h4:On Nob w (aa (mdL (mwX w s m v2 ws gD gR) b r (mcN (mwX w s m v2 ws gD gR) b) s.i3 (x32 s))) w3:=h3
  have hb3:Blk w3 w.heap.size 25 (ak s.cut m):=h4.ab 0 rfl
  have k0:w3.cell? (w.heap.size,0) =some (s.aQ:Vl):=hb3.cell 0
  have k1:w3.cell? (w.heap.size,1) =some (s.room:Vl):=hb3.cell 1
  have k2:w3.cell? (w.heap.size,2) =some (.string s.inp):=hb3.cell 2
  have k3:w3.cell? (w.heap.size,3) =some (.string s.hid):=hb3.cell 3
  have k4:w3.cell? (w.heap.size,4) =some (.bool s.opened):=hb3.cell 4
  have k5:w3.cell? (w.heap.size,5) =some (.slice m.kA s.kernel.length m.kc):=hb3.cell 5
  have k6:w3.cell? (w.heap.size,6) =some (.slice m.sA s.aN.length m.sc):=hb3.cell 6
  have k7:w3.cell? (w.heap.size,7) =some (s.base:Vl):=hb3.cell 7
  have k8:w3.cell? (w.heap.size,8) =some (.slice m.dA s.data.length m.dc):=hb3.cell 8
  have k9:w3.cell? (w.heap.size,9) =some (.slice m.rA s.ret.length m.rc):=hb3.cell 9
  have k10:w3.cell? (w.heap.size,10) =some (s.fault:Vl):=hb3.cell 10
  have k11:w3.cell? (w.heap.size,11) =some (s.used:Vl):=hb3.cell 11
  have k12:w3.cell? (w.heap.size,12) =some (s.cP:Vl):=hb3.cell 12
  have hst:=Lib.hid (CS h4 hW rfl rfl rfl ⟨rfl,rfl⟩ rfl rfl (lr s).1 (lr s).2 (lr s).1 (lr s).2 hs.out.cut)
  replace h3:=Lib.hid h3
  replace h4:=Lib.hid h4
  replace hb3:=Lib.hid hb3
  clear hse2 h2
  go_upto_region 32 with fail
  go_cut [4] (λt4 wx=>t4 = .bool true∧On Nob w (aa (mdL (mwX w s m v2 ws gD gR) b r (mcN (mwX w s m v2 ws gD gR) b) (y32 s).S (x33 s))) wx)
  case first=>
   go_wp2_with fail
   refine hst.out.mono ?_
   rintro e w4 ⟨rfl,h5⟩
   replace h5:=Lib.hid h5
   go_wp2_with fail
   go_meet
   exact⟨rfl,h5.out⟩
  case rest=>
   obtain⟨rfl,h5⟩:=hcut
   apply_assumption
   exact Oi hW hs.out h5
structure EV(s:Setup) :Prop where
 fa:V64 s.fault
 us:V64 s.used
 hd:V64 s.cP
end Vm
end Go.Proofs.YtjohhkikoejadaaGreatDoor
