/- Chapter 11. Conditions: as written. -/
import Derived.Test.YtilaogbkdbbdkaaGreatDoorZ32
open Go.Proofs.Tryz
namespace Go.Proofs.YtilaogbkdbbdkaaGreatDoor
set_option linter.unusedVariables false
set_option linter.unusedSimpArgs false
set_option maxHeartbeats 8000000
set_option maxRecDepth 100000
open Go.RowKit Go.Lib Go.Deep
namespace Vm
theorem mP(c n:Int)(w:World)(hc:V64 c)(hn:0<n∧n<=9223372036854775807):
 Calls prog 6 #[c,n] w (ax (ew c n) w):=by
 obtain⟨Si,RZ⟩:=hc
 by_cases h:c<0
 ·have e:ew c n= (-(c+1)).tmod n:=by unfold ew;rw[if_pos h,Int.tmod_eq_emod_of_nonneg oM]
  rw[e]
  clear e
  go_enter func6,ntmps6
  go_wp2
  go_ret
  exact⟨by rw[Int.neg_tmod];rfl,rfl⟩
 ·have e:ew c n=c.tmod n:=by unfold ew;rw[if_neg h,Int.tmod_eq_emod_of_nonneg oM]
  rw[e]
  clear e
  go_enter func6,ntmps6
  go_wp2
  go_ret
  exact⟨by rw[Int.tmod_eq_emod_of_nonneg oM];rfl,rfl⟩
theorem C1(p r:Int)(s:ByteArray)(hs:s.size<=4096):af.cI (ew p 32) (ew r 65537) s=0:=by
 unfold af.cI ew
 have h1:=Int.emod_nonneg (if p<0 then -(p+1)else p) (show(32:Int)≠0 by omega)
 have h2:=Int.emod_lt_of_pos (if p<0 then -(p+1)else p) (show(0:Int) <32 by omega)
 have h3:=Int.emod_nonneg (if r<0 then -(r+1)else r) (show(65537:Int)≠0 by omega)
 have h4:=Int.emod_lt_of_pos (if r<0 then -(r+1)else r) (show(0:Int) <65537 by omega)
 rw[if_neg oM,if_neg oM]
theorem Ol(w:World):Calls prog 21 #[oN] w (cz (λe B=> ∃g,e = .returned (.tuple #[.pointer (some ⟨g,0,none⟩),(0:Int)])∧B=av g bk) Nob w):=
 j7 (w:=w) (R:=λe B=> ∃g,e = .returned (.tuple #[.pointer (some ⟨g,0,none⟩),(0:Int)])∧B=av g bk) λw0 L h=>(QM h 16384 64 512 128 64 oL).mono λe w' ⟨g,he,h2⟩=>⟨_,⟨g,he,rfl⟩,h2⟩
theorem OM(w:World)(p r:Int)(s:ByteArray)(h0:af.cI p r s=0):Calls prog 22 #[p,r,.string s] w (cz (λe B=> ∃g,e = .returned (.tuple #[.pointer (some ⟨g,0,none⟩),(0:Int)])∧B=dF g (af.made p r s)) Nob w):=
 j7 (w:=w) (R:=λe B=> ∃g,e = .returned (.tuple #[.pointer (some ⟨g,0,none⟩),(0:Int)])∧B=dF g (af.made p r s)) λw0 L h=>(QB h p r s h0).mono λe w' ⟨g,he,h2⟩=>⟨_,⟨g,he,rfl⟩,h2⟩
section
variable {w W:World}{F:Nat->Prop}{X:Asr}{A:Option Addr}{l:List Int}{xs:List Wrd}
theorem jQe.late(h:jQe w.heap.size w Nob A xs)(so:On Nob w X W)(F':Nat->Prop)(hF: ∀k,F' k->Nob k∨w.heap.size<=k):jQe W.heap.size W F' A xs:=by
 intro j x hx
 obtain⟨rb,o,Ax,cp,hi⟩:=h j x hx
 have ho:=hi.on so
 have hsz:w.heap.size<=W.heap.size:=so.dY.size
 refine⟨rb,o,Ax,cp,⟨ho.at_,λhk=> ?_,ho.c0,ho.c1,ho.c2,ho.c3,ho.ints,λRP a ha=>⟨λhk=> ?_,?_⟩,ho.name,ho.v64,ho.len⟩⟩
 ·rcases hF rb hk with h1|h1
  ·exact h1
  ·have:=World.block_lt_of_cell? w _ hi.c0
   exact absurd this (by show¬rb<_;omega)
 ·have h3:=(hi.Ds RP a ha).2
  rcases hF _ hk with h1|h1
  ·exact h1
  ·omega
 ·have h3:=(hi.Ds RP a ha).2
  omega
theorem nE.late(h:nE w.heap.size w Nob A l)(so:On Nob w X W)(F':Nat->Prop)(hF: ∀k,F' k->Nob k∨w.heap.size<=k):nE W.heap.size W F' A l:=by
 refine⟨λj v hv=> ?_,h.v64,h.len⟩
 obtain⟨rb,o,ha,hk,hc⟩:=h.ints j v hv
 refine⟨rb,o,ha,λhk=> ?_,so.eJ hc (λh=>h)⟩
 rcases hF rb hk with h1|h1
 ·exact h1
 ·have:=World.block_lt_of_cell? w _ hc
  exact absurd this (by show¬rb<_;omega)
end
structure dP(w:World)(s:Setup)(m:Sl):Prop where
 kw:jQe w.heap.size w Nob m.kA s.kernel
 sw:jQe w.heap.size w Nob m.sA s.aT
 dw:nE w.heap.size w Nob m.dA s.data
 rw_:nE w.heap.size w Nob m.rA s.ret
 kl:s.kernel.length<=9223372036854775807
 sl:s.aT.length<=9223372036854775807
 dp:V64 s.dp
 room:V64 s.room
 base:V64 s.base
 inp:s.input.size<=9223372036854775807
 hid:s.hidden.size<=9223372036854775807
def Setup.cut(s:Setup):Setup:={ s with input:=s.inp,hidden:=s.hid }
theorem Setup.vB(s:Setup):s.inp.size<=4096:=by
 unfold Setup.inp Setup.iy
 split
 ·decide
 ·rename_i h
  simp at h
  exact h.1
theorem Setup.sf(s:Setup):s.hid.size<=64:=by
 unfold Setup.hid Setup.iy
 split
 ·decide
 ·rename_i h
  simp at h
  exact h.2
structure Mw where
 bx:Nat
 sc:Array Value
 v2:Value
 ws:Value
 gD:Nat
 gR:Nat
def mdL(a:Mw)(b:Bc)(r:Rc)(mc:Array Value)(SP:Img)(x:Rw):List Asr:=
 ae a.bx 25 a.sc::iv 80 1 a.v2 2 (mz [r.gS,r.gK])::kL a.ws [b.gS,b.gK]::ae b.gP 149 mX::dF b.gT x.T::Rk b.gI b.gS 16456 16960 x.D::Rk b.gI b.gK 8 16384 x.K ::
  ae b.gB 40 (fJ b (.slice none 0 0))::ae b.gM 109 mc::cS b.gI a.gD pd0 x.dd::cS b.gI a.gR pr0 x.rd::av b.gI SP::ju r r.gS a.v2 x
def Me(a:Mw)(b:Bc)(r:Rc)(mc:Array Value)(S:Img)(x:Rw):List Asr:=
 [ae a.bx 25 a.sc,iv 80 1 a.v2 2 (mz [r.gS,r.gK]),kL a.ws [b.gS,b.gK],ae b.gP 149 mX,dF b.gT x.T,ae b.gM 109 mc,cS b.gI a.gD pd0 x.dd,cS b.gI a.gR pr0 x.rd,
  tD r.gC x.T,aa (fC r.gR r.gRr x.rd 3 4 x.ra),aa (fC r.gD r.gDr x.dd 1 2 x.da),ae r.gT 184 (rO 0 0 1 0 true),ae r.gM 131 (aL r.gb S)]
def OV(a:Mw)(b:Bc)(r:Rc)(x:Rw):List Asr:=
 [ae a.bx 25 a.sc,iv 80 1 a.v2 2 (mz [r.gS,r.gK]),kL a.ws [b.gS,b.gK],ae b.gP 149 mX,dF b.gT x.T,Rk b.gI b.gS 16456 16960 x.D,Rk b.gI b.gK 8 16384 x.K,
  tD r.gC x.T,bD r.gS r.gb 16448 16960 704 false x.D,bD r.gK r.gb 0 16384 17152 x.kcl x.K,ae r.gT 184 (rO 0 0 1 0 true)]
theorem QS{w W:World}{F:Nat->Prop}{SB W2 WP TU TA DS DK BO MA SD SR IM WO RF RR RD RS RK RT RI RB:Asr}(h:On F w (aa [SB,W2,WP,TU,TA,DS,DK,BO,MA,SD,SR,IM,WO,RF,RR,RD,RS,RK,RT,RI,RB]) W):On F w (aa [SB,W2,WP,TU,TA,MA,SD,SR,RF,RR,RD,RT,RI,BO,DS,RS,DK,IM,WO,RK,RB]) W:=by
 replace h:On F w (aa [RB,SB,W2,WP,TU,TA,DS,DK,BO,MA,SD,SR,IM,WO,RF,RR,RD,RS,RK,RT,RI]) W:=h.front 20 rfl
 replace h:On F w (aa [RK,RB,SB,W2,WP,TU,TA,DS,DK,BO,MA,SD,SR,IM,WO,RF,RR,RD,RS,RT,RI]) W:=h.front 18 rfl
 replace h:On F w (aa [WO,RK,RB,SB,W2,WP,TU,TA,DS,DK,BO,MA,SD,SR,IM,RF,RR,RD,RS,RT,RI]) W:=h.front 14 rfl
 replace h:On F w (aa [IM,WO,RK,RB,SB,W2,WP,TU,TA,DS,DK,BO,MA,SD,SR,RF,RR,RD,RS,RT,RI]) W:=h.front 14 rfl
 replace h:On F w (aa [DK,IM,WO,RK,RB,SB,W2,WP,TU,TA,DS,BO,MA,SD,SR,RF,RR,RD,RS,RT,RI]) W:=h.front 10 rfl
 replace h:On F w (aa [RS,DK,IM,WO,RK,RB,SB,W2,WP,TU,TA,DS,BO,MA,SD,SR,RF,RR,RD,RT,RI]) W:=h.front 18 rfl
 replace h:On F w (aa [DS,RS,DK,IM,WO,RK,RB,SB,W2,WP,TU,TA,BO,MA,SD,SR,RF,RR,RD,RT,RI]) W:=h.front 11 rfl
 replace h:On F w (aa [BO,DS,RS,DK,IM,WO,RK,RB,SB,W2,WP,TU,TA,MA,SD,SR,RF,RR,RD,RT,RI]) W:=h.front 12 rfl
 replace h:On F w (aa [RI,BO,DS,RS,DK,IM,WO,RK,RB,SB,W2,WP,TU,TA,MA,SD,SR,RF,RR,RD,RT]) W:=h.front 20 rfl
 replace h:On F w (aa [RT,RI,BO,DS,RS,DK,IM,WO,RK,RB,SB,W2,WP,TU,TA,MA,SD,SR,RF,RR,RD]) W:=h.front 20 rfl
 replace h:On F w (aa [RD,RT,RI,BO,DS,RS,DK,IM,WO,RK,RB,SB,W2,WP,TU,TA,MA,SD,SR,RF,RR]) W:=h.front 20 rfl
 replace h:On F w (aa [RR,RD,RT,RI,BO,DS,RS,DK,IM,WO,RK,RB,SB,W2,WP,TU,TA,MA,SD,SR,RF]) W:=h.front 20 rfl
 replace h:On F w (aa [RF,RR,RD,RT,RI,BO,DS,RS,DK,IM,WO,RK,RB,SB,W2,WP,TU,TA,MA,SD,SR]) W:=h.front 20 rfl
 replace h:On F w (aa [SR,RF,RR,RD,RT,RI,BO,DS,RS,DK,IM,WO,RK,RB,SB,W2,WP,TU,TA,MA,SD]) W:=h.front 20 rfl
 replace h:On F w (aa [SD,SR,RF,RR,RD,RT,RI,BO,DS,RS,DK,IM,WO,RK,RB,SB,W2,WP,TU,TA,MA]) W:=h.front 20 rfl
 replace h:On F w (aa [MA,SD,SR,RF,RR,RD,RT,RI,BO,DS,RS,DK,IM,WO,RK,RB,SB,W2,WP,TU,TA]) W:=h.front 20 rfl
 replace h:On F w (aa [TA,MA,SD,SR,RF,RR,RD,RT,RI,BO,DS,RS,DK,IM,WO,RK,RB,SB,W2,WP,TU]) W:=h.front 20 rfl
 replace h:On F w (aa [TU,TA,MA,SD,SR,RF,RR,RD,RT,RI,BO,DS,RS,DK,IM,WO,RK,RB,SB,W2,WP]) W:=h.front 20 rfl
 replace h:On F w (aa [WP,TU,TA,MA,SD,SR,RF,RR,RD,RT,RI,BO,DS,RS,DK,IM,WO,RK,RB,SB,W2]) W:=h.front 20 rfl
 replace h:On F w (aa [W2,WP,TU,TA,MA,SD,SR,RF,RR,RD,RT,RI,BO,DS,RS,DK,IM,WO,RK,RB,SB]) W:=h.front 20 rfl
 replace h:On F w (aa [SB,W2,WP,TU,TA,MA,SD,SR,RF,RR,RD,RT,RI,BO,DS,RS,DK,IM,WO,RK,RB]) W:=h.front 20 rfl
 exact h
theorem Q3{w W:World}{F:Nat->Prop}{SB W2 WP TU TA MA SD SR RF RR RD RT RI BO DK RK DS IM WO RS RB:Asr}(h:On F w (aa [SB,W2,WP,TU,TA,MA,SD,SR,RF,RR,RD,RT,RI,BO,DK,RK,DS,IM,WO,RS,RB]) W):On F w (aa [SB,W2,WP,TU,TA,DS,DK,BO,MA,SD,SR,IM,WO,RF,RR,RD,RS,RK,RT,RI,RB]) W:=by
 replace h:On F w (aa [RB,SB,W2,WP,TU,TA,MA,SD,SR,RF,RR,RD,RT,RI,BO,DK,RK,DS,IM,WO,RS]) W:=h.front 20 rfl
 replace h:On F w (aa [RI,RB,SB,W2,WP,TU,TA,MA,SD,SR,RF,RR,RD,RT,BO,DK,RK,DS,IM,WO,RS]) W:=h.front 13 rfl
 replace h:On F w (aa [RT,RI,RB,SB,W2,WP,TU,TA,MA,SD,SR,RF,RR,RD,BO,DK,RK,DS,IM,WO,RS]) W:=h.front 13 rfl
 replace h:On F w (aa [RK,RT,RI,RB,SB,W2,WP,TU,TA,MA,SD,SR,RF,RR,RD,BO,DK,DS,IM,WO,RS]) W:=h.front 16 rfl
 replace h:On F w (aa [RS,RK,RT,RI,RB,SB,W2,WP,TU,TA,MA,SD,SR,RF,RR,RD,BO,DK,DS,IM,WO]) W:=h.front 20 rfl
 replace h:On F w (aa [RD,RS,RK,RT,RI,RB,SB,W2,WP,TU,TA,MA,SD,SR,RF,RR,BO,DK,DS,IM,WO]) W:=h.front 15 rfl
 replace h:On F w (aa [RR,RD,RS,RK,RT,RI,RB,SB,W2,WP,TU,TA,MA,SD,SR,RF,BO,DK,DS,IM,WO]) W:=h.front 15 rfl
 replace h:On F w (aa [RF,RR,RD,RS,RK,RT,RI,RB,SB,W2,WP,TU,TA,MA,SD,SR,BO,DK,DS,IM,WO]) W:=h.front 15 rfl
 replace h:On F w (aa [WO,RF,RR,RD,RS,RK,RT,RI,RB,SB,W2,WP,TU,TA,MA,SD,SR,BO,DK,DS,IM]) W:=h.front 20 rfl
 replace h:On F w (aa [IM,WO,RF,RR,RD,RS,RK,RT,RI,RB,SB,W2,WP,TU,TA,MA,SD,SR,BO,DK,DS]) W:=h.front 20 rfl
 replace h:On F w (aa [SR,IM,WO,RF,RR,RD,RS,RK,RT,RI,RB,SB,W2,WP,TU,TA,MA,SD,BO,DK,DS]) W:=h.front 17 rfl
 replace h:On F w (aa [SD,SR,IM,WO,RF,RR,RD,RS,RK,RT,RI,RB,SB,W2,WP,TU,TA,MA,BO,DK,DS]) W:=h.front 17 rfl
 replace h:On F w (aa [MA,SD,SR,IM,WO,RF,RR,RD,RS,RK,RT,RI,RB,SB,W2,WP,TU,TA,BO,DK,DS]) W:=h.front 17 rfl
 replace h:On F w (aa [BO,MA,SD,SR,IM,WO,RF,RR,RD,RS,RK,RT,RI,RB,SB,W2,WP,TU,TA,DK,DS]) W:=h.front 18 rfl
 replace h:On F w (aa [DK,BO,MA,SD,SR,IM,WO,RF,RR,RD,RS,RK,RT,RI,RB,SB,W2,WP,TU,TA,DS]) W:=h.front 19 rfl
 replace h:On F w (aa [DS,DK,BO,MA,SD,SR,IM,WO,RF,RR,RD,RS,RK,RT,RI,RB,SB,W2,WP,TU,TA]) W:=h.front 20 rfl
 replace h:On F w (aa [TA,DS,DK,BO,MA,SD,SR,IM,WO,RF,RR,RD,RS,RK,RT,RI,RB,SB,W2,WP,TU]) W:=h.front 20 rfl
 replace h:On F w (aa [TU,TA,DS,DK,BO,MA,SD,SR,IM,WO,RF,RR,RD,RS,RK,RT,RI,RB,SB,W2,WP]) W:=h.front 20 rfl
 replace h:On F w (aa [WP,TU,TA,DS,DK,BO,MA,SD,SR,IM,WO,RF,RR,RD,RS,RK,RT,RI,RB,SB,W2]) W:=h.front 20 rfl
 replace h:On F w (aa [W2,WP,TU,TA,DS,DK,BO,MA,SD,SR,IM,WO,RF,RR,RD,RS,RK,RT,RI,RB,SB]) W:=h.front 20 rfl
 replace h:On F w (aa [SB,W2,WP,TU,TA,DS,DK,BO,MA,SD,SR,IM,WO,RF,RR,RD,RS,RK,RT,RI,RB]) W:=h.front 20 rfl
 exact h
theorem QV{w W:World}{F:Nat->Prop}{SB W2 WP TU TA DS DK BO MA SD SR IM WO RF RR RD RS RK RT RI RB:Asr}(h:On F w (aa [SB,W2,WP,TU,TA,DS,DK,BO,MA,SD,SR,IM,WO,RF,RR,RD,RS,RK,RT,RI,RB]) W):On F w (aa [SB,W2,WP,TU,TA,DS,DK,RF,RS,RK,RT,BO,MA,SD,SR,IM,WO,RD,RR,RI,RB]) W:=by
 replace h:On F w (aa [RB,SB,W2,WP,TU,TA,DS,DK,BO,MA,SD,SR,IM,WO,RF,RR,RD,RS,RK,RT,RI]) W:=h.front 20 rfl
 replace h:On F w (aa [RI,RB,SB,W2,WP,TU,TA,DS,DK,BO,MA,SD,SR,IM,WO,RF,RR,RD,RS,RK,RT]) W:=h.front 20 rfl
 replace h:On F w (aa [RR,RI,RB,SB,W2,WP,TU,TA,DS,DK,BO,MA,SD,SR,IM,WO,RF,RD,RS,RK,RT]) W:=h.front 16 rfl
 replace h:On F w (aa [RD,RR,RI,RB,SB,W2,WP,TU,TA,DS,DK,BO,MA,SD,SR,IM,WO,RF,RS,RK,RT]) W:=h.front 17 rfl
 replace h:On F w (aa [WO,RD,RR,RI,RB,SB,W2,WP,TU,TA,DS,DK,BO,MA,SD,SR,IM,RF,RS,RK,RT]) W:=h.front 16 rfl
 replace h:On F w (aa [IM,WO,RD,RR,RI,RB,SB,W2,WP,TU,TA,DS,DK,BO,MA,SD,SR,RF,RS,RK,RT]) W:=h.front 16 rfl
 replace h:On F w (aa [SR,IM,WO,RD,RR,RI,RB,SB,W2,WP,TU,TA,DS,DK,BO,MA,SD,RF,RS,RK,RT]) W:=h.front 16 rfl
 replace h:On F w (aa [SD,SR,IM,WO,RD,RR,RI,RB,SB,W2,WP,TU,TA,DS,DK,BO,MA,RF,RS,RK,RT]) W:=h.front 16 rfl
 replace h:On F w (aa [MA,SD,SR,IM,WO,RD,RR,RI,RB,SB,W2,WP,TU,TA,DS,DK,BO,RF,RS,RK,RT]) W:=h.front 16 rfl
 replace h:On F w (aa [BO,MA,SD,SR,IM,WO,RD,RR,RI,RB,SB,W2,WP,TU,TA,DS,DK,RF,RS,RK,RT]) W:=h.front 16 rfl
 replace h:On F w (aa [RT,BO,MA,SD,SR,IM,WO,RD,RR,RI,RB,SB,W2,WP,TU,TA,DS,DK,RF,RS,RK]) W:=h.front 20 rfl
 replace h:On F w (aa [RK,RT,BO,MA,SD,SR,IM,WO,RD,RR,RI,RB,SB,W2,WP,TU,TA,DS,DK,RF,RS]) W:=h.front 20 rfl
 replace h:On F w (aa [RS,RK,RT,BO,MA,SD,SR,IM,WO,RD,RR,RI,RB,SB,W2,WP,TU,TA,DS,DK,RF]) W:=h.front 20 rfl
 replace h:On F w (aa [RF,RS,RK,RT,BO,MA,SD,SR,IM,WO,RD,RR,RI,RB,SB,W2,WP,TU,TA,DS,DK]) W:=h.front 20 rfl
 replace h:On F w (aa [DK,RF,RS,RK,RT,BO,MA,SD,SR,IM,WO,RD,RR,RI,RB,SB,W2,WP,TU,TA,DS]) W:=h.front 20 rfl
 replace h:On F w (aa [DS,DK,RF,RS,RK,RT,BO,MA,SD,SR,IM,WO,RD,RR,RI,RB,SB,W2,WP,TU,TA]) W:=h.front 20 rfl
 replace h:On F w (aa [TA,DS,DK,RF,RS,RK,RT,BO,MA,SD,SR,IM,WO,RD,RR,RI,RB,SB,W2,WP,TU]) W:=h.front 20 rfl
 replace h:On F w (aa [TU,TA,DS,DK,RF,RS,RK,RT,BO,MA,SD,SR,IM,WO,RD,RR,RI,RB,SB,W2,WP]) W:=h.front 20 rfl
 replace h:On F w (aa [WP,TU,TA,DS,DK,RF,RS,RK,RT,BO,MA,SD,SR,IM,WO,RD,RR,RI,RB,SB,W2]) W:=h.front 20 rfl
 replace h:On F w (aa [W2,WP,TU,TA,DS,DK,RF,RS,RK,RT,BO,MA,SD,SR,IM,WO,RD,RR,RI,RB,SB]) W:=h.front 20 rfl
 replace h:On F w (aa [SB,W2,WP,TU,TA,DS,DK,RF,RS,RK,RT,BO,MA,SD,SR,IM,WO,RD,RR,RI,RB]) W:=h.front 20 rfl
 exact h
theorem QT{w W:World}{F:Nat->Prop}{SB W2 WP TU TA DS DK RF RS RK RT BO MA SD SR IM WO RD RR RI RB:Asr}(h:On F w (aa [SB,W2,WP,TU,TA,DS,DK,RF,RS,RK,RT,BO,MA,SD,SR,IM,WO,RD,RR,RI,RB]) W):On F w (aa [SB,W2,WP,TU,TA,DS,DK,BO,MA,SD,SR,IM,WO,RF,RR,RD,RS,RK,RT,RI,RB]) W:=by
 replace h:On F w (aa [RB,SB,W2,WP,TU,TA,DS,DK,RF,RS,RK,RT,BO,MA,SD,SR,IM,WO,RD,RR,RI]) W:=h.front 20 rfl
 replace h:On F w (aa [RI,RB,SB,W2,WP,TU,TA,DS,DK,RF,RS,RK,RT,BO,MA,SD,SR,IM,WO,RD,RR]) W:=h.front 20 rfl
 replace h:On F w (aa [RT,RI,RB,SB,W2,WP,TU,TA,DS,DK,RF,RS,RK,BO,MA,SD,SR,IM,WO,RD,RR]) W:=h.front 12 rfl
 replace h:On F w (aa [RK,RT,RI,RB,SB,W2,WP,TU,TA,DS,DK,RF,RS,BO,MA,SD,SR,IM,WO,RD,RR]) W:=h.front 12 rfl
 replace h:On F w (aa [RS,RK,RT,RI,RB,SB,W2,WP,TU,TA,DS,DK,RF,BO,MA,SD,SR,IM,WO,RD,RR]) W:=h.front 12 rfl
 replace h:On F w (aa [RD,RS,RK,RT,RI,RB,SB,W2,WP,TU,TA,DS,DK,RF,BO,MA,SD,SR,IM,WO,RR]) W:=h.front 19 rfl
 replace h:On F w (aa [RR,RD,RS,RK,RT,RI,RB,SB,W2,WP,TU,TA,DS,DK,RF,BO,MA,SD,SR,IM,WO]) W:=h.front 20 rfl
 replace h:On F w (aa [RF,RR,RD,RS,RK,RT,RI,RB,SB,W2,WP,TU,TA,DS,DK,BO,MA,SD,SR,IM,WO]) W:=h.front 14 rfl
 replace h:On F w (aa [WO,RF,RR,RD,RS,RK,RT,RI,RB,SB,W2,WP,TU,TA,DS,DK,BO,MA,SD,SR,IM]) W:=h.front 20 rfl
 replace h:On F w (aa [IM,WO,RF,RR,RD,RS,RK,RT,RI,RB,SB,W2,WP,TU,TA,DS,DK,BO,MA,SD,SR]) W:=h.front 20 rfl
 replace h:On F w (aa [SR,IM,WO,RF,RR,RD,RS,RK,RT,RI,RB,SB,W2,WP,TU,TA,DS,DK,BO,MA,SD]) W:=h.front 20 rfl
 replace h:On F w (aa [SD,SR,IM,WO,RF,RR,RD,RS,RK,RT,RI,RB,SB,W2,WP,TU,TA,DS,DK,BO,MA]) W:=h.front 20 rfl
 replace h:On F w (aa [MA,SD,SR,IM,WO,RF,RR,RD,RS,RK,RT,RI,RB,SB,W2,WP,TU,TA,DS,DK,BO]) W:=h.front 20 rfl
 replace h:On F w (aa [BO,MA,SD,SR,IM,WO,RF,RR,RD,RS,RK,RT,RI,RB,SB,W2,WP,TU,TA,DS,DK]) W:=h.front 20 rfl
 replace h:On F w (aa [DK,BO,MA,SD,SR,IM,WO,RF,RR,RD,RS,RK,RT,RI,RB,SB,W2,WP,TU,TA,DS]) W:=h.front 20 rfl
 replace h:On F w (aa [DS,DK,BO,MA,SD,SR,IM,WO,RF,RR,RD,RS,RK,RT,RI,RB,SB,W2,WP,TU,TA]) W:=h.front 20 rfl
 replace h:On F w (aa [TA,DS,DK,BO,MA,SD,SR,IM,WO,RF,RR,RD,RS,RK,RT,RI,RB,SB,W2,WP,TU]) W:=h.front 20 rfl
 replace h:On F w (aa [TU,TA,DS,DK,BO,MA,SD,SR,IM,WO,RF,RR,RD,RS,RK,RT,RI,RB,SB,W2,WP]) W:=h.front 20 rfl
 replace h:On F w (aa [WP,TU,TA,DS,DK,BO,MA,SD,SR,IM,WO,RF,RR,RD,RS,RK,RT,RI,RB,SB,W2]) W:=h.front 20 rfl
 replace h:On F w (aa [W2,WP,TU,TA,DS,DK,BO,MA,SD,SR,IM,WO,RF,RR,RD,RS,RK,RT,RI,RB,SB]) W:=h.front 20 rfl
 replace h:On F w (aa [SB,W2,WP,TU,TA,DS,DK,BO,MA,SD,SR,IM,WO,RF,RR,RD,RS,RK,RT,RI,RB]) W:=h.front 20 rfl
 exact h
section
variable {w W:World}{a:Mw}{b:Bc}{r:Rc}{mc:Array Value}{S SP:Img}{x:Rw}{s:Setup}{m:Sl}{c:Vc}{t:Mt}
def wcX(a:Mw)(r:Rc)(x:Rw):Array Value:=hO r r.gS a.v2 x.fault x.used x.hidden x.au
theorem PH(h:On Nob w (aa (mdL a b r mc x.S x)) W)(hk:x.kcl=false)(hW:b.gW=r.gW):On Nob w (aa (Me a b r mc x.S x++lsK b r (wcX a r x) x.D (x.S,x.K))) W:=by
 obtain⟨xS,xK,xD,xk,xT,xdd,xda,xrd,xra,xf,xu,xh,xt⟩:=x
 obtain rfl:xk=false:=hk
 obtain⟨bB,bI,bK,bS,bT,bP,bM,bW⟩:=b
 obtain rfl:bW=r.gW:=hW
 have h2:=QS h
 exact h2
theorem Ou{p:Img×Dc}{K:Dc}(h:On Nob w (aa (Me a b r mc x.S x++lsS b r (wcX a r x) K p)) W)(hk:x.kcl=false)(hW:b.gW=r.gW)(ha:Alike x.S p.1):On Nob w (aa (mdL a b r mc p.1 { x with S:=p.1,K:=K,D:=p.2 })) W:=by
 have e:=ng r.gb ha
 obtain⟨xS,xK,xD,xk,xT,xdd,xda,xrd,xra,xf,xu,xh,xt⟩:=x
 obtain rfl:xk=false:=hk
 obtain⟨bB,bI,bK,bS,bT,bP,bM,bW⟩:=b
 obtain rfl:bW=r.gW:=hW
 unfold Me at h
 rw[<-show aL r.gb p.1=aL r.gb xS from e]at h
 have h2:=Q3 h
 exact h2
theorem GH(h:On Nob w (aa (mdL a b r mc x.S x)) W)(hk:x.kcl=false)(hW:b.gW=r.gW)(h8:At8 x.S x.K 8 16384)(R7:x.K.shut x.S=false)(h8d:At8 x.S x.D 16456 16960)(hbO:x.D.shut x.S=false)(hs:dP w s m):
 Calls prog 27 #[b.gB,.agg (ap s m)] W (Got (.returned (.bool true)) (aa (mdL a b r mc (co s.aT ((co s.kernel (x.S,x.K)).1,x.D)).1 { x with S:=(co s.aT ((co s.kernel (x.S,x.K)).1,x.D)).1,K:=(co s.kernel (x.S,x.K)).2,D:=(co s.aT ((co s.kernel (x.S,x.K)).1,x.D)).2 })) Nob w):=by
 have g1:=er s.kernel (x.S,x.K) h8.img h8.ok
 have hjC:=h8d.ok.alike g1.al
 have g2:=er s.aT ((co s.kernel (x.S,x.K)).1,x.D) g1.img hjC
 have RY:Alike x.S (co s.aT ((co s.kernel (x.S,x.K)).1,x.D)).1:=g1.al.trans g2.al
 have hc:=(PH h hk hW).bj 13 (by simp[Me]) (L':=lsS b r (wcX a r x) (co s.kernel (x.S,x.K)).2 (co s.aT ((co s.kernel (x.S,x.K)).1,x.D))) (λF' hb _ hF=>Mk (wcs:=wcX a r x) hb h8 R7 h8d hbO (hs.kw.late h F' hF) (hs.sw.late h F' hF) hs.kl hs.sl rfl rfl)
 refine hc.mono ?_
 rintro e w' ⟨he,h4⟩
 exact⟨he,Ou h4 hk hW RY⟩
theorem NQ(h:On Nob w (aa (mdL a b r mc SP x)) W)(hW:b.gW=r.gW):On Nob w (aa (OV a b r x++stL b r a.gD a.gR mc (wcX a r x) ⟨SP,x.dd,x.rd,x.S,x.dd,x.da,x.rd,x.ra⟩)) W:=by
 obtain⟨bB,bI,bK,bS,bT,bP,bM,bW⟩:=b
 obtain rfl:bW=r.gW:=hW
 have h2:=QV h
 exact h2
theorem Pk{y:St}(h:On Nob w (aa (OV a b r x++stL b r a.gD a.gR mc (wcX a r x) y)) W)(h1:y.d=y.dd)(h2:y.r=y.rd)(hW:b.gW=r.gW):On Nob w (aa (mdL a b r mc y.S { x with S:=y.R,dd:=y.dd,da:=y.da,rd:=y.rd,ra:=y.ra })) W:=by
 obtain⟨yS,yd,yr,yR,ydd,yda,yrd,yra⟩:=y
 obtain rfl:yd=ydd:=h1
 obtain rfl:yr=yrd:=h2
 obtain⟨bB,bI,bK,bS,bT,bP,bM,bW⟩:=b
 obtain rfl:bW=r.gW:=hW
 have h2:=QT h
 exact h2
theorem Iz(h:On Nob w (aa (mdL a b r (pN c t) SP x)) W)(hc:c.gM=b.gM):On Nob w (aa (jQb c t:: (mdL a b r (pN c t) SP x).eraseIdx 8)) W:=by
 unfold jQb
 rw[hc]
 exact h.front 8 rfl
end
section
variable {w W:World}{a:Mw}{b:Bc}{r:Rc}{mc:Array Value}{S SP:Img}{x:Rw}{s:Setup}{m:Sl}{c:Vc}{t:Mt}
theorem Gi(h:On Nob w (aa (mdL a b r mc SP x)) W):Calls prog 28 #[b.gI] W (Got (.returned SP.vf) (aa (mdL a b r mc SP.opened x)) Nob w):=
 h.bG 11 rfl λF' hb=>fT hb λw0 L h=>Pr h
theorem IY(h:On Nob w (aa (mdL a b r mc SP x)) W):Calls prog 32 #[b.gI] W (Got (.returned SP.vf) (aa (mdL a b r mc SP.eR x)) Nob w):=
 h.bG 11 rfl λF' hb=>fT hb λw0 L h=>Om h
theorem HP(h:On Nob w (aa (mdL a b r mc SP x)) W)(hs:SP.s≠0)(l:ByteArray)(hl:l.size<=SP.s):Calls prog 30 #[b.gI,.string l] W (Got (.returned (.int .i64 0)) (aa (mdL a b r mc (Setup.load SP l.data.toList) x)) Nob w):=
 h.bG 11 rfl λF' hb=>Pp hb hs l hl
theorem Hc(h:On Nob w (aa (mdL a b r mc SP x)) W)(hS:x.S.Ok)(hc:x.S.cl=false):Calls prog 29 #[r.gW] W (Got (.returned (.tuple #[])) (aa (mdL a b r mc SP { x with S:={ x.S with op:=true } })) Nob w):=
 h.bj 12 (by simp[mdL]) λF' hb _ _=>O0 hb hS hc
theorem II(h:On Nob w (aa (mdL a b r mc SP x)) W)(hS:x.S.Ok)(hc:x.S.cl=false):Calls prog 33 #[r.gW] W (Got (.returned (.tuple #[])) (aa (mdL a b r mc SP { x with S:=x.S.eR,kcl:=true })) Nob w):=
 h.bj 12 (by simp[mdL]) λF' hb _ _=>Nq hb hS hc
theorem F9(h:On Nob w (aa (mdL a b r mc SP x)) W)(hS:x.S.Ok)(hs:x.S.s<=4096)(l:ByteArray)(hl:l.size<=x.S.s):Calls prog 31 #[r.gM,.string l] W (Got (.returned (.int .i64 0)) (aa (mdL a b r mc SP { x with S:=Setup.load x.S l.data.toList })) Nob w):=
 h.bj 19 (by simp[mdL,ju]) λF' hb _ _=>OL (On.refl hb) hS l hl hs
def st0(SP:Img)(x:Rw):St:=⟨SP,x.dd,x.rd,x.S,x.dd,x.da,x.rd,x.ra⟩
def stE(s:Setup)(SP:Img)(x:Rw):St:=((s.ret.take 8).foldl St.onR ((s.data.take 16).foldl St.onD (st0 SP x))).qv s.base
theorem Dq(h:On Nob w (aa (mdL a b r mc SP x)) W)(hW:b.gW=r.gW)(hm0:mc[0]? = some (b.gI:Vl))(hm5:mc[5]? = some (a.gD:Vl))(hm6:mc[6]? = some (a.gR:Vl))
 (hxd:x.dd=0∧x.rd=0) (hda:x.da.length=16) (hra:x.ra.length=8) (hS:SP.Ok) (hL:bH SP) (hR:x.S.Ok) (hLR:bH x.S) (hs:dP w s m):
 Calls prog 34 #[b.gB,.agg (ap s m)] W (Got (.returned (.bool true)) (aa (mdL a b r mc (stE s SP x).S { x with S:=(stE s SP x).R,dd:=(stE s SP x).dd,da:=(stE s SP x).da,rd:=(stE s SP x).rd,ra:=(stE s SP x).ra })) Nob w):=by
 have hc:=(NQ h hW).bj 11 (by simp[OV]) (L':=stL b r a.gD a.gR mc (wcX a r x) (stE s SP x)) (λF' hb _ hF=>JN (wcs:=wcX a r x) hb hm0 hm5 hm6 rfl rfl rfl ⟨hxd.1,hxd.1,hxd.2,hxd.2⟩ hda hra hS hL hR hLR (hs.dw.late h F' hF) (hs.rw_.late h F' hF) hs.base)
 refine hc.mono ?_
 rintro e w' ⟨he,h4⟩
 obtain⟨f1,f2,f3,f4,f5,f6,f7,f8⟩:=lG (s.ret.take 8) ((s.data.take 16).foldl St.onD (st0 SP x))
 obtain⟨g1,g2,g3,g4,g5,g6,g7,g8⟩:=jB (s.data.take 16) (st0 SP x)
 refine⟨he,Pk h4 ?_ ?_ hW⟩
 ·show((s.ret.take 8).foldl St.onR ((s.data.take 16).foldl St.onD (st0 SP x))).d= ((s.ret.take 8).foldl St.onR ((s.data.take 16).foldl St.onD (st0 SP x))).dd
  rw[f4,f5,g1,g2]
  rfl
 ·show((s.ret.take 8).foldl St.onR ((s.data.take 16).foldl St.onD (st0 SP x))).r= ((s.ret.take 8).foldl St.onR ((s.data.take 16).foldl St.onD (st0 SP x))).rd
  rw[f1,f2,g4,g5]
  rfl
end
def bC:Nat->Code->Code
 | 0,c=>c
 | n+1,.seq _ b=>bC n b
 | _+1,c=>c
def cL(a:Mw)(b:Bc)(r:Rc)(x:Rw):Vc:=
 ⟨b.gM,b.gI,a.gD,a.gR,b.gT,b.gS,b.gK,b.gP,a.ws,.func (.func 37) #[b.gB] #[],16456,16960,8,16384,lr b,
  λ_=>kL a.ws [b.gS,b.gK]::ae b.gP 149 mX::iv 80 1 a.v2 2 (mz [r.gS,r.gK])::ju r r.gS a.v2 x⟩
def x00:Rw:=⟨bk,gH,iA,false,af.made 0 0 ⟨#[]⟩,0,List.replicate 16 0,0,List.replicate 8 0,0,0,0,false⟩
def Setup.km(s:Setup):af.Tab:=af.made (ew s.dp 32) (ew s.room 65537) s.inp
theorem LV{w W:World}{F:Nat->Prop}{A1 A2 A3 A4 A5 A6 A7 A8 A9 A10 A11:Asr}(h:On F w (aa [A1,A2,A3,A4,A5,A6,A7,A8,A9,A10,A11]) W):On F w (aa [A1,A3,A4,A5,A6,A7,A8,A9,A10,A2,A11]) W:=by
 replace h:On F w (aa [A11,A1,A2,A3,A4,A5,A6,A7,A8,A9,A10]) W:=h.front 10 rfl
 replace h:On F w (aa [A2,A11,A1,A3,A4,A5,A6,A7,A8,A9,A10]) W:=h.front 2 rfl
 replace h:On F w (aa [A10,A2,A11,A1,A3,A4,A5,A6,A7,A8,A9]) W:=h.front 10 rfl
 replace h:On F w (aa [A9,A10,A2,A11,A1,A3,A4,A5,A6,A7,A8]) W:=h.front 10 rfl
 replace h:On F w (aa [A8,A9,A10,A2,A11,A1,A3,A4,A5,A6,A7]) W:=h.front 10 rfl
 replace h:On F w (aa [A7,A8,A9,A10,A2,A11,A1,A3,A4,A5,A6]) W:=h.front 10 rfl
 replace h:On F w (aa [A6,A7,A8,A9,A10,A2,A11,A1,A3,A4,A5]) W:=h.front 10 rfl
 replace h:On F w (aa [A5,A6,A7,A8,A9,A10,A2,A11,A1,A3,A4]) W:=h.front 10 rfl
 replace h:On F w (aa [A4,A5,A6,A7,A8,A9,A10,A2,A11,A1,A3]) W:=h.front 10 rfl
 replace h:On F w (aa [A3,A4,A5,A6,A7,A8,A9,A10,A2,A11,A1]) W:=h.front 10 rfl
 replace h:On F w (aa [A1,A3,A4,A5,A6,A7,A8,A9,A10,A2,A11]) W:=h.front 10 rfl
 exact h
theorem Ia{w W:World}{r:Rc}{gws bx:Nat}{sc:Array Value}(h:On Nob w (aa [aa (ae r.gW 86 (hO r r.gK (.slice gws 1 1) 0 0 0 false)::ae gws 80 #[r.gK]::PL r),ae bx 25 sc]) W):
 On Nob w (aa [iT r r.gK (.slice gws 1 1) x00,ae gws 80 #[r.gK],ae bx 25 sc]) W:=by
 have h2:=LV h.flat
 exact On.Pj (L1:=ju r r.gK (.slice gws 1 1) x00) h2
def mwX(w:World)(s:Setup)(m:Sl)(v2 ws:Value)(gD gR:Nat):Mw:=⟨w.heap.size,ap s.cut m,v2,ws,gD,gR⟩
def mcN(a:Mw)(b:Bc):Array Value:=jF b.gI b.gS b.gT b.gP a.ws (.pointer a.gD) (.pointer a.gR)
def x08(s:Setup):Rw:={ x00 with T:=s.km }
def x22(s:Setup):Rw:={ x08 s with S:=s.t1.1,K:=s.k1.2,D:=s.t1.2 }
def x25(s:Setup):Rw:={ x22 s with S:=s.i2 }
def x32(s:Setup):Rw:={ x22 s with S:=s.i3,kcl:=true }
def y32(s:Setup):St:=stE s.cut s.i3 (x32 s)
def x33(s:Setup):Rw:={ x32 s with S:=(y32 s).R,dd:=(y32 s).dd,da:=(y32 s).da,rd:=(y32 s).rd,ra:=(y32 s).ra }
def x41(s:Setup):Rw:={ x33 s with fault:=s.fault,used:=s.used,hidden:=s.eF,au:=true }
def mu(s:Setup)(e:Ending)(B:Asr):Prop:= ∃(a:Mw) (b:Bc) (r:Rc),b.gW=r.gW∧e = .returned (.pointer b.gB)∧B=aa (mL (cL a b r (x41 s)) s.mt)
def c33(a:Mw)(b:Bc):Vc:=⟨b.gM,b.gI,a.gD,a.gR,b.gT,b.gS,b.gK,b.gP,a.ws,.nilFunc,16456,16960,8,16384,lr b,λ_=>[]⟩
def t33(s:Setup):Mt:={ s.m1 with S:=s.m1.S.setCell 0 16448 s.base }
theorem NU(s:Setup): (y32 s).S=s.mt.S∧(y32 s).dd=s.mt.d∧(y32 s).rd=s.mt.r:=by
 obtain⟨f1,f2,f3,f4,f5,f6,f7,f8⟩:=lG (s.ret.take 8) ((s.data.take 16).foldl St.onD (st0 s.i3 (x32 s)))
 obtain⟨g1,g2,g3,g4,g5,g6,g7,g8⟩:=jB (s.data.take 16) (st0 s.i3 (x32 s))
 refine⟨?_,?_,?_⟩
 ·show(((s.ret.take 8).foldl St.onR ((s.data.take 16).foldl St.onD (st0 s.i3 (x32 s)))).S).setCell 0 16448 s.base=_
  rw[f8,g8,g4]
  rfl
 ·show((s.ret.take 8).foldl St.onR ((s.data.take 16).foldl St.onD (st0 s.i3 (x32 s)))).dd=_
  rw[f5,g2]
  rfl
 ·show((s.ret.take 8).foldl St.onR ((s.data.take 16).foldl St.onD (st0 s.i3 (x32 s)))).rd=_
  rw[f2,g5]
  rfl
theorem Ik{w:World}{F:Nat->Prop}{b:Bc}(h: (ae b.gB 40 (fJ b (.slice none 0 0))).holds w F): (lr b []).holds w F:=
 ⟨.slice none 0 0,F,Nob,h,All.one (A:=iv 159 5 (.slice none 0 0) 0 []) ⟨World.ownsRow_nil _ _ _ _,λk=>⟨λh=>h.elim,λh=>by cases h⟩⟩,λk _ h=>h,λk=>⟨.inl,λh=>h.elim id λh=>h.elim⟩⟩
theorem OG{w W:World}{F:Nat->Prop}{MA SB W2 WP TU TA DS DK BO SD SR IM WO RF RR RD RS RK RT RI RB:Asr}(h:On F w (aa [MA,SB,W2,WP,TU,TA,DS,DK,BO,SD,SR,IM,WO,RF,RR,RD,RS,RK,RT,RI,RB]) W):On F w (aa [MA,IM,SD,SR,TA,DS,DK,BO,WP,TU,W2,WO,RF,RR,RD,RS,RK,RT,RI,RB,SB]) W:=by
 replace h:On F w (aa [SB,MA,W2,WP,TU,TA,DS,DK,BO,SD,SR,IM,WO,RF,RR,RD,RS,RK,RT,RI,RB]) W:=h.front 1 rfl
 replace h:On F w (aa [RB,SB,MA,W2,WP,TU,TA,DS,DK,BO,SD,SR,IM,WO,RF,RR,RD,RS,RK,RT,RI]) W:=h.front 20 rfl
 replace h:On F w (aa [RI,RB,SB,MA,W2,WP,TU,TA,DS,DK,BO,SD,SR,IM,WO,RF,RR,RD,RS,RK,RT]) W:=h.front 20 rfl
 replace h:On F w (aa [RT,RI,RB,SB,MA,W2,WP,TU,TA,DS,DK,BO,SD,SR,IM,WO,RF,RR,RD,RS,RK]) W:=h.front 20 rfl
 replace h:On F w (aa [RK,RT,RI,RB,SB,MA,W2,WP,TU,TA,DS,DK,BO,SD,SR,IM,WO,RF,RR,RD,RS]) W:=h.front 20 rfl
 replace h:On F w (aa [RS,RK,RT,RI,RB,SB,MA,W2,WP,TU,TA,DS,DK,BO,SD,SR,IM,WO,RF,RR,RD]) W:=h.front 20 rfl
 replace h:On F w (aa [RD,RS,RK,RT,RI,RB,SB,MA,W2,WP,TU,TA,DS,DK,BO,SD,SR,IM,WO,RF,RR]) W:=h.front 20 rfl
 replace h:On F w (aa [RR,RD,RS,RK,RT,RI,RB,SB,MA,W2,WP,TU,TA,DS,DK,BO,SD,SR,IM,WO,RF]) W:=h.front 20 rfl
 replace h:On F w (aa [RF,RR,RD,RS,RK,RT,RI,RB,SB,MA,W2,WP,TU,TA,DS,DK,BO,SD,SR,IM,WO]) W:=h.front 20 rfl
 replace h:On F w (aa [WO,RF,RR,RD,RS,RK,RT,RI,RB,SB,MA,W2,WP,TU,TA,DS,DK,BO,SD,SR,IM]) W:=h.front 20 rfl
 replace h:On F w (aa [W2,WO,RF,RR,RD,RS,RK,RT,RI,RB,SB,MA,WP,TU,TA,DS,DK,BO,SD,SR,IM]) W:=h.front 11 rfl
 replace h:On F w (aa [TU,W2,WO,RF,RR,RD,RS,RK,RT,RI,RB,SB,MA,WP,TA,DS,DK,BO,SD,SR,IM]) W:=h.front 13 rfl
 replace h:On F w (aa [WP,TU,W2,WO,RF,RR,RD,RS,RK,RT,RI,RB,SB,MA,TA,DS,DK,BO,SD,SR,IM]) W:=h.front 13 rfl
 replace h:On F w (aa [BO,WP,TU,W2,WO,RF,RR,RD,RS,RK,RT,RI,RB,SB,MA,TA,DS,DK,SD,SR,IM]) W:=h.front 17 rfl
 replace h:On F w (aa [DK,BO,WP,TU,W2,WO,RF,RR,RD,RS,RK,RT,RI,RB,SB,MA,TA,DS,SD,SR,IM]) W:=h.front 17 rfl
 replace h:On F w (aa [DS,DK,BO,WP,TU,W2,WO,RF,RR,RD,RS,RK,RT,RI,RB,SB,MA,TA,SD,SR,IM]) W:=h.front 17 rfl
 replace h:On F w (aa [TA,DS,DK,BO,WP,TU,W2,WO,RF,RR,RD,RS,RK,RT,RI,RB,SB,MA,SD,SR,IM]) W:=h.front 17 rfl
 replace h:On F w (aa [SR,TA,DS,DK,BO,WP,TU,W2,WO,RF,RR,RD,RS,RK,RT,RI,RB,SB,MA,SD,IM]) W:=h.front 19 rfl
 replace h:On F w (aa [SD,SR,TA,DS,DK,BO,WP,TU,W2,WO,RF,RR,RD,RS,RK,RT,RI,RB,SB,MA,IM]) W:=h.front 19 rfl
 replace h:On F w (aa [IM,SD,SR,TA,DS,DK,BO,WP,TU,W2,WO,RF,RR,RD,RS,RK,RT,RI,RB,SB,MA]) W:=h.front 20 rfl
 replace h:On F w (aa [MA,IM,SD,SR,TA,DS,DK,BO,WP,TU,W2,WO,RF,RR,RD,RS,RK,RT,RI,RB,SB]) W:=h.front 20 rfl
 exact h
theorem OD{w W:World}{s:Setup}{m:Sl}{v2 ws:Value}{gD gR:Nat}{b:Bc}{r:Rc}
 (h:On Nob w (aa (jQb (cL (mwX w s m v2 ws gD gR) b r (x41 s)) s.mt:: (mdL (mwX w s m v2 ws gD gR) b r (mcN (mwX w s m v2 ws gD gR) b) (y32 s).S (x41 s)).eraseIdx 8)) W):
 On Nob w (aa (mL (cL (mwX w s m v2 ws gD gR) b r (x41 s)) s.mt)) W:=by
 obtain⟨e1,e2,e3⟩:=NU s
 have h2:=OG h
 have h3:=h2.drop 20 rfl
 have h4:=On.Qu (A':=lr b []) 7 h3 rfl (λF'=>Ik)
 have e4: (x41 s).dd=s.mt.d:=e2
 have e5: (x41 s).rd=s.mt.r:=e3
 have h5:On Nob w (aa (mL (cL (mwX w s m v2 ws gD gR) b r (x41 s)) s.mt)) W:=by
  unfold mL
  rw[<-e1,<-e4,<-e5]
  exact h4
 exact h5
end Vm
open Go.RowKit Go.Lib
namespace Vm
theorem dP.cut{w:World}{s:Setup}{m:Sl}(h:dP w s m):dP w s.cut m:=
 ⟨h.kw,h.sw,h.dw,h.rw_,h.kl,h.sl,h.dp,h.room,h.base,by have:=s.vB;show s.inp.size<=_;omega,by have:=s.sf;show s.hid.size<=_;omega⟩
theorem Dh(s:Setup):Alike bk s.t1.1∧s.t1.1.Ok:=by
 have g1:=er s.kernel (bk,gH) gn (oj (Alike.refl _))
 have g2:=er s.aT (s.k1.1,iA) g1.img (om g1.al)
 exact⟨g1.al.trans g2.al,g2.img⟩
theorem Cs(s:Setup):s.i2.Ok∧s.i2.cl=false∧bH s.i2:=by
 obtain⟨ha,ho⟩:=Dh s
 have hl:=zj.alike ha
 have hc:s.t1.1.cl=false:=ha.cl.trans rfl
 unfold Setup.i2
 split
 ·unfold Img.opened
  rw[if_neg (by rw[hc];decide)]
  exact⟨⟨ho.len,ho.small⟩,hc,⟨hl.k,hl.s,hl.u,hl.d,hl.r⟩⟩
 ·exact⟨ho,hc,hl⟩
theorem oI(s:Setup): (Setup.load s.i2 s.hid.data.toList).Ok∧(Setup.load s.i2 s.hid.data.toList).cl=false∧bH (Setup.load s.i2 s.hid.data.toList):=by
 obtain⟨ho,hc,hl⟩:=Cs s
 obtain⟨b2,b3,b4,b5,b6⟩:=hl.dU
 have hn:s.hid.data.toList.length<=64:=by have h1:=s.sf;rw[Lib.size_eq]at h1;exact h1
 refine⟨cY ho _ _ ?_,hc,jV hl _ _⟩
 rw[b2,b6,hl.s,List.length_append,List.length_replicate]
 omega
theorem lQ(s:Setup):s.i3.Ok∧bH s.i3:=⟨Img.Ok.pz (oI s).1,bH.pz (oI s).2.2⟩
theorem CT:At8 bk gH 8 16384:=⟨oj (Alike.refl _),gn,rfl,rfl⟩
theorem CP:At8 bk iA 16456 16960:=⟨om (Alike.refl _),gn,rfl,rfl⟩
theorem QR{w W:World}{s:Setup}{m:Sl}{v2 ws:Value}{gD gR:Nat}{b:Bc}{r:Rc}(hW:b.gW=r.gW)(hs:dP w s m)(so:On Nob w (aa (mdL (mwX w s m v2 ws gD gR) b r (mcN (mwX w s m v2 ws gD gR) b) (y32 s).S (x33 s))) W){u0 u6 u7 u8 u9 YR YP Zk Yr u16 Xw XG XC Xb X5 Xc XP XA XL Xf Xn X4 Xz Ya Yg u32 W8 Xm XN Yf XM Yx Xx XK X1 XE Yz Xr Yp XI Ys Xi Yn Xo Xp YB Xh XX YE X0 Yj Xj Yc W9 Xy Yh Yl u64 Xl X3 XT XO Xg Yu Xu Yi XH XQ XR X7 Ye XB XU XW YC Xk Yb X2 XD Xe Xa YF X9 Yk Yv XZ YD Xs Xd XF Xt Yt Yo S5 Tz TN Tc Tm To Tj S4 Tk TT Tu TC TR SW TE Tf T1 Tg Tq Th TB TP T8 Ty S6 TD Td Tw TZ Tv Tx TW T2 TX T7 T3 S7 Tb Tn SZ S0 TV Te Tr Tl T5 S9 TQ Ts TS TL SV S1 SY TI SX S8 TH TM S3 Tt T4 Ti TY Tp TO TG T6 VM VH Vf UX U6 U8 U2 VI Vz VL UJ Vi Vd Vq UE UM Vk U1 Vw UG VE Vj UA UB VN U3 U7 Vp U5 Ve U0 VK VC UR U9 VF UY VD UL Vv UC US UH Vh Vx UD Vn UW UK UN UI Vo UT UZ VB VG Vr UQ Vb UO Vg VJ Vt Vs UU VO UP:Value}:Code.wp prog (bC 25 (Tryz.f7.body.getD .skip)) (bodyPost prog Tryz.f7 (cz (mu s) Nob w)) ⟨List.toArray (u0 :: .pointer w.heap.size :: .pointer none :: .pointer r.gW :: .bool true :: .pointer b.gI::u6::u7::u8::u9::YR::YP :: .pointer b.gM :: .pointer b.gB::Zk::Yr::u16::Xw::XG::XC::Xb::X5::Xc::XP::XA::XL::Xf::Xn::X4::Xz::Ya::Yg::u32::W8::Xm::XN::Yf::XM::Yx::Xx::XK::X1::XE::Yz::Xr::Yp::XI::Ys::Xi::Yn::Xo::Xp::YB::Xh::XX::YE::X0::Yj::Xj::Yc::W9::Xy::Yh::Yl::u64::Xl::X3::XT::XO::Xg::Yu::Xu::Yi::XH::XQ::XR::X7::Ye::XB::XU::XW::YC::Xk::Yb::X2::XD::Xe::Xa::YF::X9::Yk::Yv::XZ::YD::Xs::Xd::XF::Xt::Yt::Yo::S5::Tz::TN::Tc::Tm::To::Tj::S4::Tk::TT::Tu::TC::TR::SW::TE::Tf::T1::Tg::Tq::Th::TB::TP::T8::Ty::S6::TD::Td::Tw::TZ::Tv::Tx::TW::T2::TX::T7::T3::S7::Tb::Tn::SZ::S0::TV::Te::Tr::Tl::T5::S9::TQ::Ts::TS::TL::SV::S1::SY::TI::SX::S8::TH::TM::S3::Tt::T4::Ti::TY::Tp::TO::TG::T6::VM::VH::Vf::UX::U6::U8::U2::VI::Vz::VL::UJ::Vi::Vd::Vq::UE::UM::Vk::U1::Vw::UG::VE::Vj::UA::UB::VN::U3::U7::Vp::U5::Ve::U0::VK::VC::UR::U9::VF::UY::VD::UL::Vv::UC::US::UH::Vh::Vx::UD::Vn::UW::UK::UN::UI::Vo::UT::UZ::VB::VG::Vr::UQ::Vb::UO::Vg::VJ::Vt::Vs::UU::VO::UP :: []),[]⟩ W:=by
 conv=>
  arg 2
  unfold Tryz.f7
  dsimp only[bC,Option.getD]
 replace hs:=Lib.hid hs
 have hf:On Nob w (aa (jQb (c33 (mwX w s m v2 ws gD gR) b) (t33 s):: (mdL (mwX w s m v2 ws gD gR) b r (mcN (mwX w s m v2 ws gD gR) b) (y32 s).S (x33 s)).eraseIdx 8)) W:=Iz (c:=c33 (mwX w s m v2 ws gD gR) b) (t:=t33 s) so rfl
 have RV:Blk W w.heap.size 25 (ap s.cut m):=so.ab 0 rfl
 have c10:W.cell? (w.heap.size,10)=some (s.fault:Vl):=RV.cell 10
 have c11:W.cell? (w.heap.size,11)=some (s.used:Vl):=RV.cell 11
 have c12:W.cell? (w.heap.size,12)=some (s.eF:Vl):=RV.cell 12
 have ht:=Lib.hid (N3 hf s.fault s.used s.eF)
 clear RV
 replace so:=Lib.hid so
 replace hf:=Lib.hid hf
 go_wp2_with fail
 refine mo ht.out λw1 h1=>?_
 have Rh:Blk w1 w.heap.size 25 (ap s.cut m):=h1.ab 1 rfl
 have d10:w1.cell? (w.heap.size,10)=some (s.fault:Vl):=Rh.cell 10
 have d11:w1.cell? (w.heap.size,11)=some (s.used:Vl):=Rh.cell 11
 have d12:w1.cell? (w.heap.size,12)=some (s.eF:Vl):=Rh.cell 12
 have Rr:Blk w1 r.gW 86 (hO r r.gS v2 (x33 s).fault (x33 s).used (x33 s).hidden (x33 s).au):=h1.ab 12 rfl
 have g9:w1.cell? (r.gW,9)=some (.int .i64 (x33 s).fault):=Rr.cell 9
 have g10:w1.cell? (r.gW,10)=some (.int .i64 (x33 s).used):=Rr.cell 10
 have g11:w1.cell? (r.gW,11)=some (.int .i64 (x33 s).hidden):=Rr.cell 11
 have f9:=Rr.frozen 9
 have f10:=Rr.frozen 10
 have f11:=Rr.frozen 11
 have RP:=h1.rY 1 12 (by decide) rfl rfl
 have h2:=((h1.setAt 12 rfl 9 (.int .i64 s.fault)).setAt 12 rfl 10 (.int .i64 s.used)).setAt 12 rfl 11 (.int .i64 s.eF)
 have hwt:=Lib.hid (KM h2 rfl (.func 37) #[b.gB] #[] (lr b) (cL (mwX w s m v2 ws gD gR) b r (x41 s)).rest)
 replace h1:=Lib.hid h1
 replace h2:=Lib.hid h2
 replace Rh:=Lib.hid Rh
 replace Rr:=Lib.hid Rr
 clear c10 c11 c12 ht hf so
 go_wp2_with fail
 refine mo hwt.out λw2 h3=>?_
 have WL:=h3.ab 12 rfl
 have g12:w2.cell? (r.gW,12)=some (.bool false):=WL.cell 12
 have f12:=WL.frozen 12
 have h4:=h3.setAt 12 rfl 12 (.bool true)
 have IS:=Lib.hid (OD (s:=s) (m:=m) (v2:=v2) (ws:=ws) (gD:=gD) (gR:=gR) (b:=b) (r:=r) h4)
 clear hwt h2 h4 WL
 replace h3:=Lib.hid h3
 go_wp2_with fail
 go_ret
 exact⟨_,⟨_,_,_,hW,rfl,rfl⟩,IS.out⟩
theorem PY{w W:World}{s:Setup}{m:Sl}{v2 ws:Value}{gD gR:Nat}{b:Bc}{r:Rc}(hW:b.gW=r.gW)(hs:dP w s m)(so:On Nob w (aa (mdL (mwX w s m v2 ws gD gR) b r (mcN (mwX w s m v2 ws gD gR) b) s.i2 (x25 s))) W){u0 u4 u6 u7 u8 u9 YR YP Zk Yr u16 Xw XG XC Xb X5 Xc XP XA XL Xf Xn X4 Xz Ya Yg u32 W8 Xm XN Yf XM Yx Xx XK X1 XE Yz Xr Yp XI Ys Xi Yn Xo Xp YB Xh XX YE X0 Yj Xj Yc W9 Xy Yh Yl u64 Xl X3 XT XO Xg Yu Xu Yi XH XQ XR X7 Ye XB XU XW YC Xk Yb X2 XD Xe Xa YF X9 Yk Yv XZ YD Xs Xd XF Xt Yt Yo S5 Tz TN Tc Tm To Tj S4 Tk TT Tu TC TR SW TE Tf T1 Tg Tq Th TB TP T8 Ty S6 TD Td Tw TZ Tv Tx TW T2 TX T7 T3 S7 Tb Tn SZ S0 TV Te Tr Tl T5 S9 TQ Ts TS TL SV S1 SY TI SX S8 TH TM S3 Tt T4 Ti TY Tp TO TG T6 VM VH Vf UX U6 U8 U2 VI Vz VL UJ Vi Vd Vq UE UM Vk U1 Vw UG VE Vj UA UB VN U3 U7 Vp U5 Ve U0 VK VC UR U9 VF UY VD UL Vv UC US UH Vh Vx UD Vn UW UK UN UI Vo UT UZ VB VG Vr UQ Vb UO Vg VJ Vt Vs UU VO UP:Value}:Code.wp prog (bC 20 (Tryz.f7.body.getD .skip)) (bodyPost prog Tryz.f7 (cz (mu s) Nob w)) ⟨List.toArray (u0 :: .pointer w.heap.size :: .pointer none :: .pointer r.gW::u4 :: .pointer b.gI::u6::u7::u8::u9::YR::YP :: .pointer b.gM :: .pointer b.gB::Zk::Yr::u16::Xw::XG::XC::Xb::X5::Xc::XP::XA::XL::Xf::Xn::X4::Xz::Ya::Yg::u32::W8::Xm::XN::Yf::XM::Yx::Xx::XK::X1::XE::Yz::Xr::Yp::XI::Ys::Xi::Yn::Xo::Xp::YB::Xh::XX::YE::X0::Yj::Xj::Yc::W9::Xy::Yh::Yl::u64::Xl::X3::XT::XO::Xg::Yu::Xu::Yi::XH::XQ::XR::X7::Ye::XB::XU::XW::YC::Xk::Yb::X2::XD::Xe::Xa::YF::X9::Yk::Yv::XZ::YD::Xs::Xd::XF::Xt::Yt::Yo::S5::Tz::TN::Tc::Tm::To::Tj::S4::Tk::TT::Tu::TC::TR::SW::TE::Tf::T1::Tg::Tq::Th::TB::TP::T8::Ty::S6::TD::Td::Tw::TZ::Tv::Tx::TW::T2::TX::T7::T3::S7::Tb::Tn::SZ::S0::TV::Te::Tr::Tl::T5::S9::TQ::Ts::TS::TL::SV::S1::SY::TI::SX::S8::TH::TM::S3::Tt::T4::Ti::TY::Tp::TO::TG::T6::VM::VH::Vf::UX::U6::U8::U2::VI::Vz::VL::UJ::Vi::Vd::Vq::UE::UM::Vk::U1::Vw::UG::VE::Vj::UA::UB::VN::U3::U7::Vp::U5::Ve::U0::VK::VC::UR::U9::VF::UY::VD::UL::Vv::UC::US::UH::Vh::Vx::UD::Vn::UW::UK::UN::UI::Vo::UT::UZ::VB::VG::Vr::UQ::Vb::UO::Vg::VJ::Vt::Vs::UU::VO::UP :: []),[]⟩ W:=by
 conv=>
  arg 2
  unfold Tryz.f7
  dsimp only[bC,Option.getD]
 replace hs:=Lib.hid hs
 obtain⟨ho2,RZ,Ug⟩:=Cs s
 obtain⟨ho,hc,hl⟩:=oI s
 have hbp:=s.sf
 have RV:Blk W w.heap.size 25 (ap s.cut m):=so.ab 0 rfl
 have c3:W.cell? (w.heap.size,3)=some (.string s.hid):=RV.cell 3
 have hld:=Lib.hid (HP so (by rw[Ug.s];decide) s.hid (by rw[Ug.s];exact hbp))
 clear RV
 replace so:=Lib.hid so
 go_wp2_with fail
 refine mo hld.out λw1 h1=>?_
 have Rh:Blk w1 w.heap.size 25 (ap s.cut m):=h1.ab 0 rfl
 have d3:w1.cell? (w.heap.size,3)=some (.string s.hid):=Rh.cell 3
 have Rr:Blk w1 r.gW 86 (hO r r.gS v2 (x25 s).fault (x25 s).used (x25 s).hidden (x25 s).au):=h1.ab 12 rfl
 have g0:w1.cell? (r.gW,0)=some (r.gM:Vl):=Rr.cell 0
 have hfW:=Lib.hid (F9 h1.drew (x:=x25 s) ho2 (by show s.i2.s<=4096;rw[Ug.s];decide) s.hid (by show s.hid.size<=s.i2.s;rw[Ug.s];exact hbp))
 replace h1:=Lib.hid h1
 replace Rh:=Lib.hid Rh
 replace Rr:=Lib.hid Rr
 clear so hld
 go_upto_region 29 with fail
 go_cut [] (λwx=>On Nob w (aa (mdL (mwX w s m v2 ws gD gR) b r (mcN (mwX w s m v2 ws gD gR) b) (Setup.load s.i2 s.hid.data.toList) { x25 s with S:=Setup.load s.i2 s.hid.data.toList })) wx)
 case first=>
  go_region_held (λw'=>w'.cell? (w.heap.size,3)=some (.string s.hid)∧w'.cell? (r.gW,0)=some (r.gM:Vl)) (go_keep)
   ((go_at_call 31;refine mo hfW.out λw5 h=>?_;have U4:Blk w5 w.heap.size 25 (ap s.cut m):=h.ab 0 rfl;have e3:w5.cell? (w.heap.size,3)=some (.string s.hid):=U4.cell 3;have WL:Blk w5 r.gW 86 (hO r r.gS v2 (x25 s).fault (x25 s).used (x25 s).hidden (x25 s).au):=h.ab 12 rfl;have e0:w5.cell? (r.gW,0)=some (r.gM:Vl):=WL.cell 0;replace U4:=Lib.hid U4;replace WL:=Lib.hid WL;replace h:=Lib.hid h))
  all_goals go_wp2_with fail
  all_goals go_meet
  all_goals exact h.out
 case rest=>
  have hse:=Lib.hid (IY hcut)
  replace hcut:=Lib.hid hcut
  clear h1 Rh Rr c3 d3 g0 hfW
  go_wp2_with fail
  refine mo hse.out λw2 h2=>?_
  have hgD:=Lib.hid (II h2 (x:={ x25 s with S:=Setup.load s.i2 s.hid.data.toList }) ho hc)
  replace h2:=Lib.hid h2
  clear hse hcut
  go_wp2_with fail
  refine mo hgD.out λw3 h3=>?_
  have h4:On Nob w (aa (mdL (mwX w s m v2 ws gD gR) b r (mcN (mwX w s m v2 ws gD gR) b) s.i3 (x32 s))) w3:=h3
  have So:Blk w3 w.heap.size 25 (ap s.cut m):=h4.ab 0 rfl
  have k0:w3.cell? (w.heap.size,0)=some (s.dp:Vl):=So.cell 0
  have k1:w3.cell? (w.heap.size,1)=some (s.room:Vl):=So.cell 1
  have k2:w3.cell? (w.heap.size,2)=some (.string s.inp):=So.cell 2
  have k3:w3.cell? (w.heap.size,3)=some (.string s.hid):=So.cell 3
  have k4:w3.cell? (w.heap.size,4)=some (.bool s.opened):=So.cell 4
  have k5:w3.cell? (w.heap.size,5)=some (.slice m.kA s.kernel.length m.kc):=So.cell 5
  have k6:w3.cell? (w.heap.size,6)=some (.slice m.sA s.aT.length m.sc):=So.cell 6
  have k7:w3.cell? (w.heap.size,7)=some (s.base:Vl):=So.cell 7
  have k8:w3.cell? (w.heap.size,8)=some (.slice m.dA s.data.length m.dc):=So.cell 8
  have k9:w3.cell? (w.heap.size,9)=some (.slice m.rA s.ret.length m.rc):=So.cell 9
  have k10:w3.cell? (w.heap.size,10)=some (s.fault:Vl):=So.cell 10
  have k11:w3.cell? (w.heap.size,11)=some (s.used:Vl):=So.cell 11
  have k12:w3.cell? (w.heap.size,12)=some (s.eF:Vl):=So.cell 12
  have Rj:=Lib.hid (Dq h4 hW rfl rfl rfl ⟨rfl,rfl⟩ rfl rfl (lQ s).1 (lQ s).2 (lQ s).1 (lQ s).2 hs.out.cut)
  replace h3:=Lib.hid h3
  replace h4:=Lib.hid h4
  replace So:=Lib.hid So
  clear hgD h2
  go_upto_region 32 with fail
  go_cut [4] (λt4 wx=>t4 = .bool true∧On Nob w (aa (mdL (mwX w s m v2 ws gD gR) b r (mcN (mwX w s m v2 ws gD gR) b) (y32 s).S (x33 s))) wx)
  case first=>
   go_wp2_with fail
   refine mo Rj.out λw4 h5=>?_
   replace h5:=Lib.hid h5
   go_wp2_with fail
   go_meet
   exact⟨rfl,h5.out⟩
  case rest=>
   obtain⟨rfl,h5⟩:=hcut
   apply_assumption
   exact QR hW hs.out h5
structure AD(s:Setup):Prop where
 fa:V64 s.fault
 us:V64 s.used
 hd:V64 s.eF
