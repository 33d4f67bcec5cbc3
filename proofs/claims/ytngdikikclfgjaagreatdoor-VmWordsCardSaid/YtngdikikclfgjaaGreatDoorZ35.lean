/- Chapter 11: what is made ahead of each law: the calls that make. Conditions: as written. -/
import Derived.Test.YtngdikikclfgjaaGreatDoorZ34
import Derived.Test.YtngdikikclfgjaaGreatDoorZVLd1
open Go.Proofs.Tryz
namespace Go.Proofs.YtngdikikclfgjaaGreatDoor
set_option linter.unusedVariables false
set_option linter.unusedSimpArgs false
set_option maxHeartbeats 8000000
set_option maxRecDepth 100000
open Go.RowKit Go.Lib Go.Deep
namespace Vm
theorem pick11(c n:Int)(w:World)(hc:V64 c)(hn:0<n∧n<=9223372036854775807):
 Calls prog 6 #[c,n] w (Same (pickS c n) w):=by
 obtain⟨hc1,hc2⟩:=hc
 by_cases h:c<0
 ·have e:pickS c n= (-(c+1)).tmod n:=by unfold pickS;rw[if_pos h,Int.tmod_eq_emod_of_nonneg oM]
  rw[e]
  clear e
  go_enter func6,ntmps6
  go_wp2
  go_ret
  exact⟨by rw[Int.neg_tmod];rfl,rfl⟩
 ·have e:pickS c n=c.tmod n:=by unfold pickS;rw[if_neg h,Int.tmod_eq_emod_of_nonneg oM]
  rw[e]
  clear e
  go_enter func6,ntmps6
  go_wp2
  go_ret
  exact⟨by rw[Int.tmod_eq_emod_of_nonneg oM];rfl,rfl⟩
theorem pick_no(p r:Int)(s:ByteArray)(hs:s.size<=4096):Caps.newErr (pickS p 32) (pickS r 65537) s=0:=by
 unfold Caps.newErr pickS
 have h1:=Int.emod_nonneg (if p<0 then -(p+1)else p) (show(32:Int)≠0 by omega)
 have h2:=Int.emod_lt_of_pos (if p<0 then -(p+1)else p) (show(0:Int) <32 by omega)
 have h3:=Int.emod_nonneg (if r<0 then -(r+1)else r) (show(65537:Int)≠0 by omega)
 have h4:=Int.emod_lt_of_pos (if r<0 then -(r+1)else r) (show(0:Int) <65537 by omega)
 rw[if_neg oM,if_neg oM]
theorem i_make(w:World):Calls prog 16 #[smallV] w (PostE (λe B=> ∃g,e = .returned (.tuple #[.pointer (some ⟨g,0,none⟩),(0:Int)])∧B=ImgA g img0) Nob w):=
 make_of_at (w:=w) (R:=λe B=> ∃g,e = .returned (.tuple #[.pointer (some ⟨g,0,none⟩),(0:Int)])∧B=ImgA g img0) λw0 L h=>(a_new h 16384 64 512 128 64 img0_fits).mono λe w' ⟨g,he,h2⟩=>⟨_,⟨g,he,rfl⟩,h2⟩
theorem t_make(w:World)(p r:Int)(s:ByteArray)(h0:Caps.newErr p r s=0):Calls prog 17 #[p,r,.string s] w (PostE (λe B=> ∃g,e = .returned (.tuple #[.pointer (some ⟨g,0,none⟩),(0:Int)])∧B=TabA g (Caps.made p r s)) Nob w):=
 make_of_at (w:=w) (R:=λe B=> ∃g,e = .returned (.tuple #[.pointer (some ⟨g,0,none⟩),(0:Int)])∧B=TabA g (Caps.made p r s)) λw0 L h=>(t_new h p r s h0).mono λe w' ⟨g,he,h2⟩=>⟨_,⟨g,he,rfl⟩,h2⟩
section
variable {w W:World}{F:Nat->Prop}{X:Asr}{A:Option Addr}{l:List Int}{xs:List Wrd}
theorem WordsIn.late(h:WordsIn w.heap.size w Nob A xs)(hon:On Nob w X W)(F':Nat->Prop)(hF: ∀k,F' k->Nob k∨w.heap.size<=k):WordsIn W.heap.size W F' A xs:=by
 intro j x hx
 obtain⟨rb,o,Ax,cp,hi⟩:=h j x hx
 have ho:=hi.on hon
 have hsz:w.heap.size<=W.heap.size:=hon.outB.size
 refine⟨rb,o,Ax,cp,⟨ho.at_,λhk=> ?_,ho.c0,ho.c1,ho.c2,ho.c3,ho.ints,λhne a ha=>⟨λhk=> ?_,?_⟩,ho.name,ho.v64,ho.len⟩⟩
 ·rcases hF rb hk with h1|h1
  ·exact h1
  ·have:=World.block_lt_of_cell? w _ hi.c0
   exact absurd this (by show¬rb<_;omega)
 ·have h3:=(hi.farx hne a ha).2
  rcases hF _ hk with h1|h1
  ·exact h1
  ·omega
 ·have h3:=(hi.farx hne a ha).2
  omega
theorem RowIn.late(h:RowIn w.heap.size w Nob A l)(hon:On Nob w X W)(F':Nat->Prop)(hF: ∀k,F' k->Nob k∨w.heap.size<=k):RowIn W.heap.size W F' A l:=by
 refine⟨λj v hv=> ?_,h.v64,h.len⟩
 obtain⟨rb,o,ha,hk,hc⟩:=h.ints j v hv
 refine⟨rb,o,ha,λhk=> ?_,hon.cellOut hc (λh=>h)⟩
 rcases hF rb hk with h1|h1
 ·exact h1
 ·have:=World.block_lt_of_cell? w _ hc
  exact absurd this (by show¬rb<_;omega)
end
structure SetIn(w:World)(s:Setup)(m:Sl):Prop where
 kw:WordsIn w.heap.size w Nob m.kA s.kernel
 sw:WordsIn w.heap.size w Nob m.sA s.student
 dw:RowIn w.heap.size w Nob m.dA s.data
 rw_:RowIn w.heap.size w Nob m.rA s.ret
 kl:s.kernel.length<=9223372036854775807
 sl:s.student.length<=9223372036854775807
 caps:V64 s.caps
 room:V64 s.room
 base:V64 s.base
 inp:s.input.size<=9223372036854775807
 hid:s.hidden.size<=9223372036854775807
def Setup.cut(s:Setup):Setup:={ s with input:=s.inp,hidden:=s.hid }
theorem Setup.inp_le(s:Setup):s.inp.size<=4096:=by
 unfold Setup.inp Setup.tooLong
 split
 ·decide
 ·rename_i h
  simp at h
  exact h.1
theorem Setup.hid_le(s:Setup):s.hid.size<=64:=by
 unfold Setup.hid Setup.tooLong
 split
 ·decide
 ·rename_i h
  simp at h
  exact h.2
structure Mw where
 bx:Nat
 sc:Array Value
 v2:Value
 ws:Value
 gD:Nat
 gR:Nat
def mdL(a:Mw)(b:Bc)(r:Rc)(mc:Array Value)(SP:Img)(x:Rw):List Asr:=
 BlkA a.bx 30 a.sc::RowK 75 1 a.v2 2 (ptrsC [r.gS,r.gK])::RowP a.ws [b.gS,b.gK]::BlkA b.gP 143 turC::TabA b.gT x.T::DcA b.gI b.gS 16456 16960 x.D::DcA b.gI b.gK 8 16384 x.K ::
  BlkA b.gB 46 (bothC b (.slice none 0 0))::BlkA b.gM 104 mc::StkA b.gI a.gD pd0 x.dd::StkA b.gI a.gR pr0 x.rd::ImgA b.gI SP::docL r r.gS a.v2 x
def othK(a:Mw)(b:Bc)(r:Rc)(mc:Array Value)(S:Img)(x:Rw):List Asr:=
 [BlkA a.bx 30 a.sc,RowK 75 1 a.v2 2 (ptrsC [r.gS,r.gK]),RowP a.ws [b.gS,b.gK],BlkA b.gP 143 turC,TabA b.gT x.T,BlkA b.gM 104 mc,StkA b.gI a.gD pd0 x.dd,StkA b.gI a.gR pr0 x.rd,
  RefA r.gC x.T,AllA (rstkL r.gR r.gRr x.rd 3 4 x.ra),AllA (rstkL r.gD r.gDr x.dd 1 2 x.da),BlkA r.gT 179 (rturC 0 0 1 0 true),BlkA r.gM 121 (rimgCells r.gb S)]
def othS(a:Mw)(b:Bc)(r:Rc)(x:Rw):List Asr:=
 [BlkA a.bx 30 a.sc,RowK 75 1 a.v2 2 (ptrsC [r.gS,r.gK]),RowP a.ws [b.gS,b.gK],BlkA b.gP 143 turC,TabA b.gT x.T,DcA b.gI b.gS 16456 16960 x.D,DcA b.gI b.gK 8 16384 x.K,
  RefA r.gC x.T,RDicA r.gS r.gb 16448 16960 704 false x.D,RDicA r.gK r.gb 0 16384 17152 x.kcl x.K,BlkA r.gT 179 (rturC 0 0 1 0 true)]
theorem p_CK{w W:World}{F:Nat->Prop}{SB W2 WP TU TA DS DK BO MA SD SR IM WO RF RR RD RS RK RT RI RB:Asr}(h:On F w (AllA [SB,W2,WP,TU,TA,DS,DK,BO,MA,SD,SR,IM,WO,RF,RR,RD,RS,RK,RT,RI,RB]) W):On F w (AllA [SB,W2,WP,TU,TA,MA,SD,SR,RF,RR,RD,RT,RI,BO,DS,RS,DK,IM,WO,RK,RB]) W:=by
 replace h:On F w (AllA [RB,SB,W2,WP,TU,TA,DS,DK,BO,MA,SD,SR,IM,WO,RF,RR,RD,RS,RK,RT,RI]) W:=h.front 20 rfl
 replace h:On F w (AllA [RK,RB,SB,W2,WP,TU,TA,DS,DK,BO,MA,SD,SR,IM,WO,RF,RR,RD,RS,RT,RI]) W:=h.front 18 rfl
 replace h:On F w (AllA [WO,RK,RB,SB,W2,WP,TU,TA,DS,DK,BO,MA,SD,SR,IM,RF,RR,RD,RS,RT,RI]) W:=h.front 14 rfl
 replace h:On F w (AllA [IM,WO,RK,RB,SB,W2,WP,TU,TA,DS,DK,BO,MA,SD,SR,RF,RR,RD,RS,RT,RI]) W:=h.front 14 rfl
 replace h:On F w (AllA [DK,IM,WO,RK,RB,SB,W2,WP,TU,TA,DS,BO,MA,SD,SR,RF,RR,RD,RS,RT,RI]) W:=h.front 10 rfl
 replace h:On F w (AllA [RS,DK,IM,WO,RK,RB,SB,W2,WP,TU,TA,DS,BO,MA,SD,SR,RF,RR,RD,RT,RI]) W:=h.front 18 rfl
 replace h:On F w (AllA [DS,RS,DK,IM,WO,RK,RB,SB,W2,WP,TU,TA,BO,MA,SD,SR,RF,RR,RD,RT,RI]) W:=h.front 11 rfl
 replace h:On F w (AllA [BO,DS,RS,DK,IM,WO,RK,RB,SB,W2,WP,TU,TA,MA,SD,SR,RF,RR,RD,RT,RI]) W:=h.front 12 rfl
 replace h:On F w (AllA [RI,BO,DS,RS,DK,IM,WO,RK,RB,SB,W2,WP,TU,TA,MA,SD,SR,RF,RR,RD,RT]) W:=h.front 20 rfl
 replace h:On F w (AllA [RT,RI,BO,DS,RS,DK,IM,WO,RK,RB,SB,W2,WP,TU,TA,MA,SD,SR,RF,RR,RD]) W:=h.front 20 rfl
 replace h:On F w (AllA [RD,RT,RI,BO,DS,RS,DK,IM,WO,RK,RB,SB,W2,WP,TU,TA,MA,SD,SR,RF,RR]) W:=h.front 20 rfl
 replace h:On F w (AllA [RR,RD,RT,RI,BO,DS,RS,DK,IM,WO,RK,RB,SB,W2,WP,TU,TA,MA,SD,SR,RF]) W:=h.front 20 rfl
 replace h:On F w (AllA [RF,RR,RD,RT,RI,BO,DS,RS,DK,IM,WO,RK,RB,SB,W2,WP,TU,TA,MA,SD,SR]) W:=h.front 20 rfl
 replace h:On F w (AllA [SR,RF,RR,RD,RT,RI,BO,DS,RS,DK,IM,WO,RK,RB,SB,W2,WP,TU,TA,MA,SD]) W:=h.front 20 rfl
 replace h:On F w (AllA [SD,SR,RF,RR,RD,RT,RI,BO,DS,RS,DK,IM,WO,RK,RB,SB,W2,WP,TU,TA,MA]) W:=h.front 20 rfl
 replace h:On F w (AllA [MA,SD,SR,RF,RR,RD,RT,RI,BO,DS,RS,DK,IM,WO,RK,RB,SB,W2,WP,TU,TA]) W:=h.front 20 rfl
 replace h:On F w (AllA [TA,MA,SD,SR,RF,RR,RD,RT,RI,BO,DS,RS,DK,IM,WO,RK,RB,SB,W2,WP,TU]) W:=h.front 20 rfl
 replace h:On F w (AllA [TU,TA,MA,SD,SR,RF,RR,RD,RT,RI,BO,DS,RS,DK,IM,WO,RK,RB,SB,W2,WP]) W:=h.front 20 rfl
 replace h:On F w (AllA [WP,TU,TA,MA,SD,SR,RF,RR,RD,RT,RI,BO,DS,RS,DK,IM,WO,RK,RB,SB,W2]) W:=h.front 20 rfl
 replace h:On F w (AllA [W2,WP,TU,TA,MA,SD,SR,RF,RR,RD,RT,RI,BO,DS,RS,DK,IM,WO,RK,RB,SB]) W:=h.front 20 rfl
 replace h:On F w (AllA [SB,W2,WP,TU,TA,MA,SD,SR,RF,RR,RD,RT,RI,BO,DS,RS,DK,IM,WO,RK,RB]) W:=h.front 20 rfl
 exact h
theorem p_SC{w W:World}{F:Nat->Prop}{SB W2 WP TU TA MA SD SR RF RR RD RT RI BO DK RK DS IM WO RS RB:Asr}(h:On F w (AllA [SB,W2,WP,TU,TA,MA,SD,SR,RF,RR,RD,RT,RI,BO,DK,RK,DS,IM,WO,RS,RB]) W):On F w (AllA [SB,W2,WP,TU,TA,DS,DK,BO,MA,SD,SR,IM,WO,RF,RR,RD,RS,RK,RT,RI,RB]) W:=by
 replace h:On F w (AllA [RB,SB,W2,WP,TU,TA,MA,SD,SR,RF,RR,RD,RT,RI,BO,DK,RK,DS,IM,WO,RS]) W:=h.front 20 rfl
 replace h:On F w (AllA [RI,RB,SB,W2,WP,TU,TA,MA,SD,SR,RF,RR,RD,RT,BO,DK,RK,DS,IM,WO,RS]) W:=h.front 13 rfl
 replace h:On F w (AllA [RT,RI,RB,SB,W2,WP,TU,TA,MA,SD,SR,RF,RR,RD,BO,DK,RK,DS,IM,WO,RS]) W:=h.front 13 rfl
 replace h:On F w (AllA [RK,RT,RI,RB,SB,W2,WP,TU,TA,MA,SD,SR,RF,RR,RD,BO,DK,DS,IM,WO,RS]) W:=h.front 16 rfl
 replace h:On F w (AllA [RS,RK,RT,RI,RB,SB,W2,WP,TU,TA,MA,SD,SR,RF,RR,RD,BO,DK,DS,IM,WO]) W:=h.front 20 rfl
 replace h:On F w (AllA [RD,RS,RK,RT,RI,RB,SB,W2,WP,TU,TA,MA,SD,SR,RF,RR,BO,DK,DS,IM,WO]) W:=h.front 15 rfl
 replace h:On F w (AllA [RR,RD,RS,RK,RT,RI,RB,SB,W2,WP,TU,TA,MA,SD,SR,RF,BO,DK,DS,IM,WO]) W:=h.front 15 rfl
 replace h:On F w (AllA [RF,RR,RD,RS,RK,RT,RI,RB,SB,W2,WP,TU,TA,MA,SD,SR,BO,DK,DS,IM,WO]) W:=h.front 15 rfl
 replace h:On F w (AllA [WO,RF,RR,RD,RS,RK,RT,RI,RB,SB,W2,WP,TU,TA,MA,SD,SR,BO,DK,DS,IM]) W:=h.front 20 rfl
 replace h:On F w (AllA [IM,WO,RF,RR,RD,RS,RK,RT,RI,RB,SB,W2,WP,TU,TA,MA,SD,SR,BO,DK,DS]) W:=h.front 20 rfl
 replace h:On F w (AllA [SR,IM,WO,RF,RR,RD,RS,RK,RT,RI,RB,SB,W2,WP,TU,TA,MA,SD,BO,DK,DS]) W:=h.front 17 rfl
 replace h:On F w (AllA [SD,SR,IM,WO,RF,RR,RD,RS,RK,RT,RI,RB,SB,W2,WP,TU,TA,MA,BO,DK,DS]) W:=h.front 17 rfl
 replace h:On F w (AllA [MA,SD,SR,IM,WO,RF,RR,RD,RS,RK,RT,RI,RB,SB,W2,WP,TU,TA,BO,DK,DS]) W:=h.front 17 rfl
 replace h:On F w (AllA [BO,MA,SD,SR,IM,WO,RF,RR,RD,RS,RK,RT,RI,RB,SB,W2,WP,TU,TA,DK,DS]) W:=h.front 18 rfl
 replace h:On F w (AllA [DK,BO,MA,SD,SR,IM,WO,RF,RR,RD,RS,RK,RT,RI,RB,SB,W2,WP,TU,TA,DS]) W:=h.front 19 rfl
 replace h:On F w (AllA [DS,DK,BO,MA,SD,SR,IM,WO,RF,RR,RD,RS,RK,RT,RI,RB,SB,W2,WP,TU,TA]) W:=h.front 20 rfl
 replace h:On F w (AllA [TA,DS,DK,BO,MA,SD,SR,IM,WO,RF,RR,RD,RS,RK,RT,RI,RB,SB,W2,WP,TU]) W:=h.front 20 rfl
 replace h:On F w (AllA [TU,TA,DS,DK,BO,MA,SD,SR,IM,WO,RF,RR,RD,RS,RK,RT,RI,RB,SB,W2,WP]) W:=h.front 20 rfl
 replace h:On F w (AllA [WP,TU,TA,DS,DK,BO,MA,SD,SR,IM,WO,RF,RR,RD,RS,RK,RT,RI,RB,SB,W2]) W:=h.front 20 rfl
 replace h:On F w (AllA [W2,WP,TU,TA,DS,DK,BO,MA,SD,SR,IM,WO,RF,RR,RD,RS,RK,RT,RI,RB,SB]) W:=h.front 20 rfl
 replace h:On F w (AllA [SB,W2,WP,TU,TA,DS,DK,BO,MA,SD,SR,IM,WO,RF,RR,RD,RS,RK,RT,RI,RB]) W:=h.front 20 rfl
 exact h
theorem p_CT{w W:World}{F:Nat->Prop}{SB W2 WP TU TA DS DK BO MA SD SR IM WO RF RR RD RS RK RT RI RB:Asr}(h:On F w (AllA [SB,W2,WP,TU,TA,DS,DK,BO,MA,SD,SR,IM,WO,RF,RR,RD,RS,RK,RT,RI,RB]) W):On F w (AllA [SB,W2,WP,TU,TA,DS,DK,RF,RS,RK,RT,BO,MA,SD,SR,IM,WO,RD,RR,RI,RB]) W:=by
 replace h:On F w (AllA [RB,SB,W2,WP,TU,TA,DS,DK,BO,MA,SD,SR,IM,WO,RF,RR,RD,RS,RK,RT,RI]) W:=h.front 20 rfl
 replace h:On F w (AllA [RI,RB,SB,W2,WP,TU,TA,DS,DK,BO,MA,SD,SR,IM,WO,RF,RR,RD,RS,RK,RT]) W:=h.front 20 rfl
 replace h:On F w (AllA [RR,RI,RB,SB,W2,WP,TU,TA,DS,DK,BO,MA,SD,SR,IM,WO,RF,RD,RS,RK,RT]) W:=h.front 16 rfl
 replace h:On F w (AllA [RD,RR,RI,RB,SB,W2,WP,TU,TA,DS,DK,BO,MA,SD,SR,IM,WO,RF,RS,RK,RT]) W:=h.front 17 rfl
 replace h:On F w (AllA [WO,RD,RR,RI,RB,SB,W2,WP,TU,TA,DS,DK,BO,MA,SD,SR,IM,RF,RS,RK,RT]) W:=h.front 16 rfl
 replace h:On F w (AllA [IM,WO,RD,RR,RI,RB,SB,W2,WP,TU,TA,DS,DK,BO,MA,SD,SR,RF,RS,RK,RT]) W:=h.front 16 rfl
 replace h:On F w (AllA [SR,IM,WO,RD,RR,RI,RB,SB,W2,WP,TU,TA,DS,DK,BO,MA,SD,RF,RS,RK,RT]) W:=h.front 16 rfl
 replace h:On F w (AllA [SD,SR,IM,WO,RD,RR,RI,RB,SB,W2,WP,TU,TA,DS,DK,BO,MA,RF,RS,RK,RT]) W:=h.front 16 rfl
 replace h:On F w (AllA [MA,SD,SR,IM,WO,RD,RR,RI,RB,SB,W2,WP,TU,TA,DS,DK,BO,RF,RS,RK,RT]) W:=h.front 16 rfl
 replace h:On F w (AllA [BO,MA,SD,SR,IM,WO,RD,RR,RI,RB,SB,W2,WP,TU,TA,DS,DK,RF,RS,RK,RT]) W:=h.front 16 rfl
 replace h:On F w (AllA [RT,BO,MA,SD,SR,IM,WO,RD,RR,RI,RB,SB,W2,WP,TU,TA,DS,DK,RF,RS,RK]) W:=h.front 20 rfl
 replace h:On F w (AllA [RK,RT,BO,MA,SD,SR,IM,WO,RD,RR,RI,RB,SB,W2,WP,TU,TA,DS,DK,RF,RS]) W:=h.front 20 rfl
 replace h:On F w (AllA [RS,RK,RT,BO,MA,SD,SR,IM,WO,RD,RR,RI,RB,SB,W2,WP,TU,TA,DS,DK,RF]) W:=h.front 20 rfl
 replace h:On F w (AllA [RF,RS,RK,RT,BO,MA,SD,SR,IM,WO,RD,RR,RI,RB,SB,W2,WP,TU,TA,DS,DK]) W:=h.front 20 rfl
 replace h:On F w (AllA [DK,RF,RS,RK,RT,BO,MA,SD,SR,IM,WO,RD,RR,RI,RB,SB,W2,WP,TU,TA,DS]) W:=h.front 20 rfl
 replace h:On F w (AllA [DS,DK,RF,RS,RK,RT,BO,MA,SD,SR,IM,WO,RD,RR,RI,RB,SB,W2,WP,TU,TA]) W:=h.front 20 rfl
 replace h:On F w (AllA [TA,DS,DK,RF,RS,RK,RT,BO,MA,SD,SR,IM,WO,RD,RR,RI,RB,SB,W2,WP,TU]) W:=h.front 20 rfl
 replace h:On F w (AllA [TU,TA,DS,DK,RF,RS,RK,RT,BO,MA,SD,SR,IM,WO,RD,RR,RI,RB,SB,W2,WP]) W:=h.front 20 rfl
 replace h:On F w (AllA [WP,TU,TA,DS,DK,RF,RS,RK,RT,BO,MA,SD,SR,IM,WO,RD,RR,RI,RB,SB,W2]) W:=h.front 20 rfl
 replace h:On F w (AllA [W2,WP,TU,TA,DS,DK,RF,RS,RK,RT,BO,MA,SD,SR,IM,WO,RD,RR,RI,RB,SB]) W:=h.front 20 rfl
 replace h:On F w (AllA [SB,W2,WP,TU,TA,DS,DK,RF,RS,RK,RT,BO,MA,SD,SR,IM,WO,RD,RR,RI,RB]) W:=h.front 20 rfl
 exact h
theorem p_TC{w W:World}{F:Nat->Prop}{SB W2 WP TU TA DS DK RF RS RK RT BO MA SD SR IM WO RD RR RI RB:Asr}(h:On F w (AllA [SB,W2,WP,TU,TA,DS,DK,RF,RS,RK,RT,BO,MA,SD,SR,IM,WO,RD,RR,RI,RB]) W):On F w (AllA [SB,W2,WP,TU,TA,DS,DK,BO,MA,SD,SR,IM,WO,RF,RR,RD,RS,RK,RT,RI,RB]) W:=by
 replace h:On F w (AllA [RB,SB,W2,WP,TU,TA,DS,DK,RF,RS,RK,RT,BO,MA,SD,SR,IM,WO,RD,RR,RI]) W:=h.front 20 rfl
 replace h:On F w (AllA [RI,RB,SB,W2,WP,TU,TA,DS,DK,RF,RS,RK,RT,BO,MA,SD,SR,IM,WO,RD,RR]) W:=h.front 20 rfl
 replace h:On F w (AllA [RT,RI,RB,SB,W2,WP,TU,TA,DS,DK,RF,RS,RK,BO,MA,SD,SR,IM,WO,RD,RR]) W:=h.front 12 rfl
 replace h:On F w (AllA [RK,RT,RI,RB,SB,W2,WP,TU,TA,DS,DK,RF,RS,BO,MA,SD,SR,IM,WO,RD,RR]) W:=h.front 12 rfl
 replace h:On F w (AllA [RS,RK,RT,RI,RB,SB,W2,WP,TU,TA,DS,DK,RF,BO,MA,SD,SR,IM,WO,RD,RR]) W:=h.front 12 rfl
 replace h:On F w (AllA [RD,RS,RK,RT,RI,RB,SB,W2,WP,TU,TA,DS,DK,RF,BO,MA,SD,SR,IM,WO,RR]) W:=h.front 19 rfl
 replace h:On F w (AllA [RR,RD,RS,RK,RT,RI,RB,SB,W2,WP,TU,TA,DS,DK,RF,BO,MA,SD,SR,IM,WO]) W:=h.front 20 rfl
 replace h:On F w (AllA [RF,RR,RD,RS,RK,RT,RI,RB,SB,W2,WP,TU,TA,DS,DK,BO,MA,SD,SR,IM,WO]) W:=h.front 14 rfl
 replace h:On F w (AllA [WO,RF,RR,RD,RS,RK,RT,RI,RB,SB,W2,WP,TU,TA,DS,DK,BO,MA,SD,SR,IM]) W:=h.front 20 rfl
 replace h:On F w (AllA [IM,WO,RF,RR,RD,RS,RK,RT,RI,RB,SB,W2,WP,TU,TA,DS,DK,BO,MA,SD,SR]) W:=h.front 20 rfl
 replace h:On F w (AllA [SR,IM,WO,RF,RR,RD,RS,RK,RT,RI,RB,SB,W2,WP,TU,TA,DS,DK,BO,MA,SD]) W:=h.front 20 rfl
 replace h:On F w (AllA [SD,SR,IM,WO,RF,RR,RD,RS,RK,RT,RI,RB,SB,W2,WP,TU,TA,DS,DK,BO,MA]) W:=h.front 20 rfl
 replace h:On F w (AllA [MA,SD,SR,IM,WO,RF,RR,RD,RS,RK,RT,RI,RB,SB,W2,WP,TU,TA,DS,DK,BO]) W:=h.front 20 rfl
 replace h:On F w (AllA [BO,MA,SD,SR,IM,WO,RF,RR,RD,RS,RK,RT,RI,RB,SB,W2,WP,TU,TA,DS,DK]) W:=h.front 20 rfl
 replace h:On F w (AllA [DK,BO,MA,SD,SR,IM,WO,RF,RR,RD,RS,RK,RT,RI,RB,SB,W2,WP,TU,TA,DS]) W:=h.front 20 rfl
 replace h:On F w (AllA [DS,DK,BO,MA,SD,SR,IM,WO,RF,RR,RD,RS,RK,RT,RI,RB,SB,W2,WP,TU,TA]) W:=h.front 20 rfl
 replace h:On F w (AllA [TA,DS,DK,BO,MA,SD,SR,IM,WO,RF,RR,RD,RS,RK,RT,RI,RB,SB,W2,WP,TU]) W:=h.front 20 rfl
 replace h:On F w (AllA [TU,TA,DS,DK,BO,MA,SD,SR,IM,WO,RF,RR,RD,RS,RK,RT,RI,RB,SB,W2,WP]) W:=h.front 20 rfl
 replace h:On F w (AllA [WP,TU,TA,DS,DK,BO,MA,SD,SR,IM,WO,RF,RR,RD,RS,RK,RT,RI,RB,SB,W2]) W:=h.front 20 rfl
 replace h:On F w (AllA [W2,WP,TU,TA,DS,DK,BO,MA,SD,SR,IM,WO,RF,RR,RD,RS,RK,RT,RI,RB,SB]) W:=h.front 20 rfl
 replace h:On F w (AllA [SB,W2,WP,TU,TA,DS,DK,BO,MA,SD,SR,IM,WO,RF,RR,RD,RS,RK,RT,RI,RB]) W:=h.front 20 rfl
 exact h
section
variable {w W:World}{a:Mw}{b:Bc}{r:Rc}{mc:Array Value}{S SP:Img}{x:Rw}{s:Setup}{m:Sl}{c:Vc}{t:Mt}
def wcX(a:Mw)(r:Rc)(x:Rw):Array Value:=worldC r r.gS a.v2 x.fault x.used x.hidden x.tells
theorem md_toK(h:On Nob w (AllA (mdL a b r mc x.S x)) W)(hk:x.kcl=false)(hW:b.gW=r.gW):On Nob w (AllA (othK a b r mc x.S x++lsK b r (wcX a r x) x.D (x.S,x.K))) W:=by
 obtain⟨xS,xK,xD,xk,xT,xdd,xda,xrd,xra,xf,xu,xh,xt⟩:=x
 obtain rfl:xk=false:=hk
 obtain⟨bB,bI,bK,bS,bT,bP,bM,bW⟩:=b
 obtain rfl:bW=r.gW:=hW
 have h2:=p_CK h
 exact h2
theorem md_ofS{p:Img×Dc}{K:Dc}(h:On Nob w (AllA (othK a b r mc x.S x++lsS b r (wcX a r x) K p)) W)(hk:x.kcl=false)(hW:b.gW=r.gW)(ha:Alike x.S p.1):On Nob w (AllA (mdL a b r mc p.1 { x with S:=p.1,K:=K,D:=p.2 })) W:=by
 have e:=rimg_alike r.gb ha
 obtain⟨xS,xK,xD,xk,xT,xdd,xda,xrd,xra,xf,xu,xh,xt⟩:=x
 obtain rfl:xk=false:=hk
 obtain⟨bB,bI,bK,bS,bT,bP,bM,bW⟩:=b
 obtain rfl:bW=r.gW:=hW
 unfold othK at h
 rw[<-show rimgCells r.gb p.1=rimgCells r.gb xS from e]at h
 have h2:=p_SC h
 exact h2
theorem md_lists(h:On Nob w (AllA (mdL a b r mc x.S x)) W)(hk:x.kcl=false)(hW:b.gW=r.gW)(h8:At8 x.S x.K 8 16384)(hsh:x.K.shut x.S=false)(h8d:At8 x.S x.D 16456 16960)(hshd:x.D.shut x.S=false)(hs:SetIn w s m):
 Calls prog 23 #[b.gB,.agg (setupC s m)] W (Got (.returned (.bool true)) (AllA (mdL a b r mc (listS s.student ((listS s.kernel (x.S,x.K)).1,x.D)).1 { x with S:=(listS s.student ((listS s.kernel (x.S,x.K)).1,x.D)).1,K:=(listS s.kernel (x.S,x.K)).2,D:=(listS s.student ((listS s.kernel (x.S,x.K)).1,x.D)).2 })) Nob w):=by
 have g1:=grew_list s.kernel (x.S,x.K) h8.img h8.ok
 have h8d':=h8d.ok.alike g1.al
 have g2:=grew_list s.student ((listS s.kernel (x.S,x.K)).1,x.D) g1.img h8d'
 have hal:Alike x.S (listS s.student ((listS s.kernel (x.S,x.K)).1,x.D)).1:=g1.al.trans g2.al
 have hc:=(md_toK h hk hW).callDrop 13 (by simp[othK]) (L':=lsS b r (wcX a r x) (listS s.kernel (x.S,x.K)).2 (listS s.student ((listS s.kernel (x.S,x.K)).1,x.D))) (λF' hb _ hF=>b_lists (wcs:=wcX a r x) hb h8 hsh h8d hshd (hs.kw.late h F' hF) (hs.sw.late h F' hF) hs.kl hs.sl rfl rfl)
 refine hc.mono ?_
 rintro e w' ⟨he,h4⟩
 exact⟨he,md_ofS h4 hk hW hal⟩
theorem md_toT(h:On Nob w (AllA (mdL a b r mc SP x)) W)(hW:b.gW=r.gW):On Nob w (AllA (othS a b r x++stL b r a.gD a.gR mc (wcX a r x) ⟨SP,x.dd,x.rd,x.S,x.dd,x.da,x.rd,x.ra⟩)) W:=by
 obtain⟨bB,bI,bK,bS,bT,bP,bM,bW⟩:=b
 obtain rfl:bW=r.gW:=hW
 have h2:=p_CT h
 exact h2
theorem md_ofT{y:St}(h:On Nob w (AllA (othS a b r x++stL b r a.gD a.gR mc (wcX a r x) y)) W)(h1:y.d=y.dd)(h2:y.r=y.rd)(hW:b.gW=r.gW):On Nob w (AllA (mdL a b r mc y.S { x with S:=y.R,dd:=y.dd,da:=y.da,rd:=y.rd,ra:=y.ra })) W:=by
 obtain⟨yS,yd,yr,yR,ydd,yda,yrd,yra⟩:=y
 obtain rfl:yd=ydd:=h1
 obtain rfl:yr=yrd:=h2
 obtain⟨bB,bI,bK,bS,bT,bP,bM,bW⟩:=b
 obtain rfl:bW=r.gW:=hW
 have h2:=p_TC h
 exact h2
theorem md_front(h:On Nob w (AllA (mdL a b r (machC c t) SP x)) W)(hc:c.gM=b.gM):On Nob w (AllA (MachA c t:: (mdL a b r (machC c t) SP x).eraseIdx 8)) W:=by
 unfold MachA
 rw[hc]
 exact h.front 8 rfl
end
section
variable {w W:World}{a:Mw}{b:Bc}{r:Rc}{mc:Array Value}{S SP:Img}{x:Rw}{s:Setup}{m:Sl}{c:Vc}{t:Mt}
theorem md_open1(h:On Nob w (AllA (mdL a b r mc SP x)) W):Calls prog 24 #[b.gI] W (Got (.returned SP.openF) (AllA (mdL a b r mc SP.opened x)) Nob w):=
 h.callAtG 11 rfl λF' hb=>got_of_at hb λw0 L h=>a_open h
theorem md_seal1(h:On Nob w (AllA (mdL a b r mc SP x)) W):Calls prog 28 #[b.gI] W (Got (.returned SP.openF) (AllA (mdL a b r mc SP.sealed x)) Nob w):=
 h.callAtG 11 rfl λF' hb=>got_of_at hb λw0 L h=>a_seal h
theorem md_load1(h:On Nob w (AllA (mdL a b r mc SP x)) W)(hs:SP.s≠0)(l:ByteArray)(hl:l.size<=SP.s):Calls prog 26 #[b.gI,.string l] W (Got (.returned (.int .i64 0)) (AllA (mdL a b r mc (Setup.load SP l.data.toList) x)) Nob w):=
 h.callAtG 11 rfl λF' hb=>i_load hb hs l hl
theorem md_open2(h:On Nob w (AllA (mdL a b r mc SP x)) W)(hS:x.S.Ok)(hc:x.S.cl=false):Calls prog 25 #[r.gW] W (Got (.returned (.tuple #[])) (AllA (mdL a b r mc SP { x with S:={ x.S with op:=true } })) Nob w):=
 h.callDrop 12 (by simp[mdL]) λF' hb _ _=>w_open hb hS hc
theorem md_seal2(h:On Nob w (AllA (mdL a b r mc SP x)) W)(hS:x.S.Ok)(hc:x.S.cl=false):Calls prog 29 #[r.gW] W (Got (.returned (.tuple #[])) (AllA (mdL a b r mc SP { x with S:=x.S.sealed,kcl:=true })) Nob w):=
 h.callDrop 12 (by simp[mdL]) λF' hb _ _=>w_seal hb hS hc
theorem md_load2(h:On Nob w (AllA (mdL a b r mc SP x)) W)(hS:x.S.Ok)(hs:x.S.s<=4096)(l:ByteArray)(hl:l.size<=x.S.s):Calls prog 27 #[r.gM,.string l] W (Got (.returned (.int .i64 0)) (AllA (mdL a b r mc SP { x with S:=Setup.load x.S l.data.toList })) Nob w):=
 h.callDrop 19 (by simp[mdL,docL]) λF' hb _ _=>r_load (On.refl hb) hS l hl hs
def st0(SP:Img)(x:Rw):St:=⟨SP,x.dd,x.rd,x.S,x.dd,x.da,x.rd,x.ra⟩
def stE(s:Setup)(SP:Img)(x:Rw):St:=((s.ret.take 8).foldl St.onR ((s.data.take 16).foldl St.onD (st0 SP x))).setBase s.base
theorem md_stacks(h:On Nob w (AllA (mdL a b r mc SP x)) W)(hW:b.gW=r.gW)(hm0:mc[0]? = some (b.gI:Vl))(hm5:mc[5]? = some (a.gD:Vl))(hm6:mc[6]? = some (a.gR:Vl))
 (hxd:x.dd=0∧x.rd=0) (hda:x.da.length=16) (hra:x.ra.length=8) (hS:SP.Ok) (hL:Lay0 SP) (hR:x.S.Ok) (hLR:Lay0 x.S) (hs:SetIn w s m):
 Calls prog 30 #[b.gB,.agg (setupC s m)] W (Got (.returned (.bool true)) (AllA (mdL a b r mc (stE s SP x).S { x with S:=(stE s SP x).R,dd:=(stE s SP x).dd,da:=(stE s SP x).da,rd:=(stE s SP x).rd,ra:=(stE s SP x).ra })) Nob w):=by
 have hc:=(md_toT h hW).callDrop 11 (by simp[othS]) (L':=stL b r a.gD a.gR mc (wcX a r x) (stE s SP x)) (λF' hb _ hF=>b_stacks (wcs:=wcX a r x) hb hm0 hm5 hm6 rfl rfl rfl ⟨hxd.1,hxd.1,hxd.2,hxd.2⟩ hda hra hS hL hR hLR (hs.dw.late h F' hF) (hs.rw_.late h F' hF) hs.base)
 refine hc.mono ?_
 rintro e w' ⟨he,h4⟩
 obtain⟨f1,f2,f3,f4,f5,f6,f7,f8⟩:=onR_fold (s.ret.take 8) ((s.data.take 16).foldl St.onD (st0 SP x))
 obtain⟨g1,g2,g3,g4,g5,g6,g7,g8⟩:=onD_fold (s.data.take 16) (st0 SP x)
 refine⟨he,md_ofT h4 ?_ ?_ hW⟩
 ·show((s.ret.take 8).foldl St.onR ((s.data.take 16).foldl St.onD (st0 SP x))).d= ((s.ret.take 8).foldl St.onR ((s.data.take 16).foldl St.onD (st0 SP x))).dd
  rw[f4,f5,g1,g2]
  rfl
 ·show((s.ret.take 8).foldl St.onR ((s.data.take 16).foldl St.onD (st0 SP x))).r= ((s.ret.take 8).foldl St.onR ((s.data.take 16).foldl St.onD (st0 SP x))).rd
  rw[f1,f2,g4,g5]
  rfl
end
def codeDrop:Nat->Code->Code
 | 0,c=>c
 | n+1,.seq _ b=>codeDrop n b
 | _+1,c=>c
def endC(a:Mw)(b:Bc)(r:Rc)(x:Rw):Vc:=
 ⟨b.gM,b.gI,a.gD,a.gR,b.gT,b.gS,b.gK,b.gP,a.ws,.func (.func 33) #[b.gB] #[],16456,16960,8,16384,BothA b,
  λ_=>RowP a.ws [b.gS,b.gK]::BlkA b.gP 143 turC::RowK 75 1 a.v2 2 (ptrsC [r.gS,r.gK])::docL r r.gS a.v2 x⟩
def x00:Rw:=⟨img0,ker0,stu0,false,Caps.made 0 0 ⟨#[]⟩,0,List.replicate 16 0,0,List.replicate 8 0,0,0,0,false⟩
def Setup.tab0(s:Setup):Caps.Tab:=Caps.made (pickS s.caps 32) (pickS s.room 65537) s.inp
theorem p_start{w W:World}{F:Nat->Prop}{A1 A2 A3 A4 A5 A6 A7 A8 A9 A10 A11:Asr}(h:On F w (AllA [A1,A2,A3,A4,A5,A6,A7,A8,A9,A10,A11]) W):On F w (AllA [A1,A3,A4,A5,A6,A7,A8,A9,A10,A2,A11]) W:=by
 replace h:On F w (AllA [A11,A1,A2,A3,A4,A5,A6,A7,A8,A9,A10]) W:=h.front 10 rfl
 replace h:On F w (AllA [A2,A11,A1,A3,A4,A5,A6,A7,A8,A9,A10]) W:=h.front 2 rfl
 replace h:On F w (AllA [A10,A2,A11,A1,A3,A4,A5,A6,A7,A8,A9]) W:=h.front 10 rfl
 replace h:On F w (AllA [A9,A10,A2,A11,A1,A3,A4,A5,A6,A7,A8]) W:=h.front 10 rfl
 replace h:On F w (AllA [A8,A9,A10,A2,A11,A1,A3,A4,A5,A6,A7]) W:=h.front 10 rfl
 replace h:On F w (AllA [A7,A8,A9,A10,A2,A11,A1,A3,A4,A5,A6]) W:=h.front 10 rfl
 replace h:On F w (AllA [A6,A7,A8,A9,A10,A2,A11,A1,A3,A4,A5]) W:=h.front 10 rfl
 replace h:On F w (AllA [A5,A6,A7,A8,A9,A10,A2,A11,A1,A3,A4]) W:=h.front 10 rfl
 replace h:On F w (AllA [A4,A5,A6,A7,A8,A9,A10,A2,A11,A1,A3]) W:=h.front 10 rfl
 replace h:On F w (AllA [A3,A4,A5,A6,A7,A8,A9,A10,A2,A11,A1]) W:=h.front 10 rfl
 replace h:On F w (AllA [A1,A3,A4,A5,A6,A7,A8,A9,A10,A2,A11]) W:=h.front 10 rfl
 exact h
theorem md_start{w W:World}{r:Rc}{gws bx:Nat}{sc:Array Value}(h:On Nob w (AllA [AllA (BlkA r.gW 81 (worldC r r.gK (.slice gws 1 1) 0 0 0 false)::BlkA gws 75 #[r.gK]::newL r),BlkA bx 30 sc]) W):
 On Nob w (AllA [DocA r r.gK (.slice gws 1 1) x00,BlkA gws 75 #[r.gK],BlkA bx 30 sc]) W:=by
 have h2:=p_start h.flat
 exact On.unflat (L1:=docL r r.gK (.slice gws 1 1) x00) h2
def mwX(w:World)(s:Setup)(m:Sl)(v2 ws:Value)(gD gR:Nat):Mw:=⟨w.heap.size,setupC s.cut m,v2,ws,gD,gR⟩
def mcN(a:Mw)(b:Bc):Array Value:=newC b.gI b.gS b.gT b.gP a.ws (.pointer a.gD) (.pointer a.gR)
def x08(s:Setup):Rw:={ x00 with T:=s.tab0 }
def x22(s:Setup):Rw:={ x08 s with S:=s.t1.1,K:=s.k1.2,D:=s.t1.2 }
def x25(s:Setup):Rw:={ x22 s with S:=s.i2 }
def x32(s:Setup):Rw:={ x22 s with S:=s.i3,kcl:=true }
def y32(s:Setup):St:=stE s.cut s.i3 (x32 s)
def x33(s:Setup):Rw:={ x32 s with S:=(y32 s).R,dd:=(y32 s).dd,da:=(y32 s).da,rd:=(y32 s).rd,ra:=(y32 s).ra }
def x41(s:Setup):Rw:={ x33 s with fault:=s.fault,used:=s.used,hidden:=s.hiddenAs,tells:=true }
def MadeB(s:Setup)(e:Ending)(B:Asr):Prop:= ∃(a:Mw) (b:Bc) (r:Rc),b.gW=r.gW∧e = .returned (.pointer b.gB)∧B=AllA (mL (endC a b r (x41 s)) s.mt)
def c33(a:Mw)(b:Bc):Vc:=⟨b.gM,b.gI,a.gD,a.gR,b.gT,b.gS,b.gK,b.gP,a.ws,.nilFunc,16456,16960,8,16384,BothA b,λ_=>[]⟩
def t33(s:Setup):Mt:={ s.m1 with S:=s.m1.S.setCell 0 16448 s.base }
theorem y32_eq(s:Setup): (y32 s).S=s.mt.S∧(y32 s).dd=s.mt.d∧(y32 s).rd=s.mt.r:=by
 obtain⟨f1,f2,f3,f4,f5,f6,f7,f8⟩:=onR_fold (s.ret.take 8) ((s.data.take 16).foldl St.onD (st0 s.i3 (x32 s)))
 obtain⟨g1,g2,g3,g4,g5,g6,g7,g8⟩:=onD_fold (s.data.take 16) (st0 s.i3 (x32 s))
 refine⟨?_,?_,?_⟩
 ·show(((s.ret.take 8).foldl St.onR ((s.data.take 16).foldl St.onD (st0 s.i3 (x32 s)))).S).setCell 0 16448 s.base=_
  rw[f8,g8,g4]
  rfl
 ·show((s.ret.take 8).foldl St.onR ((s.data.take 16).foldl St.onD (st0 s.i3 (x32 s)))).dd=_
  rw[f5,g2]
  rfl
 ·show((s.ret.take 8).foldl St.onR ((s.data.take 16).foldl St.onD (st0 s.i3 (x32 s)))).rd=_
  rw[f2,g5]
  rfl
theorem both_nil{w:World}{F:Nat->Prop}{b:Bc}(h: (BlkA b.gB 46 (bothC b (.slice none 0 0))).holds w F): (BothA b []).holds w F:=
 ⟨.slice none 0 0,F,Nob,h,All.one (A:=RowK 154 5 (.slice none 0 0) 0 []) ⟨World.ownsRow_nil _ _ _ _,λk=>⟨λh=>h.elim,λh=>by cases h⟩⟩,λk _ h=>h,λk=>⟨.inl,λh=>h.elim id λh=>h.elim⟩⟩
theorem p_MFML{w W:World}{F:Nat->Prop}{MA SB W2 WP TU TA DS DK BO SD SR IM WO RF RR RD RS RK RT RI RB:Asr}(h:On F w (AllA [MA,SB,W2,WP,TU,TA,DS,DK,BO,SD,SR,IM,WO,RF,RR,RD,RS,RK,RT,RI,RB]) W):On F w (AllA [MA,IM,SD,SR,TA,DS,DK,BO,WP,TU,W2,WO,RF,RR,RD,RS,RK,RT,RI,RB,SB]) W:=by
 replace h:On F w (AllA [SB,MA,W2,WP,TU,TA,DS,DK,BO,SD,SR,IM,WO,RF,RR,RD,RS,RK,RT,RI,RB]) W:=h.front 1 rfl
 replace h:On F w (AllA [RB,SB,MA,W2,WP,TU,TA,DS,DK,BO,SD,SR,IM,WO,RF,RR,RD,RS,RK,RT,RI]) W:=h.front 20 rfl
 replace h:On F w (AllA [RI,RB,SB,MA,W2,WP,TU,TA,DS,DK,BO,SD,SR,IM,WO,RF,RR,RD,RS,RK,RT]) W:=h.front 20 rfl
 replace h:On F w (AllA [RT,RI,RB,SB,MA,W2,WP,TU,TA,DS,DK,BO,SD,SR,IM,WO,RF,RR,RD,RS,RK]) W:=h.front 20 rfl
 replace h:On F w (AllA [RK,RT,RI,RB,SB,MA,W2,WP,TU,TA,DS,DK,BO,SD,SR,IM,WO,RF,RR,RD,RS]) W:=h.front 20 rfl
 replace h:On F w (AllA [RS,RK,RT,RI,RB,SB,MA,W2,WP,TU,TA,DS,DK,BO,SD,SR,IM,WO,RF,RR,RD]) W:=h.front 20 rfl
 replace h:On F w (AllA [RD,RS,RK,RT,RI,RB,SB,MA,W2,WP,TU,TA,DS,DK,BO,SD,SR,IM,WO,RF,RR]) W:=h.front 20 rfl
 replace h:On F w (AllA [RR,RD,RS,RK,RT,RI,RB,SB,MA,W2,WP,TU,TA,DS,DK,BO,SD,SR,IM,WO,RF]) W:=h.front 20 rfl
 replace h:On F w (AllA [RF,RR,RD,RS,RK,RT,RI,RB,SB,MA,W2,WP,TU,TA,DS,DK,BO,SD,SR,IM,WO]) W:=h.front 20 rfl
 replace h:On F w (AllA [WO,RF,RR,RD,RS,RK,RT,RI,RB,SB,MA,W2,WP,TU,TA,DS,DK,BO,SD,SR,IM]) W:=h.front 20 rfl
 replace h:On F w (AllA [W2,WO,RF,RR,RD,RS,RK,RT,RI,RB,SB,MA,WP,TU,TA,DS,DK,BO,SD,SR,IM]) W:=h.front 11 rfl
 replace h:On F w (AllA [TU,W2,WO,RF,RR,RD,RS,RK,RT,RI,RB,SB,MA,WP,TA,DS,DK,BO,SD,SR,IM]) W:=h.front 13 rfl
 replace h:On F w (AllA [WP,TU,W2,WO,RF,RR,RD,RS,RK,RT,RI,RB,SB,MA,TA,DS,DK,BO,SD,SR,IM]) W:=h.front 13 rfl
 replace h:On F w (AllA [BO,WP,TU,W2,WO,RF,RR,RD,RS,RK,RT,RI,RB,SB,MA,TA,DS,DK,SD,SR,IM]) W:=h.front 17 rfl
 replace h:On F w (AllA [DK,BO,WP,TU,W2,WO,RF,RR,RD,RS,RK,RT,RI,RB,SB,MA,TA,DS,SD,SR,IM]) W:=h.front 17 rfl
 replace h:On F w (AllA [DS,DK,BO,WP,TU,W2,WO,RF,RR,RD,RS,RK,RT,RI,RB,SB,MA,TA,SD,SR,IM]) W:=h.front 17 rfl
 replace h:On F w (AllA [TA,DS,DK,BO,WP,TU,W2,WO,RF,RR,RD,RS,RK,RT,RI,RB,SB,MA,SD,SR,IM]) W:=h.front 17 rfl
 replace h:On F w (AllA [SR,TA,DS,DK,BO,WP,TU,W2,WO,RF,RR,RD,RS,RK,RT,RI,RB,SB,MA,SD,IM]) W:=h.front 19 rfl
 replace h:On F w (AllA [SD,SR,TA,DS,DK,BO,WP,TU,W2,WO,RF,RR,RD,RS,RK,RT,RI,RB,SB,MA,IM]) W:=h.front 19 rfl
 replace h:On F w (AllA [IM,SD,SR,TA,DS,DK,BO,WP,TU,W2,WO,RF,RR,RD,RS,RK,RT,RI,RB,SB,MA]) W:=h.front 20 rfl
 replace h:On F w (AllA [MA,IM,SD,SR,TA,DS,DK,BO,WP,TU,W2,WO,RF,RR,RD,RS,RK,RT,RI,RB,SB]) W:=h.front 20 rfl
 exact h
theorem md_end{w W:World}{s:Setup}{m:Sl}{v2 ws:Value}{gD gR:Nat}{b:Bc}{r:Rc}
 (h:On Nob w (AllA (MachA (endC (mwX w s m v2 ws gD gR) b r (x41 s)) s.mt:: (mdL (mwX w s m v2 ws gD gR) b r (mcN (mwX w s m v2 ws gD gR) b) (y32 s).S (x41 s)).eraseIdx 8)) W):
 On Nob w (AllA (mL (endC (mwX w s m v2 ws gD gR) b r (x41 s)) s.mt)) W:=by
 obtain⟨e1,e2,e3⟩:=y32_eq s
 have h2:=p_MFML h
 have h3:=h2.drop 20 rfl
 have h4:=On.asAt (A':=BothA b []) 7 h3 rfl (λF'=>both_nil)
 have e4: (x41 s).dd=s.mt.d:=e2
 have e5: (x41 s).rd=s.mt.r:=e3
 have h5:On Nob w (AllA (mL (endC (mwX w s m v2 ws gD gR) b r (x41 s)) s.mt)) W:=by
  unfold mL
  rw[<-e1,<-e4,<-e5]
  exact h4
 exact h5
end Vm
open Go.RowKit Go.Lib
namespace Vm
theorem SetIn.cut{w:World}{s:Setup}{m:Sl}(h:SetIn w s m):SetIn w s.cut m:=
 ⟨h.kw,h.sw,h.dw,h.rw_,h.kl,h.sl,h.caps,h.room,h.base,by have:=s.inp_le;show s.inp.size<=_;omega,by have:=s.hid_le;show s.hid.size<=_;omega⟩
theorem t1_fine(s:Setup):Alike img0 s.t1.1∧s.t1.1.Ok:=by
 have g1:=grew_list s.kernel (img0,ker0) img0_ok (ker0_ok (Alike.refl _))
 have g2:=grew_list s.student (s.k1.1,stu0) g1.img (stu0_ok g1.al)
 exact⟨g1.al.trans g2.al,g2.img⟩
theorem i2_fine(s:Setup):s.i2.Ok∧s.i2.cl=false∧Lay0 s.i2:=by
 obtain⟨ha,ho⟩:=t1_fine s
 have hl:=lay0_img.alike ha
 have hc:s.t1.1.cl=false:=ha.cl.trans rfl
 unfold Setup.i2
 split
 ·unfold Img.opened
  rw[if_neg (by rw[hc];decide)]
  exact⟨⟨ho.len,ho.small⟩,hc,⟨hl.k,hl.s,hl.u,hl.d,hl.r⟩⟩
 ·exact⟨ho,hc,hl⟩
theorem load_fine(s:Setup): (Setup.load s.i2 s.hid.data.toList).Ok∧(Setup.load s.i2 s.hid.data.toList).cl=false∧Lay0 (Setup.load s.i2 s.hid.data.toList):=by
 obtain⟨ho,hc,hl⟩:=i2_fine s
 obtain⟨b2,b3,b4,b5,b6⟩:=hl.begs
 have hn:s.hid.data.toList.length<=64:=by have h1:=s.hid_le;rw[Lib.size_eq]at h1;exact h1
 refine⟨put_ok ho _ _ ?_,hc,lay_put hl _ _⟩
 rw[b2,b6,hl.s,List.length_append,List.length_replicate]
 omega
theorem i3_fine(s:Setup):s.i3.Ok∧Lay0 s.i3:=⟨Img.Ok.seal (load_fine s).1,Lay0.seal (load_fine s).2.2⟩
theorem at8_ker:At8 img0 ker0 8 16384:=⟨ker0_ok (Alike.refl _),img0_ok,rfl,rfl⟩
theorem at8_stu:At8 img0 stu0 16456 16960:=⟨stu0_ok (Alike.refl _),img0_ok,rfl,rfl⟩
theorem mk_G{w W:World}{s:Setup}{m:Sl}{v2 ws:Value}{gD gR:Nat}{b:Bc}{r:Rc}(hW:b.gW=r.gW)(hs:SetIn w s m)(hon:On Nob w (AllA (mdL (mwX w s m v2 ws gD gR) b r (mcN (mwX w s m v2 ws gD gR) b) (y32 s).S (x33 s))) W){u0 u6 u7 u8 u9 u10 u11 u14 u15 u16 u17 u18 u19 u20 u21 u22 u23 u24 u25 u26 u27 u28 u29 u30 u31 u32 u33 u34 u35 u36 u37 u38 u39 u40 u41 u42 u43 u44 u45 u46 u47 u48 u49 u50 u51 u52 u53 u54 u55 u56 u57 u58 u59 u60 u61 u62 u63 u64 u65 u66 u67 u68 u69 u70 u71 u72 u73 u74 u75 u76 u77 u78 u79 u80 u81 u82 u83 u84 u85 u86 u87 u88 u89 u90 u91 u92 u93 u94 u95 u96 u97 u98 u99 u100 u101 u102 u103 u104 u105 u106 u107 u108 u109 u110 u111 u112 u113 u114 u115 u116 u117 u118 u119 u120 u121 u122 u123 u124 u125 u126 u127 u128 u129 u130 u131 u132 u133 u134 u135 u136 u137 u138 u139 u140 u141 u142 u143 u144 u145 u146 u147 u148 u149 u150 u151 u152 u153 u154 u155 u156 u157 u158 u159 u160 u161 u162 u163 u164 u165 u166 u167 u168 u169 u170 u171 u172 u173 u174 u175 u176 u177 u178 u179 u180 u181 u182 u183 u184 u185 u186 u187 u188 u189 u190 u191 u192 u193 u194 u195 u196 u197 u198 u199 u200 u201 u202 u203 u204 u205 u206 u207 u208 u209 u210 u211 u212 u213 u214 u215 u216 u217 u218 u219 u220 u221 u222 u223 u224 u225 u226 u227 u228 u229 u230 u231 u232 u233 u234:Value}:Code.wp prog (codeDrop 25 (Tryz.f5.body.getD .skip)) (bodyPost prog Tryz.f5 (PostE (MadeB s) Nob w)) ⟨List.toArray (u0 :: .pointer w.heap.size :: .pointer none :: .pointer r.gW :: .bool true :: .pointer b.gI::u6::u7::u8::u9::u10::u11 :: .pointer b.gM :: .pointer b.gB::u14::u15::u16::u17::u18::u19::u20::u21::u22::u23::u24::u25::u26::u27::u28::u29::u30::u31::u32::u33::u34::u35::u36::u37::u38::u39::u40::u41::u42::u43::u44::u45::u46::u47::u48::u49::u50::u51::u52::u53::u54::u55::u56::u57::u58::u59::u60::u61::u62::u63::u64::u65::u66::u67::u68::u69::u70::u71::u72::u73::u74::u75::u76::u77::u78::u79::u80::u81::u82::u83::u84::u85::u86::u87::u88::u89::u90::u91::u92::u93::u94::u95::u96::u97::u98::u99::u100::u101::u102::u103::u104::u105::u106::u107::u108::u109::u110::u111::u112::u113::u114::u115::u116::u117::u118::u119::u120::u121::u122::u123::u124::u125::u126::u127::u128::u129::u130::u131::u132::u133::u134::u135::u136::u137::u138::u139::u140::u141::u142::u143::u144::u145::u146::u147::u148::u149::u150::u151::u152::u153::u154::u155::u156::u157::u158::u159::u160::u161::u162::u163::u164::u165::u166::u167::u168::u169::u170::u171::u172::u173::u174::u175::u176::u177::u178::u179::u180::u181::u182::u183::u184::u185::u186::u187::u188::u189::u190::u191::u192::u193::u194::u195::u196::u197::u198::u199::u200::u201::u202::u203::u204::u205::u206::u207::u208::u209::u210::u211::u212::u213::u214::u215::u216::u217::u218::u219::u220::u221::u222::u223::u224::u225::u226::u227::u228::u229::u230::u231::u232::u233::u234 :: []),[]⟩ W:=by
 conv=>
  arg 2
  unfold Tryz.f5
  dsimp only[codeDrop,Option.getD]
 replace hs:=Lib.hid hs
 have hf:On Nob w (AllA (MachA (c33 (mwX w s m v2 ws gD gR) b) (t33 s):: (mdL (mwX w s m v2 ws gD gR) b r (mcN (mwX w s m v2 ws gD gR) b) (y32 s).S (x33 s)).eraseIdx 8)) W:=md_front (c:=c33 (mwX w s m v2 ws gD gR) b) (t:=t33 s) hon rfl
 have hb0:Blk W w.heap.size 30 (setupC s.cut m):=hon.blkAt 0 rfl
 have c10:W.cell? (w.heap.size,10)=some (s.fault:Vl):=hb0.cell 10
 have c11:W.cell? (w.heap.size,11)=some (s.used:Vl):=hb0.cell 11
 have c12:W.cell? (w.heap.size,12)=some (s.hiddenAs:Vl):=hb0.cell 12
 have ht:=Lib.hid (x_told hf s.fault s.used s.hiddenAs)
 clear hb0
 replace hon:=Lib.hid hon
 replace hf:=Lib.hid hf
 go_wp2_with fail
 refine mo ht.out λw1 h1=>?_
 have hb1:Blk w1 w.heap.size 30 (setupC s.cut m):=h1.blkAt 1 rfl
 have d10:w1.cell? (w.heap.size,10)=some (s.fault:Vl):=hb1.cell 10
 have d11:w1.cell? (w.heap.size,11)=some (s.used:Vl):=hb1.cell 11
 have d12:w1.cell? (w.heap.size,12)=some (s.hiddenAs:Vl):=hb1.cell 12
 have hbw:Blk w1 r.gW 81 (worldC r r.gS v2 (x33 s).fault (x33 s).used (x33 s).hidden (x33 s).tells):=h1.blkAt 12 rfl
 have g9:w1.cell? (r.gW,9)=some (.int .i64 (x33 s).fault):=hbw.cell 9
 have g10:w1.cell? (r.gW,10)=some (.int .i64 (x33 s).used):=hbw.cell 10
 have g11:w1.cell? (r.gW,11)=some (.int .i64 (x33 s).hidden):=hbw.cell 11
 have f9:=hbw.frozen 9
 have f10:=hbw.frozen 10
 have f11:=hbw.frozen 11
 have hne:=h1.neAt 1 12 (by decide) rfl rfl
 have h2:=((h1.setAt 12 rfl 9 (.int .i64 s.fault)).setAt 12 rfl 10 (.int .i64 s.used)).setAt 12 rfl 11 (.int .i64 s.hiddenAs)
 have hwt:=Lib.hid (x_watch h2 rfl (.func 33) #[b.gB] #[] (BothA b) (endC (mwX w s m v2 ws gD gR) b r (x41 s)).rest)
 replace h1:=Lib.hid h1
 replace h2:=Lib.hid h2
 replace hb1:=Lib.hid hb1
 replace hbw:=Lib.hid hbw
 clear c10 c11 c12 ht hf hon
 go_wp2_with fail
 refine mo hwt.out λw2 h3=>?_
 have hbw2:=h3.blkAt 12 rfl
 have g12:w2.cell? (r.gW,12)=some (.bool false):=hbw2.cell 12
 have f12:=hbw2.frozen 12
 have h4:=h3.setAt 12 rfl 12 (.bool true)
 have hfin:=Lib.hid (md_end (s:=s) (m:=m) (v2:=v2) (ws:=ws) (gD:=gD) (gR:=gR) (b:=b) (r:=r) h4)
 clear hwt h2 h4 hbw2
 replace h3:=Lib.hid h3
 go_wp2_with fail
 go_ret
 exact⟨_,⟨_,_,_,hW,rfl,rfl⟩,hfin.out⟩
theorem mk_F2{w W:World}{s:Setup}{m:Sl}{v2 ws:Value}{gD gR:Nat}{b:Bc}{r:Rc}(hW:b.gW=r.gW)(hs:SetIn w s m)(hon:On Nob w (AllA (mdL (mwX w s m v2 ws gD gR) b r (mcN (mwX w s m v2 ws gD gR) b) s.i2 (x25 s))) W){u0 u4 u6 u7 u8 u9 u10 u11 u14 u15 u16 u17 u18 u19 u20 u21 u22 u23 u24 u25 u26 u27 u28 u29 u30 u31 u32 u33 u34 u35 u36 u37 u38 u39 u40 u41 u42 u43 u44 u45 u46 u47 u48 u49 u50 u51 u52 u53 u54 u55 u56 u57 u58 u59 u60 u61 u62 u63 u64 u65 u66 u67 u68 u69 u70 u71 u72 u73 u74 u75 u76 u77 u78 u79 u80 u81 u82 u83 u84 u85 u86 u87 u88 u89 u90 u91 u92 u93 u94 u95 u96 u97 u98 u99 u100 u101 u102 u103 u104 u105 u106 u107 u108 u109 u110 u111 u112 u113 u114 u115 u116 u117 u118 u119 u120 u121 u122 u123 u124 u125 u126 u127 u128 u129 u130 u131 u132 u133 u134 u135 u136 u137 u138 u139 u140 u141 u142 u143 u144 u145 u146 u147 u148 u149 u150 u151 u152 u153 u154 u155 u156 u157 u158 u159 u160 u161 u162 u163 u164 u165 u166 u167 u168 u169 u170 u171 u172 u173 u174 u175 u176 u177 u178 u179 u180 u181 u182 u183 u184 u185 u186 u187 u188 u189 u190 u191 u192 u193 u194 u195 u196 u197 u198 u199 u200 u201 u202 u203 u204 u205 u206 u207 u208 u209 u210 u211 u212 u213 u214 u215 u216 u217 u218 u219 u220 u221 u222 u223 u224 u225 u226 u227 u228 u229 u230 u231 u232 u233 u234:Value}:Code.wp prog (codeDrop 20 (Tryz.f5.body.getD .skip)) (bodyPost prog Tryz.f5 (PostE (MadeB s) Nob w)) ⟨List.toArray (u0 :: .pointer w.heap.size :: .pointer none :: .pointer r.gW::u4 :: .pointer b.gI::u6::u7::u8::u9::u10::u11 :: .pointer b.gM :: .pointer b.gB::u14::u15::u16::u17::u18::u19::u20::u21::u22::u23::u24::u25::u26::u27::u28::u29::u30::u31::u32::u33::u34::u35::u36::u37::u38::u39::u40::u41::u42::u43::u44::u45::u46::u47::u48::u49::u50::u51::u52::u53::u54::u55::u56::u57::u58::u59::u60::u61::u62::u63::u64::u65::u66::u67::u68::u69::u70::u71::u72::u73::u74::u75::u76::u77::u78::u79::u80::u81::u82::u83::u84::u85::u86::u87::u88::u89::u90::u91::u92::u93::u94::u95::u96::u97::u98::u99::u100::u101::u102::u103::u104::u105::u106::u107::u108::u109::u110::u111::u112::u113::u114::u115::u116::u117::u118::u119::u120::u121::u122::u123::u124::u125::u126::u127::u128::u129::u130::u131::u132::u133::u134::u135::u136::u137::u138::u139::u140::u141::u142::u143::u144::u145::u146::u147::u148::u149::u150::u151::u152::u153::u154::u155::u156::u157::u158::u159::u160::u161::u162::u163::u164::u165::u166::u167::u168::u169::u170::u171::u172::u173::u174::u175::u176::u177::u178::u179::u180::u181::u182::u183::u184::u185::u186::u187::u188::u189::u190::u191::u192::u193::u194::u195::u196::u197::u198::u199::u200::u201::u202::u203::u204::u205::u206::u207::u208::u209::u210::u211::u212::u213::u214::u215::u216::u217::u218::u219::u220::u221::u222::u223::u224::u225::u226::u227::u228::u229::u230::u231::u232::u233::u234 :: []),[]⟩ W:=by
 conv=>
  arg 2
  unfold Tryz.f5
  dsimp only[codeDrop,Option.getD]
 replace hs:=Lib.hid hs
 obtain⟨ho2,hc2,hl2⟩:=i2_fine s
 obtain⟨ho,hc,hl⟩:=load_fine s
 have hhid:=s.hid_le
 have hb0:Blk W w.heap.size 30 (setupC s.cut m):=hon.blkAt 0 rfl
 have c3:W.cell? (w.heap.size,3)=some (.string s.hid):=hb0.cell 3
 have hld:=Lib.hid (md_load1 hon (by rw[hl2.s];decide) s.hid (by rw[hl2.s];exact hhid))
 clear hb0
 replace hon:=Lib.hid hon
 go_wp2_with fail
 refine mo hld.out λw1 h1=>?_
 have hb1:Blk w1 w.heap.size 30 (setupC s.cut m):=h1.blkAt 0 rfl
 have d3:w1.cell? (w.heap.size,3)=some (.string s.hid):=hb1.cell 3
 have hbw:Blk w1 r.gW 81 (worldC r r.gS v2 (x25 s).fault (x25 s).used (x25 s).hidden (x25 s).tells):=h1.blkAt 12 rfl
 have g0:w1.cell? (r.gW,0)=some (r.gM:Vl):=hbw.cell 0
 have hld2:=Lib.hid (md_load2 h1.drew (x:=x25 s) ho2 (by show s.i2.s<=4096;rw[hl2.s];decide) s.hid (by show s.hid.size<=s.i2.s;rw[hl2.s];exact hhid))
 replace h1:=Lib.hid h1
 replace hb1:=Lib.hid hb1
 replace hbw:=Lib.hid hbw
 clear hon hld
 go_upto_region 29 with fail
 go_cut [] (λwx=>On Nob w (AllA (mdL (mwX w s m v2 ws gD gR) b r (mcN (mwX w s m v2 ws gD gR) b) (Setup.load s.i2 s.hid.data.toList) { x25 s with S:=Setup.load s.i2 s.hid.data.toList })) wx)
 case first=>
  go_region_held (λw'=>w'.cell? (w.heap.size,3)=some (.string s.hid)∧w'.cell? (r.gW,0)=some (r.gM:Vl)) (go_keep)
   ((go_at_call 27;refine mo hld2.out λw5 h=>?_;have hbx1:Blk w5 w.heap.size 30 (setupC s.cut m):=h.blkAt 0 rfl;have e3:w5.cell? (w.heap.size,3)=some (.string s.hid):=hbx1.cell 3;have hbw2:Blk w5 r.gW 81 (worldC r r.gS v2 (x25 s).fault (x25 s).used (x25 s).hidden (x25 s).tells):=h.blkAt 12 rfl;have e0:w5.cell? (r.gW,0)=some (r.gM:Vl):=hbw2.cell 0;replace hbx1:=Lib.hid hbx1;replace hbw2:=Lib.hid hbw2;replace h:=Lib.hid h))
  all_goals go_wp2_with fail
  all_goals go_meet
  all_goals exact h.out
 case rest=>
  have hse:=Lib.hid (md_seal1 hcut)
  replace hcut:=Lib.hid hcut
  clear h1 hb1 hbw c3 d3 g0 hld2
  go_wp2_with fail
  refine mo hse.out λw2 h2=>?_
  have hse2:=Lib.hid (md_seal2 h2 (x:={ x25 s with S:=Setup.load s.i2 s.hid.data.toList }) ho hc)
  replace h2:=Lib.hid h2
  clear hse hcut
  go_wp2_with fail
  refine mo hse2.out λw3 h3=>?_
  have h4:On Nob w (AllA (mdL (mwX w s m v2 ws gD gR) b r (mcN (mwX w s m v2 ws gD gR) b) s.i3 (x32 s))) w3:=h3
  have hb3:Blk w3 w.heap.size 30 (setupC s.cut m):=h4.blkAt 0 rfl
  have k0:w3.cell? (w.heap.size,0)=some (s.caps:Vl):=hb3.cell 0
  have k1:w3.cell? (w.heap.size,1)=some (s.room:Vl):=hb3.cell 1
  have k2:w3.cell? (w.heap.size,2)=some (.string s.inp):=hb3.cell 2
  have k3:w3.cell? (w.heap.size,3)=some (.string s.hid):=hb3.cell 3
  have k4:w3.cell? (w.heap.size,4)=some (.bool s.opened):=hb3.cell 4
  have k5:w3.cell? (w.heap.size,5)=some (.slice m.kA s.kernel.length m.kc):=hb3.cell 5
  have k6:w3.cell? (w.heap.size,6)=some (.slice m.sA s.student.length m.sc):=hb3.cell 6
  have k7:w3.cell? (w.heap.size,7)=some (s.base:Vl):=hb3.cell 7
  have k8:w3.cell? (w.heap.size,8)=some (.slice m.dA s.data.length m.dc):=hb3.cell 8
  have k9:w3.cell? (w.heap.size,9)=some (.slice m.rA s.ret.length m.rc):=hb3.cell 9
  have k10:w3.cell? (w.heap.size,10)=some (s.fault:Vl):=hb3.cell 10
  have k11:w3.cell? (w.heap.size,11)=some (s.used:Vl):=hb3.cell 11
  have k12:w3.cell? (w.heap.size,12)=some (s.hiddenAs:Vl):=hb3.cell 12
  have hst:=Lib.hid (md_stacks h4 hW rfl rfl rfl ⟨rfl,rfl⟩ rfl rfl (i3_fine s).1 (i3_fine s).2 (i3_fine s).1 (i3_fine s).2 hs.out.cut)
  replace h3:=Lib.hid h3
  replace h4:=Lib.hid h4
  replace hb3:=Lib.hid hb3
  clear hse2 h2
  go_upto_region 32 with fail
  go_cut [4] (λt4 wx=>t4 = .bool true∧On Nob w (AllA (mdL (mwX w s m v2 ws gD gR) b r (mcN (mwX w s m v2 ws gD gR) b) (y32 s).S (x33 s))) wx)
  case first=>
   go_wp2_with fail
   refine mo hst.out λw4 h5=>?_
   replace h5:=Lib.hid h5
   go_wp2_with fail
   go_meet
   exact⟨rfl,h5.out⟩
  case rest=>
   obtain⟨rfl,h5⟩:=hcut
   apply_assumption
   exact mk_G hW hs.out h5
end Vm
end Go.Proofs.YtngdikikclfgjaaGreatDoor
