/- The program's package caps. Conditions: as written. -/
import Derived.Test.YtilaogbkdbbdkaaGreatDoorZ03
import Derived.Test.YtilaogbkdbbdkaaGreatDoorZShelf
open Go.Proofs.Tryz
namespace Go.Proofs.YtilaogbkdbbdkaaGreatDoor
set_option linter.unusedVariables false
set_option maxHeartbeats 8000000
open Go.RowKit Go.Lib
theorem Tryz.Nt: (prog.info? 5).map (λi=>(i.zero,i.size,i.bytes))=some (some (.int .u8 0),1,1):=by kernel_rfl
structure dC(w:World)(g:Nat)(S:af.Tab)(F:Nat->Prop):Prop where
 ok:S.Ok
 rep: ∃o l vo vl,Blk w g 107 #[S.aC,.string S.inp,.iface 140 (.pointer (some ⟨o,0,none⟩)),.iface 143 (.pointer (some ⟨l,0,none⟩)),S.points,.bool S.said]∧
  Blk w o 142 #[vo,S.room]∧Blk w l 145 #[vl,S.room]∧
  Buf w 5 vo S.out.data.toList∧Buf w 5 vl S.log.data.toList∧(∀k,vo.ownBlock=some k->vl.ownBlock=some k->False)∧
  (∀k,F k↔(k=g∨k=o∨k=l∨vo.ownBlock=some k∨vl.ownBlock=some k))
theorem dC.lt{w:World}{g:Nat}{S:af.Tab}{F:Nat->Prop}(h:dC w g S F){k:Nat}(hk:F k):k<w.heap.size:=by
 obtain⟨o,l,vo,vl,h1,h2,h3,h4,h5,_,hF⟩:=h.rep
 rcases(hF k).1 hk with rfl|rfl|rfl|h|h
 ·exact h1.lt
 ·exact h2.lt
 ·exact h3.lt
 ·exact h4.lt h
 ·exact h5.lt h
theorem dC.kept{w w':World}{g:Nat}{S:af.Tab}{F T:Nat->Prop}(h:dC w g S F)(hk:Kept T w w')(hT: ∀k,F k->¬T k):dC w' g S F:=by
 obtain⟨o,l,vo,vl,h1,h2,h3,h4,h5,h6,hF⟩:=h.rep
 exact⟨h.ok,o,l,vo,vl,h1.kept hk (hT _ ((hF _).2 (.inl rfl))),h2.kept hk (hT _ ((hF _).2 (.inr (.inl rfl)))),h3.kept hk (hT _ ((hF _).2 (.inr (.inr (.inl rfl))))),
  h4.kept hk (λk hv=>hT _ ((hF _).2 (.inr (.inr (.inr (.inl hv)))))),h5.kept hk (λk hv=>hT _ ((hF _).2 (.inr (.inr (.inr (.inr hv)))))),h6,hF⟩
theorem dC.drewN{w:World}{g:Nat}{S:af.Tab}{F:Nat->Prop}(h:dC w g S F)(n:Nat):dC (w.drewN n) g S F:=
 h.kept (T:=Nob) ((Kept.refl _ w).drewN n) (λ_ _ h=>h)
def yL(v:Value)(g:Nat)(S':af.Tab)(F:Nat->Prop)(w:World)(e:Ending)(w':World):Prop:=
 e = .returned v∧∃F',dC w' g S' F'∧Kept F w w'∧∀k,F' k->F k∨w.heap.size<=k
def Draws(v:Value)(w:World)(e:Ending)(w':World):Prop:=e = .returned v∧∃n,w'=w.drewN n
theorem Mn(p c:Int)(h:0<=p∧p<=31)(hc:c=1∨c=2∨c=4∨c=8∨c=16): (bits .and .i64 p c != 0)= (p/c % 2==1):=by
 obtain⟨n,rfl⟩:=Int.eq_ofNat_of_zero_le h.1
 have hn:n<32:=by omega
 have key: ∀k:Fin 32,(bits .and .i64 (k.val:Int) 1 != 0)= ((k.val:Int) /1 % 2==1)∧(bits .and .i64 (k.val:Int) 2 != 0)= ((k.val:Int) /2 % 2==1)∧
  (bits .and .i64 (k.val:Int) 4 != 0)= ((k.val:Int) /4 % 2==1)∧(bits .and .i64 (k.val:Int) 8 != 0)= ((k.val:Int) /8 % 2==1)∧(bits .and .i64 (k.val:Int) 16 != 0)= ((k.val:Int) /16 % 2==1):=by decide +kernel
 have:=key ⟨n,hn⟩
 rcases hc with rfl|rfl|rfl|rfl|rfl
 ·exact this.1
 ·exact this.2.1
 ·exact this.2.2.1
 ·exact this.2.2.2.1
 ·exact this.2.2.2.2
theorem NA(g:Nat)(p m c:Int)(w:World)(hc: ¬(c=1∨c=2∨c=4∨c=8∨c=16)):
 Calls prog 100 #[g,m,c] w (ax (.bool (af.has p m c)) w):=by
 have e:af.has p m c=false:=by simp[af.has,af.qV];omega
 rw[e]
 have a1: (c==1)=false:=by simp;omega
 have a2: (c==2)=false:=by simp;omega
 have a4: (c==4)=false:=by simp;omega
 have a8: (c==8)=false:=by simp;omega
 have a16: (c==16)=false:=by simp;omega
 go_enter func100,ntmps100
 go_wp2
 go_ret
 exact⟨rfl,rfl⟩
theorem K9(g:Nat)(p m c:Int)(w:World)(hc:c=1∨c=2∨c=4∨c=8∨c=16)(hp:0<=p∧p<=31)(hw:w.cell? (g,0)=some (p:Vl)):
 Calls prog 100 #[g,m,c] w (ax (.bool (af.has p m c)) w):=by
 have hb:=Mn p c hp hc
 by_cases m1:m=1
 ·subst m1
  have e:af.has p 1 c= (bits .and .i64 p c != 0):=by rw[hb];simp[af.has,af.qV];omega
  rw[e]
  clear e hb
  rcases hc with rfl|rfl|rfl|rfl|rfl
  all_goals
   go_enter func100,ntmps100
   go_wp2
   go_ret
   exact⟨rfl,rfl⟩
 ·have e:af.has p m c= (m==0||m==2):=by
   have: (m==1)=false:=by simpa using m1
   simp[af.has,af.qV,this];omega
  rw[e]
  clear e hb
  have m1': (m==1)=false:=by simpa using m1
  by_cases m0:m=0
  ·subst m0
   rcases hc with rfl|rfl|rfl|rfl|rfl
   all_goals
    go_enter func100,ntmps100
    go_wp2
    go_ret
    exact⟨rfl,rfl⟩
  ·have m0': (m==0)=false:=by simpa using m0
   by_cases m2:m=2
   ·subst m2
    rcases hc with rfl|rfl|rfl|rfl|rfl
    all_goals
     go_enter func100,ntmps100
     go_wp2
     go_ret
     exact⟨rfl,rfl⟩
   ·have m2': (m==2)=false:=by simpa using m2
    rcases hc with rfl|rfl|rfl|rfl|rfl
    all_goals
     go_enter func100,ntmps100
     go_wp2
     go_ret
     exact⟨by rw[m0',m2'];rfl,rfl⟩
theorem dC.has{w:World}{g:Nat}{S:af.Tab}{F:Nat->Prop}(h:dC w g S F)(m c:Int):
 Calls prog 100 #[g,m,c] w (ax (.bool (af.has S.aC m c)) w):=by
 by_cases hc:c=1∨c=2∨c=4∨c=8∨c=16
 ·obtain⟨o,l,vo,vl,h1,_⟩:=h.rep
  exact K9 g S.aC m c w hc ⟨h.ok.p0,h.ok.p1⟩ (by simpa using h1.cell 0)
 ·exact NA g S.aC m c w hc
def kq(p r:Int)(s:ByteArray)(w:World)(e:Ending)(w':World):Prop:=
 if af.cI p r s=0 then∃g F,e = .returned (.tuple #[.pointer (some ⟨g,0,none⟩),(0:Int)])∧dC w' g (af.made p r s) F∧Kept Nob w w'∧∀k,F k->w.heap.size<=k
 else e = .returned (.tuple #[.pointer none,(af.cI p r s)])∧w'=w
theorem JM(p r:Int)(s:ByteArray)(w:World):Calls prog 22 #[p,r,.string s] w (kq p r s w):=by
 by_cases hbad:p<0∨31<p∨r<0∨65536<r
 ·have e1:af.cI p r s=1:=by unfold af.cI;rw[if_pos hbad]
  have fin:kq p r s w (.returned (.tuple #[.pointer none,(1:Int)])) w:=by
   unfold kq;rw[e1];simp
  have Fin:=hid fin
  clear fin
  clear e1
  go_enter func22,ntmps22
  go_wp2
  all_goals first| (go_ret2;exact Fin.out) | (exfalso;omega)
 ·by_cases hl:4096<s.size
  ·have e1:af.cI p r s=2:=by unfold af.cI;rw[if_neg hbad,if_pos hl]
   have fin:kq p r s w (.returned (.tuple #[.pointer none,(2:Int)])) w:=by
    unfold kq;rw[e1];simp
   have Fin:=hid fin
   clear fin e1
   have q1:0<=p:=by omega
   have q2:p<=31:=by omega
   have q3:0<=r:=by omega
   have q4:r<=65536:=by omega
   clear hbad
   go_enter func22,ntmps22
   go_wp2
   all_goals first| (go_ret2;exact Fin.out) | (exfalso;omega)
  ·have e1:af.cI p r s=0:=by unfold af.cI;rw[if_neg hbad,if_neg hl]
   have Rv:=af.CH e1
   have E1:=hid e1
   clear e1
   have q1:0<=p:=by omega
   have q2:p<=31:=by omega
   have q3:0<=r:=by omega
   have q4:r<=65536:=by omega
   have q5:s.size<=4096:=by omega
   clear hbad hl
   go_enter func22,ntmps22
   go_wp2
   go_ret2
   unfold kq
   rw[if_pos E1.out]
   refine⟨_,λk=>k=w.heap.size+1+1∨k=w.heap.size∨k=w.heap.size+1,rfl,⟨Rv,w.heap.size,w.heap.size+1,.slice none 0 0,.slice none 0 0,?_,?_,?_,?_,?_,?_,?_⟩,?_,?_⟩
   ·exact Blk.oS (by simp)
   ·exact(((Blk.new w _ _).alloc _).alloc _)
   ·exact((Blk.oS (by simp)).alloc _)
   ·exact Buf.nil _ _
   ·exact Buf.nil _ _
   ·intro k hk;cases hk
   ·intro k;simp[Value.ownBlock]
   ·exact(((Kept.refl _ w).alloc _).alloc _).alloc _
   ·intro k hk;omega
set_option maxRecDepth 100000
def jf(b tb:Nat)(v:Value)(room:Int)(bs:List UInt8)(s:ByteArray)(n m:Nat)(w:World)(e:Ending)(w':World):Prop:=
 ∃v',e = .returned (.int .i64 m)∧Blk w' b tb #[v',.int .i64 room]∧Buf w' 5 v' (bs++s.data.toList.take n)∧
  Kept (λk=>k=b∨v.ownBlock=some k) w w'∧(∀k,v'.ownBlock=some k->v.ownBlock=some k∨w.heap.size<=k)
theorem wh(b tb:Nat)(v:Value)(room:Int)(bs:List UInt8)(s:ByteArray)(w:World)(hb:Blk w b tb #[v,.int .i64 room])(hv:Buf w 5 v bs)(htb:5≠tb)
 (hr: (bs.length:Int)<=room∧room<=65536):
 Calls prog 384 #[.pointer (some ⟨b,0,none⟩),.string s] w (jf b tb v room bs s (min s.size (room.toNat-bs.length)) (min s.size (room.toNat-bs.length)) w):=by
 obtain⟨i0,hi,Us,Uj,SQ⟩:=info_parts Tryz.Nt
 obtain⟨A,cap,rfl,Yd⟩:=hv.CS
 obtain⟨n,hrn⟩: ∃n:Nat,room- (bs.length:Int)=n:=⟨(room-bs.length).toNat,by omega⟩
 have c0:=hb.cell 0
 have c1:=hb.cell 1
 have f0:=hb.frozen 0
 simp at c0 c1
 have e0:min s.size (room.toNat-bs.length)=min s.size n:=by congr 1;omega
 rw[e0]
 clear e0
 by_cases hn:n<s.size
 ·rw[Nat.min_eq_right oM]
  have hle:n<=s.size:=by omega
  have hjo:min (s.size:Int) (n:Int)=n:=by omega
  have hex: (s.extract 0 n).data.toList=s.data.toList.take n:=by simp
  have hln: (bs++s.data.toList.take n).length=bs.length+n:=by simp;omega
  have Hex:=hid hex
  have Hln:=hid hln
  have hsz:bs.length+ (s.extract 0 n).size<=140737488355328:=by simp;omega
  clear hex hln
  go_enter func384,ntmps384
  go_wp2
  go_quiet (fail)
  go_wp2
  go_region_law ((refine ky rfl (.tmp 23) (.tmp 26) 93 9 rfl 5 i0 underlying93 underlying9 hi Us Uj SQ _ bs rfl hv _ rfl hsz ?_;rw[Hex.out];intro v' w1 Rh hg SU;obtain⟨A1,ZC,rfl,_⟩:=Rh.CS;rw[Hln.out]at Rh SU⊢;have B1:=Blk.grown (hb.drewN (nq+1)) hg (λe=>hv.ib hb htb e.symm);have c0':=B1.cell 0;have f0':=B1.frozen 0;simp at c0'))
  go_wp2
  go_ret
  refine⟨_,rfl,B1.bE 0 _,Rh.setCell (Rh.ib B1 htb) _,?_,?_⟩
  ·exact(((Kept.refl _ w).drewN (nq+1)).grown hg (λk hk=> .inl (.inr hk))).setCell (.inl (.inl rfl)) _
  ·intro k hk
   rcases SU with h|h
   ·exact .inl (h.symm.trans hk)
   ·exact .inr (Nat.le_of_eq (Option.some.inj (h.symm.trans hk)))
 ·rw[Nat.min_eq_left oM]
  have hjo:min (s.size:Int) (n:Int)=s.size:=by omega
  have hex:s.data.toList=s.data.toList.take s.size:=by rw[List.take_of_length_le (by simp)]
  have hln: (bs++s.data.toList.take s.size).length=bs.length+s.size:=by simp
  have Hex:=hid hex
  have Hln:=hid hln
  have hsz:bs.length+s.size<=140737488355328:=by omega
  clear hex hln
  go_enter func384,ntmps384
  go_wp2
  go_quiet (fail)
  go_wp2
  go_region_law ((refine ky rfl (.tmp 23) (.tmp 26) 93 9 rfl 5 i0 underlying93 underlying9 hi Us Uj SQ _ bs rfl hv _ rfl hsz ?_;rw[Hex.out];intro v' w1 Rh hg SU;obtain⟨A1,ZC,rfl,_⟩:=Rh.CS;rw[Hln.out]at Rh SU⊢;have B1:=Blk.grown (hb.drewN (nq+1)) hg (λe=>hv.ib hb htb e.symm);have c0':=B1.cell 0;have f0':=B1.frozen 0;simp at c0'))
  go_wp2
  go_ret
  refine⟨_,rfl,B1.bE 0 _,Rh.setCell (Rh.ib B1 htb) _,?_,?_⟩
  ·exact(((Kept.refl _ w).drewN (nq+1)).grown hg (λk hk=> .inl (.inr hk))).setCell (.inl (.inl rfl)) _
  ·intro k hk
   rcases SU with h|h
   ·exact .inl (h.symm.trans hk)
   ·exact .inr (Nat.le_of_eq (Option.some.inj (h.symm.trans hk)))
theorem jf.P3{b tb:Nat}{v:Value}{room:Int}{bs:List UInt8}{s:ByteArray}{n m m':Nat}{w w':World}{e:Ending}(h:jf b tb v room bs s n m w e w'):
 jf b tb v room bs s n m' w (.returned (.int .i64 m')) w':=by
 obtain⟨v',_,h2⟩:=h
 exact⟨v',rfl,h2⟩
theorem DA(b tb:Nat)(v:Value)(room:Int)(bs:List UInt8)(s:ByteArray)(w:World)(hb:Blk w b tb #[v,.int .i64 room])(hv:Buf w 5 v bs)(htb:5≠tb)
 (hr: (bs.length:Int)<=room∧room<=65536) (hs:s.size<=maxLen):
 Calls prog 386 #[.pointer (some ⟨b,0,none⟩),.string s] w (jf b tb v room bs s (min s.size (room.toNat-bs.length)) s.size w):=by
 have hs':=hs
 unfold maxLen at hs'
 go_enter func386,ntmps386
 go_wp2_with fail
 refine(wh b tb v room bs s w hb hv htb hr).mono ?_
 rintro e w' hp
 have he: ∃n,e = .returned n:=by obtain⟨_,h,_⟩:=hp;exact⟨_,h⟩
 obtain⟨n,rfl⟩:=he
 have hp':jf b tb v room bs s (min s.size (room.toNat-bs.length)) s.size w _ w':=hp.P3
 have Hp:=hid hp'
 clear hp'
 clear hp
 go_wp2
 go_ret
 exact Hp.out
theorem Jw(b tb:Nat)(v:Value)(room:Int)(bs:List UInt8)(w:World)(hb:Blk w b tb #[v,.int .i64 room])(hv:Buf w 5 v bs):
 Calls prog 385 #[.pointer (some ⟨b,0,none⟩)] w (ax (.string ⟨bs.toArray⟩) w):=by
 obtain⟨A,cap,rfl,Yd⟩:=hv.CS
 have c0:=hb.cell 0
 simp at c0
 have hc:=hv.pA (P:=prog) 93 9 underlying93 underlying5 underlying9
 go_enter func385,ntmps385
 go_wp2
 go_ret
 exact⟨rfl,rfl⟩
theorem Ei(a:Addr)(w:World): (method 525 140 (.pointer (some a)) "proctor/caps.put").run prog w = .ok (384,.pointer (some a)) w:=by kernel_rfl
theorem Fj(a:Addr)(w:World): (method 525 143 (.pointer (some a)) "proctor/caps.put").run prog w = .ok (386,.pointer (some a)) w:=by kernel_rfl
theorem Cc(a:Addr)(w:World): (method 525 140 (.pointer (some a)) "proctor/caps.text").run prog w = .ok (385,.pointer (some a)) w:=by kernel_rfl
theorem Fm(s:ByteArray): (⟨s.data.toList.toArray⟩:ByteArray)=s:=by cases s;rfl
section
variable {w:World}{g:Nat}{S:af.Tab}{F:Nat->Prop}
theorem dC.output(h:dC w g S F):Calls prog 12 #[g] w (ax (.string S.out) w):=by
 obtain⟨o,l,vo,vl,h1,h2,h3,h4,h5,h6,hF⟩:=h.rep
 have c2:=h1.cell 2
 simp at c2
 have hm:=Cc ⟨o,0,none⟩
 go_enter func12,ntmps12
 go_wp2_with fail
 refine(Jw o 142 vo S.room S.out.data.toList w h2 h4).mono ?_
 rintro e w' ⟨rfl,rfl⟩
 rw[Fm]
 go_wp2
 go_ret
 exact⟨rfl,rfl⟩
theorem dC.points(h:dC w g S F):Calls prog 11 #[g] w (Draws (.tuple #[S.points,.bool S.said]) w):=by
 obtain⟨o,l,vo,vl,h1,h2,h3,h4,h5,h6,hF⟩:=h.rep
 have c4:=h1.cell 4
 have c5:=h1.cell 5
 simp at c4 c5
 go_enter func11,ntmps11
 go_wp2
 go_quiet (fail)
 go_wp2
 go_ret2
 exact⟨rfl,_,rfl⟩
theorem dC.change(h:dC w g S F){w':World}{S':af.Tab}(Rv:S'.Ok)(hp:S'.room=S.room)(ho:S'.out=S.out)(hl:S'.log=S.log)
 (hk:Kept (λk=>k=g) w w') (hb: ∀o l:Nat,Blk w g 107 #[S.aC,.string S.inp,.iface 140 (.pointer o),.iface 143 (.pointer l),S.points,.bool S.said]->
  Blk w' g 107 #[S'.aC,.string S'.inp,.iface 140 (.pointer o),.iface 143 (.pointer l),S'.points,.bool S'.said]):dC w' g S' F:=by
 obtain⟨o,l,vo,vl,h1,h2,h3,h4,h5,h6,hF⟩:=h.rep
 refine⟨Rv,o,l,vo,vl,hb o l h1,?_,?_,?_,?_,h6,hF⟩
 ·rw[hp];exact h2.kept hk (Blk.ne_ h2 h1 (by decide))
 ·rw[hp];exact h3.kept hk (Blk.ne_ h3 h1 (by decide))
 ·rw[ho];exact h4.kept hk (λk hv e=>h4.ib h1 (by decide) (by rw[hv,e]))
 ·rw[hl];exact h5.kept hk (λk hv e=>h5.ib h1 (by decide) (by rw[hv,e]))
theorem dC.gin(h:dC w g S F):F g:=by
 obtain⟨o,l,vo,vl,h1,h2,h3,h4,h5,h6,hF⟩:=h.rep
 exact(hF g).2 (.inl rfl)
end
section
variable {w:World}{g:Nat}{S:af.Tab}{F:Nat->Prop}
theorem zx(r:Int)(was s:ByteArray): (af.behind r was s).data.toList=was.data.toList++s.data.toList.take (af.fit r was s):=by
 unfold af.behind
 simp
theorem CF(s:ByteArray){w':World}{o l m:Nat}{vo vl:Value}{e:Ending}
 (h1:Blk w g 107 #[.int .i64 S.aC,.string S.inp,.iface 140 (.pointer (some ⟨o,0,none⟩)),.iface 143 (.pointer (some ⟨l,0,none⟩)),.int .i64 S.points,.bool S.said])
 (h2:Blk w o 142 #[vo,.int .i64 S.room]) (h3:Blk w l 145 #[vl,.int .i64 S.room]) (h4:Buf w 5 vo S.out.data.toList) (h5:Buf w 5 vl S.log.data.toList)
 (h6: ∀k,vo.ownBlock=some k->vl.ownBlock=some k->False) (hF: ∀k,F k↔(k=g∨k=o∨k=l∨vo.ownBlock=some k∨vl.ownBlock=some k))
 (Rv: ({ S with out:=af.behind S.room S.out s }:af.Tab).Ok)
 (hp:jf o 142 vo S.room S.out.data.toList s (af.fit S.room S.out s) m w e w'):
 e = .returned (.int .i64 m)∧∃F',dC w' g { S with out:=af.behind S.room S.out s } F'∧Kept F w w'∧∀k,F' k->F k∨w.heap.size<=k:=by
 obtain⟨v',he,b2,b4,hk,hv⟩:=hp
 have hgo:g≠o:=Blk.ne_ h1 h2 (by decide)
 have Sg:l≠o:=Blk.ne_ h3 h2 (by decide)
 refine⟨he,λk=>k=g∨k=o∨k=l∨v'.ownBlock=some k∨vl.ownBlock=some k,⟨Rv,o,l,v',vl,?_,b2,?_,by rw[zx];exact b4,?_,?_,λk=>Iff.rfl⟩,?_,?_⟩
 ·exact h1.kept hk (by rintro(e|e);exact hgo e;exact h4.ib h1 (by decide) e)
 ·exact h3.kept hk (by rintro(e|e);exact Sg e;exact h4.ib h3 (by decide) e)
 ·exact h5.kept hk (by intro k hv;rintro(e|e);exact h5.ib h2 (by decide) (by rw[hv,e]);exact h6 k e hv)
 ·intro k a b
  rcases hv k a with c|c
  ·exact h6 k c b
  ·have:=h5.lt b;omega
 ·exact hk.mono (by intro k;rintro(e|e);exact(hF k).2 (.inr (.inl e));exact(hF k).2 (.inr (.inr (.inr (.inl e)))))
 ·intro k ZP
  rcases ZP with e|e|e|e|e
  ·exact .inl ((hF k).2 (.inl e))
  ·exact .inl ((hF k).2 (.inr (.inl e)))
  ·exact .inl ((hF k).2 (.inr (.inr (.inl e))))
  ·rcases hv k e with c|c
   ·exact .inl ((hF k).2 (.inr (.inr (.inr (.inl c)))))
   ·exact .inr c
  ·exact .inl ((hF k).2 (.inr (.inr (.inr (.inr e)))))
theorem KR(s:ByteArray){w':World}{o l m:Nat}{vo vl:Value}{e:Ending}
 (h1:Blk w g 107 #[.int .i64 S.aC,.string S.inp,.iface 140 (.pointer (some ⟨o,0,none⟩)),.iface 143 (.pointer (some ⟨l,0,none⟩)),.int .i64 S.points,.bool S.said])
 (h2:Blk w o 142 #[vo,.int .i64 S.room]) (h3:Blk w l 145 #[vl,.int .i64 S.room]) (h4:Buf w 5 vo S.out.data.toList) (h5:Buf w 5 vl S.log.data.toList)
 (h6: ∀k,vo.ownBlock=some k->vl.ownBlock=some k->False) (hF: ∀k,F k↔(k=g∨k=o∨k=l∨vo.ownBlock=some k∨vl.ownBlock=some k))
 (Rv: ({ S with log:=af.behind S.room S.log s }:af.Tab).Ok)
 (hp:jf l 145 vl S.room S.log.data.toList s (af.fit S.room S.log s) m w e w'):
 e = .returned (.int .i64 m)∧∃F',dC w' g { S with log:=af.behind S.room S.log s } F'∧Kept F w w'∧∀k,F' k->F k∨w.heap.size<=k:=by
 obtain⟨v',he,b3,b5,hk,hv⟩:=hp
 have Z0:g≠l:=Blk.ne_ h1 h3 (by decide)
 have hol:o≠l:=Blk.ne_ h2 h3 (by decide)
 refine⟨he,λk=>k=g∨k=o∨k=l∨vo.ownBlock=some k∨v'.ownBlock=some k,⟨Rv,o,l,vo,v',?_,?_,b3,?_,by rw[zx];exact b5,?_,λk=>Iff.rfl⟩,?_,?_⟩
 ·exact h1.kept hk (by rintro(e|e);exact Z0 e;exact h5.ib h1 (by decide) e)
 ·exact h2.kept hk (by rintro(e|e);exact hol e;exact h5.ib h2 (by decide) e)
 ·exact h4.kept hk (by intro k hv;rintro(e|e);exact h4.ib h3 (by decide) (by rw[hv,e]);exact h6 k hv e)
 ·intro k a b
  rcases hv k b with c|c
  ·exact h6 k a c
  ·have:=h4.lt a;omega
 ·exact hk.mono (by intro k;rintro(e|e);exact(hF k).2 (.inr (.inr (.inl e)));exact(hF k).2 (.inr (.inr (.inr (.inr e)))))
 ·intro k ZP
  rcases ZP with e|e|e|e|e
  ·exact .inl ((hF k).2 (.inl e))
  ·exact .inl ((hF k).2 (.inr (.inl e)))
  ·exact .inl ((hF k).2 (.inr (.inr (.inl e))))
  ·exact .inl ((hF k).2 (.inr (.inr (.inr (.inl e)))))
  ·rcases hv k e with c|c
   ·exact .inl ((hF k).2 (.inr (.inr (.inr (.inr c)))))
   ·exact .inr c
theorem dC.typ(h:dC w g S F)(m:Int)(s:ByteArray)(hs:s.size<=maxLen):Calls prog 200 #[.pointer (some ⟨g,0,none⟩),.int .i64 m,.string s] w (yL (.int .i64 (af.io S m s)) g (af.gE S m s) F w):=by
 have hh:=h.has m 1
 have Rv:=af.Kp h.ok m s
 have hsl:s.size<=9223372036854775807:=by unfold maxLen at hs;omega
 by_cases hc:af.has S.aC m 1=true
 ·rw[hc]at hh
  obtain⟨o,l,vo,vl,h1,h2,h3,h4,h5,h6,hF⟩:=h.rep
  have r1:=h.ok.r1
  have ro:=h.ok.out
  have rl:=h.ok.log
  have c2:=h1.cell 2
  have c3:=h1.cell 3
  simp at c2 c3
  by_cases hm:m=1
  ·subst hm
   have e2:af.gE S 1 s = { S with out:=af.behind S.room S.out s }:=by simp[af.gE,hc]
   rw[e2]at Rv⊢
   have hmp:=Ei ⟨o,0,none⟩
   by_cases hf: (S.room-S.out.size:Int) <s.size
   ·have e1:af.io S 1 s=12:=by simp[af.io,hc,hf]
    rw[e1]
    have V0:min s.size (S.room.toNat-S.out.data.toList.length)=af.fit S.room S.out s:=by rw[af.size_data];rfl
    have Rd:af.fit S.room S.out s<s.size:=by unfold af.fit;omega
    have Un:=wh o 142 vo S.room S.out.data.toList s w h2 h4 (by decide) ⟨by rw[af.size_data];exact ro,r1⟩
    rw[V0]at Un
    have P0:=hid Un
    have H:=hid h
    have HH:=hid hh
    clear Un e1 e2 hc hf hh h V0
    go_enter func200,ntmps200
    go_wp2_with fail
    refine HH.out.mono ?_
    rintro e w' ⟨rfl,rfl⟩
    go_wp2_with fail
    refine P0.out.mono ?_
    rintro e w' hp
    obtain⟨rfl,F',hr,hk,Sr⟩:=CF s h1 h2 h3 h4 h5 h6 hF Rv hp
    clear hp P0 h1 h2 h3 h4 h5 h6 hF
    have HF:=hid Sr
    clear Sr
    go_wp2
    go_ret
    exact⟨rfl,F',hr,hk,HF.out⟩
   ·have e1:af.io S 1 s=0:=by simp[af.io,hc,hf]
    rw[e1]
    have V0:min s.size (S.room.toNat-S.out.data.toList.length)=af.fit S.room S.out s:=by rw[af.size_data];rfl
    have Rd:s.size<=af.fit S.room S.out s:=by unfold af.fit;omega
    have Un:=wh o 142 vo S.room S.out.data.toList s w h2 h4 (by decide) ⟨by rw[af.size_data];exact ro,r1⟩
    rw[V0]at Un
    have P0:=hid Un
    have H:=hid h
    have HH:=hid hh
    clear Un e1 e2 hc hf hh h V0
    go_enter func200,ntmps200
    go_wp2_with fail
    refine HH.out.mono ?_
    rintro e w' ⟨rfl,rfl⟩
    go_wp2_with fail
    refine P0.out.mono ?_
    rintro e w' hp
    obtain⟨rfl,F',hr,hk,Sr⟩:=CF s h1 h2 h3 h4 h5 h6 hF Rv hp
    clear hp P0 h1 h2 h3 h4 h5 h6 hF
    have HF:=hid Sr
    clear Sr
    go_wp2
    go_ret
    exact⟨rfl,F',hr,hk,HF.out⟩
  ·have hm': (m==1)=false:=by simpa using hm
   have e2:af.gE S m s = { S with log:=af.behind S.room S.log s }:=by simp[af.gE,hc,hm]
   have e1:af.io S m s=0:=by simp[af.io,hc,hm]
   rw[e2]at Rv⊢
   rw[e1]
   have hmp:=Fj ⟨l,0,none⟩
   have V0:min s.size (S.room.toNat-S.log.data.toList.length)=af.fit S.room S.log s:=by rw[af.size_data];rfl
   have Un:=DA l 145 vl S.room S.log.data.toList s w h3 h5 (by decide) ⟨by rw[af.size_data];exact rl,r1⟩ hs
   rw[V0]at Un
   have P0:=hid Un
   have H:=hid h
   have HH:=hid hh
   clear Un e1 e2 hc hh h V0
   go_enter func200,ntmps200
   go_wp2_with fail
   refine HH.out.mono ?_
   rintro e w' ⟨rfl,rfl⟩
   go_wp2_with fail
   refine P0.out.mono ?_
   rintro e w' hp
   obtain⟨rfl,F',hr,hk,Sr⟩:=KR s h1 h2 h3 h4 h5 h6 hF Rv hp
   clear hp P0 h1 h2 h3 h4 h5 h6 hF
   have HF:=hid Sr
   clear Sr
   go_wp2
   go_ret
   exact⟨rfl,F',hr,hk,HF.out⟩
 ·have Uw:af.has S.aC m 1=false:=by simpa using hc
  rw[Uw]at hh
  have e1:af.io S m s=11:=by simp[af.io,Uw]
  have e2:af.gE S m s=S:=by simp[af.gE,Uw]
  rw[e1,e2]
  have H:=hid h
  have HH:=hid hh
  clear e1 e2 hc Uw h Rv hh
  go_enter func200,ntmps200
  go_wp2_with fail
  refine HH.out.mono ?_
  rintro e w' ⟨rfl,rfl⟩
  go_wp2
  go_ret
  exact⟨rfl,F,H.out,Kept.refl _ _,λk hk=> .inl hk⟩
end
section
variable {w:World}{g:Nat}{S:af.Tab}{F:Nat->Prop}
theorem dC.key(h:dC w g S F)(m:Int):Calls prog 157 #[g,m] w
 (yL (.tuple #[.int .u8 (af.ja S m),(af.jI S m)]) g (af.fE S m) F w):=by
 have hh:=h.has m 2
 have Rv:=af.H0 h.ok m
 by_cases hc:af.has S.aC m 2=true
 ·rw[hc]at hh
  obtain⟨o,l,vo,vl,h1,h2,h3,h4,h5,h6,hF⟩:=h.rep
  have c1:=h1.cell 1
  have f1:=h1.frozen 1
  simp at c1
  by_cases hz:S.inp.size=0
  ·have hd:S.inp.data.toList = []:=List.eq_nil_of_length_eq_zero (by rw[af.size_data];exact hz)
   have e0:af.ja S m=0:=by simp[af.ja,hd]
   have e1:af.jI S m=18:=by simp[af.jI,hc,hz]
   have e2:af.fE S m=S:=by
    unfold af.fE;rw[if_pos hc]
    have:S.inp.extract 1 S.inp.size=S.inp:=af.ext _ _ (by simp[hd])
    rw[this]
   rw[e0,e1,e2]
   have H:=hid h
   have HH:=hid hh
   have hs0:S.inp.toList = []:=by rw[Lib.toList_data];exact hd
   clear e0 e1 e2 hc hh h Rv hF h6 hd hz
   go_enter func157,ntmps157
   go_wp2_with fail
   refine HH.out.mono ?_
   rintro e w' ⟨rfl,rfl⟩
   go_wp2
   go_ret2
   exact⟨rfl,F,H.out,Kept.refl _ _,λk hk=> .inl hk⟩
  ·obtain⟨c,t,hd⟩: ∃c t,S.inp.data.toList=c::t:=by
    cases hh:S.inp.data.toList with
    | nil=>exfalso;apply hz;rw[<-af.size_data,hh];rfl
    | cons c t=>exact⟨c,t,rfl⟩
   have e0:af.ja S m=c.toNat:=by simp[af.ja,hd,hc]
   have e1:af.jI S m=0:=by simp[af.jI,hc,hz]
   have e2:af.fE S m = { S with inp:=S.inp.extract 1 S.inp.size }:=by
    unfold af.fE;rw[if_pos hc]
   rw[e2]at Rv
   rw[e0,e1,e2]
   have H:=hid h
   have HH:=hid hh
   have hs0: (S.inp.toList.isEmpty)=false:=by rw[Lib.toList_data,hd];rfl
   have Rd:0<S.inp.size:=by omega
   have Za:S.inp[0]=c:=by
    have:S.inp.data.toList[0]'(by rw[af.size_data];exact Rd)=c:=by simp[hd]
    show S.inp.data[0]=c
    simpa using this
   have hsz:=h.ok.inp
   clear e0 e1 e2 hc hh h hF h6 hd hz
   go_enter func157,ntmps157
   go_wp2_with fail
   refine HH.out.mono ?_
   rintro e w' ⟨rfl,rfl⟩
   go_wp2
   go_ret2
   refine⟨rfl,F,H.out.change Rv rfl rfl rfl ?_ ?_,?_,λk hk=> .inl hk⟩
   ·refine Kept.setCell (Kept.refl _ _) ?_ _;exact .inl rfl
   ·intro o l hb
    exact hb.bE 1 _
   ·refine Kept.setCell (Kept.refl _ _) ?_ _;exact .inl H.out.gin
 ·have Uw:af.has S.aC m 2=false:=by simpa using hc
  rw[Uw]at hh
  have e0:af.ja S m=0:=by simp[af.ja,Uw]
  have e1:af.jI S m=11:=by simp[af.jI,Uw]
  have e2:af.fE S m=S:=by simp[af.fE,Uw]
  rw[e0,e1,e2]
  have H:=hid h
  have HH:=hid hh
  clear e0 e1 e2 hc Uw h Rv hh
  go_enter func157,ntmps157
  go_wp2_with fail
  refine HH.out.mono ?_
  rintro e w' ⟨rfl,rfl⟩
  go_wp2
  go_ret2
  exact⟨rfl,F,H.out,Kept.refl _ _,λk hk=> .inl hk⟩
theorem zM: ∀(l:List UInt8),Lib.indexByte l 10=if af.nl l l.length<l.length then(af.nl l l.length:Int)else -1
 | []=>by simp[Lib.indexByte,af.nl]
 | c::l=>by
   have ih:=zM l
   have hle:=af.JQ l l.length
   simp only[Lib.indexByte,af.nl,List.length_cons,beq_iff_eq]
   by_cases hc:c=10
   ·simp[hc]
   ·rw[if_neg hc,if_neg hc,ih]
    by_cases h:af.nl l l.length<l.length
    ·have h2:af.nl l l.length+1<l.length+1:=by omega
     have h3: ¬((af.nl l l.length:Int)= -1):=by omega
     simp only[if_pos h,if_pos h2,if_neg h3]
     omega
    ·have h2: ¬(af.nl l l.length+1<l.length+1):=by omega
     simp only[if_neg h,if_neg h2]
     simp
theorem qz: ∀(l:List UInt8) (n:Nat),af.nl (l.take n) (l.take n).length=af.nl l n
 | [],n=>by simp[af.nl]
 | c::l,0=>by simp[af.nl]
 | c::l,n+1=>by
   have ih:=qz l n
   simp only[List.take_succ_cons,List.length_cons,af.nl]
   rw[ih]
def i7(S:af.Tab)(m n:Int):Value:= .tuple #[.string (af.cE S m n),(af.fq S m n)]
theorem dC.accept(h:dC w g S F)(m n:Int):Calls prog 201 #[g,m,(n:Int)] w
 (yL (i7 S m n) g (af.cT S m n) F w):=by
 have hh:=h.has m 2
 have Rv:=af.JI h.ok m n
 by_cases hc:af.has S.aC m 2=true
 ·rw[hc]at hh
  obtain⟨o,l,vo,vl,h1,h2,h3,h4,h5,h6,hF⟩:=h.rep
  have c1:=h1.cell 1
  have f1:=h1.frozen 1
  simp at c1
  have hsz:=h.ok.inp
  by_cases SN:n<0
  ·have e1:i7 S m n = .tuple #[.string ⟨#[]⟩,(19:Int)]:=by
    have: ¬0<n:=by omega
    simp[i7,af.cE,af.fq,hc,SN,this]
   have e2:af.cT S m n=S:=by unfold af.cT;rw[if_neg oM]
   rw[e1,e2]
   have H:=hid h
   have HH:=hid hh
   clear e1 e2 hc hh h Rv hF h6
   go_enter func201,ntmps201
   go_wp2_with fail
   refine HH.out.mono ?_
   rintro e w' ⟨rfl,rfl⟩
   go_wp2
   go_ret2
   exact⟨rfl,F,H.out,Kept.refl _ _,λk hk=> .inl hk⟩
  by_cases Zp:n=0
  ·subst Zp
   have e1:i7 S m 0 = .tuple #[.string ⟨#[]⟩,(0:Int)]:=by simp[i7,af.cE,af.fq,hc]
   have e2:af.cT S m 0=S:=by unfold af.cT;rw[if_neg oM]
   rw[e1,e2]
   have H:=hid h
   have HH:=hid hh
   clear e1 e2 hc hh h Rv hF h6
   go_enter func201,ntmps201
   go_wp2_with fail
   refine HH.out.mono ?_
   rintro e w' ⟨rfl,rfl⟩
   go_wp2
   go_ret2
   exact⟨rfl,F,H.out,Kept.refl _ _,λk hk=> .inl hk⟩
  have hnp:0<n:=by omega
  have hiO: (n==0)=false:=by simpa using Zp
  by_cases hz:S.inp.size=0
  ·have hd:S.inp.data.toList = []:=List.eq_nil_of_length_eq_zero (by rw[af.size_data];exact hz)
   have e1:i7 S m n = .tuple #[.string ⟨#[]⟩,(18:Int)]:=by
    have:S.inp.extract 0 (af.cut S.inp n)= ⟨#[]⟩:=af.ext _ _ (by simp[hd])
    simp[i7,af.cE,af.fq,hc,SN,hnp,hz,Zp,this]
   have e2:af.cT S m n=S:=by
    unfold af.cT;rw[if_pos ⟨hc,hnp⟩]
    have:S.inp.extract (af.taken S.inp n) S.inp.size=S.inp:=af.ext _ _ (by simp[hd])
    rw[this]
   rw[e1,e2]
   have H:=hid h
   have HH:=hid hh
   have hs0:S.inp.toList = []:=by rw[Lib.toList_data];exact hd
   clear e1 e2 hc hh h Rv hF h6 hd hz
   go_enter func201,ntmps201
   go_wp2_with fail
   refine HH.out.mono ?_
   rintro e w' ⟨rfl,rfl⟩
   go_wp2
   go_ret2
   exact⟨rfl,F,H.out,Kept.refl _ _,λk hk=> .inl hk⟩
  ·have hs0: (S.inp.toList.isEmpty)=false:=by
    rw[Lib.toList_data]
    cases hd:S.inp.data.toList with
    | nil=>exfalso;apply hz;rw[<-af.size_data,hd];rfl
    | cons c t=>rfl
   obtain⟨q,hq⟩: ∃q:Nat,min n (S.inp.size:Int)=q:=⟨(min n (S.inp.size:Int)).toNat,by omega⟩
   have hqs:q<=S.inp.size:=by omega
   have V3:Lib.indexByte (S.inp.extract 0 q).data.toList 10=if af.cut S.inp n<q then(af.cut S.inp n:Int)else -1:=by
    have e: (S.inp.extract 0 q).data.toList=S.inp.data.toList.take q:=by simp
    rw[e,zM,qz]
    have hcut:af.nl S.inp.data.toList q=af.cut S.inp n:=by
     unfold af.cut
     rw[<-qz S.inp.data.toList n.toNat,<-qz S.inp.data.toList q]
     have:S.inp.data.toList.take q=S.inp.data.toList.take n.toNat:=by
      rcases Nat.le_total n.toNat S.inp.size with h|h
      ·rw[show q=n.toNat by omega]
      ·rw[show q=S.inp.size by omega,List.take_of_length_le (by rw[af.size_data];omega),List.take_of_length_le (by rw[af.size_data];omega)]
     rw[this]
    rw[hcut]
    have: (S.inp.data.toList.take q).length=q:=by rw[List.length_take,af.size_data];omega
    rw[this]
   have e1:i7 S m n = .tuple #[.string (S.inp.extract 0 (af.cut S.inp n)),(0:Int)]:=by
    simp[i7,af.cE,af.fq,hc,SN,hnp,hz,Zp]
   have e2:af.cT S m n = { S with inp:=S.inp.extract (af.taken S.inp n) S.inp.size }:=by
    unfold af.cT;rw[if_pos ⟨hc,hnp⟩]
   rw[e2]at Rv
   rw[e1,e2]
   have H:=hid h
   have HH:=hid hh
   have RX:=af.sL S.inp n
   by_cases hk:af.cut S.inp n<q
   ·rw[if_pos hk]at V3
    have h0:af.cut S.inp n<min n.toNat S.inp.size:=by omega
    have et:af.taken S.inp n=af.cut S.inp n+1:=by unfold af.taken;rw[if_pos h0]
    clear h0
    rw[et]at Rv⊢
    have HIX:=hid V3
    clear e1 e2 RX et
    generalize af.cut S.inp n=k at *
    have hxx: (S.inp.extract 0 q).extract 0 k=S.inp.extract 0 k:=af.ext _ _ (by rw[Lib.extract_data,Lib.extract_data,Lib.extract_data];simp only[List.drop_zero,Nat.sub_zero,List.take_take];rw[Nat.min_eq_left (Nat.le_of_lt hk)])
    have q1:0<=n:=by omega
    have q2:k+1<=S.inp.size:=by omega
    have q3:k<=(S.inp.extract 0 q).size:=by simp;omega
    clear hc hh h hF h6 V3 SN Zp hz
    go_enter func201,ntmps201
    go_wp2_with fail
    refine HH.out.mono ?_
    rintro e w' ⟨rfl,rfl⟩
    go_wp2_with fail
    refine(Tryz.strings_IndexByte _ 10 _).mono ?_
    rintro e w' ⟨rfl,rfl⟩
    rw[show(10:Int).toNat.toUInt8=10 from rfl,HIX.out]
    go_wp2
    go_ret2
    refine⟨rfl,F,H.out.change Rv rfl rfl rfl ?_ ?_,?_,λk hk=> .inl hk⟩
    ·refine Kept.setCell (Kept.refl _ _) ?_ _;exact .inl rfl
    ·intro o l hb
     exact hb.bE 1 _
    ·refine Kept.setCell (Kept.refl _ _) ?_ _;exact .inl H.out.gin
   ·rw[if_neg hk]at V3
    have h0: ¬af.cut S.inp n<min n.toNat S.inp.size:=by omega
    have et:af.taken S.inp n=af.cut S.inp n:=by unfold af.taken;rw[if_neg h0]
    clear h0
    have ek:af.cut S.inp n=q:=by omega
    rw[et,ek]at Rv⊢
    have HIX:=hid V3
    have q1:0<=n:=by omega
    clear e1 e2 hc hh h hF h6 RX V3 et ek SN Zp hz hk
    go_enter func201,ntmps201
    go_wp2_with fail
    refine HH.out.mono ?_
    rintro e w' ⟨rfl,rfl⟩
    go_wp2_with fail
    refine(Tryz.strings_IndexByte _ 10 _).mono ?_
    rintro e w' ⟨rfl,rfl⟩
    rw[show(10:Int).toNat.toUInt8=10 from rfl,HIX.out]
    go_wp2
    go_ret2
    refine⟨rfl,F,H.out.change Rv rfl rfl rfl ?_ ?_,?_,λk hk=> .inl hk⟩
    ·refine Kept.setCell (Kept.refl _ _) ?_ _;exact .inl rfl
    ·intro o l hb
     exact hb.bE 1 _
    ·refine Kept.setCell (Kept.refl _ _) ?_ _;exact .inl H.out.gin
 ·have Uw:af.has S.aC m 2=false:=by simpa using hc
  rw[Uw]at hh
  have e1:i7 S m n = .tuple #[.string ⟨#[]⟩,(11:Int)]:=by simp[i7,af.cE,af.fq,Uw]
  have e2:af.cT S m n=S:=by simp[af.cT,Uw]
  rw[e1,e2]
  have H:=hid h
  have HH:=hid hh
  clear e1 e2 hc Uw h Rv hh
  go_enter func201,ntmps201
  go_wp2_with fail
  refine HH.out.mono ?_
  rintro e w' ⟨rfl,rfl⟩
  go_wp2
  go_ret2
  exact⟨rfl,F,H.out,Kept.refl _ _,λk hk=> .inl hk⟩
end
def Bg(S:af.Tab):Array Value:=#[.int .i64 S.aC,.int .i64 S.room,.string S.inp,.string S.out,.string S.log,.int .i64 S.points,.bool S.said]
structure iq(w:World)(g:Nat)(S:af.Tab):Prop where
 ok:S.Ok
 blk:Blk w g 188 (Bg S)
theorem iq.kept{w w':World}{g:Nat}{S:af.Tab}{T:Nat->Prop}(h:iq w g S)(hk:Kept T w w')(hT: ¬T g):iq w' g S:=⟨h.ok,h.blk.kept hk hT⟩
theorem iq.lt{w:World}{g:Nat}{S:af.Tab}(h:iq w g S):g<w.heap.size:=h.blk.lt
def uV(v:Value)(g:Nat)(S':af.Tab)(w:World)(e:Ending)(w':World):Prop:=
 e = .returned v∧iq w' g S'∧Kept (λk=>k=g) w w'
theorem iq.cells{w:World}{g:Nat}{S:af.Tab}(h:iq w g S):
 w.cell? (g,0)=some (S.aC:Vl)∧w.cell? (g,1)=some (S.room:Vl)∧w.cell? (g,2)=some (.string S.inp)∧w.cell? (g,3)=some (.string S.out)∧
  w.cell? (g,4)=some (.string S.log)∧w.cell? (g,5)=some (S.points:Vl)∧w.cell? (g,6)=some (.bool S.said):=
 ⟨h.blk.cell 0,h.blk.cell 1,h.blk.cell 2,h.blk.cell 3,h.blk.cell 4,h.blk.cell 5,h.blk.cell 6⟩
theorem iq.frozen{w:World}{g:Nat}{S:af.Tab}(h:iq w g S)(i:Nat):w.frozen? (g,i)=false:=h.blk.frozen i
def iQ(p r:Int)(s:ByteArray)(w:World)(e:Ending)(w':World):Prop:=
 if af.cI p r s=0 then e = .returned (.tuple #[w.heap.size,(0:Int)])∧iq w' w.heap.size (af.made p r s)∧Kept Nob w w'
 else e = .returned (.tuple #[.pointer none,(af.cI p r s)])∧w'=w
theorem KH(p r:Int)(s:ByteArray)(w:World):Calls prog 54 #[p,r,.string s] w (iQ p r s w):=by
 by_cases hbad:p<0∨31<p∨r<0∨65536<r
 ·have e1:af.cI p r s=1:=by unfold af.cI;rw[if_pos hbad]
  have fin:iQ p r s w (.returned (.tuple #[.pointer none,(1:Int)])) w:=by
   unfold iQ;rw[e1];simp
  have Fin:=hid fin
  clear fin
  clear e1
  go_enter func54,ntmps54
  go_wp2
  all_goals first| (go_ret2;exact Fin.out) | (exfalso;omega)
 ·by_cases hl:4096<s.size
  ·have e1:af.cI p r s=2:=by unfold af.cI;rw[if_neg hbad,if_pos hl]
   have fin:iQ p r s w (.returned (.tuple #[.pointer none,(2:Int)])) w:=by
    unfold iQ;rw[e1];simp
   have Fin:=hid fin
   clear fin e1
   have q1:0<=p:=by omega
   have q2:p<=31:=by omega
   have q3:0<=r:=by omega
   have q4:r<=65536:=by omega
   clear hbad
   go_enter func54,ntmps54
   go_wp2
   all_goals first| (go_ret2;exact Fin.out) | (exfalso;omega)
  ·have e1:af.cI p r s=0:=by unfold af.cI;rw[if_neg hbad,if_neg hl]
   have Rv:=af.CH e1
   have E1:=hid e1
   clear e1
   have q1:0<=p:=by omega
   have q2:p<=31:=by omega
   have q3:0<=r:=by omega
   have q4:r<=65536:=by omega
   have q5:s.size<=4096:=by omega
   clear hbad hl
   go_enter func54,ntmps54
   go_wp2
   go_ret2
   unfold iQ
   rw[if_pos E1.out]
   exact⟨rfl,⟨Rv,Blk.oS rfl⟩,(Kept.refl _ w).alloc _⟩
theorem DZ(g:Nat)(p m c:Int)(w:World)(hc: ¬(c=1∨c=2∨c=4∨c=8∨c=16)):
 Calls prog 222 #[g,m,c] w (ax (.bool (af.has p m c)) w):=by
 have e:af.has p m c=false:=by simp[af.has,af.qV];omega
 rw[e]
 have a1: (c==1)=false:=by simp;omega
 have a2: (c==2)=false:=by simp;omega
 have a4: (c==4)=false:=by simp;omega
 have a8: (c==8)=false:=by simp;omega
 have a16: (c==16)=false:=by simp;omega
 have b1: (c != 1)=true:=by simp;omega
 have b2: (c != 2)=true:=by simp;omega
 have b4: (c != 4)=true:=by simp;omega
 have b8: (c != 8)=true:=by simp;omega
 have b16: (c != 16)=true:=by simp;omega
 go_enter func222,ntmps222
 go_wp2
 go_ret
 exact⟨rfl,rfl⟩
theorem Au(g:Nat)(p m c:Int)(w:World)(hc:c=1∨c=2∨c=4∨c=8∨c=16)(hp:0<=p∧p<=31)(hw:w.cell? (g,0)=some (p:Vl)):
 Calls prog 222 #[g,m,c] w (ax (.bool (af.has p m c)) w):=by
 by_cases m1:m=1
 ·subst m1
  have e:af.has p 1 c= (p/c % 2==1):=by simp[af.has,af.qV];omega
  rw[e]
  clear e
  rcases hc with rfl|rfl|rfl|rfl|rfl
  all_goals
   go_enter func222,ntmps222
   go_wp2
   go_ret
   exact⟨by simp,rfl⟩
 ·have e:af.has p m c= (m==0||m==2):=by
   have: (m==1)=false:=by simpa using m1
   simp[af.has,af.qV,this];omega
  rw[e]
  clear e
  have m1': (m==1)=false:=by simpa using m1
  by_cases m0:m=0
  ·subst m0
   rcases hc with rfl|rfl|rfl|rfl|rfl
   all_goals
    go_enter func222,ntmps222
    go_wp2
    go_ret
    exact⟨rfl,rfl⟩
  ·have m0': (m==0)=false:=by simpa using m0
   by_cases m2:m=2
   ·subst m2
    rcases hc with rfl|rfl|rfl|rfl|rfl
    all_goals
     go_enter func222,ntmps222
     go_wp2
     go_ret
     exact⟨rfl,rfl⟩
   ·have m2': (m==2)=false:=by simpa using m2
    rcases hc with rfl|rfl|rfl|rfl|rfl
    all_goals
     go_enter func222,ntmps222
     go_wp2
     go_ret
     exact⟨by rw[m0',m2'];rfl,rfl⟩
section
variable {w:World}{g:Nat}{S:af.Tab}
theorem iq.has(h:iq w g S)(m c:Int):
 Calls prog 222 #[g,m,c] w (ax (.bool (af.has S.aC m c)) w):=by
 by_cases hc:c=1∨c=2∨c=4∨c=8∨c=16
 ·exact Au g S.aC m c w hc ⟨h.ok.p0,h.ok.p1⟩ h.cells.1
 ·exact DZ g S.aC m c w hc
theorem iq.behind(h:iq w g S)(was s:ByteArray)(hw: (was.size:Int)<=S.room)(hs:s.size<=maxLen):
 Calls prog 350 #[g,.string was,.string s] w (ax (.string (af.behind S.room was s)) w):=by
 obtain⟨-,c1,-⟩:=h.cells
 have r1:=h.ok.r1
 unfold maxLen at hs
 obtain⟨n,hrn⟩: ∃n:Nat,S.room- (was.size:Int)=n:=⟨(S.room-was.size).toNat,by omega⟩
 have hgU:af.fit S.room was s=min s.size n:=by unfold af.fit;congr 1;omega
 unfold af.behind
 rw[hgU]
 clear hgU
 by_cases hn:s.size<n
 ·rw[Nat.min_eq_left oM]
  go_enter func350,ntmps350
  go_wp2
  go_ret
  exact⟨by simp,rfl⟩
 ·rw[Nat.min_eq_right oM]
  have hle:n<=s.size:=by omega
  go_enter func350,ntmps350
  go_wp2
  go_ret
  exact⟨rfl,rfl⟩
theorem iq.key(h:iq w g S)(m:Int):Calls prog 279 #[g,m] w
 (uV (.tuple #[.int .u8 (af.ja S m),(af.jI S m)]) g (af.fE S m) w):=by
 have hh:=h.has m 2
 have Rv:=af.H0 h.ok m
 by_cases hc:af.has S.aC m 2=true
 ·rw[hc]at hh
  obtain⟨-,-,c2,-⟩:=h.cells
  have f2:=h.frozen 2
  by_cases hz:S.inp.size=0
  ·have hd:S.inp.data.toList = []:=List.eq_nil_of_length_eq_zero (by rw[af.size_data];exact hz)
   have e0:af.ja S m=0:=by simp[af.ja,hd]
   have e1:af.jI S m=18:=by simp[af.jI,hc,hz]
   have e2:af.fE S m=S:=by
    unfold af.fE;rw[if_pos hc]
    have:S.inp.extract 1 S.inp.size=S.inp:=af.ext _ _ (by simp[hd])
    rw[this]
   rw[e0,e1,e2]
   have H:=hid h
   have HH:=hid hh
   have hs0:S.inp.toList = []:=by rw[Lib.toList_data];exact hd
   clear e0 e1 e2 hc hh h Rv hd hz
   go_enter func279,ntmps279
   go_wp2_with fail
   refine HH.out.mono ?_
   rintro e w' ⟨rfl,rfl⟩
   go_wp2
   go_ret2
   exact⟨rfl,H.out,Kept.refl _ _⟩
  ·obtain⟨c,t,hd⟩: ∃c t,S.inp.data.toList=c::t:=by
    cases hh:S.inp.data.toList with
    | nil=>exfalso;apply hz;rw[<-af.size_data,hh];rfl
    | cons c t=>exact⟨c,t,rfl⟩
   have e0:af.ja S m=c.toNat:=by simp[af.ja,hd,hc]
   have e1:af.jI S m=0:=by simp[af.jI,hc,hz]
   have e2:af.fE S m = { S with inp:=S.inp.extract 1 S.inp.size }:=by
    unfold af.fE;rw[if_pos hc]
   rw[e2]at Rv
   rw[e0,e1,e2]
   have H:=hid h
   have HH:=hid hh
   have hs0: (S.inp.toList.isEmpty)=false:=by rw[Lib.toList_data,hd];rfl
   have Rd:0<S.inp.size:=by omega
   have Za:S.inp[0]=c:=by
    have:S.inp.data.toList[0]'(by rw[af.size_data];exact Rd)=c:=by simp[hd]
    show S.inp.data[0]=c
    simpa using this
   have hsz:=h.ok.inp
   clear e0 e1 e2 hc hh h hd hz
   go_enter func279,ntmps279
   go_wp2_with fail
   refine HH.out.mono ?_
   rintro e w' ⟨rfl,rfl⟩
   go_wp2
   go_ret2
   refine⟨rfl,⟨Rv,H.out.blk.bE 2 _⟩,?_⟩
   refine Kept.setCell (Kept.refl _ _) ?_ _;exact .inl rfl
 ·have Uw:af.has S.aC m 2=false:=by simpa using hc
  rw[Uw]at hh
  have e0:af.ja S m=0:=by simp[af.ja,Uw]
  have e1:af.jI S m=11:=by simp[af.jI,Uw]
  have e2:af.fE S m=S:=by simp[af.fE,Uw]
  rw[e0,e1,e2]
  have H:=hid h
  have HH:=hid hh
  clear e0 e1 e2 hc Uw h Rv hh
  go_enter func279,ntmps279
  go_wp2_with fail
  refine HH.out.mono ?_
  rintro e w' ⟨rfl,rfl⟩
  go_wp2
  go_ret2
  exact⟨rfl,H.out,Kept.refl _ _⟩
end
section
variable {w:World}{g:Nat}{S:af.Tab}
theorem iq.typ(h:iq w g S)(m:Int)(s:ByteArray)(hs:s.size<=maxLen):Calls prog 315 #[g,m,.string s] w (uV (.int .i64 (af.io S m s)) g (af.gE S m s) w):=by
 have hh:=h.has m 1
 have Rv:=af.Kp h.ok m s
 have hsl:s.size<=9223372036854775807:=by unfold maxLen at hs;omega
 by_cases hc:af.has S.aC m 1=true
 ·rw[hc]at hh
  obtain⟨-,c1,-,c3,c4,-⟩:=h.cells
  have f3:=h.frozen 3
  have f4:=h.frozen 4
  have r0:=h.ok.r0
  have r1:=h.ok.r1
  have ro:=h.ok.out
  by_cases hm:m=1
  ·subst hm
   have e2:af.gE S 1 s = { S with out:=af.behind S.room S.out s }:=by simp[af.gE,hc]
   rw[e2]at Rv⊢
   have hb:=h.behind S.out s h.ok.out hs
   have HB:=hid (λq:Nat=>(show iq (w.drewN q) g S from h.kept (T:=Nob) ((Kept.refl _ w).drewN q) (λh=>h)).behind S.out s h.ok.out hs)
   by_cases hf: (S.room-S.out.size:Int) <s.size
   ·have hdd:decide ((s.size:Int)<=S.room- (S.out.size:Int))=false:=by simp;omega
    have e1:af.io S 1 s=12:=by simp[af.io,hc,hf]
    rw[e1]
    have H:=hid h
    have HH:=hid hh
    clear hb e1 e2 hc hh h
    go_enter func315,ntmps315
    go_wp2_with fail
    refine HH.out.mono ?_
    rintro e w' ⟨rfl,rfl⟩
    go_wp2_with fail
    go_quiet (fail)
    go_wp2_with fail
    refine(HB.out _).mono ?_
    rintro e w' ⟨rfl,rfl⟩
    go_wp2
    go_ret
    refine⟨rfl,⟨Rv,(H.out.blk.drewN _).bE 3 _⟩,?_⟩
    refine Kept.setCell ((Kept.refl _ _).drewN _) ?_ _;exact .inl rfl
   ·have hdd:decide ((s.size:Int)<=S.room- (S.out.size:Int))=true:=by simp;omega
    have e1:af.io S 1 s=0:=by simp[af.io,hc,hf]
    rw[e1]
    have H:=hid h
    have HH:=hid hh
    clear hb e1 e2 hc hh h
    go_enter func315,ntmps315
    go_wp2_with fail
    refine HH.out.mono ?_
    rintro e w' ⟨rfl,rfl⟩
    go_wp2_with fail
    go_quiet (fail)
    go_wp2_with fail
    refine(HB.out _).mono ?_
    rintro e w' ⟨rfl,rfl⟩
    go_wp2
    go_ret
    refine⟨rfl,⟨Rv,(H.out.blk.drewN _).bE 3 _⟩,?_⟩
    refine Kept.setCell ((Kept.refl _ _).drewN _) ?_ _;exact .inl rfl
  ·have hm': (m==1)=false:=by simpa using hm
   have hm2: (m != 1)=true:=by simpa using hm
   have e2:af.gE S m s = { S with log:=af.behind S.room S.log s }:=by simp[af.gE,hc,hm]
   have e1:af.io S m s=0:=by simp[af.io,hc,hm]
   rw[e2]at Rv⊢
   rw[e1]
   have HB:=hid (h.behind S.log s h.ok.log hs)
   have H:=hid h
   have HH:=hid hh
   clear e1 e2 hc hh h
   go_enter func315,ntmps315
   go_wp2_with fail
   refine HH.out.mono ?_
   rintro e w' ⟨rfl,rfl⟩
   go_wp2_with fail
   refine HB.out.mono ?_
   rintro e w' ⟨rfl,rfl⟩
   go_wp2
   go_ret
   refine⟨rfl,⟨Rv,H.out.blk.bE 4 _⟩,?_⟩
   refine Kept.setCell (Kept.refl _ _) ?_ _;exact .inl rfl
 ·have Uw:af.has S.aC m 1=false:=by simpa using hc
  rw[Uw]at hh
  have e1:af.io S m s=11:=by simp[af.io,Uw]
  have e2:af.gE S m s=S:=by simp[af.gE,Uw]
  rw[e1,e2]
  have H:=hid h
  have HH:=hid hh
  clear e1 e2 hc Uw h Rv hh
  go_enter func315,ntmps315
  go_wp2_with fail
  refine HH.out.mono ?_
  rintro e w' ⟨rfl,rfl⟩
  go_wp2
  go_ret
  exact⟨rfl,H.out,Kept.refl _ _⟩
theorem MT: ∀(l:List UInt8) (n j:Nat) (h:j<l.length),j<n->j<=af.nl l n->(l[j]=10↔j=af.nl l n)
 | [],n,j,h,_,_=>by simp at h
 | c::l,0,j,h,h1,_=>by omega
 | c::l,n+1,0,h,h1,h2=>by
   simp only[af.nl,List.getElem_cons_zero]
   by_cases hc:c=10
   ·simp[hc]
   ·simp[hc]
 | c::l,n+1,j+1,h,h1,h2=>by
   simp only[af.nl,List.getElem_cons_succ]at *
   by_cases hc:c=10
   ·simp[hc]at h2
   ·simp only[if_neg hc]at *
    have:=MT l n j (by simpa using h) oM oM
    rw[this];omega
def Jm:Value->Nat | .string s=>s.size|_=>0
def GQ(S:af.Tab)(n:Int)(g:Nat)(w:World)(s:Value)(wr:World):Prop:=
 ∃(j:Nat) (I J:ByteArray),j<=af.cut S.inp n∧I=S.inp.extract j S.inp.size∧J=S.inp.extract 0 j∧s = .string J∧Blk wr g 188 (Bg { S with inp:=I })∧Kept (λk=>k=g) w wr
theorem nU(s:ByteArray)(a:Nat): (s.extract a s.size).data.toList=s.data.toList.drop a:=by
 rw[Lib.extract_data,List.take_of_length_le (by rw[List.length_drop,af.size_data];omega)]
theorem ES(s I:ByteArray)(j:Nat)(hj:j<s.size)(hI:I=s.extract j s.size): ∃c,I.extract 0 1= ⟨#[c]⟩ ∧s.data.toList[j]'(by rw[af.size_data];exact hj)=c:=by
 refine⟨_,af.ext _ _ ?_,rfl⟩
 subst hI
 rw[Lib.extract_data,nU,List.drop_zero,List.drop_eq_getElem_cons (by rw[af.size_data];exact hj)]
 rfl
theorem Dp(s I:ByteArray)(j:Nat)(hI:I=s.extract j s.size):I.extract 1 I.size=s.extract (j+1) s.size:=by
 apply af.ext
 rw[nU,nU,hI,nU,List.drop_drop]
theorem EC(s J:ByteArray)(j:Nat)(c:UInt8)(hj:j<s.size)(hJ:J=s.extract 0 j)(hc:s.data.toList[j]'(by rw[af.size_data];exact hj)=c):J++ ⟨#[c]⟩=s.extract 0 (j+1):=by
 apply af.ext
 subst hJ
 rw[Lib.extract_data]
 simp only[List.drop_zero,Nat.sub_zero]
 rw[List.take_succ_eq_append_getElem (by rw[af.size_data];exact hj),hc]
 simp
theorem mx(s:ByteArray)(h:0<s.size):s.toList.isEmpty=false:=by
 rw[Lib.toList_data]
 cases hd:s.data.toList with
 | nil=>exfalso;rw[<-af.size_data,hd]at h;simp at h
 | cons c t=>rfl
theorem toList_nil(s:ByteArray)(h:s.size=0):s.toList = []:=by
 rw[Lib.toList_data];exact List.eq_nil_of_length_eq_zero (by rw[af.size_data];exact h)
theorem iq.accept(h:iq w g S)(m n:Int):Calls prog 316 #[g,m,(n:Int)] w
 (uV (i7 S m n) g (af.cT S m n) w):=by
 have hh:=h.has m 2
 have Rv:=af.JI h.ok m n
 by_cases hc:af.has S.aC m 2=true
 ·rw[hc]at hh
  obtain⟨-,-,c2,-⟩:=h.cells
  have f2:=h.frozen 2
  have hsz:=h.ok.inp
  by_cases SN:n<0
  ·have e1:i7 S m n = .tuple #[.string ⟨#[]⟩,(19:Int)]:=by
    have: ¬0<n:=by omega
    simp[i7,af.cE,af.fq,hc,SN,this]
   have e2:af.cT S m n=S:=by unfold af.cT;rw[if_neg oM]
   rw[e1,e2]
   have H:=hid h
   have HH:=hid hh
   clear e1 e2 hc hh h Rv
   go_enter func316,ntmps316
   go_wp2_with fail
   refine HH.out.mono ?_
   rintro e w' ⟨rfl,rfl⟩
   go_wp2
   go_ret2
   exact⟨rfl,H.out,Kept.refl _ _⟩
  by_cases Zp:n=0
  ·subst Zp
   have e1:i7 S m 0 = .tuple #[.string ⟨#[]⟩,(0:Int)]:=by simp[i7,af.cE,af.fq,hc]
   have e2:af.cT S m 0=S:=by unfold af.cT;rw[if_neg oM]
   rw[e1,e2]
   have H:=hid h
   have HH:=hid hh
   clear e1 e2 hc hh h Rv
   go_enter func316,ntmps316
   go_wp2_with fail
   refine HH.out.mono ?_
   rintro e w' ⟨rfl,rfl⟩
   go_wp2
   go_ret2
   exact⟨rfl,H.out,Kept.refl _ _⟩
  have hnp:0<n:=by omega
  have hiO: (n==0)=false:=by simpa using Zp
  by_cases hz:S.inp.size=0
  ·have hd:S.inp.data.toList = []:=List.eq_nil_of_length_eq_zero (by rw[af.size_data];exact hz)
   have e1:i7 S m n = .tuple #[.string ⟨#[]⟩,(18:Int)]:=by
    have:S.inp.extract 0 (af.cut S.inp n)= ⟨#[]⟩:=af.ext _ _ (by simp[hd])
    simp[i7,af.cE,af.fq,hc,SN,hnp,hz,Zp,this]
   have e2:af.cT S m n=S:=by
    unfold af.cT;rw[if_pos ⟨hc,hnp⟩]
    have:S.inp.extract (af.taken S.inp n) S.inp.size=S.inp:=af.ext _ _ (by simp[hd])
    rw[this]
   rw[e1,e2]
   have H:=hid h
   have HH:=hid hh
   have hs0:S.inp.toList = []:=by rw[Lib.toList_data];exact hd
   clear e1 e2 hc hh h Rv hd hz
   go_enter func316,ntmps316
   go_wp2_with fail
   refine HH.out.mono ?_
   rintro e w' ⟨rfl,rfl⟩
   go_wp2
   go_ret2
   exact⟨rfl,H.out,Kept.refl _ _⟩
  ·have hs0: (S.inp.toList.isEmpty)=false:=by
    rw[Lib.toList_data]
    cases hd:S.inp.data.toList with
    | nil=>exfalso;apply hz;rw[<-af.size_data,hd];rfl
    | cons c t=>rfl
   have e1:i7 S m n = .tuple #[.string (S.inp.extract 0 (af.cut S.inp n)),(0:Int)]:=by
    simp[i7,af.cE,af.fq,hc,SN,hnp,hz,Zp]
   have e2:af.cT S m n = { S with inp:=S.inp.extract (af.taken S.inp n) S.inp.size }:=by
    unfold af.cT;rw[if_pos ⟨hc,hnp⟩]
   rw[e2]at Rv
   rw[e1,e2]
   have H:=hid h
   have HH:=hid hh
   have q1:0<=n:=by omega
   have RX:=af.sL S.inp n
   have E0:GQ S n g w (.string ⟨#[]⟩) w:=by
    exact⟨0,S.inp,⟨#[]⟩,Nat.zero_le _,by simp,af.ext _ _ (by simp),rfl,h.blk,Kept.refl _ _⟩
   clear e1 e2 hc hh h SN Zp hz
   go_enter func316,ntmps316
   go_wp2_with fail
   refine HH.out.mono ?_
   rintro e w' ⟨rfl,rfl⟩
   go_wp2
   go_loopw [9] (λs wr=>GQ S n g w' s wr) (λs _=>S.inp.size+1-Jm s)
   case atStart=>exact E0
   case round=>
    obtain⟨j,I,J,hj,hI,hJ,rfl,hb,hk⟩:=hrel
    clear E0 c2 f2 hs0
    have c2:=hb.cell 2
    have f2:=hb.frozen 2
    simp[Bg]at c2
    have hjs:J.size=j:=by rw[hJ];simp;omega
    have hIs:I.size=S.inp.size-j:=by rw[hI];simp
    by_cases Rd:j<min n.toNat S.inp.size
    ·have hj2:j<S.inp.size:=by omega
     obtain⟨c,Si,RZ⟩:=ES S.inp I j hj2 hI
     have SU:=MT S.inp.data.toList n.toNat j (by rw[af.size_data];exact hj2) oM hj
     have ht1:=Dp S.inp I j hI
     have ht2:=EC S.inp J j c hj2 hJ RZ
     have HT1:=hid ht1
     have HT2:=hid ht2
     have HA:=hid SU
     have HC2:=hid RZ
     have RP:=mx I oM
     have YM: (J.size:Int) <n:=by omega
     have h1I:1<=I.size:=by omega
     have hbig:J.size+1<=9223372036854775807:=by omega
     have HI:=hid hI
     have HJ:=hid hJ
     have HS:=hid hjs
     clear ht1 ht2 SU RZ hI hJ hIs hjs
     go_wp2
     ·rename_i hten
      have hbK:c=10:=by simpa using hten
      have hjk:j=af.cut S.inp n:=(HA.out).1 (HC2.out.trans hbK)
      have et:af.taken S.inp n=j+1:=by unfold af.taken;rw[<-hjk,if_pos Rd]
      rw[et]at Rv
      go_ret2
      refine⟨?_,⟨?_,?_⟩,?_⟩
      ·rw[<-hjk,<-HJ.out];rfl
      ·rw[et];exact Rv
      ·rw[et,<-HT1.out];exact hb.bE 2 _
      ·exact hk.setCell (.inl rfl) _
     ·rename_i hten
      have hbK: ¬c=10:=by simpa using hten
      have hjk:j≠af.cut S.inp n:=λe=>hbK (HC2.out.symm.trans (HA.out.2 e))
      refine⟨⟨j+1,_,_,by omega,HT1.out,HT2.out,rfl,hb.bE 2 _,hk.setCell (.inl rfl) _⟩,?_⟩
      have: (J++ ⟨#[c]⟩).size=J.size+1:=by rw[ByteArray.size_append];rfl
      have:=HS.out
      simp only[Jm]
      omega
    ·have hjk:j=af.cut S.inp n:=by omega
     have et:af.taken S.inp n=j:=by unfold af.taken;rw[<-hjk,if_neg Rd]
     rw[et]at Rv
     have fin:uV (.tuple #[.string (S.inp.extract 0 (af.cut S.inp n)),(0:Int)]) g { S with inp:=S.inp.extract (af.taken S.inp n) S.inp.size } w' (.returned (.tuple #[.string J,(0:Int)])) wr:=by
      rw[et,<-hjk,<-hJ,<-hI]
      exact⟨rfl,⟨by rw[hI];exact Rv,hb⟩,hk⟩
     have Fin:=hid fin
     clear fin hI hJ et Rv hjk
     by_cases hn: (J.size:Int) <n
     ·have hIz:I.size=0:=by omega
      have WU:=toList_nil I hIz
      clear hIz hIs
      go_wp2
      go_ret2
      exact Fin.out
     ·clear hIs
      go_wp2
      go_ret2
      exact Fin.out
 ·have Uw:af.has S.aC m 2=false:=by simpa using hc
  rw[Uw]at hh
  have e1:i7 S m n = .tuple #[.string ⟨#[]⟩,(11:Int)]:=by simp[i7,af.cE,af.fq,Uw]
  have e2:af.cT S m n=S:=by simp[af.cT,Uw]
  rw[e1,e2]
  have H:=hid h
  have HH:=hid hh
  clear e1 e2 hc Uw h Rv hh
  go_enter func316,ntmps316
  go_wp2_with fail
  refine HH.out.mono ?_
  rintro e w' ⟨rfl,rfl⟩
  go_wp2
  go_ret2
  exact⟨rfl,H.out,Kept.refl _ _⟩
end
def dF(g:Nat)(S:af.Tab):Asr where
 holds w F:=dC w g S F
 lt h hk:=h.lt hk
 kept h hk hT:=h.kept hk hT
def tD(g:Nat)(S:af.Tab):Asr where
 holds w F:=iq w g S∧∀k,F k↔k=g
 lt h hk:=by have:=(h.2 _).1 hk;subst this;exact h.1.lt
 kept h hk hT:=⟨h.1.kept hk (hT _ ((h.2 _).2 rfl)),h.2⟩
section
variable {w0 w:World}{g:Nat}{S:af.Tab}{L:List Asr}
theorem yL.vD{v:Value}{S':af.Tab}{F:Nat->Prop}{e:Ending}{w':World}(h:yL v g S' F w e w'):qu (λu B=>u=v∧B=dF g S') F w e w':=by
 obtain⟨he,F',hr,hk,hF⟩:=h
 exact⟨v,dF g S',F',⟨rfl,rfl⟩,he,hr,hk,hF⟩
theorem uV.vD{v:Value}{S':af.Tab}{F:Nat->Prop}(hF: ∀k,F k↔k=g){e:Ending}{w':World}(h:uV v g S' w e w'):qu (λu B=>u=v∧B=tD g S') F w e w':=by
 obtain⟨he,hr,hk⟩:=h
 exact⟨v,tD g S',F,⟨rfl,rfl⟩,he,⟨hr,hF⟩,hk.mono (λk hk=>(hF k).2 hk),λk hk=> .inl hk⟩
theorem dF.Qo(h:At w0 w (dF g S::L)): ∃F,dC w g S F:=h.first
theorem QE(h:At w0 w (dF g S::L))(m:Int)(s:ByteArray)(hs:s.size<=maxLen):Calls prog 200 #[.pointer (some ⟨g,0,none⟩),m,.string s] w (kP (.int .i64 (af.io S m s)) (dF g (af.gE S m s)) w0 L):=
 h.uG λ_ hF=>(dC.typ hF m s hs).mono λ_ _ h=>h.vD
theorem PV(h:At w0 w (dF g S::L))(m:Int):Calls prog 157 #[.pointer (some ⟨g,0,none⟩),m] w (kP (.tuple #[.int .u8 (af.ja S m),(af.jI S m)]) (dF g (af.fE S m)) w0 L):=
 h.uG λ_ hF=>(dC.key hF m).mono λ_ _ h=>h.vD
theorem Kj(h:At w0 w (dF g S::L))(m n:Int):Calls prog 201 #[.pointer (some ⟨g,0,none⟩),m,n] w (kP (.tuple #[.string (af.cE S m n),(af.fq S m n)]) (dF g (af.cT S m n)) w0 L):=
 h.uG λ_ hF=>(dC.accept hF m n).mono λ_ _ h=>h.vD
theorem QB(h:At w0 w L)(p r:Int)(s:ByteArray)(h0:af.cI p r s=0):Calls prog 22 #[p,r,.string s] w
 (λe w'=> ∃g,e = .returned (.tuple #[.pointer (some ⟨g,0,none⟩),(0:Int)])∧At w0 w' (dF g (af.made p r s)::L)):=by
 refine(JM p r s w).mono ?_
 intro e w' hp
 unfold kq at hp
 rw[if_pos h0]at hp
 obtain⟨g,F,he,hr,hk,hF⟩:=hp
 exact⟨g,he,h.add (A:=dF g (af.made p r s)) hr hk hF⟩
theorem M8(h:At w0 w L)(p r:Int)(s:ByteArray)(h0:af.cI p r s=0):Calls prog 54 #[p,r,.string s] w
 (λe w'=> ∃g,e = .returned (.tuple #[.pointer (some ⟨g,0,none⟩),(0:Int)])∧At w0 w' (tD g (af.made p r s)::L)):=by
 refine(KH p r s w).mono ?_
 intro e w' hp
 unfold iQ at hp
 rw[if_pos h0]at hp
 obtain⟨he,hr,hk⟩:=hp
 exact⟨_,he,h.add (A:=tD _ (af.made p r s)) (F':=λk=>k=w.heap.size) ⟨hr,λ_=>Iff.rfl⟩ hk (λk hk=>Nat.le_of_eq hk.symm)⟩
