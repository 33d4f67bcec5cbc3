/- The program's package caps: what each of its functions does to a table that lies in memory. Conditions: the table's numbers are in their bounds (Tab.Ok). -/
import Derived.Test.YtjohhkikoejadaaGreatDoorZ02
import Derived.Test.YtjohhkikoejadaaGreatDoorZ03
import Derived.Test.YtjohhkikoejadaaGreatDoorZShelf
namespace Go.Proofs.YtjohhkikoejadaaGreatDoor
set_option linter.unusedVariables false
set_option maxHeartbeats 8000000
open Go.RowKit Go.Lib
theorem Tryz.Mv: (Tryz.prog.info? 5).map (λi=>(i.zero,i.size,i.bytes)) =some (some (.int .u8 0),1,1):=by kernel_rfl
structure dj(w:World)(g:Nat)(S:Caps.Tab)(F:Nat->Prop) :Prop where
 ok:S.Ok
 rep : ∃o l vo vl,Blk w g 97 #[S.aU,.string S.inp,.iface 129 (.pointer (some ⟨o,0,none⟩)),.iface 132 (.pointer (some ⟨l,0,none⟩)),S.points,.bool S.said]∧
  Blk w o 131 #[vo,S.room]∧Blk w l 134 #[vl,S.room]∧
  Buf w 5 vo S.out.data.toList∧Buf w 5 vl S.log.data.toList∧(∀k,vo.ownBlock=some k->vl.ownBlock=some k->False)∧
  (∀k,F k↔(k=g∨k=o∨k=l∨vo.ownBlock=some k∨vl.ownBlock=some k))
theorem dj.lt{w:World}{g:Nat}{S:Caps.Tab}{F:Nat->Prop}(h:dj w g S F){k:Nat}(hk:F k) :k<w.heap.size:=by
 obtain⟨o,l,vo,vl,h1,h2,h3,h4,h5,_,hF⟩:=h.rep
 rcases(hF k).1 hk with rfl|rfl|rfl|h|h
 ·exact h1.lt
 ·exact h2.lt
 ·exact h3.lt
 ·exact h4.lt h
 ·exact h5.lt h
theorem dj.kept{w w':World}{g:Nat}{S:Caps.Tab}{F T:Nat->Prop}(h:dj w g S F)(hk:Kept T w w')(hT : ∀k,F k->¬T k) :dj w' g S F:=by
 obtain⟨o,l,vo,vl,h1,h2,h3,h4,h5,h6,hF⟩:=h.rep
 exact⟨h.ok,o,l,vo,vl,h1.kept hk (hT _ ((hF _).2 (.inl rfl))),h2.kept hk (hT _ ((hF _).2 (.inr (.inl rfl)))),h3.kept hk (hT _ ((hF _).2 (.inr (.inr (.inl rfl))))),
  h4.kept hk (λk hv=>hT _ ((hF _).2 (.inr (.inr (.inr (.inl hv)))))),h5.kept hk (λk hv=>hT _ ((hF _).2 (.inr (.inr (.inr (.inr hv)))))),h6,hF⟩
theorem dj.drewN{w:World}{g:Nat}{S:Caps.Tab}{F:Nat->Prop}(h:dj w g S F)(n:Nat) :dj (w.drewN n) g S F:=
 h.kept (T:=Nob) ((Kept.refl _ w).drewN n) (λ_ _ h=>h)
def sT(v:Value)(g:Nat)(S':Caps.Tab)(F:Nat->Prop)(w:World)(e:Ending)(w':World) :Prop:=
 e = .returned v∧∃F',dj w' g S' F'∧Kept F w w'∧∀k,F' k->F k∨w.heap.size<=k
def Draws(v:Value)(w:World)(e:Ending)(w':World) :Prop:=e = .returned v∧∃n,w'=w.drewN n
theorem IL(p c:Int)(h:0<=p∧p<=31)(hc:c=1∨c=2∨c=4∨c=8∨c=16) : (bits .and .i64 p c != 0) = (p/c % 2==1):=by
 obtain⟨n,rfl⟩:=Int.eq_ofNat_of_zero_le h.1
 have hn:n<32:=by omega
 have key : ∀k:Fin 32,(bits .and .i64 (k.val:Int) 1 != 0) = ((k.val:Int) /1 % 2==1)∧(bits .and .i64 (k.val:Int) 2 != 0) = ((k.val:Int) /2 % 2==1)∧
  (bits .and .i64 (k.val:Int) 4 != 0) = ((k.val:Int) /4 % 2==1)∧(bits .and .i64 (k.val:Int) 8 != 0) = ((k.val:Int) /8 % 2==1)∧(bits .and .i64 (k.val:Int) 16 != 0) = ((k.val:Int) /16 % 2==1):=by decide +kernel
 have:=key ⟨n,hn⟩
 rcases hc with rfl|rfl|rfl|rfl|rfl
 ·exact this.1
 ·exact this.2.1
 ·exact this.2.2.1
 ·exact this.2.2.2.1
 ·exact this.2.2.2.2
theorem Mn(g:Nat)(p m c:Int)(w:World)(hc : ¬(c=1∨c=2∨c=4∨c=8∨c=16)) :
 Calls Tryz.prog 94 #[g,m,c] w (aA (.bool (Caps.has p m c)) w):=by
 have e:Caps.has p m c=false:=by simp[Caps.has,Caps.BA];omega
 rw[e]
 have a1: (c==1) =false:=by simp;omega
 have a2: (c==2) =false:=by simp;omega
 have a4: (c==4) =false:=by simp;omega
 have a8: (c==8) =false:=by simp;omega
 have a16: (c==16) =false:=by simp;omega
 go_enter Tryz.func94,Tryz.ntmps94
 go_wp2
 go_ret
 exact⟨rfl,rfl⟩
theorem IJ(g:Nat)(p m c:Int)(w:World)(hc:c=1∨c=2∨c=4∨c=8∨c=16)(hp:0<=p∧p<=31)(hw:w.cell? (g,0) =some (p:Vl)) :
 Calls Tryz.prog 94 #[g,m,c] w (aA (.bool (Caps.has p m c)) w):=by
 have hb:=IL p c hp hc
 by_cases m1:m=1
 ·subst m1
  have e:Caps.has p 1 c= (bits .and .i64 p c != 0):=by rw[hb];simp[Caps.has,Caps.BA];omega
  rw[e]
  clear e hb
  rcases hc with rfl|rfl|rfl|rfl|rfl
  all_goals
   go_enter Tryz.func94,Tryz.ntmps94
   go_wp2
   go_ret
   exact⟨rfl,rfl⟩
 ·have e:Caps.has p m c= (m==0||m==2):=by
   have: (m==1) =false:=by simpa using m1
   simp[Caps.has,Caps.BA,this];omega
  rw[e]
  clear e hb
  have m1': (m==1) =false:=by simpa using m1
  by_cases m0:m=0
  ·subst m0
   rcases hc with rfl|rfl|rfl|rfl|rfl
   all_goals
    go_enter Tryz.func94,Tryz.ntmps94
    go_wp2
    go_ret
    exact⟨rfl,rfl⟩
  ·have m0': (m==0) =false:=by simpa using m0
   by_cases m2:m=2
   ·subst m2
    rcases hc with rfl|rfl|rfl|rfl|rfl
    all_goals
     go_enter Tryz.func94,Tryz.ntmps94
     go_wp2
     go_ret
     exact⟨rfl,rfl⟩
   ·have m2': (m==2) =false:=by simpa using m2
    rcases hc with rfl|rfl|rfl|rfl|rfl
    all_goals
     go_enter Tryz.func94,Tryz.ntmps94
     go_wp2
     go_ret
     exact⟨by rw[m0',m2'];rfl,rfl⟩
theorem dj.has{w:World}{g:Nat}{S:Caps.Tab}{F:Nat->Prop}(h:dj w g S F)(m c:Int) :
 Calls Tryz.prog 94 #[g,m,c] w (aA (.bool (Caps.has S.aU m c)) w):=by
 by_cases hc:c=1∨c=2∨c=4∨c=8∨c=16
 ·obtain⟨o,l,vo,vl,h1,_⟩:=h.rep
  exact IJ g S.aU m c w hc ⟨h.ok.p0,h.ok.p1⟩ (by simpa using h1.cell 0)
 ·exact Mn g S.aU m c w hc
def jk(p r:Int)(s:ByteArray)(w:World)(e:Ending)(w':World) :Prop:=
 if Caps.cC p r s=0 then∃g F,e = .returned (.tuple #[.pointer (some ⟨g,0,none⟩),(0:Int)])∧dj w' g (Caps.made p r s) F∧Kept Nob w w'∧∀k,F k->w.heap.size<=k
 else e = .returned (.tuple #[.pointer none,(Caps.cC p r s)])∧w'=w
theorem HM(p r:Int)(s:ByteArray)(w:World) :Calls Tryz.prog 18 #[p,r,.string s] w (jk p r s w):=by
 by_cases hbad:p<0∨31<p∨r<0∨65536<r
 ·have e1:Caps.cC p r s=1:=by unfold Caps.cC;rw[if_pos hbad]
  have fin:jk p r s w (.returned (.tuple #[.pointer none,(1:Int)])) w:=by
   unfold jk;rw[e1];simp
  have Fin:=hid fin
  clear fin
  clear e1
  go_enter Tryz.func18,Tryz.ntmps18
  go_wp2
  all_goals first| (go_ret2;exact Fin.out) | (exfalso;omega)
 ·by_cases hl:4096<s.size
  ·have e1:Caps.cC p r s=2:=by unfold Caps.cC;rw[if_neg hbad,if_pos hl]
   have fin:jk p r s w (.returned (.tuple #[.pointer none,(2:Int)])) w:=by
    unfold jk;rw[e1];simp
   have Fin:=hid fin
   clear fin e1
   have q1:0<=p:=by omega
   have q2:p<=31:=by omega
   have q3:0<=r:=by omega
   have q4:r<=65536:=by omega
   clear hbad
   go_enter Tryz.func18,Tryz.ntmps18
   go_wp2
   all_goals first| (go_ret2;exact Fin.out) | (exfalso;omega)
  ·have e1:Caps.cC p r s=0:=by unfold Caps.cC;rw[if_neg hbad,if_neg hl]
   have hok:=Caps.BE e1
   have E1:=hid e1
   clear e1
   have q1:0<=p:=by omega
   have q2:p<=31:=by omega
   have q3:0<=r:=by omega
   have q4:r<=65536:=by omega
   have q5:s.size<=4096:=by omega
   clear hbad hl
   go_enter Tryz.func18,Tryz.ntmps18
   go_wp2
   go_ret2
   unfold jk
   rw[if_pos E1.out]
   refine⟨_,λk=>k=w.heap.size+1+1∨k=w.heap.size∨k=w.heap.size+1,rfl,⟨hok,w.heap.size,w.heap.size+1,.slice none 0 0,.slice none 0 0,?_,?_,?_,?_,?_,?_,?_⟩,?_,?_⟩
   ·exact Blk.nN (by simp)
   ·exact(((Blk.new w _ _).alloc _).alloc _)
   ·exact((Blk.nN (by simp)).alloc _)
   ·exact Buf.nil _ _
   ·exact Buf.nil _ _
   ·intro k hk;cases hk
   ·intro k;simp[Value.ownBlock]
   ·exact(((Kept.refl _ w).alloc _).alloc _).alloc _
   ·intro k hk;omega
set_option maxRecDepth 100000
def iI(b tb:Nat)(v:Value)(room:Int)(bs:List UInt8)(s:ByteArray)(n m:Nat)(w:World)(e:Ending)(w':World) :Prop:=
 ∃v',e = .returned (.int .i64 m)∧Blk w' b tb #[v',.int .i64 room]∧Buf w' 5 v' (bs++s.data.toList.take n)∧
  Kept (λk=>k=b∨v.ownBlock=some k) w w'∧(∀k,v'.ownBlock=some k->v.ownBlock=some k∨w.heap.size<=k)
theorem vK(b tb:Nat)(v:Value)(room:Int)(bs:List UInt8)(s:ByteArray)(w:World)(hb:Blk w b tb #[v,.int .i64 room])(hv:Buf w 5 v bs)(htb:5≠tb)
 (hr: (bs.length:Int)<=room∧room<=65536) :
 Calls Tryz.prog 285 #[.pointer (some ⟨b,0,none⟩),.string s] w (iI b tb v room bs s (min s.size (room.toNat-bs.length)) (min s.size (room.toNat-bs.length)) w):=by
 obtain⟨i0,hi,hz0,hz1,hz2⟩:=info_parts Tryz.Mv
 obtain⟨A,cap,rfl,hcap⟩:=hv.Br
 obtain⟨n,hrn⟩ : ∃n:Nat,room- (bs.length:Int) =n:=⟨(room-bs.length).toNat,by omega⟩
 have c0:=hb.cell 0
 have c1:=hb.cell 1
 have f0:=hb.frozen 0
 simp at c0 c1
 have e0:min s.size (room.toNat-bs.length) =min s.size n:=by congr 1;omega
 rw[e0]
 clear e0
 by_cases hn:n<s.size
 ·rw[Nat.min_eq_right (by omega)]
  have hle:n<=s.size:=by omega
  have hmin:min (s.size:Int) (n:Int) =n:=by omega
  have hex: (s.extract 0 n).data.toList=s.data.toList.take n:=by simp
  have hln: (bs++s.data.toList.take n).length=bs.length+n:=by simp;omega
  have Hex:=hid hex
  have Hln:=hid hln
  have hsz:bs.length+ (s.extract 0 n).size<=140737488355328:=by simp;omega
  clear hex hln
  go_enter Tryz.func285,Tryz.ntmps285
  go_wp2
  go_quiet (fail)
  go_wp2
  go_region_law ((refine jQ rfl (.tmp 23) (.tmp 26) 92 9 rfl 5 i0 Tryz.underlying92 Tryz.underlying9 hi hz0 hz1 hz2 _ bs rfl hv _ rfl hsz ?_;rw[Hex.out];intro v' w1 hb1 hg hat;obtain⟨A1,cap1,rfl,_⟩:=hb1.Br;rw[Hln.out]at hb1 hat⊢;have B1:=Blk.grown (hb.drewN (nq+1)) hg (λe=>hv.fV hb htb e.symm);have c0':=B1.cell 0;have f0':=B1.frozen 0;simp at c0'))
  go_wp2
  go_ret
  refine⟨_,rfl,B1.bG 0 _,hb1.setCell (hb1.fV B1 htb) _,?_,?_⟩
  ·exact(((Kept.refl _ w).drewN (nq+1)).grown hg (λk hk=> .inl (.inr hk))).setCell (.inl (.inl rfl)) _
  ·intro k hk
   rcases hat with h|h
   ·exact .inl (h.symm.trans hk)
   ·exact .inr (Nat.le_of_eq (Option.some.inj (h.symm.trans hk)))
 ·rw[Nat.min_eq_left (by omega)]
  have hmin:min (s.size:Int) (n:Int) =s.size:=by omega
  have hex:s.data.toList=s.data.toList.take s.size:=by rw[List.take_of_length_le (by simp)]
  have hln: (bs++s.data.toList.take s.size).length=bs.length+s.size:=by simp
  have Hex:=hid hex
  have Hln:=hid hln
  have hsz:bs.length+s.size<=140737488355328:=by omega
  clear hex hln
  go_enter Tryz.func285,Tryz.ntmps285
  go_wp2
  go_quiet (fail)
  go_wp2
  go_region_law ((refine jQ rfl (.tmp 23) (.tmp 26) 92 9 rfl 5 i0 Tryz.underlying92 Tryz.underlying9 hi hz0 hz1 hz2 _ bs rfl hv _ rfl hsz ?_;rw[Hex.out];intro v' w1 hb1 hg hat;obtain⟨A1,cap1,rfl,_⟩:=hb1.Br;rw[Hln.out]at hb1 hat⊢;have B1:=Blk.grown (hb.drewN (nq+1)) hg (λe=>hv.fV hb htb e.symm);have c0':=B1.cell 0;have f0':=B1.frozen 0;simp at c0'))
  go_wp2
  go_ret
  refine⟨_,rfl,B1.bG 0 _,hb1.setCell (hb1.fV B1 htb) _,?_,?_⟩
  ·exact(((Kept.refl _ w).drewN (nq+1)).grown hg (λk hk=> .inl (.inr hk))).setCell (.inl (.inl rfl)) _
  ·intro k hk
   rcases hat with h|h
   ·exact .inl (h.symm.trans hk)
   ·exact .inr (Nat.le_of_eq (Option.some.inj (h.symm.trans hk)))
theorem iI.NH{b tb:Nat}{v:Value}{room:Int}{bs:List UInt8}{s:ByteArray}{n m m':Nat}{w w':World}{e:Ending}(h:iI b tb v room bs s n m w e w') :
 iI b tb v room bs s n m' w (.returned (.int .i64 m')) w':=by
 obtain⟨v',_,h2⟩:=h
 exact⟨v',rfl,h2⟩
theorem DO(b tb:Nat)(v:Value)(room:Int)(bs:List UInt8)(s:ByteArray)(w:World)(hb:Blk w b tb #[v,.int .i64 room])(hv:Buf w 5 v bs)(htb:5≠tb)
 (hr: (bs.length:Int)<=room∧room<=65536) (hs:s.size<=maxLen) :
 Calls Tryz.prog 287 #[.pointer (some ⟨b,0,none⟩),.string s] w (iI b tb v room bs s (min s.size (room.toNat-bs.length)) s.size w):=by
 have hs':=hs
 unfold maxLen at hs'
 go_enter Tryz.func287,Tryz.ntmps287
 go_wp2_with fail
 refine(vK b tb v room bs s w hb hv htb hr).mono ?_
 rintro e w' hp
 have he : ∃n,e = .returned n:=by obtain⟨_,h,_⟩:=hp;exact⟨_,h⟩
 obtain⟨n,rfl⟩:=he
 have hp':iI b tb v room bs s (min s.size (room.toNat-bs.length)) s.size w _ w':=hp.NH
 have Hp:=hid hp'
 clear hp'
 clear hp
 go_wp2
 go_ret
 exact Hp.out
theorem GD(b tb:Nat)(v:Value)(room:Int)(bs:List UInt8)(w:World)(hb:Blk w b tb #[v,.int .i64 room])(hv:Buf w 5 v bs) :
 Calls Tryz.prog 286 #[.pointer (some ⟨b,0,none⟩)] w (aA (.string ⟨bs.toArray⟩) w):=by
 obtain⟨A,cap,rfl,hcap⟩:=hv.Br
 have c0:=hb.cell 0
 simp at c0
 have hc:=hv.nU (P:=Tryz.prog) 92 9 Tryz.underlying92 Tryz.underlying5 Tryz.underlying9
 go_enter Tryz.func286,Tryz.ntmps286
 go_wp2
 go_ret
 exact⟨rfl,rfl⟩
theorem Ef(a:Addr)(w:World) : (method 478 129 (.pointer (some a)) "proctor/caps.put").run Tryz.prog w = .ok (285,.pointer (some a)) w:=by kernel_rfl
theorem Da(a:Addr)(w:World) : (method 478 132 (.pointer (some a)) "proctor/caps.put").run Tryz.prog w = .ok (287,.pointer (some a)) w:=by kernel_rfl
theorem yV(a:Addr)(w:World) : (method 478 129 (.pointer (some a)) "proctor/caps.text").run Tryz.prog w = .ok (286,.pointer (some a)) w:=by kernel_rfl
theorem D4(s:ByteArray) : (⟨s.data.toList.toArray⟩ :ByteArray) =s:=by cases s;rfl
section
variable {w:World}{g:Nat}{S:Caps.Tab}{F:Nat->Prop}
theorem dj.output(h:dj w g S F) :Calls Tryz.prog 9 #[g] w (aA (.string S.out) w):=by
 obtain⟨o,l,vo,vl,h1,h2,h3,h4,h5,h6,hF⟩:=h.rep
 have c2:=h1.cell 2
 simp at c2
 have hm:=yV ⟨o,0,none⟩
 go_enter Tryz.func9,Tryz.ntmps9
 go_wp2_with fail
 refine(GD o 131 vo S.room S.out.data.toList w h2 h4).mono ?_
 rintro e w' ⟨rfl,rfl⟩
 rw[D4]
 go_wp2
 go_ret
 exact⟨rfl,rfl⟩
theorem dj.change(h:dj w g S F){w':World}{S':Caps.Tab}(hok:S'.Ok)(hp:S'.room=S.room)(ho:S'.out=S.out)(hl:S'.log=S.log)
 (hk:Kept (λk=>k=g) w w') (hb : ∀o l:Nat,Blk w g 97 #[S.aU,.string S.inp,.iface 129 (.pointer o),.iface 132 (.pointer l),S.points,.bool S.said]->
  Blk w' g 97 #[S'.aU,.string S'.inp,.iface 129 (.pointer o),.iface 132 (.pointer l),S'.points,.bool S'.said]) :dj w' g S' F:=by
 obtain⟨o,l,vo,vl,h1,h2,h3,h4,h5,h6,hF⟩:=h.rep
 refine⟨hok,o,l,vo,vl,hb o l h1,?_,?_,?_,?_,h6,hF⟩
 ·rw[hp];exact h2.kept hk (Blk.ne_ h2 h1 (by decide))
 ·rw[hp];exact h3.kept hk (Blk.ne_ h3 h1 (by decide))
 ·rw[ho];exact h4.kept hk (λk hv e=>h4.fV h1 (by decide) (by rw[hv,e]))
 ·rw[hl];exact h5.kept hk (λk hv e=>h5.fV h1 (by decide) (by rw[hv,e]))
theorem dj.gin(h:dj w g S F) :F g:=by
 obtain⟨o,l,vo,vl,h1,h2,h3,h4,h5,h6,hF⟩:=h.rep
 exact(hF g).2 (.inl rfl)
theorem dj.say(h:dj w g S F)(m p:Int) :Calls Tryz.prog 156 #[g,m,p] w (sT (.int .i64 (Caps.zy S m p)) g (Caps.vO S m p) F w):=by
 have hh:=h.has m 8
 have hok:=Caps.LG h.ok m p
 by_cases hc:Caps.has S.aU m 8=true
 ·rw[hc]at hh
  by_cases hp:p<0∨100<p
  ·have e1:Caps.zy S m p=19:=by simp[Caps.zy,hc,hp]
   have e2:Caps.vO S m p=S:=by unfold Caps.vO;rw[if_neg (by omega)]
   rw[e1,e2]
   have H:=hid h
   clear e1 e2 hok hc h
   go_enter Tryz.func156,Tryz.ntmps156
   go_wp2_with fail
   refine hh.mono ?_
   rintro e w' ⟨rfl,rfl⟩
   clear hh
   go_wp2
   all_goals first| (go_ret;exact⟨rfl,F,H.out,Kept.refl _ _,λk hk=> .inl hk⟩) | (exfalso;omega)
  ·have e1:Caps.zy S m p=0:=by simp[Caps.zy,hc,hp]
   have e2:Caps.vO S m p = { S with points:=p,said:=true }:=by unfold Caps.vO;rw[if_pos ⟨hc,by omega,by omega⟩]
   rw[e2]at hok
   rw[e1,e2]
   obtain⟨o,l,vo,vl,h1,h2,h3,h4,h5,h6,hF⟩:=h.rep
   have c4:=h1.cell 4
   have c5:=h1.cell 5
   have f4:=h1.frozen 4
   have f5:=h1.frozen 5
   simp at c4 c5
   have H:=hid h
   have q1:0<=p:=by omega
   have q2:p<=100:=by omega
   clear e1 e2 hc h hF h6 hp
   go_enter Tryz.func156,Tryz.ntmps156
   go_wp2_with fail
   refine hh.mono ?_
   rintro e w' ⟨rfl,rfl⟩
   clear hh
   go_wp2
   go_ret
   refine⟨rfl,F,H.out.change hok rfl rfl rfl ?_ ?_,?_,λk hk=> .inl hk⟩
   ·refine Kept.setCell (Kept.setCell (Kept.refl _ _) ?_ _) ?_ _<;>exact .inl rfl
   ·intro o l hb
    exact((hb.bG 4 _).bG 5 _)
   ·refine Kept.setCell (Kept.setCell (Kept.refl _ _) ?_ _) ?_ _<;>exact .inl H.out.gin
 ·have hc':Caps.has S.aU m 8=false:=by simpa using hc
  rw[hc']at hh
  have e1:Caps.zy S m p=11:=by simp[Caps.zy,hc']
  have e2:Caps.vO S m p=S:=by simp[Caps.vO,hc']
  rw[e1,e2]
  have H:=hid h
  clear e1 e2 hc hc' h hok
  go_enter Tryz.func156,Tryz.ntmps156
  go_wp2_with fail
  refine hh.mono ?_
  rintro e w' ⟨rfl,rfl⟩
  clear hh
  go_wp2
  go_ret
  exact⟨rfl,F,H.out,Kept.refl _ _,λk hk=> .inl hk⟩
end
section
variable {w:World}{g:Nat}{S:Caps.Tab}{F:Nat->Prop}
theorem yn(r:Int)(was s:ByteArray) : (Caps.behind r was s).data.toList=was.data.toList++s.data.toList.take (Caps.fit r was s):=by
 unfold Caps.behind
 simp
theorem Cb(s:ByteArray){w':World}{o l m:Nat}{vo vl:Value}{e:Ending}
 (h1:Blk w g 97 #[.int .i64 S.aU,.string S.inp,.iface 129 (.pointer (some ⟨o,0,none⟩)),.iface 132 (.pointer (some ⟨l,0,none⟩)),.int .i64 S.points,.bool S.said])
 (h2:Blk w o 131 #[vo,.int .i64 S.room]) (h3:Blk w l 134 #[vl,.int .i64 S.room]) (h4:Buf w 5 vo S.out.data.toList) (h5:Buf w 5 vl S.log.data.toList)
 (h6 : ∀k,vo.ownBlock=some k->vl.ownBlock=some k->False) (hF : ∀k,F k↔(k=g∨k=o∨k=l∨vo.ownBlock=some k∨vl.ownBlock=some k))
 (hok: ({ S with out:=Caps.behind S.room S.out s }:Caps.Tab).Ok)
 (hp:iI o 131 vo S.room S.out.data.toList s (Caps.fit S.room S.out s) m w e w') :
 e = .returned (.int .i64 m)∧∃F',dj w' g { S with out:=Caps.behind S.room S.out s } F'∧Kept F w w'∧∀k,F' k->F k∨w.heap.size<=k:=by
 obtain⟨v',he,b2,b4,hk,hv⟩:=hp
 have hgo:g≠o:=Blk.ne_ h1 h2 (by decide)
 have hlo:l≠o:=Blk.ne_ h3 h2 (by decide)
 refine⟨he,λk=>k=g∨k=o∨k=l∨v'.ownBlock=some k∨vl.ownBlock=some k,⟨hok,o,l,v',vl,?_,b2,?_,by rw[yn];exact b4,?_,?_,λk=>Iff.rfl⟩,?_,?_⟩
 ·exact h1.kept hk (by rintro(e|e);exact hgo e;exact h4.fV h1 (by decide) e)
 ·exact h3.kept hk (by rintro(e|e);exact hlo e;exact h4.fV h3 (by decide) e)
 ·exact h5.kept hk (by intro k hv;rintro(e|e);exact h5.fV h2 (by decide) (by rw[hv,e]);exact h6 k e hv)
 ·intro k a b
  rcases hv k a with c|c
  ·exact h6 k c b
  ·have:=h5.lt b;omega
 ·exact hk.mono (by intro k;rintro(e|e);exact(hF k).2 (.inr (.inl e));exact(hF k).2 (.inr (.inr (.inr (.inl e)))))
 ·intro k hk'
  rcases hk' with e|e|e|e|e
  ·exact .inl ((hF k).2 (.inl e))
  ·exact .inl ((hF k).2 (.inr (.inl e)))
  ·exact .inl ((hF k).2 (.inr (.inr (.inl e))))
  ·rcases hv k e with c|c
   ·exact .inl ((hF k).2 (.inr (.inr (.inr (.inl c)))))
   ·exact .inr c
  ·exact .inl ((hF k).2 (.inr (.inr (.inr (.inr e)))))
theorem Jw(s:ByteArray){w':World}{o l m:Nat}{vo vl:Value}{e:Ending}
 (h1:Blk w g 97 #[.int .i64 S.aU,.string S.inp,.iface 129 (.pointer (some ⟨o,0,none⟩)),.iface 132 (.pointer (some ⟨l,0,none⟩)),.int .i64 S.points,.bool S.said])
 (h2:Blk w o 131 #[vo,.int .i64 S.room]) (h3:Blk w l 134 #[vl,.int .i64 S.room]) (h4:Buf w 5 vo S.out.data.toList) (h5:Buf w 5 vl S.log.data.toList)
 (h6 : ∀k,vo.ownBlock=some k->vl.ownBlock=some k->False) (hF : ∀k,F k↔(k=g∨k=o∨k=l∨vo.ownBlock=some k∨vl.ownBlock=some k))
 (hok: ({ S with log:=Caps.behind S.room S.log s }:Caps.Tab).Ok)
 (hp:iI l 134 vl S.room S.log.data.toList s (Caps.fit S.room S.log s) m w e w') :
 e = .returned (.int .i64 m)∧∃F',dj w' g { S with log:=Caps.behind S.room S.log s } F'∧Kept F w w'∧∀k,F' k->F k∨w.heap.size<=k:=by
 obtain⟨v',he,b3,b5,hk,hv⟩:=hp
 have hgl:g≠l:=Blk.ne_ h1 h3 (by decide)
 have hol:o≠l:=Blk.ne_ h2 h3 (by decide)
 refine⟨he,λk=>k=g∨k=o∨k=l∨vo.ownBlock=some k∨v'.ownBlock=some k,⟨hok,o,l,vo,v',?_,?_,b3,?_,by rw[yn];exact b5,?_,λk=>Iff.rfl⟩,?_,?_⟩
 ·exact h1.kept hk (by rintro(e|e);exact hgl e;exact h5.fV h1 (by decide) e)
 ·exact h2.kept hk (by rintro(e|e);exact hol e;exact h5.fV h2 (by decide) e)
 ·exact h4.kept hk (by intro k hv;rintro(e|e);exact h4.fV h3 (by decide) (by rw[hv,e]);exact h6 k hv e)
 ·intro k a b
  rcases hv k b with c|c
  ·exact h6 k a c
  ·have:=h4.lt a;omega
 ·exact hk.mono (by intro k;rintro(e|e);exact(hF k).2 (.inr (.inr (.inl e)));exact(hF k).2 (.inr (.inr (.inr (.inr e)))))
 ·intro k hk'
  rcases hk' with e|e|e|e|e
  ·exact .inl ((hF k).2 (.inl e))
  ·exact .inl ((hF k).2 (.inr (.inl e)))
  ·exact .inl ((hF k).2 (.inr (.inr (.inl e))))
  ·exact .inl ((hF k).2 (.inr (.inr (.inr (.inl e)))))
  ·rcases hv k e with c|c
   ·exact .inl ((hF k).2 (.inr (.inr (.inr (.inr c)))))
   ·exact .inr c
theorem dj.typ(h:dj w g S F)(m:Int)(s:ByteArray)(hs:s.size<=maxLen) :Calls Tryz.prog 186 #[.pointer (some ⟨g,0,none⟩),.int .i64 m,.string s] w (sT (.int .i64 (Caps.nO S m s)) g (Caps.mn S m s) F w):=by
 have hh:=h.has m 1
 have hok:=Caps.Mb h.ok m s
 have hsl:s.size<=9223372036854775807:=by unfold maxLen at hs;omega
 by_cases hc:Caps.has S.aU m 1=true
 ·rw[hc]at hh
  obtain⟨o,l,vo,vl,h1,h2,h3,h4,h5,h6,hF⟩:=h.rep
  have r1:=h.ok.r1
  have ro:=h.ok.out
  have rl:=h.ok.log
  have c2:=h1.cell 2
  have c3:=h1.cell 3
  simp at c2 c3
  by_cases hm:m=1
  ·subst hm
   have e2:Caps.mn S 1 s = { S with out:=Caps.behind S.room S.out s }:=by simp[Caps.mn,hc]
   rw[e2]at hok⊢
   have hmp:=Ef ⟨o,0,none⟩
   by_cases hf: (S.room-S.out.size:Int) <s.size
   ·have e1:Caps.nO S 1 s=12:=by simp[Caps.nO,hc,hf]
    rw[e1]
    have hfit:min s.size (S.room.toNat-S.out.data.toList.length) =Caps.fit S.room S.out s:=by rw[Caps.size_data];rfl
    have hlt:Caps.fit S.room S.out s<s.size:=by unfold Caps.fit;omega
    have hp0:=vK o 131 vo S.room S.out.data.toList s w h2 h4 (by decide) ⟨by rw[Caps.size_data];exact ro,r1⟩
    rw[hfit]at hp0
    have P0:=hid hp0
    have H:=hid h
    have HH:=hid hh
    clear hp0 e1 e2 hc hf hh h hfit
    go_enter Tryz.func186,Tryz.ntmps186
    go_wp2_with fail
    refine HH.out.mono ?_
    rintro e w' ⟨rfl,rfl⟩
    go_wp2_with fail
    refine P0.out.mono ?_
    rintro e w' hp
    obtain⟨rfl,F',hr,hk,hF'⟩:=Cb s h1 h2 h3 h4 h5 h6 hF hok hp
    clear hp P0 h1 h2 h3 h4 h5 h6 hF
    have HF:=hid hF'
    clear hF'
    go_wp2
    go_ret
    exact⟨rfl,F',hr,hk,HF.out⟩
   ·have e1:Caps.nO S 1 s=0:=by simp[Caps.nO,hc,hf]
    rw[e1]
    have hfit:min s.size (S.room.toNat-S.out.data.toList.length) =Caps.fit S.room S.out s:=by rw[Caps.size_data];rfl
    have hlt:s.size<=Caps.fit S.room S.out s:=by unfold Caps.fit;omega
    have hp0:=vK o 131 vo S.room S.out.data.toList s w h2 h4 (by decide) ⟨by rw[Caps.size_data];exact ro,r1⟩
    rw[hfit]at hp0
    have P0:=hid hp0
    have H:=hid h
    have HH:=hid hh
    clear hp0 e1 e2 hc hf hh h hfit
    go_enter Tryz.func186,Tryz.ntmps186
    go_wp2_with fail
    refine HH.out.mono ?_
    rintro e w' ⟨rfl,rfl⟩
    go_wp2_with fail
    refine P0.out.mono ?_
    rintro e w' hp
    obtain⟨rfl,F',hr,hk,hF'⟩:=Cb s h1 h2 h3 h4 h5 h6 hF hok hp
    clear hp P0 h1 h2 h3 h4 h5 h6 hF
    have HF:=hid hF'
    clear hF'
    go_wp2
    go_ret
    exact⟨rfl,F',hr,hk,HF.out⟩
  ·have hm': (m==1) =false:=by simpa using hm
   have e2:Caps.mn S m s = { S with log:=Caps.behind S.room S.log s }:=by simp[Caps.mn,hc,hm]
   have e1:Caps.nO S m s=0:=by simp[Caps.nO,hc,hm]
   rw[e2]at hok⊢
   rw[e1]
   have hmp:=Da ⟨l,0,none⟩
   have hfit:min s.size (S.room.toNat-S.log.data.toList.length) =Caps.fit S.room S.log s:=by rw[Caps.size_data];rfl
   have hp0:=DO l 134 vl S.room S.log.data.toList s w h3 h5 (by decide) ⟨by rw[Caps.size_data];exact rl,r1⟩ hs
   rw[hfit]at hp0
   have P0:=hid hp0
   have H:=hid h
   have HH:=hid hh
   clear hp0 e1 e2 hc hh h hfit
   go_enter Tryz.func186,Tryz.ntmps186
   go_wp2_with fail
   refine HH.out.mono ?_
   rintro e w' ⟨rfl,rfl⟩
   go_wp2_with fail
   refine P0.out.mono ?_
   rintro e w' hp
   obtain⟨rfl,F',hr,hk,hF'⟩:=Jw s h1 h2 h3 h4 h5 h6 hF hok hp
   clear hp P0 h1 h2 h3 h4 h5 h6 hF
   have HF:=hid hF'
   clear hF'
   go_wp2
   go_ret
   exact⟨rfl,F',hr,hk,HF.out⟩
 ·have hc':Caps.has S.aU m 1=false:=by simpa using hc
  rw[hc']at hh
  have e1:Caps.nO S m s=11:=by simp[Caps.nO,hc']
  have e2:Caps.mn S m s=S:=by simp[Caps.mn,hc']
  rw[e1,e2]
  have H:=hid h
  have HH:=hid hh
  clear e1 e2 hc hc' h hok hh
  go_enter Tryz.func186,Tryz.ntmps186
  go_wp2_with fail
  refine HH.out.mono ?_
  rintro e w' ⟨rfl,rfl⟩
  go_wp2
  go_ret
  exact⟨rfl,F,H.out,Kept.refl _ _,λk hk=> .inl hk⟩
end
section
variable {w:World}{g:Nat}{S:Caps.Tab}{F:Nat->Prop}
theorem dj.key(h:dj w g S F)(m:Int) :Calls Tryz.prog 148 #[g,m] w
 (sT (.tuple #[.int .u8 (Caps.keyB S m),(Caps.qU S m)]) g (Caps.jW S m) F w):=by
 have hh:=h.has m 2
 have hok:=Caps.MT h.ok m
 by_cases hc:Caps.has S.aU m 2=true
 ·rw[hc]at hh
  obtain⟨o,l,vo,vl,h1,h2,h3,h4,h5,h6,hF⟩:=h.rep
  have c1:=h1.cell 1
  have f1:=h1.frozen 1
  simp at c1
  by_cases hz:S.inp.size=0
  ·have hd:S.inp.data.toList = []:=List.eq_nil_of_length_eq_zero (by rw[Caps.size_data];exact hz)
   have e0:Caps.keyB S m=0:=by simp[Caps.keyB,hd]
   have e1:Caps.qU S m=18:=by simp[Caps.qU,hc,hz]
   have e2:Caps.jW S m=S:=by
    unfold Caps.jW;rw[if_pos hc]
    have:S.inp.extract 1 S.inp.size=S.inp:=Caps.ext _ _ (by simp[hd])
    rw[this]
   rw[e0,e1,e2]
   have H:=hid h
   have HH:=hid hh
   have hs0:S.inp.toList = []:=by rw[Lib.toList_data];exact hd
   clear e0 e1 e2 hc hh h hok hF h6 hd hz
   go_enter Tryz.func148,Tryz.ntmps148
   go_wp2_with fail
   refine HH.out.mono ?_
   rintro e w' ⟨rfl,rfl⟩
   go_wp2
   go_ret2
   exact⟨rfl,F,H.out,Kept.refl _ _,λk hk=> .inl hk⟩
  ·obtain⟨c,t,hd⟩ : ∃c t,S.inp.data.toList=c::t:=by
    cases hh:S.inp.data.toList with
    | nil=>exfalso;apply hz;rw[<-Caps.size_data,hh];rfl
    | cons c t=>exact⟨c,t,rfl⟩
   have e0:Caps.keyB S m=c.toNat:=by simp[Caps.keyB,hd,hc]
   have e1:Caps.qU S m=0:=by simp[Caps.qU,hc,hz]
   have e2:Caps.jW S m = { S with inp:=S.inp.extract 1 S.inp.size }:=by
    unfold Caps.jW;rw[if_pos hc]
   rw[e2]at hok
   rw[e0,e1,e2]
   have H:=hid h
   have HH:=hid hh
   have hs0: (S.inp.toList.isEmpty) =false:=by rw[Lib.toList_data,hd];rfl
   have hlt:0<S.inp.size:=by omega
   have hc0:S.inp[0] =c:=by
    have:S.inp.data.toList[0]'(by rw[Caps.size_data];exact hlt) =c:=by simp[hd]
    show S.inp.data[0] =c
    simpa using this
   have hsz:=h.ok.inp
   clear e0 e1 e2 hc hh h hF h6 hd hz
   go_enter Tryz.func148,Tryz.ntmps148
   go_wp2_with fail
   refine HH.out.mono ?_
   rintro e w' ⟨rfl,rfl⟩
   go_wp2
   go_ret2
   refine⟨rfl,F,H.out.change hok rfl rfl rfl ?_ ?_,?_,λk hk=> .inl hk⟩
   ·refine Kept.setCell (Kept.refl _ _) ?_ _;exact .inl rfl
   ·intro o l hb
    exact hb.bG 1 _
   ·refine Kept.setCell (Kept.refl _ _) ?_ _;exact .inl H.out.gin
 ·have hc':Caps.has S.aU m 2=false:=by simpa using hc
  rw[hc']at hh
  have e0:Caps.keyB S m=0:=by simp[Caps.keyB,hc']
  have e1:Caps.qU S m=11:=by simp[Caps.qU,hc']
  have e2:Caps.jW S m=S:=by simp[Caps.jW,hc']
  rw[e0,e1,e2]
  have H:=hid h
  have HH:=hid hh
  clear e0 e1 e2 hc hc' h hok hh
  go_enter Tryz.func148,Tryz.ntmps148
  go_wp2_with fail
  refine HH.out.mono ?_
  rintro e w' ⟨rfl,rfl⟩
  go_wp2
  go_ret2
  exact⟨rfl,F,H.out,Kept.refl _ _,λk hk=> .inl hk⟩
theorem we : ∀(l:List UInt8),Lib.indexByte l 10=if Caps.nl l l.length<l.length then(Caps.nl l l.length:Int)else -1
 | []=>by simp[Lib.indexByte,Caps.nl]
 | c::l=>by
   have ih:=we l
   have hle:=Caps.HS l l.length
   simp only[Lib.indexByte,Caps.nl,List.length_cons,beq_iff_eq]
   by_cases hc:c=10
   ·simp[hc]
   ·rw[if_neg hc,if_neg hc,ih]
    by_cases h:Caps.nl l l.length<l.length
    ·have h2:Caps.nl l l.length+1<l.length+1:=by omega
     have h3 : ¬((Caps.nl l l.length:Int) = -1):=by omega
     simp only[if_pos h,if_pos h2,if_neg h3]
     omega
    ·have h2 : ¬(Caps.nl l l.length+1<l.length+1):=by omega
     simp only[if_neg h,if_neg h2]
     simp
theorem pL : ∀(l:List UInt8) (n:Nat),Caps.nl (l.take n) (l.take n).length=Caps.nl l n
 | [],n=>by simp[Caps.nl]
 | c::l,0=>by simp[Caps.nl]
 | c::l,n+1=>by
   have ih:=pL l n
   simp only[List.take_succ_cons,List.length_cons,Caps.nl]
   rw[ih]
def qh(S:Caps.Tab)(m n:Int) :Value:= .tuple #[.string (Caps.cN S m n),(Caps.gH S m n)]
theorem dj.accept(h:dj w g S F)(m n:Int) :Calls Tryz.prog 187 #[g,m,(n:Int)] w
 (sT (qh S m n) g (Caps.ew S m n) F w):=by
 have hh:=h.has m 2
 have hok:=Caps.KY h.ok m n
 by_cases hc:Caps.has S.aU m 2=true
 ·rw[hc]at hh
  obtain⟨o,l,vo,vl,h1,h2,h3,h4,h5,h6,hF⟩:=h.rep
  have c1:=h1.cell 1
  have f1:=h1.frozen 1
  simp at c1
  have hsz:=h.ok.inp
  by_cases hn0:n<0
  ·have e1:qh S m n = .tuple #[.string ⟨#[]⟩,(19:Int)]:=by
    have : ¬0<n:=by omega
    simp[qh,Caps.cN,Caps.gH,hc,hn0,this]
   have e2:Caps.ew S m n=S:=by unfold Caps.ew;rw[if_neg (by omega)]
   rw[e1,e2]
   have H:=hid h
   have HH:=hid hh
   clear e1 e2 hc hh h hok hF h6
   go_enter Tryz.func187,Tryz.ntmps187
   go_wp2_with fail
   refine HH.out.mono ?_
   rintro e w' ⟨rfl,rfl⟩
   go_wp2
   go_ret2
   exact⟨rfl,F,H.out,Kept.refl _ _,λk hk=> .inl hk⟩
  by_cases hn1:n=0
  ·subst hn1
   have e1:qh S m 0 = .tuple #[.string ⟨#[]⟩,(0:Int)]:=by simp[qh,Caps.cN,Caps.gH,hc]
   have e2:Caps.ew S m 0=S:=by unfold Caps.ew;rw[if_neg (by omega)]
   rw[e1,e2]
   have H:=hid h
   have HH:=hid hh
   clear e1 e2 hc hh h hok hF h6
   go_enter Tryz.func187,Tryz.ntmps187
   go_wp2_with fail
   refine HH.out.mono ?_
   rintro e w' ⟨rfl,rfl⟩
   go_wp2
   go_ret2
   exact⟨rfl,F,H.out,Kept.refl _ _,λk hk=> .inl hk⟩
  have hnp:0<n:=by omega
  have hn1': (n==0) =false:=by simpa using hn1
  by_cases hz:S.inp.size=0
  ·have hd:S.inp.data.toList = []:=List.eq_nil_of_length_eq_zero (by rw[Caps.size_data];exact hz)
   have e1:qh S m n = .tuple #[.string ⟨#[]⟩,(18:Int)]:=by
    have:S.inp.extract 0 (Caps.cut S.inp n) = ⟨#[]⟩:=Caps.ext _ _ (by simp[hd])
    simp[qh,Caps.cN,Caps.gH,hc,hn0,hnp,hz,hn1,this]
   have e2:Caps.ew S m n=S:=by
    unfold Caps.ew;rw[if_pos ⟨hc,hnp⟩]
    have:S.inp.extract (Caps.taken S.inp n) S.inp.size=S.inp:=Caps.ext _ _ (by simp[hd])
    rw[this]
   rw[e1,e2]
   have H:=hid h
   have HH:=hid hh
   have hs0:S.inp.toList = []:=by rw[Lib.toList_data];exact hd
   clear e1 e2 hc hh h hok hF h6 hd hz
   go_enter Tryz.func187,Tryz.ntmps187
   go_wp2_with fail
   refine HH.out.mono ?_
   rintro e w' ⟨rfl,rfl⟩
   go_wp2
   go_ret2
   exact⟨rfl,F,H.out,Kept.refl _ _,λk hk=> .inl hk⟩
  ·have hs0: (S.inp.toList.isEmpty) =false:=by
    rw[Lib.toList_data]
    cases hd:S.inp.data.toList with
    | nil=>exfalso;apply hz;rw[<-Caps.size_data,hd];rfl
    | cons c t=>rfl
   obtain⟨q,hq⟩ : ∃q:Nat,min n (S.inp.size:Int) =q:=⟨(min n (S.inp.size:Int)).toNat,by omega⟩
   have hqs:q<=S.inp.size:=by omega
   have hix:Lib.indexByte (S.inp.extract 0 q).data.toList 10=if Caps.cut S.inp n<q then(Caps.cut S.inp n:Int)else -1:=by
    have e: (S.inp.extract 0 q).data.toList=S.inp.data.toList.take q:=by simp
    rw[e,we,pL]
    have hcut:Caps.nl S.inp.data.toList q=Caps.cut S.inp n:=by
     unfold Caps.cut
     rw[<-pL S.inp.data.toList n.toNat,<-pL S.inp.data.toList q]
     have:S.inp.data.toList.take q=S.inp.data.toList.take n.toNat:=by
      rcases Nat.le_total n.toNat S.inp.size with h|h
      ·rw[show q=n.toNat by omega]
      ·rw[show q=S.inp.size by omega,List.take_of_length_le (by rw[Caps.size_data];omega),List.take_of_length_le (by rw[Caps.size_data];omega)]
     rw[this]
    rw[hcut]
    have: (S.inp.data.toList.take q).length=q:=by rw[List.length_take,Caps.size_data];omega
    rw[this]
   have e1:qh S m n = .tuple #[.string (S.inp.extract 0 (Caps.cut S.inp n)),(0:Int)]:=by
    simp[qh,Caps.cN,Caps.gH,hc,hn0,hnp,hz,hn1]
   have e2:Caps.ew S m n = { S with inp:=S.inp.extract (Caps.taken S.inp n) S.inp.size }:=by
    unfold Caps.ew;rw[if_pos ⟨hc,hnp⟩]
   rw[e2]at hok
   rw[e1,e2]
   have H:=hid h
   have HH:=hid hh
   have hcl:=Caps.vc S.inp n
   by_cases hk:Caps.cut S.inp n<q
   ·rw[if_pos hk]at hix
    have h0:Caps.cut S.inp n<min n.toNat S.inp.size:=by omega
    have et:Caps.taken S.inp n=Caps.cut S.inp n+1:=by unfold Caps.taken;rw[if_pos h0]
    clear h0
    rw[et]at hok⊢
    have HIX:=hid hix
    clear e1 e2 hcl et
    generalize Caps.cut S.inp n=k at *
    have hxx: (S.inp.extract 0 q).extract 0 k=S.inp.extract 0 k:=Caps.ext _ _ (by rw[Lib.extract_data,Lib.extract_data,Lib.extract_data];simp only[List.drop_zero,Nat.sub_zero,List.take_take];rw[Nat.min_eq_left (Nat.le_of_lt hk)])
    have q1:0<=n:=by omega
    have q2:k+1<=S.inp.size:=by omega
    have q3:k<=(S.inp.extract 0 q).size:=by simp;omega
    clear hc hh h hF h6 hix hn0 hn1 hz
    go_enter Tryz.func187,Tryz.ntmps187
    go_wp2_with fail
    refine HH.out.mono ?_
    rintro e w' ⟨rfl,rfl⟩
    go_wp2_with fail
    refine(Tryz.strings_IndexByte _ 10 _).mono ?_
    rintro e w' ⟨rfl,rfl⟩
    rw[show(10:Int).toNat.toUInt8=10 from rfl,HIX.out]
    go_wp2
    go_ret2
    refine⟨rfl,F,H.out.change hok rfl rfl rfl ?_ ?_,?_,λk hk=> .inl hk⟩
    ·refine Kept.setCell (Kept.refl _ _) ?_ _;exact .inl rfl
    ·intro o l hb
     exact hb.bG 1 _
    ·refine Kept.setCell (Kept.refl _ _) ?_ _;exact .inl H.out.gin
   ·rw[if_neg hk]at hix
    have h0 : ¬Caps.cut S.inp n<min n.toNat S.inp.size:=by omega
    have et:Caps.taken S.inp n=Caps.cut S.inp n:=by unfold Caps.taken;rw[if_neg h0]
    clear h0
    have ek:Caps.cut S.inp n=q:=by omega
    rw[et,ek]at hok⊢
    have HIX:=hid hix
    have q1:0<=n:=by omega
    clear e1 e2 hc hh h hF h6 hcl hix et ek hn0 hn1 hz hk
    go_enter Tryz.func187,Tryz.ntmps187
    go_wp2_with fail
    refine HH.out.mono ?_
    rintro e w' ⟨rfl,rfl⟩
    go_wp2_with fail
    refine(Tryz.strings_IndexByte _ 10 _).mono ?_
    rintro e w' ⟨rfl,rfl⟩
    rw[show(10:Int).toNat.toUInt8=10 from rfl,HIX.out]
    go_wp2
    go_ret2
    refine⟨rfl,F,H.out.change hok rfl rfl rfl ?_ ?_,?_,λk hk=> .inl hk⟩
    ·refine Kept.setCell (Kept.refl _ _) ?_ _;exact .inl rfl
    ·intro o l hb
     exact hb.bG 1 _
    ·refine Kept.setCell (Kept.refl _ _) ?_ _;exact .inl H.out.gin
 ·have hc':Caps.has S.aU m 2=false:=by simpa using hc
  rw[hc']at hh
  have e1:qh S m n = .tuple #[.string ⟨#[]⟩,(11:Int)]:=by simp[qh,Caps.cN,Caps.gH,hc']
  have e2:Caps.ew S m n=S:=by simp[Caps.ew,hc']
  rw[e1,e2]
  have H:=hid h
  have HH:=hid hh
  clear e1 e2 hc hc' h hok hh
  go_enter Tryz.func187,Tryz.ntmps187
  go_wp2_with fail
  refine HH.out.mono ?_
  rintro e w' ⟨rfl,rfl⟩
  go_wp2
  go_ret2
  exact⟨rfl,F,H.out,Kept.refl _ _,λk hk=> .inl hk⟩
end
def LU(S:Caps.Tab) :Array Value:= #[.int .i64 S.aU,.int .i64 S.room,.string S.inp,.string S.out,.string S.log,.int .i64 S.points,.bool S.said]
structure nA(w:World)(g:Nat)(S:Caps.Tab) :Prop where
 ok:S.Ok
 blk:Blk w g 170 (LU S)
theorem nA.kept{w w':World}{g:Nat}{S:Caps.Tab}{T:Nat->Prop}(h:nA w g S)(hk:Kept T w w')(hT : ¬T g) :nA w' g S:=⟨h.ok,h.blk.kept hk hT⟩
theorem nA.lt{w:World}{g:Nat}{S:Caps.Tab}(h:nA w g S) :g<w.heap.size:=h.blk.lt
def KC(v:Value)(g:Nat)(S':Caps.Tab)(w:World)(e:Ending)(w':World) :Prop:=
 e = .returned v∧nA w' g S'∧Kept (λk=>k=g) w w'
theorem nA.cells{w:World}{g:Nat}{S:Caps.Tab}(h:nA w g S) :
 w.cell? (g,0) =some (S.aU:Vl)∧w.cell? (g,1) =some (S.room:Vl)∧w.cell? (g,2) =some (.string S.inp)∧w.cell? (g,3) =some (.string S.out)∧
  w.cell? (g,4) =some (.string S.log)∧w.cell? (g,5) =some (S.points:Vl)∧w.cell? (g,6) =some (.bool S.said):=
 ⟨h.blk.cell 0,h.blk.cell 1,h.blk.cell 2,h.blk.cell 3,h.blk.cell 4,h.blk.cell 5,h.blk.cell 6⟩
theorem nA.frozen{w:World}{g:Nat}{S:Caps.Tab}(h:nA w g S)(i:Nat) :w.frozen? (g,i) =false:=h.blk.frozen i
def ic(p r:Int)(s:ByteArray)(w:World)(e:Ending)(w':World) :Prop:=
 if Caps.cC p r s=0 then e = .returned (.tuple #[w.heap.size,(0:Int)])∧nA w' w.heap.size (Caps.made p r s)∧Kept Nob w w'
 else e = .returned (.tuple #[.pointer none,(Caps.cC p r s)])∧w'=w
theorem Ko(p r:Int)(s:ByteArray)(w:World) :Calls Tryz.prog 47 #[p,r,.string s] w (ic p r s w):=by
 by_cases hbad:p<0∨31<p∨r<0∨65536<r
 ·have e1:Caps.cC p r s=1:=by unfold Caps.cC;rw[if_pos hbad]
  have fin:ic p r s w (.returned (.tuple #[.pointer none,(1:Int)])) w:=by
   unfold ic;rw[e1];simp
  have Fin:=hid fin
  clear fin
  clear e1
  go_enter Tryz.func47,Tryz.ntmps47
  go_wp2
  all_goals first| (go_ret2;exact Fin.out) | (exfalso;omega)
 ·by_cases hl:4096<s.size
  ·have e1:Caps.cC p r s=2:=by unfold Caps.cC;rw[if_neg hbad,if_pos hl]
   have fin:ic p r s w (.returned (.tuple #[.pointer none,(2:Int)])) w:=by
    unfold ic;rw[e1];simp
   have Fin:=hid fin
   clear fin e1
   have q1:0<=p:=by omega
   have q2:p<=31:=by omega
   have q3:0<=r:=by omega
   have q4:r<=65536:=by omega
   clear hbad
   go_enter Tryz.func47,Tryz.ntmps47
   go_wp2
   all_goals first| (go_ret2;exact Fin.out) | (exfalso;omega)
  ·have e1:Caps.cC p r s=0:=by unfold Caps.cC;rw[if_neg hbad,if_neg hl]
   have hok:=Caps.BE e1
   have E1:=hid e1
   clear e1
   have q1:0<=p:=by omega
   have q2:p<=31:=by omega
   have q3:0<=r:=by omega
   have q4:r<=65536:=by omega
   have q5:s.size<=4096:=by omega
   clear hbad hl
   go_enter Tryz.func47,Tryz.ntmps47
   go_wp2
   go_ret2
   unfold ic
   rw[if_pos E1.out]
   exact⟨rfl,⟨hok,Blk.nN rfl⟩,(Kept.refl _ w).alloc _⟩
section
variable {w:World}{g:Nat}{S:Caps.Tab}
end
section
variable {w:World}{g:Nat}{S:Caps.Tab}
theorem sJ(s:ByteArray)(h:0<s.size) :s.toList.isEmpty=false:=by
 rw[Lib.toList_data]
 cases hd:s.data.toList with
 | nil=>exfalso;rw[<-Caps.size_data,hd]at h;simp at h
 | cons c t=>rfl
end
def de(g:Nat)(S:Caps.Tab) :Asr where
 holds w F:=dj w g S F
 lt h hk:=h.lt hk
 kept h hk hT:=h.kept hk hT
def sD(g:Nat)(S:Caps.Tab) :Asr where
 holds w F:=nA w g S∧∀k,F k↔k=g
 lt h hk:=by have:=(h.2 _).1 hk;subst this;exact h.1.lt
 kept h hk hT:=⟨h.1.kept hk (hT _ ((h.2 _).2 rfl)),h.2⟩
section
variable {w0 w:World}{g:Nat}{S:Caps.Tab}{L:List Asr}
theorem sT.uU{v:Value}{S':Caps.Tab}{F:Nat->Prop}{e:Ending}{w':World}(h:sT v g S' F w e w') :pD (λu B=>u=v∧B=de g S') F w e w':=by
 obtain⟨he,F',hr,hk,hF⟩:=h
 exact⟨v,de g S',F',⟨rfl,rfl⟩,he,hr,hk,hF⟩
theorem KC.uU{v:Value}{S':Caps.Tab}{F:Nat->Prop}(hF : ∀k,F k↔k=g){e:Ending}{w':World}(h:KC v g S' w e w') :pD (λu B=>u=v∧B=sD g S') F w e w':=by
 obtain⟨he,hr,hk⟩:=h
 exact⟨v,sD g S',F,⟨rfl,rfl⟩,he,⟨hr,hF⟩,hk.mono (λk hk=>(hF k).2 hk),λk hk=> .inl hk⟩
theorem de.NN(h:At w0 w (de g S::L)) : ∃F,dj w g S F:=h.first
theorem Np(h:At w0 w (de g S::L))(m:Int)(s:ByteArray)(hs:s.size<=maxLen) :Calls Tryz.prog 186 #[.pointer (some ⟨g,0,none⟩),m,.string s] w (kj (.int .i64 (Caps.nO S m s)) (de g (Caps.mn S m s)) w0 L):=
 h.ux λ_ hF=>(dj.typ hF m s hs).mono λ_ _ h=>h.uU
theorem NS(h:At w0 w (de g S::L))(m:Int) :Calls Tryz.prog 148 #[.pointer (some ⟨g,0,none⟩),m] w (kj (.tuple #[.int .u8 (Caps.keyB S m),(Caps.qU S m)]) (de g (Caps.jW S m)) w0 L):=
 h.ux λ_ hF=>(dj.key hF m).mono λ_ _ h=>h.uU
theorem G0(h:At w0 w (de g S::L))(m n:Int) :Calls Tryz.prog 187 #[.pointer (some ⟨g,0,none⟩),m,n] w (kj (.tuple #[.string (Caps.cN S m n),(Caps.gH S m n)]) (de g (Caps.ew S m n)) w0 L):=
 h.ux λ_ hF=>(dj.accept hF m n).mono λ_ _ h=>h.uU
theorem NK(h:At w0 w L)(p r:Int)(s:ByteArray)(h0:Caps.cC p r s=0) :Calls Tryz.prog 18 #[p,r,.string s] w
 (λe w'=> ∃g,e = .returned (.tuple #[.pointer (some ⟨g,0,none⟩),(0:Int)])∧At w0 w' (de g (Caps.made p r s) ::L)):=by
 refine(HM p r s w).mono ?_
 intro e w' hp
 unfold jk at hp
 rw[if_pos h0]at hp
 obtain⟨g,F,he,hr,hk,hF⟩:=hp
 exact⟨g,he,h.add (A:=de g (Caps.made p r s)) hr hk hF⟩
theorem KV(h:At w0 w L)(p r:Int)(s:ByteArray)(h0:Caps.cC p r s=0) :Calls Tryz.prog 47 #[p,r,.string s] w
 (λe w'=> ∃g,e = .returned (.tuple #[.pointer (some ⟨g,0,none⟩),(0:Int)])∧At w0 w' (sD g (Caps.made p r s) ::L)):=by
 refine(Ko p r s w).mono ?_
 intro e w' hp
 unfold ic at hp
 rw[if_pos h0]at hp
 obtain⟨he,hr,hk⟩:=hp
 exact⟨_,he,h.add (A:=sD _ (Caps.made p r s)) (F':=λk=>k=w.heap.size) ⟨hr,λ_=>Iff.rfl⟩ hk (λk hk=>Nat.le_of_eq hk.symm)⟩
end
end Go.Proofs.YtjohhkikoejadaaGreatDoor
