/- The program's package caps: what each of its functions does to a table that lies in memory. Conditions: the table's numbers are in their bounds (Tab.Ok). -/
import Derived.Test.YteaijdgnagkllaaGreatDoorZd03
import Derived.Test.YteaijdgnagkllaaGreatDoorZShelf
open Go.Proofs.Tryz
namespace Go.Proofs.YteaijdgnagkllaaGreatDoor
set_option linter.unusedVariables false
set_option linter.unusedSimpArgs false
set_option maxHeartbeats 8000000
open Go.RowKit Go.Lib
theorem Tryz.infoU8: (prog.info? 5).map (λi=>(i.zero,i.size,i.bytes))=some (some (.int .u8 0),1,1):=by kernel_rfl
structure CRep(w:World)(g:Nat)(S:Caps.Tab)(F:Nat->Prop):Prop where
 ok:S.Ok
 rep: ∃o l vo vl,Blk w g 122 #[S.pupil,.string S.inp,.iface 139 (.pointer (some ⟨o,0,none⟩)),.iface 142 (.pointer (some ⟨l,0,none⟩)),S.points,.bool S.said]∧
  Blk w o 141 #[vo,S.room]∧Blk w l 144 #[vl,S.room]∧
  Buf w 5 vo S.out.data.toList∧Buf w 5 vl S.log.data.toList∧(∀k,vo.ownBlock=some k->vl.ownBlock=some k->False)∧
  (∀k,F k↔(k=g∨k=o∨k=l∨vo.ownBlock=some k∨vl.ownBlock=some k))
theorem CRep.lt{w:World}{g:Nat}{S:Caps.Tab}{F:Nat->Prop}(h:CRep w g S F){k:Nat}(hk:F k):k<w.heap.size:=by
 obtain⟨o,l,vo,vl,h1,h2,h3,h4,h5,_,hF⟩:=h.rep
 rcases(hF k).1 hk with rfl|rfl|rfl|h|h
 ·exact h1.lt
 ·exact h2.lt
 ·exact h3.lt
 ·exact h4.lt h
 ·exact h5.lt h
theorem CRep.kept{w w':World}{g:Nat}{S:Caps.Tab}{F T:Nat->Prop}(h:CRep w g S F)(hk:Kept T w w')(hT: ∀k,F k->¬T k):CRep w' g S F:=by
 obtain⟨o,l,vo,vl,h1,h2,h3,h4,h5,h6,hF⟩:=h.rep
 exact⟨h.ok,o,l,vo,vl,h1.kept hk (hT _ ((hF _).2 (.inl rfl))),h2.kept hk (hT _ ((hF _).2 (.inr (.inl rfl)))),h3.kept hk (hT _ ((hF _).2 (.inr (.inr (.inl rfl))))),
  h4.kept hk (λk hv=>hT _ ((hF _).2 (.inr (.inr (.inr (.inl hv)))))),h5.kept hk (λk hv=>hT _ ((hF _).2 (.inr (.inr (.inr (.inr hv)))))),h6,hF⟩
theorem CRep.drewN{w:World}{g:Nat}{S:Caps.Tab}{F:Nat->Prop}(h:CRep w g S F)(n:Nat):CRep (w.drewN n) g S F:=
 h.kept (T:=Nob) ((Kept.refl _ w).drewN n) (λ_ _ h=>h)
def CPost(v:Value)(g:Nat)(S':Caps.Tab)(F:Nat->Prop)(w:World)(e:Ending)(w':World):Prop:=
 e = .returned v∧∃F',CRep w' g S' F'∧Kept F w w'∧∀k,F' k->F k∨w.heap.size<=k
theorem and_bit(p c:Int)(h:0<=p∧p<=31)(hc:c=1∨c=2∨c=4∨c=8∨c=16): (bits .and .i64 p c != 0)= (p/c % 2==1):=by
 obtain⟨n,rfl⟩:=Int.eq_ofNat_of_zero_le h.1
 have hn:n<32:=by omega
 have key: ∀k:Fin 32,(bits .and .i64 (k.val:Int) 1 != 0)= ((k.val:Int) /1 % 2==1)∧(bits .and .i64 (k.val:Int) 2 != 0)= ((k.val:Int) /2 % 2==1)∧
  (bits .and .i64 (k.val:Int) 4 != 0)= ((k.val:Int) /4 % 2==1)∧(bits .and .i64 (k.val:Int) 8 != 0)= ((k.val:Int) /8 % 2==1)∧(bits .and .i64 (k.val:Int) 16 != 0)= ((k.val:Int) /16 % 2==1):=by decide +kernel
 have:=key ⟨n,hn⟩
 rcases hc with rfl|rfl|rfl|rfl|rfl
 ·exact this.1
 ·exact this.2.1
 ·exact this.2.2.1
 ·exact this.2.2.2.1
 ·exact this.2.2.2.2
theorem has_no(g:Nat)(p m c:Int)(w:World)(hc: ¬(c=1∨c=2∨c=4∨c=8∨c=16)):
 Calls prog 185 #[g,m,c] w (Same (.bool (Caps.has p m c)) w):=by
 have e:Caps.has p m c=false:=by simp[Caps.has,Caps.isCap];omega
 rw[e]
 have a1: (c==1)=false:=by simp;omega
 have a2: (c==2)=false:=by simp;omega
 have a4: (c==4)=false:=by simp;omega
 have a8: (c==8)=false:=by simp;omega
 have a16: (c==16)=false:=by simp;omega
 go_enter func185,ntmps185
 go_wp2
 go_ret
 exact⟨rfl,rfl⟩
theorem has_yes(g:Nat)(p m c:Int)(w:World)(hc:c=1∨c=2∨c=4∨c=8∨c=16)(hp:0<=p∧p<=31)(hw:w.cell? (g,0)=some (p:Vl)):
 Calls prog 185 #[g,m,c] w (Same (.bool (Caps.has p m c)) w):=by
 have hb:=and_bit p c hp hc
 by_cases m1:m=1
 ·subst m1
  have e:Caps.has p 1 c= (bits .and .i64 p c != 0):=by rw[hb];simp[Caps.has,Caps.isCap];omega
  rw[e]
  clear e hb
  rcases hc with rfl|rfl|rfl|rfl|rfl
  all_goals
   go_enter func185,ntmps185
   go_wp2
   go_ret
   exact⟨rfl,rfl⟩
 ·have e:Caps.has p m c= (m==0||m==2):=by
   have: (m==1)=false:=by simpa using m1
   simp[Caps.has,Caps.isCap,this];omega
  rw[e]
  clear e hb
  have m1': (m==1)=false:=by simpa using m1
  by_cases m0:m=0
  ·subst m0
   rcases hc with rfl|rfl|rfl|rfl|rfl
   all_goals
    go_enter func185,ntmps185
    go_wp2
    go_ret
    exact⟨rfl,rfl⟩
  ·have m0': (m==0)=false:=by simpa using m0
   by_cases m2:m=2
   ·subst m2
    rcases hc with rfl|rfl|rfl|rfl|rfl
    all_goals
     go_enter func185,ntmps185
     go_wp2
     go_ret
     exact⟨rfl,rfl⟩
   ·have m2': (m==2)=false:=by simpa using m2
    rcases hc with rfl|rfl|rfl|rfl|rfl
    all_goals
     go_enter func185,ntmps185
     go_wp2
     go_ret
     exact⟨by rw[m0',m2'];rfl,rfl⟩
theorem CRep.has{w:World}{g:Nat}{S:Caps.Tab}{F:Nat->Prop}(h:CRep w g S F)(m c:Int):
 Calls prog 185 #[g,m,c] w (Same (.bool (Caps.has S.pupil m c)) w):=by
 by_cases hc:c=1∨c=2∨c=4∨c=8∨c=16
 ·obtain⟨o,l,vo,vl,h1,_⟩:=h.rep
  exact has_yes g S.pupil m c w hc ⟨h.ok.p0,h.ok.p1⟩ (by simpa using h1.cell 0)
 ·exact has_no g S.pupil m c w hc
def NewPost(p r:Int)(s:ByteArray)(w:World)(e:Ending)(w':World):Prop:=
 if Caps.newErr p r s=0 then∃g F,e = .returned (.tuple #[.pointer (some ⟨g,0,none⟩),(0:Int)])∧CRep w' g (Caps.made p r s) F∧Kept Nob w w'∧∀k,F k->w.heap.size<=k
 else e = .returned (.tuple #[.pointer none,(Caps.newErr p r s)])∧w'=w
theorem caps_new(p r:Int)(s:ByteArray)(w:World):Calls prog 27 #[p,r,.string s] w (NewPost p r s w):=by
 by_cases hbad:p<0∨31<p∨r<0∨65536<r
 ·have e1:Caps.newErr p r s=1:=by unfold Caps.newErr;rw[if_pos hbad]
  have fin:NewPost p r s w (.returned (.tuple #[.pointer none,(1:Int)])) w:=by
   unfold NewPost;rw[e1];simp
  have Fin:=hid fin
  clear fin
  clear e1
  go_enter func27,ntmps27
  go_wp2
  all_goals first| (go_ret2;exact Fin.out) | (exfalso;omega)
 ·by_cases hl:4096<s.size
  ·have e1:Caps.newErr p r s=2:=by unfold Caps.newErr;rw[if_neg hbad,if_pos hl]
   have fin:NewPost p r s w (.returned (.tuple #[.pointer none,(2:Int)])) w:=by
    unfold NewPost;rw[e1];simp
   have Fin:=hid fin
   clear fin e1
   have q1:0<=p:=by omega
   have q2:p<=31:=by omega
   have q3:0<=r:=by omega
   have q4:r<=65536:=by omega
   clear hbad
   go_enter func27,ntmps27
   go_wp2
   all_goals first| (go_ret2;exact Fin.out) | (exfalso;omega)
  ·have e1:Caps.newErr p r s=0:=by unfold Caps.newErr;rw[if_neg hbad,if_neg hl]
   have hok:=Caps.made_ok e1
   have E1:=hid e1
   clear e1
   have q1:0<=p:=by omega
   have q2:p<=31:=by omega
   have q3:0<=r:=by omega
   have q4:r<=65536:=by omega
   have q5:s.size<=4096:=by omega
   clear hbad hl
   go_enter func27,ntmps27
   go_wp2
   go_ret2
   unfold NewPost
   rw[if_pos E1.out]
   refine⟨_,λk=>k=w.heap.size+1+1∨k=w.heap.size∨k=w.heap.size+1,rfl,⟨hok,w.heap.size,w.heap.size+1,.slice none 0 0,.slice none 0 0,?_,?_,?_,?_,?_,?_,?_⟩,?_,?_⟩
   ·exact Blk.new' (by simp)
   ·exact(((Blk.new w _ _).alloc _).alloc _)
   ·exact((Blk.new' (by simp)).alloc _)
   ·exact Buf.nil _ _
   ·exact Buf.nil _ _
   ·intro k hk;cases hk
   ·intro k;simp[Value.ownBlock]
   ·exact(((Kept.refl _ w).alloc _).alloc _).alloc _
   ·intro k hk;omega
set_option maxRecDepth 100000
def PutPost(b tb:Nat)(v:Value)(room:Int)(bs:List UInt8)(s:ByteArray)(n m:Nat)(w:World)(e:Ending)(w':World):Prop:=
 ∃v',e = .returned (.int .i64 m)∧Blk w' b tb #[v',.int .i64 room]∧Buf w' 5 v' (bs++s.data.toList.take n)∧
  Kept (λk=>k=b∨v.ownBlock=some k) w w'∧(∀k,v'.ownBlock=some k->v.ownBlock=some k∨w.heap.size<=k)
theorem put_any(b tb:Nat)(v:Value)(room:Int)(bs:List UInt8)(s:ByteArray)(w:World)(hb:Blk w b tb #[v,.int .i64 room])(hv:Buf w 5 v bs)(htb:5≠tb)
 (hr: (bs.length:Int)<=room∧room<=65536):
 Calls prog 328 #[.pointer (some ⟨b,0,none⟩),.string s] w (PutPost b tb v room bs s (min s.size (room.toNat-bs.length)) (min s.size (room.toNat-bs.length)) w):=by
 obtain⟨i0,hi,hz0,hz1,hz2⟩:=info_parts Tryz.infoU8
 obtain⟨A,cap,rfl,hcap⟩:=hv.form'
 obtain⟨n,hrn⟩: ∃n:Nat,room- (bs.length:Int)=n:=⟨(room-bs.length).toNat,by omega⟩
 have c0:=hb.cell 0
 have c1:=hb.cell 1
 have f0:=hb.frozen 0
 simp at c0 c1
 have e0:min s.size (room.toNat-bs.length)=min s.size n:=by congr 1;omega
 rw[e0]
 clear e0
 by_cases hn:n<s.size
 ·rw[Nat.min_eq_right (by omega)]
  have hle:n<=s.size:=by omega
  have hmin:min (s.size:Int) (n:Int)=n:=by omega
  have hex: (s.extract 0 n).data.toList=s.data.toList.take n:=by simp
  have hln: (bs++s.data.toList.take n).length=bs.length+n:=by simp;omega
  have Hex:=hid hex
  have Hln:=hid hln
  have hsz:bs.length+ (s.extract 0 n).size<=140737488355328:=by simp;omega
  clear hex hln
  go_enter func328,ntmps328
  go_wp2
  go_quiet (fail)
  go_wp2
  go_region_law ((refine step_append_buf rfl (.tmp 23) (.tmp 26) 43 9 rfl 5 i0 underlying43 underlying9 hi hz0 hz1 hz2 _ bs rfl hv _ rfl hsz ?_;rw[Hex.out];intro v' w1 hb1 hg hat;obtain⟨A1,cap1,rfl,_⟩:=hb1.form';rw[Hln.out]at hb1 hat⊢;have B1:=Blk.grown (hb.drewN (nq+1)) hg (λe=>hv.ne_blk hb htb e.symm);have c0':=B1.cell 0;have f0':=B1.frozen 0;simp at c0'))
  go_wp2
  go_ret
  refine⟨_,rfl,B1.set_ 0 _,hb1.setCell (hb1.ne_blk B1 htb) _,?_,?_⟩
  ·exact(((Kept.refl _ w).drewN (nq+1)).grown hg (λk hk=> .inl (.inr hk))).setCell (.inl (.inl rfl)) _
  ·intro k hk
   rcases hat with h|h
   ·exact .inl (h.symm.trans hk)
   ·exact .inr (Nat.le_of_eq (Option.some.inj (h.symm.trans hk)))
 ·rw[Nat.min_eq_left (by omega)]
  have hmin:min (s.size:Int) (n:Int)=s.size:=by omega
  have hex:s.data.toList=s.data.toList.take s.size:=by rw[List.take_of_length_le (by simp)]
  have hln: (bs++s.data.toList.take s.size).length=bs.length+s.size:=by simp
  have Hex:=hid hex
  have Hln:=hid hln
  have hsz:bs.length+s.size<=140737488355328:=by omega
  clear hex hln
  go_enter func328,ntmps328
  go_wp2
  go_quiet (fail)
  go_wp2
  go_region_law ((refine step_append_buf rfl (.tmp 23) (.tmp 26) 43 9 rfl 5 i0 underlying43 underlying9 hi hz0 hz1 hz2 _ bs rfl hv _ rfl hsz ?_;rw[Hex.out];intro v' w1 hb1 hg hat;obtain⟨A1,cap1,rfl,_⟩:=hb1.form';rw[Hln.out]at hb1 hat⊢;have B1:=Blk.grown (hb.drewN (nq+1)) hg (λe=>hv.ne_blk hb htb e.symm);have c0':=B1.cell 0;have f0':=B1.frozen 0;simp at c0'))
  go_wp2
  go_ret
  refine⟨_,rfl,B1.set_ 0 _,hb1.setCell (hb1.ne_blk B1 htb) _,?_,?_⟩
  ·exact(((Kept.refl _ w).drewN (nq+1)).grown hg (λk hk=> .inl (.inr hk))).setCell (.inl (.inl rfl)) _
  ·intro k hk
   rcases hat with h|h
   ·exact .inl (h.symm.trans hk)
   ·exact .inr (Nat.le_of_eq (Option.some.inj (h.symm.trans hk)))
theorem PutPost.lossy{b tb:Nat}{v:Value}{room:Int}{bs:List UInt8}{s:ByteArray}{n m m':Nat}{w w':World}{e:Ending}(h:PutPost b tb v room bs s n m w e w'):
 PutPost b tb v room bs s n m' w (.returned (.int .i64 m')) w':=by
 obtain⟨v',_,h2⟩:=h
 exact⟨v',rfl,h2⟩
theorem lossy_put(b tb:Nat)(v:Value)(room:Int)(bs:List UInt8)(s:ByteArray)(w:World)(hb:Blk w b tb #[v,.int .i64 room])(hv:Buf w 5 v bs)(htb:5≠tb)
 (hr: (bs.length:Int)<=room∧room<=65536) (hs:s.size<=maxLen):
 Calls prog 330 #[.pointer (some ⟨b,0,none⟩),.string s] w (PutPost b tb v room bs s (min s.size (room.toNat-bs.length)) s.size w):=by
 have hs':=hs
 unfold maxLen at hs'
 go_enter func330,ntmps330
 go_wp2_with fail
 refine(put_any b tb v room bs s w hb hv htb hr).mono ?_
 rintro e w' hp
 have he: ∃n,e = .returned n:=by obtain⟨_,h,_⟩:=hp;exact⟨_,h⟩
 obtain⟨n,rfl⟩:=he
 have hp':PutPost b tb v room bs s (min s.size (room.toNat-bs.length)) s.size w _ w':=hp.lossy
 have Hp:=hid hp'
 clear hp'
 clear hp
 go_wp2
 go_ret
 exact Hp.out
theorem text_any(b tb:Nat)(v:Value)(room:Int)(bs:List UInt8)(w:World)(hb:Blk w b tb #[v,.int .i64 room])(hv:Buf w 5 v bs):
 Calls prog 329 #[.pointer (some ⟨b,0,none⟩)] w (Same (.string ⟨bs.toArray⟩) w):=by
 obtain⟨A,cap,rfl,hcap⟩:=hv.form'
 have c0:=hb.cell 0
 simp at c0
 have hc:=hv.to_string (P:=prog) 43 9 underlying43 underlying5 underlying9
 go_enter func329,ntmps329
 go_wp2
 go_ret
 exact⟨rfl,rfl⟩
theorem meth_bput(a:Addr)(w:World): (method 529 139 (.pointer (some a)) "proctor/caps.put").run prog w = .ok (328,.pointer (some a)) w:=by kernel_rfl
theorem meth_lput(a:Addr)(w:World): (method 529 142 (.pointer (some a)) "proctor/caps.put").run prog w = .ok (330,.pointer (some a)) w:=by kernel_rfl
theorem meth_btext(a:Addr)(w:World): (method 529 139 (.pointer (some a)) "proctor/caps.text").run prog w = .ok (329,.pointer (some a)) w:=by kernel_rfl
theorem mk_toList(s:ByteArray): (⟨s.data.toList.toArray⟩:ByteArray)=s:=by cases s;rfl
section
variable {w:World}{g:Nat}{S:Caps.Tab}{F:Nat->Prop}
theorem CRep.output(h:CRep w g S F):Calls prog 23 #[g] w (Same (.string S.out) w):=by
 obtain⟨o,l,vo,vl,h1,h2,h3,h4,h5,h6,hF⟩:=h.rep
 have c2:=h1.cell 2
 simp at c2
 have hm:=meth_btext ⟨o,0,none⟩
 go_enter func23,ntmps23
 go_wp2_with fail
 refine(text_any o 141 vo S.room S.out.data.toList w h2 h4).mono ?_
 rintro e w' ⟨rfl,rfl⟩
 rw[mk_toList]
 go_wp2
 go_ret
 exact⟨rfl,rfl⟩
theorem CRep.change(h:CRep w g S F){w':World}{S':Caps.Tab}(hok:S'.Ok)(hp:S'.room=S.room)(ho:S'.out=S.out)(hl:S'.log=S.log)
 (hk:Kept (λk=>k=g) w w') (hb: ∀o l:Nat,Blk w g 122 #[S.pupil,.string S.inp,.iface 139 (.pointer o),.iface 142 (.pointer l),S.points,.bool S.said]->
  Blk w' g 122 #[S'.pupil,.string S'.inp,.iface 139 (.pointer o),.iface 142 (.pointer l),S'.points,.bool S'.said]):CRep w' g S' F:=by
 obtain⟨o,l,vo,vl,h1,h2,h3,h4,h5,h6,hF⟩:=h.rep
 refine⟨hok,o,l,vo,vl,hb o l h1,?_,?_,?_,?_,h6,hF⟩
 ·rw[hp];exact h2.kept hk (Blk.ne_ h2 h1 (by decide))
 ·rw[hp];exact h3.kept hk (Blk.ne_ h3 h1 (by decide))
 ·rw[ho];exact h4.kept hk (λk hv e=>h4.ne_blk h1 (by decide) (by rw[hv,e]))
 ·rw[hl];exact h5.kept hk (λk hv e=>h5.ne_blk h1 (by decide) (by rw[hv,e]))
theorem CRep.gin(h:CRep w g S F):F g:=by
 obtain⟨o,l,vo,vl,h1,h2,h3,h4,h5,h6,hF⟩:=h.rep
 exact(hF g).2 (.inl rfl)
end
section
variable {w:World}{g:Nat}{S:Caps.Tab}{F:Nat->Prop}
theorem fit_list(r:Int)(was s:ByteArray): (Caps.behind r was s).data.toList=was.data.toList++s.data.toList.take (Caps.fit r was s):=by
 unfold Caps.behind
 simp
theorem put_out(s:ByteArray){w':World}{o l m:Nat}{vo vl:Value}{e:Ending}
 (h1:Blk w g 122 #[.int .i64 S.pupil,.string S.inp,.iface 139 (.pointer (some ⟨o,0,none⟩)),.iface 142 (.pointer (some ⟨l,0,none⟩)),.int .i64 S.points,.bool S.said])
 (h2:Blk w o 141 #[vo,.int .i64 S.room]) (h3:Blk w l 144 #[vl,.int .i64 S.room]) (h4:Buf w 5 vo S.out.data.toList) (h5:Buf w 5 vl S.log.data.toList)
 (h6: ∀k,vo.ownBlock=some k->vl.ownBlock=some k->False) (hF: ∀k,F k↔(k=g∨k=o∨k=l∨vo.ownBlock=some k∨vl.ownBlock=some k))
 (hok: ({ S with out:=Caps.behind S.room S.out s }:Caps.Tab).Ok)
 (hp:PutPost o 141 vo S.room S.out.data.toList s (Caps.fit S.room S.out s) m w e w'):
 e = .returned (.int .i64 m)∧∃F',CRep w' g { S with out:=Caps.behind S.room S.out s } F'∧Kept F w w'∧∀k,F' k->F k∨w.heap.size<=k:=by
 obtain⟨v',he,b2,b4,hk,hv⟩:=hp
 have hgo:g≠o:=Blk.ne_ h1 h2 (by decide)
 have hlo:l≠o:=Blk.ne_ h3 h2 (by decide)
 refine⟨he,λk=>k=g∨k=o∨k=l∨v'.ownBlock=some k∨vl.ownBlock=some k,⟨hok,o,l,v',vl,?_,b2,?_,by rw[fit_list];exact b4,?_,?_,λk=>Iff.rfl⟩,?_,?_⟩
 ·exact h1.kept hk (by rintro(e|e);exact hgo e;exact h4.ne_blk h1 (by decide) e)
 ·exact h3.kept hk (by rintro(e|e);exact hlo e;exact h4.ne_blk h3 (by decide) e)
 ·exact h5.kept hk (by intro k hv;rintro(e|e);exact h5.ne_blk h2 (by decide) (by rw[hv,e]);exact h6 k e hv)
 ·intro k a b
  rcases hv k a with c|c
  ·exact h6 k c b
  ·have:=h5.lt b;omega
 ·exact hk.mono (by intro k;rintro(e|e);exact(hF k).2 (.inr (.inl e));exact(hF k).2 (.inr (.inr (.inr (.inl e)))))
 ·intro k hk'
  rcases hk' with e|e|e|e|e
  ·exact .inl ((hF k).2 (.inl e))
  ·exact .inl ((hF k).2 (.inr (.inl e)))
  ·exact .inl ((hF k).2 (.inr (.inr (.inl e))))
  ·rcases hv k e with c|c
   ·exact .inl ((hF k).2 (.inr (.inr (.inr (.inl c)))))
   ·exact .inr c
  ·exact .inl ((hF k).2 (.inr (.inr (.inr (.inr e)))))
theorem put_log(s:ByteArray){w':World}{o l m:Nat}{vo vl:Value}{e:Ending}
 (h1:Blk w g 122 #[.int .i64 S.pupil,.string S.inp,.iface 139 (.pointer (some ⟨o,0,none⟩)),.iface 142 (.pointer (some ⟨l,0,none⟩)),.int .i64 S.points,.bool S.said])
 (h2:Blk w o 141 #[vo,.int .i64 S.room]) (h3:Blk w l 144 #[vl,.int .i64 S.room]) (h4:Buf w 5 vo S.out.data.toList) (h5:Buf w 5 vl S.log.data.toList)
 (h6: ∀k,vo.ownBlock=some k->vl.ownBlock=some k->False) (hF: ∀k,F k↔(k=g∨k=o∨k=l∨vo.ownBlock=some k∨vl.ownBlock=some k))
 (hok: ({ S with log:=Caps.behind S.room S.log s }:Caps.Tab).Ok)
 (hp:PutPost l 144 vl S.room S.log.data.toList s (Caps.fit S.room S.log s) m w e w'):
 e = .returned (.int .i64 m)∧∃F',CRep w' g { S with log:=Caps.behind S.room S.log s } F'∧Kept F w w'∧∀k,F' k->F k∨w.heap.size<=k:=by
 obtain⟨v',he,b3,b5,hk,hv⟩:=hp
 have hgl:g≠l:=Blk.ne_ h1 h3 (by decide)
 have hol:o≠l:=Blk.ne_ h2 h3 (by decide)
 refine⟨he,λk=>k=g∨k=o∨k=l∨vo.ownBlock=some k∨v'.ownBlock=some k,⟨hok,o,l,vo,v',?_,?_,b3,?_,by rw[fit_list];exact b5,?_,λk=>Iff.rfl⟩,?_,?_⟩
 ·exact h1.kept hk (by rintro(e|e);exact hgl e;exact h5.ne_blk h1 (by decide) e)
 ·exact h2.kept hk (by rintro(e|e);exact hol e;exact h5.ne_blk h2 (by decide) e)
 ·exact h4.kept hk (by intro k hv;rintro(e|e);exact h4.ne_blk h3 (by decide) (by rw[hv,e]);exact h6 k hv e)
 ·intro k a b
  rcases hv k b with c|c
  ·exact h6 k a c
  ·have:=h4.lt a;omega
 ·exact hk.mono (by intro k;rintro(e|e);exact(hF k).2 (.inr (.inr (.inl e)));exact(hF k).2 (.inr (.inr (.inr (.inr e)))))
 ·intro k hk'
  rcases hk' with e|e|e|e|e
  ·exact .inl ((hF k).2 (.inl e))
  ·exact .inl ((hF k).2 (.inr (.inl e)))
  ·exact .inl ((hF k).2 (.inr (.inr (.inl e))))
  ·exact .inl ((hF k).2 (.inr (.inr (.inr (.inl e)))))
  ·rcases hv k e with c|c
   ·exact .inl ((hF k).2 (.inr (.inr (.inr (.inr c)))))
   ·exact .inr c
theorem CRep.typ(h:CRep w g S F)(m:Int)(s:ByteArray)(hs:s.size<=maxLen):Calls prog 156 #[.pointer (some ⟨g,0,none⟩),.int .i64 m,.string s] w (CPost (.int .i64 (Caps.typE S m s)) g (Caps.typS S m s) F w):=by
 have hh:=h.has m 1
 have hok:=Caps.typ_ok h.ok m s
 have hsl:s.size<=9223372036854775807:=by unfold maxLen at hs;omega
 by_cases hc:Caps.has S.pupil m 1=true
 ·rw[hc]at hh
  obtain⟨o,l,vo,vl,h1,h2,h3,h4,h5,h6,hF⟩:=h.rep
  have r1:=h.ok.r1
  have ro:=h.ok.out
  have rl:=h.ok.log
  have c2:=h1.cell 2
  have c3:=h1.cell 3
  simp at c2 c3
  by_cases hm:m=1
  ·subst hm
   have e2:Caps.typS S 1 s = { S with out:=Caps.behind S.room S.out s }:=by simp[Caps.typS,hc]
   rw[e2]at hok⊢
   have hmp:=meth_bput ⟨o,0,none⟩
   by_cases hf: (S.room-S.out.size:Int) <s.size
   ·have e1:Caps.typE S 1 s=12:=by simp[Caps.typE,hc,hf]
    rw[e1]
    have hfit:min s.size (S.room.toNat-S.out.data.toList.length)=Caps.fit S.room S.out s:=by rw[Caps.size_data];rfl
    have hlt:Caps.fit S.room S.out s<s.size:=by unfold Caps.fit;omega
    have hp0:=put_any o 141 vo S.room S.out.data.toList s w h2 h4 (by decide) ⟨by rw[Caps.size_data];exact ro,r1⟩
    rw[hfit]at hp0
    have P0:=hid hp0
    have H:=hid h
    have HH:=hid hh
    clear hp0 e1 e2 hc hf hh h hfit
    go_enter func156,ntmps156
    go_wp2_with fail
    refine HH.out.mono ?_
    rintro e w' ⟨rfl,rfl⟩
    go_wp2_with fail
    refine P0.out.mono ?_
    rintro e w' hp
    obtain⟨rfl,F',hr,hk,hF'⟩:=put_out s h1 h2 h3 h4 h5 h6 hF hok hp
    clear hp P0 h1 h2 h3 h4 h5 h6 hF
    have HF:=hid hF'
    clear hF'
    go_wp2
    go_ret
    exact⟨rfl,F',hr,hk,HF.out⟩
   ·have e1:Caps.typE S 1 s=0:=by simp[Caps.typE,hc,hf]
    rw[e1]
    have hfit:min s.size (S.room.toNat-S.out.data.toList.length)=Caps.fit S.room S.out s:=by rw[Caps.size_data];rfl
    have hlt:s.size<=Caps.fit S.room S.out s:=by unfold Caps.fit;omega
    have hp0:=put_any o 141 vo S.room S.out.data.toList s w h2 h4 (by decide) ⟨by rw[Caps.size_data];exact ro,r1⟩
    rw[hfit]at hp0
    have P0:=hid hp0
    have H:=hid h
    have HH:=hid hh
    clear hp0 e1 e2 hc hf hh h hfit
    go_enter func156,ntmps156
    go_wp2_with fail
    refine HH.out.mono ?_
    rintro e w' ⟨rfl,rfl⟩
    go_wp2_with fail
    refine P0.out.mono ?_
    rintro e w' hp
    obtain⟨rfl,F',hr,hk,hF'⟩:=put_out s h1 h2 h3 h4 h5 h6 hF hok hp
    clear hp P0 h1 h2 h3 h4 h5 h6 hF
    have HF:=hid hF'
    clear hF'
    go_wp2
    go_ret
    exact⟨rfl,F',hr,hk,HF.out⟩
  ·have hm': (m==1)=false:=by simpa using hm
   have e2:Caps.typS S m s = { S with log:=Caps.behind S.room S.log s }:=by simp[Caps.typS,hc,hm]
   have e1:Caps.typE S m s=0:=by simp[Caps.typE,hc,hm]
   rw[e2]at hok⊢
   rw[e1]
   have hmp:=meth_lput ⟨l,0,none⟩
   have hfit:min s.size (S.room.toNat-S.log.data.toList.length)=Caps.fit S.room S.log s:=by rw[Caps.size_data];rfl
   have hp0:=lossy_put l 144 vl S.room S.log.data.toList s w h3 h5 (by decide) ⟨by rw[Caps.size_data];exact rl,r1⟩ hs
   rw[hfit]at hp0
   have P0:=hid hp0
   have H:=hid h
   have HH:=hid hh
   clear hp0 e1 e2 hc hh h hfit
   go_enter func156,ntmps156
   go_wp2_with fail
   refine HH.out.mono ?_
   rintro e w' ⟨rfl,rfl⟩
   go_wp2_with fail
   refine P0.out.mono ?_
   rintro e w' hp
   obtain⟨rfl,F',hr,hk,hF'⟩:=put_log s h1 h2 h3 h4 h5 h6 hF hok hp
   clear hp P0 h1 h2 h3 h4 h5 h6 hF
   have HF:=hid hF'
   clear hF'
   go_wp2
   go_ret
   exact⟨rfl,F',hr,hk,HF.out⟩
 ·have hc':Caps.has S.pupil m 1=false:=by simpa using hc
  rw[hc']at hh
  have e1:Caps.typE S m s=11:=by simp[Caps.typE,hc']
  have e2:Caps.typS S m s=S:=by simp[Caps.typS,hc']
  rw[e1,e2]
  have H:=hid h
  have HH:=hid hh
  clear e1 e2 hc hc' h hok hh
  go_enter func156,ntmps156
  go_wp2_with fail
  refine HH.out.mono ?_
  rintro e w' ⟨rfl,rfl⟩
  go_wp2
  go_ret
  exact⟨rfl,F,H.out,Kept.refl _ _,λk hk=> .inl hk⟩
end
section
variable {w:World}{g:Nat}{S:Caps.Tab}{F:Nat->Prop}
theorem CRep.key(h:CRep w g S F)(m:Int):Calls prog 244 #[g,m] w
 (CPost (.tuple #[.int .u8 (Caps.keyB S m),(Caps.keyE S m)]) g (Caps.keyS S m) F w):=by
 have hh:=h.has m 2
 have hok:=Caps.key_ok h.ok m
 by_cases hc:Caps.has S.pupil m 2=true
 ·rw[hc]at hh
  obtain⟨o,l,vo,vl,h1,h2,h3,h4,h5,h6,hF⟩:=h.rep
  have c1:=h1.cell 1
  have f1:=h1.frozen 1
  simp at c1
  by_cases hz:S.inp.size=0
  ·have hd:S.inp.data.toList = []:=List.eq_nil_of_length_eq_zero (by rw[Caps.size_data];exact hz)
   have e0:Caps.keyB S m=0:=by simp[Caps.keyB,hd]
   have e1:Caps.keyE S m=18:=by simp[Caps.keyE,hc,hz]
   have e2:Caps.keyS S m=S:=by
    unfold Caps.keyS;rw[if_pos hc]
    have:S.inp.extract 1 S.inp.size=S.inp:=Caps.ext _ _ (by simp[hd])
    rw[this]
   rw[e0,e1,e2]
   have H:=hid h
   have HH:=hid hh
   have hs0:S.inp.toList = []:=by rw[Lib.toList_data];exact hd
   clear e0 e1 e2 hc hh h hok hF h6 hd hz
   go_enter func244,ntmps244
   go_wp2_with fail
   refine HH.out.mono ?_
   rintro e w' ⟨rfl,rfl⟩
   go_wp2
   go_ret2
   exact⟨rfl,F,H.out,Kept.refl _ _,λk hk=> .inl hk⟩
  ·obtain⟨c,t,hd⟩: ∃c t,S.inp.data.toList=c::t:=by
    cases hh:S.inp.data.toList with
    | nil=>exfalso;apply hz;rw[<-Caps.size_data,hh];rfl
    | cons c t=>exact⟨c,t,rfl⟩
   have e0:Caps.keyB S m=c.toNat:=by simp[Caps.keyB,hd,hc]
   have e1:Caps.keyE S m=0:=by simp[Caps.keyE,hc,hz]
   have e2:Caps.keyS S m = { S with inp:=S.inp.extract 1 S.inp.size }:=by
    unfold Caps.keyS;rw[if_pos hc]
   rw[e2]at hok
   rw[e0,e1,e2]
   have H:=hid h
   have HH:=hid hh
   have hs0: (S.inp.toList.isEmpty)=false:=by rw[Lib.toList_data,hd];rfl
   have hlt:0<S.inp.size:=by omega
   have hc0:S.inp[0]=c:=by
    have:S.inp.data.toList[0]'(by rw[Caps.size_data];exact hlt)=c:=by simp[hd]
    show S.inp.data[0]=c
    simpa using this
   have hsz:=h.ok.inp
   clear e0 e1 e2 hc hh h hF h6 hd hz
   go_enter func244,ntmps244
   go_wp2_with fail
   refine HH.out.mono ?_
   rintro e w' ⟨rfl,rfl⟩
   go_wp2
   go_ret2
   refine⟨rfl,F,H.out.change hok rfl rfl rfl ?_ ?_,?_,λk hk=> .inl hk⟩
   ·refine Kept.setCell (Kept.refl _ _) ?_ _;exact .inl rfl
   ·intro o l hb
    exact hb.set_ 1 _
   ·refine Kept.setCell (Kept.refl _ _) ?_ _;exact .inl H.out.gin
 ·have hc':Caps.has S.pupil m 2=false:=by simpa using hc
  rw[hc']at hh
  have e0:Caps.keyB S m=0:=by simp[Caps.keyB,hc']
  have e1:Caps.keyE S m=11:=by simp[Caps.keyE,hc']
  have e2:Caps.keyS S m=S:=by simp[Caps.keyS,hc']
  rw[e0,e1,e2]
  have H:=hid h
  have HH:=hid hh
  clear e0 e1 e2 hc hc' h hok hh
  go_enter func244,ntmps244
  go_wp2_with fail
  refine HH.out.mono ?_
  rintro e w' ⟨rfl,rfl⟩
  go_wp2
  go_ret2
  exact⟨rfl,F,H.out,Kept.refl _ _,λk hk=> .inl hk⟩
end
def rcells(S:Caps.Tab):Array Value:=#[.int .i64 S.pupil,.int .i64 S.room,.string S.inp,.string S.out,.string S.log,.int .i64 S.points,.bool S.said]
structure RRep(w:World)(g:Nat)(S:Caps.Tab):Prop where
 ok:S.Ok
 blk:Blk w g 201 (rcells S)
theorem RRep.kept{w w':World}{g:Nat}{S:Caps.Tab}{T:Nat->Prop}(h:RRep w g S)(hk:Kept T w w')(hT: ¬T g):RRep w' g S:=⟨h.ok,h.blk.kept hk hT⟩
theorem RRep.lt{w:World}{g:Nat}{S:Caps.Tab}(h:RRep w g S):g<w.heap.size:=h.blk.lt
def RPost(v:Value)(g:Nat)(S':Caps.Tab)(w:World)(e:Ending)(w':World):Prop:=
 e = .returned v∧RRep w' g S'∧Kept (λk=>k=g) w w'
theorem RRep.cells{w:World}{g:Nat}{S:Caps.Tab}(h:RRep w g S):
 w.cell? (g,0)=some (S.pupil:Vl)∧w.cell? (g,1)=some (S.room:Vl)∧w.cell? (g,2)=some (.string S.inp)∧w.cell? (g,3)=some (.string S.out)∧
  w.cell? (g,4)=some (.string S.log)∧w.cell? (g,5)=some (S.points:Vl)∧w.cell? (g,6)=some (.bool S.said):=
 ⟨h.blk.cell 0,h.blk.cell 1,h.blk.cell 2,h.blk.cell 3,h.blk.cell 4,h.blk.cell 5,h.blk.cell 6⟩
theorem RRep.frozen{w:World}{g:Nat}{S:Caps.Tab}(h:RRep w g S)(i:Nat):w.frozen? (g,i)=false:=h.blk.frozen i
def RNewPost(p r:Int)(s:ByteArray)(w:World)(e:Ending)(w':World):Prop:=
 if Caps.newErr p r s=0 then e = .returned (.tuple #[w.heap.size,(0:Int)])∧RRep w' w.heap.size (Caps.made p r s)∧Kept Nob w w'
 else e = .returned (.tuple #[.pointer none,(Caps.newErr p r s)])∧w'=w
theorem ref_new(p r:Int)(s:ByteArray)(w:World):Calls prog 57 #[p,r,.string s] w (RNewPost p r s w):=by
 by_cases hbad:p<0∨31<p∨r<0∨65536<r
 ·have e1:Caps.newErr p r s=1:=by unfold Caps.newErr;rw[if_pos hbad]
  have fin:RNewPost p r s w (.returned (.tuple #[.pointer none,(1:Int)])) w:=by
   unfold RNewPost;rw[e1];simp
  have Fin:=hid fin
  clear fin
  clear e1
  go_enter func57,ntmps57
  go_wp2
  all_goals first| (go_ret2;exact Fin.out) | (exfalso;omega)
 ·by_cases hl:4096<s.size
  ·have e1:Caps.newErr p r s=2:=by unfold Caps.newErr;rw[if_neg hbad,if_pos hl]
   have fin:RNewPost p r s w (.returned (.tuple #[.pointer none,(2:Int)])) w:=by
    unfold RNewPost;rw[e1];simp
   have Fin:=hid fin
   clear fin e1
   have q1:0<=p:=by omega
   have q2:p<=31:=by omega
   have q3:0<=r:=by omega
   have q4:r<=65536:=by omega
   clear hbad
   go_enter func57,ntmps57
   go_wp2
   all_goals first| (go_ret2;exact Fin.out) | (exfalso;omega)
  ·have e1:Caps.newErr p r s=0:=by unfold Caps.newErr;rw[if_neg hbad,if_neg hl]
   have hok:=Caps.made_ok e1
   have E1:=hid e1
   clear e1
   have q1:0<=p:=by omega
   have q2:p<=31:=by omega
   have q3:0<=r:=by omega
   have q4:r<=65536:=by omega
   have q5:s.size<=4096:=by omega
   clear hbad hl
   go_enter func57,ntmps57
   go_wp2
   go_ret2
   unfold RNewPost
   rw[if_pos E1.out]
   exact⟨rfl,⟨hok,Blk.new' rfl⟩,(Kept.refl _ w).alloc _⟩
section
variable {w:World}{g:Nat}{S:Caps.Tab}
end
section
variable {w:World}{g:Nat}{S:Caps.Tab}
theorem isEmpty_false(s:ByteArray)(h:0<s.size):s.toList.isEmpty=false:=by
 rw[Lib.toList_data]
 cases hd:s.data.toList with
 | nil=>exfalso;rw[<-Caps.size_data,hd]at h;simp at h
 | cons c t=>rfl
end
def TabA(g:Nat)(S:Caps.Tab):Asr where
 holds w F:=CRep w g S F
 lt h hk:=h.lt hk
 kept h hk hT:=h.kept hk hT
def RefA(g:Nat)(S:Caps.Tab):Asr where
 holds w F:=RRep w g S∧∀k,F k↔k=g
 lt h hk:=by have:=(h.2 _).1 hk;subst this;exact h.1.lt
 kept h hk hT:=⟨h.1.kept hk (hT _ ((h.2 _).2 rfl)),h.2⟩
section
variable {w0 w:World}{g:Nat}{S:Caps.Tab}{L:List Asr}
theorem CPost.toPost{v:Value}{S':Caps.Tab}{F:Nat->Prop}{e:Ending}{w':World}(h:CPost v g S' F w e w'):Post (λu B=>u=v∧B=TabA g S') F w e w':=by
 obtain⟨he,F',hr,hk,hF⟩:=h
 exact⟨v,TabA g S',F',⟨rfl,rfl⟩,he,hr,hk,hF⟩
theorem RPost.toPost{v:Value}{S':Caps.Tab}{F:Nat->Prop}(hF: ∀k,F k↔k=g){e:Ending}{w':World}(h:RPost v g S' w e w'):Post (λu B=>u=v∧B=RefA g S') F w e w':=by
 obtain⟨he,hr,hk⟩:=h
 exact⟨v,RefA g S',F,⟨rfl,rfl⟩,he,⟨hr,hF⟩,hk.mono (λk hk=>(hF k).2 hk),λk hk=> .inl hk⟩
theorem TabA.crep(h:At w0 w (TabA g S::L)): ∃F,CRep w g S F:=h.first
theorem t_typ(h:At w0 w (TabA g S::L))(m:Int)(s:ByteArray)(hs:s.size<=maxLen):Calls prog 156 #[.pointer (some ⟨g,0,none⟩),m,.string s] w (Got1 (.int .i64 (Caps.typE S m s)) (TabA g (Caps.typS S m s)) w0 L):=
 h.call1 λ_ hF=>(CRep.typ hF m s hs).mono λ_ _ h=>h.toPost
theorem t_new(h:At w0 w L)(p r:Int)(s:ByteArray)(h0:Caps.newErr p r s=0):Calls prog 27 #[p,r,.string s] w
 (λe w'=> ∃g,e = .returned (.tuple #[.pointer (some ⟨g,0,none⟩),(0:Int)])∧At w0 w' (TabA g (Caps.made p r s)::L)):=by
 refine(caps_new p r s w).mono ?_
 intro e w' hp
 unfold NewPost at hp
 rw[if_pos h0]at hp
 obtain⟨g,F,he,hr,hk,hF⟩:=hp
 exact⟨g,he,h.add (A:=TabA g (Caps.made p r s)) hr hk hF⟩
theorem r_new(h:At w0 w L)(p r:Int)(s:ByteArray)(h0:Caps.newErr p r s=0):Calls prog 57 #[p,r,.string s] w
 (λe w'=> ∃g,e = .returned (.tuple #[.pointer (some ⟨g,0,none⟩),(0:Int)])∧At w0 w' (RefA g (Caps.made p r s)::L)):=by
 refine(ref_new p r s w).mono ?_
 intro e w' hp
 unfold RNewPost at hp
 rw[if_pos h0]at hp
 obtain⟨he,hr,hk⟩:=hp
 exact⟨_,he,h.add (A:=RefA _ (Caps.made p r s)) (F':=λk=>k=w.heap.size) ⟨hr,λ_=>Iff.rfl⟩ hk (λk hk=>Nat.le_of_eq hk.symm)⟩
end
end Go.Proofs.YteaijdgnagkllaaGreatDoor
