/- Chapter 13: the reader goes from word to word. Conditions: as written. -/
import Derived.Test.YteaijdgnagkllaaGreatDoorZd35
import Derived.Test.YteaijdgnagkllaaGreatDoorZd29
open Go.Proofs.Tryz
namespace Go.Proofs.YteaijdgnagkllaaGreatDoor
set_option linter.unusedVariables false
set_option linter.unusedSimpArgs false
set_option maxHeartbeats 8000000
set_option maxRecDepth 100000
open Go.RowKit Go.Lib Go.Deep
namespace Vm
def ActTo(c:Vc)(o:Oc)(F:Nat->Prop)(w W:World)(Q:Rx->Mt->Prop):KV->Prop
 | .sp k nm=>Calls prog 69 #[o.g,.agg #[.int .i64 k,.string nm]] W (λe w'=>e = .returned (0:Int)∧∃x s,Q x s∧On F w (AllA (oL c o x s)) w')
 | .fd wd=>Calls prog 70 #[o.g,.agg wd.c] W (λe w'=>e = .returned (0:Int)∧∃x s,Q x s∧On F w (AllA (oL c o x s)) w')
 | .nu n=>Calls prog 71 #[o.g,.int .i64 n] W (λe w'=>e = .returned (0:Int)∧∃x s,Q x s∧On F w (AllA (oL c o x s)) w')
 | .no=>False
def Rx.paid(x:Rx)(s:Mt):Rx:={ x with left:=x.left-exC s.ext }
def RoundTo(c:Vc)(o:Oc)(L:List Asr)(P Q:Rx->Mt->Prop):Prop:=
 ∀x s,P x s->OSrc c o s L∧OLists c s∧0<=x.left∧x.left<=1000000∧¬x.left<exC s.ext∧exW s.ext≠ ⟨#[]⟩ ∧
  ∀w F W,On F w (AllA (oL c o (x.paid s) (s.readTo (exN s.ext)))) W->ActTo c o F w W Q (kvOf s (exW s.ext))
inductive EndAt(c:Vc)(o:Oc)(L:List Asr)(x:Rx)(s:Mt):Int->Rx->Mt->Prop
 | end_ (h: ¬x.left<exC s.ext) (hw:exW s.ext= ⟨#[]⟩) (ho:x.opn=false):EndAt c o L x s 0 (x.paid s) (s.readTo (exN s.ext))
 | far (h:x.left<exC s.ext):EndAt c o L x s 13 x s
 | none_ (h: ¬x.left<exC s.ext) (hw:exW s.ext≠ ⟨#[]⟩) (hk:kvOf s (exW s.ext)= .no):EndAt c o L x s 8 (x.paid s) (s.readTo (exN s.ext))
def EndTo(c:Vc)(o:Oc)(L:List Asr)(P:Rx->Mt->Prop)(f:Int)(Q:Rx->Mt->Prop):Prop:=
 ∀x s,P x s->OSrc c o s L∧OLists c s∧0<=x.left∧x.left<=1000000∧∃x2 s2,EndAt c o L x s f x2 s2∧Q x2 s2
inductive ReadsR(c:Vc)(o:Oc)(L:List Asr)(f:Int)(Q:Rx->Mt->Prop):Nat->(Rx->Mt->Prop)->Prop
 | done {P:Rx->Mt->Prop} (h:EndTo c o L P f Q):ReadsR c o L f Q 0 P
 | step {n:Nat} {P P2:Rx->Mt->Prop} (h:RoundTo c o L P P2) (t:ReadsR c o L f Q n P2):ReadsR c o L f Q (n+1) P
theorem kvOf_read(s:Mt)(k:Nat)(nm:ByteArray):kvOf (s.readTo k) nm=kvOf s nm:=rfl
theorem OLists.read{c:Vc}{s:Mt}(h:OLists c s)(k:Nat):OLists c (s.readTo k):=⟨h.hs,h.ls,h.hk,h.lk,h.s8,h.k8⟩
section
variable {P:Program}{a:Act}{w:World}{Q:Exit->Act->World->Prop}
def Exit2(l1 l2:Nat)(I J:Act->World->Prop)(Q:Exit->Act->World->Prop):Exit->Act->World->Prop
 | .goto l,a,w=>(l=l1∧I a w)∨(l=l2∧J a w)
 | e,a,w=>Q e a w
theorem Exit2_ret{l1 l2:Nat}{I J:Act->World->Prop}:Exit2 l1 l2 I J Q .ret a w=Q .ret a w:=rfl
theorem wp_scope_two{c r1 r2:Code}(l1 l2:Nat)(I:Nat->Act->World->Prop)(J:Act->World->Prop)(hf1:findLabel c l1=some (Code.skip.seq r1))(hf2:findLabel c l2=some (Code.skip.seq r2))
 (last: ∀a w,J a w->r2.wp P (Exit.noGoto Q) a w)
 (pass: ∀n a w,I n a w->r1.wp P (Exit2 l1 l2 (λa w=> ∃m,m<n∧I m a w) J Q) a w)
 (first: (∀n a w,I n a w->r1.wp P (Exit2 l1 l2 (λa w=> ∃n,I n a w) J Q) a w)->c.wp P (Exit2 l1 l2 (λa w=> ∃n,I n a w) J Q) a w): (Code.scope c).wp P Q a w:=by
 intro b k cs
 have hg1:gotoIn l1 (.inScope c::k)=some (.code (Code.skip.seq r1):: .inScope c::k):=by simp[gotoIn,hf1]
 have hg2:gotoIn l2 (.inScope c::k)=some (.code (Code.skip.seq r2):: .inScope c::k):=by simp[gotoIn,hf2]
 have fin: ∀a w,J a w->∃e a2 w2,Q e a2 w2∧Arrives P (lone (b.at a (.code (Code.skip.seq r2):: .inScope c::k)) cs w) b k cs e a2 w2:=by
  intro a w hJ
  obtain⟨e,a1,w1,hq,har⟩:=wp_seq (wp_skip (last a w hJ)) b (.inScope c::k) cs
  cases e with
  | normal=>exact⟨.normal,a1,w1,hq,Steps.trans har (.one step_inScope)⟩
  | exit id=>exact⟨.exit id,a1,w1,hq,λk2 hk=>har k2 (by simp[exitTo,hk])⟩
  | goto l=>exact hq.elim
  | ret=>exact⟨_,a1,w1,hq,har⟩
  | panic ch=>exact⟨_,a1,w1,hq,har⟩
  | outgrown=>exact⟨_,a1,w1,hq,har⟩
 have key: ∀n a w,I n a w->∃e a2 w2,Q e a2 w2∧Arrives P (lone (b.at a (.code (Code.skip.seq r1):: .inScope c::k)) cs w) b k cs e a2 w2:=by
  intro n
  induction n using Nat.strongRecOn with
  | _ n ih=>
    intro a w hI
    obtain⟨e,a1,w1,hq,har⟩:=wp_seq (wp_skip (pass n a w hI)) b (.inScope c::k) cs
    cases e with
    | normal=>exact⟨.normal,a1,w1,hq,Steps.trans har (.one step_inScope)⟩
    | exit id=>exact⟨.exit id,a1,w1,hq,λk2 hk=>har k2 (by simp[exitTo,hk])⟩
    | goto l=>
      rcases hq with⟨rfl,m,hm,hI2⟩ | ⟨rfl,hJ⟩
      ·obtain⟨e2,a2,w2,hq2,har2⟩:=ih m hm a1 w1 hI2
       exact⟨e2,a2,w2,hq2,.of_steps (har _ hg1) har2⟩
      ·obtain⟨e2,a2,w2,hq2,har2⟩:=fin a1 w1 hJ
       exact⟨e2,a2,w2,hq2,.of_steps (har _ hg2) har2⟩
    | ret=>exact⟨_,a1,w1,hq,har⟩
    | panic ch=>exact⟨_,a1,w1,hq,har⟩
    | outgrown=>exact⟨_,a1,w1,hq,har⟩
 have first2:=first (λn a w hI=>wp_mono (pass n a w hI) (λe a2 w2 hq=>by
  cases e with
  | goto l=>
    rcases hq with⟨h1,m,hm,hI2⟩ |h
    ·exact Or.inl ⟨h1,m,hI2⟩
    ·exact Or.inr h
  | normal=>exact hq
  | exit id=>exact hq
  | ret=>exact hq
  | panic ch=>exact hq
  | outgrown=>exact hq))
 obtain⟨e,a1,w1,hq,har⟩:=first2 b (.inScope c::k) cs
 cases e with
 | normal=>exact⟨.normal,a1,w1,hq,.head step_scope (Steps.trans har (.one step_inScope))⟩
 | exit id=>exact⟨.exit id,a1,w1,hq,λk2 hk=> .head step_scope (har k2 (by simp[exitTo,hk]))⟩
 | goto l=>
   rcases hq with⟨rfl,n,hI⟩ | ⟨rfl,hJ⟩
   ·obtain⟨e2,a2,w2,hq2,har2⟩:=key n a1 w1 hI
    exact⟨e2,a2,w2,hq2,.of_steps (.head step_scope (har _ hg1)) har2⟩
   ·obtain⟨e2,a2,w2,hq2,har2⟩:=fin a1 w1 hJ
    exact⟨e2,a2,w2,hq2,.of_steps (.head step_scope (har _ hg2)) har2⟩
 | ret=>exact⟨_,a1,w1,hq,.of_steps (.one step_scope) har⟩
 | panic ch=>exact⟨_,a1,w1,hq,.of_steps (.one step_scope) har⟩
 | outgrown=>exact⟨_,a1,w1,hq,.of_steps (.one step_scope) har⟩
end
theorem ta_sp_sp(v:Value)(w:World): (Instr.typeAssert (.iface 168 v) 20 168 true).run prog w = .ok (.tuple #[v,.bool true]) w:=by
 simp[Instr.typeAssert,go_sem,run_underlying underlying168,zeroValue]
theorem ta_fd_sp(v:Value)(w:World): (Instr.typeAssert (.iface 171 v) 20 168 true).run prog w = .ok (.tuple #[.agg #[(0:Int),.string ⟨#[]⟩],.bool false]) w:=by
 simp[Instr.typeAssert,go_sem,run_underlying underlying168,zeroValue,Tryz.t168]
theorem ta_fd_fd(v:Value)(w:World): (Instr.typeAssert (.iface 171 v) 20 171 true).run prog w = .ok (.tuple #[v,.bool true]) w:=by
 simp[Instr.typeAssert,go_sem,run_underlying underlying171,zeroValue]
theorem ta_nu_sp(v:Value)(w:World): (Instr.typeAssert (.iface 174 v) 20 168 true).run prog w = .ok (.tuple #[.agg #[(0:Int),.string ⟨#[]⟩],.bool false]) w:=by
 simp[Instr.typeAssert,go_sem,run_underlying underlying168,zeroValue,Tryz.t168]
theorem ta_nu_fd(v:Value)(w:World): (Instr.typeAssert (.iface 174 v) 20 171 true).run prog w = .ok (.tuple #[.agg #[.string ⟨#[]⟩,(0:Int),(0:Int),.bool false,.bool false,.bool false],.bool false]) w:=by
 simp[Instr.typeAssert,go_sem,run_underlying underlying171,zeroValue,Tryz.t171]
theorem ta_nu_nu(v:Value)(w:World): (Instr.typeAssert (.iface 174 v) 20 174 true).run prog w = .ok (.tuple #[v,.bool true]) w:=by
 simp[Instr.typeAssert,go_sem,run_underlying underlying174,zeroValue]
theorem ta_no_sp(w:World): (Instr.typeAssert .nilIface 20 168 true).run prog w = .ok (.tuple #[.agg #[(0:Int),.string ⟨#[]⟩],.bool false]) w:=by
 simp[Instr.typeAssert,go_sem,run_underlying underlying168,zeroValue,Tryz.t168]
theorem ta_no_fd(w:World): (Instr.typeAssert .nilIface 20 171 true).run prog w = .ok (.tuple #[.agg #[.string ⟨#[]⟩,(0:Int),(0:Int),.bool false,.bool false,.bool false],.bool false]) w:=by
 simp[Instr.typeAssert,go_sem,run_underlying underlying171,zeroValue,Tryz.t171]
theorem ta_no_nu(w:World): (Instr.typeAssert .nilIface 20 174 true).run prog w = .ok (.tuple #[.agg #[(0:Int)],.bool false]) w:=by
 simp[Instr.typeAssert,go_sem,run_underlying underlying174,zeroValue,Tryz.t174]
def AllI(c:Vc)(o:Oc)(L:List Asr)(f:Int)(Q:Rx->Mt->Prop)(w:World)(F:Nat->Prop)(n:Nat)(a:Act)(wr:World):Prop:=
 ∃u:Nat->Value,a = { tmps:=#[.pointer (some ⟨o.g,0,none⟩),u 1,u 2,u 3,u 4,u 5,u 6,u 7,u 8,u 9,u 10,u 11,u 12,u 13,u 14,u 15,u 16,u 17,u 18,u 19,u 20,u 21,u 22,u 23,u 24,u 25,u 26,u 27,u 28,u 29,u 30,u 31,u 32,u 33,u 34,u 35,u 36,u 37,u 38,u 39,u 40,u 41,u 42,u 43,u 44,u 45,u 46,u 47,u 48],defers:=[] }∧
  ∃(P:Rx->Mt->Prop) (x:Rx) (s:Mt),ReadsR c o L f Q n P∧P x s∧On F w (AllA (oL c o x s)) wr
theorem AllI.mk{c:Vc}{o:Oc}{L:List Asr}{f:Int}{Q:Rx->Mt->Prop}{w:World}{F:Nat->Prop}{n:Nat}{tm:Array Value}{wr:World}(u:Nat->Value)(hu:u=λk=>tm.toList.getD k undef)(h:tm=#[.pointer (some ⟨o.g,0,none⟩),u 1,u 2,u 3,u 4,u 5,u 6,u 7,u 8,u 9,u 10,u 11,u 12,u 13,u 14,u 15,u 16,u 17,u 18,u 19,u 20,u 21,u 22,u 23,u 24,u 25,u 26,u 27,u 28,u 29,u 30,u 31,u 32,u 33,u 34,u 35,u 36,u 37,u 38,u 39,u 40,u 41,u 42,u 43,u 44,u 45,u 46,u 47,u 48])(P:Rx->Mt->Prop)(x:Rx)(s:Mt)(h1:ReadsR c o L f Q n P)(h2:P x s)(h3:On F w (AllA (oL c o x s)) wr):
 AllI c o L f Q w F n { tmps:=tm,defers:=[] } wr:=⟨u,by rw[<-h],P,x,s,h1,h2,h3⟩
def AllJ(c:Vc)(o:Oc)(f:Int)(Q:Rx->Mt->Prop)(w:World)(F:Nat->Prop)(a:Act)(wr:World):Prop:=
 ∃u:Nat->Value,a = { tmps:=#[.pointer (some ⟨o.g,0,none⟩),u 1,u 2,u 3,u 4,u 5,u 6,u 7,u 8,u 9,u 10,u 11,u 12,u 13,u 14,u 15,u 16,u 17,u 18,u 19,u 20,u 21,u 22,u 23,u 24,u 25,u 26,u 27,u 28,u 29,u 30,u 31,u 32,u 33,u 34,u 35,u 36,u 37,u 38,u 39,u 40,u 41,u 42,u 43,u 44,u 45,u 46,u 47,u 48],defers:=[] }∧f=0∧
  ∃(x:Rx) (s:Mt),Q x s∧x.opn=false∧On F w (AllA (oL c o x s)) wr
theorem AllJ.mk{c:Vc}{o:Oc}{f:Int}{Q:Rx->Mt->Prop}{w:World}{F:Nat->Prop}{tm:Array Value}{wr:World}(u:Nat->Value)(hu:u=λk=>tm.toList.getD k undef)(h:tm=#[.pointer (some ⟨o.g,0,none⟩),u 1,u 2,u 3,u 4,u 5,u 6,u 7,u 8,u 9,u 10,u 11,u 12,u 13,u 14,u 15,u 16,u 17,u 18,u 19,u 20,u 21,u 22,u 23,u 24,u 25,u 26,u 27,u 28,u 29,u 30,u 31,u 32,u 33,u 34,u 35,u 36,u 37,u 38,u 39,u 40,u 41,u 42,u 43,u 44,u 45,u 46,u 47,u 48])(hf:f=0)(x:Rx)(s:Mt)(h2:Q x s)(h4:x.opn=false)(h3:On F w (AllA (oL c o x s)) wr):
 AllJ c o f Q w F { tmps:=tm,defers:=[] } wr:=⟨u,by rw[<-h],hf,x,s,h2,h4,h3⟩
section
variable {w w' W:World}{F:Nat->Prop}{c:Vc}{o:Oc}{x:Rx}{s:Mt}{L:List Asr}{P Q:Rx->Mt->Prop}{f:Int}{n:Nat}
theorem all_walk(hr:ReadsR c o L f Q n P)(hp:P x s)(h:On F w (AllA (oL c o x s)) W):Calls prog 41 #[o.g] W (λe w'=>e = .returned (.int .i64 f)∧∃x s,Q x s∧On F w (AllA (oL c o x s)) w'):=by
 replace h:=hid h
 replace hr:=hid hr
 replace hp:=hid hp
 go_enter func41,ntmps41
 go_wp2_with fail
 refine wp_scope_two 0 1 (AllI c o L f Q w F) (AllJ c o f Q w F) rfl rfl ?last ?pass ?first
 case first=>
  intro hpass
  replace hpass:=hid hpass
  go_wp2_with fail
  go_step3
  rename_i hK
  refine hK _ _ ?_
  exact hpass.out n _ _ (AllI.mk _ rfl rfl P x s hr.out hp.out h.out)
 case last=>
  rintro a wr ⟨u,rfl,rfl,x1,s1,hq,ho,hon⟩
  clear h hr hp
  have c5:wr.cell? (o.g,5)=some (.bool false):=by
   have h0:Blk wr o.g 101 (readC o x1):=hon.blkAt 0 rfl
   rw[<-ho]
   exact h0.cell 5
  replace hon:=hid hon
  replace hq:=hid hq
  replace ho:=hid ho
  go_wp2
  try rw[Exit.noGoto_ret]
  go_ret
  exact⟨rfl,x1,s1,hq.out,hon.out⟩
 case pass=>
  intro n a wr hI
  obtain⟨u,ha,P,x1,s1,hR,hp1,hon⟩:=hI
  subst ha
  clear h hr hp
  cases hR with
  | done hE=>
    obtain⟨hos,hol,hl0,hl2,x2,s2,hEa,hq⟩:=hE x1 s1 hp1
    cases hEa with
    | end_ hnear hw ho=>
      have hE2:=(ex_bounds hos.sz hos.le).2
      have hol2:=hol.read (exN s1.ext)
      have hwd:Calls prog 67 #[o.g] wr (Got (.returned (.tuple #[.string (exW s1.ext),(0:Int)])) (AllA (oL c o (x1.paid s1) (s1.readTo (exN s1.ext)))) F w):=rd_word_near hon hos hl0 hl2 hnear
      rw[hw]at hwd
      have hox: (x1.paid s1).opn=false:=ho
      generalize x1.paid s1=x2 at *
      generalize s1.readTo (exN s1.ext)=s2 at *
      replace hwd:=hid hwd
      replace hq:=hid hq
      have ho2:x2.opn=false:=hox
      replace ho2:=hid ho2
      clear hos hol hl0 hl2 hnear hE2 hol2 hE hp1 hon hw
      go_wp2_with fail
      refine mo hwd.out λw4 h4=>?_
      simp only[]
      replace h4:=hid h4
      go_wp2_with fail
      go_step3
      exact Or.inr ⟨rfl,AllJ.mk _ rfl rfl rfl x2 s2 hq.out ho2.out h4.out⟩
    | far hfar=>
      have hwd:=rd_word_far hon hos hl0 hl2 hfar
      replace hwd:=hid hwd
      replace hq:=hid hq
      clear hos hol hl0 hl2 hfar hE hp1 hon
      go_wp2_with fail
      refine mo hwd.out λw4 h4=>?_
      simp only[]
      replace h4:=hid h4
      go_wp2_with fail
      try rw[Exit2_ret]
      go_ret
      exact⟨rfl,_,_,hq.out,h4.out⟩
    | none_ hnear hne hkv=>
      have hE2:=(ex_bounds hos.sz hos.le).2
      have hol2:=hol.read (exN s1.ext)
      have hwd:Calls prog 67 #[o.g] wr (Got (.returned (.tuple #[.string (exW s1.ext),(0:Int)])) (AllA (oL c o (x1.paid s1) (s1.readTo (exN s1.ext)))) F w):=rd_word_near hon hos hl0 hl2 hnear
      have hkn:=λW2 (h2:On F w (AllA (oL c o (x1.paid s1) (s1.readTo (exN s1.ext)))) W2)=>rd_known hol2 h2 (exW s1.ext) oM
      simp only[kvOf_read]at hkn
      have hne2: (exW s1.ext).toList.isEmpty=false:=ne_list hne
      rw[hkv]at hkn
      generalize x1.paid s1=x2 at *
      generalize s1.readTo (exN s1.ext)=s2 at *
      generalize exW s1.ext=T at *
      replace hkn:=hid hkn
      replace hwd:=hid hwd
      replace hq:=hid hq
      clear hos hol hl0 hl2 hnear hE2 hol2 hE hp1 hon hne hkv
      go_wp2_with fail
      refine mo hwd.out λw4 h4=>?_
      simp only[]
      have hk4:=hid (hkn.out _ h4)
      replace h4:=hid h4
      go_wp2_with fail
      refine mo hk4.out λw5 hb5=>?_
      simp only[]
      have h5:=hid (h4.out.below hb5)
      clear hb5 hk4 h4 hkn hwd
      unfold KV.v
      have a1:=ta_no_sp w5
      have a2:=ta_no_fd w5
      have a3:=ta_no_nu w5
      go_wp2_with fail
      try rw[Exit2_ret]
      go_ret
      exact⟨rfl,_,_,hq.out,h5.out⟩
  | step hS hT=>
    rename_i n P2
    obtain⟨hos,hol,hl0,hl2,hnear,hne,hact⟩:=hS x1 s1 hp1
    have hE2:=(ex_bounds hos.sz hos.le).2
    have hol2:=hol.read (exN s1.ext)
    have hwd:Calls prog 67 #[o.g] wr (Got (.returned (.tuple #[.string (exW s1.ext),(0:Int)])) (AllA (oL c o (x1.paid s1) (s1.readTo (exN s1.ext)))) F w):=rd_word_near hon hos hl0 hl2 hnear
    have hkn:=λW2 (h2:On F w (AllA (oL c o (x1.paid s1) (s1.readTo (exN s1.ext)))) W2)=>rd_known hol2 h2 (exW s1.ext) oM
    simp only[kvOf_read]at hkn
    have hne2: (exW s1.ext).toList.isEmpty=false:=ne_list hne
    have hac:=hact w F
    generalize kvOf s1 (exW s1.ext)=K at *
    generalize x1.paid s1=x2 at *
    generalize s1.readTo (exN s1.ext)=s2 at *
    generalize exW s1.ext=T at *
    replace hac:=hid hac
    replace hkn:=hid hkn
    replace hwd:=hid hwd
    replace hT:=hid hT
    clear hos hol hl0 hl2 hnear hact hE2 hol2 hS hp1 hon hne
    go_wp2_with fail
    refine mo hwd.out λw4 h4=>?_
    simp only[]
    have hk4:=hid (hkn.out _ h4)
    replace h4:=hid h4
    go_wp2_with fail
    refine mo hk4.out λw5 hb5=>?_
    simp only[]
    have h5:=hid (h4.out.below hb5)
    clear hb5 hk4 h4 hkn hwd
    rcases K with⟨k,nm⟩ | ⟨nm1,hd1,xt1,im1,hh1,il1⟩ |n1|_
    ·have ha:Calls prog 69 #[o.g,.agg #[.int .i64 k,.string nm]] _ (λe w'=>e = .returned (0:Int)∧∃x s,P2 x s∧On F w (AllA (oL c o x s)) w'):=hac.out _ ((h5.out.box #[.int .i64 k,.string nm] 168).tail)
     replace ha:=hid ha
     clear hac
     unfold KV.v
     have a1:=ta_sp_sp (.agg #[.int .i64 k,.string nm]) w5
     go_wp2_with fail
     refine ha.out.mono ?_
     rintro e w6 ⟨rfl,x3,s3,hq3,h6⟩
     simp only[]
     replace hq3:=hid hq3
     replace h6:=hid h6
     go_wp2_with fail
     go_step3
     exact Or.inl ⟨rfl,n,by omega,AllI.mk _ rfl rfl P2 x3 s3 hT.out hq3.out h6.out⟩
    ·have ha:Calls prog 70 #[o.g,.agg #[.string ⟨nm1.toArray⟩,(hd1:Int),(xt1:Int),.bool im1,.bool hh1,.bool il1]] _ (λe w'=>e = .returned (0:Int)∧∃x s,P2 x s∧On F w (AllA (oL c o x s)) w'):=hac.out _ ((h5.out.box #[.string ⟨nm1.toArray⟩,(hd1:Int),(xt1:Int),.bool im1,.bool hh1,.bool il1] 171).tail)
     replace ha:=hid ha
     clear hac
     unfold KV.v Wd.c
     have a1:=ta_fd_sp (.agg #[.string ⟨nm1.toArray⟩,(hd1:Int),(xt1:Int),.bool im1,.bool hh1,.bool il1]) w5
     have a2:=ta_fd_fd (.agg #[.string ⟨nm1.toArray⟩,(hd1:Int),(xt1:Int),.bool im1,.bool hh1,.bool il1]) w5
     go_wp2_with fail
     refine ha.out.mono ?_
     rintro e w6 ⟨rfl,x3,s3,hq3,h6⟩
     simp only[]
     replace hq3:=hid hq3
     replace h6:=hid h6
     go_wp2_with fail
     go_step3
     exact Or.inl ⟨rfl,n,by omega,AllI.mk _ rfl rfl P2 x3 s3 hT.out hq3.out h6.out⟩
    ·have ha:Calls prog 71 #[o.g,.int .i64 n1] _ (λe w'=>e = .returned (0:Int)∧∃x s,P2 x s∧On F w (AllA (oL c o x s)) w'):=hac.out _ ((h5.out.box #[.int .i64 n1] 174).tail)
     replace ha:=hid ha
     clear hac
     unfold KV.v
     have a1:=ta_nu_sp (.agg #[.int .i64 n1]) w5
     have a2:=ta_nu_fd (.agg #[.int .i64 n1]) w5
     have a3:=ta_nu_nu (.agg #[.int .i64 n1]) w5
     go_wp2_with fail
     refine ha.out.mono ?_
     rintro e w6 ⟨rfl,x3,s3,hq3,h6⟩
     simp only[]
     replace hq3:=hid hq3
     replace h6:=hid h6
     go_wp2_with fail
     go_step3
     exact Or.inl ⟨rfl,n,by omega,AllI.mk _ rfl rfl P2 x3 s3 hT.out hq3.out h6.out⟩
    ·exact(hac.out _ h5.out:False).elim
end
def Vc.src(c:Vc)(gs:Nat)(L:List Asr):Vc:={ c with rest:=λe=>SrcA gs e.text e.at_::L }
def uL(c:Vc)(gO:Nat)(wv:Value)(at_:Int)(s:Mt):List Asr:=BlkA gO 94 (outerC c wv at_)::RowP wv [c.gS,c.gK]::mL c s
def rx0(mode left:Int):Rx:=⟨mode,left,false,false,0,.pointer none,AllA []⟩
section
variable {w w' W:World}{F:Nat->Prop}{c:Vc}{gO g gs:Nat}{wv:Value}{at_:Int}{s:Mt}{L:List Asr}
theorem s_make(text:ByteArray)(hl:text.size<=60000)(W:World):Calls prog 40 #[.string text] W (PostE (λe B=> ∃g:Nat,e = .returned (.tuple #[.pointer (some ⟨g,0,none⟩),(0:Int)])∧B=SrcA g text 0) Nob W):=
 (new_walk text hl W).mono λe w' ⟨v,A',F',⟨g,hv,hA⟩,he,hh,hk,hF⟩=>⟨A',⟨g,by rw[he,hv],hA⟩,F',hh,hk,hF⟩
theorem s_at{g i:Nat}(h:W.cell? (g,1)=some (.int .i64 (i:Int))):Calls prog 42 #[.pointer (some ⟨g,0,none⟩)] W (Same (.int .i64 (i:Int)) W):=by
 go_enter func42,ntmps42
 go_wp2
 go_ret
 exact⟨rfl,rfl⟩
theorem u_in{x:Rx}(hx:x.fo=AllA [])(hc: ∀e,c.rest e=L)(text:ByteArray)(h:On F w (AllA (BlkA g 101 (readC ⟨g,gO,gs,wv⟩ x)::SrcA gs text 0::uL c gO wv 0 s)) W):On F w (AllA (oL (c.src gs L) ⟨g,gO,gs,wv⟩ x { s with ext:=⟨text,0⟩ })) W:=by
 have h1:=h.emptyA
 unfold uL mL at h1
 rw[hc]at h1
 have h2:=On.pick [AllA [],BlkA g 101 (readC ⟨g,gO,gs,wv⟩ x),SrcA gs text 0,BlkA gO 94 (outerC c wv 0),RowP wv [c.gS,c.gK],MachA c s,ImgA c.gI s.S,StkA c.gI c.gD s.pd s.d,StkA c.gI c.gR s.pr s.r,TabA c.gT s.T,DictA c.gI c.gS c.sfr c.sto s.hs s.ls,DictA c.gI c.gK c.kfr c.kto s.hk s.lk,c.tl s.seen] (T:=L) [1,3,4,0,5,6,7,8,9,10,11,12,2] h1 (by decide)
 unfold oL mL
 rw[hx]
 exact h2
theorem u_out{x:Rx}(hc: ∀e,c.rest e=L)(h:On F w (AllA (oL (c.src gs L) ⟨g,gO,gs,wv⟩ x s)) W):On F w (AllA (uL c gO wv 0 s)) W:=by
 unfold oL mL at h
 have h2:=On.pick [BlkA g 101 (readC ⟨g,gO,gs,wv⟩ x),BlkA gO 94 (outerC (c.src gs L) wv 0),RowP wv [c.gS,c.gK],x.fo,MachA (c.src gs L) s,ImgA c.gI s.S,StkA c.gI c.gD s.pd s.d,StkA c.gI c.gR s.pr s.r,TabA c.gT s.T,DictA c.gI c.gS c.sfr c.sto s.hs s.ls,DictA c.gI c.gK c.kfr c.kto s.hk s.lk,c.tl s.seen,SrcA gs s.ext.text s.ext.at_] (T:=L) [1,2,4,5,6,7,8,9,10,11] h (by decide)
 unfold uL mL
 rw[hc]
 exact h2
theorem oL_src{x:Rx}(h:On F w (AllA (oL (c.src gs L) ⟨g,gO,gs,wv⟩ x s)) W):W.cell? (gs,1)=some (.int .i64 (s.ext.at_:Int)):=by
 have hb:Blk W gs 164 #[.string s.ext.text,(s.ext.at_:Int),((lfs (s.ext.text.data.toList.take s.ext.at_):Nat):Int)]:=h.blkAt 12 rfl
 exact hb.cell 1
theorem o_run{Q:Rx->Mt->Prop}{f:Int}{n:Nat}(h:On F w (AllA (uL c gO wv at_ s)) W)(hc: ∀e,c.rest e=L)(mode fuel:Int)(text:ByteArray)(hl:text.size<=60000)
 (hQ: ∀x s,Q x s->0<=x.left∧x.left<=1000000) (hR: ∀g gs,∃P,ReadsR (c.src gs L) ⟨g,gO,gs,wv⟩ L f Q n P∧P (rx0 mode (clip fuel)) { s with ext:=⟨text,0⟩ }):
 Calls prog 13 #[gO,mode,.string text,fuel] W (λe w'=> ∃x s',Q x s'∧e = .returned (.tuple #[f,(clip fuel-x.left:Int)])∧On F w (AllA (uL c gO wv (s'.ext.at_:Int) s')) w'):=by
 have hb:Blk W gO 94 (outerC c wv at_):=h.blkAt 0 rfl
 have c3:W.cell? (gO,3)=some (at_:Vl):=hb.cell 3
 have f3:=hb.frozen 3
 have h1:On F w (AllA (uL c gO wv 0 s)) (W.setCell (gO,3) (.int .i64 0)):=h.setAt 0 rfl 3 (.int .i64 0)
 have hmk:=hid (h1.make (s_make text hl _))
 have hmm:max 0 (min fuel 1000000)=clip fuel:=rfl
 have hN:0<=clip fuel∧clip fuel<=1000000:=by unfold clip;omega
 replace hQ:=hid hQ
 have hall:=λg gs W2 (h2:On F w (AllA (oL (c.src gs L) ⟨g,gO,gs,wv⟩ (rx0 mode (clip fuel)) { s with ext:=⟨text,0⟩ })) W2)=>(by
  obtain⟨P,r1,r2⟩:=hR g gs
  exact all_walk r1 r2 h2:Calls prog 41 #[g] W2 (λe w'=>e = .returned (.int .i64 f)∧∃x s,Q x s∧On F w (AllA (oL (c.src gs L) ⟨g,gO,gs,wv⟩ x s)) w'))
 replace hall:=hid hall
 clear h hb hl hR h1
 generalize clip fuel=N at *
 go_enter func13,ntmps13
 go_wp2_with fail
 refine hmk.out.mono ?_
 rintro e w2 ⟨B,⟨gs,rfl,rfl⟩,h2⟩
 simp only[]
 have hbx:=h2.box (readC ⟨w2.heap.size,gO,gs,wv⟩ (rx0 mode N)) 101
 have hin:=u_in (g:=w2.heap.size) (x:=rx0 mode N) rfl hc text hbx
 have hal:=hall.out w2.heap.size gs _ hin
 unfold readC rx0 at hal
 simp only at hal
 replace hal:=hid hal
 clear hall hmk hbx hin h2
 go_wp2_with fail
 refine hal.out.mono ?_
 rintro e w3 ⟨rfl,x1,s1,hq,h3⟩
 simp only[]
 have hx1:=hQ.out _ _ hq
 have hwr:wrap64 (N-x1.left)=N-x1.left:=by unfold wrap64;omega
 replace hwr:=hid hwr
 clear hx1
 have c1:=oL_src h3
 have hat:=hid (s_at c1)
 have h4:=(u_out hc h3).setAt 0 rfl 3 (.int .i64 (s1.ext.at_:Int))
 have h5:On F w (AllA (uL c gO wv (s1.ext.at_:Int) s1)) (w3.setCell (gO,3) (.int .i64 (s1.ext.at_:Int))):=h4
 have hb0:Blk w3 w2.heap.size 101 (readC ⟨w2.heap.size,gO,gs,wv⟩ x1):=h3.blkAt 0 rfl
 have hb1:Blk w3 gO 94 (outerC c wv 0):=h3.blkAt 1 rfl
 have d2:w3.cell? (w2.heap.size,2)=some (x1.left:Vl):=hb0.cell 2
 have d3:w3.cell? (gO,3)=some ((0:Int):Vl):=hb1.cell 3
 have g3:=hb1.frozen 3
 have hne:=h3.neAt 0 1 (by decide) rfl rfl
 replace h5:=hid h5
 replace hq:=hid hq
 clear hal h3 h4 hb0 hb1 c3 f3 c1
 go_wp2_with fail
 refine hat.out.mono ?_
 rintro e w4 ⟨rfl,rfl⟩
 simp only[]
 go_wp2_with fail
 go_quiet (fail)
 go_wp2
 go_ret2
 refine⟨x1,s1,hq.out,?_,h5.out.drewN _⟩
 show Ending.returned (.tuple #[.int .i64 f,.int .i64 (wrap64 (N-x1.left))])=_
 rw[hwr.out]
end
end Vm
end Go.Proofs.YteaijdgnagkllaaGreatDoor
