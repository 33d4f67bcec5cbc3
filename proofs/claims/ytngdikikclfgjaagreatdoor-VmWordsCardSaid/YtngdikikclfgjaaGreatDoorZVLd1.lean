/- Chapter 3: the program's image: the secret laid. Condition: there is a secret region, and the text is no longer. -/
import Derived.Test.YtngdikikclfgjaaGreatDoorZ31
import Derived.Lib.BufferWrite
open Go.Proofs.Tryz
namespace Go.Proofs.YtngdikikclfgjaaGreatDoor
set_option linter.unusedVariables false
set_option linter.unusedSimpArgs false
set_option maxHeartbeats 8000000
set_option maxRecDepth 100000
open Go.RowKit Go.Lib Go.Deep
namespace Vm
section
variable {w:World}{F:Nat->Prop}{g gb:Nat}{S:Img}
theorem i_part_row(h:IRep w g gb S)(hs:S.s≠0):Calls prog 54 #[g,(2:Int)] w
 (λe w'=> ∃n,e = .returned (.slice (some ⟨gb,S.beg 2,none⟩) S.s S.s)∧w'=w.drewN n):=by
 have hspan:=hid (i_span h 2 oM oM)
 have hall:=h.all_cell
 have hsm:=h.ok.small
 have e3:S.beg (2+1)=S.beg 2+S.s:=rfl
 have hle6:=S.beg_mono (i:=3) (j:=6) oM oM oM
 have e4:S.beg 3=S.beg 2+S.s:=rfl
 rw[e4]at hle6
 rw[e3]at hspan
 generalize S.beg 2=x at *
 generalize S.beg 6=N at *
 generalize S.s=n at *
 clear h e3 e4
 have hne: (((x:Int) + (n:Int)) == (x:Int))=false:=by rw[beq_eq_false_iff_ne];omega
 have hc: ((x+n:Nat):Int)= (x:Int) + (n:Int):=by omega
 rw[hc]at hspan
 replace hc:=hid hc
 have hsub:x+n-x=n:=by omega
 go_enter func54,ntmps54
 go_wp2_with fail
 refine hspan.out.mono ?_
 rintro e w1 ⟨rfl,m,rfl⟩
 go_wp2
 go_ret
 exact⟨m,congrArg (λk=>Ending.returned (Value.slice (some ⟨gb,x,none⟩) k k)) hsub,rfl⟩
theorem blk_zero{gb:Nat}{t:TypeId}: ∀(m o:Nat) (w:World) (B:List UInt8),o+m<=B.length->Blk w gb t (bcells B).toArray->Blk (w.setCells gb o (List.replicate m (.int .u8 0))) gb t (bcells (putL B o (List.replicate m 0))).toArray∧Kept (λk=>k=gb) w (w.setCells gb o (List.replicate m (.int .u8 0)))
 | 0,o,w,B,_,h=>by
   refine⟨?_,Kept.refl _ _⟩
   rw[List.replicate_zero,List.replicate_zero,putL_nil]
   exact h
 | m+1,o,w,B,hl,h=>by
   have h1:=h.set_ o (.int .u8 ((0:UInt8).toNat:Int))
   rw[set_put B o 0 oM]at h1
   have hlen: (putL B o [0]).length=B.length:=putL_len _ _ _ (by simp;omega)
   obtain⟨h2,k2⟩:=blk_zero m (o+1) _ (putL B o [0]) oM h1
   have e:putL (putL B o [0]) (o+1) (List.replicate m 0)=putL B o (List.replicate (m+1) 0):=putL_append B o [0] (List.replicate m 0) (by simp;omega)
   rw[e]at h2
   refine⟨h2,((Kept.refl (λk=>k=gb) w).setCell (p:=⟨gb,o,none⟩) (.inl rfl) _).trans k2⟩
theorem i_load(hb: (ImgA g S).holds w F)(hs:S.s≠0)(s:ByteArray)(hl:s.size<=S.s):Calls prog 26 #[g,.string s] w (Got (.returned (.int .i64 0)) (ImgA g (Setup.load S s.data.toList)) F w):=by
 obtain⟨gb,hr,hF⟩:=hb
 have hpart:=hid (i_part_row hr hs)
 have hsz: (prog.info? 5).map (·.size)=some 1:=by kernel_rfl
 have hzv: ∀w,(zeroValue 5).run prog w = .ok (.int .u8 0) w:=λw=>by kernel_rfl
 have hnl:s.data.toList.length=s.size:=by rw[Lib.size_eq]
 have hlen:=hr.ok.len
 have hall:S.beg 2+S.s<=S.beg 6:=by simp only[Img.beg];omega
 have hcp:=λ(n:Nat)=>(by
  have h:=run_copy_row_string (P:=prog) (w.drewN n) 119 9 3 5 gb (S.beg 2) S.s S.s s (bcells S.b).toArray 5 underlying119 hsz (hr.row) hl (by simp[bcells];omega)
  have e: ((bcells S.b).toArray.toList.take (S.beg 2)++byteCells s.data.toList++ (bcells S.b).toArray.toList.drop (S.beg 2+s.size)).toArray= (bcells (putL S.b (S.beg 2) s.data.toList)).toArray:=by
   rw[<-putRow_eq,hnl,List.append_assoc]
   rfl
  rw[e]at h
  exact h: (Builtin.copy_ #[119,9] 3 #[.slice (some ⟨gb,S.beg 2,none⟩) S.s S.s,.string s]).run prog (w.drewN n)= .ok (.int .i64 (s.size:Int)) ((w.drewN n).setRow gb (bcells (putL S.b (S.beg 2) s.data.toList)).toArray))
 have hblk:=λn=>(putBlk (show Blk (w.drewN n) gb 5 (bcells S.b).toArray from hr.row) (bcells (putL S.b (S.beg 2) s.data.toList)).toArray)
 have hplen: (putL S.b (S.beg 2) s.data.toList).length=S.b.length:=putL_len _ _ _ oM
 have hkr:=λn=>(Kept.setRow (S:=λk=>k=gb) (((Kept.refl (λk=>k=gb) w).drewN n)) (g:=gb) (.inl rfl) (bcells (putL S.b (S.beg 2) s.data.toList)).toArray)
 have hgB: ∀(W W':World),Blk W gb 5 (bcells (putL S.b (S.beg 2) s.data.toList)).toArray->(∀j,j<S.s-s.size->(W.cell? ⟨gb,S.beg 2+s.size+j,none⟩).isSome=true)∧(∀j,j<S.s-s.size->W.frozen? ⟨gb,S.beg 2+s.size+j,none⟩=false):=λW W' hB=>by
  refine⟨λj hj=> ?_,λj hj=>hB.frozen _⟩
  rw[hB.cell]
  have h3:S.beg 2+s.size+j< (putL S.b (S.beg 2) s.data.toList).length:=by omega
  simp[bcells,h3]
 have hfinal:putL (putL S.b (S.beg 2) s.data.toList) (S.beg 2+s.size) (List.replicate (S.s-s.size) 0)= (Setup.load S s.data.toList).b:=by
  have:=putL_append S.b (S.beg 2) s.data.toList (List.replicate (S.s-s.size) 0) oM
  rw[hnl]at this
  rw[this]
  unfold Setup.load
  rw[hnl]
  rfl
 have hok: (Setup.load S s.data.toList).Ok:=by
  unfold Setup.load
  exact put_ok hr.ok _ _ (by simp;omega)
 have hbk:imgCells gb (Setup.load S s.data.toList)=imgCells gb S:=rfl
 have hclose: ∀W,Blk W gb 5 (bcells (Setup.load S s.data.toList).b).toArray->Kept (λk=>k=gb) w W->On F w (ImgA g (Setup.load S s.data.toList)) W:=λW hB hk=>by
  refine⟨F,⟨gb,⟨?_,hB,hok⟩,hF⟩,hk.mono (λk h=>(hF k).2 (.inr h)),λk h=> .inl h⟩
  rw[hbk]
  exact hr.blk.kept hk hr.ne
 have hsm:=hr.ok.small
 clear hbk hok
 generalize (Setup.load S s.data.toList)=Sf at *
 generalize S.beg 2=b at *
 generalize hN:S.beg 6=N at *
 generalize S.s=n at *
 generalize hmid:putL S.b b s.data.toList=mid at *
 replace hclose:=hid hclose
 replace hfinal:=hid hfinal
 replace hblk:=hid hblk
 replace hkr:=hid hkr
 replace hgB:=hid hgB
 replace hcp:=hid hcp
 replace hzv:=hid hzv
 rw[hlen]at hplen
 replace hplen:=hid hplen
 replace hmid:=hid hmid
 replace hN:=hid hN
 by_cases hlt:s.size<n
 ·clear hr hF hsz hlen
  go_enter func26,ntmps26
  go_wp2_with fail
  refine hpart.out.mono ?_
  rintro e w1 ⟨m,rfl,rfl⟩
  have hc:=hcp.out m
  have hB:=hblk.out m
  obtain⟨g1,g2⟩:=hgB.out _ w hB
  have hcl: ∀ty,(Builtin.clear_ #[119] ty #[.slice (some ⟨gb,b+s.size,none⟩) (n-s.size) (n-s.size)]).run prog ((w.drewN m).setRow gb (bcells mid).toArray)= .ok (.tuple #[]) (((w.drewN m).setRow gb (bcells mid).toArray).setCells gb (b+s.size) (List.replicate (n-s.size) (.int .u8 0))):=
   λty=>run_clear_slice _ 119 5 ty (.int .u8 0) underlying119 hzv.out rfl rfl gb (b+s.size) (n-s.size) _ oM g1 g2
  obtain⟨z1,z2⟩:=blk_zero (n-s.size) (b+s.size) _ mid (by rw[hplen.out];omega) hB
  rw[hfinal.out]at z1
  have hfin:=hclose.out _ z1 ((hkr.out m).trans z2)
  replace hfin:=hid hfin
  replace hB:=hid hB
  replace z1:=hid z1
  replace z2:=hid z2
  replace g1:=hid g1
  replace g2:=hid g2
  go_wp2
  go_ret
  exact⟨rfl,hfin.out⟩
 ·have hse:s.size=n:=by omega
  have hfB:=λm=>(hblk.out m)
  have hf2:=hfinal.out
  rw[show n-s.size=0 by omega,List.replicate_zero,putL_nil]at hf2
  have hfin:=λm=>(by
   have h:=hfB m
   rw[hf2]at h
   have h2:=hkr.out m
   rw[hf2]at h2
   exact hclose.out _ h h2:On F w (ImgA g Sf) ((w.drewN m).setRow gb (bcells Sf.b).toArray))
  have hcp2:=λm=>(by
   have h:=hcp.out m
   rw[hf2,hse]at h
   exact h: (Builtin.copy_ #[119,9] 3 #[.slice (some ⟨gb,b,none⟩) n n,.string s]).run prog (w.drewN m)= .ok (.int .i64 (n:Int)) ((w.drewN m).setRow gb (bcells Sf.b).toArray))
  have hcl: ∀(ty:TypeId) (a:Addr) (W:World),(Builtin.clear_ #[119] ty #[.slice (some a) 0 0]).run prog W = .ok (.tuple #[]) W:=λty a W=>by
   simp[Builtin.clear_,run_underlying underlying119]
  replace hcp2:=hid hcp2
  replace hfin:=hid hfin
  replace hcl:=hid hcl
  clear hr hF hsz hlen hf2 hfB
  go_enter func26,ntmps26
  go_wp2_with fail
  refine hpart.out.mono ?_
  rintro e w1 ⟨m,rfl,rfl⟩
  have hc:=hcp2.out m
  have hcl1:=λty=>hcl.out ty ⟨gb,b,none⟩ ((w.drewN m).setRow gb (bcells Sf.b).toArray)
  have hdn:decide ((n:Int) < (s.size:Int))=false:=decide_eq_false oM
  replace hse:=hid hse
  go_wp2
  go_ret
  exact⟨rfl,(hfin.out m)⟩
end
end Vm
end Go.Proofs.YtngdikikclfgjaaGreatDoor
