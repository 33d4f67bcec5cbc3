/- Chapter 8: Find in two wordlists, one behind the other. Conditions: as written. -/
import Derived.Test.YtngdikikclfgjaaGreatDoorZ22
import Derived.Test.YtngdikikclfgjaaGreatDoorZ31
open Go.Proofs.Tryz
namespace Go.Proofs.YtngdikikclfgjaaGreatDoor
set_option linter.unusedVariables false
set_option linter.unusedSimpArgs false
set_option maxHeartbeats 8000000
set_option maxRecDepth 100000
open Go.RowKit Go.Lib Go.Deep
namespace Vm
theorem setCell_okD{S:Img}(h:S.Ok)(m a v:Int): (S.setCell m a v).Ok:=by
 unfold Img.setCell
 split
 ·rename_i hc
  unfold Img.cellF at hc
  split at hc
  ·cases hc
  split at hc
  ·rename_i hr
   obtain⟨h0,h1⟩:=S.row_in hr oM
   exact put_ok h _ _ (by rw[toB_len];omega)
  ·cases hc
 ·exact h
section
variable {w W:World}{F:Nat->Prop}{gx:Nat}{src:Value}{y:Dy}{r:Rc}{ws sv:Value}{x:Rw}{seen:List Stp}
theorem d_set{gM gb:Nat}{S:Img}{L:List Asr}(i j:Nat)(hij:i≠j)(h:On F w (AllA L) W)(hi:L[i]? = some (BlkA gM 121 (rimgCells gb S)))(hj:L[j]? = some (RbA gb S))(hS:S.Ok)(m a v:Int)(hf:S.cellF m a true=0)(hv:V64 v):
 Calls prog 60 #[.pointer (some ⟨gM,0,none⟩),.int .i64 m,.int .i64 a,.int .i64 v] W (Got (.returned (.int .i64 0)) (AllA ((L.set j (RbA gb (S.setCell m a v))).set i (BlkA gM 121 (rimgCells gb (S.setCell m a v))))) F w):=by
 refine h.callAt2G i j hij hi hj λF' hb=> ?_
 obtain⟨F1,F2,h1,h2,hd,hF⟩:=hb
 obtain⟨F3,F4,h3,h4,hd2,hF2⟩:=h2
 have hr:IRRep W gM gb S:=⟨h1.1,h3.1,hS⟩
 have hal:a % 8=0:=by
  apply Classical.byContradiction
  intro hn
  unfold Img.cellF at hf
  rw[if_pos hn]at hf
  cases hf
 have hok:S.rowOk m a 8 true=true:=by
  cases hk:S.rowOk m a 8 true
  ·unfold Img.cellF at hf
   rw[if_neg oM,if_neg (by rw[hk];simp)]at hf
   cases hf
  ·rfl
 rcases r_row_of hr m a 8 oM oM true with⟨hk,_⟩ | ⟨hk,k,rfl,hle,hrow⟩
 ·rw[hk]at hok;cases hok
 refine(r_set_yes hr m v hv k hle hal hrow).mono ?_
 rintro e w' ⟨rfl,hb',hk'⟩
 have e1:S.setCell m k v=S.put k (toB v):=by unfold Img.setCell;rw[if_pos hf];rfl
 have hFk:F' gb:=(hF gb).2 (.inr ((hF2 gb).2 (.inl ((h3.2 gb).2 rfl))))
 refine⟨rfl,F',⟨F1,F2,⟨?_,h1.2⟩,⟨F3,F4,⟨?_,h3.2⟩,h4,hd2,hF2⟩,hd,hF⟩,hk'.mono (λk hk=>by rw[hk];exact hFk),λk hk=> .inl hk⟩
 ·rw[e1,rimg_alike gb (Alike.put S k (toB v))]
  exact h1.1.kept hk' hr.ne
 ·rw[e1]
  exact hb'
theorem dx_rep(h:On F w (AllA (dXL gx src y r ws sv x seen)) W)(hS:x.S.Ok):IRRep W r.gM r.gb x.S:=⟨h.blkAt 9 rfl,h.blkAt 10 rfl,hS⟩
theorem dx_rl(h:On F w (AllA (dXL gx src y r ws sv x seen)) W)(hw:DW x):RlIn W r.gS r.gb 16448 16960 704 false x.D x.S:=by
 have hb:Blk W r.gS 149 (rdicC r.gb 16448 16960 704 false x.D):=h.blkAt 6 rfl
 have hr:Blk W r.gb 5 (bcells x.S.b).toArray:=h.blkAt 10 rfl
 exact⟨⟨hb.cell 0,hb.cell 1,hb.cell 2,hb.cell 3,hb.cell 4,λi=>hb.frozen i⟩,hr,hw.h8,by omega⟩
theorem row_first{A:World}{F:Nat->Prop}{v:Value}{wd:Wd}{l:List Wd}(h: (RowW v (wd::l)).holds A F): ∃g cap,v = .slice (some ⟨g,0,none⟩) (l.length+1) cap∧A.cell? ⟨g,2,none⟩=some (.int .i64 (wd.xt:Int)):=by
 rcases rowW_form h with⟨_,h2⟩ | ⟨g,cap,h1,h2⟩
 ·cases h2
 ·exact⟨g,cap,h1,h2 0 (by simp) 2 oM⟩
def Rw.does(x:Rw)(xt:Nat)(m v:Int):Rw:=x.dic (x.S.setCell m xt v) x.D
theorem r_done(h:On F w (AllA (dXL gx src y r ws sv x seen)) W)(hw:DW x)(wd:Wd)(rest:List Wd)(hws:words x.S x.D=wd::rest)(hln: (wd::rest).length<=100000)(a:Int)(hf1:x.S.cellF y.mode wd.xt false=0)(v:Int)(hv:x.S.cellV y.mode wd.xt=v)(hvv:V64 v)(hu:Code.unpack v= (17,a,true))(hpc:0<=y.pc∧y.pc<=1000000)(hf2:x.S.cellF y.mode wd.xt true=0)(k:Nat)(hk:x.rd=k+1):
 Calls prog 237 #[.pointer (some ⟨gx,0,none⟩)] W (Got (.returned (.int .i64 0)) (AllA (dXL gx src { y with next:=x.ra.getD k 0,over:=x.ra.getD k 0==0 } r ws sv ((x.does wd.xt y.mode (256* (y.pc+8) +17)).pop k) seen)) F w):=by
 have hrt:Code.right 17 (y.pc+8)=true:=by
  rw[Code.right_iff]
  exact⟨by omega,by omega,.inl ⟨by omega,by omega,by omega⟩⟩
 have hcv:V64 (256* (y.pc+8) +17):=by unfold V64;omega
 have hall1:=r_all (dx_rl h hw)
 rw[hws]at hall1
 have hall2:Calls prog 35 #[.pointer (some ⟨r.gS,0,none⟩)] W (PostE (λe B=> ∃v,e = .returned v∧B=AllA [RowW v (wd::rest)]) Nob W):=hall1.mono λe w' ⟨v,he,hon⟩=>⟨_,⟨v,he,rfl⟩,hon⟩
 have hall:=h.make hall2
 have hcell: ∀v0 W2,On F w (AllA (RowW v0 (wd::rest)::dXL gx src y r ws sv x seen)) W2->Calls prog 184 #[.pointer (some ⟨r.gM,0,none⟩),.int .i64 y.mode,.int .i64 (wd.xt:Int)] W2 (Quiet (.tuple #[.int .i64 v,.int .i64 0]) W2):=λv0 W2 h2=>by
  have h3:=Img.q_cell (dx_rep h2.tail hw.ok.S) y.mode (wd.xt:Int)
  rw[hf1,hv]at h3
  exact h3
 have hset: ∀v0 W2,On F w (AllA (RowW v0 (wd::rest)::dXL gx src y r ws sv x seen)) W2->Calls prog 60 #[.pointer (some ⟨r.gM,0,none⟩),.int .i64 y.mode,.int .i64 (wd.xt:Int),.int .i64 (256* (y.pc+8) +17)] W2 (Got (.returned (.int .i64 0)) (AllA (RowW v0 (wd::rest)::dXL gx src y r ws sv (x.does wd.xt y.mode (256* (y.pc+8) +17)) seen)) F w):=λv0 W2 h2=>d_set 10 11 (by decide) h2 rfl rfl hw.ok.S y.mode (wd.xt:Int) _ hf2 hcv
 have hok2:DOk (x.does wd.xt y.mode (256* (y.pc+8) +17)):=⟨hw.ok.dd,hw.ok.da,hw.ok.rd,hw.ok.ra,setCell_okD hw.ok.S _ _ _,hw.ok.L.alike (Alike.setCell _ _ _ _)⟩
 have hback: ∀v0 W2,On F w (AllA (RowW v0 (wd::rest)::dXL gx src y r ws sv (x.does wd.xt y.mode (256* (y.pc+8) +17)) seen)) W2->Calls prog 235 #[.pointer (some ⟨gx,0,none⟩)] W2 (Got (.returned (.int .i64 0)) (AllA (RowW v0 (wd::rest)::dXL gx src { y with next:=x.ra.getD k 0,over:=x.ra.getD k 0==0 } r ws sv ((x.does wd.xt y.mode (256* (y.pc+8) +17)).pop k) seen)) F w):=λv0 W2 h2=>On.callTail h2 λF' hb _ _=>r_back (x:=x.does wd.xt y.mode (256* (y.pc+8) +17)) k hk hok2 (On.refl hb)
 have hrow: ∀v0 x' W2,On F w (AllA (RowW v0 (wd::rest)::dXL gx src y r ws sv x' seen)) W2->∃g cap,v0 = .slice (some ⟨g,0,none⟩) (rest.length+1) cap∧W2.cell? ⟨g,2,none⟩=some (.int .i64 (wd.xt:Int)):=λv0 x' W2 h2=>by
  obtain⟨F1,hr⟩:=h2.at_ 0 rfl
  exact row_first hr
 have hcs: ∀v0 x' W2,On F w (AllA (RowW v0 (wd::rest)::dXL gx src y r ws sv x' seen)) W2->DxC W2 gx src y r ws sv x':=λv0 x' W2 h2=>dx_cells h2.tail
 have hun:=λW=>Unpack_walk v hvv W
 rw[hu]at hun
 have hpk:=λW=>Pack_yes 17 (y.pc+8) W hrt
 have hc:=dx_cells h
 have c0:=hc.x0
 have c3:=hc.w3
 obtain⟨hpc0,hpc1⟩:=hpc
 generalize x.does wd.xt y.mode (256* (y.pc+8) +17)=x2 at *
 obtain⟨n,hn⟩: ∃n:Nat,rest.length+1=n:=⟨_,rfl⟩
 rw[hn]at hrow
 have hn1:1<=n:=by omega
 have hne: ((n:Int) ==0)=false:=by rw[beq_eq_false_iff_ne];omega
 have hnl:decide ((0:Int) < (n:Int))=true:=decide_eq_true oM
 replace hall:=hid hall
 replace hcell:=hid hcell
 replace hset:=hid hset
 replace hback:=hid hback
 replace hrow:=hid hrow
 replace hcs:=hid hcs
 replace hun:=hid hun
 replace hpk:=hid hpk
 replace hn:=hid hn
 replace h:=hid h
 clear hall1 hall2 hok2 hws hln hf1 hv hvv hu hf2 hk hrt hcv hw hc
 go_enter func237,ntmps237
 go_wp2_with fail
 refine hall.out.mono ?_
 rintro e w1 ⟨B,⟨v0,rfl,rfl⟩,hon⟩
 simp only[]
 have hon:On F w (AllA (RowW v0 (wd::rest)::dXL gx src y r ws sv x seen)) w1:=hon.flat
 obtain⟨g,cap,rfl,g2⟩:=hrow.out _ _ _ hon
 have hc:=hcs.out _ _ _ hon
 clear c0 c3
 have c0:=hc.x0
 have c1:=hc.x1
 have c3:=hc.x3
 have w0:=hc.w0
 replace hon:=hid hon
 clear hc
 go_upto_region 5 with fail
 go_cut [5,6] (λt5 t6 wx=>t5 = .int .i64 v∧t6 = .int .i64 0∧On F w (AllA (RowW (.slice (some ⟨g,0,none⟩) n cap) (wd::rest)::dXL gx src y r ws sv x seen)) wx)
 case first=>
  go_region_held (λw'=>w'.cell? (r.gW,0)=some (.pointer (some ⟨r.gM,0,none⟩))∧w'.cell? (gx,1)=some (.int .i64 y.mode)∧w'.cell? (g,2)=some (.int .i64 (wd.xt:Int))) (go_keep)
   ((go_at_call 184;refine mo (hcell.out _ _ (hon.out.drewN _)) λw3 hb=>?_;simp only[];have h3:=(hon.out.drewN _).below hb;have n0:=(hcs.out _ _ _ h3).w0;have n1:=(hcs.out _ _ _ h3).x1;obtain⟨gg,cc,ee,n2⟩:=hrow.out _ _ _ h3;cases ee;replace h3:=hid h3;replace hb:=hid hb))
  all_goals go_wp2_with fail
  all_goals go_meet
  all_goals exact⟨rfl,rfl,h3.out⟩
 case rest=>
 obtain⟨rfl,rfl,hon2⟩:=hcut
 have hc:=hcs.out _ _ _ hon2
 clear c0 c1 c3 w0 g2 hon
 have c3:=hc.x3
 replace hon2:=hid hon2
 clear hc
 go_wp2_with fail
 refine(hun.out _).mono ?_
 rintro e w2 ⟨rfl,rfl⟩
 simp only[]
 go_wp2_with fail
 refine(hpk.out _).mono ?_
 rintro e w3 ⟨rfl,rfl⟩
 simp only[]
 have hc:=hcs.out _ _ _ hon2.out
 have k0:=hc.w0
 have k1:=hc.x1
 obtain⟨gg,cc,ee,g2⟩:=hrow.out _ _ _ hon2.out
 cases ee
 clear hc
 go_upto_region 14 with fail
 go_cut [6] (λt6 wx=>t6 = .int .i64 0∧On F w (AllA (RowW (.slice (some ⟨g,0,none⟩) n cap) (wd::rest)::dXL gx src y r ws sv x2 seen)) wx)
 case first=>
  go_region_held (λw'=>w'.cell? (r.gW,0)=some (.pointer (some ⟨r.gM,0,none⟩))∧w'.cell? (gx,1)=some (.int .i64 y.mode)∧w'.cell? (g,2)=some (.int .i64 (wd.xt:Int))) (go_keep)
   ((go_at_call 60;refine mo (hset.out _ _ (hon2.out.drewN _)) λw3 h3=>?_;simp only[];have n0:=(hcs.out _ _ _ h3).w0;have n1:=(hcs.out _ _ _ h3).x1;obtain⟨gg,cc,ee,n2⟩:=hrow.out _ _ _ h3;cases ee;replace h3:=hid h3))
  all_goals go_wp2_with fail
  all_goals go_meet
  all_goals exact⟨rfl,h3.out⟩
 case rest=>
 obtain⟨rfl,hon3⟩:=hcut
 have hb:=hback.out _ _ hon3
 replace hb:=hid hb
 clear k0 k1 g2 c3 hon2 hon3
 go_wp2_with fail
 refine mo hb.out λw4 hon4=>?_
 simp only[]
 have hon5:=hon4.tail
 replace hon5:=hid hon5
 clear hon4
 go_wp2
 go_ret
 exact⟨rfl,hon5.out⟩
end
section
variable {w W:World}{F:Nat->Prop}{gx:Nat}{L L':List Asr}{f:Int}
theorem r_does(op arg lit cells:Int)(hs: (op=85∧∀W2,On F w (AllA L) W2->Calls prog 198 #[.pointer (some ⟨gx,0,none⟩)] W2 (Got (.returned (.int .i64 f)) (AllA L') F w))∨
 (op=74∧∀W2,On F w (AllA L) W2->Calls prog 196 #[.pointer (some ⟨gx,0,none⟩),.int .i64 74] W2 (Got (.returned (.int .i64 f)) (AllA L') F w))∨
 (op=18∧∀W2,On F w (AllA L) W2->Calls prog 192 #[.pointer (some ⟨gx,0,none⟩),.agg #[.int .i64 18,.int .i64 arg,.int .i64 lit,.int .i64 cells]] W2 (Got (.returned (.int .i64 f)) (AllA L') F w))) (h:On F w (AllA L) W):
 Calls prog 133 #[.pointer (some ⟨gx,0,none⟩),.agg #[.int .i64 op,.int .i64 arg,.int .i64 lit,.int .i64 cells]] W (Got (.returned (.int .i64 f)) (AllA L') F w):=by
 have hon:=h.alloc (.cells #[.int .i64 op,.int .i64 arg,.int .i64 lit,.int .i64 cells] 213)
 rcases hs with⟨rfl,hc⟩ | ⟨rfl,hc⟩ | ⟨rfl,hc⟩
 all_goals
  replace hc:=hid hc
  replace hon:=hid hon
  clear h
  go_enter func133,ntmps133
  go_wp2_with fail
  refine mo (hc.out _ hon.out) λw2 hon2=>?_
  simp only[]
  replace hon2:=hid hon2
  go_wp2
  go_ret
  exact⟨rfl,hon2.out⟩
end
section
variable {w W:World}{F:Nat->Prop}{gx:Nat}{src:Value}{y:Dy}{r:Rc}{ws sv:Value}{x:Rw}{seen:List Stp}{L':List Asr}{f:Int}
theorem r_control(arg lit cells:Int)(h:On F w (AllA (dXL gx src y r ws sv x seen)) W)(hd: ∀W2,On F w (AllA (dXL gx src y r ws sv x seen)) W2->Calls prog 237 #[.pointer (some ⟨gx,0,none⟩)] W2 (Got (.returned (.int .i64 f)) (AllA L') F w)):
 Calls prog 192 #[.pointer (some ⟨gx,0,none⟩),.agg #[.int .i64 18,.int .i64 arg,.int .i64 lit,.int .i64 cells]] W (Got (.returned (.int .i64 f)) (AllA L') F w):=by
 have hon:=h.alloc (.cells #[.int .i64 18,.int .i64 arg,.int .i64 lit,.int .i64 cells] 213)
 have hwt:=λW=>Wants_walk 18 W
 rw[show Code.wants 18= (0,0)by decide]at hwt
 have ha:=r_args0 hon
 have hcs: ∀W2,On F w (AllA (dXL gx src y r ws sv x seen)) W2->DxC W2 gx src y r ws sv x:=λW2 h2=>dx_cells h2
 have hb1:=Blk.new W 213 #[.int .i64 18,.int .i64 arg,.int .i64 lit,.int .i64 cells]
 have hc:=hcs _ hon
 have c0:=hc.x0
 replace hd:=hid hd
 replace hwt:=hid hwt
 replace ha:=hid ha
 replace hon:=hid hon
 replace hcs:=hid hcs
 replace hb1:=hid hb1
 clear h hc
 go_enter func192,ntmps192
 go_wp2_with fail
 refine mo (hwt.out _) λw1 hw1=>?_
 simp only[]
 have ha1:=ha.out
 have hon1:=hon.out
 have hb2:=hb1.out
 rw[<-hw1]at ha1 hon1 hb2
 replace hw1:=hid hw1
 replace ha1:=hid ha1
 replace hon1:=hid hon1
 replace hb2:=hid hb2
 clear c0
 go_wp2_with fail
 refine mo ha1.out λw2 hb=>?_
 simp only[]
 have hon2:=hon1.out.below hb
 have hb3:=hb2.out.below hb hb2.out.lt
 have b0:w2.cell? (W.heap.size,0)=some (.int .i64 18):=hb3.cell 0
 have hc:=hcs.out _ hon2
 have c3:=hc.x3
 have hcall:=hd.out _ hon2
 replace hcall:=hid hcall
 replace hon2:=hid hon2
 replace hb3:=hid hb3
 replace hb:=hid hb
 clear hc
 go_wp2_with fail
 refine mo hcall.out λw3 hon3=>?_
 simp only[]
 replace hon3:=hid hon3
 clear b0 c3
 go_wp2
 go_ret
 exact⟨rfl,hon3.out⟩
end
def pXL(p:Option Asr)(gx:Nat)(src:Value)(y:Dy)(r:Rc)(ws sv:Value)(x:Rw)(seen:List Stp):List Asr:=
 match p with
 | none=>dXL gx src y r ws sv x seen
 | some A=>A::dXL gx src y r ws sv x seen
section
variable {w W:World}{F:Nat->Prop}{gx:Nat}{src:Value}{y y2:Dy}{r:Rc}{ws sv:Value}{x x2:Rw}{seen:List Stp}{p p':Option Asr}
theorem px_dx(h:On F w (AllA (pXL p gx src y r ws sv x seen)) W):On F w (AllA (dXL gx src y r ws sv x seen)) W:=by
 rcases p with _|A
 ·exact h
 ·exact h.tail
theorem px_call{f:FuncId}{args:Array Value}{e0:Ending}{y':Dy}{x':Rw}(h:On F w (AllA (pXL p gx src y r ws sv x seen)) W)(hc: ∀F',On F' W (AllA (dXL gx src y r ws sv x seen)) W->Calls prog f args W (Got e0 (AllA (dXL gx src y' r ws sv x' seen)) F' W)):Calls prog f args W (Got e0 (AllA (pXL p gx src y' r ws sv x' seen)) F w):=by
 rcases p with _|A
 ·exact h.callG λF' hb=>hc F' (On.refl hb)
 ·exact On.callTail h λF' hb _ _=>hc F' (On.refl hb)
theorem px_next(v:Int)(h:On F w (AllA (pXL p gx src y r ws sv x seen)) W):On F w (AllA (pXL p gx src { y with next:=v } r ws sv x seen)) (W.setCell ⟨gx,4,none⟩ (.int .i64 v)):=by
 rcases p with _|A
 ·exact h.setAt 0 rfl 4 (.int .i64 v)
 ·exact h.setAt 1 rfl 4 (.int .i64 v)
theorem px_left(v:Int)(h:On F w (AllA (pXL p gx src y r ws sv x seen)) W):On F w (AllA (pXL p gx src { y with left:=v } r ws sv x seen)) (W.setCell ⟨gx,2,none⟩ (.int .i64 v)):=by
 rcases p with _|A
 ·exact h.setAt 0 rfl 2 (.int .i64 v)
 ·exact h.setAt 1 rfl 2 (.int .i64 v)
theorem px_pc(v:Int)(h:On F w (AllA (pXL p gx src y r ws sv x seen)) W):On F w (AllA (pXL p gx src { y with pc:=v } r ws sv x seen)) (W.setCell ⟨gx,3,none⟩ (.int .i64 v)):=by
 rcases p with _|A
 ·exact h.setAt 0 rfl 3 (.int .i64 v)
 ·exact h.setAt 1 rfl 3 (.int .i64 v)
theorem px_tell(h:On F w (AllA (pXL p gx src y r ws sv x seen)) W)(ho:DOk x)(ht:x.tells=true)(hsn:seen.length<=1000)(at_ op left:Int):
 Calls prog 134 #[.pointer (some ⟨r.gW,0,none⟩),.int .i64 at_,.int .i64 op,.int .i64 left] W (λe w'=>e = .returned (.tuple #[])∧∃sv' seen',seen'.length=seen.length+1∧On F w (AllA (pXL p gx src y r ws sv' x seen')) w'):=by
 rcases p with _|A
 ·exact w_tell h ho ht hsn at_ op left
 ·refine(On.callTailR (R:=λe L'=>e = .returned (.tuple #[])∧∃sv' seen',seen'.length=seen.length+1∧L'=dXL gx src y r ws sv' x seen') h λF' hb=>(w_tell (On.refl hb) ho ht hsn at_ op left).mono λe w2 ⟨h1,sv',seen',h2,h3⟩=>⟨_,⟨h1,sv',seen',h2,rfl⟩,h3⟩).mono ?_
  rintro e w2 ⟨L',⟨h1,sv',seen',h2,rfl⟩,h3⟩
  exact⟨h1,sv',seen',h2,h3⟩
theorem px_tellB{A:Asr}(h:On F w (AllA (A::pXL p gx src y r ws sv x seen)) W)(ho:DOk x)(ht:x.tells=true)(hsn:seen.length<=1000)(at_ op left:Int):
 Calls prog 134 #[.pointer (some ⟨r.gW,0,none⟩),.int .i64 at_,.int .i64 op,.int .i64 left] W (λe w'=>e = .returned (.tuple #[])∧∃sv' seen',seen'.length=seen.length+1∧On F w (AllA (A::pXL p gx src y r ws sv' x seen')) w'):=by
 refine(On.callTailR (R:=λe L'=>e = .returned (.tuple #[])∧∃sv' seen',seen'.length=seen.length+1∧L'=pXL p gx src y r ws sv' x seen') h λF' hb=>(px_tell (On.refl hb) ho ht hsn at_ op left).mono λe w2 ⟨h1,sv',seen',h2,h3⟩=>⟨_,⟨h1,sv',seen',h2,rfl⟩,h3⟩).mono ?_
 rintro e w2 ⟨L',⟨h1,sv',seen',h2,rfl⟩,h3⟩
 exact⟨h1,sv',seen',h2,h3⟩
theorem r_flush(hc:W.cell? (gx,1)=some (.int .i64 y.mode))(hm:y.mode=1∨y.mode=2):Calls prog 130 #[.pointer (some ⟨gx,0,none⟩)] W (Same (.tuple #[]) W):=by
 have hne: (y.mode==0)=false:=by rw[beq_eq_false_iff_ne];omega
 generalize y.mode=m at *
 clear hm
 go_enter func130,ntmps130
 go_wp2
 go_end0
 exact⟨rfl,rfl⟩
theorem r_step(op arg v f:Int)(h:On F w (AllA (pXL p gx src y r ws sv x seen)) W)(hl:1<=y.left∧y.left<=1000000)(hm:y.mode=1∨y.mode=2)(hpc:0<=y.pc∧y.pc<=1000000)(hop: (op=85)∨(op=74)∨(op=18))(hS:x.S.Ok)(hf:x.S.cellF y.mode y.pc false=0)(hv:x.S.cellV y.mode y.pc=v)(hvr:V64 v)(hun:Code.unpack v= (op,arg,true))
 (hask: ∀W2,On F w (AllA (pXL p gx src { y with left:=y.left-1,next:=y.pc+8 } r ws sv x seen)) W2->Calls prog 132 #[.pointer (some ⟨gx,0,none⟩),.agg #[.int .i64 op,.int .i64 arg,.int .i64 0,.int .i64 1]] W2 (Quiet (.int .i64 0) W2))
 (hdo: ∀F' W2,On F' W2 (AllA (pXL p gx src { y with left:=y.left-1,next:=y.pc+8 } r ws sv x seen)) W2->Calls prog 133 #[.pointer (some ⟨gx,0,none⟩),.agg #[.int .i64 op,.int .i64 arg,.int .i64 0,.int .i64 1]] W2 (Got (.returned (.int .i64 f)) (AllA (pXL p' gx src y2 r ws sv x2 seen)) F' W2))
 (ho2:DOk x2) (ht2:x2.tells=true) (hsn:seen.length<=1000):
 Calls prog 89 #[.pointer (some ⟨gx,0,none⟩)] W (λe w'=>e = .returned (.int .i64 f)∧∃sv' seen',seen'.length<=seen.length+1∧On F w (AllA (pXL p' gx src (if f=0 then { y2 with pc:=y2.next } else y2) r ws sv' x2 seen')) w'):=by
 have hcs: ∀(q:Option Asr) (y':Dy) (sv':Value) (x':Rw) (se:List Stp) W2,On F w (AllA (pXL q gx src y' r ws sv' x' se)) W2->DxC W2 gx src y' r ws sv' x':=λq y' sv' x' se W2 h2=>dx_cells (px_dx h2)
 have hle:=λW2 (h2:On F w (AllA (pXL p gx src y r ws sv x seen)) W2)=>px_left (y.left-1) h2
 have hfl: ∀W2,W2.cell? (gx,1)=some (.int .i64 y.mode)->Calls prog 130 #[.pointer (some ⟨gx,0,none⟩)] W2 (Same (.tuple #[]) W2):=λW2 h2=>r_flush h2 hm
 have hfe: ∀W2,On F w (AllA (pXL p gx src { y with left:=y.left-1 } r ws sv x seen)) W2->Calls prog 131 #[.pointer (some ⟨r.gM,0,none⟩),.int .i64 y.mode,.int .i64 y.pc] W2 (Quiet (.tuple #[.agg #[.int .i64 op,.int .i64 arg,.int .i64 0,.int .i64 1],.int .i64 0]) W2):=λW2 h2=>by
  obtain⟨hp0,hp1⟩:=hpc
  exact Img.q_fetch (dx_rep (px_dx h2) hS) y.mode y.pc v hf hv hvr oM op arg hun (by rw[beq_eq_false_iff_ne];omega) (by rw[beq_eq_false_iff_ne];omega)
 have hnx:=λW2 (h2:On F w (AllA (pXL p gx src { y with left:=y.left-1 } r ws sv x seen)) W2)=>px_next (y.pc+8) h2
 have hte:=λ(A:Asr) W2 (h2:On F w (AllA (A::pXL p' gx src y2 r ws sv x2 seen)) W2) (a b c:Int)=>px_tellB h2 ho2 ht2 hsn a b c
 have hpcs:=λ(sv':Value) (se:List Stp) W2 (h2:On F w (AllA (pXL p' gx src y2 r ws sv' x2 se)) W2)=>px_pc y2.next h2
 have hc:=hcs _ _ _ _ _ _ h
 have c2:=hc.x2
 have cf:=hc.xf 2
 obtain⟨hl1,hl2⟩:=hl
 obtain⟨hp0,hp1⟩:=hpc
 have hlz: (y.left==0)=false:=by rw[beq_eq_false_iff_ne];omega
 have hs1:=hle _ h
 replace hcs:=hid hcs
 replace hfl:=hid hfl
 replace hfe:=hid hfe
 replace hnx:=hid hnx
 replace hte:=hid hte
 replace hpcs:=hid hpcs
 replace hask:=hid hask
 replace hdo:=hid hdo
 replace hs1:=hid hs1
 replace h:=hid h
 clear hc hle hm hop hS hf hv hvr hun ho2 ht2 hsn
 go_enter func89,ntmps89
 go_upto_region 3 with fail
 go_cut [] (λwx=>On F w (AllA (pXL p gx src { y with left:=y.left-1 } r ws sv x seen)) wx)
 case first=>
  go_wp2_with fail
  go_meet
  exact hs1.out
 case rest=>
 have hon:=hcut
 have hc:=hcs.out _ _ _ _ _ _ hon
 have k1:wc.cell? (gx,1)=some (.int .i64 y.mode):=hc.x1
 have k0:=hc.x0
 have k3:wc.cell? (gx,3)=some (.int .i64 y.pc):=hc.x3
 have kw:=hc.w0
 have hfl1:=hfl.out _ k1
 replace hfl1:=hid hfl1
 replace hon:=hid hon
 clear hc hcut c2 cf hs1
 go_wp2_with fail
 refine hfl1.out.mono ?_
 rintro e w2 ⟨rfl,rfl⟩
 simp only[]
 have z0:=World.new_ne w2 _ k0
 have z1:=World.new_ne w2 _ kw
 go_upto_region 5 with fail
 go_cut [3,4] (λt3 t4 wx=> ∃g,t3 = .pointer (some ⟨g,0,none⟩)∧t4 = .int .i64 0∧On F w (AllA (BlkA g 213 #[.int .i64 op,.int .i64 arg,.int .i64 0,.int .i64 1]::pXL p gx src { y with left:=y.left-1 } r ws sv x seen)) wx)
 case first=>
  go_region_held (λw'=>w'.cell? (gx,0)=some (.pointer (some ⟨r.gW,0,none⟩))∧w'.cell? (gx,1)=some (.int .i64 y.mode)∧w'.cell? (gx,3)=some (.int .i64 y.pc)∧w'.cell? (r.gW,0)=some (.pointer (some ⟨r.gM,0,none⟩))) (go_keep)
   ((first
     | (go_at_call 131;refine mo (hfe.out _ (hon.out.drewN _)) λw3 hb=>?_;simp only[];have h3:=(hon.out.drewN _).below hb;have n0:=(hcs.out _ _ _ _ _ _ h3).x0;have n1:w3.cell? (gx,1)=some (.int .i64 y.mode):=(hcs.out _ _ _ _ _ _ h3).x1;have n3:w3.cell? (gx,3)=some (.int .i64 y.pc):=(hcs.out _ _ _ _ _ _ h3).x3;have nw:=(hcs.out _ _ _ _ _ _ h3).w0;replace h3:=hid h3;replace hb:=hid hb)
     | (go_at_call 131;refine mo (hfe.out _ (hon.out.alloc _).drew) λw3 hb=>?_;simp only[];have h3:=(hon.out.box #[.int .i64 0,.int .i64 0,.int .i64 0,.int .i64 0] 213).drew.below hb;have n0:=(hcs.out _ _ _ _ _ _ h3.tail).x0;have n1:w3.cell? (gx,1)=some (.int .i64 y.mode):=(hcs.out _ _ _ _ _ _ h3.tail).x1;have n3:w3.cell? (gx,3)=some (.int .i64 y.pc):=(hcs.out _ _ _ _ _ _ h3.tail).x3;have nw:=(hcs.out _ _ _ _ _ _ h3.tail).w0;have nb:=h3.blkAt 0 rfl;have nf0:=nb.frozen 0;have nf1:=nb.frozen 1;have nf2:=nb.frozen 2;have nf3:=nb.frozen 3;have nb0:w3.cell? (w2.heap.size,0)=some (.int .i64 0):=nb.cell 0;have nb1:w3.cell? (w2.heap.size,1)=some (.int .i64 0):=nb.cell 1;have nb2:w3.cell? (w2.heap.size,2)=some (.int .i64 0):=nb.cell 2;have nb3:w3.cell? (w2.heap.size,3)=some (.int .i64 0):=nb.cell 3;replace nb:=hid nb;replace h3:=hid h3;replace hb:=hid hb)))
  all_goals go_wp2_with fail
  all_goals go_meet
  all_goals first
   | exact⟨_,rfl,rfl,h3.out.box #[.int .i64 op,.int .i64 arg,.int .i64 0,.int .i64 1] 213⟩
   | exact⟨_,rfl,rfl,(((h3.out.setAt 0 rfl 0 (.int .i64 op)).setAt 0 rfl 1 (.int .i64 arg)).setAt 0 rfl 2 (.int .i64 0)).setAt 0 rfl 3 (.int .i64 1)⟩
 case rest=>
 obtain⟨g,rfl,rfl,hon2⟩:=hcut
 have hbx:=hon2.blkAt 0 rfl
 have b3:wc.cell? (g,3)=some (.int .i64 1):=hbx.cell 3
 have hc:=hcs.out _ _ _ _ _ _ hon2.tail
 have q3:wc.cell? (gx,3)=some (.int .i64 y.pc):=hc.x3
 have q4:=hc.x4
 have qf:=hc.xf 4
 have hnxt:On F w (AllA (BlkA g 213 #[.int .i64 op,.int .i64 arg,.int .i64 0,.int .i64 1]::pXL p gx src { y with left:=y.left-1,next:=y.pc+8 } r ws sv x seen)) (wc.setCell ⟨gx,4,none⟩ (.int .i64 (y.pc+8))):=by
  rcases p with _|A
  ·exact hon2.setAt 1 rfl 4 (.int .i64 (y.pc+8))
  ·exact hon2.setAt 2 rfl 4 (.int .i64 (y.pc+8))
 replace hnxt:=hid hnxt
 replace hon2:=hid hon2
 clear hbx hc k0 k1 k3 kw hon hfe hnx hfl hfl1
 go_upto_region 8 with fail
 go_cut [] (λwx=>On F w (AllA (BlkA g 213 #[.int .i64 op,.int .i64 arg,.int .i64 0,.int .i64 1]::pXL p gx src { y with left:=y.left-1,next:=y.pc+8 } r ws sv x seen)) wx)
 case first=>
  go_region
  all_goals(try go_wp2_with fail)
  all_goals go_meet
  all_goals first|exact hnxt.out.drew|exact hnxt.out|exact hnxt.out.drewN _
 case rest=>
 have hon3:=hcut
 have hbx:=hon3.blkAt 0 rfl
 have b0:wc.cell? (g,0)=some (.int .i64 op):=hbx.cell 0
 have b1:wc.cell? (g,1)=some (.int .i64 arg):=hbx.cell 1
 have b2:wc.cell? (g,2)=some (.int .i64 0):=hbx.cell 2
 have b4:wc.cell? (g,3)=some (.int .i64 1):=hbx.cell 3
 have hk:=hask.out _ hon3.tail
 replace hk:=hid hk
 replace hon3:=hid hon3
 clear hbx hcut q3 q4 qf b3 hon2 hnxt
 go_wp2_with fail
 refine mo hk.out λw3 hb=>?_
 simp only[]
 have hon4:=hon3.out.below hb
 have hbx:=hon4.blkAt 0 rfl
 clear b0 b1 b2 b4
 have b0:w3.cell? (g,0)=some (.int .i64 op):=hbx.cell 0
 have b1:w3.cell? (g,1)=some (.int .i64 arg):=hbx.cell 1
 have b2:w3.cell? (g,2)=some (.int .i64 0):=hbx.cell 2
 have b4:w3.cell? (g,3)=some (.int .i64 1):=hbx.cell 3
 have hd:=On.callTail hon4 λF' hb _ _=>hdo.out F' _ (On.refl hb)
 replace hd:=hid hd
 replace hon4:=hid hon4
 replace hb:=hid hb
 clear hbx hk hon3
 go_wp2_with fail
 refine mo hd.out λw4 hon5=>?_
 simp only[]
 clear b0 b1 b2 b4 hd hon4
 by_cases hf:f=0
 ·subst hf
  have hbx:=hon5.blkAt 0 rfl
  have b0:w4.cell? (g,0)=some (.int .i64 op):=hbx.cell 0
  have hc:=hcs.out _ _ _ _ _ _ hon5.tail
  have q0:=hc.x0
  have q2:=hc.x2
  have q3:=hc.x3
  replace hon5:=hid hon5
  clear hbx hc
  go_upto_region 15 with fail
  go_cut [] (λwx=> ∃sv' seen',List.length seen'=seen.length+1∧On F w (AllA (BlkA g 213 #[.int .i64 op,.int .i64 arg,.int .i64 0,.int .i64 1]::pXL p' gx src y2 r ws sv' x2 seen')) wx)
  case first=>
   go_region_held (λw'=>w'.cell? (gx,0)=some (.pointer (some ⟨r.gW,0,none⟩))∧w'.cell? (gx,2)=some (.int .i64 y2.left)∧w'.cell? (gx,3)=some (.int .i64 y2.pc)∧w'.cell? (g,0)=some (.int .i64 op)) (go_keep)
    ((go_at_call 134;refine(hte.out _ _ (hon5.out.drewN _) _ _ _).mono ?_;rintro e w5 ⟨rfl,sv',seen',hln,h3⟩;simp only[];have n0:=(hcs.out _ _ _ _ _ _ h3.tail).x0;have n2:=(hcs.out _ _ _ _ _ _ h3.tail).x2;have n3:=(hcs.out _ _ _ _ _ _ h3.tail).x3;have ng:w5.cell? (g,0)=some (.int .i64 op):=(h3.blkAt 0 rfl).cell 0;replace hln:=hid hln;replace h3:=hid h3))
   all_goals go_wp2_with fail
   all_goals go_meet
   all_goals exact⟨sv',seen',hln.out,h3.out⟩
  case rest=>
  obtain⟨sv',seen',hln,hon6⟩:=hcut
  have hc:=hcs.out _ _ _ _ _ _ hon6.tail
  clear q0 q2 q3 b0 hon5
  have q3:=hc.x3
  have q4:=hc.x4
  have qf:=hc.xf 3
  have hfin:=hpcs.out _ _ _ hon6.tail
  replace hfin:=hid hfin
  replace hln:=hid hln
  clear hc hon6
  go_wp2
  go_ret
  exact⟨rfl,sv',seen',Nat.le_of_eq hln.out,hfin.out⟩
 ·have hfb: (f != 0)=true:=by simpa using hf
  have hfin:=hon5.tail
  replace hf:=hid hf
  replace hfin:=hid hfin
  clear hon5
  go_wp2
  go_ret
  exact⟨rfl,sv,seen,Nat.le_succ _,hfin.out⟩
end
section
variable {w W:World}{F:Nat->Prop}{gx:Nat}{src:Value}{y:Dy}{r:Rc}{ws sv:Value}{x:Rw}{seen:List Stp}{p:Option Asr}
def Rw.push0(x:Rw):Rw:={ x with rd:=x.rd+1,ra:=x.ra.set x.rd 0 }
theorem dx_push0(ho:DOk x)(hr:x.rd<8)(h:On F w (AllA (dXL gx src y r ws sv x seen)) W)(rb:Nat)(hb:W.cell? (rb,0)=some (.int .i64 0)):Calls prog 57 #[.pointer (some ⟨r.gR,0,none⟩),.slice (some ⟨rb,0,none⟩) 1 1] W (Got (.returned (.int .i64 0)) (AllA (dXL gx src y r ws sv x.push0 seen)) F w):=
 h.callAtG 4 rfl λF' hb2=>rs_push (On.refl hb2) (by rw[ho.ra];exact hr) (by rw[ho.ra];omega) rb 0 hb
theorem r_whole(n:Nat)(P:Nat->Option Asr)(Y:Nat->Dy)(X:Nat->Rw)(f:Nat->Int)(xt:Int)(ho:DOk x)(hr:x.rd<8)(h:On F w (AllA (pXL (P 0) gx src y r ws sv x [])) W)(hY0:Y 0 = { y with pc:=xt })(hX0:X 0=x.push0)(hf0:f 0=0)(hov: ∀k,k<n->f k=0∧(Y k).over=false)(hend:f n≠0∨(Y n).over=true)
 (hst: ∀k,k<n->∀sv' se W2,List.length se<=k->On F w (AllA (pXL (P k) gx src (Y k) r ws sv' (X k) se)) W2->Calls prog 89 #[.pointer (some ⟨gx,0,none⟩)] W2 (λe w'=>e = .returned (.int .i64 (f (k+1)))∧∃sv2 se2,List.length se2<=se.length+1∧On F w (AllA (pXL (P (k+1)) gx src (Y (k+1)) r ws sv2 (X (k+1)) se2)) w')):
 Calls prog 63 #[.pointer (some ⟨gx,0,none⟩),.int .i64 xt] W (λe w'=>e = .returned (.int .i64 (f n))∧∃sv2 se2,On F w (AllA (pXL (P n) gx src (Y n) r ws sv2 (X n) se2)) w'):=by
 have hbx:=h.alloc (.cells #[.int .i64 0] 3)
 have hb1: (W.alloc (.cells #[.int .i64 0] 3)).cell? (W.heap.size,0)=some (.int .i64 0):=(Blk.new W 3 #[.int .i64 0]).cell 0
 have hpush:=px_call (y':=y) (x':=x.push0) hbx λF' h2=>dx_push0 ho hr h2 W.heap.size hb1
 have hcs: ∀(q:Option Asr) (y':Dy) (sv':Value) (x':Rw) (se:List Stp) W2,On F w (AllA (pXL q gx src y' r ws sv' x' se)) W2->DxC W2 gx src y' r ws sv' x':=λq y' sv' x' se W2 h2=>dx_cells (px_dx h2)
 have hc:=hcs _ _ _ _ _ _ h
 have c0:=hc.x0
 have c6:=hc.w6
 have hgx:=World.block_lt_of_cell? W _ c0
 have hgw:=World.block_lt_of_cell? W _ c6
 replace hpush:=hid hpush
 replace hcs:=hid hcs
 replace hst:=hid hst
 replace hov:=hid hov
 replace hend:=hid hend
 replace hX0:=hid hX0
 replace hY0:=hid hY0
 replace hf0:=hid hf0
 clear hc h hbx hb1 ho hr
 go_enter func63,ntmps63
 go_wp2_with fail
 refine mo hpush.out λw2 hon=>?_
 simp only[]
 have hc:=hcs.out _ _ _ _ _ _ hon
 have q3:=hc.x3
 have qf:=hc.xf 3
 have hpc:=px_pc xt hon
 rw[<-hY0.out,<-hX0.out]at hpc
 replace hpc:=hid hpc
 replace hon:=hid hon
 clear hc c0 c6
 go_upto_region 2 with fail
 go_cut [] (λwx=>On F w (AllA (pXL (P 0) gx src (Y 0) r ws sv (X 0) [])) wx)
 case first=>
  go_wp2_with fail
  go_meet
  exact hpc.out
 case rest=>
 have hon2:=hcut
 replace hon2:=hid hon2
 clear hcut hpc hon q3 qf hpush
 go_wp2
 go_loopg [5] n (λm t wr=> ∃k sv' se,k+m=n∧t = .int .i64 (f k)∧List.length se<=k∧On F w (AllA (pXL (P k) gx src (Y k) r ws sv' (X k) se)) wr)
 case atStart=>exact⟨0,sv,[],by omega,by rw[hf0.out],by simp,hon2.out⟩
 case round=>
  obtain⟨k,sv',se,hk,rfl,hse,honk⟩:=hrel
  have hc:=hcs.out _ _ _ _ _ _ honk
  have x5:=hc.x5
  by_cases hkn:k<n
  ·obtain⟨h1,h2⟩:=hov.out k hkn
   rw[h2]at x5
   have hs:=hst.out k hkn sv' se _ hse honk
   rw[h1]
   replace h1:=hid h1
   replace h2:=hid h2
   replace hs:=hid hs
   replace honk:=hid honk
   clear hc
   go_wp2_with fail
   refine hs.out.mono ?_
   rintro e w3 ⟨rfl,sv2,se2,hse2,hon3⟩
   simp only[]
   replace hon3:=hid hon3
   replace hse2:=hid hse2
   clear x5
   go_wp2
   go_roundg (gk-1)
   case measure=>omega
   case rel=>exact⟨k+1,sv2,se2,by omega,rfl,by have:=hse2.out;omega,hon3.out⟩
  ·obtain rfl:k=n:=by omega
   replace honk:=hid honk
   clear hc
   rcases hend.out with he|he
   ·have hfb: (f k==0)=false:=by rw[beq_eq_false_iff_ne];exact he
    replace he:=hid he
    go_wp2
    go_ret
    exact⟨rfl,sv',se,honk.out⟩
   ·rw[he]at x5
    replace he:=hid he
    go_wp2
    all_goals go_ret
    all_goals first
     | exact⟨rfl,sv',se,honk.out⟩
     | (have hz:f k=0:=(by assumption)
        rw[hz]
        exact⟨rfl,sv',se,honk.out⟩)
end
theorem On.addNil{F:Nat->Prop}{w W:World}{L:List Asr}(e:TypeId)(size:Nat)(h:On F w (AllA L) W):On F w (AllA (RowK e size (.slice none 0 0) 0 []::L)) W:=
 h.mono λF' ha=>⟨Nob,F',⟨World.ownsRow_nil _ _ _ _,λk=>⟨λh=>h.elim,λh=>by cases h⟩⟩,ha,λk a _=>a,λk=>⟨.inr,λh=>h.elim (λh=>h.elim) id⟩⟩
def qXL(p:Option Asr)(r:Rc)(ws:Value)(x:Rw):List Asr:=
 match p with
 | none=>docL r r.gS ws x
 | some A=>A::docL r r.gS ws x
section
variable {w W:World}{F:Nat->Prop}{src:Value}{r:Rc}{ws:Value}{x:Rw}{p:Option Asr}
def y00(mode left:Int):Dy:=⟨mode,left,0,0,false⟩
theorem q_start(mode left:Int)(h:On F w (AllA (qXL p r ws x)) W):On F w (AllA (pXL p W.heap.size src (y00 mode left) r ws (.slice none 0 0) x [])) (W.alloc (.cells (drC r.gW (y00 mode left) src) 163)):=by
 rcases p with _|A
 ·have h1:=((On.addNil 154 5 h).front 1 rfl).box (drC r.gW (y00 mode left) src) 163
  exact h1
 ·have h1:=(((On.addNil 154 5 h).front 2 rfl).front 2 rfl).box (drC r.gW (y00 mode left) src) 163
  exact h1.front 1 rfl
theorem r_clip(fuel:Int)(h:0<=fuel∧fuel<=1000000)(W:World):Calls prog 62 #[.int .i64 fuel] W (Same (.int .i64 fuel) W):=by
 obtain⟨h0,h1⟩:=h
 have g0:decide (fuel<0)=false:=decide_eq_false oM
 have g1:decide ((1000000:Int) <fuel)=false:=decide_eq_false oM
 go_enter func62,ntmps62
 go_wp2
 go_ret
 exact⟨rfl,rfl⟩
theorem r_run(sp:Option Addr)(mode xt fuel:Int)(hfu:0<=fuel∧fuel<=1000000)(n:Nat)(P:Nat->Option Asr)(Y:Nat->Dy)(X:Nat->Rw)(f:Nat->Int)(ho:DOk x)(hr:x.rd<8)(h:On F w (AllA (qXL (P 0) r ws x)) W)(hY0:Y 0 = { y00 mode fuel with pc:=xt })(hX0:X 0=x.push0)(hf0:f 0=0)(hov: ∀k,k<n->f k=0∧(Y k).over=false)(hend:f n≠0∨(Y n).over=true)(hlf:0<=(Y n).left∧(Y n).left<=1000000)
 (hst: ∀k,k<n->∀gx sv' se W2,List.length se<=k->On F w (AllA (pXL (P k) gx (.pointer sp) (Y k) r ws sv' (X k) se)) W2->Calls prog 89 #[.pointer (some ⟨gx,0,none⟩)] W2 (λe w'=>e = .returned (.int .i64 (f (k+1)))∧∃sv2 se2,List.length se2<=se.length+1∧On F w (AllA (pXL (P (k+1)) gx (.pointer sp) (Y (k+1)) r ws sv2 (X (k+1)) se2)) w')):
 Calls prog 37 #[.pointer (some ⟨r.gW,0,none⟩),.int .i64 mode,.int .i64 xt,.int .i64 fuel,.pointer sp] W (λe w'=>e = .returned (.tuple #[.int .i64 (f n),.int .i64 (fuel- (Y n).left)])∧∃gx sv2 se2,On F w (AllA (pXL (P n) gx (.pointer sp) (Y n) r ws sv2 (X n) se2)) w'):=by
 have hcl:=λW=>r_clip fuel hfu W
 have hwh:=λW2 (h2:On F w (AllA (pXL (P 0) W.heap.size (.pointer sp) (y00 mode fuel) r ws (.slice none 0 0) x [])) W2)=>r_whole n P Y X f xt ho hr h2 hY0 hX0 hf0 hov hend (λk hk=>hst k hk W.heap.size)
 have hs:=q_start (src:= .pointer sp) mode fuel h
 have hcs: ∀(q:Option Asr) (y':Dy) (gx:Nat) (sv':Value) (x':Rw) (se:List Stp) W2,On F w (AllA (pXL q gx (.pointer sp) y' r ws sv' x' se)) W2->DxC W2 gx (.pointer sp) y' r ws sv' x':=λq y' gx sv' x' se W2 h2=>dx_cells (px_dx h2)
 have hwh1:=hwh _ hs
 obtain⟨hl0,hl1⟩:=hlf
 obtain⟨hu0,hu1⟩:=hfu
 replace hcl:=hid hcl
 replace hwh1:=hid hwh1
 replace hcs:=hid hcs
 clear hwh hs h ho hr hY0 hX0 hf0 hov hend hst
 go_enter func37,ntmps37
 go_wp2_with fail
 refine mo (hcl.out _) λw1 hw1=>?_
 simp only[]
 subst hw1
 go_wp2_with fail
 refine hwh1.out.mono ?_
 rintro e w2 ⟨rfl,sv2,se2,hon⟩
 simp only[]
 have hc:=hcs.out _ _ _ _ _ _ _ hon
 have c2:=hc.x2
 replace hon:=hid hon
 clear hc
 go_wp2
 go_quiet (fail)
 go_wp2
 go_ret2
 exact⟨rfl,_,sv2,se2,hon.out.drewN _⟩
end
end Vm
end Go.Proofs.YtngdikikclfgjaaGreatDoor
