/- Chapter 3: writing into the program's image. Conditions: as written. -/
import Derived.Test.YteaijdgnagkllaaGreatDoorZd13
import Derived.Laws.CopyOwn
open Go.Proofs.Tryz
namespace Go.Proofs.YteaijdgnagkllaaGreatDoor
set_option linter.unusedVariables false
set_option linter.unusedSimpArgs false
set_option maxHeartbeats 8000000
open Go.RowKit Go.Lib
theorem i_set_mis(p:Value)(m a v:Int)(w:World)(hal:a % 8≠0):Calls prog 36 #[p,m,a,v] w (Same (.int .i64 6) w):=by
 have hal1: (bits .and .i64 a 7==0)=false:=by rw[beq_eq_false_iff_ne,i64_and7];exact hal
 clear hal
 go_enter func36,ntmps36
 go_wp2
 go_ret
 exact⟨rfl,rfl⟩
theorem i_set_no(p:Value)(m a v:Int)(w:World)(hal:a % 8=0)(hrow:Calls prog 51 #[p,m,a,(8:Int),(2:Int)] w (Same (.tuple #[.slice none 0 0,.bool false]) w)):
 Calls prog 36 #[p,m,a,v] w (Same (.int .i64 5) w):=by
 have hal1:bits .and .i64 a 7=0:=by rw[i64_and7];exact hal
 replace hrow:=hid hrow
 clear hal
 go_enter func36,ntmps36
 go_wp2_with fail
 refine hrow.out.mono ?_
 rintro e w1 ⟨rfl,rfl⟩
 go_wp2
 go_ret
 exact⟨rfl,rfl⟩
theorem Kept.setRow{S:Nat->Prop}{w w':World}(h:Kept S w w'){g:Nat}(hg:S g∨w.heap.size<=g)(cs:Array Value):Kept S w (w'.setRow g cs):=
 ⟨h.os,h.tape,h.output,by simpa [World.setRow]using h.size,λk hk hs=>by
  rw[setRow_other w' g k cs (by rintro rfl;rcases hg with hg|hg;exact hs hg;omega)]
  exact h.block k hk hs⟩
theorem Kept.ofBelow0{w w':World}(h:Below w.heap.size w w'):Kept Nob w w':=⟨h.os,h.tape,h.output,h.size,λk hk _=>h.block k hk⟩
theorem putRow_eq(b l:List UInt8)(k:Nat): ((bcells b).take k++ (bcells l++ (bcells b).drop (k+l.length)))=bcells (putL b k l):=by
 simp[bcells,putL]
theorem copy_row(w2:World)(gb k:Nat)(b:List UInt8)(hle:k+8<=b.length)(v:Int)(hb:Blk w2 gb 5 (bcells b).toArray)(hsz: (prog.info? 5).map (·.size)=some 1):
 (Builtin.copy_ #[43,43] 3 #[.slice (some ⟨gb,k,none⟩) 8 8,.slice w2.heap.size 8 8]).run prog (w2.alloc (.cells #[.int .u8 (tn v 0),.int .u8 (tn v 1),.int .u8 (tn v 2),.int .u8 (tn v 3),.int .u8 (tn v 4),.int .u8 (tn v 5),.int .u8 (tn v 6),.int .u8 (tn v 7)] 158))=
  .ok (.int .i64 8) ((w2.alloc (.cells #[.int .u8 (tn v 0),.int .u8 (tn v 1),.int .u8 (tn v 2),.int .u8 (tn v 3),.int .u8 (tn v 4),.int .u8 (tn v 5),.int .u8 (tn v 6),.int .u8 (tn v 7)] 158)).setRow gb (bcells (putL b k (toB v))).toArray):=by
 rw[tn_all]
 have hl: (bcells (toB v)).length=8:=by simp[bcells,toB_len]
 have hrun:=run_copy_row (P:=prog) (w2.alloc (.cells (bcells (toB v)).toArray 158)) 43 43 3 5 gb k 8 8 ⟨w2.heap.size,0,none⟩ 8 8 (bcells b).toArray 5 (bcells (toB v))
  underlying43 hsz (hb.alloc _) (by rw[hl];rfl) (λj x hj=>by
   have h1:=(Blk.new w2 158 (bcells (toB v)).toArray).cell j
   have h2: ((⟨w2.heap.size,0,none⟩:Addr).add j)= ⟨w2.heap.size,j,none⟩:=by simp[Addr.add];exact λh=>h.symm
   rw[h2,h1]
   simpa using hj) (by rw[hl];simpa [bcells]using hle) (λx hx=>by
   obtain⟨y,_,rfl⟩:=List.mem_map.1 hx
   rfl)
 rw[hrun,hl]
 have:=putRow_eq b (toB v) k
 rw[toB_len]at this
 rw[show(bcells b).toArray.toList=bcells b from rfl,List.append_assoc,this]
 rfl
theorem putBlk{w:World}{g:Nat}{t:TypeId}{cs:Array Value}(h:Blk w g t cs)(new:Array Value):Blk (w.setRow g new) g t new:=setRow_heap w g cs new t (0,0) h
set_option maxRecDepth 100000 in
theorem i_set_yes(p:Value)(m v:Int)(hv : -9223372036854775808<=v∧v<=9223372036854775807)(gb k:Nat)(b:List UInt8)(w:World)(hal: (k:Int) % 8=0)(hle:k+8<=b.length)
 (hrow:Calls prog 51 #[p,m,(k:Int),(8:Int),(2:Int)] w (Same (.tuple #[.slice (some ⟨gb,k,none⟩) 8 8,.bool true]) w)) (hb:Blk w gb 5 (bcells b).toArray):
 Calls prog 36 #[p,m,(k:Int),v] w λe w'=>e = .returned (.int .i64 0)∧Blk w' gb 5 (bcells (putL b k (toB v))).toArray∧Kept (λi=>i=gb) w w':=by
 have hal1:bits .and .i64 (k:Int) 7=0:=by rw[i64_and7];exact hal
 have hby:=bytes_walk v hv w
 rw[<-tn_all]at hby
 have hsz: (prog.info? 5).map (·.size)=some 1:=by kernel_rfl
 replace hby:=hid hby
 replace hrow:=hid hrow
 replace hb:=hid hb
 replace hsz:=hid hsz
 clear hal hv
 go_enter func36,ntmps36
 go_wp2_with fail
 refine hrow.out.mono ?_
 rintro e w1 ⟨rfl,rfl⟩
 go_wp2_with fail
 refine mo hby.out λw2 h2=>?_
 have hb2:=hid (hb.out.below h2 hb.out.lt)
 have hk2:=hid (Kept.ofBelow0 h2)
 clear h2
 have hcp:=copy_row w2 gb k b hle v hb2.out hsz.out
 replace hcp:=hcp
 go_wp2
 go_ret
 refine⟨rfl,?_,?_⟩
 ·exact putBlk (hb2.out.alloc _) _
 ·exact Kept.setRow (S:=λi=>i=gb) ((hk2.out.alloc _).mono (λ_ h=>h.elim)) (.inl rfl) _
def ImgA(g:Nat)(S:Img):Asr where
 holds w F:= ∃gb,IRep w g gb S∧∀k,F k↔k=g∨k=gb
 lt h hk:=by
  obtain⟨gb,h,hF⟩:=h
  rcases(hF _).1 hk with rfl|rfl
  ·exact h.blk.lt
  ·exact h.row.lt
 kept h hk hT:=by
  obtain⟨gb,h,hF⟩:=h
  exact⟨gb,⟨h.blk.kept hk (hT _ ((hF _).2 (.inl rfl))),h.row.kept hk (hT _ ((hF _).2 (.inr rfl))),h.ok⟩,hF⟩
theorem IRep.ne{w:World}{g gb:Nat}{S:Img}(h:IRep w g gb S):g≠gb:=h.blk.ne_ h.row (by decide)
theorem Img.Ok.put{S:Img}(h:S.Ok)(k:Nat)(l:List UInt8)(hk:k+l.length<=S.beg 6): (S.put k l).Ok:=by
 have hb: ∀i,(S.put k l).beg i=S.beg i:=λi=>by unfold Img.beg Img.put;rfl
 exact⟨by rw[hb];show(putL S.b k l).length=_;rw[putL_len _ _ _ (by rw[h.len];exact hk)];exact h.len,by rw[hb];exact h.small⟩
section
variable {w0 w:World}{g:Nat}{S:Img}{L:List Asr}
theorem ImgA.rep(h:At w0 w (ImgA g S::L)): ∃gb,IRep w g gb S:=by obtain⟨F,gb,h,_⟩:=h.first;exact⟨gb,h⟩
theorem At.ofBelow{w':World}(h:At w0 w L)(hb:Below w.heap.size w w'):At w0 w' L:=h.keptNob (Kept.ofBelow0 hb)
theorem a_cell(h:At w0 w (ImgA g S::L))(m a:Int):Calls prog 79 #[g,m,a] w (Got1 (.tuple #[(S.cellV m a),(S.cellF m a false)]) (ImgA g S) w0 L):=by
 obtain⟨gb,hr⟩:=ImgA.rep h
 exact(i_cell hr m a).mono λe w' h'=>⟨h'.1,h.ofBelow h'.2⟩
theorem a_setCell(h:At w0 w (ImgA g S::L))(m a v:Int)(hv : -9223372036854775808<=v∧v<=9223372036854775807):
 Calls prog 36 #[g,m,a,v] w (Got1 (.int .i64 (S.cellF m a true)) (ImgA g (S.setCell m a v)) w0 L):=by
 refine h.call1 λF hF=> ?_
 obtain⟨gb,hr,hFk⟩:=hF
 by_cases hal:a % 8=0
 ·have h80: (8:Nat)≠0:=by omega
  have h8: (8:Nat)<=9223372036854775807:=by omega
  rcases i_row_of hr m a 8 h80 h8 true with⟨hk,hrow⟩ | ⟨hk,k,rfl,hle,hrow⟩
  ·have hC:S.cellF m a true=5:=by unfold Img.cellF;simp[hal,hk]
   have hS:S.setCell m a v=S:=by unfold Img.setCell;simp[hC]
   rw[hC,hS]
   refine(i_set_no _ m a v w hal hrow).mono ?_
   rintro e w' ⟨rfl,rfl⟩
   exact⟨_,_,F,⟨rfl,rfl⟩,rfl,⟨gb,hr,hFk⟩,Kept.refl _ _,λk hk=> .inl hk⟩
  ·have hC:S.cellF m k true=0:=by unfold Img.cellF;simp[hal,hk]
   have hS:S.setCell m k v=S.put k (toB v):=by unfold Img.setCell;simp[hC]
   rw[hC,hS]
   refine(i_set_yes _ m v hv gb k S.b w hal (by rw[hr.ok.len];exact hle) hrow hr.row).mono ?_
   rintro e w' ⟨rfl,hb',hk'⟩
   refine⟨_,_,F,⟨rfl,rfl⟩,rfl,⟨gb,⟨?_,hb',hr.ok.put k _ (by rw[toB_len];exact hle)⟩,hFk⟩,hk'.mono (λi hi=>(hFk i).2 (.inr hi)),λk hk=> .inl hk⟩
   exact hr.blk.kept hk' hr.ne
 ·have hC:S.cellF m a true=6:=by unfold Img.cellF;simp[hal]
  have hS:S.setCell m a v=S:=by unfold Img.setCell;simp[hC]
  rw[hC,hS]
  refine(i_set_mis _ m a v w hal).mono ?_
  rintro e w' ⟨rfl,rfl⟩
  exact⟨_,_,F,⟨rfl,rfl⟩,rfl,⟨gb,hr,hFk⟩,Kept.refl _ _,λk hk=> .inl hk⟩
end
theorem convS{w:World}{g gb:Nat}{S:Img}(h:IRep w g gb S)(k n cap:Nat)(hle:k+n<=S.beg 6): (convert 43 9 (.slice (some ⟨gb,k,none⟩) n cap)).run prog w = .ok (.string ⟨(S.bytes k n).toArray⟩) w:=by
 have hl:=bytes_len S h.ok k n hle
 have:=run_convert_bytes_back (P:=prog) w 43 9 5 ⟨gb,k,none⟩ cap (S.bytes k n) underlying43 underlying5 underlying9 (λj hj=>by
  have h2: ((⟨gb,k,none⟩:Addr).add j)= ⟨gb,k+j,none⟩:=by simp[Addr.add]
  rw[h2,h.byte (k+j) oM]
  have h3:=bytes_getD S k n j oM
  rw[<-h3,List.getD_eq_getElem?_getD,List.getElem?_eq_getElem hj]
  rfl)
 rw[hl]at this
 exact this
theorem conv_nil(w:World): (convert 43 9 (.slice none 0 0)).run prog w = .ok (.string ⟨#[]⟩) w:=
 run_convert_bytes_nil w 43 5 underlying43 underlying5 0 0 9 underlying9
set_option maxRecDepth 100000 in
theorem i_text_core(p:Value)(m a:Int)(n:Nat)(hn:n<=9223372036854775807)(w:World)(sl:Value)(ok:Bool)(s:ByteArray)(f:Int)
 (hrow:Calls prog 51 #[p,m,a,(n:Int),(1:Int)] w (Same (.tuple #[sl,.bool ok]) w))
 (hc:ok=true->(convert 43 9 sl).run prog w = .ok (.string s) w∧f=0) (hno:ok=false->s= ⟨#[]⟩ ∧f=5):
 Calls prog 22 #[p,m,a,(n:Int)] w (Same (.tuple #[.string s,f]) w):=by
 replace hrow:=hid hrow
 cases ok
 ·obtain⟨rfl,rfl⟩:=hno rfl
  clear hc hno
  go_enter func22,ntmps22
  go_wp2_with fail
  refine hrow.out.mono ?_
  rintro e w1 ⟨rfl,rfl⟩
  go_wp2
  go_ret2
  exact⟨rfl,rfl⟩
 ·obtain⟨hc,rfl⟩:=hc rfl
  clear hno
  replace hc:=hid hc
  go_enter func22,ntmps22
  go_wp2_with fail
  refine hrow.out.mono ?_
  rintro e w1 ⟨rfl,rfl⟩
  have hc:=hc.out
  go_wp2
  go_ret2
  exact⟨rfl,rfl⟩
theorem i_text_neg(p:Value)(m a n:Int)(hn:n<0)(w:World):Calls prog 22 #[p,m,a,n] w (Same (.tuple #[.string ⟨#[]⟩,(19:Int)]) w):=by
 go_enter func22,ntmps22
 go_wp2
 go_ret2
 exact⟨rfl,rfl⟩
theorem i_text{w:World}{g gb:Nat}{S:Img}(h:IRep w g gb S)(m a n:Int)(hn:n<=9223372036854775807):
 Calls prog 22 #[g,m,a,n] w (Same (.tuple #[.string (S.text m a n),(S.textF m a n)]) w):=by
 by_cases h0:n<0
 ·have hF:S.textF m a n=19:=by unfold Img.textF;simp[h0]
  have hT:S.text m a n= ⟨#[]⟩:=by unfold Img.text;simp[hF]
  rw[hF,hT]
  exact i_text_neg _ m a n h0 w
 obtain⟨k,rfl⟩:=Int.eq_ofNat_of_zero_le (Int.not_lt.1 h0)
 have hF:S.textF m a k=if S.rowOk m a k false=true then 0 else 5:=by unfold Img.textF;rw[if_neg h0];simp
 by_cases hk0:k=0
 ·subst hk0
  have hrow:=i_row h m a 0 oM false
  have hk:S.rowOk m a 0 false=true:=by unfold Img.rowOk;rfl
  rw[hk,if_pos rfl]at hF
  have hT:S.text m a ((0:Nat):Int)= ⟨#[]⟩:=by unfold Img.text;rw[if_pos hF];simp[Img.bytes]
  rw[hF,hT]
  exact i_text_core _ m a 0 oM w _ true _ _ hrow (λ_=>⟨conv_nil w,rfl⟩) (λh=>by cases h)
 ·rcases i_row_of h m a k hk0 oM false with⟨hk,hrow⟩ | ⟨hk,j,rfl,hle,hrow⟩
  ·rw[hk,if_neg (by decide)]at hF
   have hT:S.text m a k= ⟨#[]⟩:=by unfold Img.text;simp[hF]
   rw[hF,hT]
   exact i_text_core _ m a k oM w _ false _ _ hrow (λh=>by cases h) (λ_=>⟨rfl,rfl⟩)
  ·rw[hk,if_pos rfl]at hF
   have hT:S.text m j k= ⟨(S.bytes j k).toArray⟩:=by unfold Img.text;rw[if_pos hF];simp
   rw[hF,hT]
   exact i_text_core _ m j k oM w _ true _ _ hrow (λ_=>⟨convS h j k k hle,rfl⟩) (λh=>by cases h)
theorem IRep.drewN{w:World}{g gb:Nat}{S:Img}(h:IRep w g gb S)(n:Nat):IRep (w.drewN n) g gb S:=⟨h.blk,h.row,h.ok⟩
section
variable {w0 w:World}{g:Nat}{S:Img}{L:List Asr}
theorem a_text(h:At w0 w (ImgA g S::L))(m a n:Int)(hn:n<=9223372036854775807):Calls prog 22 #[g,m,a,n] w (Same (.tuple #[.string (S.text m a n),(S.textF m a n)]) w):=by
 obtain⟨gb,hr⟩:=ImgA.rep h
 exact i_text hr m a n hn
theorem imgCells_cl(gb:Nat)(S:Img): (imgCells gb S).setIfInBounds 14 (.bool true)=imgCells gb { S with cl:=true }:=rfl
theorem i_seal_shut{w:World}{g gb:Nat}{S:Img}(h:IRep w g gb S)(hc:S.cl=true):Calls prog 34 #[g] w (Same (.int .i64 5) w):=by
 have hcl:=h.cl_cell
 rw[hc]at hcl
 clear h hc
 go_enter func34,ntmps34
 go_wp2
 go_ret
 exact⟨rfl,rfl⟩
theorem i_seal{w:World}{g gb:Nat}{S:Img}(h:IRep w g gb S)(hc:S.cl=false):Calls prog 34 #[g] w (Same (.int .i64 0) (w.setCell (g,14) (.bool true))):=by
 have hcl:=h.cl_cell
 have hf:=h.blk.frozen 14
 rw[hc]at hcl
 clear h hc
 go_enter func34,ntmps34
 go_wp2
 go_ret
 exact⟨rfl,rfl⟩
theorem Img.Ok.op{S:Img}(h:S.Ok)(o:Bool): ({ S with op:=o }:Img).Ok:=by
 have hb: ∀i,({ S with op:=o }:Img).beg i=S.beg i:=λi=>by unfold Img.beg;rfl
 exact⟨by rw[hb];exact h.len,by rw[hb];exact h.small⟩
theorem Img.Ok.cl{S:Img}(h:S.Ok)(o:Bool): ({ S with cl:=o }:Img).Ok:=by
 have hb: ∀i,({ S with cl:=o }:Img).beg i=S.beg i:=λi=>by unfold Img.beg;rfl
 exact⟨by rw[hb];exact h.len,by rw[hb];exact h.small⟩
theorem a_seal(h:At w0 w (ImgA g S::L)):Calls prog 34 #[g] w (Got1 (.int .i64 S.openF) (ImgA g S.sealed) w0 L):=by
 refine h.call1 λF hF=> ?_
 obtain⟨gb,hr,hFk⟩:=hF
 unfold Img.openF Img.sealed
 rcases Bool.eq_false_or_eq_true S.cl with hc|hc
 rotate_left
 ·rw[if_neg (by rw[hc];decide)]
  refine(i_seal hr hc).mono ?_
  rintro e w' ⟨rfl,rfl⟩
  refine⟨_,_,F,⟨rfl,rfl⟩,rfl,⟨gb,⟨?_,hr.row.far (p:=⟨g,14,none⟩) hr.ne.symm _,hr.ok.cl true⟩,hFk⟩,(Kept.refl _ _).setCell (.inl ((hFk _).2 (.inl rfl))) _,λk hk=> .inl hk⟩
  rw[<-imgCells_cl]
  exact hr.blk.set_ 14 _
 ·rw[if_pos hc]
  refine(i_seal_shut hr hc).mono ?_
  rintro e w' ⟨rfl,rfl⟩
  have hS: ({ S with cl:=true }:Img)=S:=by cases S;simp at hc;simp[hc]
  rw[hS]
  exact⟨_,_,F,⟨rfl,rfl⟩,rfl,⟨gb,hr,hFk⟩,Kept.refl _ _,λk hk=> .inl hk⟩
end
end Go.Proofs.YteaijdgnagkllaaGreatDoor
