/- Chapter 8: Create in the program's wordlist. Conditions: as written. -/
import Derived.Test.YteaijdgnagkllaaGreatDoorZd21
import Derived.Test.YteaijdgnagkllaaGreatDoorZd17
open Go.Proofs.Tryz
namespace Go.Proofs.YteaijdgnagkllaaGreatDoor
set_option linter.unusedVariables false
set_option linter.unusedSimpArgs false
set_option maxHeartbeats 8000000
set_option maxRecDepth 100000
open Go.RowKit Go.Lib Go.Deep
namespace Vm
theorem i64_andNot7(n:Nat)(h:n<4611686018427387904):bits .andNot .i64 (n:Int) 7= ((n/8*8:Nat):Int):=by
 show IntKind.i64.wrap ((BitVec.ofInt 64 (n:Int) &&& ~~~BitVec.ofInt 64 ((7:Nat):Int)).toNat:Int)=_
 rw[BitVec.toNat_and,BitVec.toNat_not,ofInt_u64 n oM,ofInt_u64 7 oM]
 have e:2 ^ 64-1-7=18446744073709551608:=by decide
 rw[e,nat_hi64_3,Nat.mod_eq_of_lt oM,IntKind.wrap_i64]
 omega
theorem d_up(n:Nat)(h:n<=1000000)(w:World):Calls prog 129 #[.int .i64 (n:Int)] w (Same (.int .i64 (up n:Nat)) w):=by
 have e:=i64_andNot7 (n+7) oM
 rw[show((n+7:Nat):Int)= (n:Int) +7 by omega]at e
 have e2: (n+7) /8*8=up n:=rfl
 rw[e2]at e
 replace e:=hid e
 go_enter func129,ntmps129
 go_wp2
 go_ret
 exact⟨by rw[<-e.out];rfl,rfl⟩
def LaidA(gI g fr en:Nat)(D:Dc)(S:Img)(l:List UInt8):Asr:=AllA [DcA gI g fr en (laidB D l.length),ImgA gI (S.put D.h l)]
section
variable {w w1:World}{F:Nat->Prop}{g gI fr en:Nat}{D:Dc}{S:Img}
theorem laid_start(hb: (AllA [DcA gI g fr en D,ImgA gI S]).holds w F):On F w (LaidA gI g fr en D S []) w:=by
 unfold LaidA
 rw[Img.put_nil]
 exact On.refl hb
theorem laid_cells(l:List UInt8)(h:On F w (LaidA gI g fr en D S l) w1):w1.cell? ⟨g,0,none⟩=some (.pointer (some ⟨gI,0,none⟩))∧w1.cell? ⟨g,1,none⟩=some (.int .i64 (fr:Int))∧w1.cell? ⟨g,2,none⟩=some (.int .i64 (en:Int))∧
 w1.cell? ⟨g,3,none⟩=some (.int .i64 ((D.h+l.length:Nat):Int))∧w1.cell? ⟨g,4,none⟩=some (.int .i64 (D.l:Int))∧w1.frozen? ⟨g,4,none⟩=false:=by
 have hs:Blk w1 g 146 (dictC gI fr en ((D.h+l.length:Nat):Int) (D.l:Int)):=h.blkAt 0 rfl
 exact⟨hs.cell 0,hs.cell 1,hs.cell 2,hs.cell 3,hs.cell 4,hs.frozen 4⟩
theorem laid_ccomma(h8:At8 S D fr en)(hs:D.shut S=false)(l:List UInt8)(b:UInt8)(hl:D.h+l.length<en)(h:On F w (LaidA gI g fr en D S l) w1):
 Calls prog 131 #[.pointer (some ⟨g,0,none⟩),.int .u8 (b.toNat:Int)] w1 (Got (.returned (.int .i64 0)) (LaidA gI g fr en D S (l ++ [b])) F w):=by
 unfold LaidA
 rw[List.length_append]
 exact h.callG λF' hb=>ccomma_more h8 hs l b hl hb
theorem laid_comma(h8:At8 S D fr en)(hs:D.shut S=false)(l:List UInt8)(v:Int)(hv:V64 v)(hl:D.h+l.length+8<=en)(hal: (D.h+l.length) % 8=0)(h:On F w (LaidA gI g fr en D S l) w1):
 Calls prog 91 #[.pointer (some ⟨g,0,none⟩),.int .i64 v] w1 (Got (.returned (.int .i64 0)) (LaidA gI g fr en D S (l++toB v)) F w):=by
 unfold LaidA
 rw[List.length_append,toB_len]
 refine h.callG λF' hb=> ?_
 have h9:=at8_laid h8 hs l oM
 have hq:=d_comma hb h9 v hv
 have hsh: (laidB D l.length).shut (S.put D.h l)=false:=by rw[<-hs];rfl
 have e: (laidB D l.length).commaF (S.put D.h l)=0:=by
  unfold Dc.commaF
  rw[h9.lim,hsh,if_neg (by show¬en<D.h+l.length+8;omega),if_neg (by show¬(D.h+l.length) % 8≠0;omega)]
  rfl
 unfold Dc.commaD Dc.commaS at hq
 rw[e,if_pos rfl,if_pos rfl]at hq
 have e2: (S.put D.h l).put (laidB D l.length).h (toB v)=S.put D.h (l++toB v):=S.put_append D.h l (toB v) (by rw[h8.img.len];have:=h8.ok.all;rw[h8.lim]at this;omega)
 rw[e2]at hq
 exact hq
theorem laid_align(h8:At8 S D fr en)(hs:D.shut S=false)(l:List UInt8)(n:Nat)(hn:n=up (D.h+l.length) - (D.h+l.length))(hl:D.h+l.length<=en)(h:On F w (LaidA gI g fr en D S l) w1):
 Calls prog 130 #[.pointer (some ⟨g,0,none⟩)] w1 (Got (.returned (.int .i64 0)) (LaidA gI g fr en D S (l++List.replicate n 0)) F w):=by
 subst hn
 unfold LaidA
 rw[List.length_append,List.length_replicate]
 refine h.callG λF' hb=> ?_
 have h9:=at8_laid h8 hs l hl
 have hsh: (laidB D l.length).shut (S.put D.h l)=false:=by rw[<-hs];rfl
 have hq:=d_align_yes hb h9 (.inr hsh)
 have e1: (laidB D l.length).h=D.h+l.length:=rfl
 rw[e1]at hq
 have e2: (S.put D.h l).put (D.h+l.length) (List.replicate (up (D.h+l.length) - (D.h+l.length)) 0)=S.put D.h (l++List.replicate (up (D.h+l.length) - (D.h+l.length)) 0):=S.put_append D.h l _ (by rw[h8.img.len];have:=h8.ok.all;rw[h8.lim]at this;omega)
 rw[e2]at hq
 have e3:laidB (laidB D l.length) (up (D.h+l.length) - (D.h+l.length))=laidB D (l.length+ (up (D.h+l.length) - (D.h+l.length))):=by unfold laidB;simp[Nat.add_assoc]
 rw[e3]at hq
 exact hq
end
section
variable {w w1:World}{F:Nat->Prop}{g gI fr en:Nat}{D:Dc}{S:Img}
theorem create_bad(hb: (AllA [DcA gI g fr en D,ImgA gI S]).holds w F)(s:ByteArray)(hsz:s.size<=9223372036854775807)(hn:Dc.nameB s.data.toList=false):
 Calls prog 86 #[g,.string s] w (Got (.returned (.tuple #[(0:Int),(15:Int)])) (AllA [DcA gI g fr en D,ImgA gI S]) F w):=by
 have hon:=On.refl hb
 have hnm:=n_name s hsz w
 rw[hn]at hnm
 replace hon:=hid hon
 replace hnm:=hid hnm
 clear hb hn
 go_enter func86,ntmps86
 go_wp2_with fail
 refine mo hnm.out λw1 h=>?_
 replace h:=hid h
 go_wp2
 go_ret2
 exact⟨rfl,hon.out.below h.out⟩
theorem name_size{s:ByteArray}(hn:Dc.nameB s.data.toList=true):1<=s.size∧s.size<=31:=by
 have:=Dc.name_len hn
 rw[<-Lib.size_eq]at this
 exact this
theorem create_full(hb: (AllA [DcA gI g fr en D,ImgA gI S]).holds w F)(h8:At8 S D fr en)(s:ByteArray)(hn:Dc.nameB s.data.toList=true)(hf:en<up D.h+ (8+up (1+s.size))):
 Calls prog 86 #[g,.string s] w (Got (.returned (.tuple #[(0:Int),(9:Int)])) (AllA [DcA gI g fr en D,ImgA gI S]) F w):=by
 have hon:=On.refl hb
 have hs2:=name_size hn
 have hnm:=n_name s oM w
 rw[hn]at hnm
 have h1:=h8.lo
 have hle:=h8.le
 have hu1:=up_ge D.h
 have hu2:=up_ge (1+s.size)
 have hup1:=λw=>d_up D.h oM w
 have hup2:=λw=>d_up (1+s.size) oM w
 rw[show((1+s.size:Nat):Int)=1+ (s.size:Int)by omega]at hup2
 have hc:=λw1 (h:On F w (AllA [DcA gI g fr en D,ImgA gI S]) w1)=>(show Blk w1 g 146 (dictC gI fr en (D.h:Int) (D.l:Int))from h.blkAt 0 rfl)
 replace hon:=hid hon
 replace hnm:=hid hnm
 replace hup1:=hid hup1
 replace hup2:=hid hup2
 replace hc:=hid hc
 generalize up (1+s.size)=u2 at *
 generalize up D.h=u1 at *
 clear hb hn h8
 go_enter func86,ntmps86
 go_wp2_with fail
 refine mo hnm.out λw1 h=>?_
 have hon1:=hon.out.below h
 have c3:w1.cell? (g,3)=some ((D.h:Int):Vl):=(hc.out _ hon1).cell 3
 have c2:w1.cell? (g,2)=some ((en:Int):Vl):=(hc.out _ hon1).cell 2
 replace hon1:=hid hon1
 clear h
 go_wp2_with fail
 refine(hup1.out _).mono ?_
 rintro e w2 ⟨rfl,rfl⟩
 go_wp2_with fail
 go_quiet ((go_at_call 129;exact Calls.quiet_of_same (hup2.out _)))
 go_wp2
 go_ret2
 exact⟨rfl,hon1.out.drewN _⟩
theorem create_shut(hb: (AllA [DcA gI g fr en D,ImgA gI S]).holds w F)(h8:At8 S D fr en)(s:ByteArray)(hn:Dc.nameB s.data.toList=true)(hf: ¬en<up D.h+ (8+up (1+s.size)))(hsh:D.shut S=true):
 Calls prog 86 #[g,.string s] w (Got (.returned (.tuple #[(0:Int),(5:Int)])) (AllA [DcA gI g fr en D,ImgA gI S]) F w):=by
 have hon:=On.refl hb
 have hs2:=name_size hn
 have hnm:=n_name s oM w
 rw[hn]at hnm
 have h1:=h8.lo
 have hle:=h8.le
 have hu1:=up_ge D.h
 have hu2:=up_ge (1+s.size)
 have hup1:=λw=>d_up D.h oM w
 have hup2:=λw=>d_up (1+s.size) oM w
 rw[show((1+s.size:Nat):Int)=1+ (s.size:Int)by omega]at hup2
 have hc:=λw1 (h:On F w (AllA [DcA gI g fr en D,ImgA gI S]) w1)=>(show Blk w1 g 146 (dictC gI fr en (D.h:Int) (D.l:Int))from h.blkAt 0 rfl)
 have hrg:D.rg<=5:=by rcases h8.ok.rg with e|e<;>omega
 have hreg:=λw1 (h:On F w (AllA [DcA gI g fr en D,ImgA gI S]) w1) (n:Nat)=>(by
  obtain⟨gb,hi⟩:=h.img 1 rfl
  have:=i_region (w:=w1.drewN n) (hi.drewN n) (fr:Int)
  rw[h8.ok.region fr (by rw[h8.fr];exact Nat.le_refl _) (by rw[h8.lim];omega)]at this
  exact this:Calls prog 83 #[gI,(fr:Int)] (w1.drewN n) (Same (D.rg:Int) (w1.drewN n)))
 have hmay:=λw1 (h:On F w (AllA [DcA gI g fr en D,ImgA gI S]) w1) (n:Nat)=>(by
  obtain⟨gb,hi⟩:=h.img 1 rfl
  have:=i_may (w:=w1.drewN n) (hi.drewN n) 0 D.rg hrg
  rw[h8.ok.may,if_pos hsh]at this
  exact this:Calls prog 84 #[gI,(0:Int),(D.rg:Int)] (w1.drewN n) (Same (.int .i64 1) (w1.drewN n)))
 have hbit:bits .and .i64 1 2=0:=by decide
 replace hon:=hid hon
 replace hnm:=hid hnm
 replace hup1:=hid hup1
 replace hup2:=hid hup2
 replace hc:=hid hc
 replace hreg:=hid hreg
 replace hmay:=hid hmay
 generalize up (1+s.size)=u2 at *
 generalize up D.h=u1 at *
 clear hb hn h8 hsh
 go_enter func86,ntmps86
 go_wp2_with fail
 refine mo hnm.out λw1 h=>?_
 have hon1:=hon.out.below h
 have c3:w1.cell? (g,3)=some ((D.h:Int):Vl):=(hc.out _ hon1).cell 3
 have c2:w1.cell? (g,2)=some ((en:Int):Vl):=(hc.out _ hon1).cell 2
 replace hon1:=hid hon1
 clear h
 go_wp2_with fail
 refine(hup1.out _).mono ?_
 rintro e w2 ⟨rfl,rfl⟩
 go_wp2_with fail
 go_quiet ((go_at_call 129;exact Calls.quiet_of_same (hup2.out _)))
 have hon2:=hon1.out.drewN nq
 obtain⟨w3,hw3⟩: ∃w3,w2.drewN nq=w3:=⟨_,rfl⟩
 rw[hw3]at hon2⊢
 have c0:w3.cell? (g,0)=some (gI:Vl):=(hc.out _ hon2).cell 0
 have c1:w3.cell? (g,1)=some ((fr:Int):Vl):=(hc.out _ hon2).cell 1
 replace hreg:=hid (hreg.out _ hon2)
 replace hmay:=hid (hmay.out _ hon2)
 replace hon2:=hid hon2
 clear c2 c3 hon1 hw3
 go_wp2_with fail
 go_quiet ((first| (go_at_call 83;exact Calls.quiet_of_same (hreg.out _)) | (go_at_call 84;exact Calls.quiet_of_same (hmay.out _))))
 go_wp2
 go_ret2
 exact⟨rfl,hon2.out.drewN _⟩
theorem create_ok(hb: (AllA [DcA gI g fr en D,ImgA gI S]).holds w F)(h8:At8 S D fr en)(s:ByteArray)(hn:Dc.nameB s.data.toList=true)(hf: ¬en<up D.h+ (8+up (1+s.size)))(hsh:D.shut S=false):
 Calls prog 86 #[g,.string s] w (Got (.returned (.tuple #[((up D.h+ (8+up (1+s.size)):Nat):Int),(0:Int)])) (AllA [DcA gI g fr en { D with h:=up D.h+ (8+up (1+s.size)),l:=up D.h },ImgA gI (S.put D.h (D.headB s.data.toList))]) F w):=by
 have hon:=laid_start hb
 have hs2:=name_size hn
 have hnl:s.data.toList.length=s.size:=by rw[Lib.size_eq]
 have hnm:=n_name s oM w
 rw[hn]at hnm
 have h1:=h8.lo
 have hle:=h8.le
 have hu1:=up_ge D.h
 have hu2:=up_ge (1+s.size)
 have hup1:=λw=>d_up D.h oM w
 have hup2:=λw=>d_up (1+s.size) oM w
 rw[show((1+s.size:Nat):Int)=1+ (s.size:Int)by omega]at hup2
 have hc:=λw1 l (h:On F w (LaidA gI g fr en D S l) w1)=>laid_cells l h
 have hrg:D.rg<=5:=by rcases h8.ok.rg with e|e<;>omega
 have hreg:=λw1 (h:On F w (LaidA gI g fr en D S []) w1) (n:Nat)=>(by
  unfold LaidA at h
  obtain⟨gb,hi⟩:=h.img 1 rfl
  rw[Img.put_nil]at hi
  have:=i_region (w:=w1.drewN n) (hi.drewN n) (fr:Int)
  rw[h8.ok.region fr (by rw[h8.fr];exact Nat.le_refl _) (by rw[h8.lim];omega)]at this
  exact this:Calls prog 83 #[gI,(fr:Int)] (w1.drewN n) (Same (D.rg:Int) (w1.drewN n)))
 have hmay:=λw1 (h:On F w (LaidA gI g fr en D S []) w1) (n:Nat)=>(by
  unfold LaidA at h
  obtain⟨gb,hi⟩:=h.img 1 rfl
  rw[Img.put_nil]at hi
  have:=i_may (w:=w1.drewN n) (hi.drewN n) 0 D.rg hrg
  rw[h8.ok.may,if_neg (by rw[hsh];decide)]at this
  exact this:Calls prog 84 #[gI,(0:Int),(D.rg:Int)] (w1.drewN n) (Same (.int .i64 3) (w1.drewN n)))
 have hbit:bits .and .i64 3 2=2:=by decide
 obtain⟨za,hza⟩: ∃za:List UInt8,za=List.replicate (up D.h-D.h) 0:=⟨_,rfl⟩
 have hzl:za.length=up D.h-D.h:=by rw[hza];simp
 have hal1:=λw1 (h:On F w (LaidA gI g fr en D S []) w1)=>laid_align h8 hsh [] _ rfl (by simp;omega) h
 simp only[List.length_nil,Nat.add_zero,List.nil_append]at hal1
 rw[<-hza]at hal1
 have hvl:V64 (D.l:Int):=by have:=h8.ok.l;rw[h8.lim]at this;unfold V64;omega
 have hcm:=λw1 (h:On F w (LaidA gI g fr en D S za) w1)=>laid_comma h8 hsh za (D.l:Int) hvl (by rw[hzl];omega) (by rw[hzl];omega) h
 have hl2: (za++toB (D.l:Int)).length=up D.h-D.h+8:=by simp[toB_len,hzl]
 have hcb:=λw1 (h:On F w (LaidA gI g fr en D S (za++toB (D.l:Int))) w1)=>laid_ccomma h8 hsh (za++toB (D.l:Int)) (UInt8.ofNat (s.size+32)) (by rw[hl2];omega) h
 have hby: (((UInt8.ofNat (s.size+32)).toNat:Nat):Int)= (s.size:Int) +32:=by rw[UInt8.toNat_ofNat'];omega
 rw[hby]at hcb
 obtain⟨l3,hl3⟩: ∃l3:List UInt8,l3=za++toB (D.l:Int)++ [UInt8.ofNat (s.size+32)]:=⟨_,rfl⟩
 have hl3l:l3.length=up D.h-D.h+9:=by rw[hl3,List.length_append,hl2];rfl
 rw[<-hl3]at hcb
 have hcn:=λw1 (j:Nat) (hj:j<s.size) (h:On F w (LaidA gI g fr en D S (l3++s.data.toList.take j)) w1)=>laid_ccomma h8 hsh (l3++s.data.toList.take j) (s.data.toList.getD j 0) (by rw[List.length_append,hl3l,List.length_take,hnl];omega) h
 have htk: ∀j,j<s.size->(l3++s.data.toList.take j)++ [s.data.toList.getD j 0]=l3++s.data.toList.take (j+1):=λj hj=>by
  rw[List.append_assoc,List.take_succ_eq_append_getElem (by rw[hnl];exact hj),List.getD_eq_getElem?_getD,List.getElem?_eq_getElem (by rw[hnl];exact hj)]
  rfl
 have hl4l: (l3++s.data.toList).length=up D.h-D.h+9+s.size:=by rw[List.length_append,hl3l,hnl]
 have hal2:=λw1 (h:On F w (LaidA gI g fr en D S (l3++s.data.toList)) w1)=>laid_align h8 hsh (l3++s.data.toList) (up (1+s.size) - (1+s.size)) (by rw[hl4l];unfold up at *;omega) (by rw[hl4l];omega) h
 have hlast:l3++s.data.toList++List.replicate (up (1+s.size) - (1+s.size)) 0=D.headB s.data.toList:=by
  unfold Dc.headB
  rw[hl3,hza,hnl]
  simp[List.append_assoc]
 rw[hlast]at hal2
 have hfl: (D.headB s.data.toList).length=up D.h-D.h+ (8+up (1+s.size)):=by rw[Dc.head_len,hnl]
 have hend:=λw1 (h:On F w (LaidA gI g fr en D S (D.headB s.data.toList)) w1)=>(by
  unfold LaidA at h
  rw[hfl]at h
  have h2:=h.setAt 0 rfl 4 (.int .i64 (up D.h:Nat))
  have e:laidB D (up D.h-D.h+ (8+up (1+s.size)))= { D with h:=up D.h+ (8+up (1+s.size)) }:=by unfold laidB;congr 1;omega
  rw[e]at h2
  exact h2:On F w (AllA [DcA gI g fr en { D with h:=up D.h+ (8+up (1+s.size)),l:=up D.h },ImgA gI (S.put D.h (D.headB s.data.toList))]) (w1.setCell (g,4) (.int .i64 (up D.h:Nat))))
 have hix:=λ(j:Nat) (h:j<s.size)=>idx_str s j h
 generalize D.headB s.data.toList=lf at *
 have hhf:D.h+lf.length=up D.h+ (8+up (1+s.size)):=by rw[hfl];omega
 replace hon:=hid hon
 replace hnm:=hid hnm
 replace hup1:=hid hup1
 replace hup2:=hid hup2
 replace hc:=hid hc
 replace hreg:=hid hreg
 replace hmay:=hid hmay
 replace hal1:=hid hal1
 replace hcm:=hid hcm
 replace hcb:=hid hcb
 replace hcn:=hid hcn
 replace htk:=hid htk
 replace hal2:=hid hal2
 replace hend:=hid hend
 replace hix:=hid hix
 replace hhf:=hid hhf
 replace hnl:=hid hnl
 generalize up (1+s.size)=u2 at *
 generalize up D.h=u1 at *
 clear hb hn h8 hsh hza hzl hvl hl2 hby hl3 hl3l hl4l hlast hfl
 go_enter func86,ntmps86
 go_wp2_with fail
 refine mo hnm.out λw1 h=>?_
 have hon1:=hon.out.below h
 obtain⟨c0,c1,c2,c3,c4,f4⟩:=hc.out _ _ hon1
 replace hon1:=hid hon1
 clear h
 simp only[List.length_nil,Nat.add_zero]at c3
 go_wp2_with fail
 refine(hup1.out _).mono ?_
 rintro e w2 ⟨rfl,rfl⟩
 go_wp2_with fail
 go_quiet ((go_at_call 129;exact Calls.quiet_of_same (hup2.out _)))
 have hon2:=hon1.out.drewN nq
 obtain⟨w3,hw3⟩: ∃w3,w2.drewN nq=w3:=⟨_,rfl⟩
 rw[hw3]at hon2⊢
 clear c0 c1 c2 c3 c4 f4 hon1 hw3
 obtain⟨c0,c1,c2,c3,c4,f4⟩:=hc.out _ _ hon2
 replace hreg:=hid (hreg.out _ hon2)
 replace hmay:=hid (hmay.out _ hon2)
 replace hon2:=hid hon2
 go_wp2_with fail
 go_quiet ((first| (go_at_call 83;exact Calls.quiet_of_same (hreg.out _)) | (go_at_call 84;exact Calls.quiet_of_same (hmay.out _))))
 have hon3:=hon2.out.drewN nq
 obtain⟨w4,hw4⟩: ∃w4,w3.drewN nq=w4:=⟨_,rfl⟩
 rw[hw4]at hon3⊢
 clear c0 c1 c2 c3 c4 f4 hon2 hw4
 replace hal1:=hid (hal1.out _ hon3)
 clear hon3
 go_wp2_with fail
 refine mo hal1.out λw5 h5=>?_
 obtain⟨c0,c1,c2,c3,c4,f4⟩:=hc.out _ _ h5
 replace hcm:=hid (hcm.out _ h5)
 clear h5
 go_wp2_with fail
 refine mo hcm.out λw6 h6=>?_
 replace hcb:=hid (hcb.out _ h6)
 clear h6 c0 c1 c2 c3 c4 f4
 go_wp2_with fail
 refine mo hcb.out λw7 h7=>?_
 replace h7:=hid h7
 have hdec:decide ((en:Int) - (u1:Int) <8+ (u2:Int))=false:=decide_eq_false oM
 go_wp2_with fail
 go_loopg [60] s.size (λk t wr=> ∃j:Nat,j+k=s.size∧t = .int .i64 (j:Int)∧On F w (LaidA gI g fr en D S (l3++s.data.toList.take j)) wr)
 case atStart=>exact⟨0,by omega,rfl,by rw[List.take_zero,List.append_nil];exact h7.out⟩
 case round=>
  obtain⟨j,hj,rfl,hj7⟩:=hrel
  by_cases hjl:j<s.size
  ·have hq:=hcn.out _ j hjl hj7
   have hx:=hix.out j hjl wr
   rw[htk.out j hjl]at hq
   generalize s.data.toList.getD j 0=c at *
   replace hq:=hid hq
   replace hj7:=hid hj7
   go_wp2_with fail
   refine mo hq.out λw8 h8=>?_
   replace h8:=hid h8
   go_wp2
   go_roundg (gk-1)
   case measure=>omega
   case rel=>exact⟨j+1,by omega,by go_num,h8.out⟩
  ·have hjj:j=s.size:=by omega
   subst hjj
   rw[List.take_of_length_le (by rw[hnl.out];exact Nat.le_refl _)]at hj7
   replace hal2:=hid (hal2.out _ hj7)
   have hdec2:decide ((s.size:Int) < (s.size:Int))=false:=by simp
   clear hj7
   go_wp2_with fail
   refine mo hal2.out λw8 h8=>?_
   obtain⟨c0,c1,c2,c3,c4,f4⟩:=hc.out _ _ h8
   replace hend:=hid (hend.out _ h8)
   rw[hhf.out]at c3
   clear h8
   go_wp2
   go_ret2
   exact⟨rfl,hend.out⟩
theorem d_create(hb: (AllA [DcA gI g fr en D,ImgA gI S]).holds w F)(h8:At8 S D fr en)(s:ByteArray)(hsz:s.size<=9223372036854775807):
 Calls prog 86 #[g,.string s] w (Got (.returned (.tuple #[(D.createV S s.data.toList),(D.createF S s.data.toList)])) (AllA [DcA gI g fr en (D.createD S s.data.toList),ImgA gI (D.createS S s.data.toList)]) F w):=by
 have hnl:s.data.toList.length=s.size:=by rw[Lib.size_eq]
 have hF:D.createF S s.data.toList=if Dc.nameB s.data.toList=false then 15 else if en<up D.h+ (8+up (1+s.size))then 9 else if D.shut S=true then 5 else 0:=by
  unfold Dc.createF
  rw[h8.lim,hnl]
 unfold Dc.createV Dc.createD Dc.createS
 rw[hF]
 by_cases h1:Dc.nameB s.data.toList=false
 ·rw[if_pos h1,if_neg (by decide),if_neg (by decide),if_neg (by decide)]
  exact create_bad hb s hsz h1
 rw[if_neg h1]
 have h1':Dc.nameB s.data.toList=true:=by simpa using h1
 by_cases h2:en<up D.h+ (8+up (1+s.size))
 ·rw[if_pos h2,if_neg (by decide),if_neg (by decide),if_neg (by decide)]
  exact create_full hb h8 s h1' h2
 rw[if_neg h2]
 by_cases h3:D.shut S=true
 ·rw[if_pos h3,if_neg (by decide),if_neg (by decide),if_neg (by decide)]
  exact create_shut hb h8 s h1' h2 h3
 ·rw[if_neg h3,if_pos rfl,if_pos rfl,if_pos rfl,hnl]
  exact create_ok hb h8 s h1' h2 (by simpa using h3)
end
def Dc.turnS(S:Img)(D:Dc)(t:UInt8->UInt8):Img:=if D.l=0∨D.shut S=true then S else S.put (D.l+8) [t (S.b.getD (D.l+8) 0)]
def Turns(f:FuncId)(t:UInt8->UInt8):Prop:= ∀(c:UInt8) (w:World),Calls prog f #[.int .u8 (c.toNat:Int)] w (Same (.int .u8 ((t c).toNat:Int)) w)
section
variable {w w1:World}{F:Nat->Prop}{g gI fr en:Nat}{D:Dc}{S:Img}
theorem dc_cells(h:On F w (AllA [DcA gI g fr en D,ImgA gI S]) w1):w1.cell? (g,0)=some (gI:Vl)∧w1.cell? (g,1)=some ((fr:Int):Vl)∧w1.cell? (g,2)=some ((en:Int):Vl)∧
 w1.cell? (g,3)=some ((D.h:Int):Vl)∧w1.cell? (g,4)=some ((D.l:Int):Vl):=by
 have hs:Blk w1 g 146 (dictC gI fr en (D.h:Int) (D.l:Int)):=h.blkAt 0 rfl
 exact⟨hs.cell 0,hs.cell 1,hs.cell 2,hs.cell 3,hs.cell 4⟩
theorem marks_none(hb: (AllA [DcA gI g fr en D,ImgA gI S]).holds w F)(f:FuncId)(h0:D.l=0):
 Calls prog 137 #[g,.func (.func f) #[] #[]] w (Got (.returned (.tuple #[])) (AllA [DcA gI g fr en D,ImgA gI S]) F w):=by
 have hon:=On.refl hb
 obtain⟨c0,c1,c2,c3,c4⟩:=dc_cells hon
 rw[h0]at c4
 replace hon:=hid hon
 clear hb h0
 go_enter func137,ntmps137
 go_wp2
 go_end0
 exact⟨rfl,hon.out⟩
theorem marks_some(hb: (AllA [DcA gI g fr en D,ImgA gI S]).holds w F)(h8:At8 S D fr en)(f:FuncId)(t:UInt8->UInt8)(ht:Turns f t)(eg: ∀args w,(callFunc f args).run prog w = .ok (.enter f args) w)(h0:D.l≠0):
 Calls prog 137 #[g,.func (.func f) #[] #[]] w (Got (.returned (.tuple #[])) (AllA [DcA gI g fr en D,ImgA gI (D.turnS S t)]) F w):=by
 have hon:=On.refl hb
 have hl:D.l % 8=0∧fr<=D.l∧D.l+16<=en:=by
  rcases h8.ok.l with h|h
  ·exact absurd h h0
  ·rw[h8.fr,h8.lim]at h;exact h
 have hle:=h8.le
 have hbr:=h8.ok.byteR (D.l+8) (by rw[h8.fr];omega) (by rw[h8.lim];omega)
 have hbw:=h8.ok.byteW (D.l+8) (by rw[h8.fr];omega) (by rw[h8.lim];omega)
 rw[show((D.l+8:Nat):Int)= (D.l:Int) +8 by omega]at hbr hbw
 have hby:=λw1 (h:On F w (AllA [DcA gI g fr en D,ImgA gI S]) w1)=>(by
  obtain⟨gb,hi⟩:=h.img 1 rfl
  have:=i_byte hi 0 ((D.l:Int) +8)
  rw[hbr.1,hbr.2]at this
  exact this:Calls prog 175 #[gI,(0:Int),((D.l:Int) +8:Int)] w1 (Same (.tuple #[.int .u8 (((S.b.getD (D.l+8) 0).toNat:Nat):Int),(0:Int)]) w1))
 have htc:=λw=>ht (S.b.getD (D.l+8) 0) w
 have hset:=λw1 (h:On F w (AllA [DcA gI g fr en D,ImgA gI S]) w1)=>h.callAtG 1 rfl (λF' ha=>g_setByte ha 0 ((D.l:Int) +8) (t (S.b.getD (D.l+8) 0)))
 have e2:S.setByte 0 ((D.l:Int) +8) (t (S.b.getD (D.l+8) 0))=D.turnS S t:=by
  unfold Img.setByte Dc.turnS
  rw[show(D.l:Int) +8= ((D.l+8:Nat):Int)by omega,h8.ok.rowOk (D.l+8) 1 (by rw[h8.fr];omega) (by rw[h8.lim];omega) oM true]
  have e3: ((D.l+8:Nat):Int).toNat=D.l+8:=by omega
  cases D.shut S<;>simp[h0]
  rw[<-e3]
  congr 1
 rw[e2]at hset
 have hcs:=λw1 (h:On F w (AllA [DcA gI g fr en D,ImgA gI S]) w1)=>dc_cells h
 generalize S.byteF 0 ((D.l:Int) +8) true=bf at *
 generalize t (S.b.getD (D.l+8) 0)=tc at *
 generalize S.b.getD (D.l+8) 0=bc at *
 generalize D.turnS S t=S' at *
 have hset':=λw1 (h:On F w (AllA [DcA gI g fr en D,ImgA gI S]) w1)=>(hset w1 h:Calls prog 178 #[gI,(0:Int),((D.l:Int) +8:Int),.int .u8 (tc.toNat:Int)] w1 (Got (.returned bf) (AllA [DcA gI g fr en D,ImgA gI S']) F w))
 clear hset
 obtain⟨c0,c1,c2,c3,c4⟩:=dc_cells hon
 have hz: ((D.l:Int) ==0)=false:=by simpa using h0
 obtain⟨hl1,hl2,hl3⟩:=hl
 replace hon:=hid hon
 replace hby:=hid hby
 replace htc:=hid htc
 replace hset':=hid hset'
 replace hcs:=hid hcs
 replace ht:=hid ht
 replace eg:=eg
 clear hb h8 hbr hbw e2 h0 hl1
 go_enter func137,ntmps137
 go_wp2_with fail
 have hwr:IntKind.i64.wrap ((D.l:Int) +8)= (D.l:Int) +8:=IntWalk.i64_in _ oM
 have hbyd:=hid (hby.out _ hon.out.drew)
 go_region_held (λw'=>w'.cell? (g,0)=some (gI:Vl)∧w'.cell? (g,4)=some ((D.l:Int):Vl)) (go_keep)
  ((go_at_call 175;refine hbyd.out.mono ?_;rintro e w1 ⟨rfl,rfl⟩))
 go_wp2_with fail
 go_quiet (fail)
 have hon2:=hon.out.drew.drewN nq
 obtain⟨w4,hw4⟩: ∃w4,w.drew.drewN nq=w4:=⟨_,rfl⟩
 rw[hw4]at hon2⊢
 clear c0 c1 c2 c3 c4 hw4 hon hbyd
 obtain⟨c0,c1,c2,c3,c4⟩:=hcs.out _ hon2
 have hsd:=hid (hset'.out _ hon2.drew)
 have htd:=hid (htc.out w4.drew)
 replace hon2:=hid hon2
 go_wp2_with fail
 go_region_held (λw'=>w'.cell? (g,0)=some (gI:Vl)∧w'.cell? (g,4)=some ((D.l:Int):Vl)) (go_keep)
  ((first
    | (go_at_call 178;refine mo hsd.out λw5 h5=>?_;obtain⟨m0,m1,m2,m3,m4⟩:=dc_cells h5;replace h5:=hid h5)
    | ((with_reducible refine htd.out.mono ?_);rintro e w5 ⟨rfl,rfl⟩)))
 go_wp2
 go_end0
 exact⟨rfl,h5.out⟩
theorem d_marks(hb: (AllA [DcA gI g fr en D,ImgA gI S]).holds w F)(h8:At8 S D fr en)(f:FuncId)(t:UInt8->UInt8)(ht:Turns f t)(eg: ∀args w,(callFunc f args).run prog w = .ok (.enter f args) w):
 Calls prog 137 #[g,.func (.func f) #[] #[]] w (Got (.returned (.tuple #[])) (AllA [DcA gI g fr en D,ImgA gI (D.turnS S t)]) F w):=by
 by_cases h0:D.l=0
 ·have e:D.turnS S t=S:=by unfold Dc.turnS;rw[if_pos (.inl h0)]
  rw[e]
  exact marks_none hb f h0
 ·exact marks_some hb h8 f t ht eg h0
def showT(b:UInt8):UInt8:=b &&& 223
def immT(b:UInt8):UInt8:=b ||| 64
theorem show_turns:Turns 138 showT:=by
 intro c w
 have e:bits .andNot .u8 (c.toNat:Int) 32= (((showT c).toNat:Nat):Int):=by
  have h:=u8_andNot_nat c.toNat 32 c.toNat_lt oM
  rw[show((32:Nat):Int)=32 from rfl]at h
  rw[h]
  unfold showT
  rw[UInt8.toNat_and]
  rfl
 replace e:=hid e
 go_enter func138,ntmps138
 go_wp2
 go_ret
 exact⟨by rw[<-e.out];rfl,rfl⟩
theorem d_show(hb: (AllA [DcA gI g fr en D,ImgA gI S]).holds w F)(h8:At8 S D fr en):
 Calls prog 88 #[g] w (Got (.returned (.tuple #[])) (AllA [DcA gI g fr en D,ImgA gI (D.turnS S showT)]) F w):=by
 have h:=d_marks hb h8 138 showT show_turns (λ_ _=>by kernel_rfl)
 replace h:=hid h
 clear hb h8
 go_enter func88,ntmps88
 go_wp2_with fail
 refine mo h.out λw1 h1=>?_
 replace h1:=hid h1
 go_wp2
 go_end0
 exact⟨rfl,h1.out⟩
end
end Vm
end Go.Proofs.YteaijdgnagkllaaGreatDoor
