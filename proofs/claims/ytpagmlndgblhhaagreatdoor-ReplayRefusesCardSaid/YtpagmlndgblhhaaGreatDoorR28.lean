/- Parts of the proof: what the functions and the plain laws give that later parts lean on. Conditions: none beyond those that each theorem names. -/
import Derived.Test.YtpagmlndgblhhaaGreatDoorR27
set_option maxRecDepth 100000
set_option maxHeartbeats 8000000
namespace Go.Proofs.YtpagmlndgblhhaaGreatDoor
open Go.RowKit Go.Own Go.Own.MapTy Go.Va Go.Sort
open Go.Own.Cells (sz enc)
set_option linter.unusedVariables false
theorem ye5 {p:Img}{fa:Fa}{at_:Int}(hw:∀x∈p.consts,x.wf)(hck:ya1 p=(fa,at_,0)):Known (yae p) fa∧Pk (yae p)∧fa.span≤(yae p).code.length+1∧St (yae p) fa (ms0 (yae p)):=by
 have K0:=((yc1 hck).2 rfl).2;have hok:=ybL K0.img;have hckc:ya1 (yae p)=(fa,at_,0):=(yfV p).trans hck;have KC:=((yc1 hckc).2 rfl).2;exact⟨KC,⟨fun x hx=>by
  obtain⟨y,hy,rfl⟩:=List.mem_map.1 hx;exact ya3 ⟨yd7 hok.2.2.2.2.2.2.1 y hy,hw y hy⟩,fun x hx=>yhx hok.2.2.2.2.2.2.2.1 x hx⟩,ylV hckc,St.zero KC hok.2.2.2.2.1⟩
theorem RPX.monoZ {tr:TypeId}{Z Z':Nat→Prop}{W:World}{rb b mb:Nat}{v:MV}{p:Img}{r:RP}(R:RPX tr Z W rb b mb v p r)(h:∀j,Z j→j<W.heap.size→Z' j):RPX tr Z' W rb b mb v p r:=⟨R.h,R.mx.monoZ (fun j hj hl=>⟨h j hj.1 hl,hj.2⟩),R.fm,R.ne,R.o1,R.o2⟩
def yoX (W:World)(p:Img)(r:RP)(rb b mb:Nat)(v:MV)(w':World):Prop:=RPX TR (fun j=>W.heap.size≤j) w' rb b mb v (yae p) r∧(∀j,RO rb b mb v j→W.heap.size≤j)∧Below W.heap.size W w'
def ylN (W:World)(p:Img)(er:Int)(e:Ending)(w':World):Prop:=
 (er≠0∧e= .returned (.tuple #[.pointer none,.int .i64 er])∧Hid (Below W.heap.size W w'))∨(er=0∧∃(rb b mb:Nat) (v:MV),e= .returned (.tuple #[.pointer (some ⟨rb,0,none⟩),.int .i64 0])∧Hid (yoX W p (rp0 (yae p)) rb b mb v w'))
theorem yhn (F:Nat→Prop)(W:World)(i:IC)(p:Img)(H:IAt F W i p)(hw:∀x∈p.consts,x.wf)(r:Fa×Int×Int)(hr:ya1 p=r):
  Calls Tryz.prog 13 #[.agg #[.slice i.ca i.cn i.cc,.slice i.ka i.kn i.kc,.slice i.na i.nn i.nc,.int .i64 i.pl]] W (ylN W p r.2.2):=by
 obtain⟨w0,hw0⟩:∃w0,w0=W.alloc (.cells #[.slice i.ca i.cn i.cc,.slice i.ka i.kn i.kc,.slice i.na i.nn i.nc,.int .i64 i.pl] 28):=⟨_,rfl⟩;have B0:=zba hw0;have hB:=zha hw0;have NW:=zhd (ygD F w0 i p (H.keep (S:=fun _=>False) (zkb B0) (fun _ _ f=>f)) hw r hr);have c0:=zca hB 0 rfl;have c1:=zca hB 1 rfl;have c2:=zca hB 2 rfl;have c3:=zca hB 3 rfl;have l0:=zlt hB;have HX:=zhd B0;clear B0 hB H hw hr;go_enter Tryz.func13,Tryz.ntmps13;go_wp2_with fail;rw[←hw0];clear hw0;refine NW.o.mono ?_;obtain⟨fa,at_,er⟩:=r;dsimp only;rintro e w1 (⟨hne,rfl,H1⟩|⟨rfl,b,v,rfl,H1⟩)
 ·have n1:(er==0)=false:=by rw[zna];exact hne
  have n2:(er !=0)=true:=by unfold bne;rw[n1];rfl
  have HN:=zhd hne;have HB:=zhd (HX.o.trans (H1.o.mono HX.o.size));clear hne H1;go_wp2_with fail;exact zng (v:=.tuple #[.pointer none,.int .i64 er]) (by simp only[results,Tryz.results13];go_simp) rfl (.inl ⟨HN.o,rfl,HB⟩)
 ·have hmm:= @run_makeMap Tryz.prog
  go_wp2_with fail;have fin:ylN W p 0 (.returned (.tuple #[.pointer (some ⟨w1.heap.size+1,0,none⟩),.int .i64 0])) ((w1.alloc (.map #[] 0)).alloc (.cells #[.pointer (some ⟨b,0,none⟩),.int .i64 0,.int .i64 0,.map (some w1.heap.size),.bool false,.int .i64 0] 59)):=by
   have B2:Below w1.heap.size w1 ((w1.alloc (.map #[] 0)).alloc (.cells #[.pointer (some ⟨b,0,none⟩),.int .i64 0,.int .i64 0,.map (some w1.heap.size),.bool false,.int .i64 0] 59)):=(zal).alloc (by simp) _;have M1:=(H1.o.1.monoZ (Z':=fun q=>w0.heap.size≤q∧q<w1.heap.size) (fun j h1 h2=>⟨h1,h2⟩)).ext B2;have hs:=HX.o.size;have h1s:=H1.o.2.2.size;have hmo:∀j,MO v b j→j<w1.heap.size:=fun j hj=>H1.o.1.lt hj;refine .inr ⟨rfl,w1.heap.size+1,b,w1.heap.size,v,rfl,zhd ⟨⟨yar,M1.monoZ (fun j h _=>⟨(show W.heap.size≤j by omega),by omega,by omega⟩),⟨#[],0,yaE,rfl,by simp[rp0,mOf]⟩,by omega,fun e=>by have:=hmo _ e;omega,fun e=>by have:=hmo _ e;omega⟩,?_,?_⟩⟩
   ·rintro j (rfl|rfl|h)
    ·omega
    ·omega
    ·have:=H1.o.2.1 j h;omega
   ·exact HX.o.trans (((H1.o.2.2.trans (B2.mono h1s))).mono hs)
  exact zng (v:=.tuple #[.pointer (some ⟨w1.heap.size+1,0,none⟩),.int .i64 0]) (by simp only[results,Tryz.results13];go_simp) rfl fin
def ynD (W:World)(p:Img)(er:Int)(l:List Ev)(e:Ending)(w':World):Prop:=
 (er≠0∧e= .returned (.tuple #[.pointer none,.int .i64 er])∧Hid (Below W.heap.size W w'))∨
 (er=0∧(yaK (yae p) (rp0 (yae p)) l).err≠0∧e= .returned (.tuple #[.pointer none,.int .i64 (yaK (yae p) (rp0 (yae p)) l).err])∧Hid (Below W.heap.size W w'))∨
 (er=0∧(yaK (yae p) (rp0 (yae p)) l).err=0∧∃(rb b mb:Nat) (v:MV),e= .returned (.tuple #[.pointer (some ⟨rb,0,none⟩),.int .i64 0])∧Hid (yoX W p (yaK (yae p) (rp0 (yae p)) l) rb b mb v w'))
theorem yeG {N:Nat}(F:Nat→Prop)(W:World)(G:Gl Tryz.prog N W)(hN:N≤W.heap.size)(i:IC)(p:Img)(H:IAt F W i p)(hw:∀x∈p.consts,x.wf)(r:Fa×Int×Int)(hr:ya1 p=r)
  (ea:Option Addr)(en ec:Nat)(l:List Ev)(E:XRd (fun j=>j<W.heap.size) W (.slice ea en ec) l)(hew:∀e∈l,e.v.wf)(hlo:(ycj l).length≤30)(hl:l.length≤3000000):
  Calls Tryz.prog 11 #[.agg #[.slice i.ca i.cn i.cc,.slice i.ka i.kn i.kc,.slice i.na i.nn i.nc,.int .i64 i.pl],.slice ea en ec] W (ynD W p r.2.2 l):=by
 obtain⟨w0,hw0⟩:∃w0,w0=W.alloc (.cells #[.slice i.ca i.cn i.cc,.slice i.ka i.kn i.kc,.slice i.na i.nn i.nc,.int .i64 i.pl] 28):=⟨_,rfl⟩;have B0:=zba hw0;have hB:=zha hw0;have NW:=zhd (yhn F w0 i p (H.keep (S:=fun _=>False) (zkb B0) (fun _ _ f=>f)) hw r hr);have c0:=zca hB 0 rfl;have c1:=zca hB 1 rfl;have c2:=zca hB 2 rfl;have c3:=zca hB 3 rfl;have l0:=zlt hB;have HX:=zh8 B0 E hew hlo hl hw G hN;have HR:=zhd hr;clear B0 hB H hw hr E hew hlo hl G hN;go_enter Tryz.func11,Tryz.ntmps11;go_wp2_with fail;rw[←hw0];clear hw0;refine NW.o.mono ?_;obtain⟨fa,at_,er⟩:=r;dsimp only;rintro e w1 (⟨hne,rfl,H1⟩|⟨rfl,rb,b,mb,v,rfl,H1⟩)
 ·have n1:(er==0)=false:=by rw[zna];exact hne
  have n2:(er !=0)=true:=by unfold bne;rw[n1];rfl
  have HN:=zhd hne;have HB:=zhd (HX.o.1.trans (H1.o.mono HX.o.1.size));clear hne H1;go_wp2_with fail;exact zng (v:=.tuple #[.pointer none,.int .i64 er]) (by simp only[results,Tryz.results11];go_simp) rfl (.inl ⟨HN.o,rfl,HB⟩)
 ·obtain⟨K,P,hsp,S⟩:=ye5 HX.o.2.2.2.2.2.1 HR.o
  have B1:=HX.o.1.trans (H1.o.2.2.mono HX.o.1.size);have hs0:W.heap.size<w0.heap.size:=l0;have FD:=zhd (yhI rb b mb v (yae p) (rp0 (yae p)) w1 (H1.o.1.monoZ (Z':=fun j=>W.heap.size≤j) (fun j h _=>by have h:w0.heap.size≤j:=h;show W.heap.size≤j;omega)) (HX.o.2.2.2.2.2.2.1.below B1) (fun j=>j<W.heap.size) ea en ec l (HX.o.2.1.below B1) HX.o.2.2.1 fa K P hsp S (by show 0+(ycj l).length≤30;have:=HX.o.2.2.2.1;omega) (by show 0+l.length≤4000000;have:=HX.o.2.2.2.2.1;omega) (znq _) (fun j hj=>by have:=B1.size;show W.heap.size≤j;omega) (fun g hg e=>by have:=H1.o.2.1 g e;have hg:g<W.heap.size:=hg;omega) (fun g hg=>by have:=H1.o.2.1 g hg;have:=HX.o.2.2.2.2.2.2.2;omega) (fun g hg=>by have hg:g<W.heap.size:=hg;have:=B1.size;omega));have HO:=zh3 H1.o.2.1 B1 hs0;clear K P hsp S B1 hs0 NW;go_wp2_with fail;refine FD.o.mono ?_;rintro e w2 ⟨v2,rfl,H2⟩;have B2:Below W.heap.size W w2:=HO.o.2.1.trans (H2.o.2.keeps.below HO.o.2.1.size (fun q hq e=>by have:=HO.o.1 q e;have:=HO.o.2.2;omega));have O2:∀j,RO rb b mb v2 j→W.heap.size≤j:=fun j h=>(H2.o.2.ro h).elim (fun h=>by have:=HO.o.1 j h;have:=HO.o.2.2;omega) (fun h=>znf HO.o.2.1.size h)
  obtain⟨er,her⟩:∃er,(yaK (yae p) (rp0 (yae p)) l).err=er:=⟨_,rfl⟩;have H2B:=zh3 H2.o.1 O2 B2;have HE:=zhd her;rw[her];clear her B2 O2 FD H2;by_cases he0:er=0
  ·subst he0
   go_wp2_with fail;exact zng (v:=.tuple #[.pointer (some ⟨rb,0,none⟩),.int .i64 0]) (by simp only[results,Tryz.results11];go_simp) rfl (.inr (.inr ⟨rfl,HE.o,rb,b,mb,v2,rfl,zhd H2B.o⟩))
  ·have n1:(er==0)=false:=by rw[zna];exact he0
   have n2:(er !=0)=true:=by unfold bne;rw[n1];rfl
   have HN:=zhd he0;clear he0;go_wp2_with fail;exact zng (v:=.tuple #[.pointer none,.int .i64 er]) (by simp only[results,Tryz.results11];go_simp) rfl (.inr (.inl ⟨rfl,by rw[HE.o];exact HN.o,by rw[HE.o],zhd H2B.o.2.2⟩))
set_option linter.unusedVariables false
theorem yek (F:List Int)(l:List Cm)(c:Cm):NL F (l++[c])=bif ybP F c then NL F l else NL F l++[c]:=by
 rw[ynL,ykp];cases ybP F c<;>simp[show NL F []=[] from rfl]
theorem yim {r:RP}(h0:r.err=0)(hc:r.closed=false):(ybD r).map yaG=NL r.fired ((r.m.made.map yaG).drop r.next):=by
 unfold ybD;rw[h0,hc,show(((0:Int)!=0)||false)=false from rfl,znl,←List.map_drop];unfold NL;rw[List.filter_map];rfl
def yoD (N0:Nat)(w1:World)(n:Nat)(F:List Int)(L:List Cm)(gk:Nat)(v28 v3:Value)(wr:World):Prop:=
 ∃i:Nat,v28= .int .i64 i∧i≤n∧gk=n - i∧XRow (fun g=>N0≤g∧¬v3.ownBlock=some g) wr 52 v3 (NL F (L.take i))∧(∀g,v3.ownBlock=some g→w1.heap.size≤g)∧Below w1.heap.size w1 wr
theorem yfx
  {Z:Nat→Prop}(rb b mb:Nat)(v:MV)(p:Img)(r:RP)(W:World)(R:RPX TR Z W rb b mb v p r)
  (h:(r.err !=0||r.closed)=true):
  Calls Tryz.prog 12 #[.pointer (some ⟨rb,0,none⟩)] W (yhT W ((ybD r).map yaG)):=by
 obtain⟨c0,c1,c2,c3,c4,c5,cl,cf⟩:=R.q;have hp:ybD r=[]:=by unfold ybD;rw[h];rfl
 have HP:=zhd hp;have HX:=zhd R;clear hp R;cases he:(r.err !=0)with
 |true=>
  have he0:(r.err==0)=false:=by
   unfold bne at he;cases hq:(r.err==0)with
   |false=>rfl
   |true=>rw[hq]at he;cases he
  clear h;go_enter Tryz.func12,Tryz.ntmps12;go_wp2_with fail;go_ret;exact⟨_,rfl,zhd ⟨by rw[HP.o];exact XRow.nil _ _ _,(fun g h=>by cases h),znv _ _⟩⟩
 |false=>
  rw[he,Bool.false_or]at h;have he0:(r.err==0)=true:=by
   unfold bne at he;cases hq:(r.err==0)with
   |true=>rfl
   |false=>rw[hq]at he;cases he
  rw[h]at c4;clear h;go_enter Tryz.func12,Tryz.ntmps12;go_wp2_with fail;go_ret;exact⟨_,rfl,zhd ⟨by rw[HP.o];exact XRow.nil _ _ _,(fun g h=>by cases h),znv _ _⟩⟩
theorem yc7
  {Z:Nat→Prop}(rb b mb:Nat)(v:MV)(p:Img)(r:RP)(W:World)(R:RPX TR Z W rb b mb v p r)
  (h0:r.err=0)(hc:r.closed=false)(hz:∀c∈r.m.made,szV c.v≤1073741824)(hl:r.m.made.length≤4000000)(hnx:r.next≤r.m.made.length):
  Calls Tryz.prog 12 #[.pointer (some ⟨rb,0,none⟩)] W (yhT W ((ybD r).map yaG)):=by
 obtain⟨c0,c1,c2,c3,c4,c5,cl,cf⟩:=R.q;rw[h0]at c5;rw[hc]at c4;have HP:=zhd (yim h0 hc);have MA:=zhd (ye4 b v p r.m W.drew (R.ext (znv _ _).drew).mx hz (by omega));have HX:=zhd R;have HN:=zh2 hnx hl;clear R h0 hc hz hl hnx;go_enter Tryz.func12,Tryz.ntmps12;go_upto_region 4 with(fail);go_region_law ((go_simp;go_at_call 49;refine MA.o.mono ?_;rintro e w1 ⟨q,rfl,H1⟩;have R1:=HX.o.ext ((znv W.heap.size W).drew.trans H1.o.2.2);obtain⟨d0,d1,d2,d3,d4,d5,dl,df⟩:=R1.q;obtain⟨ra,rc,hrs⟩:=H1.o.1.slice;subst hrs;obtain⟨ks,hR,hP⟩:=H1.o.1.cells;obtain⟨ad,hrun,hRow,hown⟩:=yd6 ylm hR (k:=r.next) (by rw[hP.1,zmd];exact HN.o.1);have hown2:=(fun g hg=>H1.o.2.1 g (hown g hg));simp only[zmd]at hrun hRow hown2;have HM:=zh5 R1 hRow hown2 hP ((znv W.heap.size W).drew.trans H1.o.2.2);clear R1 hR hP hRow hown hown2))
 all_goals
  have hp:=HM.o.2.2.2.1.drop r.next;have X1:XRow (fun g=>W.heap.size≤g) w1 52 _ ((r.m.made.map yaG).drop r.next):=XRow.of HM.o.2.1 hp;have E1:=X1.rd (G:=fun g=>W.heap.size≤g∧g<w1.heap.size) (fun g h hl=>⟨h,hl⟩) (fun g hg=>⟨HM.o.2.2.1 g hg,X1.lt hg⟩);obtain⟨L,hL⟩:∃L,L=(r.m.made.map yaG).drop r.next:=⟨_,rfl⟩;rw[←hL]at E1;obtain⟨n,hn⟩:∃n,r.m.made.length - r.next=n:=⟨_,rfl⟩;have hLn:L.length=n:=by rw[hL,List.length_drop,zmd];exact hn
  rw[hn]at E1 hrun;have HE:=zh4 E1 hLn hL (show n≤4000000 by have:=HN.o.2;omega);have HW:=zh2 HM.o.2.2.2.2.size dl;have HNL:=zhd hn;clear hp X1 E1 hL hLn hn c0 c1 c2 c3 c4 c5 cl cf d0 d1 d2 d3 d4 d5 dl df MA;go_wp2_with fail;clear hrun
  try simp only[Act.put,List.setIfInBounds_toArray,List.set_cons_succ,List.set_cons_zero,List.getElem_toArray,List.getElem_cons_succ,List.getElem_cons_zero]
  rw[HNL.o];go_loopg [28,3] n (fun gk v28 v3 wr=>yoD W.heap.size w1 n r.fired L gk v28 v3 wr)
  case atStart=>exact⟨0,rfl,znq _,rfl,XRow.nil _ _ _,(fun g h=>by cases h),znv _ _⟩
  case round=>
   obtain⟨i,rfl,hi,hgk,hX,hO,hB⟩:=hrel;by_cases hin:i<n
   ·obtain⟨c,hc⟩:=yad (l:=L) (k:=i) (by rw[HE.o.2.1];exact hin)
    obtain⟨g,off,vk,vn,vs,la,ln,lc,rfl,hFg,hg,dv,y0,y1,y2,y3,y4,y5,y6,y7,y8⟩:=ylt HE.o.1 hc;rw[←hB.cell (p:=⟨g,_,none⟩) hg]at y0 y1 y2 y3 y4 y5 y6 y7 y8;have hgl:g<wr.heap.size:=znj hg hB.size;have hin':(i:Int)<(n:Int):=by omega
    have hwi:wrap64 ((i:Int)+1)=(i:Int)+1:=by have:=HE.o.2.2.2;unfold wrap64;omega
    have hta:L.take (i+1)=L.take i++[c]:=by rw[List.take_add_one,hc];rfl
    have HM2:=zhd (show n - (i+1)<gk by omega);have RW:=HM.o.1.ext hB;have H0:=zh6 hX hO hB dv hta RW;clear hX hO hB dv hta RW hc hFg hgk hi;obtain⟨ck,ct,ca,cb,cn,cv⟩:=c;dsimp only at y0 y1 y2 y3 y4;go_upto_region 7 with(fail);refine yaa ?_;intro w2 hw2;have B2:=zba hw2;have hb2:=zha hw2;clear y0 y1 y2 y3 y4 y5 y6 y7 y8 hgl hg hw2;obtain⟨x0,x1,x2,x3,x4,x5,x6,x7,x8,xl,_⟩:=yhP hb2;obtain⟨lt,hlt⟩:∃lt,ybP r.fired ⟨ck,ct,ca,cb,cn,cv⟩=lt:=⟨_,rfl⟩;have LT:=zhd (yhB rb b mb v p r w2 (H0.o.2.2.2.2.2.ext B2) ck ct ca cb cn vk vn vs la ln lc cv lt hlt);have H2:=zh2 B2 hb2;have HLT:=zhd hlt;clear B2 hb2 hlt;go_wp2_with fail;refine LT.o.mono ?_;rintro e w3 ⟨rfl,hB3⟩;have hb3:=(hB3.block wr.heap.size xl).trans H2.o.2;have B13:Below wr.heap.size wr w3:=H2.o.1.trans (hB3.mono H2.o.1.size);clear x0 x1 x2 x3 x4 x5 x6 x7 x8 xl LT;cases lt with
    |true=>
     have H3:=zhd B13;clear hb3 B13 hB3;go_wp2_with fail;go_roundg (n - (i+1))
     case measure=>exact HM2.o
     case rel=>exact⟨i+1,by simp[hwi],hin,rfl,by rw[H0.o.2.2.2.2.1,yek,HLT.o];exact H0.o.1.below H3.o,H0.o.2.1,H0.o.2.2.1.trans (H3.o.mono H0.o.2.2.1.size)⟩
    |false=>
     obtain⟨x0,x1,x2,x3,x4,x5,x6,x7,x8,xl,_⟩:=yhP hb3;obtain⟨va,vl,vc,hv3⟩:=yaY H0.o.1;subst hv3;obtain⟨ks,hKR,hKP⟩:=(H0.o.1.below B13).cells;have hkl:ks.length≤i:=by
      rw[hKP.1];exact znf (List.length_filter_le _ _) (by rw[List.length_take];exact Nat.min_le_left _ _)
     have RA:=zhd (hKR.below ((znv w3.heap.size w3).alloc (znc _) (.cells #[.int .i64 ck,.int .i64 ct,.int .i64 ca,.int .i64 cb,.string cn,.int .i64 vk,.int .i64 vn,.string vs,.slice la ln lc] 52)));have HBD:=zhd (show(ks.length+1)*104≤140737488355328∧ks.length+1≤maxLen from by have:=HE.o.2.2.2;unfold maxLen;omega);have H3:=zh3 hKP B13 (show CF (fun g=>W.heap.size≤g∧g<w1.heap.size) w3 ⟨vk,vn,vs,la,ln,lc⟩ cv from H0.o.2.2.2.1.keep (S:=fun _=>False) (zkb (H0.o.2.2.1.trans (B13.mono H0.o.2.2.1.size))) (fun _ _ f=>f));clear hb3 B13 hB3 hKR hKP hkl;go_wp2_with (at_builtin;refine ybR (α:=CC) ylm rfl (.tmp 36) (.tmp 38) rfl RA.o (⟨ck,ct,ca,cb,cn,⟨vk,vn,vs,la,ln,lc⟩⟩:CC) rfl rfl (znb _ _) HBD.o.1 HBD.o.2 ?_;intro a1 c1 w4 hr1 hk1 hf1;have HF:=zh3 hr1 hk1 hf1;clear hr1 hk1 hf1);go_roundg (n - (i+1))
     case measure=>exact HM2.o
     case rel=>
      have A4:Below w3.heap.size w3 (w3.alloc (.cells (enc (⟨ck,ct,ca,cb,cn,⟨vk,vn,vs,la,ln,lc⟩⟩:CC)).toArray 52)):=zal;have hw3:w1.heap.size≤w3.heap.size:=znf H0.o.2.2.1.size H3.o.2.1.size;have hwa:wr.heap.size≤w3.heap.size:=H3.o.2.1.size;have hvo:∀g,(Value.slice va vl vc).ownBlock=some g→w1.heap.size≤g∧g<wr.heap.size:=fun g hg=>⟨H0.o.2.1 g hg,H0.o.1.lt hg⟩;refine⟨i+1,by simp[hwi],hin,rfl,?_,?_,?_⟩
      ·rw[H0.o.2.2.2.2.1,yek,HLT.o]
       have hx:CmF (fun g=>W.heap.size≤g∧¬(Value.slice va vl vc).ownBlock=some g) w3 (⟨ck,ct,ca,cb,cn,⟨vk,vn,vs,la,ln,lc⟩⟩:CC) (⟨ck,ct,ca,cb,cn,cv⟩:Cm):=⟨rfl,rfl,rfl,rfl,rfl,H3.o.2.2.mono (fun g hg _=>⟨hg.1,fun e=>by have:=(hvo g e).1;omega⟩)⟩;have P1:=H3.o.1.app (Ptw.one hx);have P2:Ptw (fun g=>(W.heap.size≤g∧¬(Value.slice va vl vc).ownBlock=some g)∧g<w3.heap.size) w3 (ks++[(⟨ck,ct,ca,cb,cn,⟨vk,vn,vs,la,ln,lc⟩⟩:CC)]) (NL r.fired (L.take i)++[(⟨ck,ct,ca,cb,cn,cv⟩:Cm)]):=P1.mono (fun g hg hl=>⟨hg,hl⟩);have P3:=(P2.keep (S:=fun _=>False) (zkb A4) (fun _ _ f=>f)).keep HF.o.2.1 (fun g hg e=>hg.1.2 e);refine XRow.of HF.o.1 (Ptw.mono P3 ?_);intro g hg _;refine⟨hg.1.1,fun e=> ?_⟩;rcases HF.o.2.2 g e with h|h
       ·exact hg.1.2 h
       ·have h:w3.heap.size+1≤g:=by simpa using h
        have:=hg.2;omega
      ·intro g hg
       rcases HF.o.2.2 g hg with h|h
       ·exact(hvo g h).1
       ·have h:w3.heap.size+1≤g:=by simpa using h
        omega
      ·have K34:=((zkb (S:=fun _=>False) A4).mono (fun _ _ f=>f.elim)).trans HF.o.2.1 (fun _ _ e=>e)
       exact(H0.o.2.2.1.trans (H3.o.2.1.mono H0.o.2.2.1.size)).trans (K34.below hw3 (fun j hj e=>by have:=hvo j e;omega))
   ·obtain rfl:i=n:=by omega
    have hnn:¬(i:Int)<i:=by omega
    have hT:L.take i=L:=zmj (by rw[HE.o.2.1];exact znc _);rw[hT]at hX;have H0:=zh3 (hX.mono (G:=fun g=>W.heap.size≤g) (fun g h _=>h.1)) hO hB;clear hX hO hB hgk hT hi;go_wp2_with fail;go_ret;exact⟨_,rfl,zhd ⟨by rw[HP.o,←HE.o.2.2.1];exact H0.o.1,fun g hg=>znf HW.o.1 (H0.o.2.1 g hg),HM.o.2.2.2.2.trans (H0.o.2.2.mono HW.o.1)⟩⟩
set_option linter.unusedVariables false
theorem yll:ElemOf EC Tryz.prog 22 40 128:=yb0 Tryz.underlying22 (z:=.agg #[.int .i64 0,.int .i64 0,.int .i64 0,.int .i64 0,.int .i64 0,.string .empty,.string .empty,.int .i64 0,.int .i64 0,.string .empty,.slice none 0 0]) (n:=11) (by kernel_rfl) rfl rfl
def BZ (Z:Nat→Prop)(lv:Value)(kb g:Nat):Prop:=¬g=kb∧¬lv.ownBlock=some g∧Z g
def ymH (i:IC)(lv:Value)(o:Bool):Array Value:=#[.slice i.ca i.cn i.cc,.slice i.ka i.kn i.kc,.slice i.na i.nn i.nc,.int .i64 i.pl,lv,.pointer none,.bool o]
structure BX (Z:Nat→Prop)(W:World)(kb:Nat)(i:IC)(lv:Value)(p:Img)(bk:BK):Prop where
 h:W.heap[kb]? =some (.cells (ymH i lv bk.over) 71 (0,0))
 row:XRow (BZ Z lv kb) W 40 lv bk.list
 img:IAt (BZ Z lv kb) W i p
 ne:¬lv.ownBlock=some kb
structure BF (kb:Nat)(lv:Value)(W:World)(lv':Value)(W':World):Prop where
 keeps:Keeps (fun j=>j=kb∨lv.ownBlock=some j) W W'
 own:∀j,lv'.ownBlock=some j→lv.ownBlock=some j∨W.heap.size≤j
end Go.Proofs.YtpagmlndgblhhaaGreatDoor
namespace Go.Va
open Go.Own Go.RowKit
def yhO (e:Ev):Ev:={e with v:=yab e.v}
end Go.Va
namespace Go.Proofs.YtpagmlndgblhhaaGreatDoor
open Go.RowKit Go.Own Go.Own.MapTy Go.Va Go.Sort
open Go.Own.Cells (sz enc)
set_option linter.unusedVariables false
def ylO (W:World)(l:List Ev)(e:Ending)(w':World):Prop:=∃r:Value,e= .returned r∧Hid (XRow (fun g=>W.heap.size≤g) w' 40 r l∧(∀g,r.ownBlock=some g→W.heap.size≤g)∧Below W.heap.size W w')
def EsRel (W:World)(n:Nat)(L:Nat→List Ev)(gk:Nat)(v8 v3:Value)(wr:World):Prop:=
 ∃i:Nat,v8= .int .i64 i∧i≤n∧gk=n - i∧XRow (fun g=>W.heap.size≤g∧¬v3.ownBlock=some g) wr 40 v3 (L i)∧(∀g,v3.ownBlock=some g→W.heap.size≤g)∧Below W.heap.size W wr
theorem EsRel.app {W wr w3 w4:World}{va:Option Addr}{vl vc:Nat}{v1:Value}{A:List Ev}{ks:List EC}{c:EC}{x:Ev}(hX:XRow (fun g=>W.heap.size≤g∧¬(Value.slice va vl vc).ownBlock=some g) wr 40 (.slice va vl vc) A)(hO:∀g,(Value.slice va vl vc).ownBlock=some g→W.heap.size≤g)(hB:Below W.heap.size W wr)(B3:Below wr.heap.size wr w3)
  (hP:Ptw (fun g=>W.heap.size≤g∧¬(Value.slice va vl vc).ownBlock=some g) w3 ks A)(hx:EvF (fun g=>W.heap.size≤g∧¬(Value.slice va vl vc).ownBlock=some g) w3 c x)
  (hr:RowAt w4 40 v1 (ks++[c]))(hk:Keeps (fun j=>(Value.slice va vl vc).ownBlock=some j) (w3.alloc (.cells (enc c).toArray 40)) w4)(hf:∀g,v1.ownBlock=some g→(Value.slice va vl vc).ownBlock=some g∨(w3.alloc (.cells (enc c).toArray 40)).heap.size≤g):
  XRow (fun g=>W.heap.size≤g∧¬v1.ownBlock=some g) w4 40 v1 (A++[x])∧(∀g,v1.ownBlock=some g→W.heap.size≤g)∧Below W.heap.size W w4:=by
 have A4:Below w3.heap.size w3 (w3.alloc (.cells (enc c).toArray 40)):=zal;have hw3:W.heap.size≤w3.heap.size:=znf hB.size B3.size;have hvo:∀g,(Value.slice va vl vc).ownBlock=some g→W.heap.size≤g∧g<wr.heap.size:=fun g hg=>⟨hO g hg,hX.lt hg⟩;refine⟨?_,?_,?_⟩
 ·have P1:Ptw (fun g=>W.heap.size≤g∧¬(Value.slice va vl vc).ownBlock=some g) w3 (ks++[c]) (A++[x]):=hP.app (Ptw.one (x:=x) hx)
  have P2:Ptw (fun g=>(W.heap.size≤g∧¬(Value.slice va vl vc).ownBlock=some g)∧g<w3.heap.size) w3 (ks++[c]) (A++[x]):=P1.mono (fun g hg hl=>⟨hg,hl⟩);have P3:=(P2.keep (S:=fun _=>False) (zkb A4) (fun _ _ f=>f)).keep hk (fun g hg e=>hg.1.2 e);refine XRow.of hr (Ptw.mono P3 ?_);intro g hg _;refine⟨hg.1.1,fun e=> ?_⟩;rcases hf g e with h|h
  ·exact hg.1.2 h
  ·have h:w3.heap.size+1≤g:=by simpa using h
   have:=hg.2;omega
 ·intro g hg
  rcases hf g hg with h|h
  ·exact(hvo g h).1
  ·have h:w3.heap.size+1≤g:=by simpa using h
   omega
 ·have K34:=((zkb (S:=fun _=>False) A4).mono (fun _ _ f=>f.elim)).trans hk (fun _ _ e=>e)
  exact(hB.trans (B3.mono hB.size)).trans (K34.below hw3 (fun j hj e=>by have:=hvo j e;omega))
theorem ykQ {F:Nat→Prop}(W:World)(ea:Option Addr)(en ec:Nat)(l:List Ev)(E:XRd F W (.slice ea en ec) l)(hz:∀e∈l,szV e.v≤1073741824)(hl:l.length≤4000000):
  Calls Tryz.prog 27 #[.slice ea en ec] W (ylO W ((ycj l).map yhO)):=by
 have hen:l.length=en:=by obtain⟨a,c,h⟩:=E.slice;cases h;rfl
 have HX:=zh4 E hz hl hen;clear E hz hl hen;go_enter Tryz.func27,Tryz.ntmps27;go_wp2_with fail;go_loopg [8,3] en (fun gk v8 v3 wr=>EsRel W en (fun i=>(ycj (l.take i)).map yhO) gk v8 v3 wr)
 case atStart=>exact⟨0,rfl,znq _,rfl,XRow.nil _ _ _,(fun g h=>by cases h),znv _ _⟩
 case round=>
  obtain⟨i,rfl,hi,hgk,hX,hO,hB⟩:=hrel;by_cases hin:i<en
  ·obtain⟨e,he⟩:=yad (l:=l) (k:=i) (by rw[HX.o.2.2.2];exact hin)
   obtain⟨g,off,vk,vn,vs,la,ln,lc,rfl,hFg,hg,dv,y0,y1,y2,y3,y4,y5,y6,y7,y8,y9,y10⟩:=yiD HX.o.1 he;rw[←hB.cell (p:=⟨g,_,none⟩) hg]at y0 y1 y2 y3 y4 y5 y6 y7 y8 y9 y10;have hgl:g<wr.heap.size:=znj hg hB.size;have hin':(i:Int)<(en:Int):=by omega
   have hwi:wrap64 ((i:Int)+1)=(i:Int)+1:=by have:=HX.o.2.2.1;have:=HX.o.2.2.2;unfold wrap64;omega
   have hta:l.take (i+1)=l.take i++[e]:=by rw[List.take_add_one,he];rfl
   have hze:=HX.o.2.1 e (zmg he);have HM:=zhd (show en - (i+1)<gk by omega);have H0:=zh6 hX hO hB dv hta hze;clear hX hO hB dv hta hze he hFg hgk hi;obtain⟨e0,e1,e2,e3,e4,e5,e6,ex⟩:=e;dsimp only at y0 y1 y2 y3 y4 y5 y6;go_upto_region 5 with(fail);refine yaa ?_;intro w2 hw2;have B2:=zba hw2;have hb2:=zha hw2;clear y0 y1 y2 y3 y4 y5 y6 y7 y8 y9 y10 hgl hg hw2;obtain⟨x0,x1,x2,x3,x4,x5,x6,x7,x8,x9,x10,xl,_⟩:=yaw hb2;obtain⟨q,hq⟩:∃q,yaS e2=q:=⟨_,rfl⟩;have OU:=zhd (yam e0 e1 e2 e3 e4 e5 e6 vk vn vs la ln lc w2 q hq);have H2:=zh2 B2 hb2;have HQ:=zhd hq;clear B2 hb2 hq;go_wp2_with fail;refine OU.o.mono ?_;rintro e w3 ⟨rfl,hB3⟩;have hb3:=(hB3.block wr.heap.size xl).trans H2.o.2;have B13:Below wr.heap.size wr w3:=H2.o.1.trans (hB3.mono H2.o.1.size);clear x0 x1 x2 x3 x4 x5 x6 x7 x8 x9 x10 xl OU;cases q with
   |false=>
    have H3:=zhd B13;clear hb3 B13 hB3;go_wp2_with fail;go_roundg (en - (i+1))
    case measure=>exact HM.o
    case rel=>exact⟨i+1,by simp[hwi],hin,rfl,by dsimp only;rw[H0.o.2.2.2.2.1,ydk,show ycj [(⟨e0,e1,e2,e3,e4,e5,e6,ex⟩:Ev)]=[] by unfold ycj;rw[List.filter_cons,if_neg (by show¬yaS e2=true;rw[HQ.o];decide)];rfl,List.append_nil];exact H0.o.1.below H3.o,H0.o.2.1,H0.o.2.2.1.trans (H3.o.mono H0.o.2.2.1.size)⟩
   |true=>
    obtain⟨x0,x1,x2,x3,x4,x5,x6,x7,x8,x9,x10,xl,xf⟩:=yaw hb3;have CL:=zhd (yav ex vk vn vs la ln lc _ w3 (H0.o.2.2.2.1.keep (S:=fun _=>False) (zkb (H0.o.2.2.1.trans (B13.mono H0.o.2.2.1.size)|>.mono (znc _))) (fun _ _ f=>f)) H0.o.2.2.2.2.2);have H3:=zh2 B13 hb3;clear hb3 B13 hB3;go_wp2_with fail;refine CL.o.mono ?_;rintro e w4 ⟨⟨k8,n8,s8,la8,ln8,lc8⟩,rfl,H4⟩;have hb4:=(H4.o.2.block wr.heap.size xl).trans H3.o.2;clear x0 x1 x2 x3 x4 x5 x6 x7 x8 x9 x10 xl xf CL;obtain⟨x0,x1,x2,x3,x4,x5,x6,x7,x8,x9,x10,xl,xf⟩:=yaw hb4;have HB4:=zhd hb4;clear hb4;go_upto_region 7 with(fail);refine yaa ?_;intro w5 hw5;have hb5:w5.heap[wr.heap.size]? =some (.cells #[.int .i64 e0,.int .i64 e1,.int .i64 e2,.int .i64 e3,.int .i64 e4,.string e5,.string e6,.int .i64 k8,.int .i64 n8,.string s8,.slice la8 ln8 lc8] 40 (0,0)):=by
     rw[hw5];have:=HB4.o;simp[World.setCell,zni,this]
    have K5:Keeps (fun j=>j=wr.heap.size) w4 w5:=by rw[hw5];exact yb9 w4 wr.heap.size 7 8 9 10 _ _ _ _
    clear x0 x1 x2 x3 x4 x5 x6 x7 x8 x9 x10 xl xf hw5;obtain⟨x0,x1,x2,x3,x4,x5,x6,x7,x8,x9,x10,xl,_⟩:=yaw hb5;have B14:Below wr.heap.size wr w4:=H3.o.1.trans (H4.o.2.mono H3.o.1.size);have B15:Below wr.heap.size wr w5:=B14.trans (K5.below B14.size (fun jz hj e=>Nat.ne_of_lt hj e));have hwr:=H0.o.2.2.1.size;have hs3:=H3.o.1.size;have C5:CF (fun g=>wr.heap.size≤g) w5 ⟨k8,n8,s8,la8,ln8,lc8⟩ (yab ex):=((H4.o.1.mono (G:=fun g=>wr.heap.size≤g∧g≠wr.heap.size) (fun g hg _=>by have hg:w3.heap.size≤g:=hg;have:=zlt H3.o.2;omega)).keep K5 (fun g hg e=>hg.2 e)).mono (fun g hg _=>hg.1);obtain⟨va,vl,vc,hv3⟩:=yaY H0.o.1;subst hv3;obtain⟨ks,hKR,hKP⟩:=(H0.o.1.below B15).cells;have hkl:ks.length≤i:=by
     rw[hKP.1,zmd];exact znf (List.length_filter_le _ _) (by rw[List.length_take];exact Nat.min_le_left _ _)
    have RA:=zhd (hKR.below ((znv w5.heap.size w5).alloc (znc _) (.cells #[.int .i64 e0,.int .i64 e1,.int .i64 e2,.int .i64 e3,.int .i64 e4,.string e5,.string e6,.int .i64 k8,.int .i64 n8,.string s8,.slice la8 ln8 lc8] 40)));have HBD:=zhd (show(ks.length+1)*128≤140737488355328∧ks.length+1≤maxLen from by have:=HX.o.2.2.1;have:=HX.o.2.2.2;unfold maxLen;omega);have H5:=zh3 hKP B15 C5;clear hb5 K5 B14 B15 hwr hs3 C5 hKR hKP hkl;go_wp2_with (at_builtin;refine ybR (α:=EC) yll rfl (.tmp 18) (.tmp 20) rfl RA.o (⟨e0,e1,e2,e3,e4,e5,e6,⟨k8,n8,s8,la8,ln8,lc8⟩⟩:EC) rfl rfl (znb _ _) HBD.o.1 HBD.o.2 ?_;intro a1 c1 w6 hr1 hk1 hf1;have HF:=zh3 hr1 hk1 hf1;clear hr1 hk1 hf1);go_roundg (en - (i+1))
    case measure=>exact HM.o
    case rel=>
     have hwr:=H0.o.2.2.1.size;have AP:=EsRel.app (x:=⟨e0,e1,e2,e3,e4,e5,e6,yab ex⟩) H0.o.1 H0.o.2.1 H0.o.2.2.1 H5.o.2.1 H5.o.1 ⟨rfl,rfl,rfl,rfl,rfl,rfl,rfl,H5.o.2.2.mono (fun g hg _=>⟨(by have hg:wr.heap.size≤g:=hg;show W.heap.size≤g;omega),fun e=>by have:=H0.o.1.lt e;have hg:wr.heap.size≤g:=hg;omega⟩)⟩ HF.o.1 HF.o.2.1 HF.o.2.2;exact⟨i+1,by simp[hwi],hin,rfl,by dsimp only;rw[H0.o.2.2.2.2.1,ydk,show ycj [(⟨e0,e1,e2,e3,e4,e5,e6,ex⟩:Ev)]=[⟨e0,e1,e2,e3,e4,e5,e6,ex⟩] by unfold ycj;rw[List.filter_cons,if_pos (by show yaS e2=true;exact HQ.o)];rfl,List.map_append];exact AP.1,AP.2.1,AP.2.2⟩
  ·obtain rfl:i=en:=by omega
   have hnn:¬(i:Int)<i:=by omega
   have hT:l.take i=l:=zmj (by rw[HX.o.2.2.2];exact znc _);dsimp only at hX;rw[hT]at hX;have H0:=zh3 (hX.mono (G:=fun g=>W.heap.size≤g) (fun g h _=>h.1)) hO hB;clear hX hO hB hgk hT hi;go_wp2_with fail;go_ret;exact⟨_,rfl,zhd H0.o⟩
theorem ykZ {F:Nat→Prop}(W:World)(ea:Option Addr)(en ec:Nat)(l:List Ev)(E:XRd F W (.slice ea en ec) l)(hz:∀e∈l,szV e.v≤1073741824)(hl:l.length≤4000000):
  Calls Tryz.prog 30 #[.slice ea en ec] W (ylO W ((yiT l).map yhO)):=by
 have hen:l.length=en:=by obtain⟨a,c,h⟩:=E.slice;cases h;rfl
 have HX:=zh4 E hz hl hen;clear E hz hl hen;go_enter Tryz.func30,Tryz.ntmps30;go_wp2_with fail;go_loopg [8,3] en (fun gk v8 v3 wr=>EsRel W en (fun i=>(yiT (l.take i)).map yhO) gk v8 v3 wr)
 case atStart=>exact⟨0,rfl,znq _,rfl,XRow.nil _ _ _,(fun g h=>by cases h),znv _ _⟩
 case round=>
  obtain⟨i,rfl,hi,hgk,hX,hO,hB⟩:=hrel;by_cases hin:i<en
  ·obtain⟨e,he⟩:=yad (l:=l) (k:=i) (by rw[HX.o.2.2.2];exact hin)
   obtain⟨g,off,vk,vn,vs,la,ln,lc,rfl,hFg,hg,dv,y0,y1,y2,y3,y4,y5,y6,y7,y8,y9,y10⟩:=yiD HX.o.1 he;rw[←hB.cell (p:=⟨g,_,none⟩) hg]at y0 y1 y2 y3 y4 y5 y6 y7 y8 y9 y10;have hgl:g<wr.heap.size:=znj hg hB.size;have hin':(i:Int)<(en:Int):=by omega
   have hwi:wrap64 ((i:Int)+1)=(i:Int)+1:=by have:=HX.o.2.2.1;have:=HX.o.2.2.2;unfold wrap64;omega
   have hta:l.take (i+1)=l.take i++[e]:=by rw[List.take_add_one,he];rfl
   have hze:=HX.o.2.1 e (zmg he);have HM:=zhd (show en - (i+1)<gk by omega);have H0:=zh6 hX hO hB dv hta hze;clear hX hO hB dv hta hze he hFg hgk hi;obtain⟨e0,e1,e2,e3,e4,e5,e6,ex⟩:=e;dsimp only at y0 y1 y2 y3 y4 y5 y6;go_upto_region 5 with(fail);refine yaa ?_;intro w2 hw2;have B2:=zba hw2;have hb2:=zha hw2;clear y0 y1 y2 y3 y4 y5 y6 y7 y8 y9 y10 hgl hg hw2;obtain⟨x0,x1,x2,x3,x4,x5,x6,x7,x8,x9,x10,xl,_⟩:=yaw hb2;obtain⟨q,hq⟩:∃q,yb7 e2=q:=⟨_,rfl⟩;have OU:=zhd (ycN e0 e1 e2 e3 e4 e5 e6 vk vn vs la ln lc w2 q hq);have H2:=zh2 B2 hb2;have HQ:=zhd hq;clear B2 hb2 hq;go_wp2_with fail;refine OU.o.mono ?_;rintro e w3 ⟨rfl,hB3⟩;have hb3:=(hB3.block wr.heap.size xl).trans H2.o.2;have B13:Below wr.heap.size wr w3:=H2.o.1.trans (hB3.mono H2.o.1.size);clear x0 x1 x2 x3 x4 x5 x6 x7 x8 x9 x10 xl OU;cases q with
   |false=>
    have H3:=zhd B13;clear hb3 B13 hB3;go_wp2_with fail;go_roundg (en - (i+1))
    case measure=>exact HM.o
    case rel=>exact⟨i+1,by simp[hwi],hin,rfl,by dsimp only;rw[H0.o.2.2.2.2.1,yhz,show yiT [(⟨e0,e1,e2,e3,e4,e5,e6,ex⟩:Ev)]=[] by unfold yiT;rw[List.filter_cons,if_neg (by show¬yb7 e2=true;rw[HQ.o];decide)];rfl,List.append_nil];exact H0.o.1.below H3.o,H0.o.2.1,H0.o.2.2.1.trans (H3.o.mono H0.o.2.2.1.size)⟩
   |true=>
    obtain⟨x0,x1,x2,x3,x4,x5,x6,x7,x8,x9,x10,xl,xf⟩:=yaw hb3;have CL:=zhd (yav ex vk vn vs la ln lc _ w3 (H0.o.2.2.2.1.keep (S:=fun _=>False) (zkb (H0.o.2.2.1.trans (B13.mono H0.o.2.2.1.size)|>.mono (znc _))) (fun _ _ f=>f)) H0.o.2.2.2.2.2);have H3:=zh2 B13 hb3;clear hb3 B13 hB3;go_wp2_with fail;refine CL.o.mono ?_;rintro e w4 ⟨⟨k8,n8,s8,la8,ln8,lc8⟩,rfl,H4⟩;have hb4:=(H4.o.2.block wr.heap.size xl).trans H3.o.2;clear x0 x1 x2 x3 x4 x5 x6 x7 x8 x9 x10 xl xf CL;obtain⟨x0,x1,x2,x3,x4,x5,x6,x7,x8,x9,x10,xl,xf⟩:=yaw hb4;have HB4:=zhd hb4;clear hb4;go_upto_region 7 with(fail);refine yaa ?_;intro w5 hw5;have hb5:w5.heap[wr.heap.size]? =some (.cells #[.int .i64 e0,.int .i64 e1,.int .i64 e2,.int .i64 e3,.int .i64 e4,.string e5,.string e6,.int .i64 k8,.int .i64 n8,.string s8,.slice la8 ln8 lc8] 40 (0,0)):=by
     rw[hw5];have:=HB4.o;simp[World.setCell,zni,this]
    have K5:Keeps (fun j=>j=wr.heap.size) w4 w5:=by rw[hw5];exact yb9 w4 wr.heap.size 7 8 9 10 _ _ _ _
    clear x0 x1 x2 x3 x4 x5 x6 x7 x8 x9 x10 xl xf hw5;obtain⟨x0,x1,x2,x3,x4,x5,x6,x7,x8,x9,x10,xl,_⟩:=yaw hb5;have B14:Below wr.heap.size wr w4:=H3.o.1.trans (H4.o.2.mono H3.o.1.size);have B15:Below wr.heap.size wr w5:=B14.trans (K5.below B14.size (fun jz hj e=>Nat.ne_of_lt hj e));have hwr:=H0.o.2.2.1.size;have hs3:=H3.o.1.size;have C5:CF (fun g=>wr.heap.size≤g) w5 ⟨k8,n8,s8,la8,ln8,lc8⟩ (yab ex):=((H4.o.1.mono (G:=fun g=>wr.heap.size≤g∧g≠wr.heap.size) (fun g hg _=>by have hg:w3.heap.size≤g:=hg;have:=zlt H3.o.2;omega)).keep K5 (fun g hg e=>hg.2 e)).mono (fun g hg _=>hg.1);obtain⟨va,vl,vc,hv3⟩:=yaY H0.o.1;subst hv3;obtain⟨ks,hKR,hKP⟩:=(H0.o.1.below B15).cells;have hkl:ks.length≤i:=by
     rw[hKP.1,zmd];exact znf (List.length_filter_le _ _) (by rw[List.length_take];exact Nat.min_le_left _ _)
    have RA:=zhd (hKR.below ((znv w5.heap.size w5).alloc (znc _) (.cells #[.int .i64 e0,.int .i64 e1,.int .i64 e2,.int .i64 e3,.int .i64 e4,.string e5,.string e6,.int .i64 k8,.int .i64 n8,.string s8,.slice la8 ln8 lc8] 40)));have HBD:=zhd (show(ks.length+1)*128≤140737488355328∧ks.length+1≤maxLen from by have:=HX.o.2.2.1;have:=HX.o.2.2.2;unfold maxLen;omega);have H5:=zh3 hKP B15 C5;clear hb5 K5 B14 B15 hwr hs3 C5 hKR hKP hkl;go_wp2_with (at_builtin;refine ybR (α:=EC) yll rfl (.tmp 18) (.tmp 20) rfl RA.o (⟨e0,e1,e2,e3,e4,e5,e6,⟨k8,n8,s8,la8,ln8,lc8⟩⟩:EC) rfl rfl (znb _ _) HBD.o.1 HBD.o.2 ?_;intro a1 c1 w6 hr1 hk1 hf1;have HF:=zh3 hr1 hk1 hf1;clear hr1 hk1 hf1);go_roundg (en - (i+1))
    case measure=>exact HM.o
    case rel=>
     have hwr:=H0.o.2.2.1.size;have AP:=EsRel.app (x:=⟨e0,e1,e2,e3,e4,e5,e6,yab ex⟩) H0.o.1 H0.o.2.1 H0.o.2.2.1 H5.o.2.1 H5.o.1 ⟨rfl,rfl,rfl,rfl,rfl,rfl,rfl,H5.o.2.2.mono (fun g hg _=>⟨(by have hg:wr.heap.size≤g:=hg;show W.heap.size≤g;omega),fun e=>by have:=H0.o.1.lt e;have hg:wr.heap.size≤g:=hg;omega⟩)⟩ HF.o.1 HF.o.2.1 HF.o.2.2;exact⟨i+1,by simp[hwi],hin,rfl,by dsimp only;rw[H0.o.2.2.2.2.1,yhz,show yiT [(⟨e0,e1,e2,e3,e4,e5,e6,ex⟩:Ev)]=[⟨e0,e1,e2,e3,e4,e5,e6,ex⟩] by unfold yiT;rw[List.filter_cons,if_pos (by show yb7 e2=true;exact HQ.o)];rfl,List.map_append];exact AP.1,AP.2.1,AP.2.2⟩
  ·obtain rfl:i=en:=by omega
   have hnn:¬(i:Int)<i:=by omega
   have hT:l.take i=l:=zmj (by rw[HX.o.2.2.2];exact znc _);dsimp only at hX;rw[hT]at hX;have H0:=zh3 (hX.mono (G:=fun g=>W.heap.size≤g) (fun g h _=>h.1)) hO hB;clear hX hO hB hgk hT hi;go_wp2_with fail;go_ret;exact⟨_,rfl,zhd H0.o⟩
end Go.Proofs.YtpagmlndgblhhaaGreatDoor
namespace Go.Va
open Go.Own Go.RowKit
open Go.Proofs.YtpagmlndgblhhaaGreatDoor
set_option linter.unusedVariables false
structure Wr (p:Img)(fa:Fa)(b:BK)(n t last:Nat):Prop where
 bk:Bk p fa b n t
 lst:last≤b.list.length
 tail:∀e∈b.list.drop last,yaS e.kind=true
 nil:b.list=[]↔n=0
def yd2 (l:List Ev):List Int:=(l.filter (fun e=>e.kind==12)).map (·.a)
def ycP (p:Img)(l:List Ev):List Ev:=(NL (yd2 l) (ycW p (ms0 p) l).made).map evOfC
theorem ygL (l:List Ev)(e:Ev):yd2 (l++[e])=bif e.kind==12 then yd2 l++[e.a]else yd2 l:=by
 unfold yd2;rw[List.filter_append,List.filter_cons];cases(e.kind==12)<;>simp
theorem yeJ (p:Img)(s:MS)(l:List Ev)(e:Ev):ycW p s (l++[e])=(yay p (ycW p s l) e).2:=by rw[yjQ];rfl
end Go.Va
namespace Go.Proofs.YtpagmlndgblhhaaGreatDoor
open Go.RowKit Go.Own Go.Own.MapTy Go.Va Go.Sort
open Go.Own.Cells (sz enc)
set_option linter.unusedVariables false
set_option linter.unusedSimpArgs false
def ynz (W:World)(p:Img)(er:Int)(l:List Ev)(e:Ending)(w':World):Prop:=
 (er≠0∧e= .returned (.tuple #[.slice none 0 0,.int .i64 er])∧Hid (Below W.heap.size W w'))∨(er=0∧∃r:Value,e= .returned (.tuple #[r,.int .i64 0])∧Hid (XRow (fun g=>W.heap.size≤g) w' 40 r (ycP (yae p) l)∧(∀g,r.ownBlock=some g→W.heap.size≤g)∧Below W.heap.size W w'))
def ypl (w5:World)(mb n:Nat)(l:List Ev)(gk:Nat)(v27:Value)(wr:World):Prop:=
 ∃(i:Nat) (cs:List Int),v27= .int .i64 i∧i≤n∧gk=n - i∧MapAt NM wr mb (mOf cs)∧(∀a,a∈cs↔a∈yd2 (l.take i))∧Keeps (fun j=>j=mb) w5 wr
def ypk (w6:World)(Z:Nat→Prop)(p:Img)(fa:Fa)(b:Nat)(v:MV)(n:Nat)(l:List Ev)(gk:Nat)(v40:Value)(wr:World):Prop:=
 ∃(i:Nat) (v':MV),v40= .int .i64 i∧i≤n∧gk=n - i∧MX TT Z wr b v' p (ycW p (ms0 p) (l.take i))∧MK b v w6 v' wr∧St p fa (ycW p (ms0 p) (l.take i))∧(ycW p (ms0 p) (l.take i)).events≤i
def ypj (w1:World)(n:Nat)(F:List Int)(L:List Cm)(gk:Nat)(v51 v13:Value)(wr:World):Prop:=
 ∃i:Nat,v51= .int .i64 i∧i≤n∧gk=n - i∧XRow (fun g=>w1.heap.size≤g∧¬v13.ownBlock=some g) wr 40 v13 ((NL F (L.take i)).map evOfC)∧(∀g,v13.ownBlock=some g→w1.heap.size≤g)∧Below w1.heap.size w1 wr
theorem yh4 {N:Nat}(F:Nat→Prop)(W:World)(G:Gl Tryz.prog N W)(i:IC)(p:Img)(H:IAt F W i p)(hw:∀x∈p.consts,x.wf)(r:Fa×Int×Int)(hr:ya1 p=r)
  (ea:Option Addr)(en ec:Nat)(l:List Ev)(E:XRd (fun j=>j<W.heap.size) W (.slice ea en ec) l)(hew:∀e∈l,e.v.wf)(hl:l.length≤30):
  Calls Tryz.prog 29 #[.agg #[.slice i.ca i.cn i.cc,.slice i.ka i.kn i.kc,.slice i.na i.nn i.nc,.int .i64 i.pl],.slice ea en ec] W (ynz W p r.2.2 l):=by
 have hen:l.length=en:=by obtain⟨a,c,h⟩:=E.slice;cases h;rfl
 obtain⟨w0,hw0⟩:∃w0,w0=W.alloc (.cells #[.slice i.ca i.cn i.cc,.slice i.ka i.kn i.kc,.slice i.na i.nn i.nc,.int .i64 i.pl] 28):=⟨_,rfl⟩;have B0:=zba hw0;have hB:=zha hw0;have NW:=zhd (ygD F w0 i p (H.keep (S:=fun _=>False) (zkb B0) (fun _ _ f=>f)) hw r hr);have c0:=zca hB 0 rfl;have c1:=zca hB 1 rfl;have c2:=zca hB 2 rfl;have c3:=zca hB 3 rfl;have l0:=zlt hB;have HX:=zh7 B0 E hew hl hw G hen;have HR:=zhd hr;clear B0 hB H hw hr E hew hl G hen;go_enter Tryz.func29,Tryz.ntmps29;go_wp2_with fail;rw[←hw0];clear hw0;refine NW.o.mono ?_;obtain⟨fa,at_,er⟩:=r;dsimp only;rintro e w1 (⟨hne,rfl,H1⟩|⟨rfl,b,v,rfl,H1⟩)
 ·have n1:(er==0)=false:=by rw[zna];exact hne
  have n2:(er !=0)=true:=by unfold bne;rw[n1];rfl
  have HN:=zhd hne;have HB:=zhd (HX.o.1.trans (H1.o.mono HX.o.1.size));clear hne H1;go_wp2_with fail;exact zng (v:=.tuple #[.slice none 0 0,.int .i64 er]) (by simp only[results,Tryz.results29];go_simp) rfl (.inl ⟨HN.o,rfl,HB⟩)
 ·obtain⟨K,P,hsp,S⟩:=ye5 HX.o.2.2.2.2.1 HR.o
  have hmm:= @run_makeMap Tryz.prog;have HK:=zh4 K P hsp S;have hs0:W.heap.size<w0.heap.size:=l0;obtain⟨mb,hmb⟩:∃mb,mb=w1.heap.size:=⟨_,rfl⟩;obtain⟨w5,hw5⟩:∃w5,w5=w1.alloc (.map #[] 0):=⟨_,rfl⟩;have M5:MapAt NM w5 mb (mOf []):=by rw[hmb,hw5];exact⟨#[],0,znb _ _,rfl,by simp[mOf]⟩
  have B5:=zba hw5;have BW5:Below W.heap.size W w5:=HX.o.1.trans ((H1.o.2.2.trans (B5.mono H1.o.2.2.size)).mono HX.o.1.size);have X5:MX TT (fun q=>W.heap.size≤q∧¬q=mb) w5 b v (yae p) (ms0 (yae p)):=(H1.o.1.monoZ (fun j hj hl=>⟨(show W.heap.size≤j by have hj:w0.heap.size≤j:=hj;omega),by omega⟩)).ext B5;have O5:∀j,MO v b j→W.heap.size≤j∧¬j=mb:=fun j hj=>⟨by have:=H1.o.2.1 j hj;omega,by have:=H1.o.1.lt hj;omega⟩;have hm5:W.heap.size≤mb∧mb<w5.heap.size:=⟨by have:=H1.o.2.2.size;omega,by rw[hw5];simp;omega⟩;have HL:=zh5 M5 BW5 X5 O5 hm5;clear K P hsp S NW M5 B5 BW5 X5 O5 hm5 H1 hs0 c0 c1 c2 c3 l0;go_wp2_with fail;rw[←hw5,←hmb];clear hw5 hmm hmb;go_loopg [27] en (fun gk v27 wr=>ypl w5 mb en l gk v27 wr)
  case atStart=>exact⟨0,[],rfl,znq _,rfl,HL.o.1,(fun a=>⟨fun h=>(by cases h),fun h=>(by simp[yd2]at h)⟩),Keeps.refl _ _⟩
  case round=>
   obtain⟨j,cs,rfl,hj,hgk,hM,hcs,hK⟩:=hrel;have hml:mb<wr.heap.size:=by obtain⟨es,ck,h1,_⟩:=hM;exact zlt h1
   by_cases hjn:j<en
   ·obtain⟨e,he⟩:=yad (l:=l) (k:=j) (by rw[HX.o.2.2.2.2.2.2];exact hjn)
    obtain⟨g,off,vk,vn,vs,la,ln,lc,rfl,hFg,hg,dv,y0,y1,y2,y3,y4,y5,y6,y7,y8,y9,y10⟩:=yiD HX.o.2.1 he;have BWr:Below W.heap.size W wr:=HL.o.2.1.trans (hK.below HL.o.2.1.size (fun q hq e=>by have:=HL.o.2.2.2.2.1;omega));rw[←BWr.cell (p:=⟨g,_,none⟩) hg]at y0 y1 y2 y3 y4 y5 y6 y7 y8 y9 y10;have hgl:g<wr.heap.size:=znj hg BWr.size;have hjn':(j:Int)<(en:Int):=by omega
    have HWJ:=zhd (show wrap64 ((j:Int)+1)=(j:Int)+1 by have h1:=HX.o.2.2.2.1;have h2:=HX.o.2.2.2.2.2.2;unfold wrap64;omega);have hta:l.take (j+1)=l.take j++[e]:=by rw[List.take_add_one,he];rfl
    have HM:=zhd (show en - (j+1)<gk by omega);obtain⟨e0,e1,e2,e3,e4,e5,e6,ex⟩:=e;dsimp only at y0 y1 y2 y3 y4 y5 y6;have hfs:=ygL (l.take j) ⟨e0,e1,e2,e3,e4,e5,e6,ex⟩;rw[←hta]at hfs;dsimp only at hfs;clear dv he hFg hgk BWr hta;by_cases h12:e2=12
    ·subst h12
     rw[show((12:Int)==12)=true from rfl,znm]at hfs;obtain⟨ob,hup,hmap⟩:=MapAt.store hM ymb Tryz.underlying57 e3 true;replace hup:∀X:World,yei wr mb X→(Instr.mapUpdate 57 (.map (some mb)) (.int .i64 e3) (.bool true)).run Tryz.prog X= .ok () (setBlock X mb ob):=hup;have HH:=zh5 hmap hcs hK hfs hml;clear hM hcs hK hmap hfs;have hwj:=HWJ.o;go_upto_region 8 with(fail);refine yaa ?_;intro w8 hw8;have hb8:=zha hw8;have B8:=zba hw8;have hs8:yei wr mb w8:=by unfold yei blk;rw[B8.block mb hml]
     have hm8:mb<w8.heap.size:=znj hml B8.size;have HB8:=zhd B8;clear y0 y1 y2 y3 y4 y5 y6 y7 y8 y9 y10 hgl hg hw8 B8 hml;obtain⟨x0,x1,x2,x3,x4,x5,x6,x7,x8,x9,x10,xl,_⟩:=yaw hb8;have hs9:setBlock w8 mb ob=setBlock w8 mb ob:=rfl;go_wp2_with fail;go_roundg (en - (j+1))
     case measure=>exact HM.o
     case rel=>exact⟨j+1,e3::cs,by simp[hwj],hjn,rfl,HH.o.1 _ (ycC _ _ _ hm8),(fun a=>by rw[HH.o.2.2.2.1,List.mem_append,List.mem_singleton,List.mem_cons,HH.o.2.1 a,or_comm]),(HH.o.2.2.1.trans ((zkb (S:=fun _=>False) HB8.o).mono (fun _ _ f=>f.elim)) (fun _ _ e=>e)).trans ((Keeps.refl (fun j=>j=mb) w8).setBlock (b:=mb) (.inl rfl) ob) (fun _ _ e=>e)⟩
    ·have n12:(e2==12)=false:=by rw[zna];exact h12
     rw[n12,znl]at hfs;have HH:=zh5 hM hcs hK hfs hml;clear hM hcs hK hfs h12;have hwj:=HWJ.o;go_wp2_with fail;go_roundg (en - (j+1))
     case measure=>exact HM.o
     case rel=>exact⟨j+1,cs,by simp[hwj],hjn,rfl,ycH HH.o.1 (zal),(fun a=>by rw[HH.o.2.2.2.1];exact HH.o.2.1 a),HH.o.2.2.1.trans ((zkb (S:=fun _=>False) (zal)).mono (fun _ _ f=>f.elim)) (fun _ _ e=>e)⟩
   ·obtain rfl:j=en:=by omega
    have hjj:¬(j:Int)<j:=by omega
    have hT:l.take j=l:=zmj (by rw[HX.o.2.2.2.2.2.2];exact znc _);rw[hT]at hcs;have X6:MX TT (fun q=>W.heap.size≤q∧¬q=mb) wr b v (yae p) (ms0 (yae p)):=HL.o.2.2.1.far hK (fun q e h=>(HL.o.2.2.2.1 q h).2 e) (fun q e h=>h.2 e);have B6:Below W.heap.size W wr:=HL.o.2.1.trans (hK.below HL.o.2.1.size (fun q hq e=>by have:=HL.o.2.2.2.2.1;omega));have H6:=zh5 hM hcs X6 B6 hml;obtain⟨w6,hw6⟩:∃w6,w6=wr:=⟨_,rfl⟩;subst hw6;clear hM hcs hK hgk hml hj X6 B6 hT;go_wp2_with fail;go_loopg [40] j (fun gk v40 wr=>ypk w6 (fun q=>W.heap.size≤q∧¬q=mb) (yae p) fa b v j l gk v40 wr)
    case atStart=>exact⟨0,v,rfl,znq _,rfl,H6.o.2.2.1,MK.refl _ _ _,HK.o.2.2.2,znc _⟩
    case round=>
     obtain⟨k,v1,rfl,hk,hgk,M1,K1,S1,hev⟩:=hrel;have O1:∀q,MO v1 b q→(W.heap.size≤q∧¬q=mb):=fun q hq=>(K1.own q hq).elim (HL.o.2.2.2.1 q) (fun h=>⟨by have:=H6.o.2.2.2.1.size;omega,by have:=H6.o.2.2.2.2;omega⟩);have BWr:Below W.heap.size W wr:=H6.o.2.2.2.1.trans (K1.keeps.below H6.o.2.2.2.1.size (fun q hq e=>by have:=(HL.o.2.2.2.1 q e).1;omega));have hbl:=zlt M1.h;by_cases hkn:k<j
     ·obtain⟨e,he⟩:=yad (l:=l) (k:=k) (by rw[HX.o.2.2.2.2.2.2];exact hkn)
      obtain⟨g,off,vk,vn,vs,la,ln,lc,rfl,hFg,hg,dv,y0,y1,y2,y3,y4,y5,y6,y7,y8,y9,y10⟩:=yiD HX.o.2.1 he;rw[←BWr.cell (p:=⟨g,_,none⟩) hg]at y0 y1 y2 y3 y4 y5 y6 y7 y8 y9 y10;have hgl:g<wr.heap.size:=znj hg BWr.size;have hkn':(k:Int)<(j:Int):=by omega
      have HWK:=zhd (show wrap64 ((k:Int)+1)=(k:Int)+1 by have h1:=HX.o.2.2.2.1;have h2:=HX.o.2.2.2.2.2.2;unfold wrap64;omega);have hta:l.take (k+1)=l.take k++[e]:=by rw[List.take_add_one,he];rfl
      have HM:=zhd (show j - (k+1)<gk by omega);have hwe:=HX.o.2.2.1 e (zmg he);have hev30:(ycW (yae p) (ms0 (yae p)) (l.take k)).events≤30:=by have h1:=HX.o.2.2.2.1;have h2:=HX.o.2.2.2.2.2.2;omega
      obtain⟨S2,hev2⟩:=S1.apply HK.o.1 HK.o.2.1 HK.o.2.2.1 e hwe hev30;rw[←yeJ,←hta]at S2 hev2;have H7:=zh8 M1 K1 S1 O1 BWr dv hwe (zai hev30 (zai S2 (zai (show(ycW (yae p) (ms0 (yae p)) (l.take (k+1))).events≤k+1 by omega) (zai hFg hta))));clear M1 K1 S1 hev O1 BWr he hta hwe hev30 S2 hev2 dv hFg hgk;obtain⟨e0,e1,e2,e3,e4,e5,e6,ex⟩:=e;dsimp only at y0 y1 y2 y3 y4 y5 y6;go_upto_region 14 with(fail);refine yaa ?_;intro w8 hw8;have hb8:=zha hw8;have B8:=zba hw8;clear y0 y1 y2 y3 y4 y5 y6 y7 y8 y9 y10 hgl hw8 hbl;obtain⟨x0,x1,x2,x3,x4,x5,x6,x7,x8,x9,x10,xl,_⟩:=yaw hb8;have BW8:=H7.o.2.2.2.2.1.trans (B8.mono H7.o.2.2.2.2.1.size);have AP:=zhd (yf5 b v1 (yae p) _ w8 (H7.o.1.ext B8) (HX.o.2.2.2.2.2.1.below BW8) fa HK.o.1 HK.o.2.1 HK.o.2.2.1 H7.o.2.2.1 H7.o.2.2.2.2.2.2.2.1 (fun q hq=>⟨by have:=BW8.size;omega,by have h1:=H6.o.2.2.2.2;have h2:=H7.o.2.1.keeps.size;have h3:=B8.size;omega⟩) e0 e1 e2 e3 e4 e5 e6 ex vk vn vs la ln lc (fun q=>q<W.heap.size) (H7.o.2.2.2.2.2.1.keep (S:=fun _=>False) (zkb BW8) (fun _ _ f=>f)) H7.o.2.2.2.2.2.2.1 (fun q hq e=>by have:=(H7.o.2.2.2.1 q e).1;have hq:q<W.heap.size:=hq;omega) _ rfl);have HB8:=zhd B8;clear B8 hb8 BW8
      go_wp2_with fail;refine AP.o.mono ?_;rintro e w9 ⟨v9,rfl,H9⟩;clear x0 x1 x2 x3 x4 x5 x6 x7 x8 x9 x10 xl AP;have hwk:=HWK.o;go_wp2_with fail;go_roundg (j - (k+1))
      case measure=>exact HM.o
      case rel=>exact⟨k+1,v9,by simp[hwk],hkn,rfl,by rw[H7.o.2.2.2.2.2.2.2.2.2.2.2,yeJ];exact H9.o.1,(H7.o.2.1.trans (MK.ext HB8.o)).trans H9.o.2,H7.o.2.2.2.2.2.2.2.2.1,H7.o.2.2.2.2.2.2.2.2.2.1⟩
     ·obtain rfl:k=j:=by omega
      have hkk:¬(k:Int)<k:=by omega
      have hT:l.take k=l:=zmj (by rw[HX.o.2.2.2.2.2.2];exact znc _);rw[hT]at M1 S1 hev;obtain⟨s,hs⟩:∃s,ycW (yae p) (ms0 (yae p)) l=s:=⟨_,rfl⟩;rw[hs]at M1 S1 hev;have hk30:k≤30:=by have h1:=HX.o.2.2.2.1;have h2:=HX.o.2.2.2.2.2.2;omega
      have hml:s.made.length≤700000:=by have h1:=S1.bd;omega
      have MD:=zhd (ye4 b v1 _ s wr M1 (yjz S1) (by omega));have mp7:MapAt NM wr mb (mOf cs):=by
       obtain⟨es,ck,h1,h2⟩:=H6.o.1;exact⟨es,ck,(K1.keeps.block mb H6.o.2.2.2.2 (fun e=>(HL.o.2.2.2.1 mb e).2 rfl)).trans h1,h2⟩
      have H7:=zh5 BWr hs S1 hml mp7;clear M1 K1 S1 hev O1 BWr hT hs hml hgk hk30 mp7 hbl;go_wp2_with fail;refine MD.o.mono ?_;rintro e w7 ⟨r7,rfl,H8⟩;obtain⟨am,cm,rfl⟩:∃a c,r7= .slice a (s.made.map yaG).length c:=H8.o.1.slice;obtain⟨L,hL⟩:∃L,L=s.made.map yaG:=⟨_,rfl⟩;rw[←hL];obtain⟨n,hn⟩:∃n,L.length=n:=⟨_,rfl⟩;have E7:XRd (fun g=>g<w7.heap.size) w7 (.slice am n cm) L:=by rw[←hn,hL];exact H8.o.1.rd (fun g _ h=>h) (fun g hg=>H8.o.1.lt hg)
      have BW7:=H7.o.1.trans (H8.o.2.2.mono H7.o.1.size);have mp8:=ycH H7.o.2.2.2.2 H8.o.2.2;have HE:=zh6 E7 BW7 mp8 hL hn (show n≤700000 by rw[←hn,hL,zmd];exact H7.o.2.2.2.1);rw[hn];clear E7 BW7 mp8 MD H8 hn hL;go_wp2_with fail;go_loopg [51,13] n (fun gk v51 v13 wr=>ypj w7 n cs L gk v51 v13 wr)
      case atStart=>exact⟨0,rfl,znq _,rfl,XRow.nil _ _ _,(fun g h=>by cases h),znv _ _⟩
      case round=>
       obtain⟨i,rfl,hi,hgk,hX,hO,hB⟩:=hrel;by_cases hin:i<n
       ·obtain⟨c,hc⟩:=yad (l:=L) (k:=i) (by rw[HE.o.2.2.2.2.1];exact hin)
        obtain⟨g,off,vk,vn,vs,la,ln,lc,rfl,hFg,hg,dv,y0,y1,y2,y3,y4,y5,y6,y7,y8⟩:=ylt HE.o.1 hc;rw[←hB.cell (p:=⟨g,_,none⟩) hg]at y0 y1 y2 y3 y4 y5 y6 y7 y8;have hgl:g<wr.heap.size:=znj hg hB.size;have hin':(i:Int)<(n:Int):=by omega
        have HWI:=zhd (show wrap64 ((i:Int)+1)=(i:Int)+1 by have:=HE.o.2.2.2.2.2;unfold wrap64;omega);have hta:L.take (i+1)=L.take i++[c]:=by rw[List.take_add_one,hc];rfl
        have HM2:=zhd (show n - (i+1)<gk by omega);have hck:yaT c=0∧szV c.v≤1073741824:=by
         have hm:=zmg hc;rw[HE.o.2.2.2.1]at hm;obtain⟨c0,hc0,rfl⟩:=List.mem_map.1 hm;have hok:=H7.o.2.2.1.rk.vs.mds c0 hc0;have hcl:=yhN hok.1 hok.2;have:=ycT (x:=(yaG c0).v) ⟨yop hcl.1,hcl.2⟩;exact⟨hcl.1,by omega⟩
        have H0:=zh6 hX hO hB dv hta hck;have hml:mb<wr.heap.size:=by
         obtain⟨es,ck,h1,_⟩:=HE.o.2.2.1;exact znj (zlt h1) hB.size
        clear hX hO hB dv hta hck hc hFg hgk hi;obtain⟨ck,ct,ca,cb,cn,cv⟩:=c;dsimp only at y0 y1 y2 y3 y4;go_upto_region 20 with(fail);refine yaa ?_;intro w2 hw2;have B2:=zba hw2;have hb2:=zha hw2;have M2:=ycH HE.o.2.2.1 (H0.o.2.2.1.trans (B2.mono H0.o.2.2.1.size));have H2:=zh2 B2 hb2;clear y0 y1 y2 y3 y4 y5 y6 y7 y8 hgl hg hw2 B2 hml;by_cases hk2:ck=2
        ·subst hk2
         obtain⟨lt,hlt⟩:∃lt,decide (ca∈cs)=lt:=⟨_,rfl⟩;have hlk:=fun X hX=>yjx M2 ca lt hlt X hX;have HLT:=zhd (show ybP cs (⟨2,ct,ca,cb,cn,cv⟩:Cm)=lt by unfold ybP;rw[←hlt];rfl);clear hlt M2;cases lt with
         |true=>
          obtain⟨x0,x1,x2,x3,x4,x5,x6,x7,x8,xl,_⟩:=yhP hb2;clear hb2;have hwi:=HWI.o;go_wp2_with fail;go_roundg (n - (i+1))
          case measure=>exact HM2.o
          case rel=>exact⟨i+1,by simp[hwi],hin,rfl,by rw[H0.o.2.2.2.2.1,yek,HLT.o];exact H0.o.1.below H2.o.1,H0.o.2.1,H0.o.2.2.1.trans (H2.o.1.mono H0.o.2.2.1.size)⟩
         |false=>
          clear hb2;obtain⟨x0,x1,x2,x3,x4,x5,x6,x7,x8,xl,_⟩:=yhP H2.o.2;have CE:=zhd (yc2 (⟨2,ct,ca,cb,cn,cv⟩:Cm) H0.o.2.2.2.2.2.1 H0.o.2.2.2.2.2.2 vk vn vs la ln lc (fun g=>g<w7.heap.size) w2 (H0.o.2.2.2.1.keep (S:=fun _=>False) (zkb (H0.o.2.2.1.trans (H2.o.1.mono H0.o.2.2.1.size))) (fun _ _ f=>f)));go_wp2_with fail;refine CE.o.mono ?_;rintro e w3 ⟨uk,un,us,ua,ul,uc,rfl,H3⟩;clear x0 x1 x2 x3 x4 x5 x6 x7 x8 xl CE;obtain⟨va,vl,vc,hv3⟩:=yaY H0.o.1;subst hv3;have B13:=H2.o.1.trans (H3.o.2.mono H2.o.1.size);obtain⟨ks,hKR,hKP⟩:=(H0.o.1.below B13).cells;have hkl:ks.length≤i:=by
           rw[hKP.1,zmd];exact znf (List.length_filter_le _ _) (by rw[List.length_take];exact Nat.min_le_left _ _)
          have RA:=zhd (hKR.below ((znv w3.heap.size w3).alloc (znc _) (.cells #[.int .i64 (evOfC (⟨2,ct,ca,cb,cn,cv⟩:Cm)).id,.int .i64 (evOfC (⟨2,ct,ca,cb,cn,cv⟩:Cm)).time,.int .i64 (evOfC (⟨2,ct,ca,cb,cn,cv⟩:Cm)).kind,.int .i64 (evOfC (⟨2,ct,ca,cb,cn,cv⟩:Cm)).a,.int .i64 (evOfC (⟨2,ct,ca,cb,cn,cv⟩:Cm)).b,.string (evOfC (⟨2,ct,ca,cb,cn,cv⟩:Cm)).name,.string (evOfC (⟨2,ct,ca,cb,cn,cv⟩:Cm)).text,.int .i64 uk,.int .i64 un,.string us,.slice ua ul uc] 40)));have HBD:=zhd (show(ks.length+1)*128≤140737488355328∧ks.length+1≤maxLen from by have:=HE.o.2.2.2.2.2;unfold maxLen;omega);have H4:=zh2 hKP B13;clear hKR hKP hkl B13;have hwi:=HWI.o;go_wp2_with (at_builtin;refine ybR (α:=EC) yll rfl (.tmp 65) (.tmp 68) rfl RA.o (⟨(evOfC (⟨2,ct,ca,cb,cn,cv⟩:Cm)).id,(evOfC (⟨2,ct,ca,cb,cn,cv⟩:Cm)).time,(evOfC (⟨2,ct,ca,cb,cn,cv⟩:Cm)).kind,(evOfC (⟨2,ct,ca,cb,cn,cv⟩:Cm)).a,(evOfC (⟨2,ct,ca,cb,cn,cv⟩:Cm)).b,(evOfC (⟨2,ct,ca,cb,cn,cv⟩:Cm)).name,(evOfC (⟨2,ct,ca,cb,cn,cv⟩:Cm)).text,⟨uk,un,us,ua,ul,uc⟩⟩:EC) rfl rfl (znb _ _) HBD.o.1 HBD.o.2 ?_;intro a1 c1 w6 hr1 hk1 hf1;have HF:=zh3 hr1 hk1 hf1;clear hr1 hk1 hf1);go_roundg (n - (i+1))
          case measure=>exact HM2.o
          case rel=>
           have hwr:=H0.o.2.2.1.size;have hw2:=H2.o.1.size;have hx:EvF (fun g=>w7.heap.size≤g∧¬(Value.slice va vl vc).ownBlock=some g) w3 (⟨(evOfC (⟨2,ct,ca,cb,cn,cv⟩:Cm)).id,(evOfC (⟨2,ct,ca,cb,cn,cv⟩:Cm)).time,(evOfC (⟨2,ct,ca,cb,cn,cv⟩:Cm)).kind,(evOfC (⟨2,ct,ca,cb,cn,cv⟩:Cm)).a,(evOfC (⟨2,ct,ca,cb,cn,cv⟩:Cm)).b,(evOfC (⟨2,ct,ca,cb,cn,cv⟩:Cm)).name,(evOfC (⟨2,ct,ca,cb,cn,cv⟩:Cm)).text,⟨uk,un,us,ua,ul,uc⟩⟩:EC) (evOfC (⟨2,ct,ca,cb,cn,cv⟩:Cm)):=⟨rfl,rfl,rfl,rfl,rfl,rfl,rfl,H3.o.1.mono (fun g hg _=>⟨(by have hg:w2.heap.size≤g:=hg;show w7.heap.size≤g;omega),fun e=>by have:=H0.o.1.lt e;have hg:w2.heap.size≤g:=hg;omega⟩)⟩;have AP:=EsRel.app H0.o.1 H0.o.2.1 H0.o.2.2.1 H4.o.2 H4.o.1 hx HF.o.1 HF.o.2.1 HF.o.2.2;exact⟨i+1,by simp[hwi],hin,rfl,by rw[H0.o.2.2.2.2.1,yek,HLT.o,znl,List.map_append];exact AP.1,AP.2.1,AP.2.2⟩
        ·have n2:(ck==2)=false:=by rw[zna];exact hk2
         have n3:(ck !=2)=true:=by unfold bne;rw[n2];rfl
         have HLT:=zhd (show ybP cs (⟨ck,ct,ca,cb,cn,cv⟩:Cm)=false by unfold ybP;rw[n2];rfl);clear hb2 M2 hk2;obtain⟨x0,x1,x2,x3,x4,x5,x6,x7,x8,xl,_⟩:=yhP H2.o.2;have CE:=zhd (yc2 (⟨ck,ct,ca,cb,cn,cv⟩:Cm) H0.o.2.2.2.2.2.1 H0.o.2.2.2.2.2.2 vk vn vs la ln lc (fun g=>g<w7.heap.size) w2 (H0.o.2.2.2.1.keep (S:=fun _=>False) (zkb (H0.o.2.2.1.trans (H2.o.1.mono H0.o.2.2.1.size))) (fun _ _ f=>f)));go_wp2_with fail;refine CE.o.mono ?_;rintro e w3 ⟨uk,un,us,ua,ul,uc,rfl,H3⟩;clear x0 x1 x2 x3 x4 x5 x6 x7 x8 xl CE;obtain⟨va,vl,vc,hv3⟩:=yaY H0.o.1;subst hv3;have B13:=H2.o.1.trans (H3.o.2.mono H2.o.1.size);obtain⟨ks,hKR,hKP⟩:=(H0.o.1.below B13).cells;have hkl:ks.length≤i:=by
          rw[hKP.1,zmd];exact znf (List.length_filter_le _ _) (by rw[List.length_take];exact Nat.min_le_left _ _)
         have RA:=zhd (hKR.below ((znv w3.heap.size w3).alloc (znc _) (.cells #[.int .i64 (evOfC (⟨ck,ct,ca,cb,cn,cv⟩:Cm)).id,.int .i64 (evOfC (⟨ck,ct,ca,cb,cn,cv⟩:Cm)).time,.int .i64 (evOfC (⟨ck,ct,ca,cb,cn,cv⟩:Cm)).kind,.int .i64 (evOfC (⟨ck,ct,ca,cb,cn,cv⟩:Cm)).a,.int .i64 (evOfC (⟨ck,ct,ca,cb,cn,cv⟩:Cm)).b,.string (evOfC (⟨ck,ct,ca,cb,cn,cv⟩:Cm)).name,.string (evOfC (⟨ck,ct,ca,cb,cn,cv⟩:Cm)).text,.int .i64 uk,.int .i64 un,.string us,.slice ua ul uc] 40)));have HBD:=zhd (show(ks.length+1)*128≤140737488355328∧ks.length+1≤maxLen from by have:=HE.o.2.2.2.2.2;unfold maxLen;omega);have H4:=zh2 hKP B13;clear hKR hKP hkl B13;have hwi:=HWI.o;go_wp2_with (at_builtin;refine ybR (α:=EC) yll rfl (.tmp 65) (.tmp 68) rfl RA.o (⟨(evOfC (⟨ck,ct,ca,cb,cn,cv⟩:Cm)).id,(evOfC (⟨ck,ct,ca,cb,cn,cv⟩:Cm)).time,(evOfC (⟨ck,ct,ca,cb,cn,cv⟩:Cm)).kind,(evOfC (⟨ck,ct,ca,cb,cn,cv⟩:Cm)).a,(evOfC (⟨ck,ct,ca,cb,cn,cv⟩:Cm)).b,(evOfC (⟨ck,ct,ca,cb,cn,cv⟩:Cm)).name,(evOfC (⟨ck,ct,ca,cb,cn,cv⟩:Cm)).text,⟨uk,un,us,ua,ul,uc⟩⟩:EC) rfl rfl (znb _ _) HBD.o.1 HBD.o.2 ?_;intro a1 c1 w6 hr1 hk1 hf1;have HF:=zh3 hr1 hk1 hf1;clear hr1 hk1 hf1);go_roundg (n - (i+1))
         case measure=>exact HM2.o
         case rel=>
          have hwr:=H0.o.2.2.1.size;have hw2:=H2.o.1.size;have hx:EvF (fun g=>w7.heap.size≤g∧¬(Value.slice va vl vc).ownBlock=some g) w3 (⟨(evOfC (⟨ck,ct,ca,cb,cn,cv⟩:Cm)).id,(evOfC (⟨ck,ct,ca,cb,cn,cv⟩:Cm)).time,(evOfC (⟨ck,ct,ca,cb,cn,cv⟩:Cm)).kind,(evOfC (⟨ck,ct,ca,cb,cn,cv⟩:Cm)).a,(evOfC (⟨ck,ct,ca,cb,cn,cv⟩:Cm)).b,(evOfC (⟨ck,ct,ca,cb,cn,cv⟩:Cm)).name,(evOfC (⟨ck,ct,ca,cb,cn,cv⟩:Cm)).text,⟨uk,un,us,ua,ul,uc⟩⟩:EC) (evOfC (⟨ck,ct,ca,cb,cn,cv⟩:Cm)):=⟨rfl,rfl,rfl,rfl,rfl,rfl,rfl,H3.o.1.mono (fun g hg _=>⟨(by have hg:w2.heap.size≤g:=hg;show w7.heap.size≤g;omega),fun e=>by have:=H0.o.1.lt e;have hg:w2.heap.size≤g:=hg;omega⟩)⟩;have AP:=EsRel.app H0.o.1 H0.o.2.1 H0.o.2.2.1 H4.o.2 H4.o.1 hx HF.o.1 HF.o.2.1 HF.o.2.2;exact⟨i+1,by simp[hwi],hin,rfl,by rw[H0.o.2.2.2.2.1,yek,HLT.o,znl,List.map_append];exact AP.1,AP.2.1,AP.2.2⟩
       ·obtain rfl:i=n:=by omega
        have hnn:¬(i:Int)<i:=by omega
        have hT:L.take i=L:=zmj (by rw[HE.o.2.2.2.2.1];exact znc _);rw[hT]at hX;obtain⟨va,vl,vc,hv3⟩:=yaY hX;subst hv3;have H0:=zh3 (hX.mono (G:=fun g=>W.heap.size≤g) (fun g h _=>by have:=HE.o.2.1.size;have h1:=h.1;omega)) (fun g hg=>znf HE.o.2.1.size (hO g hg)) (HE.o.2.1.trans (hB.mono HE.o.2.1.size));have hq:(NL cs L).map evOfC=ycP (yae p) l:=by
         rw[HE.o.2.2.2.1];unfold ycP;rw[H7.o.2.1,←ynK H6.o.2.1];unfold NL;rw[List.filter_map,List.map_map]
         congr 1
         funext c
         exact yeK c
        have HQ:=zhd hq;clear hX hO hB hgk hT hi hq;go_wp2_with fail;exact zng (v:=.tuple #[.slice va vl vc,.int .i64 0]) (by simp only[results,Tryz.results29];go_simp) rfl (.inr ⟨rfl,_,rfl,zhd ⟨by rw[←HQ.o];exact H0.o.1,H0.o.2⟩⟩)
end Go.Proofs.YtpagmlndgblhhaaGreatDoor
