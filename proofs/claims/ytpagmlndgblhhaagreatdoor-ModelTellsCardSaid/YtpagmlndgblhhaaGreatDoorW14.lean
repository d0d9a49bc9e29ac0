/- Parts of the proof: what the functions and the plain laws give that later parts lean on. Conditions: none beyond those that each theorem names. -/
import Derived.StillTailTactics
import Derived.Test.YtpagmlndgblhhaaGreatDoorW13
set_option maxRecDepth 100000
set_option maxHeartbeats 8000000
namespace Go.Proofs.YtpagmlndgblhhaaGreatDoor
open Go.RowKit Go.Own Go.Own.MapTy Go.Va Go.Sort
open Go.Own.Cells (sz enc)
theorem findLt_some {nm:ByteArray}:∀{l:List Lt} {i:Nat},yao nm l=some i->∃x,l[i]? =some x
 |[],i,h=>by cases h
 |y::r,i,h=>by
  rw[yao]at h;split at h
  .cases h;exact⟨y,rfl⟩
  .cases h2:yao nm r with
   |none=>rw[h2]at h;cases h
   |some j=>rw[h2]at h;cases h;obtain⟨x,hx⟩:=findLt_some h2;exact⟨x,by simpa using hx⟩
theorem yfs
  {Z:Nat->Prop}(b:Nat)(v:MV)(p:Img)(s:MS)(W:World)(M:MX TT Z W b v p s)
  (k:Nat)(nm:ByteArray)(hnm:p.names[k]? =some nm)(hf:yao nm s.letters=none):
  Calls Tryz.prog 156 #[.pointer (some ⟨b,0,none⟩),.agg #[.int .i64 22,k]] W (MP Z W b v p (.bool false) s):=by
 obtain⟨w0,A⟩:∃w0,w0=W.alloc (.cells #[.int .i64 22,k] 106):=⟨_,rfl⟩;have H:=zba A;have F:=zha A;have c0:=zca F 0 rfl;have c1:=zca F 1 rfl;have S:=zlt F;have B:=M.ext H;have O:=zlt M.h;have T:b<w0:=zlt B.h;obtain⟨R,I,D,_,_,L,K⟩:=B.img.name_at (znv _ _) hnm;have C:=B.img.lens.2.2;have c3:w0.cell? ⟨b,3,none⟩=some (.slice v.ic.na v.ic.nn v.ic.nc):=B.cell (k:=3) rfl;rw[D,C]at c3;have N:(k:Int)<(p.names.length:Int):=by have:=(zge hnm).1;omega
 clear D C;have P:=zhd (ybo b v p s w0.drew (B.ext (znv _ _).drew) nm (-1) (by unfold ltI;rw[hf]));have G:=zh2 M H;clear M B H F hnm hf;go_in;go_wp2_with fail;rw[<-A];clear A
 go_still_tail 10,(by kernel_rfl)
 go_wp2_with fail;refine P.o.mono ?_;rintro e Q ⟨rfl,E⟩;have J:=zhd (G.o.2.trans (znw ((znv w0.heap.size w0).drew) E|>.mono G.o.2.size));clear E;go_wp2;go_ret;exact⟨v,rfl,zhd ⟨G.o.1.ext J.o,MK.ext J.o⟩⟩
theorem ylp
  {Z:Nat->Prop}(b:Nat)(v:MV)(p:Img)(s:MS)(W:World)(M:MX TT Z W b v p s)
  (k:Nat)(nm:ByteArray)(hnm:p.names[k]? =some nm)(i:Nat)(hf:yao nm s.letters=some i)(hk:s.stk.length<=4294967296)(hll:s.letters.length<=4294967296)(hat:s.at_<=4294967296)(hZ:∀j,W.heap.size<=j->Z j)(s':MS)(hs':s'=((s.openL i).push (s.letV i)).nxt):
  Calls Tryz.prog 156 #[.pointer (some ⟨b,0,none⟩),.agg #[.int .i64 22,k]] W (MP Z W b v p (.bool true) s'):=by
 have m:wrap64 ((s.at_:Int)+1)=(s.at_:Int)+1:=by unfold wrap64;omega
 obtain⟨w0,A⟩:∃w0,w0=W.alloc (.cells #[.int .i64 22,k] 106):=⟨_,rfl⟩;have N:=zba A;have I:=zha A;have c0:=zca I 0 rfl;have c1:=zca I 1 rfl;have l0:=zlt I;have C:=M.ext N;have d:=zlt M.h;have b0:b<w0:=zlt C.h;obtain⟨z,P,F,_,_,V,K⟩:=C.img.name_at (znv _ _) hnm;have E:=C.img.lens.2.2;have c3:w0.cell? ⟨b,3,none⟩=some (.slice v.ic.na v.ic.nn v.ic.nc):=C.cell (k:=3) rfl;rw[F,E]at c3;have c:(k:Int)<(p.names.length:Int):=by have:=(zge hnm).1;omega
 clear F E;have u:=zhd (ybo b v p s w0.drew (C.ext (znv _ _).drew) nm (i:Int) (by unfold ltI;rw[hf]));obtain⟨x,Q⟩:=findLt_some hf;have D:=zh5 M N Q hll hZ;have B:=zhd hs';have n8:decide ((i:Int)<0)=false:=znd (by omega);clear M C N I hnm hf Q hll hZ hs';go_in;go_wp2_with fail;rw[<-A];clear A
 go_still_tail 10,(by kernel_rfl)
 go_wp2_with fail;refine u.o.mono ?_;rintro e w2 ⟨rfl,G⟩;have J:Below W W w2:=D.o.2.1.trans (znw ((znv w0.heap.size w0).drew) G|>.mono D.o.2.1.size);have t:=zhd (yfD b v p s w2.drew (D.o.1.ext J.drew) i x D.o.2.2.1 D.o.2.2.2.1 (yad D.o.2.2.2.2 J.size));have y:=zhd J;clear G J K c3 c0 c1;go_upto_region 5 with(fail);go_region_law (first
  |(go_simp;go_at_call 162;refine t.o.mono ?_;rintro e S ⟨U,⟨l,g,f,a,X,Y⟩,rfl,L⟩)
  |(go_simp;go_at_call 119;refine(yak b U p (s.openL i) S L.o.1 (s.letV i) l g f a X Y L.o.2.2 hk).mono ?_;rintro e O ⟨T,rfl,H⟩))
 all_goals
  have r:O.cell? ⟨b,6,none⟩=some (.int .i64 (s.at_:Int)):=H.o.1.cell (k:=6) rfl;have n:∀o,O.frozen? ⟨b,o,none⟩=false:=fun o=>H.o.1.frozen o;have q:=zlt H.o.1.h;have R:=zhd (H.o.1.scalar 6 (.int .i64 ((s.at_:Int)+1)) s' (by rw[B.o];rfl) (by rw[B.o];rfl) (by rw[B.o];rfl) (by rw[B.o];rfl) (by rw[B.o];rfl) (by rw[B.o];rfl) (by rw[B.o];rfl) (by rw[B.o];rfl));go_wp2;go_ret;exact⟨T,rfl,zhd ⟨R.o.1,(MK.ext y.o.drew).trans (L.o.2.1.trans (H.o.2.trans R.o.2))⟩⟩
theorem ydS
  {Z:Nat->Prop}(b:Nat)(v:MV)(p:Img)(s:MS)(W:World)(M:MX TT Z W b v p s)
  (k:Nat)(hx:¬s.top.kind=1\/yax s.top.num s.timers.list=none)(hl:s.made.length<=4294967296)(hZ:∀j,W.heap.size<=j->Z j)(s':MS)(hs':s'=s.tGone):
  Calls Tryz.prog 156 #[.pointer (some ⟨b,0,none⟩),.agg #[.int .i64 18,k]] W (MP Z W b v p (.bool true) s'):=by
 obtain⟨w0,C⟩:∃w0,w0=W.alloc (.cells #[.int .i64 18,k] 106):=⟨_,rfl⟩;have i:=zba C;have L:=zha C;have c0:=zca L 0 rfl;have c1:=zca L 1 rfl;have q:=zlt L;have Y:=M.ext i;have V:=zlt M.h;have b0:b<w0:=zlt Y.h;have TP:=zhd (ybQ b v p s w0 Y);have c:=zh3 M i L;clear M Y i L;go_in;go_wp2_with fail;rw[<-C];clear C;refine TP.o.mono ?_;rintro e w1 ⟨T,⟨P,X,cs,la,ln,lc⟩,rfl,I⟩;have F:=(I.o.2.1.keeps.block W q (fun e=>by have:=c.o.1.lt e;omega)).trans c.o.2.2;go_upto_region 12 with(fail);refine yab ?_;intro w2 D;have Q:=zba D;have E:=zha D;obtain⟨q0,q1,q2,q3,l2⟩:=zq4 E;have Aa:=zhd E;have G:=zh3 Q (I.o.1.ext Q) (I.o.2.2.keep (S:=fun _=>False) (zkb Q) (fun _ _ f=>f));clear E Q D;have B:=(G.o.1.block W (zlt F)).trans F;have i0:=zca B 0 rfl;have i1:=zca B 1 rfl;have il:=zlt B;have b2:b<w2:=zlt G.o.2.1.h;have A:∃a cap,T.ts= .slice a s.timers.list.length cap:=G.o.2.1.tms.slice;obtain⟨m,l,A⟩:=A
 have N:w2.cell? ⟨b,12,none⟩=some (.slice m s.timers.list.length l):=by rw[<-A];exact G.o.2.1.cell (k:=12) rfl
 have g:=zhd (fun r H=>yaR b 12 X s.timers.list m l _ w2 N (A▸G.o.2.1.tms) b2 r H);have x:MK b v W T w2:=(MK.ext c.o.2.1).trans (I.o.2.1.trans (MK.ext G.o.1));have d:=zh2 x B;clear F B x c0 c1 q V b0;clear A N;have J:P=s.top.kind:=I.o.2.2.kind;have K:X=s.top.num:=I.o.2.2.n;rw[<-J,<-K]at hx;clear J K;obtain⟨r,H⟩:∃r,ybL X s.timers.list=r:=⟨_,rfl⟩;have g:=zhd (g.o r H);have y:=zhd (yav b T p s w2 G.o.2.1 ⟨#[103,111,110,101]⟩ (by decide) hl (yad hZ d.o.1.keeps.size) s' (hs'.symm));go_wp2_with fail;refine g.o.mono ?_;rintro e w3 ⟨rfl,t⟩;rw[t];clear t w3;by_cases h1:P=1
 .subst h1
  have u:=hx.resolve_left (fun h=>h rfl);have U:r= -1:=by rw[<-H];unfold ybL;rw[u]
  subst U;clear u H hx;go_wp2_with fail;refine y.o.mono ?_;rintro e z ⟨R,rfl,O⟩;go_wp2;go_ret;exact⟨R,rfl,zhd ⟨O.o.1,d.o.1.trans O.o.2⟩⟩
 .have n1:(P==1)=false:=by rw[zna];exact h1
  have n2:(P !=1)=true:=by rw[bne,n1];rfl
  clear hx h1 H;go_wp2_with fail;refine y.o.mono ?_;rintro e z ⟨R,rfl,O⟩;go_wp2;go_ret;exact⟨R,rfl,zhd ⟨O.o.1,d.o.1.trans O.o.2⟩⟩
theorem ydQ
  {Z:Nat->Prop}(b:Nat)(v:MV)(p:Img)(s:MS)(W:World)(M:MX TT Z W b v p s)
  (k:Nat)(hx:¬s.top.kind=1\/yax s.top.num s.timers.list=none)(hl:s.made.length<=4294967296)(hZ:∀j,W.heap.size<=j->Z j)(s':MS)(hs':s'=s.tGone):
  Calls Tryz.prog 156 #[.pointer (some ⟨b,0,none⟩),.agg #[.int .i64 28,k]] W (MP Z W b v p (.bool true) s'):=by
 obtain⟨w0,C⟩:∃w0,w0=W.alloc (.cells #[.int .i64 28,k] 106):=⟨_,rfl⟩;have i:=zba C;have L:=zha C;have c0:=zca L 0 rfl;have c1:=zca L 1 rfl;have q:=zlt L;have Y:=M.ext i;have V:=zlt M.h;have b0:b<w0:=zlt Y.h;have TP:=zhd (ybQ b v p s w0 Y);have c:=zh3 M i L;clear M Y i L;go_in;go_wp2_with fail;rw[<-C];clear C;refine TP.o.mono ?_;rintro e w1 ⟨T,⟨P,X,cs,la,ln,lc⟩,rfl,I⟩;have F:=(I.o.2.1.keeps.block W q (fun e=>by have:=c.o.1.lt e;omega)).trans c.o.2.2;go_upto_region 12 with(fail);refine yab ?_;intro w2 D;have Q:=zba D;have E:=zha D;obtain⟨q0,q1,q2,q3,l2⟩:=zq4 E;have Aa:=zhd E;have G:=zh3 Q (I.o.1.ext Q) (I.o.2.2.keep (S:=fun _=>False) (zkb Q) (fun _ _ f=>f));clear E Q D;have B:=(G.o.1.block W (zlt F)).trans F;have i0:=zca B 0 rfl;have i1:=zca B 1 rfl;have il:=zlt B;have b2:b<w2:=zlt G.o.2.1.h;have A:∃a cap,T.ts= .slice a s.timers.list.length cap:=G.o.2.1.tms.slice;obtain⟨m,l,A⟩:=A
 have N:w2.cell? ⟨b,12,none⟩=some (.slice m s.timers.list.length l):=by rw[<-A];exact G.o.2.1.cell (k:=12) rfl
 have g:=zhd (fun r H=>yaR b 12 X s.timers.list m l _ w2 N (A▸G.o.2.1.tms) b2 r H);have x:MK b v W T w2:=(MK.ext c.o.2.1).trans (I.o.2.1.trans (MK.ext G.o.1));have d:=zh2 x B;clear F B x c0 c1 q V b0;clear A N;have J:P=s.top.kind:=I.o.2.2.kind;have K:X=s.top.num:=I.o.2.2.n;rw[<-J,<-K]at hx;clear J K;obtain⟨r,H⟩:∃r,ybL X s.timers.list=r:=⟨_,rfl⟩;have g:=zhd (g.o r H);have y:=zhd (yav b T p s w2 G.o.2.1 ⟨#[103,111,110,101]⟩ (by decide) hl (yad hZ d.o.1.keeps.size) s' (hs'.symm));go_wp2_with fail;refine g.o.mono ?_;rintro e w3 ⟨rfl,t⟩;rw[t];clear t w3;by_cases h1:P=1
 .subst h1
  have u:=hx.resolve_left (fun h=>h rfl);have U:r= -1:=by rw[<-H];unfold ybL;rw[u]
  subst U;clear u H hx;go_wp2_with fail;refine y.o.mono ?_;rintro e z ⟨R,rfl,O⟩;go_wp2;go_ret;exact⟨R,rfl,zhd ⟨O.o.1,d.o.1.trans O.o.2⟩⟩
 .have n1:(P==1)=false:=by rw[zna];exact h1
  have n2:(P !=1)=true:=by rw[bne,n1];rfl
  clear hx h1 H;go_wp2_with fail;refine y.o.mono ?_;rintro e z ⟨R,rfl,O⟩;go_wp2;go_ret;exact⟨R,rfl,zhd ⟨O.o.1,d.o.1.trans O.o.2⟩⟩
theorem ydR
  {Z:Nat->Prop}(b:Nat)(v:MV)(p:Img)(s:MS)(W:World)(M:MX TT Z W b v p s)
  (k:Nat)(hx:¬s.top.kind=1\/yax s.top.num s.acts.list=none)(hl:s.made.length<=4294967296)(hZ:∀j,W.heap.size<=j->Z j)(s':MS)(hs':s'=s.tGone):
  Calls Tryz.prog 156 #[.pointer (some ⟨b,0,none⟩),.agg #[.int .i64 21,k]] W (MP Z W b v p (.bool true) s'):=by
 obtain⟨w0,C⟩:∃w0,w0=W.alloc (.cells #[.int .i64 21,k] 106):=⟨_,rfl⟩;have i:=zba C;have L:=zha C;have c0:=zca L 0 rfl;have c1:=zca L 1 rfl;have q:=zlt L;have Y:=M.ext i;have V:=zlt M.h;have b0:b<w0:=zlt Y.h;have TP:=zhd (ybQ b v p s w0 Y);have c:=zh3 M i L;clear M Y i L;go_in;go_wp2_with fail;rw[<-C];clear C;refine TP.o.mono ?_;rintro e w1 ⟨T,⟨P,X,cs,la,ln,lc⟩,rfl,I⟩;have F:=(I.o.2.1.keeps.block W q (fun e=>by have:=c.o.1.lt e;omega)).trans c.o.2.2;go_upto_region 12 with(fail);refine yab ?_;intro w2 D;have Q:=zba D;have E:=zha D;obtain⟨q0,q1,q2,q3,l2⟩:=zq4 E;have Aa:=zhd E;have G:=zh3 Q (I.o.1.ext Q) (I.o.2.2.keep (S:=fun _=>False) (zkb Q) (fun _ _ f=>f));clear E Q D;have B:=(G.o.1.block W (zlt F)).trans F;have i0:=zca B 0 rfl;have i1:=zca B 1 rfl;have il:=zlt B;have b2:b<w2:=zlt G.o.2.1.h;have A:∃a cap,T.as_= .slice a s.acts.list.length cap:=G.o.2.1.acs.slice;obtain⟨m,l,A⟩:=A
 have N:w2.cell? ⟨b,14,none⟩=some (.slice m s.acts.list.length l):=by rw[<-A];exact G.o.2.1.cell (k:=14) rfl
 have g:=zhd (fun r H=>yaR b 14 X s.acts.list m l _ w2 N (A▸G.o.2.1.acs) b2 r H);have x:MK b v W T w2:=(MK.ext c.o.2.1).trans (I.o.2.1.trans (MK.ext G.o.1));have d:=zh2 x B;clear F B x c0 c1 q V b0;clear A N;have J:P=s.top.kind:=I.o.2.2.kind;have K:X=s.top.num:=I.o.2.2.n;rw[<-J,<-K]at hx;clear J K;obtain⟨r,H⟩:∃r,ybL X s.acts.list=r:=⟨_,rfl⟩;have g:=zhd (g.o r H);have y:=zhd (yav b T p s w2 G.o.2.1 ⟨#[103,111,110,101]⟩ (by decide) hl (yad hZ d.o.1.keeps.size) s' (hs'.symm));go_wp2_with fail;refine g.o.mono ?_;rintro e w3 ⟨rfl,t⟩;rw[t];clear t w3;by_cases h1:P=1
 .subst h1
  have u:=hx.resolve_left (fun h=>h rfl);have U:r= -1:=by rw[<-H];unfold ybL;rw[u]
  subst U;clear u H hx;go_wp2_with fail;refine y.o.mono ?_;rintro e z ⟨R,rfl,O⟩;go_wp2;go_ret;exact⟨R,rfl,zhd ⟨O.o.1,d.o.1.trans O.o.2⟩⟩
 .have n1:(P==1)=false:=by rw[zna];exact h1
  have n2:(P !=1)=true:=by rw[bne,n1];rfl
  clear hx h1 H;go_wp2_with fail;refine y.o.mono ?_;rintro e z ⟨R,rfl,O⟩;go_wp2;go_ret;exact⟨R,rfl,zhd ⟨O.o.1,d.o.1.trans O.o.2⟩⟩
theorem yg1
  {Z:Nat->Prop}(b:Nat)(v:MV)(p:Img)(s:MS)(W:World)(M:MX TT Z W b v p s)
  (k i:Nat)(x:Th)(hx:s.top.kind=1)(hf:yax s.top.num s.timers.list=some i)(hxi:s.timers.list[i]? =some x)(hov:x.over=false):
  Calls Tryz.prog 156 #[.pointer (some ⟨b,0,none⟩),.agg #[.int .i64 18,k]] W (MP Z W b v p (.bool false) s):=by
 obtain⟨w0,C⟩:∃w0,w0=W.alloc (.cells #[.int .i64 18,k] 106):=⟨_,rfl⟩;have j:=zba C;have K:=zha C;have c0:=zca K 0 rfl;have c1:=zca K 1 rfl;have l:=zlt K;have X:=M.ext j;have U:=zlt M.h;have b0:b<w0:=zlt X.h;have TP:=zhd (ybQ b v p s w0 X);have Y:=zh3 M j K;clear M X j K;go_in;go_wp2_with fail;rw[<-C];clear C;refine TP.o.mono ?_;rintro e w1 ⟨N,⟨ck,t,cs,la,ln,lc⟩,rfl,H⟩;have G:=(H.o.2.1.keeps.block W l (fun e=>by have:=Y.o.1.lt e;omega)).trans Y.o.2.2;go_upto_region 12 with(fail);refine yab ?_;intro w2 E;have L:=zba E;have F:=zha E;obtain⟨q0,q1,q2,q3,l2⟩:=zq4 F;have Ab:=zhd F;have D:=zh3 L (H.o.1.ext L) (H.o.2.2.keep (S:=fun _=>False) (zkb L) (fun _ _ f=>f));clear F L E;have B:=(D.o.1.block W (zlt G)).trans G;have i0:=zca B 0 rfl;have i1:=zca B 1 rfl;have il:=zlt B;have b2:b<w2:=zlt D.o.2.1.h;have A:∃a cap,N.ts= .slice a s.timers.list.length cap:=D.o.2.1.tms.slice;obtain⟨P,O,A⟩:=A
 have V:w2.cell? ⟨b,12,none⟩=some (.slice P s.timers.list.length O):=by rw[<-A];exact D.o.2.1.cell (k:=12) rfl
 have d:=zhd (fun r hr=>yaR b 12 t s.timers.list P O _ w2 V (A▸D.o.2.1.tms) b2 r hr);have u:MK b v W N w2:=(MK.ext Y.o.2.1).trans (H.o.2.1.trans (MK.ext D.o.1));have HK:=zh2 u B;clear G B u c0 c1 l U b0;obtain rfl:ck=1:=H.o.2.2.kind.trans hx;have J:t=s.top.num:=H.o.2.2.n;rw[<-J]at hf;have d:=zhd (d.o (i:Int) (by unfold ybL;rw[hf]));have n8:decide ((i:Int)<0)=false:=znd (by omega);obtain⟨x0,R⟩:=Go.Proofs.YtpagmlndgblhhaaGreatDoor.findT_some hf;obtain⟨g,Q,c,T,hg,q,_,I⟩:=(show XRow _ w2 193 (.slice P s.timers.list.length O) s.timers.list from A▸D.o.2.1.tms).at_ hxi;have z:w2.cell? ⟨g,Q+i*7+1,none⟩=some (.bool x.over):=by rw[<-q.over];exact I 1 _ rfl
 have Aa:(i:Int)<s.timers.list.length:=by have:=(zge hxi).1;omega
 subst T;rw[hov]at z;clear A hf hxi hx R I q J hov;go_wp2_with fail;refine d.o.mono ?_;rintro e y ⟨rfl,m⟩;rw[m];clear m y;go_wp2;go_ret;exact⟨N,rfl,zhd ⟨D.o.2.1,HK.o.1⟩⟩
theorem yg0
  {Z:Nat->Prop}(b:Nat)(v:MV)(p:Img)(s:MS)(W:World)(M:MX TT Z W b v p s)
  (k i:Nat)(x:Th)(hx:s.top.kind=1)(hf:yax s.top.num s.acts.list=some i)(hxi:s.acts.list[i]? =some x)(hov:x.over=false):
  Calls Tryz.prog 156 #[.pointer (some ⟨b,0,none⟩),.agg #[.int .i64 21,k]] W (MP Z W b v p (.bool false) s):=by
 obtain⟨w0,C⟩:∃w0,w0=W.alloc (.cells #[.int .i64 21,k] 106):=⟨_,rfl⟩;have j:=zba C;have K:=zha C;have c0:=zca K 0 rfl;have c1:=zca K 1 rfl;have l:=zlt K;have X:=M.ext j;have U:=zlt M.h;have b0:b<w0:=zlt X.h;have TP:=zhd (ybQ b v p s w0 X);have Y:=zh3 M j K;clear M X j K;go_in;go_wp2_with fail;rw[<-C];clear C;refine TP.o.mono ?_;rintro e w1 ⟨N,⟨ck,t,cs,la,ln,lc⟩,rfl,H⟩;have G:=(H.o.2.1.keeps.block W l (fun e=>by have:=Y.o.1.lt e;omega)).trans Y.o.2.2;go_upto_region 12 with(fail);refine yab ?_;intro w2 E;have L:=zba E;have F:=zha E;obtain⟨q0,q1,q2,q3,l2⟩:=zq4 F;have Ab:=zhd F;have D:=zh3 L (H.o.1.ext L) (H.o.2.2.keep (S:=fun _=>False) (zkb L) (fun _ _ f=>f));clear F L E;have B:=(D.o.1.block W (zlt G)).trans G;have i0:=zca B 0 rfl;have i1:=zca B 1 rfl;have il:=zlt B;have b2:b<w2:=zlt D.o.2.1.h;have A:∃a cap,N.as_= .slice a s.acts.list.length cap:=D.o.2.1.acs.slice;obtain⟨P,O,A⟩:=A
 have V:w2.cell? ⟨b,14,none⟩=some (.slice P s.acts.list.length O):=by rw[<-A];exact D.o.2.1.cell (k:=14) rfl
 have d:=zhd (fun r hr=>yaR b 14 t s.acts.list P O _ w2 V (A▸D.o.2.1.acs) b2 r hr);have u:MK b v W N w2:=(MK.ext Y.o.2.1).trans (H.o.2.1.trans (MK.ext D.o.1));have HK:=zh2 u B;clear G B u c0 c1 l U b0;obtain rfl:ck=1:=H.o.2.2.kind.trans hx;have J:t=s.top.num:=H.o.2.2.n;rw[<-J]at hf;have d:=zhd (d.o (i:Int) (by unfold ybL;rw[hf]));have n8:decide ((i:Int)<0)=false:=znd (by omega);obtain⟨x0,R⟩:=Go.Proofs.YtpagmlndgblhhaaGreatDoor.findT_some hf;obtain⟨g,Q,c,T,hg,q,_,I⟩:=(show XRow _ w2 193 (.slice P s.acts.list.length O) s.acts.list from A▸D.o.2.1.acs).at_ hxi;have z:w2.cell? ⟨g,Q+i*7+1,none⟩=some (.bool x.over):=by rw[<-q.over];exact I 1 _ rfl
 have Aa:(i:Int)<s.acts.list.length:=by have:=(zge hxi).1;omega
 subst T;rw[hov]at z;clear A hf hxi hx R I q J hov;go_wp2_with fail;refine d.o.mono ?_;rintro e y ⟨rfl,m⟩;rw[m];clear m y;go_wp2;go_ret;exact⟨N,rfl,zhd ⟨D.o.2.1,HK.o.1⟩⟩
theorem yiP
  {Z:Nat->Prop}(b:Nat)(v:MV)(p:Img)(s:MS)(W:World)(M:MX TT Z W b v p s)
  (k i:Nat)(x:Th)(hx:s.top.kind=1)(hf:yax s.top.num s.timers.list=some i)(hxi:s.timers.list[i]? =some x)(hov:x.over=true)(hk:s.stk.length<=4294967295)(htl:s.timers.list.length<=4294967296)(hat:s.at_<=4294967296)(hZ:∀j,W.heap.size<=j->Z j)(s':MS)
  (hs':s'=(({s.pop with timers:=⟨s.timers.list.eraseIdx i,s.timers.next⟩}:MS).push (ybD s.now)).nxt):
  Calls Tryz.prog 156 #[.pointer (some ⟨b,0,none⟩),.agg #[.int .i64 18,k]] W (MP Z W b v p (.bool true) s'):=by
 have Ak:wrap64 ((s.at_:Int)+1)=(s.at_:Int)+1:=by unfold wrap64;omega
 have hk:s.stk.length<=4294967296:=by omega
 obtain⟨w0,D⟩:∃w0,w0=W.alloc (.cells #[.int .i64 18,k] 106):=⟨_,rfl⟩;have B0:=zba D;have Y:=zha D;have c0:=zca Y 0 rfl;have c1:=zca Y 1 rfl;have l0:=zlt Y;have M0:=M.ext B0;have Ad:=zlt M.h;have b0:b<w0:=zlt M0.h;have TP:=zhd (ybQ b v p s w0 M0);have d:=zh3 M B0 Y;clear M M0 B0 Y;go_in;go_wp2_with fail;rw[<-D];clear D;refine TP.o.mono ?_;rintro e w1 ⟨Q,⟨ck,cn,cs,la,ln,lc⟩,rfl,P⟩;have N:=(P.o.2.1.keeps.block W l0 (fun e=>by have:=d.o.1.lt e;omega)).trans d.o.2.2;go_upto_region 12 with(fail);refine yab ?_;intro w2 H;have z:=zba H;have L:=zha H;obtain⟨q0,q1,q2,q3,l2⟩:=zq4 L;have Ao:=zhd L;have F:=zh3 z (P.o.1.ext z) (P.o.2.2.keep (S:=fun _=>False) (zkb z) (fun _ _ f=>f));clear L z H;have C:=(F.o.1.block W (zlt N)).trans N;have i0:=zca C 0 rfl;have i1:=zca C 1 rfl;have il:=zlt C;have b2:b<w2:=zlt F.o.2.1.h;have B:∃a cap,Q.ts= .slice a s.timers.list.length cap:=F.o.2.1.tms.slice;obtain⟨ta,tc,B⟩:=B
 have Ae:w2.cell? ⟨b,12,none⟩=some (.slice ta s.timers.list.length tc):=by rw[<-B];exact F.o.2.1.cell (k:=12) rfl
 have FI:=zhd (fun r hr=>yaR b 12 cn s.timers.list ta tc _ w2 Ae (B▸F.o.2.1.tms) b2 r hr);have K2:MK b v W Q w2:=(MK.ext d.o.2.1).trans (P.o.2.1.trans (MK.ext F.o.1));have l:=zh2 K2 C;clear N C K2 c0 c1 l0 Ad b0;obtain rfl:ck=1:=P.o.2.2.kind.trans hx;have U:cn=s.top.num:=P.o.2.2.n;rw[<-U]at hf;have FI:=zhd (FI.o (i:Int) (by unfold ybL;rw[hf]));have n8:decide ((i:Int)<0)=false:=znd (by omega);obtain⟨x0,Ab⟩:=Go.Proofs.YtpagmlndgblhhaaGreatDoor.findT_some hf;obtain⟨g,Aa,c,Ac,hg,hc,_,T⟩:=(show XRow _ w2 193 (.slice ta s.timers.list.length tc) s.timers.list from B▸F.o.2.1.tms).at_ hxi;have m1:w2.cell? ⟨g,Aa+i*7+1,none⟩=some (.bool x.over):=by rw[<-hc.over];exact T 1 _ rfl
 have Ai:(i:Int)<s.timers.list.length:=by have:=(zge hxi).1;omega
 subst Ac;rw[hov]at m1;have E:=zhd hs';clear B hf hx Ab T hc U hov hs';go_wp2_with fail;refine FI.o.mono ?_;rintro e w3 ⟨rfl,hw⟩;rw[hw];clear hw w3;have PO:=zhd (yaj b Q p s w2 F.o.2.1);go_wp2_with fail;refine PO.o.mono ?_;rintro e w4 ⟨v4,⟨dk,dn,ds,ma,mn,mc⟩,rfl,t⟩;have O:¬MO Q b W.heap.size:=fun e=>by
  rcases P.o.2.1.own _ e with h|h
  .have:=d.o.1.lt h;omega
  .have h:w0<=W.heap.size:=h
   have:=zlt d.o.2.2;omega
 have K:=(t.o.2.1.keeps.block W (zlt l.o.2) O).trans l.o.2;have TK:=zhd (ycd b v4 p s.pop w4 t.o.1 i x hxi htl {s.pop with timers:=⟨s.timers.list.eraseIdx i,s.timers.next⟩} rfl (yad hZ (znf l.o.1.keeps.size (znf (znc _) t.o.2.1.keeps.size))));have R:s.pop.stk.length<=4294967296:=znf (Go.Proofs.YtpagmlndgblhhaaGreatDoor.pop_len s) hk;go_wp2_with fail;refine TK.o.mono ?_;rintro e w5 ⟨v5,⟨Ah,Ag,⟨zk,zn,zs,za,zl,zc⟩,Af⟩,rfl,q⟩;have V:¬MO v4 b W.heap.size:=fun e=>by
  rcases t.o.2.1.own _ e with h|h
  .exact O h
  .have:=zlt l.o.2;omega
 have J:=(q.o.2.1.keeps.block W (zlt K) V).trans K;go_upto_region 27 with(fail);refine yab ?_;intro w6 G;have u:=zba G;have A:=zha G;have I:=(u.block W (zlt J)).trans J;have u2:=zca A 2 rfl;have u3:=zca A 3 rfl;have u4:=zca A 4 rfl;have u5:=zca A 5 rfl;have u6:=zca A 6 rfl;have ul:=zlt A;have k0:=zca I 0 rfl;have kl:=zlt I;have y:=q.o.1.ext u;have Aj:w6.cell? ⟨b,11,none⟩=some (.int .i64 s.now):=y.cell (k:=11) rfl;have b6:=zlt y.h;have K6:MK b v W v5 w6:=l.o.1.trans ((MK.refl b Q w2).trans (t.o.2.1.trans (q.o.2.1.trans (MK.ext u))));have C6:=CF.step (MK.ext u) q.o.2.2.v;have H6:=zh5 y K6 C6 q.o.2.2.how A;clear K J I A G u y K6 C6 O V;go_upto_region 31 with(fail);go_region_law (first
  |(go_simp;go_at_call 106;refine(ybl _ _).mono ?_;rintro e w8 ⟨rfl,X⟩;have H8:=zhd (znw ((znv w6.heap.size w6).drew) X);clear X)
  |(go_simp;go_at_call 119;refine(yak b v5 p _ w8 (H6.o.1.ext H8.o) (ybD s.now) 1 _ ⟨#[]⟩ none 0 0 (ycK _ _ _) R).mono ?_;rintro e w9 ⟨v9,rfl,m⟩))
 all_goals
  have An:w9.cell? ⟨b,6,none⟩=some (.int .i64 (s.at_:Int)):=m.o.1.cell (k:=6) rfl;have Al:∀o,w9.frozen? ⟨b,o,none⟩=false:=fun o=>m.o.1.frozen o;have Am:=zlt m.o.1.h;have SN:=zhd (m.o.1.scalar 6 (.int .i64 ((s.at_:Int)+1)) s' (by rw[E.o];rfl) (by rw[E.o];rfl) (by rw[E.o];rfl) (by rw[E.o];rfl) (by rw[E.o];rfl) (by rw[E.o];rfl) (by rw[E.o];rfl) (by rw[E.o];rfl));go_wp2;go_ret;exact⟨v9,rfl,zhd ⟨SN.o.1,H6.o.2.1.trans ((MK.ext H8.o).trans (m.o.2.trans SN.o.2))⟩⟩
theorem ylr
  {Z:Nat->Prop}(b:Nat)(v:MV)(p:Img)(s:MS)(W:World)(M:MX TT Z W b v p s)
  (k i:Nat)(x:Th)(hx:s.top.kind=1)(hf:yax s.top.num s.acts.list=some i)(hxi:s.acts.list[i]? =some x)(hov:x.over=true)(hk:s.stk.length<=4294967295)(htl:s.acts.list.length<=4294967296)(hat:s.at_<=4294967296)(hZ:∀j,W.heap.size<=j->Z j)(s':MS)
  (hs':s'=((({s.pop with acts:=⟨s.acts.list.eraseIdx i,s.acts.next⟩}:MS).push x.result).push (ybD x.how)).nxt):
  Calls Tryz.prog 156 #[.pointer (some ⟨b,0,none⟩),.agg #[.int .i64 21,k]] W (MP Z W b v p (.bool true) s'):=by
 have Al:wrap64 ((s.at_:Int)+1)=(s.at_:Int)+1:=by unfold wrap64;omega
 have Ai:=hk;have hk:s.stk.length<=4294967296:=by omega
 obtain⟨w0,E⟩:∃w0,w0=W.alloc (.cells #[.int .i64 21,k] 106):=⟨_,rfl⟩;have B0:=zba E;have u:=zha E;have c0:=zca u 0 rfl;have c1:=zca u 1 rfl;have l0:=zlt u;have M0:=M.ext B0;have Ae:=zlt M.h;have b0:b<w0:=zlt M0.h;have TP:=zhd (ybQ b v p s w0 M0);have y:=zh3 M B0 u;clear M M0 B0 u;go_in;go_wp2_with fail;rw[<-E];clear E;refine TP.o.mono ?_;rintro e w1 ⟨X,⟨ck,cn,cs,la,ln,lc⟩,rfl,T⟩;have Q:=(T.o.2.1.keeps.block W l0 (fun e=>by have:=y.o.1.lt e;omega)).trans y.o.2.2;go_upto_region 12 with(fail);refine yab ?_;intro w2 I;have B2:=zba I;have P:=zha I;obtain⟨q0,q1,q2,q3,l2⟩:=zq4 P;have Ap:=zhd P;have G:=zh3 B2 (T.o.1.ext B2) (T.o.2.2.keep (S:=fun _=>False) (zkb B2) (fun _ _ f=>f));clear P B2 I;have C:=(G.o.1.block W (zlt Q)).trans Q;have i0:=zca C 0 rfl;have i1:=zca C 1 rfl;have il:=zlt C;have b2:b<w2:=zlt G.o.2.1.h;have B:∃a cap,X.as_= .slice a s.acts.list.length cap:=G.o.2.1.acs.slice;obtain⟨ta,tc,B⟩:=B
 have Af:w2.cell? ⟨b,14,none⟩=some (.slice ta s.acts.list.length tc):=by rw[<-B];exact G.o.2.1.cell (k:=14) rfl
 have FI:=zhd (fun r hr=>yaR b 14 cn s.acts.list ta tc _ w2 Af (B▸G.o.2.1.acs) b2 r hr);have K2:MK b v W X w2:=(MK.ext y.o.2.1).trans (T.o.2.1.trans (MK.ext G.o.1));have z:=zh2 K2 C;clear Q C K2 c0 c1 l0 Ae b0;obtain rfl:ck=1:=T.o.2.2.kind.trans hx;have m:cn=s.top.num:=T.o.2.2.n;rw[<-m]at hf;have FI:=zhd (FI.o (i:Int) (by unfold ybL;rw[hf]));have n8:decide ((i:Int)<0)=false:=znd (by omega);obtain⟨x0,Ac⟩:=Go.Proofs.YtpagmlndgblhhaaGreatDoor.findT_some hf;obtain⟨g,Ab,c,Ad,hg,hc,_,l⟩:=(show XRow _ w2 193 (.slice ta s.acts.list.length tc) s.acts.list from B▸G.o.2.1.acs).at_ hxi;have m1:w2.cell? ⟨g,Ab+i*7+1,none⟩=some (.bool x.over):=by rw[<-hc.over];exact l 1 _ rfl
 have Aj:(i:Int)<s.acts.list.length:=by have:=(zge hxi).1;omega
 subst Ad;rw[hov]at m1;have F:=zhd hs';clear B hf hx Ac l hc m hov hs';go_wp2_with fail;refine FI.o.mono ?_;rintro e w3 ⟨rfl,hw⟩;rw[hw];clear hw w3;have PO:=zhd (yaj b X p s w2 G.o.2.1);go_wp2_with fail;refine PO.o.mono ?_;rintro e w4 ⟨v4,⟨dk,dn,ds,ma,mn,mc⟩,rfl,H4⟩;have R:¬MO X b W.heap.size:=fun e=>by
  rcases T.o.2.1.own _ e with h|h
  .have:=y.o.1.lt h;omega
  .have h:w0<=W.heap.size:=h
   have:=zlt y.o.2.2;omega
 have N:=(H4.o.2.1.keeps.block W (zlt z.o.2) R).trans z.o.2;have TK:=zhd (yg6 b v4 p s.pop w4 H4.o.1 i x hxi htl {s.pop with acts:=⟨s.acts.list.eraseIdx i,s.acts.next⟩} rfl (yad hZ (znf z.o.1.keeps.size (znf (znc _) H4.o.2.1.keeps.size))));have d:s.pop.stk.length<=4294967296:=znf (Go.Proofs.YtpagmlndgblhhaaGreatDoor.pop_len s) hk;go_wp2_with fail;refine TK.o.mono ?_;rintro e w5 ⟨v5,⟨Ah,Ag,⟨zk,zn,zs,za,zl,zc⟩,Y⟩,rfl,U⟩;have q:¬MO v4 b W.heap.size:=fun e=>by
  rcases H4.o.2.1.own _ e with h|h
  .exact R h
  .have:=zlt z.o.2;omega
 have L:=(U.o.2.1.keeps.block W (zlt N) q).trans N;go_upto_region 27 with(fail);refine yab ?_;intro w6 H;have B6:=zba H;have A:=zha H;have K:=(B6.block W (zlt L)).trans L;have u2:=zca A 2 rfl;have u3:=zca A 3 rfl;have u4:=zca A 4 rfl;have u5:=zca A 5 rfl;have u6:=zca A 6 rfl;have ul:=zlt A;have k0:=zca K 0 rfl;have kl:=zlt K;have M6:=U.o.1.ext B6;have Ak:w6.cell? ⟨b,11,none⟩=some (.int .i64 s.now):=M6.cell (k:=11) rfl;have b6:=zlt M6.h;have K6:MK b v W v5 w6:=z.o.1.trans ((MK.refl b X w2).trans (H4.o.2.1.trans (U.o.2.1.trans (MK.ext B6))));have C6:=CF.step (MK.ext B6) U.o.2.2.v;have H6:=zh5 M6 K6 C6 U.o.2.2.how A;clear N L K A H B6 M6 K6 C6 R q;have J:(({s.pop with acts:=⟨s.acts.list.eraseIdx i,s.acts.next⟩}:MS).push x.result).stk.length<=4294967296:=by
  show(s.pop.stk++[x.result]).length<=_;rw[znk,zmh];have:=Go.Proofs.YtpagmlndgblhhaaGreatDoor.pop_len s;omega
 obtain rfl:Y=x.how:=H6.o.2.2.2.1;go_upto_region 33 with(fail);go_region_law ((go_simp;go_at_call 119;refine(yak b v5 p _ w6.drew (H6.o.1.ext (znv _ _).drew) x.result zk zn zs za zl zc (H6.o.2.2.1.keep (S:=fun _=>False) (zkb ((znv _ _).drew)) (fun _ _ f=>f)) d).mono ?_;rintro e w8 ⟨v8,rfl,H8⟩))
 all_goals
  have O:=(H8.o.2.keeps.block w5 ul (fun e=>by have:=U.o.1.lt e;omega)).trans H6.o.2.2.2.2;have g6:=zca O 6 rfl;have gl:=zlt O;clear O;go_upto_region 34 with(fail);go_region_law (first
   |(go_simp;go_at_call 106;refine(ybl _ _).mono ?_;rintro e w9 ⟨rfl,t⟩;have H9:=zhd (znw ((znv w8.heap.size w8).drew) t);clear t)
   |(go_simp;go_at_call 119;refine(yak b v8 p _ w9 (H8.o.1.ext H9.o) (ybD x.how) 1 _ ⟨#[]⟩ none 0 0 (ycK _ _ _) J).mono ?_;rintro e V ⟨Aa,rfl,D⟩))
  all_goals
   have Ao:V.cell? ⟨b,6,none⟩=some (.int .i64 (s.at_:Int)):=D.o.1.cell (k:=6) rfl;have Am:∀o,V.frozen? ⟨b,o,none⟩=false:=fun o=>D.o.1.frozen o;have An:=zlt D.o.1.h;have SN:=zhd (D.o.1.scalar 6 (.int .i64 ((s.at_:Int)+1)) s' (by rw[F.o];rfl) (by rw[F.o];rfl) (by rw[F.o];rfl) (by rw[F.o];rfl) (by rw[F.o];rfl) (by rw[F.o];rfl) (by rw[F.o];rfl) (by rw[F.o];rfl));go_wp2;go_ret;exact⟨Aa,rfl,zhd ⟨SN.o.1,H6.o.2.1.trans ((MK.ext ((znv w6.heap.size w6).drew)).trans (H8.o.2.trans ((MK.ext H9.o).trans (D.o.2.trans SN.o.2))))⟩⟩
theorem ygZ
  {Z:Nat->Prop}(b:Nat)(v:MV)(p:Img)(s:MS)(W:World)(M:MX TT Z W b v p s)
  (k i:Nat)(x:Th)(nm:ByteArray)(hnm:p.names[k]? =some nm)(hlt:yao nm s.letters=none)(hx:s.top.kind=1)(hf:yax s.top.num s.timers.list=some i)(hxi:s.timers.list[i]? =some x)(hov:x.over=false):
  Calls Tryz.prog 156 #[.pointer (some ⟨b,0,none⟩),.agg #[.int .i64 28,k]] W (MP Z W b v p (.bool false) s):=by
 obtain⟨w0,D⟩:∃w0,w0=W.alloc (.cells #[.int .i64 28,k] 106):=⟨_,rfl⟩;have B0:=zba D;have U:=zha D;have c0:=zca U 0 rfl;have c1:=zca U 1 rfl;have l0:=zlt U;have u:=M.ext B0;have q:=zlt M.h;have b0:b<w0:=zlt u.h;have TP:=zhd (ybQ b v p s w0 u);have y:=zh3 M B0 U;clear M u B0 U;go_in;go_wp2_with fail;rw[<-D];clear D;refine TP.o.mono ?_;rintro e w1 ⟨F,⟨ck,cn,cs,la,ln,lc⟩,rfl,L⟩;have J:=(L.o.2.1.keeps.block W l0 (fun e=>by have:=y.o.1.lt e;omega)).trans y.o.2.2;go_upto_region 12 with(fail);refine yab ?_;intro w2 G;have V:=zba G;have I:=zha G;obtain⟨q0,q1,q2,q3,l2⟩:=zq4 I;have Af:=zhd I;have B:=zh3 V (L.o.1.ext V) (L.o.2.2.keep (S:=fun _=>False) (zkb V) (fun _ _ f=>f));clear I V G;have C:=(B.o.1.block W (zlt J)).trans J;have i0:=zca C 0 rfl;have i1:=zca C 1 rfl;have il:=zlt C;have t:b<w2:=zlt B.o.2.1.h;have A:∃a cap,F.ts= .slice a s.timers.list.length cap:=B.o.2.1.tms.slice;obtain⟨Y,X,A⟩:=A
 have K:w2.cell? ⟨b,12,none⟩=some (.slice Y s.timers.list.length X):=by rw[<-A];exact B.o.2.1.cell (k:=12) rfl
 have z:=zhd (fun r hr=>yaR b 12 cn s.timers.list Y X _ w2 K (A▸B.o.2.1.tms) t r hr);have K2:MK b v W F w2:=(MK.ext y.o.2.1).trans (L.o.2.1.trans (MK.ext B.o.1));have HK:=zh2 K2 C;clear J C K2 c0 c1 l0 q b0;obtain rfl:ck=1:=L.o.2.2.kind.trans hx;have R:cn=s.top.num:=L.o.2.2.n;rw[<-R]at hf;have z:=zhd (z.o (i:Int) (by unfold ybL;rw[hf]));have n8:decide ((i:Int)<0)=false:=znd (by omega);obtain⟨x0,l⟩:=Go.Proofs.YtpagmlndgblhhaaGreatDoor.findT_some hf;obtain⟨g,N,c,m,hg,hc,_,Q⟩:=(show XRow _ w2 193 (.slice Y s.timers.list.length X) s.timers.list from A▸B.o.2.1.tms).at_ hxi;have j:w2.cell? ⟨g,N+i*7+1,none⟩=some (.bool x.over):=by rw[<-hc.over];exact Q 1 _ rfl
 have Ad:(i:Int)<s.timers.list.length:=by have:=(zge hxi).1;omega
 subst m;rw[hov]at j;obtain⟨ng,Aa,P,_,_,Ab,d⟩:=B.o.2.1.img.name_at (znv _ _) hnm;have O:=B.o.2.1.img.lens.2.2;have c3:w2.cell? ⟨b,3,none⟩=some (.slice F.ic.na F.ic.nn F.ic.nc):=B.o.2.1.cell (k:=3) rfl;rw[P,O]at c3;have Ac:(k:Int)<(p.names.length:Int):=by have:=(zge hnm).1;omega
 have LT:=zhd (ybo b F p s w2.drew (B.o.2.1.ext (znv _ _).drew) nm (-1) (by unfold ltI;rw[hlt]));have gW:g<w2:=hg;clear P O hnm A hf hx l Q hc R hg;go_wp2_with fail;refine z.o.mono ?_;rintro e w3 ⟨rfl,hw⟩;rw[hw];clear hw w3;go_upto_region 16 with(fail)
 go_still_tail 10,(by kernel_rfl)
 go_wp2_with fail;refine LT.o.mono ?_;rintro e w3 ⟨rfl,T⟩;have E:Below w2 w2 w3:=znw ((znv w2.heap.size w2).drew) T;have m2:=(E.cell (p:=⟨g,N+i*7+1,none⟩) gW).trans j;have Ae:=(E.cell (p:=⟨b,12,none⟩) t).trans K;have b3:=znj t E.size;have g3:=znj gW E.size;have H:=(E.block W il).trans HK.o.2;have j0:=zca H 0 rfl;have jl:=zlt H;have M3:=B.o.2.1.ext E;have H3:=zh3 E M3 H;clear E T M3 d c3 q0 q1 q2 q3 j K i0 i1;go_wp2;go_ret;exact⟨F,rfl,zhd ⟨H3.o.2.1,HK.o.1.trans (MK.ext H3.o.1)⟩⟩
theorem yg3
  {Z:Nat->Prop}(b:Nat)(v:MV)(p:Img)(s:MS)(W:World)(M:MX TT Z W b v p s)
  (k i:Nat)(x:Th)(hx:s.top.kind=1)(hf:yax s.top.num s.timers.list=some i)(hxi:s.timers.list[i]? =some x)(hov:x.over=true)(hk:s.stk.length<=4294967295)(htl:s.timers.list.length<=4294967296)(hat:s.at_<=4294967296)(hZ:∀j,W.heap.size<=j->Z j)(s':MS)
  (nm:ByteArray)(hnm:p.names[k]? =some nm)(hlt:yao nm s.letters=none)
  (hs':s'=((({s.pop with timers:=⟨s.timers.list.eraseIdx i,s.timers.next⟩}:MS).push yag).push (yaE false)).nxt):
  Calls Tryz.prog 156 #[.pointer (some ⟨b,0,none⟩),.agg #[.int .i64 28,k]] W (MP Z W b v p (.bool true) s'):=by
 have Ar:wrap64 ((s.at_:Int)+1)=(s.at_:Int)+1:=by unfold wrap64;omega
 have An:=hk;have hk:s.stk.length<=4294967296:=by omega
 obtain⟨w0,F⟩:∃w0,w0=W.alloc (.cells #[.int .i64 28,k] 106):=⟨_,rfl⟩;have B0:=zba F;have hB:=zha F;have c0:=zca hB 0 rfl;have c1:=zca hB 1 rfl;have l0:=zlt hB;have M0:=M.ext B0;have Ag:=zlt M.h;have b0:b<w0:=zlt M0.h;have TP:=zhd (ybQ b v p s w0 M0);have HX:=zh3 M B0 hB;clear M M0 B0 hB;go_in;go_wp2_with fail;rw[<-F];clear F;refine TP.o.mono ?_;rintro e w1 ⟨G,⟨ck,cn,cs,la,ln,lc⟩,rfl,X⟩;have T:=(X.o.2.1.keeps.block W l0 (fun e=>by have:=HX.o.1.lt e;omega)).trans HX.o.2.2;go_upto_region 12 with(fail);refine yab ?_;intro w2 K;have B2:=zba K;have R:=zha K;obtain⟨q0,q1,q2,q3,l2⟩:=zq4 R;have Av:=zhd R;have C:=zh3 B2 (X.o.1.ext B2) (X.o.2.2.keep (S:=fun _=>False) (zkb B2) (fun _ _ f=>f));clear R B2 K;have D:=(C.o.1.block W (zlt T)).trans T;have i0:=zca D 0 rfl;have i1:=zca D 1 rfl;have il:=zlt D;have b2:b<w2:=zlt C.o.2.1.h;have B:∃a cap,G.ts= .slice a s.timers.list.length cap:=C.o.2.1.tms.slice;obtain⟨ta,tc,B⟩:=B
 have V:w2.cell? ⟨b,12,none⟩=some (.slice ta s.timers.list.length tc):=by rw[<-B];exact C.o.2.1.cell (k:=12) rfl
 have FI:=zhd (fun r hr=>yaR b 12 cn s.timers.list ta tc _ w2 V (B▸C.o.2.1.tms) b2 r hr);have K2:MK b v W G w2:=(MK.ext HX.o.2.1).trans (X.o.2.1.trans (MK.ext C.o.1));have HK:=zh2 K2 D;clear T D K2 c0 c1 l0 Ag b0;obtain rfl:ck=1:=X.o.2.2.kind.trans hx;have y:cn=s.top.num:=X.o.2.2.n;rw[<-y]at hf;have FI:=zhd (FI.o (i:Int) (by unfold ybL;rw[hf]));have n8:decide ((i:Int)<0)=false:=znd (by omega);obtain⟨x0,Ae⟩:=Go.Proofs.YtpagmlndgblhhaaGreatDoor.findT_some hf;obtain⟨g,l,c,Af,hg,hc,_,u⟩:=(show XRow _ w2 193 (.slice ta s.timers.list.length tc) s.timers.list from B▸C.o.2.1.tms).at_ hxi;have m1:w2.cell? ⟨g,l+i*7+1,none⟩=some (.bool x.over):=by rw[<-hc.over];exact u 1 _ rfl
 have Ao:(i:Int)<s.timers.list.length:=by have:=(zge hxi).1;omega
 subst Af;rw[hov]at m1;have H:=zhd hs';clear hs';obtain⟨ng,Ai,q,_,_,Al,Ad⟩:=C.o.2.1.img.name_at (znv _ _) hnm;have m:=C.o.2.1.img.lens.2.2;have c3:w2.cell? ⟨b,3,none⟩=some (.slice G.ic.na G.ic.nn G.ic.nc):=C.o.2.1.cell (k:=3) rfl;rw[q,m]at c3;have Am:(k:Int)<(p.names.length:Int):=by have:=(zge hnm).1;omega
 have LT:=zhd (ybo b G p s w2.drew (C.o.2.1.ext (znv _ _).drew) nm (-1) (by unfold ltI;rw[hlt]));have gW:g<w2:=hg;clear q m hnm B hf hx Ae u hc y hg;go_wp2_with fail;refine FI.o.mono ?_;rintro e w3 ⟨rfl,hw⟩;rw[hw];clear hw w3;go_upto_region 16 with(fail)
 go_still_tail 10,(by kernel_rfl)
 go_wp2_with fail;refine LT.o.mono ?_;rintro e w3 ⟨rfl,Ab⟩;have I:Below w2 w2 w3:=znw ((znv w2.heap.size w2).drew) Ab;have m2:=(I.cell (p:=⟨g,l+i*7+1,none⟩) gW).trans m1;have Ap:=(I.cell (p:=⟨b,12,none⟩) b2).trans V;have b3:=znj b2 I.size;have g3:=znj gW I.size;have Q:=(I.block W il).trans HK.o.2;have j0:=zca Q 0 rfl;have jl:=zlt Q;have M3:=C.o.2.1.ext I;have Y:=zh3 I M3 Q;clear I Ab M3 Ad c3 q0 q1 q2 q3 m1 V i0 i1;have PO:=zhd (yaj b G p s w3 Y.o.2.1);go_wp2_with fail;refine PO.o.mono ?_;rintro e w4 ⟨v4,⟨dk,dn,ds,ma,mn,mc⟩,rfl,H4⟩;have U:¬MO G b W.heap.size:=fun e=>by
  rcases X.o.2.1.own _ e with h|h
  .have:=HX.o.1.lt h;omega
  .have h:w0<=W.heap.size:=h
   have:=zlt HX.o.2.2;omega
 have P:=(H4.o.2.1.keeps.block W (zlt Y.o.2.2) U).trans Y.o.2.2;have TK:=zhd (ycd b v4 p s.pop w4 H4.o.1 i x hxi htl {s.pop with timers:=⟨s.timers.list.eraseIdx i,s.timers.next⟩} rfl (yad hZ (znf HK.o.1.keeps.size (znf Y.o.1.size H4.o.2.1.keeps.size))));have t:s.pop.stk.length<=4294967296:=znf (Go.Proofs.YtpagmlndgblhhaaGreatDoor.pop_len s) hk;go_wp2_with fail;refine TK.o.mono ?_;rintro e w5 ⟨v5,⟨Ak,Aj,⟨zk,zn,zs,za,zl,zc⟩,Ah⟩,rfl,H5⟩;have z:¬MO v4 b W.heap.size:=fun e=>by
  rcases H4.o.2.1.own _ e with h|h
  .exact U h
  .have:=zlt Y.o.2.2;omega
 have O:=(H5.o.2.1.keeps.block W (zlt P) z).trans P;go_upto_region 27 with(fail);refine yab ?_;intro w6 J;have B6:=zba J;have A:=zha J;have N:=(B6.block W (zlt O)).trans O;have u2:=zca A 2 rfl;have u3:=zca A 3 rfl;have u4:=zca A 4 rfl;have u5:=zca A 5 rfl;have u6:=zca A 6 rfl;have ul:=zlt A;have k0:=zca N 0 rfl;have kl:=zlt N;have M6:=H5.o.1.ext B6;have Aq:w6.cell? ⟨b,11,none⟩=some (.int .i64 s.now):=M6.cell (k:=11) rfl;have b6:=zlt M6.h;have K6:MK b v W v5 w6:=HK.o.1.trans ((MK.ext Y.o.1).trans (H4.o.2.1.trans (H5.o.2.1.trans (MK.ext B6))));have C6:=CF.step (MK.ext B6) H5.o.2.2.v;have H6:=zh5 M6 K6 C6 H5.o.2.2.how A;clear P O N A J B6 M6 K6 C6 U z;have L:(({s.pop with timers:=⟨s.timers.list.eraseIdx i,s.timers.next⟩}:MS).push yag).stk.length<=4294967296:=by
  show(s.pop.stk++[yag]).length<=_;rw[znk,zmh];have:=Go.Proofs.YtpagmlndgblhhaaGreatDoor.pop_len s;omega
 have PU:=zhd (yak b v5 p _ w6 H6.o.1 yag 0 0 ⟨#[]⟩ none 0 0 (yaI _ _) t);go_wp2_with fail;refine PU.o.mono ?_;rintro e w8 ⟨v8,rfl,H8⟩;go_upto_region 29 with(fail);go_region_law (first
  |(go_simp;go_at_call 63;refine(ybw false _).mono ?_;rintro e w9 ⟨rfl,Aa⟩;have H9:=zhd (znw ((znv w8.heap.size w8).drew) Aa);clear Aa)
  |(go_simp;go_at_call 119;refine(yak b v8 p _ w9 (H8.o.1.ext H9.o) (yaE false) 1 _ ⟨#[]⟩ none 0 0 (ybj _ _ _) L).mono ?_;rintro e d ⟨Ac,rfl,E⟩))
 all_goals
  have Au:d.cell? ⟨b,6,none⟩=some (.int .i64 (s.at_:Int)):=E.o.1.cell (k:=6) rfl;have As:∀o,d.frozen? ⟨b,o,none⟩=false:=fun o=>E.o.1.frozen o;have At:=zlt E.o.1.h;have SN:=zhd (E.o.1.scalar 6 (.int .i64 ((s.at_:Int)+1)) s' (by rw[H.o];rfl) (by rw[H.o];rfl) (by rw[H.o];rfl) (by rw[H.o];rfl) (by rw[H.o];rfl) (by rw[H.o];rfl) (by rw[H.o];rfl) (by rw[H.o];rfl));go_wp2;go_ret;exact⟨Ac,rfl,zhd ⟨SN.o.1,H6.o.2.1.trans (H8.o.2.trans ((MK.ext H9.o).trans (E.o.2.trans SN.o.2)))⟩⟩
theorem yg2
  {Z:Nat->Prop}(b:Nat)(v:MV)(p:Img)(s:MS)(W:World)(M:MX TT Z W b v p s)
  (k i j:Nat)(x:Th)(nm:ByteArray)(hnm:p.names[k]? =some nm)(hlt:yao nm s.letters=some j)(hx:s.top.kind=1)(hf:yax s.top.num s.timers.list=some i)(hxi:s.timers.list[i]? =some x)(hk:s.stk.length<=4294967295)(hll:s.letters.length<=4294967296)(hat:s.at_<=4294967296)(hZ:∀j,W.heap.size<=j->Z j)(s':MS)
  (hs':s'=(((s.pop.openL j).push (s.letV j)).push (yaE true)).nxt):
  Calls Tryz.prog 156 #[.pointer (some ⟨b,0,none⟩),.agg #[.int .i64 28,k]] W (MP Z W b v p (.bool true) s'):=by
 have Ak:wrap64 ((s.at_:Int)+1)=(s.at_:Int)+1:=by unfold wrap64;omega
 obtain⟨ov,Ad⟩:∃ov,x.over=ov:=⟨_,rfl⟩;obtain⟨lt,U⟩:=findLt_some hlt;obtain⟨w0,E⟩:∃w0,w0=W.alloc (.cells #[.int .i64 28,k] 106):=⟨_,rfl⟩;have B0:=zba E;have t:=zha E;have c0:=zca t 0 rfl;have c1:=zca t 1 rfl;have l0:=zlt t;have M0:=M.ext B0;have Ae:=zlt M.h;have b0:b<w0:=zlt M0.h;have TP:=zhd (ybQ b v p s w0 M0);have HX:=zh3 M B0 t;clear M M0 B0 t;go_in;go_wp2_with fail;rw[<-E];clear E;refine TP.o.mono ?_;rintro e w1 ⟨I,⟨ck,cn,cs,la,ln,lc⟩,rfl,Q⟩;have O:=(Q.o.2.1.keeps.block W l0 (fun e=>by have:=HX.o.1.lt e;omega)).trans HX.o.2.2;go_upto_region 12 with(fail);refine yab ?_;intro w2 J;have u:=zba J;have N:=zha J;obtain⟨q0,q1,q2,q3,l2⟩:=zq4 N;have Ao:=zhd N;have B:=zh3 u (Q.o.1.ext u) (Q.o.2.2.keep (S:=fun _=>False) (zkb u) (fun _ _ f=>f));clear N u J;have C:=(B.o.1.block W (zlt O)).trans O;have i0:=zca C 0 rfl;have i1:=zca C 1 rfl;have il:=zlt C;have b2:b<w2:=zlt B.o.2.1.h;have A:∃a cap,I.ts= .slice a s.timers.list.length cap:=B.o.2.1.tms.slice
 obtain⟨ta,tc,A⟩:=A;have P:w2.cell? ⟨b,12,none⟩=some (.slice ta s.timers.list.length tc):=by rw[<-A];exact B.o.2.1.cell (k:=12) rfl
 have FI:=zhd (fun r hr=>yaR b 12 cn s.timers.list ta tc _ w2 P (A▸B.o.2.1.tms) b2 r hr);have K2:MK b v W I w2:=(MK.ext HX.o.2.1).trans (Q.o.2.1.trans (MK.ext B.o.1));have HK:=zh2 K2 C;clear O C K2 c0 c1 l0 Ae b0;obtain rfl:ck=1:=Q.o.2.2.kind.trans hx;have l:cn=s.top.num:=Q.o.2.2.n;rw[<-l]at hf;have FI:=zhd (FI.o (i:Int) (by unfold ybL;rw[hf]));have n8:decide ((i:Int)<0)=false:=znd (by omega);obtain⟨x0,Ab⟩:=Go.Proofs.YtpagmlndgblhhaaGreatDoor.findT_some hf;obtain⟨g,T,c,Ac,hg,hc,_,d⟩:=(show XRow _ w2 193 (.slice ta s.timers.list.length tc) s.timers.list from A▸B.o.2.1.tms).at_ hxi;have m1:w2.cell? ⟨g,T+i*7+1,none⟩=some (.bool x.over):=by rw[<-hc.over];exact d 1 _ rfl
 have Aj:(i:Int)<s.timers.list.length:=by have:=(zge hxi).1;omega
 subst Ac;rw[Ad]at m1;have G:=zhd hs';have F:=zh3 U hk hll;clear hs' U hk hll;obtain⟨ng,Ag,X,_,_,Ah,Aa⟩:=B.o.2.1.img.name_at (znv _ _) hnm;have V:=B.o.2.1.img.lens.2.2;have c3:w2.cell? ⟨b,3,none⟩=some (.slice I.ic.na I.ic.nn I.ic.nc):=B.o.2.1.cell (k:=3) rfl;rw[X,V]at c3;have Ai:(k:Int)<(p.names.length:Int):=by have:=(zge hnm).1;omega
 have LT:=zhd (ybo b I p s w2.drew (B.o.2.1.ext (znv _ _).drew) nm (j:Int) (by unfold ltI;rw[hlt]));have gW:g<w2:=hg;clear X V hnm A hf hx Ab d hc l hg;go_wp2_with fail;refine FI.o.mono ?_;rintro e w3 ⟨rfl,hw⟩;rw[hw];clear hw w3;go_upto_region 16 with(fail)
 go_still_tail 10,(by kernel_rfl)
 go_wp2_with fail;refine LT.o.mono ?_;rintro e w3 ⟨rfl,q⟩;have H:Below w2 w2 w3:=znw ((znv w2.heap.size w2).drew) q;have m2:=(H.cell (p:=⟨g,T+i*7+1,none⟩) gW).trans m1;have Af:=(H.cell (p:=⟨b,12,none⟩) b2).trans P;have b3:=znj b2 H.size;have g3:=znj gW H.size;have L:=(H.block W il).trans HK.o.2;have j0:=zca L 0 rfl;have jl:=zlt L;have M3:=B.o.2.1.ext H;have H3:=zh3 H M3 L;clear H q M3 Aa c3 q0 q1 q2 q3 m1 P i0 i1;have PO:=zhd (yaj b I p s w3 H3.o.2.1);have n9:decide ((0:Int)<=(j:Int))=true:=zno (by omega);have Y:s.pop.stk.length<=4294967296:=znf (Go.Proofs.YtpagmlndgblhhaaGreatDoor.pop_len s) (by have:=F.o.2.1;omega);have K:((s.pop.openL j).push (s.letV j)).stk.length<=4294967296:=by
  show(s.pop.stk++[s.letV j]).length<=_;rw[znk,zmh];have:=Go.Proofs.YtpagmlndgblhhaaGreatDoor.pop_len s;have:=F.o.2.1;omega
 go_wp2_with fail;refine PO.o.mono ?_;rintro e y ⟨v4,⟨dk,dn,ds,ma,mn,mc⟩,rfl,H4⟩;have OP:=zhd (yfD b v4 p s.pop y.drew (H4.o.1.ext (znv _ _).drew) j lt F.o.1 F.o.2.2 (yad hZ (znf HK.o.1.keeps.size (znf H3.o.1.size H4.o.2.1.keeps.size))));clear m2 Af g3 j0 jl b3;go_upto_region 19 with(fail);go_region_law (first
  |(go_simp;go_at_call 162;refine OP.o.mono ?_;rintro e w5 ⟨v5,⟨ek,en,es,ea,el,ec⟩,rfl,H5⟩)
  |(go_simp;go_at_call 119;refine(yak b v5 p (s.pop.openL j) w5 H5.o.1 (s.letV j) ek en es ea el ec H5.o.2.2 Y).mono ?_;rintro e w6 ⟨v6,rfl,H6⟩))
 all_goals
  go_upto_region 20 with(fail);go_region_law (first
   |(go_simp;go_at_call 63;refine(ybw true _).mono ?_;rintro e w9 ⟨rfl,m⟩;have H9:=zhd (znw ((znv w6.heap.size w6).drew) m);clear m)
   |(go_simp;go_at_call 119;refine(yak b v6 p _ w9 (H6.o.1.ext H9.o) (yaE true) 1 _ ⟨#[]⟩ none 0 0 (ybj _ _ _) K).mono ?_;rintro e R ⟨z,rfl,D⟩))
  all_goals
   have An:R.cell? ⟨b,6,none⟩=some (.int .i64 (s.at_:Int)):=D.o.1.cell (k:=6) rfl;have Al:∀o,R.frozen? ⟨b,o,none⟩=false:=fun o=>D.o.1.frozen o;have Am:=zlt D.o.1.h;have SN:=zhd (D.o.1.scalar 6 (.int .i64 ((s.at_:Int)+1)) s' (by rw[G.o];rfl) (by rw[G.o];rfl) (by rw[G.o];rfl) (by rw[G.o];rfl) (by rw[G.o];rfl) (by rw[G.o];rfl) (by rw[G.o];rfl) (by rw[G.o];rfl));go_wp2;go_ret;exact⟨z,rfl,zhd ⟨SN.o.1,HK.o.1.trans ((MK.ext H3.o.1).trans (H4.o.2.1.trans ((MK.ext ((znv y.heap.size y).drew)).trans (H5.o.2.1.trans (H6.o.2.trans ((MK.ext H9.o).trans (D.o.2.trans SN.o.2)))))))⟩⟩
theorem ybx
  {Z:Nat->Prop}(b:Nat)(v:MV)(p:Img)(s:MS)(W:World)(M:MX TT Z W b v p s)
  (op a:Int)(hc:p.code[s.at_]? =some ⟨op,a⟩)(nm:ByteArray)(od ii oo:Int)(en fl:Bool)(hof:ofL op=(⟨nm,od,ii,oo,true,en,fl⟩,true))(r:Bool)(s':MS)
  (WT:∀(W':World) (v':MV),MX TT Z W' b v' p s->W<=W'.heap.size->Calls Tryz.prog 156 #[.pointer (some ⟨b,0,none⟩),.agg #[op,a]] W' (MP Z W' b v' p (.bool r) s')):
  Calls Tryz.prog 139 #[.pointer (some ⟨b,0,none⟩)] W (MP Z W b v p (.bool r) s'):=by
 have c:=zhd (ybc op _ _ hof);have L:=zhd WT;clear WT hof;obtain⟨g,V,H,_,n,_,l,j⟩:=M.img.code_at (znv _ _) hc;have G:=M.img.lens.1;have c1:W.cell? ⟨b,1,none⟩=some (.slice v.ic.ca v.ic.cn v.ic.cc):=M.cell (k:=1) rfl;rw[H,G]at c1;have y:W.cell? ⟨b,6,none⟩=some (.int .i64 (s.at_:Int)):=M.cell (k:=6) rfl;have z:=zlt M.h;have X:(s.at_:Int)<(p.code.length:Int):=by have:=(zge hc).1;omega
 have d:=zhd M;clear M H G hc;go_in;go_upto_region 1 with(fail);go_region
 all_goals
  go_upto_region 2 with(fail);refine yab ?_;intro w1 E;have T:Below W W w1:=by rw[E];exact(zal).drew
  have D:w1.heap[W.heap.size]? =some (.cells #[op,a] 106 (0,0)):=by rw[E];exact znb _ _
  have Q:=zca D 0 rfl;have K:=zlt D;have O:=zh2 T D;clear E T D;go_wp2_with fail;refine(c.o _).mono ?_;rintro e i ⟨rfl,F⟩;have I:=(F.block W K).trans O.o.2;have J:=zh2 (O.o.1.trans (F.mono O.o.1.size)) I;clear F I Q K;go_upto_region 3 with(fail);refine yab ?_;intro w3 C;have P:Below W W w3:=by rw[C];exact J.o.1.alloc J.o.1.size _
  have A:=zha C;have B:w3.heap[W.heap.size]? =some (.cells #[op,a] 106 (0,0)):=by rw[C];exact(zne _ _ _ (zlt J.o.2)).trans J.o.2
  have u:=zca A 4 rfl;have t:=zca A 5 rfl;have q:=zca A 6 rfl;have Q:=zca B 0 rfl;have x:=zca B 1 rfl;have m:=zlt A;have K:=zlt B;have R:=d.o.ext P;have N:=zh3 P R B;clear C P A B R;have Y:=zhd (L.o w3 v N.o.2.1 N.o.1.size);go_wp2_with fail;refine Y.o.mono ?_;rintro e f ⟨U,rfl,S⟩;go_wp2;go_ret;exact⟨U,rfl,zhd ⟨S.o.1,(MK.ext N.o.1).trans S.o.2⟩⟩
theorem yfu
  {Z:Nat->Prop}(b:Nat)(v:MV)(p:Img)(s:MS)(W:World)(M:MX TT Z W b v p s)
  (op a:Int)(hc:p.code[s.at_]? =some ⟨op,a⟩)(nm:ByteArray)(od ii oo:Int)(fl:Bool)(hof:ofL op=(⟨nm,od,ii,oo,false,true,fl⟩,true))(s':MS)
  (WT:∀(W':World) (v':MV),MX TT Z W' b v' p s->W<=W'.heap.size->Calls Tryz.prog 157 #[.pointer (some ⟨b,0,none⟩),.agg #[op,a]] W' (MP Z W' b v' p (.tuple #[]) s')):
  Calls Tryz.prog 139 #[.pointer (some ⟨b,0,none⟩)] W (MP Z W b v p (.bool true) s'):=by
 have c:=zhd (ybc op _ _ hof);have L:=zhd WT;clear WT hof;obtain⟨g,V,H,_,n,_,l,j⟩:=M.img.code_at (znv _ _) hc;have G:=M.img.lens.1;have c1:W.cell? ⟨b,1,none⟩=some (.slice v.ic.ca v.ic.cn v.ic.cc):=M.cell (k:=1) rfl;rw[H,G]at c1;have x:W.cell? ⟨b,6,none⟩=some (.int .i64 (s.at_:Int)):=M.cell (k:=6) rfl;have y:=zlt M.h;have X:(s.at_:Int)<(p.code.length:Int):=by have:=(zge hc).1;omega
 have d:=zhd M;clear M H G hc;go_in;go_upto_region 1 with(fail);go_region
 all_goals
  go_upto_region 2 with(fail);refine yab ?_;intro w1 E;have T:Below W W w1:=by rw[E];exact(zal).drew
  have D:w1.heap[W.heap.size]? =some (.cells #[op,a] 106 (0,0)):=by rw[E];exact znb _ _
  have Q:=zca D 0 rfl;have K:=zlt D;have O:=zh2 T D;clear E T D;go_wp2_with fail;refine(c.o _).mono ?_;rintro e i ⟨rfl,F⟩;have I:=(F.block W K).trans O.o.2;have J:=zh2 (O.o.1.trans (F.mono O.o.1.size)) I;clear F I Q K;go_upto_region 3 with(fail);refine yab ?_;intro w3 C;have P:Below W W w3:=by rw[C];exact J.o.1.alloc J.o.1.size _
  have A:=zha C;have B:w3.heap[W.heap.size]? =some (.cells #[op,a] 106 (0,0)):=by rw[C];exact(zne _ _ _ (zlt J.o.2)).trans J.o.2
  have t:=zca A 4 rfl;have r:=zca A 5 rfl;have q:=zca A 6 rfl;have Q:=zca B 0 rfl;have u:=zca B 1 rfl;have m:=zlt A;have K:=zlt B;have R:=d.o.ext P;have N:=zh3 P R B;clear C P A B R;have Y:=zhd (L.o w3 v N.o.2.1 N.o.1.size);go_wp2_with fail;refine Y.o.mono ?_;rintro e f ⟨U,rfl,S⟩;go_wp2;go_ret;exact⟨U,rfl,zhd ⟨S.o.1,(MK.ext N.o.1).trans S.o.2⟩⟩
theorem yh6
  {Z:Nat->Prop}(b:Nat)(v:MV)(p:Img)(s:MS)(W:World)(M:MX TT Z W b v p s)
  (op a:Int)(hc:p.code[s.at_]? =some ⟨op,a⟩)(nm:ByteArray)(od ii oo:Int)(hof:ofL op=(⟨nm,od,ii,oo,false,false,false⟩,true))(hat:s.at_<=4294967296)(hk:s.stk.length<=4294967296)(s':MS)
  (hd:(op=16/\s'=s.nxt.push (ybD s.now))\/(op=2/\s'=s.nxt.pop)\/(op=0/\s'=s.nxt)\/(op=24/\s'=s.nxt.push (yaE s.asked))):
  Calls Tryz.prog 139 #[.pointer (some ⟨b,0,none⟩)] W (MP Z W b v p (.bool true) s')
  :=by
 have HD:=zhd hd;have Ac:wrap64 ((s.at_:Int)+1)=(s.at_:Int)+1:=by unfold wrap64;omega
 have OF:=zhd (ybc op _ _ hof);clear hof hd;obtain⟨g,Aa,Y,_,gl,_,m0,m1⟩:=M.img.code_at (znv _ _) hc;have X:=M.img.lens.1;have c1:W.cell? ⟨b,1,none⟩=some (.slice v.ic.ca v.ic.cn v.ic.cc):=M.cell (k:=1) rfl;rw[Y,X]at c1;have y:W.cell? ⟨b,6,none⟩=some (.int .i64 (s.at_:Int)):=M.cell (k:=6) rfl;have b0:=zlt M.h;have j:(s.at_:Int)<(p.code.length:Int):=by have:=(zge hc).1;omega
 have HX:=zhd M;clear M Y X hc;go_in;go_upto_region 1 with(fail);go_region
 all_goals
  go_upto_region 2 with(fail);refine yab ?_;intro w1 Q;have B1:Below W W w1:=by rw[Q];exact(zal).drew
  have K:w1.heap[W.heap.size]? =some (.cells #[op,a] 106 (0,0)):=by rw[Q];exact znb _ _
  have l:=zca K 0 rfl;have f:=zlt K;have n:=zh2 B1 K;clear Q B1 K;go_wp2_with fail;refine(OF.o _).mono ?_;rintro e w2 ⟨rfl,R⟩;have c:=(R.block W f).trans n.o.2;have i:=zh2 (n.o.1.trans (R.mono n.o.1.size)) c;clear R c l f;go_upto_region 3 with(fail);refine yab ?_;intro w3 J;have t:Below W W w3:=by rw[J];exact i.o.1.alloc i.o.1.size _
  have F:=zha J;have H:w3.heap[W.heap.size]? =some (.cells #[op,a] 106 (0,0)):=by rw[J];exact(zne _ _ _ (zlt i.o.2)).trans i.o.2
  have f4:=zca F 4 rfl;have f5:=zca F 5 rfl;have f6:=zca F 6 rfl;have l:=zca H 0 rfl;have e1:=zca H 1 rfl;have il:=zlt F;have f:=zlt H;have z:=HX.o.ext t;have T:=zh3 t z H;clear J t F H z;have y:w3.cell? ⟨b,6,none⟩=some (.int .i64 (s.at_:Int)):=T.o.2.1.cell (k:=6) rfl;have f0:∀o,w3.frozen? ⟨b,o,none⟩=false:=fun o=>T.o.2.1.frozen o;have b3:=zlt T.o.2.1.h;go_upto_region 14 with(fail);refine yab ?_;intro I P;have d:=T.o.2.1.scalar 6 (.int .i64 ((s.at_:Int)+1)) s.nxt rfl rfl rfl rfl rfl rfl rfl rfl;rw[<-P]at d;have G:I.heap[W.heap.size]? =some (.cells #[op,a] 106 (0,0)):=by
   rw[P,znn _ _ _ _ (fun e=>by have e:W.heap.size=b:=e;omega)];exact T.o.2.2
  have g0:=zca G 0 rfl;have g1:=zca G 1 rfl;have gl:=zlt G;have C:=zh3 d.1 ((MK.ext T.o.1).trans d.2) G;have b4:=zlt d.1.h;have E:s.nxt.stk.length<=4294967296:=hk;clear d P G f4 f5 f6 l e1 y f0 b3 il f c1 m0 m1 j;rcases HD.o with⟨B,D⟩|⟨B,D⟩|⟨B,D⟩|⟨B,D⟩
  .skip
   have L:=zhd D;clear D;subst B;have Ab:I.cell? ⟨b,11,none⟩=some (.int .i64 s.now):=C.o.1.cell (k:=11) rfl;go_upto_region 33 with(fail);go_region_law (first
    |(go_simp;go_at_call 106;refine(ybl _ _).mono ?_;rintro e U ⟨rfl,A⟩;have O:=zhd (znw ((znv I.heap.size I).drew) A);clear A)
    |(go_simp;go_at_call 119;refine(yak b v p _ U (C.o.1.ext O.o) (ybD s.now) 1 _ ⟨#[]⟩ none 0 0 (ycK _ _ _) E).mono ?_;rintro e u ⟨V,rfl,N⟩))
   all_goals
    go_wp2;go_ret;exact⟨V,rfl,zhd ⟨by rw[L.o];exact N.o.1,C.o.2.1.trans ((MK.ext O.o).trans N.o.2)⟩⟩
  .skip
   have L:=zhd D;clear D;subst B;have PO:=zhd (yaj b v p _ I C.o.1);go_wp2_with fail;refine PO.o.mono ?_;rintro e w5 ⟨v5,⟨ck,cn,cs,la,ln,lc⟩,rfl,H5⟩;go_wp2;go_ret;exact⟨v5,rfl,zhd ⟨by rw[L.o];exact H5.o.1,C.o.2.1.trans H5.o.2.1⟩⟩
  .skip
   have L:=zhd D;clear D;subst B;go_wp2;go_ret;exact⟨v,rfl,zhd ⟨by rw[L.o];exact C.o.1,C.o.2.1⟩⟩
  .skip
   have L:=zhd D;clear D;subst B;have m:I.cell? ⟨b,17,none⟩=some (.bool s.asked):=C.o.1.cell (k:=17) rfl;have r:=zhd (fun W=>ybw s.asked W);have S:=zhd (show s'=s.nxt.push (yaE s.asked)from L.o);clear L;obtain⟨q,x⟩:∃q,s.asked=q:=⟨_,rfl⟩;rw[x]at m r S;go_upto_region 35 with(fail);clear x;cases q
   .
    go_region_law (first
     |(go_simp;go_at_call 63;refine(r.o _).mono ?_;rintro e U ⟨rfl,A⟩;have O:=zhd (znw ((znv I.heap.size I).drew) A);clear A)
     |(go_simp;go_at_call 119;refine(yak b v p _ U (C.o.1.ext O.o) (yaE false) 1 _ ⟨#[]⟩ none 0 0 (ybj _ _ _) E).mono ?_;rintro e u ⟨V,rfl,N⟩))
    all_goals
     go_wp2;go_ret;exact⟨V,rfl,zhd ⟨by rw[S.o];exact N.o.1,C.o.2.1.trans ((MK.ext O.o).trans N.o.2)⟩⟩
   .
    go_region_law (first
     |(go_simp;go_at_call 63;refine(r.o _).mono ?_;rintro e U ⟨rfl,A⟩;have O:=zhd (znw ((znv I.heap.size I).drew) A);clear A)
     |(go_simp;go_at_call 119;refine(yak b v p _ U (C.o.1.ext O.o) (yaE true) 1 _ ⟨#[]⟩ none 0 0 (ybj _ _ _) E).mono ?_;rintro e u ⟨V,rfl,N⟩))
    all_goals
     go_wp2;go_ret;exact⟨V,rfl,zhd ⟨by rw[S.o];exact N.o.1,C.o.2.1.trans ((MK.ext O.o).trans N.o.2)⟩⟩
theorem yh5
  {Z:Nat->Prop}(b:Nat)(v:MV)(p:Img)(s:MS)(W:World)(M:MX TT Z W b v p s)
  (op a:Int)(hc:p.code[s.at_]? =some ⟨op,a⟩)(nm:ByteArray)(od ii oo:Int)(hof:ofL op=(⟨nm,od,ii,oo,false,false,false⟩,true))(hat:s.at_<=4294967296)(hk:s.stk.length<=4294967296)(s':MS)
  (hZ:(∀j,W.heap.size<=j->Z j))
  (hd:(op=3/\szV s.top<=1073741824/\s'=s.nxt.push (yaa s.top))\/(op=15/\szV s.input<=1073741824/\s'=s.nxt.push (yaa s.input))\/(op=1/\∃(k:Nat) (x:Val),a=k/\p.consts[k]? =some x/\szV x<=1073741824/\s'=s.nxt.push (yaa x))\/(op=13/\∃(k:Nat) (x:Val),a=k/\s.places[k]? =some x/\szV x<=1073741824/\s'=s.nxt.push (yaa x))):
  Calls Tryz.prog 139 #[.pointer (some ⟨b,0,none⟩)] W (MP Z W b v p (.bool true) s')
  :=by
 have HD:=zhd hd;have Al:wrap64 ((s.at_:Int)+1)=(s.at_:Int)+1:=by unfold wrap64;omega
 have OF:=zhd (ybc op _ _ hof);clear hof hd;obtain⟨g,Aj,Ae,_,gl,_,m0,m1⟩:=M.img.code_at (znv _ _) hc;have Ad:=M.img.lens.1;have c1:W.cell? ⟨b,1,none⟩=some (.slice v.ic.ca v.ic.cn v.ic.cc):=M.cell (k:=1) rfl;rw[Ae,Ad]at c1;have c6:W.cell? ⟨b,6,none⟩=some (.int .i64 (s.at_:Int)):=M.cell (k:=6) rfl;have b0:=zlt M.h;have Ai:(s.at_:Int)<(p.code.length:Int):=by have:=(zge hc).1;omega
 have HX:=zhd M;clear M Ae Ad hc;go_in;go_upto_region 1 with(fail);go_region
 all_goals
  go_upto_region 2 with(fail);refine yab ?_;intro w1 u;have B1:Below W W w1:=by rw[u];exact(zal).drew
  have X:w1.heap[W.heap.size]? =some (.cells #[op,a] 106 (0,0)):=by rw[u];exact znb _ _
  have e0:=zca X 0 rfl;have el:=zlt X;have H1:=zh2 B1 X;clear u B1 X;go_wp2_with fail;refine(OF.o _).mono ?_;rintro e w2 ⟨rfl,Aa⟩;have Af:=(Aa.block W el).trans H1.o.2;have H2:=zh2 (H1.o.1.trans (Aa.mono H1.o.1.size)) Af;clear Aa Af e0 el;go_upto_region 3 with(fail);refine yab ?_;intro w3 U;have B3:Below W W w3:=by rw[U];exact H2.o.1.alloc H2.o.1.size _
  have N:=zha U;have Q:w3.heap[W.heap.size]? =some (.cells #[op,a] 106 (0,0)):=by rw[U];exact(zne _ _ _ (zlt H2.o.2)).trans H2.o.2
  have f4:=zca N 4 rfl;have f5:=zca N 5 rfl;have f6:=zca N 6 rfl;have e0:=zca Q 0 rfl;have e1:=zca Q 1 rfl;have il:=zlt N;have el:=zlt Q;have M3:=HX.o.ext B3;have H3:=zh3 B3 M3 Q;clear U B3 N Q M3;have c6:w3.cell? ⟨b,6,none⟩=some (.int .i64 (s.at_:Int)):=H3.o.2.1.cell (k:=6) rfl;have f0:∀o,w3.frozen? ⟨b,o,none⟩=false:=fun o=>H3.o.2.1.frozen o;have b3:=zlt H3.o.2.1.h;go_upto_region 14 with(fail);refine yab ?_;intro A t;have S4:=H3.o.2.1.scalar 6 (.int .i64 ((s.at_:Int)+1)) s.nxt rfl rfl rfl rfl rfl rfl rfl rfl;rw[<-t]at S4;have P:A.heap[W.heap.size]? =some (.cells #[op,a] 106 (0,0)):=by
   rw[t,znn _ _ _ _ (fun e=>by have e:W.heap.size=b:=e;omega)];exact H3.o.2.2
  have g0:=zca P 0 rfl;have g1:=zca P 1 rfl;have gl:=zlt P;have B:=zh3 S4.1 ((MK.ext H3.o.1).trans S4.2) P;have b4:=zlt S4.1.h;have K:s.nxt.stk.length<=4294967296:=hk;clear S4 t P f4 f5 f6 e0 e1 c6 f0 b3 il el c1 m0 m1 Ai;rcases HD.o with⟨I,q,L⟩|⟨I,q,L⟩|⟨I,k,x,z,r,q,L⟩|⟨I,k,x,z,r,q,L⟩
  .skip
   have hE:=zhd L;clear L;subst I;have TP:=zhd (ybQ b v p _ A.drew (B.o.1.ext (znv _ _).drew));go_upto_region 21 with(fail);go_region_law (first
    |(go_simp;go_at_call 160;refine TP.o.mono ?_;rintro e w5 ⟨v5,⟨ck,cn,cs,la,ln,lc⟩,rfl,H5⟩)
    |(go_simp;go_at_call 58;refine(yay s.top ck cn cs la ln lc _ w5 H5.o.2.2 q).mono ?_;rintro e w7 ⟨⟨m,l,i,H,F,G⟩,rfl,J⟩)
    |(go_simp;go_at_call 119;refine(yak b v5 p _ w7 (H5.o.1.ext J.o.2) (yaa s.top) m l i H F G (J.o.1.mono (fun g D _=>⟨fun e=>by have:=H5.o.1.lt e;have D:w5<=g:=D;omega,hZ g (by have D:w5<=g:=D;have:=H5.o.2.1.keeps.size;have h4:W<=A.heap.size:=B.o.2.1.keeps.size;have h5:A.drew.heap.size=A.heap.size:=rfl;omega)⟩)) K).mono ?_;rintro e w9 ⟨d,rfl,T⟩))
   all_goals
    go_wp2;go_ret;exact⟨d,rfl,zhd ⟨by rw[hE.o];exact T.o.1,B.o.2.1.trans ((MK.ext ((znv A.heap.size A).drew)).trans (H5.o.2.1.trans ((MK.ext J.o.2).trans T.o.2)))⟩⟩
  .skip
   have hE:=zhd L;clear L;subst I;have c7:A.cell? ⟨b,7,none⟩=some (.int .i64 v.inp.kind):=B.o.1.cell (k:=7) rfl;have c8:A.cell? ⟨b,8,none⟩=some (.int .i64 v.inp.n):=B.o.1.cell (k:=8) rfl;have c9:A.cell? ⟨b,9,none⟩=some (.string v.inp.s):=B.o.1.cell (k:=9) rfl;have Ak:A.cell? ⟨b,10,none⟩=some (.slice v.inp.la v.inp.ln v.inp.lc):=B.o.1.cell (k:=10) rfl;have CL:=zhd (yay s.input v.inp.kind v.inp.n v.inp.s v.inp.la v.inp.ln v.inp.lc _ A.drew (B.o.1.inp.keep (S:=fun _=>False) (zkb ((znv _ _).drew)) (fun _ _ f=>f)) q);go_upto_region 31 with(fail);go_region_law (first
    |(go_simp;go_at_call 58;refine CL.o.mono ?_;rintro e w7 ⟨⟨m,l,i,H,F,G⟩,rfl,C⟩;have c:Below A A w7:=znw ((znv A.heap.size A).drew) C.o.2;have J:=zh2 C.o.1 c;clear C c)
    |(go_simp;go_at_call 119;refine(yak b v p _ w7 (B.o.1.ext J.o.2) (yaa s.input) m l i H F G (J.o.1.mono (fun g D _=>⟨fun e=>by have:=B.o.1.lt e;have D:A<=g:=D;omega,hZ g (by have D:A<=g:=D;have h4:W<=A.heap.size:=B.o.2.1.keeps.size;omega)⟩)) K).mono ?_;rintro e w9 ⟨d,rfl,T⟩))
   all_goals
    go_wp2;go_ret;exact⟨d,rfl,zhd ⟨by rw[hE.o];exact T.o.1,B.o.2.1.trans ((MK.ext J.o.2).trans T.o.2)⟩⟩
  .skip
   have hE:=zhd L;clear L;have Ah:(k:Int)<(p.consts.length:Int):=by have:=(zge r).1;omega
   have Ab:=zhd r;clear r;subst I;subst z;obtain⟨kg,E,kc,V,_,Ag,_,R,k0,k1,k2,k3⟩:=B.o.1.img.const_at (znv _ _) Ab.o;have Ac:=B.o.1.img.lens.2.1;have c2:A.cell? ⟨b,2,none⟩=some (.slice v.ic.ka v.ic.kn v.ic.kc):=B.o.1.cell (k:=2) rfl;rw[V,Ac]at c2;have CL:=zhd (yay x kc.kind kc.n kc.s kc.la kc.ln kc.lc _ A.drew (R.keep (S:=fun _=>False) (zkb ((znv _ _).drew)) (fun _ _ f=>f)) q);clear V Ac R;go_upto_region 17 with(fail);go_region_law (first
    |(go_simp;go_at_call 58;refine CL.o.mono ?_;rintro e w7 ⟨⟨m,l,i,H,F,G⟩,rfl,C⟩;have c:Below A A w7:=znw ((znv A.heap.size A).drew) C.o.2;have J:=zh2 C.o.1 c;clear C c)
    |(go_simp;go_at_call 119;refine(yak b v p _ w7 (B.o.1.ext J.o.2) (yaa x) m l i H F G (J.o.1.mono (fun g D _=>⟨fun e=>by have:=B.o.1.lt e;have D:A<=g:=D;omega,hZ g (by have D:A<=g:=D;have h4:W<=A.heap.size:=B.o.2.1.keeps.size;omega)⟩)) K).mono ?_;rintro e w9 ⟨d,rfl,T⟩))
   all_goals
    go_wp2;go_ret;exact⟨d,rfl,zhd ⟨by rw[hE.o];exact T.o.1,B.o.2.1.trans ((MK.ext J.o.2).trans T.o.2)⟩⟩
  .skip
   have hE:=zhd L;clear L;have Ah:(k:Int)<(s.places.length:Int):=by have:=(zge r).1;omega
   have Ab:=zhd r;clear r;subst I;subst z;obtain⟨pa,pc,y⟩:∃a cap,v.ps= .slice a s.places.length cap:=B.o.1.pls.slice;have c5:A.cell? ⟨b,5,none⟩=some (.slice pa s.places.length pc):=by rw[<-y];exact B.o.1.cell (k:=5) rfl
   obtain⟨kg,E,kc,V,Ag,R,_,O⟩:=(show XRow _ A 38 (.slice pa s.places.length pc) s.places from y▸B.o.1.pls).at_ Ab.o;have k0:A.cell? ⟨kg,E+k*4,none⟩=some (.int .i64 kc.kind):=O 0 _ rfl;have k1:A.cell? ⟨kg,E+k*4+1,none⟩=some (.int .i64 kc.n):=O 1 _ rfl;have k2:A.cell? ⟨kg,E+k*4+2,none⟩=some (.string kc.s):=O 2 _ rfl;have k3:A.cell? ⟨kg,E+k*4+3,none⟩=some (.slice kc.la kc.ln kc.lc):=O 3 _ rfl;subst V;have Y:CF _ A kc x:=R;have CL:=zhd (yay x kc.kind kc.n kc.s kc.la kc.ln kc.lc _ A.drew (Y.keep (S:=fun _=>False) (zkb ((znv _ _).drew)) (fun _ _ f=>f)) q);clear y R O Y;go_upto_region 27 with(fail);go_region_law (first
    |(go_simp;go_at_call 58;refine CL.o.mono ?_;rintro e w7 ⟨⟨m,l,i,H,F,G⟩,rfl,C⟩;have c:Below A A w7:=znw ((znv A.heap.size A).drew) C.o.2;have J:=zh2 C.o.1 c;clear C c)
    |(go_simp;go_at_call 119;refine(yak b v p _ w7 (B.o.1.ext J.o.2) (yaa x) m l i H F G (J.o.1.mono (fun g D _=>⟨fun e=>by have:=B.o.1.lt e;have D:A<=g:=D;omega,hZ g (by have D:A<=g:=D;have h4:W<=A.heap.size:=B.o.2.1.keeps.size;omega)⟩)) K).mono ?_;rintro e w9 ⟨d,rfl,T⟩))
   all_goals
    go_wp2;go_ret;exact⟨d,rfl,zhd ⟨by rw[hE.o];exact T.o.1,B.o.2.1.trans ((MK.ext J.o.2).trans T.o.2)⟩⟩
theorem yjY
  {Z:Nat->Prop}(b:Nat)(v:MV)(p:Img)(s:MS)(W:World)(M:MX TT Z W b v p s)
  (a:Nat)(hc:p.code[s.at_]? =some ⟨11,a⟩)(nm:ByteArray)(od ii oo:Int)(hof:ofL 11=(⟨nm,od,ii,oo,false,false,true⟩,true))(s':MS)(hs':s'={s with at_:=a}):
  Calls Tryz.prog 139 #[.pointer (some ⟨b,0,none⟩)] W (MP Z W b v p (.bool true) s')
  :=by
 have Y:=zhd (ybc 11 _ _ hof);have E:=zhd hs';clear hof hs';obtain⟨g,U,I,_,l,_,i,f⟩:=M.img.code_at (znv _ _) hc;have H:=M.img.lens.1;have c1:W.cell? ⟨b,1,none⟩=some (.slice v.ic.ca v.ic.cn v.ic.cc):=M.cell (k:=1) rfl;rw[I,H]at c1;have X:W.cell? ⟨b,6,none⟩=some (.int .i64 (s.at_:Int)):=M.cell (k:=6) rfl;have x:=zlt M.h;have V:(s.at_:Int)<(p.code.length:Int):=by have:=(zge hc).1;omega
 have c:=zhd M;clear M I H hc;go_in;go_upto_region 1 with(fail);go_region
 all_goals
  go_upto_region 2 with(fail);refine yab ?_;intro w1 F;have T:Below W W w1:=by rw[F];exact(zal).drew
  have D:w1.heap[W.heap.size]? =some (.cells #[.int .i64 11,(a:Int)] 106 (0,0)):=by rw[F];exact znb _ _
  have Q:=zca D 0 rfl;have N:=zlt D;have O:=zh2 T D;clear F T D;go_wp2_with fail;refine(Y.o _).mono ?_;rintro e d ⟨rfl,G⟩;have J:=(G.block W N).trans O.o.2;have L:=zh2 (O.o.1.trans (G.mono O.o.1.size)) J;clear G J Q N;go_upto_region 3 with(fail);refine yab ?_;intro w3 C;have P:Below W W w3:=by rw[C];exact L.o.1.alloc L.o.1.size _
  have A:=zha C;have B:w3.heap[W.heap.size]? =some (.cells #[.int .i64 11,(a:Int)] 106 (0,0)):=by rw[C];exact(zne _ _ _ (zlt L.o.2)).trans L.o.2
  have q:=zca A 4 rfl;have n:=zca A 5 rfl;have m:=zca A 6 rfl;have Q:=zca B 0 rfl;have t:=zca B 1 rfl;have j:=zlt A;have N:=zlt B;have S:=c.o.ext P;have K:=zh3 P S B;clear C P A B S;have X:w3.cell? ⟨b,6,none⟩=some (.int .i64 (s.at_:Int)):=K.o.2.1.cell (k:=6) rfl;have r:∀o,w3.frozen? ⟨b,o,none⟩=false:=fun o=>K.o.2.1.frozen o;have u:=zlt K.o.2.1.h;have R:=zhd (K.o.2.1.scalar 6 (.int .i64 (a:Int)) s' (by rw[E.o];rfl) (by rw[E.o]) (by rw[E.o]) (by rw[E.o]) (by rw[E.o]) (by rw[E.o]) (by rw[E.o]) (by rw[E.o]));go_wp2;go_ret;exact⟨v,rfl,zhd ⟨R.o.1,(MK.ext K.o.1).trans R.o.2⟩⟩
theorem ybm
  {Z:Nat->Prop}(b:Nat)(v:MV)(p:Img)(s:MS)(W:World)(M:MX TT Z W b v p s)
  (op a:Int)(hc:p.code[s.at_]? =some ⟨op,a⟩)(nm:ByteArray)(od ii oo:Int)(hof:ofL op=(⟨nm,od,ii,oo,false,false,false⟩,true))(hat:s.at_<=4294967296)(hk:s.stk.length<=4294967296)(s':MS)(fn:Nat)
  (hd:(fn=163/\(op=17\/op=19\/op=20))\/(fn=164/\(op=5\/op=6\/op=7\/op=8\/op=9\/op=10\/op=29\/op=30\/op=31\/op=32)))
  (WT:∀(W':World) (v':MV),MX TT Z W' b v' p s.nxt->W<=W'.heap.size->Calls Tryz.prog fn #[.pointer (some ⟨b,0,none⟩),.agg #[op,a]] W' (MP Z W' b v' p (.bool true) s')):
  Calls Tryz.prog 139 #[.pointer (some ⟨b,0,none⟩)] W (MP Z W b v p (.bool true) s')
  :=by
 have Y:=zhd WT;clear WT;have HD:=zhd hd;have Aa:wrap64 ((s.at_:Int)+1)=(s.at_:Int)+1:=by unfold wrap64;omega
 have OF:=zhd (ybc op _ _ hof);clear hof hd;obtain⟨g,r,L,_,y,_,u,t⟩:=M.img.code_at (znv _ _) hc;have K:=M.img.lens.1;have c1:W.cell? ⟨b,1,none⟩=some (.slice v.ic.ca v.ic.cn v.ic.cc):=M.cell (k:=1) rfl;rw[L,K]at c1;have j:W.cell? ⟨b,6,none⟩=some (.int .i64 (s.at_:Int)):=M.cell (k:=6) rfl;have b0:=zlt M.h;have U:(s.at_:Int)<(p.code.length:Int):=by have:=(zge hc).1;omega
 have HX:=zhd M;clear M L K hc;go_in;go_upto_region 1 with(fail);go_region
 all_goals
  go_upto_region 2 with(fail);refine yab ?_;intro w1 H;have n:Below W W w1:=by rw[H];exact(zal).drew
  have F:w1.heap[W.heap.size]? =some (.cells #[op,a] 106 (0,0)):=by rw[H];exact znb _ _
  have X:=zca F 0 rfl;have Q:=zlt F;have c:=zh2 n F;clear H n F;go_wp2_with fail;refine(OF.o _).mono ?_;rintro e w2 ⟨rfl,I⟩;have N:=(I.block W Q).trans c.o.2;have S:=zh2 (c.o.1.trans (I.mono c.o.1.size)) N;clear I N X Q;go_upto_region 3 with(fail);refine yab ?_;intro w3 E;have d:Below W W w3:=by rw[E];exact S.o.1.alloc S.o.1.size _
  have B:=zha E;have D:w3.heap[W.heap.size]? =some (.cells #[op,a] 106 (0,0)):=by rw[E];exact(zne _ _ _ (zlt S.o.2)).trans S.o.2
  have f4:=zca B 4 rfl;have f5:=zca B 5 rfl;have z:=zca B 6 rfl;have X:=zca D 0 rfl;have e1:=zca D 1 rfl;have x:=zlt B;have Q:=zlt D;have m:=HX.o.ext d;have J:=zh3 d m D;clear E d B D m;have j:w3.cell? ⟨b,6,none⟩=some (.int .i64 (s.at_:Int)):=J.o.2.1.cell (k:=6) rfl;have f0:∀o,w3.frozen? ⟨b,o,none⟩=false:=fun o=>J.o.2.1.frozen o;have b3:=zlt J.o.2.1.h;go_upto_region 14 with(fail);refine yab ?_;intro f G;have O:=J.o.2.1.scalar 6 (.int .i64 ((s.at_:Int)+1)) s.nxt rfl rfl rfl rfl rfl rfl rfl rfl;rw[<-G]at O;have C:f.heap[W.heap.size]? =some (.cells #[op,a] 106 (0,0)):=by
   rw[G,znn _ _ _ _ (fun e=>by have e:W.heap.size=b:=e;omega)];exact J.o.2.2
  have g0:=zca C 0 rfl;have g1:=zca C 1 rfl;have y:=zlt C;have R:=zh3 O.1 ((MK.ext J.o.1).trans O.2) C;have b4:=zlt O.1.h;have i:s.nxt.stk.length<=4294967296:=hk;clear O G C f4 f5 z X e1 j f0 b3 x Q c1 u t U;have l:=zhd (Y.o f v R.o.1 R.o.2.1.keeps.size);rcases HD.o with⟨V,A⟩|⟨V,A⟩
  .subst V
   rcases A with A|A|A
   all_goals
    subst A;go_wp2_with fail;refine l.o.mono ?_;rintro e q ⟨T,rfl,P⟩;go_wp2;go_ret;exact⟨T,rfl,zhd ⟨P.o.1,R.o.2.1.trans P.o.2⟩⟩
  .subst V
   rcases A with A|A|A|A|A|A|A|A|A|A
   all_goals
    subst A;go_wp2_with fail;refine l.o.mono ?_;rintro e q ⟨T,rfl,P⟩;go_wp2;go_ret;exact⟨T,rfl,zhd ⟨P.o.1,R.o.2.1.trans P.o.2⟩⟩
theorem yg7
  {Z:Nat->Prop}(b:Nat)(v:MV)(p:Img)(s:MS)(W:World)(M:MX TT Z W b v p s)
  (op:Int)(h11:(op==11)=false)(a:Nat)(hc:p.code[s.at_]? =some ⟨op,a⟩)(nm:ByteArray)(od ii oo:Int)(hof:ofL op=(⟨nm,od,ii,oo,false,false,true⟩,true))(hat:s.at_<=4294967296)(s':MS)(hs':s'=bif ycm s.top then s.pop.nxt else{s.pop with at_:=a}):
  Calls Tryz.prog 139 #[.pointer (some ⟨b,0,none⟩)] W (MP Z W b v p (.bool true) s')
  :=by
 have Aa:wrap64 ((s.at_:Int)+1)=(s.at_:Int)+1:=by unfold wrap64;omega
 have OF:=zhd (ybc op _ _ hof);have A:=zhd hs';clear hof hs';obtain⟨g,m,L,_,gl,_,m0,m1⟩:=M.img.code_at (znv _ _) hc;have K:=M.img.lens.1;have c1:W.cell? ⟨b,1,none⟩=some (.slice v.ic.ca v.ic.cn v.ic.cc):=M.cell (k:=1) rfl;rw[L,K]at c1;have z:W.cell? ⟨b,6,none⟩=some (.int .i64 (s.at_:Int)):=M.cell (k:=6) rfl;have b0:=zlt M.h;have t:(s.at_:Int)<(p.code.length:Int):=by have:=(zge hc).1;omega
 have i:=zhd M;clear M L K hc;go_in;go_upto_region 1 with(fail);go_region
 all_goals
  go_upto_region 2 with(fail);refine yab ?_;intro w1 G;have j:Below W W w1:=by rw[G];exact(zal).drew
  have E:w1.heap[W.heap.size]? =some (.cells #[op,(a:Int)] 106 (0,0)):=by rw[G];exact znb _ _
  have d:=zca E 0 rfl;have Q:=zlt E;have V:=zh2 j E;clear G j E;go_wp2_with fail;refine(OF.o _).mono ?_;rintro e w2 ⟨rfl,J⟩;have N:=(J.block W Q).trans V.o.2;have U:=zh2 (V.o.1.trans (J.mono V.o.1.size)) N;clear J N d Q;go_upto_region 3 with(fail);refine yab ?_;intro w3 D;have X:Below W W w3:=by rw[D];exact U.o.1.alloc U.o.1.size _
  have B:=zha D;have C:w3.heap[W.heap.size]? =some (.cells #[op,(a:Int)] 106 (0,0)):=by rw[D];exact(zne _ _ _ (zlt U.o.2)).trans U.o.2
  have f4:=zca B 4 rfl;have f5:=zca B 5 rfl;have f6:=zca B 6 rfl;have d:=zca C 0 rfl;have u:=zca C 1 rfl;have il:=zlt B;have Q:=zlt C;have f:=i.o.ext X;have T:=zh3 X f C;clear D X B C f;have PO:=zhd (yaj b v p s w3 T.o.2.1);cases hr:ycm s.top
  all_goals
   go_wp2_with fail;refine PO.o.mono ?_;rintro e l ⟨c,⟨y,cn,x,r,n,q⟩,rfl,S⟩;have I:=(S.o.2.1.keeps.block W Q (fun e=>by have:=i.o.lt e;omega)).trans T.o.2.2;have TR:=zhd (yh3 s.top y cn x r n q _ l S.o.2.2 _ hr);go_wp2_with fail;refine TR.o.mono ?_;rintro e Y ⟨rfl,F⟩;have P:=S.o.1.ext F;have H:=(F.block W (zlt I)).trans I;have u:=zca H 1 rfl;have z:Y.cell? ⟨b,6,none⟩=some (.int .i64 (s.at_:Int)):=P.cell (k:=6) rfl;have f0:∀o,Y.frozen? ⟨b,o,none⟩=false:=fun o=>P.frozen o;have b6:=zlt P.h;have l6:=zlt H;have R:=zh2 P (S.o.2.1.trans (MK.ext F));clear I H F P
  .have A:=zhd (show s'={s.pop with at_:=a} by rw[A.o,hr];rfl)
   have O:=zhd (R.o.1.scalar 6 (.int .i64 (a:Int)) s' (by rw[A.o];rfl) (by rw[A.o]) (by rw[A.o]) (by rw[A.o]) (by rw[A.o]) (by rw[A.o]) (by rw[A.o]) (by rw[A.o]));clear hr;go_wp2;go_ret;exact⟨c,rfl,zhd ⟨O.o.1,(MK.ext T.o.1).trans (R.o.2.trans O.o.2)⟩⟩
  .have A:=zhd (show s'=s.pop.nxt by rw[A.o,hr];rfl)
   have O:=zhd (R.o.1.scalar 6 (.int .i64 ((s.at_:Int)+1)) s' (by rw[A.o];rfl) (by rw[A.o];rfl) (by rw[A.o];rfl) (by rw[A.o];rfl) (by rw[A.o];rfl) (by rw[A.o];rfl) (by rw[A.o];rfl) (by rw[A.o];rfl));clear hr;go_wp2;go_ret;exact⟨c,rfl,zhd ⟨O.o.1,(MK.ext T.o.1).trans (R.o.2.trans O.o.2)⟩⟩
end Go.Proofs.YtpagmlndgblhhaaGreatDoor
