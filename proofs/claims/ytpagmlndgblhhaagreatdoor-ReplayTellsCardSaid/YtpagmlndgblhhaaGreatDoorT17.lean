/- Parts of the proof: what the functions and the plain laws give that later parts lean on. Conditions: none beyond those that each theorem names. -/
import Derived.StillTailTactics
import Derived.Test.YtpagmlndgblhhaaGreatDoorT16
set_option maxRecDepth 100000
set_option maxHeartbeats 8000000
namespace Go.Proofs.YtpagmlndgblhhaaGreatDoor
open Go.RowKit Go.Own Go.Own.MapTy Go.Va Go.Sort
open Go.Own.Cells (sz enc)
theorem findLt_some {nm:ByteArray}:∀{l:List Lt} {i:Nat},yap nm l=some i->∃x,l[i]? =some x
 |[],i,h=>by cases h
 |y::r,i,h=>by
  rw[yap]at h;split at h
  .cases h;exact⟨y,rfl⟩
  .cases h2:yap nm r with
   |none=>rw[h2]at h;cases h
   |some j=>rw[h2]at h;cases h;obtain⟨x,hx⟩:=findLt_some h2;exact⟨x,by simpa using hx⟩
theorem yfi
  {Z:Nat->Prop}(b:Nat)(v:MV)(p:Img)(s:MS)(W:World)(M:MX TT Z W b v p s)
  (k:Nat)(nm:ByteArray)(hnm:p.names[k]? =some nm)(hf:yap nm s.letters=none):
  Calls Tryz.prog 156 #[.pointer (some ⟨b,0,none⟩),.agg #[.int .i64 22,k]] W (MP Z W b v p (.bool false) s):=by
 obtain⟨w0,A⟩:∃w0,w0=W.alloc (.cells #[.int .i64 22,k] 106):=⟨_,rfl⟩;have H:=zba A;have F:=zha A;have c0:=zca F 0 rfl;have c1:=zca F 1 rfl;have R:=zlt F;have B:=M.ext H;have N:=zlt M.h;have S:b<w0:=zlt B.h;obtain⟨Q,I,D,_,_,K,nm0⟩:=B.img.name_at (znv _ _) hnm;have C:=B.img.lens.2.2;have c3:w0.cell? ⟨b,3,none⟩=some (.slice v.ic.na v.ic.nn v.ic.nc):=B.cell (k:=3) rfl;rw[D,C]at c3;have L:(k:Int)<(p.names.length:Int):=by have:=(zge hnm).1;omega
 clear D C;have O:=zhd (ybk b v p s w0.drew (B.ext (znv _ _).drew) nm (-1) (by unfold ltI;rw[hf]));have G:=zh2 M H;clear M B H F hnm hf;go_in;go_wp2_with fail;rw[<-A];clear A
 go_still_tail 10,(by kernel_rfl)
 go_wp2_with fail;refine O.o.mono ?_;rintro e P ⟨rfl,E⟩;have J:=zhd (G.o.2.trans (znw ((znv w0.heap.size w0).drew) E|>.mono G.o.2.size));clear E;go_wp2;go_ret;exact⟨v,rfl,zhd ⟨G.o.1.ext J.o,MK.ext J.o⟩⟩
theorem ylk
  {Z:Nat->Prop}(b:Nat)(v:MV)(p:Img)(s:MS)(W:World)(M:MX TT Z W b v p s)
  (k:Nat)(nm:ByteArray)(hnm:p.names[k]? =some nm)(i:Nat)(hf:yap nm s.letters=some i)(hk:s.stk.length<=4294967296)(hll:s.letters.length<=4294967296)(hat:s.at_<=4294967296)(hZ:∀j,W.heap.size<=j->Z j)(s':MS)(hs':s'=((s.openL i).push (s.letV i)).nxt):
  Calls Tryz.prog 156 #[.pointer (some ⟨b,0,none⟩),.agg #[.int .i64 22,k]] W (MP Z W b v p (.bool true) s'):=by
 have l:wrap64 ((s.at_:Int)+1)=(s.at_:Int)+1:=by unfold wrap64;omega
 obtain⟨w0,A⟩:∃w0,w0=W.alloc (.cells #[.int .i64 22,k] 106):=⟨_,rfl⟩;have L:=zba A;have I:=zha A;have c0:=zca I 0 rfl;have c1:=zca I 1 rfl;have l0:=zlt I;have C:=M.ext L;have c:=zlt M.h;have b0:b<w0:=zlt C.h;obtain⟨y,O,F,_,_,U,nm0⟩:=C.img.name_at (znv _ _) hnm;have E:=C.img.lens.2.2;have c3:w0.cell? ⟨b,3,none⟩=some (.slice v.ic.na v.ic.nn v.ic.nc):=C.cell (k:=3) rfl;rw[F,E]at c3;have a:(k:Int)<(p.names.length:Int):=by have:=(zge hnm).1;omega
 clear F E;have t:=zhd (ybk b v p s w0.drew (C.ext (znv _ _).drew) nm (i:Int) (by unfold ltI;rw[hf]));obtain⟨x,P⟩:=findLt_some hf;have D:=zh5 M L P hll hZ;have B:=zhd hs';have z:decide ((i:Int)<0)=false:=znd (by omega);clear M C L I hnm hf P hll hZ hs';go_in;go_wp2_with fail;rw[<-A];clear A
 go_still_tail 10,(by kernel_rfl)
 go_wp2_with fail;refine t.o.mono ?_;rintro e w2 ⟨rfl,G⟩;have J:Below W W w2:=D.o.2.1.trans (znw ((znv w0.heap.size w0).drew) G|>.mono D.o.2.1.size);have r:=zhd (yfq b v p s w2.drew (D.o.1.ext J.drew) i x D.o.2.2.1 D.o.2.2.2.1 (yad D.o.2.2.2.2 J.size));have u:=zhd J;clear G J nm0 c3 c0 c1;go_upto_region 5 with(fail);go_region_law (first
  |(go_simp;go_at_call 162;refine r.o.mono ?_;rintro e R ⟨T,⟨g,f,d,Y,V,X⟩,rfl,K⟩)
  |(go_simp;go_at_call 119;refine(yaj b T p (s.openL i) R K.o.1 (s.letV i) g f d Y V X K.o.2.2 hk).mono ?_;rintro e N ⟨S,rfl,H⟩))
 all_goals
  have q:N.cell? ⟨b,6,none⟩=some (.int .i64 (s.at_:Int)):=H.o.1.cell (k:=6) rfl;have m:∀o,N.frozen? ⟨b,o,none⟩=false:=fun o=>H.o.1.frozen o;have n:=zlt H.o.1.h;have Q:=zhd (H.o.1.scalar 6 (.int .i64 ((s.at_:Int)+1)) s' (by rw[B.o];rfl) (by rw[B.o];rfl) (by rw[B.o];rfl) (by rw[B.o];rfl) (by rw[B.o];rfl) (by rw[B.o];rfl) (by rw[B.o];rfl) (by rw[B.o];rfl));go_wp2;go_ret;exact⟨S,rfl,zhd ⟨Q.o.1,(MK.ext u.o.drew).trans (K.o.2.1.trans (H.o.2.trans Q.o.2))⟩⟩
theorem yd0
  {Z:Nat->Prop}(b:Nat)(v:MV)(p:Img)(s:MS)(W:World)(M:MX TT Z W b v p s)
  (k:Nat)(hx:¬s.top.kind=1\/yav s.top.num s.timers.list=none)(hl:s.made.length<=4294967296)(hZ:∀j,W.heap.size<=j->Z j)(s':MS)(hs':s'=s.tGone):
  Calls Tryz.prog 156 #[.pointer (some ⟨b,0,none⟩),.agg #[.int .i64 18,k]] W (MP Z W b v p (.bool true) s'):=by
 obtain⟨w0,C⟩:∃w0,w0=W.alloc (.cells #[.int .i64 18,k] 106):=⟨_,rfl⟩;have i:=zba C;have L:=zha C;have c0:=zca L 0 rfl;have c1:=zca L 1 rfl;have q:=zlt L;have Y:=M.ext i;have V:=zlt M.h;have b0:b<w0:=zlt Y.h;have TP:=zhd (ybI b v p s w0 Y);have c:=zh3 M i L;clear M Y i L;go_in;go_wp2_with fail;rw[<-C];clear C;refine TP.o.mono ?_;rintro e w1 ⟨T,⟨P,X,cs,la,ln,lc⟩,rfl,I⟩;have F:=(I.o.2.1.keeps.block W q (fun e=>by have:=c.o.1.lt e;omega)).trans c.o.2.2;go_upto_region 12 with(fail);refine yaa ?_;intro w2 D;have Q:=zba D;have E:=zha D;obtain⟨q0,q1,q2,q3,l2⟩:=zq4 E;have Aa:=zhd E;have G:=zh3 Q (I.o.1.ext Q) (I.o.2.2.keep (S:=fun _=>False) (zkb Q) (fun _ _ f=>f));clear E Q D;have B:=(G.o.1.block W (zlt F)).trans F;have i0:=zca B 0 rfl;have i1:=zca B 1 rfl;have il:=zlt B;have b2:b<w2:=zlt G.o.2.1.h;have A:∃a cap,T.ts= .slice a s.timers.list.length cap:=G.o.2.1.tms.slice;obtain⟨m,l,A⟩:=A
 have N:w2.cell? ⟨b,12,none⟩=some (.slice m s.timers.list.length l):=by rw[<-A];exact G.o.2.1.cell (k:=12) rfl
 have g:=zhd (fun r H=>yaR b 12 X s.timers.list m l _ w2 N (A▸G.o.2.1.tms) b2 r H);have x:MK b v W T w2:=(MK.ext c.o.2.1).trans (I.o.2.1.trans (MK.ext G.o.1));have d:=zh2 x B;clear F B x c0 c1 q V b0;clear A N;have J:P=s.top.kind:=I.o.2.2.kind;have K:X=s.top.num:=I.o.2.2.n;rw[<-J,<-K]at hx;clear J K;obtain⟨r,H⟩:∃r,ybB X s.timers.list=r:=⟨_,rfl⟩;have g:=zhd (g.o r H);have y:=zhd (yau b T p s w2 G.o.2.1 ⟨#[103,111,110,101]⟩ (by decide) hl (yad hZ d.o.1.keeps.size) s' (hs'.symm));go_wp2_with fail;refine g.o.mono ?_;rintro e w3 ⟨rfl,t⟩;rw[t];clear t w3;by_cases h1:P=1
 .subst h1
  have u:=hx.resolve_left (fun h=>h rfl);have U:r= -1:=by rw[<-H];unfold ybB;rw[u]
  subst U;clear u H hx;go_wp2_with fail;refine y.o.mono ?_;rintro e z ⟨R,rfl,O⟩;go_wp2;go_ret;exact⟨R,rfl,zhd ⟨O.o.1,d.o.1.trans O.o.2⟩⟩
 .have n1:(P==1)=false:=by rw[zna];exact h1
  have n2:(P !=1)=true:=by rw[bne,n1];rfl
  clear hx h1 H;go_wp2_with fail;refine y.o.mono ?_;rintro e z ⟨R,rfl,O⟩;go_wp2;go_ret;exact⟨R,rfl,zhd ⟨O.o.1,d.o.1.trans O.o.2⟩⟩
theorem ydY
  {Z:Nat->Prop}(b:Nat)(v:MV)(p:Img)(s:MS)(W:World)(M:MX TT Z W b v p s)
  (k:Nat)(hx:¬s.top.kind=1\/yav s.top.num s.timers.list=none)(hl:s.made.length<=4294967296)(hZ:∀j,W.heap.size<=j->Z j)(s':MS)(hs':s'=s.tGone):
  Calls Tryz.prog 156 #[.pointer (some ⟨b,0,none⟩),.agg #[.int .i64 28,k]] W (MP Z W b v p (.bool true) s'):=by
 obtain⟨w0,C⟩:∃w0,w0=W.alloc (.cells #[.int .i64 28,k] 106):=⟨_,rfl⟩;have i:=zba C;have L:=zha C;have c0:=zca L 0 rfl;have c1:=zca L 1 rfl;have q:=zlt L;have Y:=M.ext i;have V:=zlt M.h;have b0:b<w0:=zlt Y.h;have TP:=zhd (ybI b v p s w0 Y);have c:=zh3 M i L;clear M Y i L;go_in;go_wp2_with fail;rw[<-C];clear C;refine TP.o.mono ?_;rintro e w1 ⟨T,⟨P,X,cs,la,ln,lc⟩,rfl,I⟩;have F:=(I.o.2.1.keeps.block W q (fun e=>by have:=c.o.1.lt e;omega)).trans c.o.2.2;go_upto_region 12 with(fail);refine yaa ?_;intro w2 D;have Q:=zba D;have E:=zha D;obtain⟨q0,q1,q2,q3,l2⟩:=zq4 E;have Aa:=zhd E;have G:=zh3 Q (I.o.1.ext Q) (I.o.2.2.keep (S:=fun _=>False) (zkb Q) (fun _ _ f=>f));clear E Q D;have B:=(G.o.1.block W (zlt F)).trans F;have i0:=zca B 0 rfl;have i1:=zca B 1 rfl;have il:=zlt B;have b2:b<w2:=zlt G.o.2.1.h;have A:∃a cap,T.ts= .slice a s.timers.list.length cap:=G.o.2.1.tms.slice;obtain⟨m,l,A⟩:=A
 have N:w2.cell? ⟨b,12,none⟩=some (.slice m s.timers.list.length l):=by rw[<-A];exact G.o.2.1.cell (k:=12) rfl
 have g:=zhd (fun r H=>yaR b 12 X s.timers.list m l _ w2 N (A▸G.o.2.1.tms) b2 r H);have x:MK b v W T w2:=(MK.ext c.o.2.1).trans (I.o.2.1.trans (MK.ext G.o.1));have d:=zh2 x B;clear F B x c0 c1 q V b0;clear A N;have J:P=s.top.kind:=I.o.2.2.kind;have K:X=s.top.num:=I.o.2.2.n;rw[<-J,<-K]at hx;clear J K;obtain⟨r,H⟩:∃r,ybB X s.timers.list=r:=⟨_,rfl⟩;have g:=zhd (g.o r H);have y:=zhd (yau b T p s w2 G.o.2.1 ⟨#[103,111,110,101]⟩ (by decide) hl (yad hZ d.o.1.keeps.size) s' (hs'.symm));go_wp2_with fail;refine g.o.mono ?_;rintro e w3 ⟨rfl,t⟩;rw[t];clear t w3;by_cases h1:P=1
 .subst h1
  have u:=hx.resolve_left (fun h=>h rfl);have U:r= -1:=by rw[<-H];unfold ybB;rw[u]
  subst U;clear u H hx;go_wp2_with fail;refine y.o.mono ?_;rintro e z ⟨R,rfl,O⟩;go_wp2;go_ret;exact⟨R,rfl,zhd ⟨O.o.1,d.o.1.trans O.o.2⟩⟩
 .have n1:(P==1)=false:=by rw[zna];exact h1
  have n2:(P !=1)=true:=by rw[bne,n1];rfl
  clear hx h1 H;go_wp2_with fail;refine y.o.mono ?_;rintro e z ⟨R,rfl,O⟩;go_wp2;go_ret;exact⟨R,rfl,zhd ⟨O.o.1,d.o.1.trans O.o.2⟩⟩
theorem ydZ
  {Z:Nat->Prop}(b:Nat)(v:MV)(p:Img)(s:MS)(W:World)(M:MX TT Z W b v p s)
  (k:Nat)(hx:¬s.top.kind=1\/yav s.top.num s.acts.list=none)(hl:s.made.length<=4294967296)(hZ:∀j,W.heap.size<=j->Z j)(s':MS)(hs':s'=s.tGone):
  Calls Tryz.prog 156 #[.pointer (some ⟨b,0,none⟩),.agg #[.int .i64 21,k]] W (MP Z W b v p (.bool true) s'):=by
 obtain⟨w0,C⟩:∃w0,w0=W.alloc (.cells #[.int .i64 21,k] 106):=⟨_,rfl⟩;have i:=zba C;have L:=zha C;have c0:=zca L 0 rfl;have c1:=zca L 1 rfl;have q:=zlt L;have Y:=M.ext i;have V:=zlt M.h;have b0:b<w0:=zlt Y.h;have TP:=zhd (ybI b v p s w0 Y);have c:=zh3 M i L;clear M Y i L;go_in;go_wp2_with fail;rw[<-C];clear C;refine TP.o.mono ?_;rintro e w1 ⟨T,⟨P,X,cs,la,ln,lc⟩,rfl,I⟩;have F:=(I.o.2.1.keeps.block W q (fun e=>by have:=c.o.1.lt e;omega)).trans c.o.2.2;go_upto_region 12 with(fail);refine yaa ?_;intro w2 D;have Q:=zba D;have E:=zha D;obtain⟨q0,q1,q2,q3,l2⟩:=zq4 E;have Aa:=zhd E;have G:=zh3 Q (I.o.1.ext Q) (I.o.2.2.keep (S:=fun _=>False) (zkb Q) (fun _ _ f=>f));clear E Q D;have B:=(G.o.1.block W (zlt F)).trans F;have i0:=zca B 0 rfl;have i1:=zca B 1 rfl;have il:=zlt B;have b2:b<w2:=zlt G.o.2.1.h;have A:∃a cap,T.as_= .slice a s.acts.list.length cap:=G.o.2.1.acs.slice;obtain⟨m,l,A⟩:=A
 have N:w2.cell? ⟨b,14,none⟩=some (.slice m s.acts.list.length l):=by rw[<-A];exact G.o.2.1.cell (k:=14) rfl
 have g:=zhd (fun r H=>yaR b 14 X s.acts.list m l _ w2 N (A▸G.o.2.1.acs) b2 r H);have x:MK b v W T w2:=(MK.ext c.o.2.1).trans (I.o.2.1.trans (MK.ext G.o.1));have d:=zh2 x B;clear F B x c0 c1 q V b0;clear A N;have J:P=s.top.kind:=I.o.2.2.kind;have K:X=s.top.num:=I.o.2.2.n;rw[<-J,<-K]at hx;clear J K;obtain⟨r,H⟩:∃r,ybB X s.acts.list=r:=⟨_,rfl⟩;have g:=zhd (g.o r H);have y:=zhd (yau b T p s w2 G.o.2.1 ⟨#[103,111,110,101]⟩ (by decide) hl (yad hZ d.o.1.keeps.size) s' (hs'.symm));go_wp2_with fail;refine g.o.mono ?_;rintro e w3 ⟨rfl,t⟩;rw[t];clear t w3;by_cases h1:P=1
 .subst h1
  have u:=hx.resolve_left (fun h=>h rfl);have U:r= -1:=by rw[<-H];unfold ybB;rw[u]
  subst U;clear u H hx;go_wp2_with fail;refine y.o.mono ?_;rintro e z ⟨R,rfl,O⟩;go_wp2;go_ret;exact⟨R,rfl,zhd ⟨O.o.1,d.o.1.trans O.o.2⟩⟩
 .have n1:(P==1)=false:=by rw[zna];exact h1
  have n2:(P !=1)=true:=by rw[bne,n1];rfl
  clear hx h1 H;go_wp2_with fail;refine y.o.mono ?_;rintro e z ⟨R,rfl,O⟩;go_wp2;go_ret;exact⟨R,rfl,zhd ⟨O.o.1,d.o.1.trans O.o.2⟩⟩
theorem ygM
  {Z:Nat->Prop}(b:Nat)(v:MV)(p:Img)(s:MS)(W:World)(M:MX TT Z W b v p s)
  (k i:Nat)(x:Th)(hx:s.top.kind=1)(hf:yav s.top.num s.timers.list=some i)(hxi:s.timers.list[i]? =some x)(hov:x.over=false):
  Calls Tryz.prog 156 #[.pointer (some ⟨b,0,none⟩),.agg #[.int .i64 18,k]] W (MP Z W b v p (.bool false) s):=by
 obtain⟨w0,C⟩:∃w0,w0=W.alloc (.cells #[.int .i64 18,k] 106):=⟨_,rfl⟩;have j:=zba C;have K:=zha C;have c0:=zca K 0 rfl;have c1:=zca K 1 rfl;have l:=zlt K;have X:=M.ext j;have U:=zlt M.h;have b0:b<w0:=zlt X.h;have TP:=zhd (ybI b v p s w0 X);have Y:=zh3 M j K;clear M X j K;go_in;go_wp2_with fail;rw[<-C];clear C;refine TP.o.mono ?_;rintro e w1 ⟨N,⟨ck,t,cs,la,ln,lc⟩,rfl,H⟩;have G:=(H.o.2.1.keeps.block W l (fun e=>by have:=Y.o.1.lt e;omega)).trans Y.o.2.2;go_upto_region 12 with(fail);refine yaa ?_;intro w2 E;have L:=zba E;have F:=zha E;obtain⟨q0,q1,q2,q3,l2⟩:=zq4 F;have Ab:=zhd F;have D:=zh3 L (H.o.1.ext L) (H.o.2.2.keep (S:=fun _=>False) (zkb L) (fun _ _ f=>f));clear F L E;have B:=(D.o.1.block W (zlt G)).trans G;have i0:=zca B 0 rfl;have i1:=zca B 1 rfl;have il:=zlt B;have b2:b<w2:=zlt D.o.2.1.h;have A:∃a cap,N.ts= .slice a s.timers.list.length cap:=D.o.2.1.tms.slice;obtain⟨P,O,A⟩:=A
 have V:w2.cell? ⟨b,12,none⟩=some (.slice P s.timers.list.length O):=by rw[<-A];exact D.o.2.1.cell (k:=12) rfl
 have d:=zhd (fun r hr=>yaR b 12 t s.timers.list P O _ w2 V (A▸D.o.2.1.tms) b2 r hr);have u:MK b v W N w2:=(MK.ext Y.o.2.1).trans (H.o.2.1.trans (MK.ext D.o.1));have HK:=zh2 u B;clear G B u c0 c1 l U b0;obtain rfl:ck=1:=H.o.2.2.kind.trans hx;have J:t=s.top.num:=H.o.2.2.n;rw[<-J]at hf;have d:=zhd (d.o (i:Int) (by unfold ybB;rw[hf]));have n8:decide ((i:Int)<0)=false:=znd (by omega);obtain⟨x0,R⟩:=Go.Proofs.YtpagmlndgblhhaaGreatDoor.findT_some hf;obtain⟨g,Q,c,T,hg,q,_,I⟩:=(show XRow _ w2 193 (.slice P s.timers.list.length O) s.timers.list from A▸D.o.2.1.tms).at_ hxi;have z:w2.cell? ⟨g,Q+i*7+1,none⟩=some (.bool x.over):=by rw[<-q.over];exact I 1 _ rfl
 have Aa:(i:Int)<s.timers.list.length:=by have:=(zge hxi).1;omega
 subst T;rw[hov]at z;clear A hf hxi hx R I q J hov;go_wp2_with fail;refine d.o.mono ?_;rintro e y ⟨rfl,m⟩;rw[m];clear m y;go_wp2;go_ret;exact⟨N,rfl,zhd ⟨D.o.2.1,HK.o.1⟩⟩
theorem ygL
  {Z:Nat->Prop}(b:Nat)(v:MV)(p:Img)(s:MS)(W:World)(M:MX TT Z W b v p s)
  (k i:Nat)(x:Th)(hx:s.top.kind=1)(hf:yav s.top.num s.acts.list=some i)(hxi:s.acts.list[i]? =some x)(hov:x.over=false):
  Calls Tryz.prog 156 #[.pointer (some ⟨b,0,none⟩),.agg #[.int .i64 21,k]] W (MP Z W b v p (.bool false) s):=by
 obtain⟨w0,C⟩:∃w0,w0=W.alloc (.cells #[.int .i64 21,k] 106):=⟨_,rfl⟩;have j:=zba C;have K:=zha C;have c0:=zca K 0 rfl;have c1:=zca K 1 rfl;have l:=zlt K;have X:=M.ext j;have U:=zlt M.h;have b0:b<w0:=zlt X.h;have TP:=zhd (ybI b v p s w0 X);have Y:=zh3 M j K;clear M X j K;go_in;go_wp2_with fail;rw[<-C];clear C;refine TP.o.mono ?_;rintro e w1 ⟨N,⟨ck,t,cs,la,ln,lc⟩,rfl,H⟩;have G:=(H.o.2.1.keeps.block W l (fun e=>by have:=Y.o.1.lt e;omega)).trans Y.o.2.2;go_upto_region 12 with(fail);refine yaa ?_;intro w2 E;have L:=zba E;have F:=zha E;obtain⟨q0,q1,q2,q3,l2⟩:=zq4 F;have Ab:=zhd F;have D:=zh3 L (H.o.1.ext L) (H.o.2.2.keep (S:=fun _=>False) (zkb L) (fun _ _ f=>f));clear F L E;have B:=(D.o.1.block W (zlt G)).trans G;have i0:=zca B 0 rfl;have i1:=zca B 1 rfl;have il:=zlt B;have b2:b<w2:=zlt D.o.2.1.h;have A:∃a cap,N.as_= .slice a s.acts.list.length cap:=D.o.2.1.acs.slice;obtain⟨P,O,A⟩:=A
 have V:w2.cell? ⟨b,14,none⟩=some (.slice P s.acts.list.length O):=by rw[<-A];exact D.o.2.1.cell (k:=14) rfl
 have d:=zhd (fun r hr=>yaR b 14 t s.acts.list P O _ w2 V (A▸D.o.2.1.acs) b2 r hr);have u:MK b v W N w2:=(MK.ext Y.o.2.1).trans (H.o.2.1.trans (MK.ext D.o.1));have HK:=zh2 u B;clear G B u c0 c1 l U b0;obtain rfl:ck=1:=H.o.2.2.kind.trans hx;have J:t=s.top.num:=H.o.2.2.n;rw[<-J]at hf;have d:=zhd (d.o (i:Int) (by unfold ybB;rw[hf]));have n8:decide ((i:Int)<0)=false:=znd (by omega);obtain⟨x0,R⟩:=Go.Proofs.YtpagmlndgblhhaaGreatDoor.findT_some hf;obtain⟨g,Q,c,T,hg,q,_,I⟩:=(show XRow _ w2 193 (.slice P s.acts.list.length O) s.acts.list from A▸D.o.2.1.acs).at_ hxi;have z:w2.cell? ⟨g,Q+i*7+1,none⟩=some (.bool x.over):=by rw[<-q.over];exact I 1 _ rfl
 have Aa:(i:Int)<s.acts.list.length:=by have:=(zge hxi).1;omega
 subst T;rw[hov]at z;clear A hf hxi hx R I q J hov;go_wp2_with fail;refine d.o.mono ?_;rintro e y ⟨rfl,m⟩;rw[m];clear m y;go_wp2;go_ret;exact⟨N,rfl,zhd ⟨D.o.2.1,HK.o.1⟩⟩
theorem yiD
  {Z:Nat->Prop}(b:Nat)(v:MV)(p:Img)(s:MS)(W:World)(M:MX TT Z W b v p s)
  (k i:Nat)(x:Th)(hx:s.top.kind=1)(hf:yav s.top.num s.timers.list=some i)(hxi:s.timers.list[i]? =some x)(hov:x.over=true)(hk:s.stk.length<=4294967295)(htl:s.timers.list.length<=4294967296)(hat:s.at_<=4294967296)(hZ:∀j,W.heap.size<=j->Z j)(s':MS)
  (hs':s'=(({s.pop with timers:=⟨s.timers.list.eraseIdx i,s.timers.next⟩}:MS).push (ybw s.now)).nxt):
  Calls Tryz.prog 156 #[.pointer (some ⟨b,0,none⟩),.agg #[.int .i64 18,k]] W (MP Z W b v p (.bool true) s'):=by
 have Ak:wrap64 ((s.at_:Int)+1)=(s.at_:Int)+1:=by unfold wrap64;omega
 have hk:s.stk.length<=4294967296:=by omega
 obtain⟨w0,D⟩:∃w0,w0=W.alloc (.cells #[.int .i64 18,k] 106):=⟨_,rfl⟩;have B0:=zba D;have Y:=zha D;have c0:=zca Y 0 rfl;have c1:=zca Y 1 rfl;have l0:=zlt Y;have M0:=M.ext B0;have Ad:=zlt M.h;have b0:b<w0:=zlt M0.h;have TP:=zhd (ybI b v p s w0 M0);have d:=zh3 M B0 Y;clear M M0 B0 Y;go_in;go_wp2_with fail;rw[<-D];clear D;refine TP.o.mono ?_;rintro e w1 ⟨Q,⟨ck,cn,cs,la,ln,lc⟩,rfl,P⟩;have N:=(P.o.2.1.keeps.block W l0 (fun e=>by have:=d.o.1.lt e;omega)).trans d.o.2.2;go_upto_region 12 with(fail);refine yaa ?_;intro w2 H;have z:=zba H;have L:=zha H;obtain⟨q0,q1,q2,q3,l2⟩:=zq4 L;have Ao:=zhd L;have F:=zh3 z (P.o.1.ext z) (P.o.2.2.keep (S:=fun _=>False) (zkb z) (fun _ _ f=>f));clear L z H;have C:=(F.o.1.block W (zlt N)).trans N;have i0:=zca C 0 rfl;have i1:=zca C 1 rfl;have il:=zlt C;have b2:b<w2:=zlt F.o.2.1.h;have B:∃a cap,Q.ts= .slice a s.timers.list.length cap:=F.o.2.1.tms.slice;obtain⟨ta,tc,B⟩:=B
 have Ae:w2.cell? ⟨b,12,none⟩=some (.slice ta s.timers.list.length tc):=by rw[<-B];exact F.o.2.1.cell (k:=12) rfl
 have FI:=zhd (fun r hr=>yaR b 12 cn s.timers.list ta tc _ w2 Ae (B▸F.o.2.1.tms) b2 r hr);have K2:MK b v W Q w2:=(MK.ext d.o.2.1).trans (P.o.2.1.trans (MK.ext F.o.1));have l:=zh2 K2 C;clear N C K2 c0 c1 l0 Ad b0;obtain rfl:ck=1:=P.o.2.2.kind.trans hx;have U:cn=s.top.num:=P.o.2.2.n;rw[<-U]at hf;have FI:=zhd (FI.o (i:Int) (by unfold ybB;rw[hf]));have n8:decide ((i:Int)<0)=false:=znd (by omega);obtain⟨x0,Ab⟩:=Go.Proofs.YtpagmlndgblhhaaGreatDoor.findT_some hf;obtain⟨g,Aa,c,Ac,hg,hc,_,T⟩:=(show XRow _ w2 193 (.slice ta s.timers.list.length tc) s.timers.list from B▸F.o.2.1.tms).at_ hxi;have m1:w2.cell? ⟨g,Aa+i*7+1,none⟩=some (.bool x.over):=by rw[<-hc.over];exact T 1 _ rfl
 have Ai:(i:Int)<s.timers.list.length:=by have:=(zge hxi).1;omega
 subst Ac;rw[hov]at m1;have E:=zhd hs';clear B hf hx Ab T hc U hov hs';go_wp2_with fail;refine FI.o.mono ?_;rintro e w3 ⟨rfl,hw⟩;rw[hw];clear hw w3;have PO:=zhd (yai b Q p s w2 F.o.2.1);go_wp2_with fail;refine PO.o.mono ?_;rintro e w4 ⟨v4,⟨dk,dn,ds,ma,mn,mc⟩,rfl,t⟩;have O:¬MO Q b W.heap.size:=fun e=>by
  rcases P.o.2.1.own _ e with h|h
  .have:=d.o.1.lt h;omega
  .have h:w0<=W.heap.size:=h
   have:=zlt d.o.2.2;omega
 have K:=(t.o.2.1.keeps.block W (zlt l.o.2) O).trans l.o.2;have TK:=zhd (ycd b v4 p s.pop w4 t.o.1 i x hxi htl {s.pop with timers:=⟨s.timers.list.eraseIdx i,s.timers.next⟩} rfl (yad hZ (znf l.o.1.keeps.size (znf (znc _) t.o.2.1.keeps.size))));have R:s.pop.stk.length<=4294967296:=znf (Go.Proofs.YtpagmlndgblhhaaGreatDoor.pop_len s) hk;go_wp2_with fail;refine TK.o.mono ?_;rintro e w5 ⟨v5,⟨Ah,Ag,⟨zk,zn,zs,za,zl,zc⟩,Af⟩,rfl,q⟩;have V:¬MO v4 b W.heap.size:=fun e=>by
  rcases t.o.2.1.own _ e with h|h
  .exact O h
  .have:=zlt l.o.2;omega
 have J:=(q.o.2.1.keeps.block W (zlt K) V).trans K;go_upto_region 27 with(fail);refine yaa ?_;intro w6 G;have u:=zba G;have A:=zha G;have I:=(u.block W (zlt J)).trans J;have u2:=zca A 2 rfl;have u3:=zca A 3 rfl;have u4:=zca A 4 rfl;have u5:=zca A 5 rfl;have u6:=zca A 6 rfl;have ul:=zlt A;have k0:=zca I 0 rfl;have kl:=zlt I;have y:=q.o.1.ext u;have Aj:w6.cell? ⟨b,11,none⟩=some (.int .i64 s.now):=y.cell (k:=11) rfl;have b6:=zlt y.h;have K6:MK b v W v5 w6:=l.o.1.trans ((MK.refl b Q w2).trans (t.o.2.1.trans (q.o.2.1.trans (MK.ext u))));have C6:=CF.step (MK.ext u) q.o.2.2.v;have H6:=zh5 y K6 C6 q.o.2.2.how A;clear K J I A G u y K6 C6 O V;go_upto_region 31 with(fail);go_region_law (first
  |(go_simp;go_at_call 106;refine(ybg _ _).mono ?_;rintro e w8 ⟨rfl,X⟩;have H8:=zhd (znw ((znv w6.heap.size w6).drew) X);clear X)
  |(go_simp;go_at_call 119;refine(yaj b v5 p _ w8 (H6.o.1.ext H8.o) (ybw s.now) 1 _ ⟨#[]⟩ none 0 0 (ycJ _ _ _) R).mono ?_;rintro e w9 ⟨v9,rfl,m⟩))
 all_goals
  have An:w9.cell? ⟨b,6,none⟩=some (.int .i64 (s.at_:Int)):=m.o.1.cell (k:=6) rfl;have Al:∀o,w9.frozen? ⟨b,o,none⟩=false:=fun o=>m.o.1.frozen o;have Am:=zlt m.o.1.h;have SN:=zhd (m.o.1.scalar 6 (.int .i64 ((s.at_:Int)+1)) s' (by rw[E.o];rfl) (by rw[E.o];rfl) (by rw[E.o];rfl) (by rw[E.o];rfl) (by rw[E.o];rfl) (by rw[E.o];rfl) (by rw[E.o];rfl) (by rw[E.o];rfl));go_wp2;go_ret;exact⟨v9,rfl,zhd ⟨SN.o.1,H6.o.2.1.trans ((MK.ext H8.o).trans (m.o.2.trans SN.o.2))⟩⟩
theorem ylm
  {Z:Nat->Prop}(b:Nat)(v:MV)(p:Img)(s:MS)(W:World)(M:MX TT Z W b v p s)
  (k i:Nat)(x:Th)(hx:s.top.kind=1)(hf:yav s.top.num s.acts.list=some i)(hxi:s.acts.list[i]? =some x)(hov:x.over=true)(hk:s.stk.length<=4294967295)(htl:s.acts.list.length<=4294967296)(hat:s.at_<=4294967296)(hZ:∀j,W.heap.size<=j->Z j)(s':MS)
  (hs':s'=((({s.pop with acts:=⟨s.acts.list.eraseIdx i,s.acts.next⟩}:MS).push x.result).push (ybw x.how)).nxt):
  Calls Tryz.prog 156 #[.pointer (some ⟨b,0,none⟩),.agg #[.int .i64 21,k]] W (MP Z W b v p (.bool true) s'):=by
 have Al:wrap64 ((s.at_:Int)+1)=(s.at_:Int)+1:=by unfold wrap64;omega
 have Ai:=hk;have hk:s.stk.length<=4294967296:=by omega
 obtain⟨w0,E⟩:∃w0,w0=W.alloc (.cells #[.int .i64 21,k] 106):=⟨_,rfl⟩;have B0:=zba E;have u:=zha E;have c0:=zca u 0 rfl;have c1:=zca u 1 rfl;have l0:=zlt u;have M0:=M.ext B0;have Ae:=zlt M.h;have b0:b<w0:=zlt M0.h;have TP:=zhd (ybI b v p s w0 M0);have y:=zh3 M B0 u;clear M M0 B0 u;go_in;go_wp2_with fail;rw[<-E];clear E;refine TP.o.mono ?_;rintro e w1 ⟨X,⟨ck,cn,cs,la,ln,lc⟩,rfl,T⟩;have Q:=(T.o.2.1.keeps.block W l0 (fun e=>by have:=y.o.1.lt e;omega)).trans y.o.2.2;go_upto_region 12 with(fail);refine yaa ?_;intro w2 I;have B2:=zba I;have P:=zha I;obtain⟨q0,q1,q2,q3,l2⟩:=zq4 P;have Ap:=zhd P;have G:=zh3 B2 (T.o.1.ext B2) (T.o.2.2.keep (S:=fun _=>False) (zkb B2) (fun _ _ f=>f));clear P B2 I;have C:=(G.o.1.block W (zlt Q)).trans Q;have i0:=zca C 0 rfl;have i1:=zca C 1 rfl;have il:=zlt C;have b2:b<w2:=zlt G.o.2.1.h;have B:∃a cap,X.as_= .slice a s.acts.list.length cap:=G.o.2.1.acs.slice;obtain⟨ta,tc,B⟩:=B
 have Af:w2.cell? ⟨b,14,none⟩=some (.slice ta s.acts.list.length tc):=by rw[<-B];exact G.o.2.1.cell (k:=14) rfl
 have FI:=zhd (fun r hr=>yaR b 14 cn s.acts.list ta tc _ w2 Af (B▸G.o.2.1.acs) b2 r hr);have K2:MK b v W X w2:=(MK.ext y.o.2.1).trans (T.o.2.1.trans (MK.ext G.o.1));have z:=zh2 K2 C;clear Q C K2 c0 c1 l0 Ae b0;obtain rfl:ck=1:=T.o.2.2.kind.trans hx;have m:cn=s.top.num:=T.o.2.2.n;rw[<-m]at hf;have FI:=zhd (FI.o (i:Int) (by unfold ybB;rw[hf]));have n8:decide ((i:Int)<0)=false:=znd (by omega);obtain⟨x0,Ac⟩:=Go.Proofs.YtpagmlndgblhhaaGreatDoor.findT_some hf;obtain⟨g,Ab,c,Ad,hg,hc,_,l⟩:=(show XRow _ w2 193 (.slice ta s.acts.list.length tc) s.acts.list from B▸G.o.2.1.acs).at_ hxi;have m1:w2.cell? ⟨g,Ab+i*7+1,none⟩=some (.bool x.over):=by rw[<-hc.over];exact l 1 _ rfl
 have Aj:(i:Int)<s.acts.list.length:=by have:=(zge hxi).1;omega
 subst Ad;rw[hov]at m1;have F:=zhd hs';clear B hf hx Ac l hc m hov hs';go_wp2_with fail;refine FI.o.mono ?_;rintro e w3 ⟨rfl,hw⟩;rw[hw];clear hw w3;have PO:=zhd (yai b X p s w2 G.o.2.1);go_wp2_with fail;refine PO.o.mono ?_;rintro e w4 ⟨v4,⟨dk,dn,ds,ma,mn,mc⟩,rfl,H4⟩;have R:¬MO X b W.heap.size:=fun e=>by
  rcases T.o.2.1.own _ e with h|h
  .have:=y.o.1.lt h;omega
  .have h:w0<=W.heap.size:=h
   have:=zlt y.o.2.2;omega
 have N:=(H4.o.2.1.keeps.block W (zlt z.o.2) R).trans z.o.2;have TK:=zhd (ygP b v4 p s.pop w4 H4.o.1 i x hxi htl {s.pop with acts:=⟨s.acts.list.eraseIdx i,s.acts.next⟩} rfl (yad hZ (znf z.o.1.keeps.size (znf (znc _) H4.o.2.1.keeps.size))));have d:s.pop.stk.length<=4294967296:=znf (Go.Proofs.YtpagmlndgblhhaaGreatDoor.pop_len s) hk;go_wp2_with fail;refine TK.o.mono ?_;rintro e w5 ⟨v5,⟨Ah,Ag,⟨zk,zn,zs,za,zl,zc⟩,Y⟩,rfl,U⟩;have q:¬MO v4 b W.heap.size:=fun e=>by
  rcases H4.o.2.1.own _ e with h|h
  .exact R h
  .have:=zlt z.o.2;omega
 have L:=(U.o.2.1.keeps.block W (zlt N) q).trans N;go_upto_region 27 with(fail);refine yaa ?_;intro w6 H;have B6:=zba H;have A:=zha H;have K:=(B6.block W (zlt L)).trans L;have u2:=zca A 2 rfl;have u3:=zca A 3 rfl;have u4:=zca A 4 rfl;have u5:=zca A 5 rfl;have u6:=zca A 6 rfl;have ul:=zlt A;have k0:=zca K 0 rfl;have kl:=zlt K;have M6:=U.o.1.ext B6;have Ak:w6.cell? ⟨b,11,none⟩=some (.int .i64 s.now):=M6.cell (k:=11) rfl;have b6:=zlt M6.h;have K6:MK b v W v5 w6:=z.o.1.trans ((MK.refl b X w2).trans (H4.o.2.1.trans (U.o.2.1.trans (MK.ext B6))));have C6:=CF.step (MK.ext B6) U.o.2.2.v;have H6:=zh5 M6 K6 C6 U.o.2.2.how A;clear N L K A H B6 M6 K6 C6 R q;have J:(({s.pop with acts:=⟨s.acts.list.eraseIdx i,s.acts.next⟩}:MS).push x.result).stk.length<=4294967296:=by
  show(s.pop.stk++[x.result]).length<=_;rw[znk,zmh];have:=Go.Proofs.YtpagmlndgblhhaaGreatDoor.pop_len s;omega
 obtain rfl:Y=x.how:=H6.o.2.2.2.1;go_upto_region 33 with(fail);go_region_law ((go_simp;go_at_call 119;refine(yaj b v5 p _ w6.drew (H6.o.1.ext (znv _ _).drew) x.result zk zn zs za zl zc (H6.o.2.2.1.keep (S:=fun _=>False) (zkb ((znv _ _).drew)) (fun _ _ f=>f)) d).mono ?_;rintro e w8 ⟨v8,rfl,H8⟩))
 all_goals
  have O:=(H8.o.2.keeps.block w5 ul (fun e=>by have:=U.o.1.lt e;omega)).trans H6.o.2.2.2.2;have g6:=zca O 6 rfl;have gl:=zlt O;clear O;go_upto_region 34 with(fail);go_region_law (first
   |(go_simp;go_at_call 106;refine(ybg _ _).mono ?_;rintro e w9 ⟨rfl,t⟩;have H9:=zhd (znw ((znv w8.heap.size w8).drew) t);clear t)
   |(go_simp;go_at_call 119;refine(yaj b v8 p _ w9 (H8.o.1.ext H9.o) (ybw x.how) 1 _ ⟨#[]⟩ none 0 0 (ycJ _ _ _) J).mono ?_;rintro e V ⟨Aa,rfl,D⟩))
  all_goals
   have Ao:V.cell? ⟨b,6,none⟩=some (.int .i64 (s.at_:Int)):=D.o.1.cell (k:=6) rfl;have Am:∀o,V.frozen? ⟨b,o,none⟩=false:=fun o=>D.o.1.frozen o;have An:=zlt D.o.1.h;have SN:=zhd (D.o.1.scalar 6 (.int .i64 ((s.at_:Int)+1)) s' (by rw[F.o];rfl) (by rw[F.o];rfl) (by rw[F.o];rfl) (by rw[F.o];rfl) (by rw[F.o];rfl) (by rw[F.o];rfl) (by rw[F.o];rfl) (by rw[F.o];rfl));go_wp2;go_ret;exact⟨Aa,rfl,zhd ⟨SN.o.1,H6.o.2.1.trans ((MK.ext ((znv w6.heap.size w6).drew)).trans (H8.o.2.trans ((MK.ext H9.o).trans (D.o.2.trans SN.o.2))))⟩⟩
theorem ygK
  {Z:Nat->Prop}(b:Nat)(v:MV)(p:Img)(s:MS)(W:World)(M:MX TT Z W b v p s)
  (k i:Nat)(x:Th)(nm:ByteArray)(hnm:p.names[k]? =some nm)(hlt:yap nm s.letters=none)(hx:s.top.kind=1)(hf:yav s.top.num s.timers.list=some i)(hxi:s.timers.list[i]? =some x)(hov:x.over=false):
  Calls Tryz.prog 156 #[.pointer (some ⟨b,0,none⟩),.agg #[.int .i64 28,k]] W (MP Z W b v p (.bool false) s):=by
 obtain⟨w0,D⟩:∃w0,w0=W.alloc (.cells #[.int .i64 28,k] 106):=⟨_,rfl⟩;have z:=zba D;have U:=zha D;have c0:=zca U 0 rfl;have c1:=zca U 1 rfl;have l0:=zlt U;have t:=M.ext z;have m:=zlt M.h;have b0:b<w0:=zlt t.h;have TP:=zhd (ybI b v p s w0 t);have u:=zh3 M z U;clear M t z U;go_in;go_wp2_with fail;rw[<-D];clear D;refine TP.o.mono ?_;rintro e w1 ⟨F,⟨ck,cn,cs,la,ln,lc⟩,rfl,L⟩;have J:=(L.o.2.1.keeps.block W l0 (fun e=>by have:=u.o.1.lt e;omega)).trans u.o.2.2;go_upto_region 12 with(fail);refine yaa ?_;intro w2 G;have V:=zba G;have I:=zha G;obtain⟨q0,q1,q2,q3,l2⟩:=zq4 I;have Af:=zhd I;have B:=zh3 V (L.o.1.ext V) (L.o.2.2.keep (S:=fun _=>False) (zkb V) (fun _ _ f=>f));clear I V G;have C:=(B.o.1.block W (zlt J)).trans J;have i0:=zca C 0 rfl;have i1:=zca C 1 rfl;have il:=zlt C;have q:b<w2:=zlt B.o.2.1.h;have A:∃a cap,F.ts= .slice a s.timers.list.length cap:=B.o.2.1.tms.slice;obtain⟨Y,X,A⟩:=A
 have K:w2.cell? ⟨b,12,none⟩=some (.slice Y s.timers.list.length X):=by rw[<-A];exact B.o.2.1.cell (k:=12) rfl
 have y:=zhd (fun r hr=>yaR b 12 cn s.timers.list Y X _ w2 K (A▸B.o.2.1.tms) q r hr);have K2:MK b v W F w2:=(MK.ext u.o.2.1).trans (L.o.2.1.trans (MK.ext B.o.1));have HK:=zh2 K2 C;clear J C K2 c0 c1 l0 m b0;obtain rfl:ck=1:=L.o.2.2.kind.trans hx;have R:cn=s.top.num:=L.o.2.2.n;rw[<-R]at hf;have y:=zhd (y.o (i:Int) (by unfold ybB;rw[hf]));have n8:decide ((i:Int)<0)=false:=znd (by omega);obtain⟨x0,j⟩:=Go.Proofs.YtpagmlndgblhhaaGreatDoor.findT_some hf;obtain⟨g,N,c,l,hg,hc,_,Q⟩:=(show XRow _ w2 193 (.slice Y s.timers.list.length X) s.timers.list from A▸B.o.2.1.tms).at_ hxi;have d:w2.cell? ⟨g,N+i*7+1,none⟩=some (.bool x.over):=by rw[<-hc.over];exact Q 1 _ rfl
 have Ad:(i:Int)<s.timers.list.length:=by have:=(zge hxi).1;omega
 subst l;rw[hov]at d;obtain⟨ng,Aa,P,_,_,Ab,nm0⟩:=B.o.2.1.img.name_at (znv _ _) hnm;have O:=B.o.2.1.img.lens.2.2;have c3:w2.cell? ⟨b,3,none⟩=some (.slice F.ic.na F.ic.nn F.ic.nc):=B.o.2.1.cell (k:=3) rfl;rw[P,O]at c3;have Ac:(k:Int)<(p.names.length:Int):=by have:=(zge hnm).1;omega
 have LT:=zhd (ybk b F p s w2.drew (B.o.2.1.ext (znv _ _).drew) nm (-1) (by unfold ltI;rw[hlt]));have gW:g<w2:=hg;clear P O hnm A hf hx j Q hc R hg;go_wp2_with fail;refine y.o.mono ?_;rintro e w3 ⟨rfl,hw⟩;rw[hw];clear hw w3;go_upto_region 16 with(fail)
 go_still_tail 10,(by kernel_rfl)
 go_wp2_with fail;refine LT.o.mono ?_;rintro e w3 ⟨rfl,T⟩;have E:Below w2 w2 w3:=znw ((znv w2.heap.size w2).drew) T;have m2:=(E.cell (p:=⟨g,N+i*7+1,none⟩) gW).trans d;have Ae:=(E.cell (p:=⟨b,12,none⟩) q).trans K;have b3:=znj q E.size;have g3:=znj gW E.size;have H:=(E.block W il).trans HK.o.2;have j0:=zca H 0 rfl;have jl:=zlt H;have M3:=B.o.2.1.ext E;have H3:=zh3 E M3 H;clear E T M3 nm0 c3 q0 q1 q2 q3 d K i0 i1;go_wp2;go_ret;exact⟨F,rfl,zhd ⟨H3.o.2.1,HK.o.1.trans (MK.ext H3.o.1)⟩⟩
theorem ygO
  {Z:Nat->Prop}(b:Nat)(v:MV)(p:Img)(s:MS)(W:World)(M:MX TT Z W b v p s)
  (k i:Nat)(x:Th)(hx:s.top.kind=1)(hf:yav s.top.num s.timers.list=some i)(hxi:s.timers.list[i]? =some x)(hov:x.over=true)(hk:s.stk.length<=4294967295)(htl:s.timers.list.length<=4294967296)(hat:s.at_<=4294967296)(hZ:∀j,W.heap.size<=j->Z j)(s':MS)
  (nm:ByteArray)(hnm:p.names[k]? =some nm)(hlt:yap nm s.letters=none)
  (hs':s'=((({s.pop with timers:=⟨s.timers.list.eraseIdx i,s.timers.next⟩}:MS).push yag).push (yaK false)).nxt):
  Calls Tryz.prog 156 #[.pointer (some ⟨b,0,none⟩),.agg #[.int .i64 28,k]] W (MP Z W b v p (.bool true) s'):=by
 have Aq:wrap64 ((s.at_:Int)+1)=(s.at_:Int)+1:=by unfold wrap64;omega
 have Am:=hk;have hk:s.stk.length<=4294967296:=by omega
 obtain⟨w0,F⟩:∃w0,w0=W.alloc (.cells #[.int .i64 28,k] 106):=⟨_,rfl⟩;have B0:=zba F;have hB:=zha F;have c0:=zca hB 0 rfl;have c1:=zca hB 1 rfl;have l0:=zlt hB;have M0:=M.ext B0;have Af:=zlt M.h;have b0:b<w0:=zlt M0.h;have TP:=zhd (ybI b v p s w0 M0);have HX:=zh3 M B0 hB;clear M M0 B0 hB;go_in;go_wp2_with fail;rw[<-F];clear F;refine TP.o.mono ?_;rintro e w1 ⟨G,⟨ck,cn,cs,la,ln,lc⟩,rfl,X⟩;have T:=(X.o.2.1.keeps.block W l0 (fun e=>by have:=HX.o.1.lt e;omega)).trans HX.o.2.2;go_upto_region 12 with(fail);refine yaa ?_;intro w2 K;have B2:=zba K;have R:=zha K;obtain⟨q0,q1,q2,q3,l2⟩:=zq4 R;have Au:=zhd R;have C:=zh3 B2 (X.o.1.ext B2) (X.o.2.2.keep (S:=fun _=>False) (zkb B2) (fun _ _ f=>f));clear R B2 K;have D:=(C.o.1.block W (zlt T)).trans T;have i0:=zca D 0 rfl;have i1:=zca D 1 rfl;have il:=zlt D;have b2:b<w2:=zlt C.o.2.1.h;have B:∃a cap,G.ts= .slice a s.timers.list.length cap:=C.o.2.1.tms.slice;obtain⟨ta,tc,B⟩:=B
 have V:w2.cell? ⟨b,12,none⟩=some (.slice ta s.timers.list.length tc):=by rw[<-B];exact C.o.2.1.cell (k:=12) rfl
 have FI:=zhd (fun r hr=>yaR b 12 cn s.timers.list ta tc _ w2 V (B▸C.o.2.1.tms) b2 r hr);have K2:MK b v W G w2:=(MK.ext HX.o.2.1).trans (X.o.2.1.trans (MK.ext C.o.1));have HK:=zh2 K2 D;clear T D K2 c0 c1 l0 Af b0;obtain rfl:ck=1:=X.o.2.2.kind.trans hx;have y:cn=s.top.num:=X.o.2.2.n;rw[<-y]at hf;have FI:=zhd (FI.o (i:Int) (by unfold ybB;rw[hf]));have n8:decide ((i:Int)<0)=false:=znd (by omega);obtain⟨x0,Ad⟩:=Go.Proofs.YtpagmlndgblhhaaGreatDoor.findT_some hf;obtain⟨g,l,c,Ae,hg,hc,_,u⟩:=(show XRow _ w2 193 (.slice ta s.timers.list.length tc) s.timers.list from B▸C.o.2.1.tms).at_ hxi;have m1:w2.cell? ⟨g,l+i*7+1,none⟩=some (.bool x.over):=by rw[<-hc.over];exact u 1 _ rfl
 have An:(i:Int)<s.timers.list.length:=by have:=(zge hxi).1;omega
 subst Ae;rw[hov]at m1;have H:=zhd hs';clear hs';obtain⟨ng,Ah,q,_,_,Ak,nm0⟩:=C.o.2.1.img.name_at (znv _ _) hnm;have m:=C.o.2.1.img.lens.2.2;have c3:w2.cell? ⟨b,3,none⟩=some (.slice G.ic.na G.ic.nn G.ic.nc):=C.o.2.1.cell (k:=3) rfl;rw[q,m]at c3;have Al:(k:Int)<(p.names.length:Int):=by have:=(zge hnm).1;omega
 have LT:=zhd (ybk b G p s w2.drew (C.o.2.1.ext (znv _ _).drew) nm (-1) (by unfold ltI;rw[hlt]));have gW:g<w2:=hg;clear q m hnm B hf hx Ad u hc y hg;go_wp2_with fail;refine FI.o.mono ?_;rintro e w3 ⟨rfl,hw⟩;rw[hw];clear hw w3;go_upto_region 16 with(fail)
 go_still_tail 10,(by kernel_rfl)
 go_wp2_with fail;refine LT.o.mono ?_;rintro e w3 ⟨rfl,Ab⟩;have I:Below w2 w2 w3:=znw ((znv w2.heap.size w2).drew) Ab;have m2:=(I.cell (p:=⟨g,l+i*7+1,none⟩) gW).trans m1;have Ao:=(I.cell (p:=⟨b,12,none⟩) b2).trans V;have b3:=znj b2 I.size;have g3:=znj gW I.size;have Q:=(I.block W il).trans HK.o.2;have j0:=zca Q 0 rfl;have jl:=zlt Q;have M3:=C.o.2.1.ext I;have Y:=zh3 I M3 Q;clear I Ab M3 nm0 c3 q0 q1 q2 q3 m1 V i0 i1;have PO:=zhd (yai b G p s w3 Y.o.2.1);go_wp2_with fail;refine PO.o.mono ?_;rintro e w4 ⟨v4,⟨dk,dn,ds,ma,mn,mc⟩,rfl,H4⟩;have U:¬MO G b W.heap.size:=fun e=>by
  rcases X.o.2.1.own _ e with h|h
  .have:=HX.o.1.lt h;omega
  .have h:w0<=W.heap.size:=h
   have:=zlt HX.o.2.2;omega
 have P:=(H4.o.2.1.keeps.block W (zlt Y.o.2.2) U).trans Y.o.2.2;have TK:=zhd (ycd b v4 p s.pop w4 H4.o.1 i x hxi htl {s.pop with timers:=⟨s.timers.list.eraseIdx i,s.timers.next⟩} rfl (yad hZ (znf HK.o.1.keeps.size (znf Y.o.1.size H4.o.2.1.keeps.size))));have t:s.pop.stk.length<=4294967296:=znf (Go.Proofs.YtpagmlndgblhhaaGreatDoor.pop_len s) hk;go_wp2_with fail;refine TK.o.mono ?_;rintro e w5 ⟨v5,⟨Aj,Ai,⟨zk,zn,zs,za,zl,zc⟩,Ag⟩,rfl,H5⟩;have z:¬MO v4 b W.heap.size:=fun e=>by
  rcases H4.o.2.1.own _ e with h|h
  .exact U h
  .have:=zlt Y.o.2.2;omega
 have O:=(H5.o.2.1.keeps.block W (zlt P) z).trans P;go_upto_region 27 with(fail);refine yaa ?_;intro w6 J;have B6:=zba J;have A:=zha J;have N:=(B6.block W (zlt O)).trans O;have u2:=zca A 2 rfl;have u3:=zca A 3 rfl;have u4:=zca A 4 rfl;have u5:=zca A 5 rfl;have u6:=zca A 6 rfl;have ul:=zlt A;have k0:=zca N 0 rfl;have kl:=zlt N;have M6:=H5.o.1.ext B6;have Ap:w6.cell? ⟨b,11,none⟩=some (.int .i64 s.now):=M6.cell (k:=11) rfl;have b6:=zlt M6.h;have K6:MK b v W v5 w6:=HK.o.1.trans ((MK.ext Y.o.1).trans (H4.o.2.1.trans (H5.o.2.1.trans (MK.ext B6))));have C6:=CF.step (MK.ext B6) H5.o.2.2.v;have H6:=zh5 M6 K6 C6 H5.o.2.2.how A;clear P O N A J B6 M6 K6 C6 U z;have L:(({s.pop with timers:=⟨s.timers.list.eraseIdx i,s.timers.next⟩}:MS).push yag).stk.length<=4294967296:=by
  show(s.pop.stk++[yag]).length<=_;rw[znk,zmh];have:=Go.Proofs.YtpagmlndgblhhaaGreatDoor.pop_len s;omega
 have PU:=zhd (yaj b v5 p _ w6 H6.o.1 yag 0 0 ⟨#[]⟩ none 0 0 (yaH _ _) t);go_wp2_with fail;refine PU.o.mono ?_;rintro e w8 ⟨v8,rfl,H8⟩;go_upto_region 29 with(fail);go_region_law (first
  |(go_simp;go_at_call 63;refine(ybq false _).mono ?_;rintro e w9 ⟨rfl,Aa⟩;have H9:=zhd (znw ((znv w8.heap.size w8).drew) Aa);clear Aa)
  |(go_simp;go_at_call 119;refine(yaj b v8 p _ w9 (H8.o.1.ext H9.o) (yaK false) 1 _ ⟨#[]⟩ none 0 0 (ybf _ _ _) L).mono ?_;rintro e d ⟨Ac,rfl,E⟩))
 all_goals
  have At:d.cell? ⟨b,6,none⟩=some (.int .i64 (s.at_:Int)):=E.o.1.cell (k:=6) rfl;have Ar:∀o,d.frozen? ⟨b,o,none⟩=false:=fun o=>E.o.1.frozen o;have As:=zlt E.o.1.h;have SN:=zhd (E.o.1.scalar 6 (.int .i64 ((s.at_:Int)+1)) s' (by rw[H.o];rfl) (by rw[H.o];rfl) (by rw[H.o];rfl) (by rw[H.o];rfl) (by rw[H.o];rfl) (by rw[H.o];rfl) (by rw[H.o];rfl) (by rw[H.o];rfl));go_wp2;go_ret;exact⟨Ac,rfl,zhd ⟨SN.o.1,H6.o.2.1.trans (H8.o.2.trans ((MK.ext H9.o).trans (E.o.2.trans SN.o.2)))⟩⟩
theorem ygN
  {Z:Nat->Prop}(b:Nat)(v:MV)(p:Img)(s:MS)(W:World)(M:MX TT Z W b v p s)
  (k i j:Nat)(x:Th)(nm:ByteArray)(hnm:p.names[k]? =some nm)(hlt:yap nm s.letters=some j)(hx:s.top.kind=1)(hf:yav s.top.num s.timers.list=some i)(hxi:s.timers.list[i]? =some x)(hk:s.stk.length<=4294967295)(hll:s.letters.length<=4294967296)(hat:s.at_<=4294967296)(hZ:∀j,W.heap.size<=j->Z j)(s':MS)
  (hs':s'=(((s.pop.openL j).push (s.letV j)).push (yaK true)).nxt):
  Calls Tryz.prog 156 #[.pointer (some ⟨b,0,none⟩),.agg #[.int .i64 28,k]] W (MP Z W b v p (.bool true) s'):=by
 have Aj:wrap64 ((s.at_:Int)+1)=(s.at_:Int)+1:=by unfold wrap64;omega
 obtain⟨ov,Ac⟩:∃ov,x.over=ov:=⟨_,rfl⟩;obtain⟨lt,U⟩:=findLt_some hlt;obtain⟨w0,E⟩:∃w0,w0=W.alloc (.cells #[.int .i64 28,k] 106):=⟨_,rfl⟩;have B0:=zba E;have t:=zha E;have c0:=zca t 0 rfl;have c1:=zca t 1 rfl;have l0:=zlt t;have M0:=M.ext B0;have Ad:=zlt M.h;have b0:b<w0:=zlt M0.h;have TP:=zhd (ybI b v p s w0 M0);have HX:=zh3 M B0 t;clear M M0 B0 t;go_in;go_wp2_with fail;rw[<-E];clear E;refine TP.o.mono ?_;rintro e w1 ⟨I,⟨ck,cn,cs,la,ln,lc⟩,rfl,Q⟩;have O:=(Q.o.2.1.keeps.block W l0 (fun e=>by have:=HX.o.1.lt e;omega)).trans HX.o.2.2;go_upto_region 12 with(fail);refine yaa ?_;intro w2 J;have u:=zba J;have N:=zha J;obtain⟨q0,q1,q2,q3,l2⟩:=zq4 N;have An:=zhd N;have B:=zh3 u (Q.o.1.ext u) (Q.o.2.2.keep (S:=fun _=>False) (zkb u) (fun _ _ f=>f));clear N u J;have C:=(B.o.1.block W (zlt O)).trans O;have i0:=zca C 0 rfl;have i1:=zca C 1 rfl;have il:=zlt C;have b2:b<w2:=zlt B.o.2.1.h;have A:∃a cap,I.ts= .slice a s.timers.list.length cap:=B.o.2.1.tms.slice
 obtain⟨ta,tc,A⟩:=A;have P:w2.cell? ⟨b,12,none⟩=some (.slice ta s.timers.list.length tc):=by rw[<-A];exact B.o.2.1.cell (k:=12) rfl
 have FI:=zhd (fun r hr=>yaR b 12 cn s.timers.list ta tc _ w2 P (A▸B.o.2.1.tms) b2 r hr);have K2:MK b v W I w2:=(MK.ext HX.o.2.1).trans (Q.o.2.1.trans (MK.ext B.o.1));have HK:=zh2 K2 C;clear O C K2 c0 c1 l0 Ad b0;obtain rfl:ck=1:=Q.o.2.2.kind.trans hx;have l:cn=s.top.num:=Q.o.2.2.n;rw[<-l]at hf;have FI:=zhd (FI.o (i:Int) (by unfold ybB;rw[hf]));have n8:decide ((i:Int)<0)=false:=znd (by omega);obtain⟨x0,Aa⟩:=Go.Proofs.YtpagmlndgblhhaaGreatDoor.findT_some hf;obtain⟨g,T,c,Ab,hg,hc,_,d⟩:=(show XRow _ w2 193 (.slice ta s.timers.list.length tc) s.timers.list from A▸B.o.2.1.tms).at_ hxi;have m1:w2.cell? ⟨g,T+i*7+1,none⟩=some (.bool x.over):=by rw[<-hc.over];exact d 1 _ rfl
 have Ai:(i:Int)<s.timers.list.length:=by have:=(zge hxi).1;omega
 subst Ab;rw[Ac]at m1;have G:=zhd hs';have F:=zh3 U hk hll;clear hs' U hk hll;obtain⟨ng,Af,X,_,_,Ag,nm0⟩:=B.o.2.1.img.name_at (znv _ _) hnm;have V:=B.o.2.1.img.lens.2.2;have c3:w2.cell? ⟨b,3,none⟩=some (.slice I.ic.na I.ic.nn I.ic.nc):=B.o.2.1.cell (k:=3) rfl;rw[X,V]at c3;have Ah:(k:Int)<(p.names.length:Int):=by have:=(zge hnm).1;omega
 have LT:=zhd (ybk b I p s w2.drew (B.o.2.1.ext (znv _ _).drew) nm (j:Int) (by unfold ltI;rw[hlt]));have gW:g<w2:=hg;clear X V hnm A hf hx Aa d hc l hg;go_wp2_with fail;refine FI.o.mono ?_;rintro e w3 ⟨rfl,hw⟩;rw[hw];clear hw w3;go_upto_region 16 with(fail)
 go_still_tail 10,(by kernel_rfl)
 go_wp2_with fail;refine LT.o.mono ?_;rintro e w3 ⟨rfl,q⟩;have H:Below w2 w2 w3:=znw ((znv w2.heap.size w2).drew) q;have m2:=(H.cell (p:=⟨g,T+i*7+1,none⟩) gW).trans m1;have Ae:=(H.cell (p:=⟨b,12,none⟩) b2).trans P;have b3:=znj b2 H.size;have g3:=znj gW H.size;have L:=(H.block W il).trans HK.o.2;have j0:=zca L 0 rfl;have jl:=zlt L;have M3:=B.o.2.1.ext H;have H3:=zh3 H M3 L;clear H q M3 nm0 c3 q0 q1 q2 q3 m1 P i0 i1;have PO:=zhd (yai b I p s w3 H3.o.2.1);have n9:decide ((0:Int)<=(j:Int))=true:=zno (by omega);have Y:s.pop.stk.length<=4294967296:=znf (Go.Proofs.YtpagmlndgblhhaaGreatDoor.pop_len s) (by have:=F.o.2.1;omega);have K:((s.pop.openL j).push (s.letV j)).stk.length<=4294967296:=by
  show(s.pop.stk++[s.letV j]).length<=_;rw[znk,zmh];have:=Go.Proofs.YtpagmlndgblhhaaGreatDoor.pop_len s;have:=F.o.2.1;omega
 go_wp2_with fail;refine PO.o.mono ?_;rintro e y ⟨v4,⟨dk,dn,ds,ma,mn,mc⟩,rfl,H4⟩;have OP:=zhd (yfq b v4 p s.pop y.drew (H4.o.1.ext (znv _ _).drew) j lt F.o.1 F.o.2.2 (yad hZ (znf HK.o.1.keeps.size (znf H3.o.1.size H4.o.2.1.keeps.size))));clear m2 Ae g3 j0 jl b3;go_upto_region 19 with(fail);go_region_law (first
  |(go_simp;go_at_call 162;refine OP.o.mono ?_;rintro e w5 ⟨v5,⟨ek,en,es,ea,el,ec⟩,rfl,H5⟩)
  |(go_simp;go_at_call 119;refine(yaj b v5 p (s.pop.openL j) w5 H5.o.1 (s.letV j) ek en es ea el ec H5.o.2.2 Y).mono ?_;rintro e w6 ⟨v6,rfl,H6⟩))
 all_goals
  go_upto_region 20 with(fail);go_region_law (first
   |(go_simp;go_at_call 63;refine(ybq true _).mono ?_;rintro e w9 ⟨rfl,m⟩;have H9:=zhd (znw ((znv w6.heap.size w6).drew) m);clear m)
   |(go_simp;go_at_call 119;refine(yaj b v6 p _ w9 (H6.o.1.ext H9.o) (yaK true) 1 _ ⟨#[]⟩ none 0 0 (ybf _ _ _) K).mono ?_;rintro e R ⟨z,rfl,D⟩))
  all_goals
   have Am:R.cell? ⟨b,6,none⟩=some (.int .i64 (s.at_:Int)):=D.o.1.cell (k:=6) rfl;have Ak:∀o,R.frozen? ⟨b,o,none⟩=false:=fun o=>D.o.1.frozen o;have Al:=zlt D.o.1.h;have SN:=zhd (D.o.1.scalar 6 (.int .i64 ((s.at_:Int)+1)) s' (by rw[G.o];rfl) (by rw[G.o];rfl) (by rw[G.o];rfl) (by rw[G.o];rfl) (by rw[G.o];rfl) (by rw[G.o];rfl) (by rw[G.o];rfl) (by rw[G.o];rfl));go_wp2;go_ret;exact⟨z,rfl,zhd ⟨SN.o.1,HK.o.1.trans ((MK.ext H3.o.1).trans (H4.o.2.1.trans ((MK.ext ((znv y.heap.size y).drew)).trans (H5.o.2.1.trans (H6.o.2.trans ((MK.ext H9.o).trans (D.o.2.trans SN.o.2)))))))⟩⟩
end Go.Proofs.YtpagmlndgblhhaaGreatDoor
