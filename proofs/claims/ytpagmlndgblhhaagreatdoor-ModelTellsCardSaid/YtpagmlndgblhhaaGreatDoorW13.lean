/- Parts of the proof: what the functions and the plain laws give that later parts lean on. Conditions: none beyond those that each theorem names. -/
import Derived.StillTailTactics
import Derived.Test.YtpagmlndgblhhaaGreatDoorW12
set_option maxRecDepth 100000
set_option maxHeartbeats 8000000
namespace Go.Proofs.YtpagmlndgblhhaaGreatDoor
open Go.RowKit Go.Own Go.Own.MapTy Go.Va Go.Sort
open Go.Own.Cells (sz enc)
theorem findT_some {id:Int}:∀{l:List Th} {i:Nat},yax id l=some i->∃x,l[i]? =some x
 |[],i,h=>by cases h
 |y::r,i,h=>by
  rw[yax]at h;split at h
  .cases h;exact⟨y,rfl⟩
  .cases h2:yax id r with
   |none=>rw[h2]at h;cases h
   |some j=>rw[h2]at h;cases h;obtain⟨x,hx⟩:=findT_some h2;exact⟨x,by simpa using hx⟩
theorem yfm
  {Z:Nat->Prop}(b:Nat)(v:MV)(p:Img)(s:MS)(W:World)(M:MX TT Z W b v p s)
  (k:Int)(hk:s.stk.length<=4294967296)(hl:s.made.length<=4294967296)(hZ:∀j,W.heap.size<=j->Z j)(s':MS)
  (hx:¬s.top.kind=1\/yax s.top.num s.timers.list=none)(hs':s'=s.pop.tGone):
  Calls Tryz.prog 163 #[.pointer (some ⟨b,0,none⟩),.agg #[.int .i64 19,k]] W (MP Z W b v p (.bool true) s')
  :=by
 obtain⟨T,F⟩:∃T,T=W.alloc (.cells #[.int .i64 19,k] 106):=⟨_,rfl⟩;have i:=zba F;have u:=zha F;have PO:=zhd (yaj b v p s T (M.ext i));have A:=zh7 M i u hs' hk hl hZ;clear M i u hs' hk hl hZ;go_in;go_wp2_with fail;rw[<-F];clear F;refine PO.o.mono ?_;rintro e z ⟨V,⟨Q,Y,cs,la,ln,lc⟩,rfl,G⟩;have D:=(G.o.2.1.keeps.block W (zlt A.o.2.2.1) (fun e=>by have:=A.o.1.lt e;omega)).trans A.o.2.2.1;have d0:=zca D 0 rfl;have d1:=zca D 1 rfl;have x:=zlt D;have HB:=zhd D;clear D;go_upto_region 6 with(fail);refine yab ?_;intro w2 H;have R:=zba H;have I:=zha H;obtain⟨q0,q1,q2,q3,q⟩:=zq4 I;have Ab:=zhd I;have B:=zh3 R (G.o.1.ext R) (G.o.2.2.keep (S:=fun _=>False) (zkb R) (fun _ _ f=>f));clear I R H;have b2:b<w2:=zlt B.o.2.1.h;have C:∃a cap,V.ts= .slice a s.timers.list.length cap:=B.o.2.1.tms.slice;obtain⟨m,l,C⟩:=C;have O:w2.cell? ⟨b,12,none⟩=some (.slice m s.timers.list.length l):=by rw[<-C];exact B.o.2.1.cell (k:=12) rfl
 have g:=zhd (fun r J=>yaR b 12 Y s.timers.list m l _ w2.drew O (C▸(B.o.2.1.ext (znv _ _).drew).tms) b2 r J);have Aa:=(B.o.1.block W x).trans HB.o;clear O C d0 d1 x;have L:Q=s.top.kind:=G.o.2.2.kind;have N:Y=s.top.num:=G.o.2.2.n;rw[<-L,<-N]at hx;clear L N;obtain⟨r,J⟩:∃r,ybL Y s.timers.list=r:=⟨_,rfl⟩;have g:=zhd (g.o r J);go_region_law ((go_simp;go_at_call 138;refine g.o.mono ?_;rintro e w3 ⟨rfl,hw⟩;subst hw))
 all_goals
  go_upto_region 7 with(fail);refine yab ?_;intro w3 K;have E:Below w2 w2 w3:=by rw[K];exact(znv _ _).drew
  have u0:=(E.cell (p:=⟨z,0,none⟩) q).trans q0;have l3:=znj q E.size;clear K;by_cases h1:Q=1
  .subst h1
   have t:=hx.resolve_left (fun h=>h rfl);have X:r= -1:=by rw[<-J];unfold ybL;rw[t]
   subst X;clear t J hx;have d:=zhd (yav b V p s.pop w3 (B.o.2.1.ext E) ⟨#[103,111,110,101]⟩ (by decide) A.o.2.2.2.2.2.1 (yad A.o.2.2.2.2.2.2 (znf A.o.2.1.size (znf G.o.2.1.keeps.size (znf B.o.1.size E.size)))) s' (A.o.2.2.2.1.symm));have c:=zhd E;clear E;go_wp2_with fail;refine d.o.mono ?_;rintro e y ⟨U,rfl,P⟩;go_wp2;go_ret;exact⟨U,rfl,zhd ⟨P.o.1,(MK.ext A.o.2.1).trans (G.o.2.1.trans ((MK.ext (B.o.1.trans (c.o.mono B.o.1.size))).trans P.o.2))⟩⟩
  .have n1:(Q==1)=false:=by rw[zna];exact h1
   have n2:(Q !=1)=true:=by rw[bne,n1];rfl
   clear hx h1 J;have d:=zhd (yav b V p s.pop w3 (B.o.2.1.ext E) ⟨#[103,111,110,101]⟩ (by decide) A.o.2.2.2.2.2.1 (yad A.o.2.2.2.2.2.2 (znf A.o.2.1.size (znf G.o.2.1.keeps.size (znf B.o.1.size E.size)))) s' (A.o.2.2.2.1.symm));have c:=zhd E;clear E;go_wp2_with fail;refine d.o.mono ?_;rintro e y ⟨U,rfl,P⟩;go_wp2;go_ret;exact⟨U,rfl,zhd ⟨P.o.1,(MK.ext A.o.2.1).trans (G.o.2.1.trans ((MK.ext (B.o.1.trans (c.o.mono B.o.1.size))).trans P.o.2))⟩⟩
theorem ydq
  {Z:Nat->Prop}(b:Nat)(v:MV)(p:Img)(s:MS)(W:World)(M:MX TT Z W b v p s)
  (k:Int)(hk:s.stk.length<=4294967296)(hl:s.made.length<=4294967296)(hZ:∀j,W.heap.size<=j->Z j)(s':MS)
  (i:Nat)(x:Th)(hx:s.top.kind=1)(hf:yax s.top.num s.timers.list=some i)(hxi:s.timers.list[i]? =some x)(hov:x.over=true)(htl:s.timers.list.length<=4294967296)
  (hs':s'=({s.pop with timers:=⟨s.timers.list.eraseIdx i,s.timers.next⟩}:MS).push (yaE false)):
  Calls Tryz.prog 163 #[.pointer (some ⟨b,0,none⟩),.agg #[.int .i64 19,k]] W (MP Z W b v p (.bool true) s')
  :=by
 obtain⟨d,F⟩:∃d,d=W.alloc (.cells #[.int .i64 19,k] 106):=⟨_,rfl⟩;have z:=zba F;have hB:=zha F;have PO:=zhd (yaj b v p s d (M.ext z));have C:=zh7 M z hB hs' hk hl hZ;clear M z hB hs' hk hl hZ;go_in;go_wp2_with fail;rw[<-F];clear F;refine PO.o.mono ?_;rintro e N ⟨v1,⟨ck,cn,cs,la,ln,lc⟩,rfl,D⟩;have B:=(D.o.2.1.keeps.block W (zlt C.o.2.2.1) (fun e=>by have:=C.o.1.lt e;omega)).trans C.o.2.2.1;have d0:=zca B 0 rfl;have d1:=zca B 1 rfl;have dl:=zlt B;have HB:=zhd B;clear B;have R:s.pop.stk.length<=4294967296:=znf (Go.Proofs.YtpagmlndgblhhaaGreatDoor.pop_len s) C.o.2.2.2.2.1;go_upto_region 6 with(fail);refine yab ?_;intro w2 J;have c:=zba J;have L:=zha J;obtain⟨q0,q1,q2,q3,P⟩:=zq4 L;have t:=zhd L;have H:=zh3 c (D.o.1.ext c) (D.o.2.2.keep (S:=fun _=>False) (zkb c) (fun _ _ f=>f));clear L c J;have b2:b<w2:=zlt H.o.2.1.h;have A:∃a cap,v1.ts= .slice a s.timers.list.length cap:=H.o.2.1.tms.slice;obtain⟨ta,tc,A⟩:=A
 have V:w2.cell? ⟨b,12,none⟩=some (.slice ta s.timers.list.length tc):=by rw[<-A];exact H.o.2.1.cell (k:=12) rfl
 have y:=zhd (fun r hr=>yaR b 12 cn s.timers.list ta tc _ w2.drew V (A▸(H.o.2.1.ext (znv _ _).drew).tms) b2 r hr);have m:=(H.o.1.block W dl).trans HB.o;clear V A d0 d1 dl;obtain rfl:ck=1:=D.o.2.2.kind.trans hx;have K:cn=s.top.num:=D.o.2.2.n;rw[<-K]at hf;have y:=zhd (y.o (i:Int) (by unfold ybL;rw[hf]));have q:=zh4 hxi hov htl K;clear hx hf hxi hov htl K;go_region_law ((go_simp;go_at_call 138;refine y.o.mono ?_;rintro e w3 ⟨rfl,hw⟩;subst hw))
 all_goals
  go_upto_region 7 with(fail);refine yab ?_;intro w3 Q;have I:Below w2 w2 w3:=by rw[Q];exact(znv _ _).drew
  have u0:=(I.cell (p:=⟨N,0,none⟩) P).trans q0;have u1:=(I.cell (p:=⟨N,1,none⟩) P).trans q1;have T:=(I.block N P).trans t.o;have l3:=znj P I.size;have n8:decide ((i:Int)<0)=false:=znd (by omega);have TK:=zhd (ycd b v1 p s.pop w3 (H.o.2.1.ext I) i x q.o.1 q.o.2.2.1 {s.pop with timers:=⟨s.pop.timers.list.eraseIdx i,s.pop.timers.next⟩} rfl (yad C.o.2.2.2.2.2.2 (znf C.o.2.1.size (znf D.o.2.1.keeps.size (znf H.o.1.size I.size)))));have H3:=zh2 I T;clear Q I T q0 q1 q2 q3 P m;go_wp2_with fail;refine TK.o.mono ?_;rintro e w4 ⟨v4,⟨Ab,g,⟨zk,zn,zs,za,zl,zc⟩,Aa⟩,rfl,X⟩;have G:=(X.o.2.1.keeps.block N l3 (fun e=>by
   rcases D.o.2.1.own _ e with h|h
   .have:=C.o.1.lt h;have:=D.o.2.1.keeps.size;have:=C.o.2.1.size;omega
   .have:=D.o.1.lt e;omega)).trans H3.o.2
  have y1:=zca G 1 rfl;have l:=zlt G;obtain rfl:g=true:=X.o.2.2.over.trans q.o.2.1;have K4:MK b v W v4 w4:=(MK.ext C.o.2.1).trans (D.o.2.1.trans ((MK.ext (H.o.1.trans (H3.o.1.mono H.o.1.size))).trans X.o.2.1));have HK:=zh2 K4 G;have hE:=zhd C.o.2.2.2.1;clear K4 G u0 u1 n8 l3;go_upto_region 10 with(fail);refine yab ?_;intro O E;have Y:=zba E;have z1:O.cell? ⟨w4,1,none⟩=some (.bool true):=by rw[E,zch (znb _ _)];rfl
  have z2:=(Y.cell (p:=⟨N,1,none⟩) l).trans y1;have l5:w4<O.heap.size:=by rw[E];simp
  have l6:N<O.heap.size:=Nat.lt_trans l l5;have M5:=X.o.1.ext Y;have u:=zh2 Y M5;clear E Y M5 y1 l;go_upto_region 12 with(fail);go_region_law (first
   |(go_simp;go_at_call 63;refine(ybw false _).mono ?_;rintro e w6 ⟨rfl,U⟩;have H6:=zhd (znw ((znv O.heap.size O).drew) U);clear U)
   |(go_simp;go_at_call 119;refine(yak b v4 p _ w6 (u.o.2.ext H6.o) (yaE false) 1 _ ⟨#[]⟩ none 0 0 (ybj _ _ _) R).mono ?_;rintro e w7 ⟨v7,rfl,H7⟩))
  all_goals
   go_wp2;go_ret;exact⟨v7,rfl,zhd ⟨by rw[hE.o];exact H7.o.1,HK.o.1.trans ((MK.ext (u.o.1.trans (H6.o.mono u.o.1.size))).trans H7.o.2)⟩⟩
theorem ygN
  {Z:Nat->Prop}(b:Nat)(v:MV)(p:Img)(s:MS)(W:World)(M:MX TT Z W b v p s)
  (k:Int)(hk:s.stk.length<=4294967296)(hl:s.made.length<=4294967296)(hZ:∀j,W.heap.size<=j->Z j)(s':MS)
  (i:Nat)(x:Th)(hx:s.top.kind=1)(hf:yax s.top.num s.timers.list=some i)(hxi:s.timers.list[i]? =some x)(hov:x.over=false)(htl:s.timers.list.length<=4294967296)
  (hs':s'=(({s.pop with timers:=⟨s.timers.list.eraseIdx i,s.timers.next⟩}:MS).want ⟨2,0,s.top.num,0,⟨#[]⟩,yag⟩).push (yaE true)):
  Calls Tryz.prog 163 #[.pointer (some ⟨b,0,none⟩),.agg #[.int .i64 19,k]] W (MP Z W b v p (.bool true) s')
  :=by
 obtain⟨m,F⟩:∃m,m=W.alloc (.cells #[.int .i64 19,k] 106):=⟨_,rfl⟩;have B0:=zba F;have hB:=zha F;have PO:=zhd (yaj b v p s m (M.ext B0));have A:=zh7 M B0 hB hs' hk hl hZ;clear M B0 hB hs' hk hl hZ;go_in;go_wp2_with fail;rw[<-F];clear F;refine PO.o.mono ?_;rintro e N ⟨v1,⟨ck,z,cs,la,ln,lc⟩,rfl,D⟩;have C:=(D.o.2.1.keeps.block W (zlt A.o.2.2.1) (fun e=>by have:=A.o.1.lt e;omega)).trans A.o.2.2.1;have d0:=zca C 0 rfl;have d1:=zca C 1 rfl;have dl:=zlt C;have HB:=zhd C;clear C;have Q:s.pop.stk.length<=4294967296:=znf (Go.Proofs.YtpagmlndgblhhaaGreatDoor.pop_len s) A.o.2.2.2.2.1;go_upto_region 6 with(fail);refine yab ?_;intro w2 J;have l:=zba J;have L:=zha J;obtain⟨q0,q1,q2,q3,O⟩:=zq4 L;have Aa:=zhd L;have H:=zh3 l (D.o.1.ext l) (D.o.2.2.keep (S:=fun _=>False) (zkb l) (fun _ _ f=>f));clear L l J;have b2:b<w2:=zlt H.o.2.1.h;have B:∃a cap,v1.ts= .slice a s.timers.list.length cap:=H.o.2.1.tms.slice;obtain⟨ta,tc,B⟩:=B
 have U:w2.cell? ⟨b,12,none⟩=some (.slice ta s.timers.list.length tc):=by rw[<-B];exact H.o.2.1.cell (k:=12) rfl
 have FI:=zhd (fun r hr=>yaR b 12 z s.timers.list ta tc _ w2.drew U (B▸(H.o.2.1.ext (znv _ _).drew).tms) b2 r hr);have y:=(H.o.1.block W dl).trans HB.o;clear U B d0 d1 dl;obtain rfl:ck=1:=D.o.2.2.kind.trans hx;have K:z=s.top.num:=D.o.2.2.n;rw[<-K]at hf;have FI:=zhd (FI.o (i:Int) (by unfold ybL;rw[hf]));have c:=zh4 hxi hov htl K;clear hx hf hxi hov htl K;go_region_law ((go_simp;go_at_call 138;refine FI.o.mono ?_;rintro e w3 ⟨rfl,hw⟩;subst hw))
 all_goals
  go_upto_region 7 with(fail);refine yab ?_;intro w3 P;have I:Below w2 w2 w3:=by rw[P];exact(znv _ _).drew
  have u0:=(I.cell (p:=⟨N,0,none⟩) O).trans q0;have u1:=(I.cell (p:=⟨N,1,none⟩) O).trans q1;have R:=(I.block N O).trans Aa.o;have l3:=znj O I.size;have n8:decide ((i:Int)<0)=false:=znd (by omega);have TK:=zhd (ycd b v1 p s.pop w3 (H.o.2.1.ext I) i x c.o.1 c.o.2.2.1 {s.pop with timers:=⟨s.pop.timers.list.eraseIdx i,s.pop.timers.next⟩} rfl (yad A.o.2.2.2.2.2.2 (znf A.o.2.1.size (znf D.o.2.1.keeps.size (znf H.o.1.size I.size)))));have H3:=zh2 I R;clear P I R q0 q1 q2 q3 O y;go_wp2_with fail;refine TK.o.mono ?_;rintro e w4 ⟨v4,⟨Ac,q,⟨zk,zn,zs,za,zl,zc⟩,Ab⟩,rfl,V⟩;have G:=(V.o.2.1.keeps.block N l3 (fun e=>by
   rcases D.o.2.1.own _ e with h|h
   .have:=A.o.1.lt h;have:=D.o.2.1.keeps.size;have:=A.o.2.1.size;omega
   .have:=D.o.1.lt e;omega)).trans H3.o.2
  have y1:=zca G 1 rfl;have u:=zlt G;obtain rfl:q=false:=V.o.2.2.over.trans c.o.2.1;have K4:MK b v W v4 w4:=(MK.ext A.o.2.1).trans (D.o.2.1.trans ((MK.ext (H.o.1.trans (H3.o.1.mono H.o.1.size))).trans V.o.2.1));have HK:=zh2 K4 G;have hE:=zhd A.o.2.2.2.1;clear K4 G u0 u1 n8 l3;go_upto_region 10 with(fail);refine yab ?_;intro Y E;have g:=zba E;have z1:Y.cell? ⟨w4,1,none⟩=some (.bool false):=by rw[E,zch (znb _ _)];rfl
  have z2:=(g.cell (p:=⟨N,1,none⟩) u).trans y1;have t:w4<Y.heap.size:=by rw[E];simp
  have l6:N<Y.heap.size:=Nat.lt_trans u t;have M5:=V.o.1.ext g;have H5:=zh2 g M5;clear E g M5 y1 u;have WA:=zhd (ycb b v4 p _ Y H5.o.2 2 0 z 0 ⟨#[]⟩ yag 0 0 ⟨#[]⟩ none 0 0 (fun _=>True) (yaI _ _) ydU A.o.2.2.2.2.2.1 (yad A.o.2.2.2.2.2.2 (znf HK.o.1.keeps.size H5.o.1.size)) _ rfl);go_wp2_with fail;refine WA.o.mono ?_;rintro e X ⟨v6,rfl,d⟩;have Ad:X.cell? ⟨w4,1,none⟩=some (.bool false):=(d.o.2.keeps.cell (p:=⟨w4,1,none⟩) t (fun e=>by have:=V.o.1.lt e;exact Nat.lt_irrefl _ this)).trans z1;have l7:w4<X.heap.size:=znj t d.o.2.keeps.size;go_upto_region 12 with(fail);go_region_law (first
   |(go_simp;go_at_call 63;refine(ybw true _).mono ?_;rintro e w8 ⟨rfl,T⟩;have H8:=zhd (znw ((znv X.heap.size X).drew) T);clear T)
   |(go_simp;go_at_call 119;refine(yak b v6 p _ w8 (d.o.1.ext H8.o) (yaE true) 1 _ ⟨#[]⟩ none 0 0 (ybj _ _ _) (by unfold MS.want;exact Q)).mono ?_;rintro e w9 ⟨v9,rfl,H9⟩))
  all_goals
   go_wp2;go_ret;exact⟨v9,rfl,zhd ⟨by rw[hE.o,<-c.o.2.2.2];exact H9.o.1,HK.o.1.trans ((MK.ext H5.o.1).trans (d.o.2.trans ((MK.ext H8.o).trans H9.o.2)))⟩⟩
theorem yfU
  {Z:Nat->Prop}(b:Nat)(v:MV)(p:Img)(s:MS)(W:World)(M:MX TT Z W b v p s)
  (k:Int)(hk:s.stk.length<=4294967296)(hl:s.made.length<=4294967296)(hZ:∀j,W.heap.size<=j->Z j)(s':MS)
  (hx:¬s.top.kind=1\/s.top.num<0)(hs':s'=s.pop.tRange):
  Calls Tryz.prog 163 #[.pointer (some ⟨b,0,none⟩),.agg #[.int .i64 17,k]] W (MP Z W b v p (.bool true) s')
  :=by
 obtain⟨P,C⟩:∃P,P=W.alloc (.cells #[.int .i64 17,k] 106):=⟨_,rfl⟩;have T:=zba C;have X:=zha C;have i:=zhd (yaj b v p s P (M.ext T));have A:=zh7 M T X hs' hk hl hZ;clear M T X hs' hk hl hZ;go_in;go_wp2_with fail;rw[<-C];clear C;refine i.o.mono ?_;rintro e q ⟨U,⟨N,L,cs,la,y,z⟩,rfl,D⟩;have B:=(D.o.2.1.keeps.block W (zlt A.o.2.2.1) (fun e=>by have:=A.o.1.lt e;omega)).trans A.o.2.2.1;have g:=zca B 0 rfl;have d:=zca B 1 rfl;have c:=zlt B;have HB:=zhd B;clear B;go_upto_region 3 with(fail);refine yab ?_;intro G E;have O:=zba E;have F:=zha E;obtain⟨x,u,t,r,l2⟩:=zq4 F;have l:=zhd F;have H:=zh3 O (D.o.1.ext O) (D.o.2.2.keep (S:=fun _=>False) (zkb O) (fun _ _ f=>f));clear F O E;have I:N=s.top.kind:=D.o.2.2.kind;have J:L=s.top.num:=D.o.2.2.n;rw[<-I,<-J]at hx;clear I J g d c;by_cases h1:N=1
 .subst h1
  by_cases h2:L<0
  .have V:decide (L<0)=true:=zno h2
   clear hx h2;have m:=zhd (znv G.heap.size G);have R:=zhd (yav b U p s.pop G H.o.2.1 ⟨#[114,97,110,103,101]⟩ (by decide) A.o.2.2.2.2.2.1 (yad A.o.2.2.2.2.2.2 (znf A.o.2.1.size (znf D.o.2.1.keeps.size H.o.1.size))) s' (A.o.2.2.2.1.symm));go_wp2_with fail;refine R.o.mono ?_;rintro e Y ⟨Q,rfl,K⟩;go_wp2;go_ret;exact⟨Q,rfl,zhd ⟨K.o.1,(MK.ext A.o.2.1).trans (D.o.2.1.trans ((MK.ext H.o.1).trans K.o.2))⟩⟩
  .have V:decide (L<0)=false:=znd h2
   exact absurd (hx.resolve_left (fun h=>h rfl)) h2
 .have a:(N==1)=false:=by rw[zna];exact h1
  have V:(N !=1)=true:=by rw[bne,a];rfl
  clear hx h1;have m:=zhd (znv G.heap.size G);have R:=zhd (yav b U p s.pop G H.o.2.1 ⟨#[114,97,110,103,101]⟩ (by decide) A.o.2.2.2.2.2.1 (yad A.o.2.2.2.2.2.2 (znf A.o.2.1.size (znf D.o.2.1.keeps.size H.o.1.size))) s' (A.o.2.2.2.1.symm));go_wp2_with fail;refine R.o.mono ?_;rintro e Y ⟨Q,rfl,K⟩;go_wp2;go_ret;exact⟨Q,rfl,zhd ⟨K.o.1,(MK.ext A.o.2.1).trans (D.o.2.1.trans ((MK.ext H.o.1).trans K.o.2))⟩⟩
theorem yfT
  {Z:Nat->Prop}(b:Nat)(v:MV)(p:Img)(s:MS)(W:World)(M:MX TT Z W b v p s)
  (k:Int)(hk:s.stk.length<=4294967296)(hl:s.made.length<=4294967296)(hZ:∀j,W.heap.size<=j->Z j)(s':MS)
  (hx:¬s.top.kind=1\/s.top.num<0\/1073741824<s.top.num)(hs':s'=s.pop.tRange):
  Calls Tryz.prog 163 #[.pointer (some ⟨b,0,none⟩),.agg #[.int .i64 20,k]] W (MP Z W b v p (.bool true) s')
  :=by
 obtain⟨R,E⟩:∃R,R=W.alloc (.cells #[.int .i64 20,k] 106):=⟨_,rfl⟩;have U:=zba E;have Y:=zha E;have l:=zhd (yaj b v p s R (M.ext U));have A:=zh7 M U Y hs' hk hl hZ;clear M U Y hs' hk hl hZ;go_in;go_wp2_with fail;rw[<-E];clear E;refine l.o.mono ?_;rintro e q ⟨T,⟨P,N,cs,la,z,lc⟩,rfl,C⟩;have B:=(C.o.2.1.keeps.block W (zlt A.o.2.2.1) (fun e=>by have:=A.o.1.lt e;omega)).trans A.o.2.2.1;have i:=zca B 0 rfl;have g:=zca B 1 rfl;have d:=zlt B;have HB:=zhd B;clear B;go_upto_region 15 with(fail);refine yab ?_;intro D H;have Q:=zba H;have I:=zha H;obtain⟨x,u,t,r,l2⟩:=zq4 I;have m:=zhd I;have F:=zh3 Q (C.o.1.ext Q) (C.o.2.2.keep (S:=fun _=>False) (zkb Q) (fun _ _ f=>f));clear I Q H;have K:P=s.top.kind:=C.o.2.2.kind;have L:N=s.top.num:=C.o.2.2.n;rw[<-K,<-L]at hx;clear K L i g d;by_cases h1:P=1
 .subst h1
  by_cases h2:N<0
  .have X:decide (N<0)=true:=zno h2
   clear hx h2;have a:=zhd (znv D.heap.size D);have O:=zhd (yav b T p s.pop D F.o.2.1 ⟨#[114,97,110,103,101]⟩ (by decide) A.o.2.2.2.2.2.1 (yad A.o.2.2.2.2.2.2 (znf A.o.2.1.size (znf C.o.2.1.keeps.size F.o.1.size))) s' (A.o.2.2.2.1.symm));go_wp2_with fail;refine O.o.mono ?_;rintro e V ⟨J,rfl,G⟩;go_wp2;go_ret;exact⟨J,rfl,zhd ⟨G.o.1,(MK.ext A.o.2.1).trans (C.o.2.1.trans ((MK.ext F.o.1).trans G.o.2))⟩⟩
  .have X:decide (N<0)=false:=znd h2
   have hx:=(hx.resolve_left (fun h=>h rfl)).resolve_left h2;have y:decide (1073741824<N)=true:=zno hx;clear hx h2;have a:=zhd (znv D.heap.size D);have O:=zhd (yav b T p s.pop D F.o.2.1 ⟨#[114,97,110,103,101]⟩ (by decide) A.o.2.2.2.2.2.1 (yad A.o.2.2.2.2.2.2 (znf A.o.2.1.size (znf C.o.2.1.keeps.size F.o.1.size))) s' (A.o.2.2.2.1.symm));go_wp2_with fail;refine O.o.mono ?_;rintro e V ⟨J,rfl,G⟩;go_wp2;go_ret;exact⟨J,rfl,zhd ⟨G.o.1,(MK.ext A.o.2.1).trans (C.o.2.1.trans ((MK.ext F.o.1).trans G.o.2))⟩⟩
 .have c:(P==1)=false:=by rw[zna];exact h1
  have X:(P !=1)=true:=by rw[bne,c];rfl
  clear hx h1;have a:=zhd (znv D.heap.size D);have O:=zhd (yav b T p s.pop D F.o.2.1 ⟨#[114,97,110,103,101]⟩ (by decide) A.o.2.2.2.2.2.1 (yad A.o.2.2.2.2.2.2 (znf A.o.2.1.size (znf C.o.2.1.keeps.size F.o.1.size))) s' (A.o.2.2.2.1.symm));go_wp2_with fail;refine O.o.mono ?_;rintro e V ⟨J,rfl,G⟩;go_wp2;go_ret;exact⟨J,rfl,zhd ⟨G.o.1,(MK.ext A.o.2.1).trans (C.o.2.1.trans ((MK.ext F.o.1).trans G.o.2))⟩⟩
theorem ygM
  {Z:Nat->Prop}(b:Nat)(v:MV)(p:Img)(s:MS)(W:World)(M:MX TT Z W b v p s)
  (k:Int)(hk:s.stk.length<=4294967296)(hl:s.made.length<=4294967296)(hZ:∀j,W.heap.size<=j->Z j)(s':MS)
  (hx:s.top.kind=1)(hn0:0<=s.top.num/\s.top.num<=9223372036854775807)(hll:s.timers.list.length<=4294967296/\s.acts.list.length<=4294967296)(hm:64<=s.timers.list.length+s.acts.list.length)(hs':s'=s.pop.tMany):
  Calls Tryz.prog 163 #[.pointer (some ⟨b,0,none⟩),.agg #[.int .i64 17,k]] W (MP Z W b v p (.bool true) s')
  :=by
 obtain⟨N,D⟩:∃N,N=W.alloc (.cells #[.int .i64 17,k] 106):=⟨_,rfl⟩;have R:=zba D;have V:=zha D;have x:=zhd (yaj b v p s N (M.ext R));have E:=zh7 M R V hs' hk hl hZ;clear M R V hs' hk hl hZ;go_in;go_wp2_with fail;rw[<-D];clear D;refine x.o.mono ?_;rintro e w1 ⟨O,⟨m,P,cs,la,ln,lc⟩,rfl,I⟩;have C:=(I.o.2.1.keeps.block W (zlt E.o.2.2.1) (fun e=>by have:=E.o.1.lt e;omega)).trans E.o.2.2.1;have l:=zca C 0 rfl;have i:=zca C 1 rfl;have X:=zlt C;have z:=zhd C;clear C;have U:s.pop.stk.length<=4294967296:=znf (Go.Proofs.YtpagmlndgblhhaaGreatDoor.pop_len s) E.o.2.2.2.2.1;go_upto_region 3 with(fail);refine yab ?_;intro w2 G;have L:=zba G;have A:=zha G;obtain⟨q0,q1,q2,q3,l2⟩:=zq4 A;have Q:=zhd A;have F:=zh3 L (I.o.1.ext L) (I.o.2.2.keep (S:=fun _=>False) (zkb L) (fun _ _ f=>f));clear A L G;obtain rfl:m=1:=I.o.2.2.kind.trans hx;have H:P=s.top.num:=I.o.2.2.n;rw[<-H]at hn0;have n2:decide (P<0)=false:=znd (by omega)
 first
  |(have n3:decide (1073741824<P)=false:=znd (by omega))
  |skip
 have A:=Q.o;have B:=(F.o.1.block W X).trans z.o;have b2:b<w2:=zlt F.o.2.1.h;obtain⟨g,d,J⟩:=(show∃a cap,O.ts= .slice a s.timers.list.length cap from F.o.2.1.tms.slice);obtain⟨u,t,K⟩:=(show∃a cap,O.as_= .slice a s.acts.list.length cap from F.o.2.1.acs.slice);have r:w2.cell? ⟨b,12,none⟩=some (.slice g s.timers.list.length d):=by rw[<-J];exact F.o.2.1.cell (k:=12) rfl
 have q:w2.cell? ⟨b,14,none⟩=some (.slice u s.acts.list.length t):=by rw[<-K];exact F.o.2.1.cell (k:=14) rfl
 have e0:=zca B 0 rfl;have e1:=zca B 1 rfl;have el:=zlt B;have T:IntKind.i64.wrap ((s.timers.list.length:Int)+(s.acts.list.length:Int))=(s.timers.list.length:Int)+(s.acts.list.length:Int):=zmk _ (by omega);have y:=zh4 B A H hn0;clear J K B A l i X hn0 H hx;have n6:decide ((64:Int)<=(s.timers.list.length:Int)+(s.acts.list.length:Int))=true:=zno (by omega);clear hm hll;go_upto_region 17 with(fail);go_region
 all_goals
  have FL:=zhd (yav b O p s.pop w2.drew (F.o.2.1.ext (znv _ _).drew) ⟨#[109,97,110,121]⟩ (by decide) E.o.2.2.2.2.2.1 (yad E.o.2.2.2.2.2.2 (znf E.o.2.1.size (znf I.o.2.1.keeps.size F.o.1.size))) s' (E.o.2.2.2.1.symm));go_wp2_with fail;refine FL.o.mono ?_;rintro e w5 ⟨c,rfl,Y⟩;go_wp2;go_ret;exact⟨c,rfl,zhd ⟨Y.o.1,(MK.ext E.o.2.1).trans (I.o.2.1.trans ((MK.ext F.o.1.drew).trans Y.o.2))⟩⟩
theorem ygL
  {Z:Nat->Prop}(b:Nat)(v:MV)(p:Img)(s:MS)(W:World)(M:MX TT Z W b v p s)
  (k:Int)(hk:s.stk.length<=4294967296)(hl:s.made.length<=4294967296)(hZ:∀j,W.heap.size<=j->Z j)(s':MS)
  (hx:s.top.kind=1)(hn0:0<=s.top.num/\s.top.num<=1073741824)(hll:s.timers.list.length<=4294967296/\s.acts.list.length<=4294967296)(hm:64<=s.timers.list.length+s.acts.list.length)(hs':s'=s.pop.tMany):
  Calls Tryz.prog 163 #[.pointer (some ⟨b,0,none⟩),.agg #[.int .i64 20,k]] W (MP Z W b v p (.bool true) s')
  :=by
 obtain⟨N,D⟩:∃N,N=W.alloc (.cells #[.int .i64 20,k] 106):=⟨_,rfl⟩;have R:=zba D;have V:=zha D;have x:=zhd (yaj b v p s N (M.ext R));have E:=zh7 M R V hs' hk hl hZ;clear M R V hs' hk hl hZ;go_in;go_wp2_with fail;rw[<-D];clear D;refine x.o.mono ?_;rintro e w1 ⟨O,⟨m,P,cs,la,ln,lc⟩,rfl,I⟩;have C:=(I.o.2.1.keeps.block W (zlt E.o.2.2.1) (fun e=>by have:=E.o.1.lt e;omega)).trans E.o.2.2.1;have l:=zca C 0 rfl;have i:=zca C 1 rfl;have X:=zlt C;have z:=zhd C;clear C;have U:s.pop.stk.length<=4294967296:=znf (Go.Proofs.YtpagmlndgblhhaaGreatDoor.pop_len s) E.o.2.2.2.2.1;go_upto_region 15 with(fail);refine yab ?_;intro w2 G;have L:=zba G;have A:=zha G;obtain⟨q0,q1,q2,q3,l2⟩:=zq4 A;have Q:=zhd A;have F:=zh3 L (I.o.1.ext L) (I.o.2.2.keep (S:=fun _=>False) (zkb L) (fun _ _ f=>f));clear A L G;obtain rfl:m=1:=I.o.2.2.kind.trans hx;have H:P=s.top.num:=I.o.2.2.n;rw[<-H]at hn0;have n2:decide (P<0)=false:=znd (by omega)
 first
  |(have n3:decide (1073741824<P)=false:=znd (by omega))
  |skip
 have A:=Q.o;have B:=(F.o.1.block W X).trans z.o;have b2:b<w2:=zlt F.o.2.1.h;obtain⟨g,d,J⟩:=(show∃a cap,O.ts= .slice a s.timers.list.length cap from F.o.2.1.tms.slice);obtain⟨u,t,K⟩:=(show∃a cap,O.as_= .slice a s.acts.list.length cap from F.o.2.1.acs.slice);have r:w2.cell? ⟨b,12,none⟩=some (.slice g s.timers.list.length d):=by rw[<-J];exact F.o.2.1.cell (k:=12) rfl
 have q:w2.cell? ⟨b,14,none⟩=some (.slice u s.acts.list.length t):=by rw[<-K];exact F.o.2.1.cell (k:=14) rfl
 have e0:=zca B 0 rfl;have e1:=zca B 1 rfl;have el:=zlt B;have T:IntKind.i64.wrap ((s.timers.list.length:Int)+(s.acts.list.length:Int))=(s.timers.list.length:Int)+(s.acts.list.length:Int):=zmk _ (by omega);have y:=zh4 B A H hn0;clear J K B A l i X hn0 H hx;have n6:decide ((64:Int)<=(s.timers.list.length:Int)+(s.acts.list.length:Int))=true:=zno (by omega);clear hm hll;go_upto_region 17 with(fail);go_region
 all_goals
  have FL:=zhd (yav b O p s.pop w2.drew (F.o.2.1.ext (znv _ _).drew) ⟨#[109,97,110,121]⟩ (by decide) E.o.2.2.2.2.2.1 (yad E.o.2.2.2.2.2.2 (znf E.o.2.1.size (znf I.o.2.1.keeps.size F.o.1.size))) s' (E.o.2.2.2.1.symm));go_wp2_with fail;refine FL.o.mono ?_;rintro e w5 ⟨c,rfl,Y⟩;go_wp2;go_ret;exact⟨c,rfl,zhd ⟨Y.o.1,(MK.ext E.o.2.1).trans (I.o.2.1.trans ((MK.ext F.o.1.drew).trans Y.o.2))⟩⟩
theorem yhK
  {Z:Nat->Prop}(b:Nat)(v:MV)(p:Img)(s:MS)(W:World)(M:MX TT Z W b v p s)
  (k:Int)(hk:s.stk.length<=4294967296)(hl:s.made.length<=4294967296)(hZ:∀j,W.heap.size<=j->Z j)(s':MS)
  (hx:s.top.kind=1)(hn0:0<=s.top.num/\s.top.num<=9223372036854775807)(hll:s.timers.list.length<=4294967296/\s.acts.list.length<=4294967296)(hm:¬64<=s.timers.list.length+s.acts.list.length)(hnx:0<=s.timers.next/\s.timers.next<=4611686018427387904)
  (hs':s'=(({s.pop with timers:=yck s.timers}:MS).want ⟨1,0,s.timers.next+1,s.top.num,⟨#[]⟩,yag⟩).push (ybD (s.timers.next+1))):
  Calls Tryz.prog 163 #[.pointer (some ⟨b,0,none⟩),.agg #[.int .i64 17,k]] W (MP Z W b v p (.bool true) s')
  :=by
 obtain⟨V,D⟩:∃V,V=W.alloc (.cells #[.int .i64 17,k] 106):=⟨_,rfl⟩;have g:=zba D;have t:=zha D;have PO:=zhd (yaj b v p s V (M.ext g));have E:=zh7 M g t hs' hk hl hZ;clear M g t hs' hk hl hZ;go_in;go_wp2_with fail;rw[<-D];clear D;refine PO.o.mono ?_;rintro e K ⟨X,⟨ck,J,cs,la,ln,lc⟩,rfl,I⟩;have C:=(I.o.2.1.keeps.block W (zlt E.o.2.2.1) (fun e=>by have:=E.o.1.lt e;omega)).trans E.o.2.2.1;have d0:=zca C 0 rfl;have d1:=zca C 1 rfl;have u:=zlt C;have HB:=zhd C;clear C;have N:s.pop.stk.length<=4294967296:=znf (Go.Proofs.YtpagmlndgblhhaaGreatDoor.pop_len s) E.o.2.2.2.2.1;go_upto_region 3 with(fail);refine yab ?_;intro w2 G;have T:=zba G;have A:=zha G;obtain⟨q0,q,q2,q3,l2⟩:=zq4 A;have d:=zhd A;have F:=zh3 T (I.o.1.ext T) (I.o.2.2.keep (S:=fun _=>False) (zkb T) (fun _ _ f=>f));clear A T G;obtain rfl:ck=1:=I.o.2.2.kind.trans hx;have H:J=s.top.num:=I.o.2.2.n;rw[<-H]at hn0;have n2:decide (J<0)=false:=znd (by omega)
 first
  |(have n3:decide (1073741824<J)=false:=znd (by omega))
  |skip
 have A:=d.o;have B:=(F.o.1.block W u).trans HB.o;have b2:b<w2:=zlt F.o.2.1.h;obtain⟨ta,tc,L⟩:=(show∃a cap,X.ts= .slice a s.timers.list.length cap from F.o.2.1.tms.slice);obtain⟨aa,ac,P⟩:=(show∃a cap,X.as_= .slice a s.acts.list.length cap from F.o.2.1.acs.slice);have Ab:w2.cell? ⟨b,12,none⟩=some (.slice ta s.timers.list.length tc):=by rw[<-L];exact F.o.2.1.cell (k:=12) rfl
 have Aa:w2.cell? ⟨b,14,none⟩=some (.slice aa s.acts.list.length ac):=by rw[<-P];exact F.o.2.1.cell (k:=14) rfl
 have e0:=zca B 0 rfl;have e1:=zca B 1 rfl;have el:=zlt B;have r:IntKind.i64.wrap ((s.timers.list.length:Int)+(s.acts.list.length:Int))=(s.timers.list.length:Int)+(s.acts.list.length:Int):=zmk _ (by omega);have c:=zh4 B A H hn0;clear L P B A d0 d1 u hn0 H hx;have n6:decide ((64:Int)<=(s.timers.list.length:Int)+(s.acts.list.length:Int))=false:=znd (by omega);have O:=hll.1;clear hm hll;go_upto_region 17 with(fail);go_region
 all_goals
  have BG:=zhd (ygO b X p s.pop w2.drew (F.o.2.1.ext (znv _ _).drew) hnx O _ rfl);have i:w2.drew.cell? ⟨K,1,none⟩=some (.int .i64 J):=q;have U:K<w2.drew.heap.size:=l2;have HN:=zhd hnx;clear q0 q q2 q3 hnx O;go_wp2_with fail;refine BG.o.mono ?_;rintro e w4 ⟨m,rfl,R⟩;have y1:w4.cell? ⟨K,1,none⟩=some (.int .i64 J):=(R.o.2.keeps.cell (p:=⟨K,1,none⟩) U (fun e=>by have:=I.o.1.lt e;exact Nat.lt_irrefl _ this)).trans i;have l4:K<w4.heap.size:=znj U R.o.2.keeps.size;have Y:MK b v W m w4:=(MK.ext E.o.2.1).trans (I.o.2.1.trans ((MK.ext F.o.1.drew).trans R.o.2));have WA:=zhd (ycb b m p _ w4 R.o.1 1 0 (s.timers.next+1) J ⟨#[]⟩ yag 0 0 ⟨#[]⟩ none 0 0 (fun _=>True) (yaI _ _) ydU E.o.2.2.2.2.2.1 (yad E.o.2.2.2.2.2.2 Y.keeps.size) _ rfl);have HK:=zhd Y;clear Y i U;go_wp2_with fail;refine WA.o.mono ?_;rintro e l ⟨v6,rfl,z⟩;have hE:=zhd E.o.2.2.2.1;go_upto_region 27 with(fail);go_region_law (first
   |(go_simp;go_at_call 106;refine(ybl _ _).mono ?_;rintro e w8 ⟨rfl,Q⟩;have y:=zhd (znw ((znv l.heap.size l).drew) Q);clear Q)
   |(go_simp;go_at_call 119;refine(yak b v6 p _ w8 (z.o.1.ext y.o) (ybD (s.timers.next+1)) 1 _ ⟨#[]⟩ none 0 0 (ycK _ _ _) (by unfold MS.want;exact N)).mono ?_;rintro e w9 ⟨v9,rfl,x⟩))
  all_goals
   go_wp2;go_ret;exact⟨v9,rfl,zhd ⟨by rw[hE.o,<-c.o.2.2.1];exact x.o.1,HK.o.trans (z.o.2.trans ((MK.ext y.o).trans x.o.2))⟩⟩
theorem yjz
  {Z:Nat->Prop}(b:Nat)(v:MV)(p:Img)(s:MS)(W:World)(M:MX TT Z W b v p s)
  (k:Nat)(hk:s.stk.length<=4294967296)(hl:s.made.length<=4294967296)(hZ:∀j,W.heap.size<=j->Z j)(s':MS)
  (nm:ByteArray)(hnm:p.names[k]? =some nm)(hx:s.top.kind=1)(hn0:0<=s.top.num/\s.top.num<=1073741824)(hll:s.timers.list.length<=4294967296/\s.acts.list.length<=4294967296)(hm:¬64<=s.timers.list.length+s.acts.list.length)(hnx:0<=s.acts.next/\s.acts.next<=4611686018427387904)(hz:szV s.pop.top<=1073741824)
  (hs':s'=(({s.pop.pop with acts:=yck s.acts}:MS).want ⟨3,0,s.acts.next+1,s.top.num,nm,s.pop.top⟩).push (ybD (s.acts.next+1))):
  Calls Tryz.prog 163 #[.pointer (some ⟨b,0,none⟩),.agg #[.int .i64 20,k]] W (MP Z W b v p (.bool true) s')
  :=by
 obtain⟨w0,H⟩:∃w0,w0=W.alloc (.cells #[.int .i64 20,k] 106):=⟨_,rfl⟩;have B0:=zba H;have hB:=zha H;have PO:=zhd (yaj b v p s w0 (M.ext B0));have B:=zh7 M B0 hB hs' hk hl hZ;clear M B0 hB hs' hk hl hZ;go_in;go_wp2_with fail;rw[<-H];clear H;refine PO.o.mono ?_;rintro e C ⟨v1,⟨ck,Q,cs,la,ln,lc⟩,rfl,G⟩;have E:=(G.o.2.1.keeps.block W (zlt B.o.2.2.1) (fun e=>by have:=B.o.1.lt e;omega)).trans B.o.2.2.1;have d0:=zca E 0 rfl;have d1:=zca E 1 rfl;have dl:=zlt E;have HB:=zhd E;clear E;have m:s.pop.stk.length<=4294967296:=znf (Go.Proofs.YtpagmlndgblhhaaGreatDoor.pop_len s) B.o.2.2.2.2.1;go_upto_region 15 with(fail);refine yab ?_;intro w2 N;have B2:=zba N;have A:=zha N;obtain⟨q0,q1,q2,q3,l2⟩:=zq4 A;have Af:=zhd A;have K:=zh3 B2 (G.o.1.ext B2) (G.o.2.2.keep (S:=fun _=>False) (zkb B2) (fun _ _ f=>f));clear A B2 N;obtain rfl:ck=1:=G.o.2.2.kind.trans hx;have P:Q=s.top.num:=G.o.2.2.n;rw[<-P]at hn0;have n2:decide (Q<0)=false:=znd (by omega)
 first
  |(have n3:decide (1073741824<Q)=false:=znd (by omega))
  |skip
 have A:=Af.o;have D:=(K.o.1.block W dl).trans HB.o;have b2:b<w2:=zlt K.o.2.1.h;obtain⟨ta,tc,g⟩:=(show∃a cap,v1.ts= .slice a s.timers.list.length cap from K.o.2.1.tms.slice);obtain⟨aa,ac,u⟩:=(show∃a cap,v1.as_= .slice a s.acts.list.length cap from K.o.2.1.acs.slice);have Ad:w2.cell? ⟨b,12,none⟩=some (.slice ta s.timers.list.length tc):=by rw[<-g];exact K.o.2.1.cell (k:=12) rfl
 have Ac:w2.cell? ⟨b,14,none⟩=some (.slice aa s.acts.list.length ac):=by rw[<-u];exact K.o.2.1.cell (k:=14) rfl
 have y:=zca D 0 rfl;have e1:=zca D 1 rfl;have el:=zlt D;have Ah:IntKind.i64.wrap ((s.timers.list.length:Int)+(s.acts.list.length:Int))=(s.timers.list.length:Int)+(s.acts.list.length:Int):=zmk _ (by omega);have z:=zh4 D A P hn0;clear g u D A d0 d1 dl hn0 P hx;have n6:decide ((64:Int)<=(s.timers.list.length:Int)+(s.acts.list.length:Int))=false:=znd (by omega);have Ab:=hll.2;have O:s.pop.pop.stk.length<=4294967296:=znf (Go.Proofs.YtpagmlndgblhhaaGreatDoor.pop_len _) m;clear hm hll;go_upto_region 17 with(fail);go_region
 all_goals
  have PO:=zhd (yaj b v1 p s.pop w2.drew (K.o.2.1.ext (znv _ _).drew));have z1:w2.drew.cell? ⟨C,1,none⟩=some (.int .i64 Q):=q1;have zl:C<w2.drew.heap.size:=l2;have z2:w2.drew.heap[W.heap.size]? =some (.cells #[.int .i64 20,k] 106 (0,0)):=z.o.1;have HN:=zh3 hnx z1 z2;clear q0 q1 q2 q3 hnx Ad Ac e1 z1 z2;have y:w2.drew.cell? ⟨W,0,none⟩=some (.int .i64 20):=y;go_wp2_with fail;refine PO.o.mono ?_;rintro e w4 ⟨V,⟨dk,dn,ds,ma,mn,mc⟩,rfl,J⟩;have y1:w4.cell? ⟨C,1,none⟩=some (.int .i64 Q):=(J.o.2.1.keeps.cell (p:=⟨C,1,none⟩) zl (fun e=>by have:=G.o.1.lt e;exact Nat.lt_irrefl _ this)).trans HN.o.2.1;have d:=(J.o.2.1.keeps.block W (zlt HN.o.2.2) (fun e=>by
   rcases G.o.2.1.own _ e with h|h
   .have:=B.o.1.lt h;omega
   .have:=zlt B.o.2.2.1;omega)).trans HN.o.2.2
  have l4:C<w4.heap.size:=znj zl J.o.2.1.keeps.size;have K4:MK b v W V w4:=(MK.ext B.o.2.1).trans (G.o.2.1.trans ((MK.ext K.o.1.drew).trans J.o.2.1));have HK:=zh2 K4 d;clear K4 d zl y el;go_upto_region 21 with(fail);refine yab ?_;intro w5 L;have U:=zba L;have t:=zha L;have y2:=(U.cell (p:=⟨C,1,none⟩) l4).trans y1;have q:=(U.block W (zlt HK.o.2)).trans HK.o.2;have l6:=znj l4 U.size;have BG:=zhd (ygP b V p s.pop.pop w5 (J.o.1.ext U) HN.o.1 Ab _ rfl);have R:=zh4 U t q y2;clear L U t q y1 y2 l4;go_wp2_with fail;refine BG.o.mono ?_;rintro e w6 ⟨T,rfl,F⟩;have Y:∀j,w4.heap.size<=j->¬MO V b j:=fun j hj e=>by have:=J.o.1.lt e;omega
  have c:¬MO V b C.heap.size:=fun e=>by
   rcases J.o.2.1.own _ e with h|h
   .have:=G.o.1.lt h;omega
   .have h:w2<=C.heap.size:=h;omega
  have X:¬MO V b W.heap.size:=fun e=>by
   rcases J.o.2.1.own _ e with h|h
   .rcases G.o.2.1.own _ h with h|h
    .have:=B.o.1.lt h;omega
    .have:=zlt B.o.2.2.1;omega
   .have h:w2<=W.heap.size:=h
    have:=B.o.2.1.size;have:=G.o.2.1.keeps.size;omega
  have r:=(F.o.2.keeps.block w4 (zlt R.o.2.1) (Y _ (znc _))).trans R.o.2.1;have I:=(F.o.2.keeps.block W (zlt R.o.2.2.1) X).trans R.o.2.2.1;have y3:w6.cell? ⟨C,1,none⟩=some (.int .i64 Q):=(F.o.2.keeps.cell (p:=⟨C,1,none⟩) l6 c).trans R.o.2.2.2;have l7:C<w6.heap.size:=znj l6 F.o.2.keeps.size;have e1:=zca I 1 rfl;have y:=zca I 0 rfl;have el:=zlt I;obtain⟨r0,r1,r2,r3,rl⟩:=zq4 r;obtain⟨ng,Ag,l,_,_,Ai,Aa⟩:=F.o.1.img.name_at (znv _ _) hnm;have i:=F.o.1.img.lens.2.2;have c3:w6.cell? ⟨b,3,none⟩=some (.slice T.ic.na T.ic.nn T.ic.nc):=F.o.1.cell (k:=3) rfl;rw[l,i]at c3;have Aj:(k:Int)<(p.names.length:Int):=by have:=(zge hnm).1;omega
  have b6:b<w6:=zlt F.o.1.h;have K6:MK b v W T w6:=HK.o.1.trans ((MK.ext R.o.1).trans F.o.2);have CA:CF (MZ Z T b) w6.drew ⟨dk,dn,ds,ma,mn,mc⟩ s.pop.top:=((CF.step F.o.2 (CF.step (MK.ext R.o.1) J.o.2.2))).keep (S:=fun _=>False) (zkb ((znv _ _).drew)) (fun _ _ f=>f);have WA:=zhd (ycb b T p _ w6.drew (F.o.1.ext (znv _ _).drew) 3 0 (s.acts.next+1) Q nm s.pop.top dk dn ds ma mn mc _ CA hz B.o.2.2.2.2.2.1 (yad B.o.2.2.2.2.2.2 K6.keeps.size) _ rfl);have Ae:=zhd K6;have hE:=zhd B.o.2.2.2.1;clear r I l i CA K6 Y c X l6 hnm;go_upto_region 22 with(fail)
  go_still_tail 15,(by kernel_rfl)
  go_wp2_with fail;refine WA.o.mono ?_;rintro e w7 ⟨v7,rfl,H7⟩
  .clear r0 r1 r2 r3 c3 Aa e1 y y3
   go_upto_region 23 with(fail);go_region_law (first
    |(go_simp;go_at_call 106;refine(ybl _ _).mono ?_;rintro e w8 ⟨rfl,x⟩;have H8:=zhd (znw ((znv w7.heap.size w7).drew) x);clear x)
    |(go_simp;go_at_call 119;refine(yak b v7 p _ w8 (H7.o.1.ext H8.o) (ybD (s.acts.next+1)) 1 _ ⟨#[]⟩ none 0 0 (ycK _ _ _) (by unfold MS.want;exact O)).mono ?_;rintro e w9 ⟨v9,rfl,H9⟩))
   all_goals
    go_wp2;go_ret;exact⟨v9,rfl,zhd ⟨by rw[hE.o,<-z.o.2.2.1];exact H9.o.1,Ae.o.trans ((MK.ext ((znv w6.heap.size w6).drew)).trans (H7.o.2.trans ((MK.ext H8.o).trans H9.o.2)))⟩⟩
theorem ykS
  {Z:Nat->Prop}(b:Nat)(v:MV)(p:Img)(s:MS)(W:World)(M:MX TT Z W b v p s)
  (k:Int)(hl:s.made.length<=4294967296)(hZ:∀j,W.heap.size<=j->Z j)(hz:szV s.top<=1073741824)(s':MS)(hs':s'=s.pop.want ⟨4,0,0,0,⟨#[]⟩,s.top⟩):
  Calls Tryz.prog 157 #[.pointer (some ⟨b,0,none⟩),.agg #[.int .i64 25,k]] W (MP Z W b v p (.tuple #[]) s'):=by
 obtain⟨D,A⟩:∃D,D=W.alloc (.cells #[.int .i64 25,k] 106):=⟨_,rfl⟩;have E:=zba A;have R:=zhd (yaj b v p s D (M.ext E));have B:=zh5 M E hs' hl hZ;clear M E hs' hl hZ;go_in;go_wp2_with fail;rw[<-A];clear A;refine R.o.mono ?_;rintro e G ⟨I,⟨P,O,N,L,J,K⟩,rfl,C⟩;have Q:=zhd (ycb b I p s.pop G C.o.1 4 0 0 0 ⟨#[]⟩ s.top P O N L J K _ C.o.2.2 hz B.o.2.2.2.1 (yad B.o.2.2.2.2 (znf B.o.2.1.size C.o.2.1.keeps.size)) s' B.o.2.2.1.symm);go_wp2_with fail;refine Q.o.mono ?_;rintro e S ⟨H,rfl,F⟩;go_wp2_with fail
 go_end0
 exact⟨H,rfl,zhd ⟨F.o.1,(MK.ext B.o.2.1).trans (C.o.2.1.trans F.o.2)⟩⟩
theorem ykR
  {Z:Nat->Prop}(b:Nat)(v:MV)(p:Img)(s:MS)(W:World)(M:MX TT Z W b v p s)
  (k:Int)(hl:s.made.length<=4294967296)(hZ:∀j,W.heap.size<=j->Z j)(hz:szV s.top<=1073741824)(s':MS)(hs':s'=s.pop.want ⟨6,0,0,0,⟨#[]⟩,s.top⟩):
  Calls Tryz.prog 157 #[.pointer (some ⟨b,0,none⟩),.agg #[.int .i64 27,k]] W (MP Z W b v p (.tuple #[]) s'):=by
 obtain⟨D,A⟩:∃D,D=W.alloc (.cells #[.int .i64 27,k] 106):=⟨_,rfl⟩;have E:=zba A;have R:=zhd (yaj b v p s D (M.ext E));have B:=zh5 M E hs' hl hZ;clear M E hs' hl hZ;go_in;go_wp2_with fail;rw[<-A];clear A;refine R.o.mono ?_;rintro e G ⟨I,⟨P,O,N,L,J,K⟩,rfl,C⟩;have Q:=zhd (ycb b I p s.pop G C.o.1 6 0 0 0 ⟨#[]⟩ s.top P O N L J K _ C.o.2.2 hz B.o.2.2.2.1 (yad B.o.2.2.2.2 (znf B.o.2.1.size C.o.2.1.keeps.size)) s' B.o.2.2.1.symm);go_wp2_with fail;refine Q.o.mono ?_;rintro e S ⟨H,rfl,F⟩;go_wp2_with fail
 go_end0
 exact⟨H,rfl,zhd ⟨F.o.1,(MK.ext B.o.2.1).trans (C.o.2.1.trans F.o.2)⟩⟩
theorem yme
  {Z:Nat->Prop}(b:Nat)(v:MV)(p:Img)(s:MS)(W:World)(M:MX TT Z W b v p s)
  (op:Int)(h25:(op==25)=false)(h27:(op==27)=false)(k:Nat)(nm:ByteArray)(hnm:p.names[k]? =some nm)(hl:s.made.length<=4294967296)(hZ:∀j,W.heap.size<=j->Z j)(s':MS)(hs':s'=s.want ⟨5,0,0,0,nm,yag⟩):
  Calls Tryz.prog 157 #[.pointer (some ⟨b,0,none⟩),.agg #[op,k]] W (MP Z W b v p (.tuple #[]) s'):=by
 obtain⟨w0,A⟩:∃w0,w0=W.alloc (.cells #[op,k] 106):=⟨_,rfl⟩;have F:=zba A;have E:=zha A;have c0:=zca E 0 rfl;have c1:=zca E 1 rfl;have R:=zlt E;have B:=M.ext F;obtain⟨Q,G,D,_,_,K,J⟩:=B.img.name_at (znv _ _) hnm;have C:=B.img.lens.2.2;have c3:w0.cell? ⟨b,3,none⟩=some (.slice v.ic.na v.ic.nn v.ic.nc):=B.cell (k:=3) rfl;rw[D,C]at c3;have L:(k:Int)<(p.names.length:Int):=by have:=(zge hnm).1;omega
 have S:b<w0:=zlt B.h;have N:=zhd (ycb b v p s w0.drew (B.ext (znv _ _).drew) 5 0 0 0 nm yag 0 0 ⟨#[]⟩ none 0 0 (fun _=>True) (yaI _ _) ydU hl (yad hZ F.size) s' hs'.symm);have O:=zhd F;clear M B F E hs' hl hZ D C hnm;go_in;go_wp2_with fail;rw[<-A];clear A
 go_still_tail 11,(by kernel_rfl)
 go_wp2_with fail;refine N.o.mono ?_;rintro e P ⟨I,rfl,H⟩;go_wp2_with fail
 go_end0
 exact⟨I,rfl,zhd ⟨H.o.1,(MK.ext O.o.drew).trans H.o.2⟩⟩
end Go.Proofs.YtpagmlndgblhhaaGreatDoor
