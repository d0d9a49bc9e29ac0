/- Parts of the proof: what the functions and the plain laws give that later parts lean on. Conditions: none beyond those that each theorem names. -/
import Derived.Test.YtpagmlndgblhhaaGreatDoorA13
import Derived.Test.YtpagmlndgblhhaaGreatDoorA14
set_option maxRecDepth 100000
set_option maxHeartbeats 8000000
namespace Go.Proofs.YtpagmlndgblhhaaGreatDoor
open Go.RowKit Go.Own Go.Own.MapTy Go.Va Go.Sort
open Go.Own.Cells (sz enc)
theorem yaA (e:Ev):yad e=ynV e.kind e.id e.time e.a e.b e.name.size e.text.size e.v.kind (checkL e.v):=by
 unfold yad ynV;cases ygo e.kind<;>rfl
theorem MX.setInput {T:MT}{Z:Nat->Prop}{W:World}{b:Nat}{v:MV}{p:Img}{s:MS}(M:MX T Z W b v p s)(c:VC)(x:Val)(C:CF (MZ Z v b) W c x):
  MX T Z ((((W.setCell ⟨b,7,none⟩ (.int .i64 c.kind)).setCell ⟨b,8,none⟩ (.int .i64 c.n)).setCell ⟨b,9,none⟩ (.string c.s)).setCell ⟨b,10,none⟩ (.slice c.la c.ln c.lc)) b {v with inp:=c} p {s with input:=x}/\
  MK b v W {v with inp:=c} ((((W.setCell ⟨b,7,none⟩ (.int .i64 c.kind)).setCell ⟨b,8,none⟩ (.int .i64 c.n)).setCell ⟨b,9,none⟩ (.string c.s)).setCell ⟨b,10,none⟩ (.slice c.la c.ln c.lc)):=by
 obtain⟨w',D⟩:∃w',w'=((((W.setCell ⟨b,7,none⟩ (.int .i64 c.kind)).setCell ⟨b,8,none⟩ (.int .i64 c.n)).setCell ⟨b,9,none⟩ (.string c.s)).setCell ⟨b,10,none⟩ (.slice c.la c.ln c.lc)):=⟨_,rfl⟩;rw[<-D];have K:Keeps (fun j=>j=b) W w':=by rw[D];exact ycu W b 7 8 9 10 _ _ _ _
 have A:∀i,own {v with inp:=c} b i=own v b i:=fun i=>by
  match i with
  |0=>rfl
  |1=>rfl
  |2=>rfl
  |3=>rfl
  |4=>rfl
  |5=>rfl
  |6=>rfl
  |_+7=>rfl
 have F:∀j,MO {v with inp:=c} b j->MO v b j:=fun j ⟨i,h⟩=>⟨i,by rw[<-A i];exact h⟩;have B:∀g,MZ Z v b g->¬g=b:=fun g h e=>h.1 ⟨0,by rw[e];rfl⟩;have E:∀i g,own v b (i+1)=some g->¬g=b:=fun i g h e=>by
  have:=M.sep (i+1) 0 g h (by rw[e];rfl);omega
 have hm:∀g,MZ Z v b g->g<w'.heap.size->MZ Z {v with inp:=c} b g:=fun g h _=>⟨fun e=>h.1 (F g e),h.2⟩;refine⟨⟨?_,(M.stk.keep K B (fun g hg=>E 0 g hg)).mono hm,(M.pls.keep K B (fun g hg=>E 1 g hg)).mono hm,(M.tms.keep K B (fun g hg=>E 2 g hg)).mono hm,(M.acs.keep K B (fun g hg=>E 3 g hg)).mono hm,(M.lts.keep K B (fun g hg=>E 4 g hg)).mono hm,(M.mds.keep K B (fun g hg=>E 5 g hg)).mono hm,(M.img.keep K B).mono hm,(C.keep K B).mono hm,fun i j g hi hj=>M.sep i j g (by rw[<-A i];exact hi) (by rw[<-A j];exact hj)⟩,⟨K.mono (fun j _ e=>⟨0,by rw[e];rfl⟩),fun j h=>.inl (F j h)⟩⟩;rw[D];have:=M.h;simp[World.setCell,zni,this,ybT]
theorem ylo
  {Z:Nat->Prop}(b:Nat)(v:MV)(p:Img)(s:MS)(W:World)(M:MX TT Z W b v p s)
  {N:Nat}(G:Gl Tryz.prog N W)(id t k a bb:Int)(nm tx:ByteArray)(x:Val)(vk vn:Int)(vs:ByteArray)(la:Option Addr)(ln lc:Nat)(F:Nat->Prop)(C:CF F W ⟨vk,vn,vs,la,ln,lc⟩ x)(hw:x.wf)
  (ck:Int)(hck:yad ⟨id,t,k,a,bb,nm,tx,x⟩=ck)(hne:(ck !=0)=true):
  Calls Tryz.prog 70 #[.pointer (some ⟨b,0,none⟩),.agg #[id,t,k,a,bb,nm,tx,vk,vn,vs,.slice la ln lc]] W
   (MP Z W b v p (.int .i64 9) s):=by
 obtain⟨J,A⟩:∃J,J=W.alloc (.cells #[id,t,k,a,bb,nm,tx,vk,vn,vs,.slice la ln lc] 40):=⟨_,rfl⟩;have I:=zba A;have L:=zha A;have R:=C.keep (S:=fun _=>False) (zkb I) (fun _ _ f=>f);have D:vk=x.kind:=C.kind;rw[yaA]at hck;dsimp only at hck;rw[<-D]at hck;have Q:=zhd (yaw id t k a bb nm tx vk vn vs la ln lc J (G.below I) (checkL x) (fun W' BW=>yaF x vk vn vs la ln lc F W' (R.keep (S:=fun _=>False) (zkb BW) (fun _ _ f=>f)) hw _ rfl) _ hck);obtain⟨j,i,h,g,d,c,Y,X,V,U,K,O⟩:=zq11 L;have H:=zh4 M I L C;clear D hck R I L C M;go_in;go_wp2_with fail;rw[<-A];clear A;refine Q.o.mono ?_;rintro e w1 ⟨rfl,B⟩;have T:Below W W w1:=H.o.2.1.trans (B.mono H.o.2.1.size);have E:=(B.block W O).trans H.o.2.2.1;have P:=zh2 T E;clear B Q j i h g d c Y X V U K O;clear T E
 go_wp2;go_ret;exact⟨v,rfl,zhd ⟨H.o.1.ext P.o.1,MK.ext P.o.1⟩⟩
theorem yhT
  {Z:Nat->Prop}(b:Nat)(v:MV)(p:Img)(s:MS)(W:World)(M:MX TT Z W b v p s)
  {N:Nat}(G:Gl Tryz.prog N W)(id t k a bb:Int)(nm tx:ByteArray)(x:Val)(vk vn:Int)(vs:ByteArray)(la:Option Addr)(ln lc:Nat)(F:Nat->Prop)(C:CF F W ⟨vk,vn,vs,la,ln,lc⟩ x)(hw:x.wf)
  (hck:yad ⟨id,t,k,a,bb,nm,tx,x⟩=0)(ho:yaH k=false):
  Calls Tryz.prog 70 #[.pointer (some ⟨b,0,none⟩),.agg #[id,t,k,a,bb,nm,tx,vk,vn,vs,.slice la ln lc]] W
   (MP Z W b v p (.int .i64 9) s):=by
 obtain⟨P,A⟩:∃P,P=W.alloc (.cells #[id,t,k,a,bb,nm,tx,vk,vn,vs,.slice la ln lc] 40):=⟨_,rfl⟩;have O:=zba A;have j:=zha A;have u:=C.keep (S:=fun _=>False) (zkb O) (fun _ _ f=>f);have J:vk=x.kind:=C.kind;rw[yaA]at hck;dsimp only at hck;rw[<-J]at hck;have r:=zhd (yaw id t k a bb nm tx vk vn vs la ln lc P (G.below O) (checkL x) (fun W' BW=>yaF x vk vn vs la ln lc F W' (u.keep (S:=fun _=>False) (zkb BW) (fun _ _ f=>f)) hw _ rfl) _ hck);obtain⟨g,d,c,Y,X,V,U,T,R,Q,B,I⟩:=zq11 j;have L:=zh4 M O j C;clear J hck u O j C M;go_in;go_wp2_with fail;rw[<-A];clear A;refine r.o.mono ?_;rintro e w1 ⟨rfl,H⟩;have y:Below W W w1:=L.o.2.1.trans (H.mono L.o.2.1.size);have D:=(H.block W I).trans L.o.2.2.1;have l:=zh2 y D;clear H r g d c Y X V U T R Q B I;obtain⟨g,d,c,Y,X,V,U,T,R,Q,B,I⟩:=zq11 D;have n:=zhd (yam id t k a bb nm tx vk vn vs la ln lc w1 _ ho);clear y D;go_wp2_with fail;refine n.o.mono ?_;rintro e w2 ⟨rfl,E⟩;have m:Below W W w2:=l.o.1.trans (E.mono l.o.1.size);have i:=(E.block W I).trans l.o.2;have K:=L.o.1.ext m;have q:=zh3 m i K;have z:w2.cell? ⟨b,19,none⟩=some (.bool s.over):=K.cell (k:=19) rfl;have Aa:w2.cell? ⟨b,18,none⟩=some (.bool s.begun):=K.cell (k:=18) rfl;have b2:=zlt K.h;clear E n g d c Y X V U T R Q B I m K;go_wp2;go_ret;exact⟨v,rfl,zhd ⟨q.o.2.2,MK.ext q.o.1⟩⟩
theorem yjG
  {Z:Nat->Prop}(b:Nat)(v:MV)(p:Img)(s:MS)(W:World)(M:MX TT Z W b v p s)
  {N:Nat}(G:Gl Tryz.prog N W)(id t k a bb:Int)(nm tx:ByteArray)(x:Val)(vk vn:Int)(vs:ByteArray)(la:Option Addr)(ln lc:Nat)(F:Nat->Prop)(C:CF F W ⟨vk,vn,vs,la,ln,lc⟩ x)(hw:x.wf)
  (hck:yad ⟨id,t,k,a,bb,nm,tx,x⟩=0)(ho:yaH k=true)(hov:s.over=true):
  Calls Tryz.prog 70 #[.pointer (some ⟨b,0,none⟩),.agg #[id,t,k,a,bb,nm,tx,vk,vn,vs,.slice la ln lc]] W
   (MP Z W b v p (.int .i64 181) s):=by
 obtain⟨P,A⟩:∃P,P=W.alloc (.cells #[id,t,k,a,bb,nm,tx,vk,vn,vs,.slice la ln lc] 40):=⟨_,rfl⟩;have O:=zba A;have j:=zha A;have y:=C.keep (S:=fun _=>False) (zkb O) (fun _ _ f=>f);have J:vk=x.kind:=C.kind;rw[yaA]at hck;dsimp only at hck;rw[<-J]at hck;have u:=zhd (yaw id t k a bb nm tx vk vn vs la ln lc P (G.below O) (checkL x) (fun W' BW=>yaF x vk vn vs la ln lc F W' (y.keep (S:=fun _=>False) (zkb BW) (fun _ _ f=>f)) hw _ rfl) _ hck);obtain⟨g,d,c,Y,X,V,U,T,R,Q,B,I⟩:=zq11 j;have L:=zh4 M O j C;clear J hck y O j C M;go_in;go_wp2_with fail;rw[<-A];clear A;refine u.o.mono ?_;rintro e w1 ⟨rfl,H⟩;have z:Below W W w1:=L.o.2.1.trans (H.mono L.o.2.1.size);have D:=(H.block W I).trans L.o.2.2.1;have m:=zh2 z D;clear H u g d c Y X V U T R Q B I;obtain⟨g,d,c,Y,X,V,U,T,R,Q,B,I⟩:=zq11 D;have q:=zhd (yam id t k a bb nm tx vk vn vs la ln lc w1 _ ho);clear z D;go_wp2_with fail;refine q.o.mono ?_;rintro e w2 ⟨rfl,E⟩;have n:Below W W w2:=m.o.1.trans (E.mono m.o.1.size);have i:=(E.block W I).trans m.o.2;have K:=L.o.1.ext n;have r:=zh3 n i K;have l:w2.cell? ⟨b,19,none⟩=some (.bool s.over):=K.cell (k:=19) rfl;have Aa:w2.cell? ⟨b,18,none⟩=some (.bool s.begun):=K.cell (k:=18) rfl;have b2:=zlt K.h;clear E q g d c Y X V U T R Q B I n K;rw[hov]at l;clear hov;go_wp2;go_ret;exact⟨v,rfl,zhd ⟨r.o.2.2,MK.ext r.o.1⟩⟩
theorem yhR
  {Z:Nat->Prop}(b:Nat)(v:MV)(p:Img)(s:MS)(W:World)(M:MX TT Z W b v p s)
  {N:Nat}(G:Gl Tryz.prog N W)(id t k a bb:Int)(nm tx:ByteArray)(x:Val)(vk vn:Int)(vs:ByteArray)(la:Option Addr)(ln lc:Nat)(F:Nat->Prop)(C:CF F W ⟨vk,vn,vs,la,ln,lc⟩ x)(hw:x.wf)
  (hck:yad ⟨id,t,k,a,bb,nm,tx,x⟩=0)(ho:yaH k=true)(hov:s.over=false)(hbg:s.begun=(k==1)):
  Calls Tryz.prog 70 #[.pointer (some ⟨b,0,none⟩),.agg #[id,t,k,a,bb,nm,tx,vk,vn,vs,.slice la ln lc]] W
   (MP Z W b v p (.int .i64 7) s):=by
 obtain⟨j,B⟩:∃j,j=W.alloc (.cells #[id,t,k,a,bb,nm,tx,vk,vn,vs,.slice la ln lc] 40):=⟨_,rfl⟩;have i:=zba B;have m:=zha B;have C0:=C.keep (S:=fun _=>False) (zkb i) (fun _ _ f=>f);have K:vk=x.kind:=C.kind;rw[yaA]at hck;dsimp only at hck;rw[<-K]at hck;have z:=zhd (yaw id t k a bb nm tx vk vn vs la ln lc j (G.below i) (checkL x) (fun W' BW=>yaF x vk vn vs la ln lc F W' (C0.keep (S:=fun _=>False) (zkb BW) (fun _ _ f=>f)) hw _ rfl) _ hck);obtain⟨d,c,Y,X,V,U,T,R,Q,P,A,J⟩:=zq11 m;have g:=zh4 M i m C;clear K hck C0 i m C M;go_in;go_wp2_with fail;rw[<-B];clear B;refine z.o.mono ?_;rintro e w1 ⟨rfl,I⟩;have B1:Below W W w1:=g.o.2.1.trans (I.mono g.o.2.1.size);have E:=(I.block W J).trans g.o.2.2.1;have q:=zh2 B1 E;clear I z d c Y X V U T R Q P A J;obtain⟨d,c,Y,X,V,U,T,R,Q,P,A,J⟩:=zq11 E;have u:=zhd (yam id t k a bb nm tx vk vn vs la ln lc w1 _ ho);clear B1 E;go_wp2_with fail;refine u.o.mono ?_;rintro e w2 ⟨rfl,H⟩;have r:Below W W w2:=q.o.1.trans (H.mono q.o.1.size);have D:=(H.block W J).trans q.o.2;have O:=g.o.1.ext r;have y:=zh3 r D O;have n:w2.cell? ⟨b,19,none⟩=some (.bool s.over):=O.cell (k:=19) rfl;have L:w2.cell? ⟨b,18,none⟩=some (.bool s.begun):=O.cell (k:=18) rfl;have b2:=zlt O.h;clear H u d c Y X V U T R Q P A J r O;rw[hov]at n;obtain⟨d,c,Y,X,V,U,T,R,Q,P,A,J⟩:=zq11 D;clear hov D;rw[hbg]at L;clear hbg;obtain⟨kb,l⟩:∃kb,(k==1)=kb:=⟨_,rfl⟩;rw[l]at L;go_upto_region 5 with(fail);go_region
 all_goals
  go_wp2;go_ret;exact⟨v,rfl,zhd ⟨y.o.2.2.ext (znv _ _).drew,MK.ext y.o.1.drew⟩⟩
theorem yhS
  {Z:Nat->Prop}(b:Nat)(v:MV)(p:Img)(s:MS)(W:World)(M:MX TT Z W b v p s)
  {N:Nat}(G:Gl Tryz.prog N W)(id t a bb:Int)(nm tx:ByteArray)(x:Val)(vk vn:Int)(vs:ByteArray)(la:Option Addr)(ln lc:Nat)(F:Nat->Prop)(C:CF F W ⟨vk,vn,vs,la,ln,lc⟩ x)(hw:x.wf)
  (hck:yad ⟨id,t,1,a,bb,nm,tx,x⟩=0)(hov:s.over=false)(hbg:s.begun=false)(hF:∀g,F g->¬MO v b g)(hev:s.events<=4294967296)(hZ:∀j,W.heap.size<=j->Z j)
  (hz:szV x<=1073741824)
  (s1 r:MS)(hs1:hear {s with now:=t,steps:=0,events:=s.events+1} ⟨id,t,1,a,bb,nm,tx,x⟩=s1)(RT:∀(W':World) (v':MV),MX TT Z W' b v' p s1->W<=W'.heap.size->Calls Tryz.prog 109 #[.pointer (some ⟨b,0,none⟩)] W' (MP Z W' b v' p (.tuple #[]) r))
  :
  Calls Tryz.prog 70 #[.pointer (some ⟨b,0,none⟩),.agg #[id,t,.int .i64 1,a,bb,nm,tx,vk,vn,vs,.slice la ln lc]] W
   (MP Z W b v p (.int .i64 0) r):=by
 have Am:=zhd RT;clear RT;obtain⟨w0,E⟩:∃w0,w0=W.alloc (.cells #[id,t,.int .i64 1,a,bb,nm,tx,vk,vn,vs,.slice la ln lc] 40):=⟨_,rfl⟩;have B0:=zba E;have hB:=zha E;have C0:=C.keep (S:=fun _=>False) (zkb B0) (fun _ _ f=>f);have Ab:vk=x.kind:=C.kind;rw[yaA]at hck;dsimp only at hck;rw[<-Ab]at hck;have EK:=zhd (yaw id t 1 a bb nm tx vk vn vs la ln lc w0 (G.below B0) (checkL x) (fun W' BW=>yaF x vk vn vs la ln lc F W' (C0.keep (S:=fun _=>False) (zkb BW) (fun _ _ f=>f)) hw _ rfl) _ hck);obtain⟨V,U,T,R,Q,P,O,L,K,J,A,D⟩:=zq11 hB;have HX:=zh4 M B0 hB C;clear Ab hck C0 B0 hB C M;go_in;go_wp2_with fail;rw[<-E];clear E;refine EK.o.mono ?_;rintro e w1 ⟨rfl,y⟩;have B1:Below W W w1:=HX.o.2.1.trans (y.mono HX.o.2.1.size);have q:=(y.block W D).trans HX.o.2.2.1;have H1:=zh2 B1 q;clear y EK V U T R Q P O L K J A D
 obtain⟨V,U,T,R,Q,P,O,L,K,J,A,D⟩:=zq11 q;have OU:=zhd (yam id t 1 a bb nm tx vk vn vs la ln lc w1 true rfl);clear B1 q;go_wp2_with fail;refine OU.o.mono ?_;rintro e w2 ⟨rfl,u⟩;have B2:Below W W w2:=H1.o.1.trans (u.mono H1.o.1.size);have m:=(u.block W D).trans H1.o.2;have M2:=HX.o.1.ext B2;have z:=zh3 B2 m M2;have Ad:w2.cell? ⟨b,19,none⟩=some (.bool s.over):=M2.cell (k:=19) rfl;have Ae:w2.cell? ⟨b,18,none⟩=some (.bool s.begun):=M2.cell (k:=18) rfl;have b2:=zlt M2.h;clear u OU V U T R Q P O L K J A D B2 M2;have Ak:=zhd hs1;clear hs1;rw[hov]at Ad;rw[hbg]at Ae;obtain⟨V,U,T,R,Q,P,O,L,K,J,A,D⟩:=zq11 m;clear hov hbg m
 have Ao:wrap64 ((s.events:Int)+1)=(s.events:Int)+1:=by unfold wrap64;omega
 have Ai:w2.cell? ⟨b,11,none⟩=some (.int .i64 s.now):=z.o.2.2.cell (k:=11) rfl;have Ag:w2.cell? ⟨b,24,none⟩=some (.int .i64 (s.steps:Int)):=z.o.2.2.cell (k:=24) rfl;have Ah:w2.cell? ⟨b,23,none⟩=some (.int .i64 (s.events:Int)):=z.o.2.2.cell (k:=23) rfl;have f0:∀o,w2.frozen? ⟨b,o,none⟩=false:=fun o=>z.o.2.2.frozen o;go_upto_region 5 with(fail);go_region
 all_goals
  go_upto_region 9 with(fail);refine yaa ?_;intro w3 d;have S1:=z.o.2.2.scalar 11 (.int .i64 t) {s with now:=t} rfl rfl rfl rfl rfl rfl rfl rfl;have S2:=S1.1.scalar 24 (.int .i64 0) {s with now:=t,steps:=0} rfl rfl rfl rfl rfl rfl rfl rfl;have S3:=S2.1.scalar 23 (.int .i64 ((s.events:Int)+1)) {s with now:=t,steps:=0,events:=s.events+1} rfl rfl rfl rfl rfl rfl rfl rfl;have S4:=S3.1.ext (znv _ _).drew;have K4:=S3.2.trans (MK.ext (v:=v) (znv _ _).drew);rw[<-d]at S4 K4;have K3:MK b v W v w3:=(MK.ext z.o.1).trans (S1.2.trans (S2.2.trans K4));have l:w3.heap[W.heap.size]? =some (.cells #[id,t,.int .i64 1,a,bb,nm,tx,vk,vn,vs,.slice la ln lc] 40 (0,0)):=by
   have nb:W≠b:=fun e=>by have:=zlt HX.o.1.h;omega
   rw[d];exact((znn _ _ _ _ nb).trans ((znn _ _ _ _ nb).trans (znn _ _ _ _ nb))).trans z.o.2.1
  have C3:=HX.o.2.2.2.keep K3.keeps hF;obtain⟨s0,i⟩:∃s0:MS,s0={s with now:=t,steps:=0,events:=s.events+1}:=⟨_,rfl⟩;rw[<-i]at S4;have Al:=zhd i;have b3:=zlt S4.h;clear V U T R Q P O L K J A D Ad Ae Ai Ag Ah f0 b2 S1 S2 S3 K4 d i;have H3:=zh4 S4 K3 C3 l;obtain⟨V,U,T,R,Q,P,O,L,K,J,A,D⟩:=zq11 l;have f3:∀o,w3.frozen? ⟨b,o,none⟩=false:=fun o=>H3.o.1.frozen o;clear S4 K3 C3 l;have CL:=zhd (yax x vk vn vs la ln lc F w3 H3.o.2.2.1 hz);go_wp2_with fail;refine CL.o.mono ?_;rintro e B ⟨⟨k8,n8,s8,c,X,Y⟩,rfl,H5⟩;have H:=H3.o.1.ext H5.o.2;have f5:∀o,B.frozen? ⟨b,o,none⟩=false:=fun o=>H.frozen o;have b5:=zlt H.h;have i0:B.cell? ⟨b,18,none⟩=some (.bool s0.begun):=H.cell (k:=18) rfl;have i7:B.cell? ⟨b,7,none⟩=some (.int .i64 v.inp.kind):=H.cell (k:=7) rfl;have i8:B.cell? ⟨b,8,none⟩=some (.int .i64 v.inp.n):=H.cell (k:=8) rfl;have i9:B.cell? ⟨b,9,none⟩=some (.string v.inp.s):=H.cell (k:=9) rfl
  have Af:B.cell? ⟨b,10,none⟩=some (.slice v.inp.la v.inp.ln v.inp.lc):=H.cell (k:=10) rfl;have C5:CF (MZ Z v b) B ⟨k8,n8,s8,c,X,Y⟩ (yab x):=H5.o.1.mono (fun g hg _=>by
   have hg:w3<=g:=hg;exact⟨fun e=>by have:=H3.o.1.lt e;omega,hZ g (by have:=H3.o.2.1.keeps.size;omega)⟩)
  have S6:=H.scalar 18 (.bool true) {s0 with begun:=true} rfl rfl rfl rfl rfl rfl rfl rfl;have K18:Keeps (fun j=>j=b) B (B.setCell ⟨b,18,none⟩ (.bool true)):=Keeps.setCell (S:=fun j=>j=b) (p:=⟨b,18,none⟩) (Keeps.refl _ _) (.inl rfl) _;have S7:=MX.setInput S6.1 ⟨k8,n8,s8,c,X,Y⟩ (yab x) (C5.keep K18 (fun g h e=>h.1 ⟨0,by rw[e];rfl⟩));have Aj:=zh2 S7.1 (H3.o.2.1.trans ((MK.ext H5.o.2).trans (S6.2.trans S7.2)));clear H C5 S6 S7 K18 V U T R Q P O L K J A D;go_upto_region 28 with(fail);refine yaa ?_;intro w6 Aa;have S8:=Aj.o;rw[<-Aa]at S8;have Ac:({s0 with begun:=true,input:=yab x}:MS)=s1:=by rw[<-Ak.o,Al.o];rfl
  have M8:MX TT Z w6 b {v with inp:=⟨k8,n8,s8,c,X,Y⟩} p s1:=Ac▸S8.1;have K8:=S8.2;have I:=Am.o;have RC:=zhd (I w6 _ M8 K8.keeps.size);have An:=zhd K8;clear S8 Ac M8 K8 I Aa f5 b5 i0 i7 i8 i9 Af;go_wp2_with fail;refine RC.o.mono ?_;rintro e w9 ⟨v9,rfl,H9⟩;go_wp2;go_ret;exact⟨v9,rfl,zhd ⟨H9.o.1,An.o.trans H9.o.2⟩⟩
theorem yhU
  {Z:Nat->Prop}(b:Nat)(v:MV)(p:Img)(s:MS)(W:World)(M:MX TT Z W b v p s)
  {N:Nat}(G:Gl Tryz.prog N W)(id t a bb:Int)(nm tx:ByteArray)(x:Val)(vk vn:Int)(vs:ByteArray)(la:Option Addr)(ln lc:Nat)(F:Nat->Prop)(C:CF F W ⟨vk,vn,vs,la,ln,lc⟩ x)(hw:x.wf)
  (hck:yad ⟨id,t,12,a,bb,nm,tx,x⟩=0)(hov:s.over=false)(hbg:s.begun=true)(hF:∀g,F g->¬MO v b g)(hev:s.events<=4294967296)(hZ:∀j,W.heap.size<=j->Z j)
  (hll:s.timers.list.length<=4294967296)
  (s1 r:MS)(hs1:hear {s with now:=t,steps:=0,events:=s.events+1} ⟨id,t,12,a,bb,nm,tx,x⟩=s1)(RT:∀(W':World) (v':MV),MX TT Z W' b v' p s1->W<=W'.heap.size->Calls Tryz.prog 109 #[.pointer (some ⟨b,0,none⟩)] W' (MP Z W' b v' p (.tuple #[]) r))
  :
  Calls Tryz.prog 70 #[.pointer (some ⟨b,0,none⟩),.agg #[id,t,.int .i64 12,a,bb,nm,tx,vk,vn,vs,.slice la ln lc]] W
   (MP Z W b v p (.int .i64 0) r):=by
 have Ai:=zhd RT;clear RT;obtain⟨w0,B⟩:∃w0,w0=W.alloc (.cells #[id,t,.int .i64 12,a,bb,nm,tx,vk,vn,vs,.slice la ln lc] 40):=⟨_,rfl⟩;have B0:=zba B;have hB:=zha B;have C0:=C.keep (S:=fun _=>False) (zkb B0) (fun _ _ f=>f);have n:vk=x.kind:=C.kind;rw[yaA]at hck;dsimp only at hck;rw[<-n]at hck;have EK:=zhd (yaw id t 12 a bb nm tx vk vn vs la ln lc w0 (G.below B0) (checkL x) (fun W' BW=>yaF x vk vn vs la ln lc F W' (C0.keep (S:=fun _=>False) (zkb BW) (fun _ _ f=>f)) hw _ rfl) _ hck);obtain⟨l,i,d,c,Y,X,V,U,T,R,A,D⟩:=zq11 hB;have m:=zh4 M B0 hB C;clear n hck C0 B0 hB C M;go_in;go_wp2_with fail;rw[<-B];clear B;refine EK.o.mono ?_;rintro e w1 ⟨rfl,P⟩;have B1:Below W W w1:=m.o.2.1.trans (P.mono m.o.2.1.size);have L:=(P.block W D).trans m.o.2.2.1;have H1:=zh2 B1 L
 clear P EK l i d c Y X V U T R A D;obtain⟨l,i,d,c,Y,X,V,U,T,R,A,D⟩:=zq11 L;have OU:=zhd (yam id t 12 a bb nm tx vk vn vs la ln lc w1 true rfl);clear B1 L;go_wp2_with fail;refine OU.o.mono ?_;rintro e w2 ⟨rfl,O⟩;have B2:Below W W w2:=H1.o.1.trans (O.mono H1.o.1.size);have K:=(O.block W D).trans H1.o.2;have z:=m.o.1.ext B2;have Q:=zh3 B2 K z;have q:w2.cell? ⟨b,19,none⟩=some (.bool s.over):=z.cell (k:=19) rfl;have u:w2.cell? ⟨b,18,none⟩=some (.bool s.begun):=z.cell (k:=18) rfl;have b2:=zlt z.h;clear O OU l i d c Y X V U T R A D B2 z;have Ah:=zhd hs1;clear hs1;rw[hov]at q;rw[hbg]at u;obtain⟨l,i,d,c,Y,X,V,U,T,R,A,D⟩:=zq11 K;clear hov hbg K
 have Ak:wrap64 ((s.events:Int)+1)=(s.events:Int)+1:=by unfold wrap64;omega
 have Ag:w2.cell? ⟨b,11,none⟩=some (.int .i64 s.now):=Q.o.2.2.cell (k:=11) rfl;have Ae:w2.cell? ⟨b,24,none⟩=some (.int .i64 (s.steps:Int)):=Q.o.2.2.cell (k:=24) rfl;have Af:w2.cell? ⟨b,23,none⟩=some (.int .i64 (s.events:Int)):=Q.o.2.2.cell (k:=23) rfl;have f0:∀o,w2.frozen? ⟨b,o,none⟩=false:=fun o=>Q.o.2.2.frozen o;go_upto_region 5 with(fail);go_region
 all_goals
  go_upto_region 9 with(fail);refine yaa ?_;intro w3 H;have S1:=Q.o.2.2.scalar 11 (.int .i64 t) {s with now:=t} rfl rfl rfl rfl rfl rfl rfl rfl;have S2:=S1.1.scalar 24 (.int .i64 0) {s with now:=t,steps:=0} rfl rfl rfl rfl rfl rfl rfl rfl;have S3:=S2.1.scalar 23 (.int .i64 ((s.events:Int)+1)) {s with now:=t,steps:=0,events:=s.events+1} rfl rfl rfl rfl rfl rfl rfl rfl;have y:=S3.1.ext (znv _ _).drew;have K4:=S3.2.trans (MK.ext (v:=v) (znv _ _).drew);rw[<-H]at y K4;have K3:MK b v W v w3:=(MK.ext Q.o.1).trans (S1.2.trans (S2.2.trans K4));have J:w3.heap[W.heap.size]? =some (.cells #[id,t,.int .i64 12,a,bb,nm,tx,vk,vn,vs,.slice la ln lc] 40 (0,0)):=by
   have nb:W≠b:=fun e=>by have:=zlt m.o.1.h;omega
   rw[H];exact((znn _ _ _ _ nb).trans ((znn _ _ _ _ nb).trans (znn _ _ _ _ nb))).trans Q.o.2.1
  have C3:=m.o.2.2.2.keep K3.keeps hF;obtain⟨E,I⟩:∃E:MS,E={s with now:=t,steps:=0,events:=s.events+1}:=⟨_,rfl⟩;rw[<-I]at y;have Aa:=zhd I;have b3:=zlt y.h;clear l i d c Y X V U T R A D q u Ag Ae Af f0 b2 S1 S2 S3 K4 H I;have H3:=zh4 y K3 C3 J;obtain⟨l,i,d,c,Y,X,V,U,T,R,A,D⟩:=zq11 J;have f3:∀o,w3.frozen? ⟨b,o,none⟩=false:=fun o=>H3.o.1.frozen o;clear y K3 C3 J;have Ab:s1={E with timers:=⟨ycw a 1 yag E.timers.list,E.timers.next⟩}:=by rw[<-Ah.o,Aa.o];rfl
  have Ac:E.timers.list.length<=4294967296:=by rw[Aa.o];exact hll
  have Ad:=yae hZ H3.o.2.1.keeps.size;have EN:=zhd (yjw b v p E w3.drew (H3.o.1.ext (znv _ _).drew) a 1 yag 0 0 ⟨#[]⟩ none 0 0 (fun _=>False) (yaG _ _) (by rw[ydx];decide) Ac Ad s1 Ab);go_upto_region 13 with(fail);go_region_law ((go_simp;go_at_call 108;refine EN.o.mono ?_;rintro e w5 ⟨v5,rfl,H5⟩))
  all_goals
   have RC:=zhd (Ai.o w5 v5 H5.o.1 (znf H3.o.2.1.keeps.size H5.o.2.keeps.size));have Aj:=zhd (H3.o.2.1.trans ((MK.ext (znv w3.heap.size w3).drew).trans H5.o.2));go_wp2_with fail;refine RC.o.mono ?_;rintro e w9 ⟨v9,rfl,H9⟩;go_wp2;go_ret;exact⟨v9,rfl,zhd ⟨H9.o.1,Aj.o.trans H9.o.2⟩⟩
theorem yjL
  {Z:Nat->Prop}(b:Nat)(v:MV)(p:Img)(s:MS)(W:World)(M:MX TT Z W b v p s)
  {N:Nat}(G:Gl Tryz.prog N W)(id t a bb:Int)(nm tx:ByteArray)(x:Val)(vk vn:Int)(vs:ByteArray)(la:Option Addr)(ln lc:Nat)(F:Nat->Prop)(C:CF F W ⟨vk,vn,vs,la,ln,lc⟩ x)(hw:x.wf)
  (hck:yad ⟨id,t,8,a,bb,nm,tx,x⟩=0)(hov:s.over=false)(hbg:s.begun=true)(hF:∀g,F g->¬MO v b g)(hev:s.events<=4294967296)(hZ:∀j,W.heap.size<=j->Z j)
  (hll:s.acts.list.length<=4294967296)(hz:szV x<=1073741824)
  (s1 r:MS)(hs1:hear {s with now:=t,steps:=0,events:=s.events+1} ⟨id,t,8,a,bb,nm,tx,x⟩=s1)(RT:∀(W':World) (v':MV),MX TT Z W' b v' p s1->W<=W'.heap.size->Calls Tryz.prog 109 #[.pointer (some ⟨b,0,none⟩)] W' (MP Z W' b v' p (.tuple #[]) r))
  :
  Calls Tryz.prog 70 #[.pointer (some ⟨b,0,none⟩),.agg #[id,t,.int .i64 8,a,bb,nm,tx,vk,vn,vs,.slice la ln lc]] W
   (MP Z W b v p (.int .i64 0) r):=by
 have Ai:=zhd RT;clear RT;obtain⟨w0,B⟩:∃w0,w0=W.alloc (.cells #[id,t,.int .i64 8,a,bb,nm,tx,vk,vn,vs,.slice la ln lc] 40):=⟨_,rfl⟩;have B0:=zba B;have hB:=zha B;have C0:=C.keep (S:=fun _=>False) (zkb B0) (fun _ _ f=>f);have q:vk=x.kind:=C.kind;rw[yaA]at hck;dsimp only at hck;rw[<-q]at hck;have EK:=zhd (yaw id t 8 a bb nm tx vk vn vs la ln lc w0 (G.below B0) (checkL x) (fun W' BW=>yaF x vk vn vs la ln lc F W' (C0.keep (S:=fun _=>False) (zkb BW) (fun _ _ f=>f)) hw _ rfl) _ hck);obtain⟨l,i,d,c,Y,X,V,U,T,R,A,D⟩:=zq11 hB;have m:=zh4 M B0 hB C;clear q hck C0 B0 hB C M;go_in;go_wp2_with fail;rw[<-B];clear B;refine EK.o.mono ?_;rintro e w1 ⟨rfl,P⟩;have B1:Below W W w1:=m.o.2.1.trans (P.mono m.o.2.1.size);have L:=(P.block W D).trans m.o.2.2.1;have H1:=zh2 B1 L;clear P EK l i d c Y X V U T R A D
 obtain⟨l,i,d,c,Y,X,V,U,T,R,A,D⟩:=zq11 L;have OU:=zhd (yam id t 8 a bb nm tx vk vn vs la ln lc w1 true rfl);clear B1 L;go_wp2_with fail;refine OU.o.mono ?_;rintro e w2 ⟨rfl,O⟩;have B2:Below W W w2:=H1.o.1.trans (O.mono H1.o.1.size);have K:=(O.block W D).trans H1.o.2;have M2:=m.o.1.ext B2;have Q:=zh3 B2 K M2;have u:w2.cell? ⟨b,19,none⟩=some (.bool s.over):=M2.cell (k:=19) rfl;have y:w2.cell? ⟨b,18,none⟩=some (.bool s.begun):=M2.cell (k:=18) rfl;have b2:=zlt M2.h;clear O OU l i d c Y X V U T R A D B2 M2;have Ah:=zhd hs1;clear hs1;rw[hov]at u;rw[hbg]at y;obtain⟨l,i,d,c,Y,X,V,U,T,R,A,D⟩:=zq11 K;clear hov hbg K
 have Ak:wrap64 ((s.events:Int)+1)=(s.events:Int)+1:=by unfold wrap64;omega
 have Ag:w2.cell? ⟨b,11,none⟩=some (.int .i64 s.now):=Q.o.2.2.cell (k:=11) rfl;have Ae:w2.cell? ⟨b,24,none⟩=some (.int .i64 (s.steps:Int)):=Q.o.2.2.cell (k:=24) rfl;have Af:w2.cell? ⟨b,23,none⟩=some (.int .i64 (s.events:Int)):=Q.o.2.2.cell (k:=23) rfl;have f0:∀o,w2.frozen? ⟨b,o,none⟩=false:=fun o=>Q.o.2.2.frozen o;go_upto_region 5 with(fail);go_region
 all_goals
  go_upto_region 9 with(fail);refine yaa ?_;intro w3 H;have S1:=Q.o.2.2.scalar 11 (.int .i64 t) {s with now:=t} rfl rfl rfl rfl rfl rfl rfl rfl;have S2:=S1.1.scalar 24 (.int .i64 0) {s with now:=t,steps:=0} rfl rfl rfl rfl rfl rfl rfl rfl;have S3:=S2.1.scalar 23 (.int .i64 ((s.events:Int)+1)) {s with now:=t,steps:=0,events:=s.events+1} rfl rfl rfl rfl rfl rfl rfl rfl;have z:=S3.1.ext (znv _ _).drew;have K4:=S3.2.trans (MK.ext (v:=v) (znv _ _).drew);rw[<-H]at z K4;have K3:MK b v W v w3:=(MK.ext Q.o.1).trans (S1.2.trans (S2.2.trans K4));have J:w3.heap[W.heap.size]? =some (.cells #[id,t,.int .i64 8,a,bb,nm,tx,vk,vn,vs,.slice la ln lc] 40 (0,0)):=by
   have nb:W≠b:=fun e=>by have:=zlt m.o.1.h;omega
   rw[H];exact((znn _ _ _ _ nb).trans ((znn _ _ _ _ nb).trans (znn _ _ _ _ nb))).trans Q.o.2.1
  have C3:=m.o.2.2.2.keep K3.keeps hF;obtain⟨E,I⟩:∃E:MS,E={s with now:=t,steps:=0,events:=s.events+1}:=⟨_,rfl⟩;rw[<-I]at z;have Aa:=zhd I;have b3:=zlt z.h;clear l i d c Y X V U T R A D u y Ag Ae Af f0 b2 S1 S2 S3 K4 H I;have n:=zh4 z K3 C3 J;obtain⟨l,i,d,c,Y,X,V,U,T,R,A,D⟩:=zq11 J;have f3:∀o,w3.frozen? ⟨b,o,none⟩=false:=fun o=>n.o.1.frozen o;clear z K3 C3 J;have Ab:s1={E with acts:=⟨ycw a 1 x E.acts.list,E.acts.next⟩}:=by rw[<-Ah.o,Aa.o];rfl
  have Ac:E.acts.list.length<=4294967296:=by rw[Aa.o];exact hll
  have Ad:=yae hZ n.o.2.1.keeps.size;have EN:=zhd (ydp b v p E w3.drew (n.o.1.ext (znv _ _).drew) a 1 x vk vn vs la ln lc F (n.o.2.2.1.keep (S:=fun _=>False) (zkb (znv _ _).drew) (fun _ _ f=>f)) hz Ac Ad s1 Ab);go_upto_region 15 with(fail);go_region_law ((go_simp;go_at_call 108;refine EN.o.mono ?_;rintro e w5 ⟨v5,rfl,H5⟩))
  all_goals
   have RC:=zhd (Ai.o w5 v5 H5.o.1 (znf n.o.2.1.keeps.size H5.o.2.keeps.size));have Aj:=zhd (n.o.2.1.trans ((MK.ext (znv w3.heap.size w3).drew).trans H5.o.2));go_wp2_with fail;refine RC.o.mono ?_;rintro e w9 ⟨v9,rfl,H9⟩;go_wp2;go_ret;exact⟨v9,rfl,zhd ⟨H9.o.1,Aj.o.trans H9.o.2⟩⟩
theorem yjJ
  {Z:Nat->Prop}(b:Nat)(v:MV)(p:Img)(s:MS)(W:World)(M:MX TT Z W b v p s)
  {N:Nat}(G:Gl Tryz.prog N W)(id t a bb:Int)(nm tx:ByteArray)(x:Val)(vk vn:Int)(vs:ByteArray)(la:Option Addr)(ln lc:Nat)(F:Nat->Prop)(C:CF F W ⟨vk,vn,vs,la,ln,lc⟩ x)(hw:x.wf)
  (hck:yad ⟨id,t,10,a,bb,nm,tx,x⟩=0)(hov:s.over=false)(hbg:s.begun=true)(hF:∀g,F g->¬MO v b g)(hev:s.events<=4294967296)(hZ:∀j,W.heap.size<=j->Z j)
  (hll:s.acts.list.length<=4294967296)
  (s1 r:MS)(hs1:hear {s with now:=t,steps:=0,events:=s.events+1} ⟨id,t,10,a,bb,nm,tx,x⟩=s1)(RT:∀(W':World) (v':MV),MX TT Z W' b v' p s1->W<=W'.heap.size->Calls Tryz.prog 109 #[.pointer (some ⟨b,0,none⟩)] W' (MP Z W' b v' p (.tuple #[]) r))
  :
  Calls Tryz.prog 70 #[.pointer (some ⟨b,0,none⟩),.agg #[id,t,.int .i64 10,a,bb,nm,tx,vk,vn,vs,.slice la ln lc]] W
   (MP Z W b v p (.int .i64 0) r):=by
 have Ai:=zhd RT;clear RT;obtain⟨w0,B⟩:∃w0,w0=W.alloc (.cells #[id,t,.int .i64 10,a,bb,nm,tx,vk,vn,vs,.slice la ln lc] 40):=⟨_,rfl⟩;have B0:=zba B;have hB:=zha B;have C0:=C.keep (S:=fun _=>False) (zkb B0) (fun _ _ f=>f);have n:vk=x.kind:=C.kind;rw[yaA]at hck;dsimp only at hck;rw[<-n]at hck;have EK:=zhd (yaw id t 10 a bb nm tx vk vn vs la ln lc w0 (G.below B0) (checkL x) (fun W' BW=>yaF x vk vn vs la ln lc F W' (C0.keep (S:=fun _=>False) (zkb BW) (fun _ _ f=>f)) hw _ rfl) _ hck);obtain⟨l,i,d,c,Y,X,V,U,T,R,A,D⟩:=zq11 hB;have m:=zh4 M B0 hB C;clear n hck C0 B0 hB C M;go_in;go_wp2_with fail;rw[<-B];clear B;refine EK.o.mono ?_;rintro e w1 ⟨rfl,P⟩;have B1:Below W W w1:=m.o.2.1.trans (P.mono m.o.2.1.size);have L:=(P.block W D).trans m.o.2.2.1;have H1:=zh2 B1 L
 clear P EK l i d c Y X V U T R A D;obtain⟨l,i,d,c,Y,X,V,U,T,R,A,D⟩:=zq11 L;have OU:=zhd (yam id t 10 a bb nm tx vk vn vs la ln lc w1 true rfl);clear B1 L;go_wp2_with fail;refine OU.o.mono ?_;rintro e w2 ⟨rfl,O⟩;have B2:Below W W w2:=H1.o.1.trans (O.mono H1.o.1.size);have K:=(O.block W D).trans H1.o.2;have z:=m.o.1.ext B2;have Q:=zh3 B2 K z;have q:w2.cell? ⟨b,19,none⟩=some (.bool s.over):=z.cell (k:=19) rfl;have u:w2.cell? ⟨b,18,none⟩=some (.bool s.begun):=z.cell (k:=18) rfl;have b2:=zlt z.h;clear O OU l i d c Y X V U T R A D B2 z;have Ah:=zhd hs1;clear hs1;rw[hov]at q;rw[hbg]at u;obtain⟨l,i,d,c,Y,X,V,U,T,R,A,D⟩:=zq11 K;clear hov hbg K
 have Ak:wrap64 ((s.events:Int)+1)=(s.events:Int)+1:=by unfold wrap64;omega
 have Ag:w2.cell? ⟨b,11,none⟩=some (.int .i64 s.now):=Q.o.2.2.cell (k:=11) rfl;have Ae:w2.cell? ⟨b,24,none⟩=some (.int .i64 (s.steps:Int)):=Q.o.2.2.cell (k:=24) rfl;have Af:w2.cell? ⟨b,23,none⟩=some (.int .i64 (s.events:Int)):=Q.o.2.2.cell (k:=23) rfl;have f0:∀o,w2.frozen? ⟨b,o,none⟩=false:=fun o=>Q.o.2.2.frozen o;go_upto_region 5 with(fail);go_region
 all_goals
  go_upto_region 9 with(fail);refine yaa ?_;intro w3 H;have S1:=Q.o.2.2.scalar 11 (.int .i64 t) {s with now:=t} rfl rfl rfl rfl rfl rfl rfl rfl;have S2:=S1.1.scalar 24 (.int .i64 0) {s with now:=t,steps:=0} rfl rfl rfl rfl rfl rfl rfl rfl;have S3:=S2.1.scalar 23 (.int .i64 ((s.events:Int)+1)) {s with now:=t,steps:=0,events:=s.events+1} rfl rfl rfl rfl rfl rfl rfl rfl;have y:=S3.1.ext (znv _ _).drew;have K4:=S3.2.trans (MK.ext (v:=v) (znv _ _).drew);rw[<-H]at y K4;have K3:MK b v W v w3:=(MK.ext Q.o.1).trans (S1.2.trans (S2.2.trans K4));have J:w3.heap[W.heap.size]? =some (.cells #[id,t,.int .i64 10,a,bb,nm,tx,vk,vn,vs,.slice la ln lc] 40 (0,0)):=by
   have nb:W≠b:=fun e=>by have:=zlt m.o.1.h;omega
   rw[H];exact((znn _ _ _ _ nb).trans ((znn _ _ _ _ nb).trans (znn _ _ _ _ nb))).trans Q.o.2.1
  have C3:=m.o.2.2.2.keep K3.keeps hF;obtain⟨E,I⟩:∃E:MS,E={s with now:=t,steps:=0,events:=s.events+1}:=⟨_,rfl⟩;rw[<-I]at y;have Aa:=zhd I;have b3:=zlt y.h;clear l i d c Y X V U T R A D q u Ag Ae Af f0 b2 S1 S2 S3 K4 H I;have H3:=zh4 y K3 C3 J;obtain⟨l,i,d,c,Y,X,V,U,T,R,A,D⟩:=zq11 J;have f3:∀o,w3.frozen? ⟨b,o,none⟩=false:=fun o=>H3.o.1.frozen o;clear y K3 C3 J;have Ab:s1={E with acts:=⟨ycw a (-1) yag E.acts.list,E.acts.next⟩}:=by rw[<-Ah.o,Aa.o];rfl
  have Ac:E.acts.list.length<=4294967296:=by rw[Aa.o];exact hll
  have Ad:=yae hZ H3.o.2.1.keeps.size;have EN:=zhd (ydp b v p E w3.drew (H3.o.1.ext (znv _ _).drew) a (-1) yag 0 0 ⟨#[]⟩ none 0 0 (fun _=>False) (yaG _ _) (by rw[ydx];decide) Ac Ad s1 Ab);go_upto_region 19 with(fail);go_region_law ((go_simp;go_at_call 108;refine EN.o.mono ?_;rintro e w5 ⟨v5,rfl,H5⟩))
  all_goals
   have RC:=zhd (Ai.o w5 v5 H5.o.1 (znf H3.o.2.1.keeps.size H5.o.2.keeps.size));have Aj:=zhd (H3.o.2.1.trans ((MK.ext (znv w3.heap.size w3).drew).trans H5.o.2));go_wp2_with fail;refine RC.o.mono ?_;rintro e w9 ⟨v9,rfl,H9⟩;go_wp2;go_ret;exact⟨v9,rfl,zhd ⟨H9.o.1,Aj.o.trans H9.o.2⟩⟩
theorem ygL
  {Z:Nat->Prop}(b:Nat)(v:MV)(p:Img)(s:MS)(W:World)(M:MX TT Z W b v p s)
  {N:Nat}(G:Gl Tryz.prog N W)(id t a bb:Int)(nm tx:ByteArray)(x:Val)(vk vn:Int)(vs:ByteArray)(la:Option Addr)(ln lc:Nat)(F:Nat->Prop)(C:CF F W ⟨vk,vn,vs,la,ln,lc⟩ x)(hw:x.wf)
  (hck:yad ⟨id,t,9,a,bb,nm,tx,x⟩=0)(hov:s.over=false)(hbg:s.begun=true)(hF:∀g,F g->¬MO v b g)(hev:s.events<=4294967296)(hZ:∀j,W.heap.size<=j->Z j)
  (hll:s.acts.list.length<=4294967296)(hnm:nm.size<=64)
  (s1 r:MS)(hs1:hear {s with now:=t,steps:=0,events:=s.events+1} ⟨id,t,9,a,bb,nm,tx,x⟩=s1)(RT:∀(W':World) (v':MV),MX TT Z W' b v' p s1->W<=W'.heap.size->Calls Tryz.prog 109 #[.pointer (some ⟨b,0,none⟩)] W' (MP Z W' b v' p (.tuple #[]) r))
  :
  Calls Tryz.prog 70 #[.pointer (some ⟨b,0,none⟩),.agg #[id,t,.int .i64 9,a,bb,nm,tx,vk,vn,vs,.slice la ln lc]] W
   (MP Z W b v p (.int .i64 0) r):=by
 have Al:=zhd RT;clear RT;obtain⟨w0,E⟩:∃w0,w0=W.alloc (.cells #[id,t,.int .i64 9,a,bb,nm,tx,vk,vn,vs,.slice la ln lc] 40):=⟨_,rfl⟩;have B0:=zba E;have hB:=zha E;have C0:=C.keep (S:=fun _=>False) (zkb B0) (fun _ _ f=>f);have z:vk=x.kind:=C.kind;rw[yaA]at hck;dsimp only at hck;rw[<-z]at hck;have EK:=zhd (yaw id t 9 a bb nm tx vk vn vs la ln lc w0 (G.below B0) (checkL x) (fun W' BW=>yaF x vk vn vs la ln lc F W' (C0.keep (S:=fun _=>False) (zkb BW) (fun _ _ f=>f)) hw _ rfl) _ hck);obtain⟨n,m,l,i,d,c,Y,X,V,U,A,D⟩:=zq11 hB;have q:=zh4 M B0 hB C;clear z hck C0 B0 hB C M;go_in;go_wp2_with fail;rw[<-E];clear E;refine EK.o.mono ?_;rintro e w1 ⟨rfl,R⟩;have B1:Below W W w1:=q.o.2.1.trans (R.mono q.o.2.1.size);have P:=(R.block W D).trans q.o.2.2.1;have H1:=zh2 B1 P;clear R EK n m l i d c Y X V U A D
 obtain⟨n,m,l,i,d,c,Y,X,V,U,A,D⟩:=zq11 P;have OU:=zhd (yam id t 9 a bb nm tx vk vn vs la ln lc w1 true rfl);clear B1 P;go_wp2_with fail;refine OU.o.mono ?_;rintro e w2 ⟨rfl,Q⟩;have B2:Below W W w2:=H1.o.1.trans (Q.mono H1.o.1.size);have O:=(Q.block W D).trans H1.o.2;have M2:=q.o.1.ext B2;have T:=zh3 B2 O M2;have Ab:w2.cell? ⟨b,19,none⟩=some (.bool s.over):=M2.cell (k:=19) rfl;have Ac:w2.cell? ⟨b,18,none⟩=some (.bool s.begun):=M2.cell (k:=18) rfl;have b2:=zlt M2.h;clear Q OU n m l i d c Y X V U A D B2 M2;have Ak:=zhd hs1;clear hs1;rw[hov]at Ab;rw[hbg]at Ac;obtain⟨n,m,l,i,d,c,Y,X,V,U,A,D⟩:=zq11 O;clear hov hbg O
 have An:wrap64 ((s.events:Int)+1)=(s.events:Int)+1:=by unfold wrap64;omega
 have Aj:w2.cell? ⟨b,11,none⟩=some (.int .i64 s.now):=T.o.2.2.cell (k:=11) rfl;have Ah:w2.cell? ⟨b,24,none⟩=some (.int .i64 (s.steps:Int)):=T.o.2.2.cell (k:=24) rfl;have Ai:w2.cell? ⟨b,23,none⟩=some (.int .i64 (s.events:Int)):=T.o.2.2.cell (k:=23) rfl;have f0:∀o,w2.frozen? ⟨b,o,none⟩=false:=fun o=>T.o.2.2.frozen o;go_upto_region 5 with(fail);go_region
 all_goals
  go_upto_region 9 with(fail);refine yaa ?_;intro w3 I;have S1:=T.o.2.2.scalar 11 (.int .i64 t) {s with now:=t} rfl rfl rfl rfl rfl rfl rfl rfl;have S2:=S1.1.scalar 24 (.int .i64 0) {s with now:=t,steps:=0} rfl rfl rfl rfl rfl rfl rfl rfl;have S3:=S2.1.scalar 23 (.int .i64 ((s.events:Int)+1)) {s with now:=t,steps:=0,events:=s.events+1} rfl rfl rfl rfl rfl rfl rfl rfl;have S4:=S3.1.ext (znv _ _).drew;have K4:=S3.2.trans (MK.ext (v:=v) (znv _ _).drew);rw[<-I]at S4 K4;have K3:MK b v W v w3:=(MK.ext T.o.1).trans (S1.2.trans (S2.2.trans K4));have L:w3.heap[W.heap.size]? =some (.cells #[id,t,.int .i64 9,a,bb,nm,tx,vk,vn,vs,.slice la ln lc] 40 (0,0)):=by
   have nb:W≠b:=fun e=>by have:=zlt q.o.1.h;omega
   rw[I];exact((znn _ _ _ _ nb).trans ((znn _ _ _ _ nb).trans (znn _ _ _ _ nb))).trans T.o.2.1
  have C3:=q.o.2.2.2.keep K3.keeps hF;obtain⟨H,J⟩:∃H:MS,H={s with now:=t,steps:=0,events:=s.events+1}:=⟨_,rfl⟩;rw[<-J]at S4;have Ad:=zhd J;have b3:=zlt S4.h;clear n m l i d c Y X V U A D Ab Ac Aj Ah Ai f0 b2 S1 S2 S3 K4 I J;have u:=zh4 S4 K3 C3 L;obtain⟨n,m,l,i,d,c,Y,X,V,U,A,D⟩:=zq11 L;have f3:∀o,w3.frozen? ⟨b,o,none⟩=false:=fun o=>u.o.1.frozen o;clear S4 K3 C3 L;have Ae:s1={H with acts:=⟨ycw a 0 (ybX nm) H.acts.list,H.acts.next⟩}:=by rw[<-Ak.o,Ad.o];rfl
  have Af:H.acts.list.length<=4294967296:=by rw[Ad.o];exact hll
  have Ag:=yae hZ u.o.2.1.keeps.size;have VT:=zhd (yfS nm w3.drew);have EN:=zhd (fun y (B:Below w3 w3 y)=>ydp b v p H y (u.o.1.ext B) a 0 (ybX nm) 2 0 nm none 0 0 (fun _=>False) (ylf _ _ _) (by rw[ydx];show 4*nm.size+30<=_;omega) Af (yae Ag B.size) s1 Ae);clear hnm;go_upto_region 17 with(fail);go_region_law (first
   |(go_simp;go_at_call 32;refine VT.o.mono ?_;rintro e y ⟨rfl,Aa⟩;have B4:=(znw ((znv w3.heap.size w3).drew) Aa);have K:=(B4.block W D).trans u.o.2.2.2;have r3:y.cell? ⟨W,3,none⟩=some (.int .i64 a):=(by rw[zch K];rfl);have rl:=zlt K;have H4:=zhd B4;clear Aa B4 K)
   |(go_simp;go_at_call 108;refine(EN.o y H4.o).mono ?_;rintro e w5 ⟨v5,rfl,H5⟩))
  all_goals
   have RC:=zhd (Al.o w5 v5 H5.o.1 (znf u.o.2.1.keeps.size (znf H4.o.size H5.o.2.keeps.size)));have Am:=zhd (u.o.2.1.trans ((MK.ext H4.o).trans H5.o.2));go_wp2_with fail;refine RC.o.mono ?_;rintro e w9 ⟨v9,rfl,H9⟩;go_wp2;go_ret;exact⟨v9,rfl,zhd ⟨H9.o.1,Am.o.trans H9.o.2⟩⟩
theorem yhW
  {Z:Nat->Prop}(b:Nat)(v:MV)(p:Img)(s:MS)(W:World)(M:MX TT Z W b v p s)
  {N:Nat}(G:Gl Tryz.prog N W)(id t a bb:Int)(nm tx:ByteArray)(x:Val)(vk vn:Int)(vs:ByteArray)(la:Option Addr)(ln lc:Nat)(F:Nat->Prop)(C:CF F W ⟨vk,vn,vs,la,ln,lc⟩ x)(hw:x.wf)
  (hck:yad ⟨id,t,15,a,bb,nm,tx,x⟩=0)(hov:s.over=false)(hbg:s.begun=true)(hF:∀g,F g->¬MO v b g)(hev:s.events<=4294967296)
  (s1 r:MS)(hs1:hear {s with now:=t,steps:=0,events:=s.events+1} ⟨id,t,15,a,bb,nm,tx,x⟩=s1)(RT:∀(W':World) (v':MV),MX TT Z W' b v' p s1->W<=W'.heap.size->Calls Tryz.prog 109 #[.pointer (some ⟨b,0,none⟩)] W' (MP Z W' b v' p (.tuple #[]) r))
  :
  Calls Tryz.prog 70 #[.pointer (some ⟨b,0,none⟩),.agg #[id,t,.int .i64 15,a,bb,nm,tx,vk,vn,vs,.slice la ln lc]] W
   (MP Z W b v p (.int .i64 0) r):=by
 have Af:=zhd RT;clear RT;obtain⟨w0,D⟩:∃w0,w0=W.alloc (.cells #[id,t,.int .i64 15,a,bb,nm,tx,vk,vn,vs,.slice la ln lc] 40):=⟨_,rfl⟩;have B0:=zba D;have hB:=zha D;have C0:=C.keep (S:=fun _=>False) (zkb B0) (fun _ _ f=>f);have n:vk=x.kind:=C.kind;rw[yaA]at hck;dsimp only at hck;rw[<-n]at hck;have EK:=zhd (yaw id t 15 a bb nm tx vk vn vs la ln lc w0 (G.below B0) (checkL x) (fun W' BW=>yaF x vk vn vs la ln lc F W' (C0.keep (S:=fun _=>False) (zkb BW) (fun _ _ f=>f)) hw _ rfl) _ hck);obtain⟨j,i,d,c,Y,X,V,U,T,R,A,E⟩:=zq11 hB;have l:=zh4 M B0 hB C;clear n hck C0 B0 hB C M;go_in;go_wp2_with fail;rw[<-D];clear D;refine EK.o.mono ?_;rintro e w1 ⟨rfl,P⟩;have B1:Below W W w1:=l.o.2.1.trans (P.mono l.o.2.1.size);have L:=(P.block W E).trans l.o.2.2.1;have H1:=zh2 B1 L
 clear P EK j i d c Y X V U T R A E;obtain⟨j,i,d,c,Y,X,V,U,T,R,A,E⟩:=zq11 L;have OU:=zhd (yam id t 15 a bb nm tx vk vn vs la ln lc w1 true rfl);clear B1 L;go_wp2_with fail;refine OU.o.mono ?_;rintro e w2 ⟨rfl,O⟩;have B2:Below W W w2:=H1.o.1.trans (O.mono H1.o.1.size);have K:=(O.block W E).trans H1.o.2;have z:=l.o.1.ext B2;have Q:=zh3 B2 K z;have u:w2.cell? ⟨b,19,none⟩=some (.bool s.over):=z.cell (k:=19) rfl;have y:w2.cell? ⟨b,18,none⟩=some (.bool s.begun):=z.cell (k:=18) rfl;have b2:=zlt z.h;clear O OU j i d c Y X V U T R A E B2 z;have Ad:=zhd hs1;clear hs1;rw[hov]at u;rw[hbg]at y;obtain⟨j,i,d,c,Y,X,V,U,T,R,A,E⟩:=zq11 K;clear hov hbg K
 have Ah:wrap64 ((s.events:Int)+1)=(s.events:Int)+1:=by unfold wrap64;omega
 have Ac:w2.cell? ⟨b,11,none⟩=some (.int .i64 s.now):=Q.o.2.2.cell (k:=11) rfl;have Aa:w2.cell? ⟨b,24,none⟩=some (.int .i64 (s.steps:Int)):=Q.o.2.2.cell (k:=24) rfl;have Ab:w2.cell? ⟨b,23,none⟩=some (.int .i64 (s.events:Int)):=Q.o.2.2.cell (k:=23) rfl;have f0:∀o,w2.frozen? ⟨b,o,none⟩=false:=fun o=>Q.o.2.2.frozen o;go_upto_region 5 with(fail);go_region
 all_goals
  go_upto_region 9 with(fail);refine yaa ?_;intro w3 H;have S1:=Q.o.2.2.scalar 11 (.int .i64 t) {s with now:=t} rfl rfl rfl rfl rfl rfl rfl rfl;have S2:=S1.1.scalar 24 (.int .i64 0) {s with now:=t,steps:=0} rfl rfl rfl rfl rfl rfl rfl rfl;have S3:=S2.1.scalar 23 (.int .i64 ((s.events:Int)+1)) {s with now:=t,steps:=0,events:=s.events+1} rfl rfl rfl rfl rfl rfl rfl rfl;have B:=S3.1.ext (znv _ _).drew;have K4:=S3.2.trans (MK.ext (v:=v) (znv _ _).drew);rw[<-H]at B K4;have K3:MK b v W v w3:=(MK.ext Q.o.1).trans (S1.2.trans (S2.2.trans K4));have J:w3.heap[W.heap.size]? =some (.cells #[id,t,.int .i64 15,a,bb,nm,tx,vk,vn,vs,.slice la ln lc] 40 (0,0)):=by
   have nb:W≠b:=fun e=>by have:=zlt l.o.1.h;omega
   rw[H];exact((znn _ _ _ _ nb).trans ((znn _ _ _ _ nb).trans (znn _ _ _ _ nb))).trans Q.o.2.1
  have C3:=l.o.2.2.2.keep K3.keeps hF;obtain⟨m,I⟩:∃m:MS,m={s with now:=t,steps:=0,events:=s.events+1}:=⟨_,rfl⟩;rw[<-I]at B;have Ae:=zhd I;have b3:=zlt B.h;clear j i d c Y X V U T R A E u y Ac Aa Ab f0 b2 S1 S2 S3 K4 H I;have H3:=zh4 B K3 C3 J;obtain⟨j,i,d,c,Y,X,V,U,T,R,A,E⟩:=zq11 J;have f3:∀o,w3.frozen? ⟨b,o,none⟩=false:=fun o=>H3.o.1.frozen o;clear B K3 C3 J;have q:{m with asked:=true}=s1:=by rw[<-Ad.o,Ae.o];rfl
  have B:=H3.o.1.scalar 17 (.bool true) {m with asked:=true} rfl rfl rfl rfl rfl rfl rfl rfl;rw[q]at B;have i0:w3.cell? ⟨b,17,none⟩=some (.bool m.asked):=H3.o.1.cell (k:=17) rfl;have RC:=zhd (Af.o _ v B.1 (znf H3.o.2.1.keeps.size B.2.keeps.size));have Ag:=zhd (H3.o.2.1.trans B.2);have Ai:=zhd B;clear B q;go_wp2_with fail;refine RC.o.mono ?_;rintro e w9 ⟨v9,rfl,H9⟩;go_wp2;go_ret;exact⟨v9,rfl,zhd ⟨H9.o.1,Ag.o.trans H9.o.2⟩⟩
theorem yhV
  {Z:Nat->Prop}(b:Nat)(v:MV)(p:Img)(s:MS)(W:World)(M:MX TT Z W b v p s)
  {N:Nat}(G:Gl Tryz.prog N W)(id t a bb:Int)(nm tx:ByteArray)(x:Val)(vk vn:Int)(vs:ByteArray)(la:Option Addr)(ln lc:Nat)(F:Nat->Prop)(C:CF F W ⟨vk,vn,vs,la,ln,lc⟩ x)(hw:x.wf)
  (hck:yad ⟨id,t,19,a,bb,nm,tx,x⟩=0)(hov:s.over=false)(hbg:s.begun=true)(hF:∀g,F g->¬MO v b g)(hev:s.events<=4294967296)
  (s1:MS)(hs1:hear {s with now:=t,steps:=0,events:=s.events+1} ⟨id,t,19,a,bb,nm,tx,x⟩=s1):
  Calls Tryz.prog 70 #[.pointer (some ⟨b,0,none⟩),.agg #[id,t,.int .i64 19,a,bb,nm,tx,vk,vn,vs,.slice la ln lc]] W
   (MP Z W b v p (.int .i64 0) s1):=by
 obtain⟨w0,B⟩:∃w0,w0=W.alloc (.cells #[id,t,.int .i64 19,a,bb,nm,tx,vk,vn,vs,.slice la ln lc] 40):=⟨_,rfl⟩;have B0:=zba B;have hB:=zha B;have C0:=C.keep (S:=fun _=>False) (zkb B0) (fun _ _ f=>f);have n:vk=x.kind:=C.kind;rw[yaA]at hck;dsimp only at hck;rw[<-n]at hck;have EK:=zhd (yaw id t 19 a bb nm tx vk vn vs la ln lc w0 (G.below B0) (checkL x) (fun W' BW=>yaF x vk vn vs la ln lc F W' (C0.keep (S:=fun _=>False) (zkb BW) (fun _ _ f=>f)) hw _ rfl) _ hck);obtain⟨j,i,d,c,Y,X,V,U,T,R,A,E⟩:=zq11 hB;have l:=zh4 M B0 hB C;clear n hck C0 B0 hB C M;go_in;go_wp2_with fail;rw[<-B];clear B;refine EK.o.mono ?_;rintro e w1 ⟨rfl,P⟩;have B1:Below W W w1:=l.o.2.1.trans (P.mono l.o.2.1.size);have L:=(P.block W E).trans l.o.2.2.1;have H1:=zh2 B1 L;clear P EK j i d c Y X V U T R A E;obtain⟨j,i,d,c,Y,X,V,U,T,R,A,E⟩:=zq11 L;have OU:=zhd (yam id t 19 a bb nm tx vk vn vs la ln lc w1 true rfl);clear B1 L;go_wp2_with fail;refine OU.o.mono ?_;rintro e w2 ⟨rfl,O⟩;have B2:Below W W w2:=H1.o.1.trans (O.mono H1.o.1.size);have K:=(O.block W E).trans H1.o.2;have y:=l.o.1.ext B2;have Q:=zh3 B2 K y;have r:w2.cell? ⟨b,19,none⟩=some (.bool s.over):=y.cell (k:=19) rfl;have u:w2.cell? ⟨b,18,none⟩=some (.bool s.begun):=y.cell (k:=18) rfl;have b2:=zlt y.h;clear O OU j i d c Y X V U T R A E B2 y;have Ad:=zhd hs1;clear hs1;rw[hov]at r;rw[hbg]at u;obtain⟨j,i,d,c,Y,X,V,U,T,R,A,E⟩:=zq11 K;clear hov hbg K
 have Af:wrap64 ((s.events:Int)+1)=(s.events:Int)+1:=by unfold wrap64;omega
 have Ac:w2.cell? ⟨b,11,none⟩=some (.int .i64 s.now):=Q.o.2.2.cell (k:=11) rfl;have Aa:w2.cell? ⟨b,24,none⟩=some (.int .i64 (s.steps:Int)):=Q.o.2.2.cell (k:=24) rfl;have Ab:w2.cell? ⟨b,23,none⟩=some (.int .i64 (s.events:Int)):=Q.o.2.2.cell (k:=23) rfl;have f0:∀o,w2.frozen? ⟨b,o,none⟩=false:=fun o=>Q.o.2.2.frozen o;go_upto_region 5 with(fail);go_region
 all_goals
  go_upto_region 9 with(fail);refine yaa ?_;intro w3 H;have S1:=Q.o.2.2.scalar 11 (.int .i64 t) {s with now:=t} rfl rfl rfl rfl rfl rfl rfl rfl;have S2:=S1.1.scalar 24 (.int .i64 0) {s with now:=t,steps:=0} rfl rfl rfl rfl rfl rfl rfl rfl;have S3:=S2.1.scalar 23 (.int .i64 ((s.events:Int)+1)) {s with now:=t,steps:=0,events:=s.events+1} rfl rfl rfl rfl rfl rfl rfl rfl;have D:=S3.1.ext (znv _ _).drew;have K4:=S3.2.trans (MK.ext (v:=v) (znv _ _).drew);rw[<-H]at D K4;have K3:MK b v W v w3:=(MK.ext Q.o.1).trans (S1.2.trans (S2.2.trans K4));have J:w3.heap[W.heap.size]? =some (.cells #[id,t,.int .i64 19,a,bb,nm,tx,vk,vn,vs,.slice la ln lc] 40 (0,0)):=by
   have nb:W≠b:=fun e=>by have:=zlt l.o.1.h;omega
   rw[H];exact((znn _ _ _ _ nb).trans ((znn _ _ _ _ nb).trans (znn _ _ _ _ nb))).trans Q.o.2.1
  have C3:=l.o.2.2.2.keep K3.keeps hF;obtain⟨m,I⟩:∃m:MS,m={s with now:=t,steps:=0,events:=s.events+1}:=⟨_,rfl⟩;rw[<-I]at D;have Ae:=zhd I;have b3:=zlt D.h;clear j i d c Y X V U T R A E r u Ac Aa Ab f0 b2 S1 S2 S3 K4 H I;have H3:=zh4 D K3 C3 J;obtain⟨j,i,d,c,Y,X,V,U,T,R,A,E⟩:=zq11 J;have f3:∀o,w3.frozen? ⟨b,o,none⟩=false:=fun o=>H3.o.1.frozen o;clear D K3 C3 J;have q:{m with over:=true}=s1:=by rw[<-Ad.o,Ae.o];rfl
  have D:=H3.o.1.scalar 19 (.bool true) {m with over:=true} rfl rfl rfl rfl rfl rfl rfl rfl;rw[q]at D;have i0:w3.cell? ⟨b,19,none⟩=some (.bool m.over):=H3.o.1.cell (k:=19) rfl;have z:=zhd D;clear D q;go_wp2;go_ret;exact⟨v,rfl,zhd ⟨z.o.1,H3.o.2.1.trans z.o.2⟩⟩
theorem yhQ
  {Z:Nat->Prop}(b:Nat)(v:MV)(p:Img)(s:MS)(W:World)(M:MX TT Z W b v p s)
  {N:Nat}(G:Gl Tryz.prog N W)(id t a bb:Int)(nm tx:ByteArray)(x:Val)(vk vn:Int)(vs:ByteArray)(la:Option Addr)(ln lc:Nat)(F:Nat->Prop)(C:CF F W ⟨vk,vn,vs,la,ln,lc⟩ x)(hw:x.wf)
  (hck:yad ⟨id,t,20,a,bb,nm,tx,x⟩=0)(hov:s.over=false)(hbg:s.begun=true)(hF:∀g,F g->¬MO v b g)(hev:s.events<=4294967296)
  (s1:MS)(hs1:hear {s with now:=t,steps:=0,events:=s.events+1} ⟨id,t,20,a,bb,nm,tx,x⟩=s1):
  Calls Tryz.prog 70 #[.pointer (some ⟨b,0,none⟩),.agg #[id,t,.int .i64 20,a,bb,nm,tx,vk,vn,vs,.slice la ln lc]] W
   (MP Z W b v p (.int .i64 0) s1):=by
 obtain⟨w0,B⟩:∃w0,w0=W.alloc (.cells #[id,t,.int .i64 20,a,bb,nm,tx,vk,vn,vs,.slice la ln lc] 40):=⟨_,rfl⟩;have B0:=zba B;have hB:=zha B;have C0:=C.keep (S:=fun _=>False) (zkb B0) (fun _ _ f=>f);have n:vk=x.kind:=C.kind;rw[yaA]at hck;dsimp only at hck;rw[<-n]at hck;have EK:=zhd (yaw id t 20 a bb nm tx vk vn vs la ln lc w0 (G.below B0) (checkL x) (fun W' BW=>yaF x vk vn vs la ln lc F W' (C0.keep (S:=fun _=>False) (zkb BW) (fun _ _ f=>f)) hw _ rfl) _ hck);obtain⟨j,i,d,c,Y,X,V,U,T,R,A,E⟩:=zq11 hB;have l:=zh4 M B0 hB C;clear n hck C0 B0 hB C M;go_in;go_wp2_with fail;rw[<-B];clear B;refine EK.o.mono ?_;rintro e w1 ⟨rfl,P⟩;have B1:Below W W w1:=l.o.2.1.trans (P.mono l.o.2.1.size);have L:=(P.block W E).trans l.o.2.2.1;have H1:=zh2 B1 L;clear P EK j i d c Y X V U T R A E;obtain⟨j,i,d,c,Y,X,V,U,T,R,A,E⟩:=zq11 L;have OU:=zhd (yam id t 20 a bb nm tx vk vn vs la ln lc w1 true rfl);clear B1 L;go_wp2_with fail;refine OU.o.mono ?_;rintro e w2 ⟨rfl,O⟩;have B2:Below W W w2:=H1.o.1.trans (O.mono H1.o.1.size);have K:=(O.block W E).trans H1.o.2;have y:=l.o.1.ext B2;have Q:=zh3 B2 K y;have r:w2.cell? ⟨b,19,none⟩=some (.bool s.over):=y.cell (k:=19) rfl;have u:w2.cell? ⟨b,18,none⟩=some (.bool s.begun):=y.cell (k:=18) rfl;have b2:=zlt y.h;clear O OU j i d c Y X V U T R A E B2 y;have Ad:=zhd hs1;clear hs1;rw[hov]at r;rw[hbg]at u;obtain⟨j,i,d,c,Y,X,V,U,T,R,A,E⟩:=zq11 K;clear hov hbg K
 have Af:wrap64 ((s.events:Int)+1)=(s.events:Int)+1:=by unfold wrap64;omega
 have Ac:w2.cell? ⟨b,11,none⟩=some (.int .i64 s.now):=Q.o.2.2.cell (k:=11) rfl;have Aa:w2.cell? ⟨b,24,none⟩=some (.int .i64 (s.steps:Int)):=Q.o.2.2.cell (k:=24) rfl;have Ab:w2.cell? ⟨b,23,none⟩=some (.int .i64 (s.events:Int)):=Q.o.2.2.cell (k:=23) rfl;have f0:∀o,w2.frozen? ⟨b,o,none⟩=false:=fun o=>Q.o.2.2.frozen o;go_upto_region 5 with(fail);go_region
 all_goals
  go_upto_region 9 with(fail);refine yaa ?_;intro w3 H;have S1:=Q.o.2.2.scalar 11 (.int .i64 t) {s with now:=t} rfl rfl rfl rfl rfl rfl rfl rfl;have S2:=S1.1.scalar 24 (.int .i64 0) {s with now:=t,steps:=0} rfl rfl rfl rfl rfl rfl rfl rfl;have S3:=S2.1.scalar 23 (.int .i64 ((s.events:Int)+1)) {s with now:=t,steps:=0,events:=s.events+1} rfl rfl rfl rfl rfl rfl rfl rfl;have D:=S3.1.ext (znv _ _).drew;have K4:=S3.2.trans (MK.ext (v:=v) (znv _ _).drew);rw[<-H]at D K4;have K3:MK b v W v w3:=(MK.ext Q.o.1).trans (S1.2.trans (S2.2.trans K4));have J:w3.heap[W.heap.size]? =some (.cells #[id,t,.int .i64 20,a,bb,nm,tx,vk,vn,vs,.slice la ln lc] 40 (0,0)):=by
   have nb:W≠b:=fun e=>by have:=zlt l.o.1.h;omega
   rw[H];exact((znn _ _ _ _ nb).trans ((znn _ _ _ _ nb).trans (znn _ _ _ _ nb))).trans Q.o.2.1
  have C3:=l.o.2.2.2.keep K3.keeps hF;obtain⟨m,I⟩:∃m:MS,m={s with now:=t,steps:=0,events:=s.events+1}:=⟨_,rfl⟩;rw[<-I]at D;have Ae:=zhd I;have b3:=zlt D.h;clear j i d c Y X V U T R A E r u Ac Aa Ab f0 b2 S1 S2 S3 K4 H I;have H3:=zh4 D K3 C3 J;obtain⟨j,i,d,c,Y,X,V,U,T,R,A,E⟩:=zq11 J;have f3:∀o,w3.frozen? ⟨b,o,none⟩=false:=fun o=>H3.o.1.frozen o;clear D K3 C3 J;have q:{m with over:=true}=s1:=by rw[<-Ad.o,Ae.o];rfl
  have D:=H3.o.1.scalar 19 (.bool true) {m with over:=true} rfl rfl rfl rfl rfl rfl rfl rfl;rw[q]at D;have i0:w3.cell? ⟨b,19,none⟩=some (.bool m.over):=H3.o.1.cell (k:=19) rfl;have z:=zhd D;clear D q;go_wp2;go_ret;exact⟨v,rfl,zhd ⟨z.o.1,H3.o.2.1.trans z.o.2⟩⟩
theorem ygK
  {Z:Nat->Prop}(b:Nat)(v:MV)(p:Img)(s:MS)(W:World)(M:MX TT Z W b v p s)
  {N:Nat}(G:Gl Tryz.prog N W)(id t a bb:Int)(nm tx:ByteArray)(x:Val)(vk vn:Int)(vs:ByteArray)(la:Option Addr)(ln lc:Nat)(F:Nat->Prop)(C:CF F W ⟨vk,vn,vs,la,ln,lc⟩ x)(hw:x.wf)
  (hck:yad ⟨id,t,14,a,bb,nm,tx,x⟩=0)(hov:s.over=false)(hbg:s.begun=true)(hF:∀g,F g->¬MO v b g)(hev:s.events<=4294967296)(hZ:∀j,W.heap.size<=j->Z j)
  (hll:s.letters.length<=4294967296)(hz:szV x<=1073741824)
  (s1 r:MS)(hs1:hear {s with now:=t,steps:=0,events:=s.events+1} ⟨id,t,14,a,bb,nm,tx,x⟩=s1)(RT:∀(W':World) (v':MV),MX TT Z W' b v' p s1->W<=W'.heap.size->Calls Tryz.prog 109 #[.pointer (some ⟨b,0,none⟩)] W' (MP Z W' b v' p (.tuple #[]) r))
  :
  Calls Tryz.prog 70 #[.pointer (some ⟨b,0,none⟩),.agg #[id,t,.int .i64 14,a,bb,nm,tx,vk,vn,vs,.slice la ln lc]] W
   (MP Z W b v p (.int .i64 0) r):=by
 have As:=zhd RT;clear RT;obtain⟨w0,L⟩:∃w0,w0=W.alloc (.cells #[id,t,.int .i64 14,a,bb,nm,tx,vk,vn,vs,.slice la ln lc] 40):=⟨_,rfl⟩;have B0:=zba L;have hB:=zha L;have C0:=C.keep (S:=fun _=>False) (zkb B0) (fun _ _ f=>f);have Aa:vk=x.kind:=C.kind;rw[yaA]at hck;dsimp only at hck;rw[<-Aa]at hck;have EK:=zhd (yaw id t 14 a bb nm tx vk vn vs la ln lc w0 (G.below B0) (checkL x) (fun W' BW=>yaF x vk vn vs la ln lc F W' (C0.keep (S:=fun _=>False) (zkb BW) (fun _ _ f=>f)) hw _ rfl) _ hck);obtain⟨q0,q1,q2,q3,q4,q5,q6,q7,z,q,D,H⟩:=zq11 hB;have HX:=zh4 M B0 hB C;clear Aa hck C0 B0 hB C M;go_in;go_wp2_with fail;rw[<-L];clear L;refine EK.o.mono ?_;rintro e w1 ⟨rfl,i⟩;have B1:Below W W w1:=HX.o.2.1.trans (i.mono HX.o.2.1.size);have A:=(i.block W H).trans HX.o.2.2.1;have H1:=zh2 B1 A
 clear i EK q0 q1 q2 q3 q4 q5 q6 q7 z q D H;obtain⟨q0,q1,q2,q3,q4,q5,q6,q7,z,q,D,H⟩:=zq11 A;have OU:=zhd (yam id t 14 a bb nm tx vk vn vs la ln lc w1 true rfl);clear B1 A;go_wp2_with fail;refine OU.o.mono ?_;rintro e w2 ⟨rfl,d⟩;have B2:Below W W w2:=H1.o.1.trans (d.mono H1.o.1.size);have X:=(d.block W H).trans H1.o.2;have M2:=HX.o.1.ext B2;have n:=zh3 B2 X M2;have Ah:w2.cell? ⟨b,19,none⟩=some (.bool s.over):=M2.cell (k:=19) rfl;have Ai:w2.cell? ⟨b,18,none⟩=some (.bool s.begun):=M2.cell (k:=18) rfl;have b2:=zlt M2.h;clear d OU q0 q1 q2 q3 q4 q5 q6 q7 z q D H B2 M2;have Ar:=zhd hs1;clear hs1;rw[hov]at Ah;rw[hbg]at Ai;obtain⟨q0,q1,q2,q3,q4,q5,q6,q7,z,q,D,H⟩:=zq11 X;clear hov hbg X
 have Av:wrap64 ((s.events:Int)+1)=(s.events:Int)+1:=by unfold wrap64;omega
 have Ap:w2.cell? ⟨b,11,none⟩=some (.int .i64 s.now):=n.o.2.2.cell (k:=11) rfl;have Am:w2.cell? ⟨b,24,none⟩=some (.int .i64 (s.steps:Int)):=n.o.2.2.cell (k:=24) rfl;have An:w2.cell? ⟨b,23,none⟩=some (.int .i64 (s.events:Int)):=n.o.2.2.cell (k:=23) rfl;have f0:∀o,w2.frozen? ⟨b,o,none⟩=false:=fun o=>n.o.2.2.frozen o;go_upto_region 5 with(fail);go_region
 all_goals
  go_upto_region 9 with(fail);refine yaa ?_;intro w3 P;have S1:=n.o.2.2.scalar 11 (.int .i64 t) {s with now:=t} rfl rfl rfl rfl rfl rfl rfl rfl;have S2:=S1.1.scalar 24 (.int .i64 0) {s with now:=t,steps:=0} rfl rfl rfl rfl rfl rfl rfl rfl;have S3:=S2.1.scalar 23 (.int .i64 ((s.events:Int)+1)) {s with now:=t,steps:=0,events:=s.events+1} rfl rfl rfl rfl rfl rfl rfl rfl;have S4:=S3.1.ext (znv _ _).drew;have K4:=S3.2.trans (MK.ext (v:=v) (znv _ _).drew);rw[<-P]at S4 K4;have K3:MK b v W v w3:=(MK.ext n.o.1).trans (S1.2.trans (S2.2.trans K4));have V:w3.heap[W.heap.size]? =some (.cells #[id,t,.int .i64 14,a,bb,nm,tx,vk,vn,vs,.slice la ln lc] 40 (0,0)):=by
   have nb:W≠b:=fun e=>by have:=zlt HX.o.1.h;omega
   rw[P];exact((znn _ _ _ _ nb).trans ((znn _ _ _ _ nb).trans (znn _ _ _ _ nb))).trans n.o.2.1
  have C3:=HX.o.2.2.2.keep K3.keeps hF;obtain⟨B,Q⟩:∃B:MS,B={s with now:=t,steps:=0,events:=s.events+1}:=⟨_,rfl⟩;rw[<-Q]at S4;have Aj:=zhd Q;have b3:=zlt S4.h;clear q0 q1 q2 q3 q4 q5 q6 q7 z q D H Ah Ai Ap Am An f0 b2 S1 S2 S3 K4 P Q;have E:=zh4 S4 K3 C3 V;obtain⟨q0,q1,q2,q3,q4,q5,q6,q7,z,q,D,H⟩:=zq11 V;have f3:∀o,w3.frozen? ⟨b,o,none⟩=false:=fun o=>E.o.1.frozen o;clear S4 K3 C3 V;have Ab:s1={B with letters:=B.letters++[⟨nm,yab x⟩]}:=by rw[<-Ar.o,Aj.o];rfl
  have Al:B.letters.length<=4294967296:=by rw[Aj.o];exact hll
  have Af:=yae hZ E.o.2.1.keeps.size;obtain⟨ss,ic,ps,Ak,ts,Aq,ls,ms⟩:=v;obtain⟨am,cap,rfl⟩:∃a cap,ls= .slice a B.letters.length cap:=E.o.1.lts.slice;have CL:=zhd (yax x vk vn vs la ln lc F w3.drew (E.o.2.2.1.keep (S:=fun _=>False) (zkb (znv _ _).drew) (fun _ _ f=>f)) hz);have Ao:w3.cell? ⟨b,16,none⟩=some (.slice am B.letters.length cap):=E.o.1.cell (k:=16) rfl;obtain⟨ks,Ag,Y⟩:=E.o.1.lts.cells;have Ad:ks.length=B.letters.length:=Y.1;have NB:=zhd (show∀g,(Value.slice am B.letters.length cap).ownBlock=some g->g≠b from fun g T e=>absurd (E.o.1.sep 5 0 g T (by rw[e];rfl)) (by decide));have l:=zhd (show∀y:LC,(ks.length+[y].length)*72<=140737488355328/\ks.length+[y].length<=maxLen/\ks.length+[y].length=B.letters.length+1 from fun y=>by
   have e:ks.length+[y].length=B.letters.length+1:=by rw[Ad];rfl
   rw[e];exact⟨by omega,by unfold maxLen;omega,rfl⟩)
  have HK:=zh4 Ag Y Ab Af;clear Ag Y Ad Ab Al Af;go_upto_region 21 with(fail);go_region_law (first
   |(go_simp;go_at_call 58;refine CL.o.mono ?_;rintro e w5 ⟨⟨k8,n8,s8,K,I,J⟩,rfl,c⟩;have O:Below w3 w3 w5:=znw ((znv w3.heap.size w3).drew) c.o.2;have Au:=(O.cell (p:=⟨b,16,none⟩) b3).trans Ao;have df:∀o,w5.frozen? ⟨b,o,none⟩=false:=(fun o=>(O.frozen (p:=⟨b,o,none⟩) b3).trans (f3 o));have db:b<w5:=znj b3 O.size;have U:=(O.block W H).trans E.o.2.2.2;have r5:w5.cell? ⟨W,5,none⟩=some (.string nm):=(by rw[zch U];rfl);have rl:=zlt U;have m:=zh4 c.o.1 O (HK.o.1.below O) (E.o.1.ext O);clear c O U)
   |(refine yaz (α:=LC) (o:=⟨some 109,_,_,_,_,_⟩) yk3 (by rfl) (.tmp 101) (.tmp 108) (by rfl) (v:=.slice am B.letters.length cap) (u:=.slice (some ⟨w5,0,none⟩) 1 1) (by rfl) (by rfl) (xs:=ks) (ys:=[⟨nm,⟨k8,n8,s8,K,I,J⟩⟩]) (m.o.2.2.1.alloc _) (RowAt.lit (α:=LC) (y:=⟨nm,⟨k8,n8,s8,K,I,J⟩⟩) (znb _ _)) (l.o _).1 (l.o _).2.1 (B.letters.length+1) (l.o _).2.2 ?_;intro a1 cp w7 Ac R Ae;have A:=(R.block b (by simp;omega) (fun e=>NB.o _ e rfl)).trans ((zne _ _ _ db).trans m.o.2.2.2.h);have y0:w7.cell? ⟨b,16,none⟩=some (.slice am B.letters.length cap):=(by rw[zch A];rfl);have y1:∀o,w7.frozen? ⟨b,o,none⟩=false:=(fun o=>zfr A o);have y2:b<w7:=zlt A;have FF:=zh3 Ac R Ae;clear Ac R Ae A))
  all_goals
   have B1:Below w5 w5 (w5.alloc (.cells (enc (⟨nm,⟨k8,n8,s8,K,I,J⟩⟩:LC)).toArray 138)):=zal;have C5:CF (MZ Z ⟨ss,ic,ps,Ak,ts,Aq,.slice am B.letters.length cap,ms⟩ b) w5 ⟨k8,n8,s8,K,I,J⟩ (yab x):=m.o.1.mono (fun g T _=>by
    have T:w3<=g:=T;exact⟨fun e=>by have:=E.o.1.lt e;omega,HK.o.2.2.2 g T⟩)
   have P5:=HK.o.2.1.keep (S:=fun _=>False) (zkb m.o.2.1) (fun _ _ f=>f);have S:=m.o.2.2.2.putLts (v1:=.slice a1 (B.letters.length+1) cp) s1 FF.o.1 (P5.app (Ptw.one (x:=⟨nm,yab x⟩) ⟨rfl,C5⟩)) (((zkb (S:=fun _=>False) B1).mono (fun _ _ f=>f.elim)).trans FF.o.2.1 (fun _ _ e=>e)) (fun g T=>(FF.o.2.2 g T).imp (fun h=>h) (fun h=>znf B1.size h)) HK.o.2.2.1;have RC:=zhd (As.o _ _ S.1 (znf E.o.2.1.keeps.size (znf m.o.2.1.size S.2.keeps.size)));have At:=zhd (E.o.2.1.trans ((MK.ext m.o.2.1).trans S.2));clear S B1 C5 P5;go_wp2_with fail;refine RC.o.mono ?_;rintro e w9 ⟨v9,rfl,H9⟩;go_wp2;go_ret;exact⟨v9,rfl,zhd ⟨H9.o.1,At.o.trans H9.o.2⟩⟩
end Go.Proofs.YtpagmlndgblhhaaGreatDoor
namespace Go.Va
open Go.Own Go.RowKit
open Go.Proofs.YtpagmlndgblhhaaGreatDoor
theorem ykm {k:Int}(h:yaH k=true):k=1\/k=8\/k=9\/k=10\/k=12\/k=14\/k=15\/k=19\/k=20:=znx h
theorem ygj (s:MS)(e:Ev):(hear s e).letters.length<=s.letters.length+1:=by
 unfold hear
 repeat' split
 all_goals first|exact Nat.le_succ _|exact Nat.le_of_eq (by show(s.letters++[_]).length=_;rw[znk];rfl)
theorem ylp {p:Img}{fa:Fa}(K:Known p fa){s:MS}(S:St p fa s){e:Ev}(h0:yad e=0)(hw:e.v.wf)(hov:s.over=false)(he:s.events<=30){s1:MS}(hs1:hear {s with now:=e.time,steps:=0,events:=s.events+1} e=s1):
  Rk p s1/\At fa s1/\s1.made.length+fuel p s1<=4000000000/\s1.letters.length<=4294967296/\s1.steps+fuel p s1<=4000000000/\s.letters.length<=30:=by
 have P:=yj3 K S he;obtain⟨s0,A⟩:∃s0:MS,s0={s with now:=e.time,steps:=0,events:=s.events+1}:=⟨_,rfl⟩;rw[<-A]at hs1;have V:=S.rk.vs;have O:Vs s0:=by rw[A];exact⟨V.stk,V.pls,V.inp,V.tms,V.acs,V.lts,V.mds,(ybn h0).1,V.nt,V.na⟩
 have B:=yis s0 e;have F:=ydT s0 e;have G:=yen s0 e;have H:=ygj s0 e;have I:=ykK (s:=s0) e (by rw[A];exact S.good.at_ hov);have J:=O.hear h0 hw;have M:=S.good.pot hov;have L:pot s0=pot s:=by rw[A];rfl
 have N:s.letters.length<=pot s:=by unfold pot;omega
 have E:s0.letters=s.letters:=by rw[A]
 have D:s0.made=s.made:=by rw[A]
 have C:s0.steps=0:=by rw[A]
 rw[hs1]at B F G H I J;have Q:fuel p s1<=(p.code.length+1)*(s.events+2):=by
  unfold fuel;exact Nat.mul_le_mul_left _ (by omega)
 refine⟨⟨J,by rw[B.1,A];exact S.rk.opn,by rw[B.2,A];exact S.rk.pls⟩,I,?_,?_,?_,by omega⟩
 .rw[G.1,D];omega
 .rw[E]at H;omega
 .rw[F.2.2,C];omega
end Go.Va
namespace Go.Proofs.YtpagmlndgblhhaaGreatDoor
open Go.RowKit Go.Own Go.Own.MapTy Go.Va Go.Sort
open Go.Own.Cells (sz enc)
theorem ygM
  {Z:Nat->Prop}(b:Nat)(v:MV)(p:Img)(s:MS)(W:World)(M:MX TT Z W b v p s){N:Nat}(G:Gl Tryz.prog N W)(fa:Fa)(K:Known p fa)(P:Pk p)(hsp:fa.span<=p.code.length+1)(S:St p fa s)(hev:s.events<=30)(hZ:∀j,W.heap.size<=j->Z j)
  (id t k a bb:Int)(nm tx:ByteArray)(x:Val)(vk vn:Int)(vs:ByteArray)(la:Option Addr)(ln lc:Nat)(F:Nat->Prop)(C:CF F W ⟨vk,vn,vs,la,ln,lc⟩ x)(hw:x.wf)(hF:∀g,F g->¬MO v b g)(r:Int×MS)(hr:yas p s ⟨id,t,k,a,bb,nm,tx,x⟩=r):
  Calls Tryz.prog 70 #[.pointer (some ⟨b,0,none⟩),.agg #[id,t,k,a,bb,nm,tx,vk,vn,vs,.slice la ln lc]] W (MP Z W b v p (.int .i64 r.1) r.2):=by
 subst hr;by_cases h0:yad ⟨id,t,k,a,bb,nm,tx,x⟩=0
 .by_cases H:yaH k=true
  .have I:¬(yad ⟨id,t,k,a,bb,nm,tx,x⟩≠0\/yaH k=false):=fun h=>h.elim (fun h=>h h0) (fun h=>by rw[H]at h;cases h)
   by_cases A:s.over=true
   .have e:yas p s ⟨id,t,k,a,bb,nm,tx,x⟩=(181,s):=by unfold yas;rw[if_neg I,if_pos A]
    rw[e];exact yjG b v p s W M G id t k a bb nm tx x vk vn vs la ln lc F C hw h0 H A
   .by_cases hbg:s.begun=(k==1)
    .have e:yas p s ⟨id,t,k,a,bb,nm,tx,x⟩=(7,s):=by unfold yas;rw[if_neg I,if_neg A,if_pos hbg]
     rw[e];exact yhR b v p s W M G id t k a bb nm tx x vk vn vs la ln lc F C hw h0 H (by simpa using A) hbg
    .obtain⟨s1,B⟩:∃s1,hear {s with now:=t,steps:=0,events:=s.events+1} ⟨id,t,k,a,bb,nm,tx,x⟩=s1:=⟨_,rfl⟩
     have e:yas p s ⟨id,t,k,a,bb,nm,tx,x⟩=(0,ylM p s1):=by unfold yas;rw[if_neg I,if_neg A,if_neg hbg,<-B]
     rw[e];have A:s.over=false:=by simpa using A
     obtain⟨Y,c,X,V,U,d⟩:=ylp K S h0 hw A hev B;have J:∀(W':World) (v':MV),MX TT Z W' b v' p s1->W<=W'.heap.size->Calls Tryz.prog 109 #[.pointer (some ⟨b,0,none⟩)] W' (MP Z W' b v' p (.tuple #[]) (ylM p s1)):=
      fun W' v' M' hs=>ym4 b v' p s1 W' M' fa K P Y (fuel p s1) (fun _=>⟨c,yge hsp⟩) X V U (yae hZ hs) _ rfl
     have O:=S.rk.opn;unfold opn at O;have L:=ybn h0;have T:=ycS (x:=x) ⟨L.2.2.2.2.2.2.2,hw⟩;have Q:nm.size<=64:=L.2.2.2.2.2.1;have D:∀k:Int,(k==1)=false->¬s.begun=(k==1)->s.begun=true:=fun k hk h=>by rw[hk]at h;simpa using h
     rcases ykm H with rfl|rfl|rfl|rfl|rfl|rfl|rfl|rfl|rfl
     .exact yhS b v p s W M G id t a bb nm tx x vk vn vs la ln lc F C hw h0 A (by simpa using hbg) hF (by omega) hZ (by omega) s1 _ B J
     .exact yjL b v p s W M G id t a bb nm tx x vk vn vs la ln lc F C hw h0 A (D 8 rfl hbg) hF (by omega) hZ (by omega) (by omega) s1 _ B J
     .exact ygL b v p s W M G id t a bb nm tx x vk vn vs la ln lc F C hw h0 A (D 9 rfl hbg) hF (by omega) hZ (by omega) Q s1 _ B J
     .exact yjJ b v p s W M G id t a bb nm tx x vk vn vs la ln lc F C hw h0 A (D 10 rfl hbg) hF (by omega) hZ (by omega) s1 _ B J
     .exact yhU b v p s W M G id t a bb nm tx x vk vn vs la ln lc F C hw h0 A (D 12 rfl hbg) hF (by omega) hZ (by omega) s1 _ B J
     .exact ygK b v p s W M G id t a bb nm tx x vk vn vs la ln lc F C hw h0 A (D 14 rfl hbg) hF (by omega) hZ (by omega) (by omega) s1 _ B J
     .exact yhW b v p s W M G id t a bb nm tx x vk vn vs la ln lc F C hw h0 A (D 15 rfl hbg) hF (by omega) s1 _ B J
     .have E:s1.over=true:=by rw[<-B];rfl
      have R:ylM p s1=s1:=yeb E _;rw[R];exact yhV b v p s W M G id t a bb nm tx x vk vn vs la ln lc F C hw h0 A (D 19 rfl hbg) hF (by omega) s1 B
     .have E:s1.over=true:=by rw[<-B];rfl
      have R:ylM p s1=s1:=yeb E _;rw[R];exact yhQ b v p s W M G id t a bb nm tx x vk vn vs la ln lc F C hw h0 A (D 20 rfl hbg) hF (by omega) s1 B
  .have H:yaH k=false:=by simpa using H
   have e:yas p s ⟨id,t,k,a,bb,nm,tx,x⟩=(9,s):=by unfold yas;rw[if_pos (.inr H)]
   rw[e];exact yhT b v p s W M G id t k a bb nm tx x vk vn vs la ln lc F C hw h0 H
 .have e:yas p s ⟨id,t,k,a,bb,nm,tx,x⟩=(9,s):=by unfold yas;rw[if_pos (.inl h0)]
  rw[e];exact ylo b v p s W M G id t k a bb nm tx x vk vn vs la ln lc F C hw _ rfl (by simpa using h0)
theorem yn1 {x:Val}(h1:x.all B64)(h2:x.all (fun _ _ s=>s.size<=1100)):x.wf:=yn0 h1 h2
theorem ypb {c:Cm}(h:yaV c=0):checkL c.v=0:=by
 unfold yaV at h;split at h
 .cases h
 .split at h
  .cases h
  .split at h
   .cases h
   .split at h
    .cases h
    .exact h
theorem yky {p:Img}{fa:Fa}{s:MS}(S:St p fa s):∀c∈s.made,szV c.v<=1073741824:=fun c hc=>by
 have h:=S.rk.vs.mds c hc;have:=ycS (x:=c.v) ⟨ypb h.1,h.2⟩;omega
end Go.Proofs.YtpagmlndgblhhaaGreatDoor
