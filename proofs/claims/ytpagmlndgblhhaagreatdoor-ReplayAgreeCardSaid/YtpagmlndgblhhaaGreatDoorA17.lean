/- Parts of the proof: what the functions and the plain laws give that later parts lean on. Conditions: none beyond those that each theorem names. -/
import Derived.Test.YtpagmlndgblhhaaGreatDoorA16
set_option maxRecDepth 100000
set_option maxHeartbeats 8000000
namespace Go.Proofs.YtpagmlndgblhhaaGreatDoor
open Go.RowKit Go.Own Go.Own.MapTy Go.Va Go.Sort
open Go.Own.Cells (sz enc)
set_option linter.unusedVariables false
def ycy (Z:Nat->Prop)(rb b mb:Nat)(v:MV)(p:Img)(W:World)(q:Int×RP)(e:Ending)(w':World):Prop:=∃v',e= .returned (.int .i64 q.1)/\Hid (RPX TR Z w' rb b mb v' p q.2/\RPK rb b mb v W v' w')
theorem ym9
  {Z:Nat->Prop}(rb b mb:Nat)(v:MV)(p:Img)(r:RP)(W:World)(R:RPX TR Z W rb b mb v p r){N:Nat}(G:Gl Tryz.prog N W)(t a bb:Int)(nm tx:ByteArray)(x:Val)(vk vn:Int)(vs:ByteArray)(la:Option Addr)(ln lc:Nat)(F:Nat->Prop)(C:CF F W ⟨vk,vn,vs,la,ln,lc⟩ x)(hw:x.wf)
  (id k:Int)(ck:Int)(hck:yad ⟨id,t,k,a,bb,nm,tx,x⟩=ck)(hne:(ck !=0)=true)(q:Int×RP)(hr:ybQ p r ⟨id,t,k,a,bb,nm,tx,x⟩=q):
  Calls Tryz.prog 56 #[.pointer (some ⟨rb,0,none⟩),.agg #[.int .i64 (id),t,k,a,bb,nm,tx,vk,vn,vs,.slice la ln lc]] W
   (ycy Z rb b mb v p W q):=by
 have h:=zhd (show q=(9,r) by rw[<-hr];unfold ybQ;rw[if_pos (by rw[hck];simpa using hne)]);clear hr;obtain⟨J,A⟩:∃J,J=W.alloc (.cells #[.int .i64 (id),t,k,a,bb,nm,tx,vk,vn,vs,.slice la ln lc] 40):=⟨_,rfl⟩;have I:=zba A;have L:=zha A;have l:=C.keep (S:=fun _=>False) (zkb I) (fun _ _ f=>f);have j:=zhd (ybt (id) t k a bb nm tx x vk vn vs la ln lc F J (G.below I) l hw _ hck);obtain⟨g,d,c,Y,X,V,U,T,Q,P,E,K,_⟩:=yay L;have H:=zh6 R I L C G hw;have Aa:=zhd hck;clear hck l I L C R G hw;go_in;go_wp2_with fail;rw[<-A];clear A;refine j.o.mono ?_;rintro e w1 ⟨rfl,D⟩;have O:Below W W w1:=H.o.2.1.trans (D.mono H.o.2.1.size);have B:=(D.block W K).trans H.o.2.2.1;have M:=H.o.1.ext O;clear g d c Y X V U T Q P E K;obtain⟨g,d,c,Y,X,V,U,T,Q,P,E,K,_⟩:=yay B;obtain⟨r0,r1,z,y,u,s,m,n⟩:=M.q;have i:=zh3 O B M;clear O B M D j;clear r0 r1 z y u s m n;go_wp2;go_ret;exact⟨v,by rw[h.o];rfl,zhd ⟨by rw[h.o];exact i.o.2.2,RPK.ext i.o.1⟩⟩
theorem ykq
  {Z:Nat->Prop}(rb b mb:Nat)(v:MV)(p:Img)(r:RP)(W:World)(R:RPX TR Z W rb b mb v p r){N:Nat}(G:Gl Tryz.prog N W)(t a bb:Int)(nm tx:ByteArray)(x:Val)(vk vn:Int)(vs:ByteArray)(la:Option Addr)(ln lc:Nat)(F:Nat->Prop)(C:CF F W ⟨vk,vn,vs,la,ln,lc⟩ x)(hw:x.wf)
  (id k:Int)(hck:yad ⟨id,t,k,a,bb,nm,tx,x⟩=0)(hid:¬id=(r.seen:Int)+1)(hsn:r.seen<=4000000)(q:Int×RP)(hr:ybQ p r ⟨id,t,k,a,bb,nm,tx,x⟩=q):
  Calls Tryz.prog 56 #[.pointer (some ⟨rb,0,none⟩),.agg #[.int .i64 (id),t,k,a,bb,nm,tx,vk,vn,vs,.slice la ln lc]] W
   (ycy Z rb b mb v p W q):=by
 have h:=zhd (show q=(180,r) by rw[<-hr];unfold ybQ;rw[if_neg (by simpa using hck),if_pos hid]);have m:(id==(r.seen:Int)+1)=false:=by rw[zna];exact hid
 have n2:(id !=(r.seen:Int)+1)=true:=by unfold bne;rw[m];rfl
 have n:wrap64 ((r.seen:Int)+1)=(r.seen:Int)+1:=by unfold wrap64;omega
 clear hr hid hsn;obtain⟨J,A⟩:∃J,J=W.alloc (.cells #[.int .i64 (id),t,k,a,bb,nm,tx,vk,vn,vs,.slice la ln lc] 40):=⟨_,rfl⟩;have I:=zba A;have L:=zha A;have l:=C.keep (S:=fun _=>False) (zkb I) (fun _ _ f=>f);have j:=zhd (ybt (id) t k a bb nm tx x vk vn vs la ln lc F J (G.below I) l hw _ hck);obtain⟨g,d,c,Y,X,V,U,T,Q,P,E,K,_⟩:=yay L;have H:=zh6 R I L C G hw;have s:=zhd hck;clear hck l I L C R G hw;go_in;go_wp2_with fail;rw[<-A];clear A;refine j.o.mono ?_;rintro e w1 ⟨rfl,D⟩;have O:Below W W w1:=H.o.2.1.trans (D.mono H.o.2.1.size);have B:=(D.block W K).trans H.o.2.2.1;have M:=H.o.1.ext O;clear g d c Y X V U T Q P E K;obtain⟨g,d,c,Y,X,V,U,T,Q,P,E,K,_⟩:=yay B;obtain⟨r0,r1,r2,r3,r4,z,u,y⟩:=M.q;have i:=zh3 O B M;clear O B M D j;go_upto_region 3 with(fail);go_region
 all_goals
  go_wp2;go_ret;exact⟨v,by rw[h.o];rfl,zhd ⟨by rw[h.o];exact i.o.2.2.ext (znv _ _).drew,RPK.ext i.o.1.drew⟩⟩
theorem yjj
  {Z:Nat->Prop}(rb b mb:Nat)(v:MV)(p:Img)(r:RP)(W:World)(R:RPX TR Z W rb b mb v p r){N:Nat}(G:Gl Tryz.prog N W)(t a bb:Int)(nm tx:ByteArray)(x:Val)(vk vn:Int)(vs:ByteArray)(la:Option Addr)(ln lc:Nat)(F:Nat->Prop)(C:CF F W ⟨vk,vn,vs,la,ln,lc⟩ x)(hw:x.wf)
  (k:Int)(hck:yad ⟨(r.seen:Int)+1,t,k,a,bb,nm,tx,x⟩=0)(hcl:r.closed=true)(hsn:r.seen<=4000000)(q:Int×RP)(hr:ybQ p r ⟨(r.seen:Int)+1,t,k,a,bb,nm,tx,x⟩=q):
  Calls Tryz.prog 56 #[.pointer (some ⟨rb,0,none⟩),.agg #[.int .i64 ((r.seen:Int)+1),t,k,a,bb,nm,tx,vk,vn,vs,.slice la ln lc]] W
   (ycy Z rb b mb v p W q):=by
 have h:=zhd (show q=(181,r) by rw[<-hr];unfold ybQ;rw[if_neg (by simpa using hck),if_neg (by simp),if_pos hcl]);have n:wrap64 ((r.seen:Int)+1)=(r.seen:Int)+1:=by unfold wrap64;omega
 have u:=zhd hcl;clear hr hsn hcl;obtain⟨J,A⟩:∃J,J=W.alloc (.cells #[.int .i64 ((r.seen:Int)+1),t,k,a,bb,nm,tx,vk,vn,vs,.slice la ln lc] 40):=⟨_,rfl⟩;have I:=zba A;have L:=zha A;have l:=C.keep (S:=fun _=>False) (zkb I) (fun _ _ f=>f);have j:=zhd (ybt ((r.seen:Int)+1) t k a bb nm tx x vk vn vs la ln lc F J (G.below I) l hw _ hck);obtain⟨g,d,c,Y,X,V,U,T,Q,P,E,K,_⟩:=yay L;have H:=zh6 R I L C G hw;have s:=zhd hck;clear hck l I L C R G hw;go_in;go_wp2_with fail;rw[<-A];clear A;refine j.o.mono ?_;rintro e w1 ⟨rfl,D⟩;have O:Below W W w1:=H.o.2.1.trans (D.mono H.o.2.1.size);have B:=(D.block W K).trans H.o.2.2.1;have M:=H.o.1.ext O;clear g d c Y X V U T Q P E K;obtain⟨g,d,c,Y,X,V,U,T,Q,P,E,K,_⟩:=yay B;obtain⟨r0,r1,r2,r3,m,r5,y,z⟩:=M.q;have i:=zh3 O B M;clear O B M D j;rw[u.o]at m;go_upto_region 3 with(fail);go_region
 all_goals
  go_wp2;go_ret;exact⟨v,by rw[h.o];rfl,zhd ⟨by rw[h.o];exact i.o.2.2.ext (znv _ _).drew,RPK.ext i.o.1.drew⟩⟩
theorem yji
  {Z:Nat->Prop}(rb b mb:Nat)(v:MV)(p:Img)(r:RP)(W:World)(R:RPX TR Z W rb b mb v p r){N:Nat}(G:Gl Tryz.prog N W)(t a bb:Int)(nm tx:ByteArray)(x:Val)(vk vn:Int)(vs:ByteArray)(la:Option Addr)(ln lc:Nat)(F:Nat->Prop)(C:CF F W ⟨vk,vn,vs,la,ln,lc⟩ x)(hw:x.wf)
  (k:Int)(hck:yad ⟨(r.seen:Int)+1,t,k,a,bb,nm,tx,x⟩=0)(hcl:r.closed=false)(hsn:r.seen<=4000000)(h0:r.seen=0)(hk:¬k=1)(q:Int×RP)(hr:ybQ p r ⟨(r.seen:Int)+1,t,k,a,bb,nm,tx,x⟩=q):
  Calls Tryz.prog 56 #[.pointer (some ⟨rb,0,none⟩),.agg #[.int .i64 ((r.seen:Int)+1),t,k,a,bb,nm,tx,vk,vn,vs,.slice la ln lc]] W
   (ycy Z rb b mb v p W q):=by
 have h:=zhd (show q=(7,r) by rw[<-hr];unfold ybQ;rw[if_neg (by simpa using hck),if_neg (by simp),if_neg (by rw[hcl];decide),if_pos (.inl ⟨h0,hk⟩)]);have u:(k==1)=false:=by rw[zna];exact hk
 have n2:(k !=1)=true:=by unfold bne;rw[u];rfl
 have n3:((r.seen:Int)==0)=true:=by rw[beq_iff_eq];omega
 have n4:decide (0<(r.seen:Int))=false:=znd (by omega);have n5:¬0<(r.seen:Int):=by omega
 have s:decide (0<r.seen)=false:=znd (by omega);have n:¬0<r.seen:=by omega
 clear hr hk h0;have y:wrap64 ((r.seen:Int)+1)=(r.seen:Int)+1:=by unfold wrap64;omega
 have HC:=zh2 hcl hsn;clear hsn hcl;obtain⟨J,A⟩:∃J,J=W.alloc (.cells #[.int .i64 ((r.seen:Int)+1),t,k,a,bb,nm,tx,vk,vn,vs,.slice la ln lc] 40):=⟨_,rfl⟩;have I:=zba A;have L:=zha A;have l:=C.keep (S:=fun _=>False) (zkb I) (fun _ _ f=>f);have j:=zhd (ybt ((r.seen:Int)+1) t k a bb nm tx x vk vn vs la ln lc F J (G.below I) l hw _ hck);obtain⟨g,d,c,Y,X,V,U,T,Q,P,E,K,_⟩:=yay L;have H:=zh6 R I L C G hw;have z:=zhd hck;clear hck l I L C R G hw;go_in;go_wp2_with fail;rw[<-A];clear A;refine j.o.mono ?_;rintro e w1 ⟨rfl,D⟩;have O:Below W W w1:=H.o.2.1.trans (D.mono H.o.2.1.size);have B:=(D.block W K).trans H.o.2.2.1;have M:=H.o.1.ext O;clear g d c Y X V U T Q P E K;obtain⟨g,d,c,Y,X,V,U,T,Q,P,E,K,_⟩:=yay B;obtain⟨r0,r1,r2,r3,m,r5,rl,rf⟩:=M.q;have i:=zh3 O B M;clear O B M D j;rw[HC.o.1]at m;go_upto_region 3 with(fail);go_region
 all_goals
  go_wp2;go_ret;exact⟨v,by rw[h.o];rfl,zhd ⟨by rw[h.o];exact i.o.2.2.ext (znv _ _).drew,RPK.ext i.o.1.drew⟩⟩
theorem yjh
  {Z:Nat->Prop}(rb b mb:Nat)(v:MV)(p:Img)(r:RP)(W:World)(R:RPX TR Z W rb b mb v p r){N:Nat}(G:Gl Tryz.prog N W)(t a bb:Int)(nm tx:ByteArray)(x:Val)(vk vn:Int)(vs:ByteArray)(la:Option Addr)(ln lc:Nat)(F:Nat->Prop)(C:CF F W ⟨vk,vn,vs,la,ln,lc⟩ x)(hw:x.wf)
  (hck:yad ⟨(r.seen:Int)+1,t,1,a,bb,nm,tx,x⟩=0)(hcl:r.closed=false)(hsn:r.seen<=4000000)(h0:¬r.seen=0)(q:Int×RP)(hr:ybQ p r ⟨(r.seen:Int)+1,t,1,a,bb,nm,tx,x⟩=q):
  Calls Tryz.prog 56 #[.pointer (some ⟨rb,0,none⟩),.agg #[.int .i64 ((r.seen:Int)+1),t,.int .i64 1,a,bb,nm,tx,vk,vn,vs,.slice la ln lc]] W
   (ycy Z rb b mb v p W q):=by
 have h:=zhd (show q=(7,r) by rw[<-hr];unfold ybQ;rw[if_neg (by simpa using hck),if_neg (by simp),if_neg (by rw[hcl];decide),if_pos (.inr ⟨h0,rfl⟩)]);have n3:((r.seen:Int)==0)=false:=by rw[zna];omega
 have n4:decide (0<(r.seen:Int))=true:=zno (by omega);have n5:0<(r.seen:Int):=by omega
 have n:decide (0<r.seen)=true:=zno (by omega);have m:0<r.seen:=by omega
 clear hr h0;have s:wrap64 ((r.seen:Int)+1)=(r.seen:Int)+1:=by unfold wrap64;omega
 have y:=zh2 hcl hsn;clear hsn hcl;obtain⟨J,A⟩:∃J,J=W.alloc (.cells #[.int .i64 ((r.seen:Int)+1),t,.int .i64 1,a,bb,nm,tx,vk,vn,vs,.slice la ln lc] 40):=⟨_,rfl⟩;have I:=zba A;have L:=zha A;have k:=C.keep (S:=fun _=>False) (zkb I) (fun _ _ f=>f);have j:=zhd (ybt ((r.seen:Int)+1) t 1 a bb nm tx x vk vn vs la ln lc F J (G.below I) k hw _ hck);obtain⟨g,d,c,Y,X,V,U,T,Q,P,E,K,_⟩:=yay L;have H:=zh6 R I L C G hw;have u:=zhd hck;clear hck k I L C R G hw;go_in;go_wp2_with fail;rw[<-A];clear A;refine j.o.mono ?_;rintro e w1 ⟨rfl,D⟩;have O:Below W W w1:=H.o.2.1.trans (D.mono H.o.2.1.size);have B:=(D.block W K).trans H.o.2.2.1;have M:=H.o.1.ext O;clear g d c Y X V U T Q P E K;obtain⟨g,d,c,Y,X,V,U,T,Q,P,E,K,_⟩:=yay B;obtain⟨r0,r1,r2,r3,l,r5,z,rf⟩:=M.q;have i:=zh3 O B M;clear O B M D j;rw[y.o.1]at l;go_upto_region 3 with(fail);go_region
 all_goals
  go_wp2;go_ret;exact⟨v,by rw[h.o];rfl,zhd ⟨by rw[h.o];exact i.o.2.2.ext (znv _ _).drew,RPK.ext i.o.1.drew⟩⟩
theorem ylY
  {Z:Nat->Prop}(rb b mb:Nat)(v:MV)(p:Img)(r:RP)(W:World)(R:RPX TR Z W rb b mb v p r){N:Nat}(G:Gl Tryz.prog N W)(t a bb:Int)(nm tx:ByteArray)(x:Val)(vk vn:Int)(vs:ByteArray)(la:Option Addr)(ln lc:Nat)(F:Nat->Prop)(C:CF F W ⟨vk,vn,vs,la,ln,lc⟩ x)(hw:x.wf)
  (k:Int)(hck:yad ⟨(r.seen:Int)+1,t,k,a,bb,nm,tx,x⟩=0)(hcl:r.closed=false)(hsn:r.seen<=4000000)(h0:¬r.seen=0)(hk:¬k=1)(hko:yaH k=false)(hm:ybR k=false)(q:Int×RP)(hr:ybQ p r ⟨(r.seen:Int)+1,t,k,a,bb,nm,tx,x⟩=q):
  Calls Tryz.prog 56 #[.pointer (some ⟨rb,0,none⟩),.agg #[.int .i64 ((r.seen:Int)+1),t,k,a,bb,nm,tx,vk,vn,vs,.slice la ln lc]] W
   (ycy Z rb b mb v p W q):=by
 have HR:=zhd (show q=(0,{r with seen:=r.seen+1,closed:=yaS k}) by rw[<-hr,yba (yb3 hck rfl hcl ⟨fun h=>absurd h h0,fun h=>absurd h hk⟩),if_neg (by rw[hko];decide),if_neg (by rw[hm];decide)]);have n1:(k==1)=false:=by rw[zna];exact hk
 have n2:(k !=1)=true:=by unfold bne;rw[n1];rfl
 have n3:((r.seen:Int)==0)=false:=by rw[zna];omega
 have n4:decide (0<(r.seen:Int))=true:=zno (by omega);have n5:0<(r.seen:Int):=by omega
 have Af:decide (0<r.seen)=true:=zno (by omega);have Ae:0<r.seen:=by omega
 have HM:=zhd hm;clear hr h0 hk hm;have HO:=zhd hko;clear hko;have Ag:wrap64 ((r.seen:Int)+1)=(r.seen:Int)+1:=by unfold wrap64;omega
 have HC:=zh2 hcl hsn;clear hsn hcl;obtain⟨w0,d⟩:∃w0,w0=W.alloc (.cells #[.int .i64 ((r.seen:Int)+1),t,k,a,bb,nm,tx,vk,vn,vs,.slice la ln lc] 40):=⟨_,rfl⟩;have B0:=zba d;have hB:=zha d;have C0:=C.keep (S:=fun _=>False) (zkb B0) (fun _ _ f=>f);have EK:=zhd (ybt ((r.seen:Int)+1) t k a bb nm tx x vk vn vs la ln lc F w0 (G.below B0) C0 hw _ hck);obtain⟨c,Y,X,V,U,T,Q,P,O,M,A,L,_⟩:=yay hB;have HX:=zh6 R B0 hB C G hw;have Ah:=zhd hck;clear hck C0 B0 hB C R G hw;go_in;go_wp2_with fail;rw[<-d];clear d;refine EK.o.mono ?_;rintro e w1 ⟨rfl,Aa⟩;have B1:Below W W w1:=HX.o.2.1.trans (Aa.mono HX.o.2.1.size);have y:=(Aa.block W L).trans HX.o.2.2.1;have R1:=HX.o.1.ext B1;clear c Y X V U T Q P O M A L;obtain⟨c,Y,X,V,U,T,Q,P,O,M,A,L,_⟩:=yay y;obtain⟨K,J,I,H,D,E,j,l⟩:=R1.q;have H1:=zh3 B1 y R1;clear B1 y R1 Aa EK;rw[HC.o.1]at D;go_upto_region 3 with(fail);go_region
 all_goals
  go_upto_region 10 with(fail);refine yaa ?_;intro w3 Ab;have P3:=(H1.o.2.2.ext (znv _ _).drew).put 1 (.int .i64 ((r.seen:Int)+1)) {r with seen:=r.seen+1} rfl rfl (by simp);have B:w3=w1.drew.setCell ⟨rb,1,none⟩ (.int .i64 ((r.seen:Int)+1)):=by rw[Ab];rfl
  rw[<-B]at P3;have nb:W≠rb:=fun e=>by have:=zlt HX.o.1.h;omega
  have u:w3.heap[W.heap.size]? =some (.cells #[.int .i64 ((r.seen:Int)+1),t,k,a,bb,nm,tx,vk,vn,vs,.slice la ln lc] 40 (0,0)):=by rw[B];exact(znn _ _ _ _ nb).trans H1.o.2.1
  have K3:RPK rb b mb v W v w3:=(RPK.ext H1.o.1.drew).trans P3.2;have Ac:w3.heap.size=w1.heap.size:=by rw[B];simp[World.setCell]
  clear Ab B c Y X V U T Q P O M A L K J I H D E j l nb;obtain⟨c,Y,X,V,U,T,Q,P,O,M,A,L,_⟩:=yay u;obtain⟨K,J,I,H,D,E,j,l⟩:=P3.1.q;dsimp only at K J I H D E;have OU:=zhd (yam ((r.seen:Int)+1) t k a bb nm tx vk vn vs la ln lc w3 _ HO.o);have H3:=zh3 P3.1 K3 u;clear P3 K3 u Ac;go_wp2_with fail;refine OU.o.mono ?_;rintro e w4 ⟨rfl,i⟩;have s:=(i.block W L).trans H3.o.2.2;have R4:=H3.o.1.ext i;have K4:=H3.o.2.1.trans (RPK.ext i);clear c Y X V U T Q P O M A L K J I H D E j l OU;obtain⟨c,Y,X,V,U,T,Q,P,O,M,A,L,_⟩:=yay s;obtain⟨K,J,I,H,D,E,j,l⟩:=R4.q;dsimp only at K J I H D E;have H4:=zh3 R4 K4 s;clear R4 K4 s i
 all_goals
  have CM:=zhd (yeE ((r.seen:Int)+1) t k a bb nm tx vk vn vs la ln lc w4 _ HM.o);go_wp2_with fail;refine CM.o.mono ?_;rintro e w5 ⟨rfl,g⟩;have n:=(g.block W L).trans H4.o.2.2;have R5:=H4.o.1.ext g;have H5:=zh3 R5 (H4.o.2.1.trans (RPK.ext g)) n;clear c Y X V U T Q P O M A L K J I H D E j l CM;obtain⟨c,Y,X,V,U,T,Q,P,O,M,A,L,_⟩:=yay n;obtain⟨K,J,I,H,D,E,j,l⟩:=R5.q;dsimp only at K J I H D E;clear R5 n g;obtain⟨cb,m⟩:∃cb,decide (16<=(k:Int)/\k<=21)=cb:=⟨_,rfl⟩;have CS:=zhd (ybK ((r.seen:Int)+1) t k a bb nm tx vk vn vs la ln lc w5 cb m);have Ad:=zhd m;clear m;go_wp2_with fail;refine CS.o.mono ?_;rintro e w8 ⟨rfl,z⟩;have R8:=H5.o.1.ext z;have K8:=H5.o.2.1.trans (RPK.ext z);clear c Y X V U T Q P O M A L K J I H D E j l CS;obtain⟨K,J,I,H,D,E,j,l⟩:=R8.q;dsimp only at K J I H D E;have P8:=R8.put 4 (.bool cb) q.2 (by rw[HR.o]) (by rw[HR.o]) (by rw[HR.o,<-Ad.o];rfl);have H8:=zh2 P8.1 (K8.trans P8.2);clear R8 K8 P8 z;go_wp2;go_ret;exact⟨_,by rw[HR.o];rfl,zhd H8.o⟩
def yoP (Z:Nat->Prop)(rb b mb:Nat)(v:MV)(p:Img)(r:RP)(W:World)(q:Int×MS)(e:Ending)(w':World):Prop:=∃v',e= .returned (.int .i64 q.1)/\Hid (RPX TR Z w' rb b mb v' p {r with m:=q.2}/\RPK rb b mb v W v' w')
theorem ydi
  {Z:Nat->Prop}(rb b mb:Nat)(v:MV)(p:Img)(r:RP)(W:World)(R:RPX TR Z W rb b mb v p r){N:Nat}(G:Gl Tryz.prog N W)(t a bb:Int)(nm tx:ByteArray)(x:Val)(vk vn:Int)(vs:ByteArray)(la:Option Addr)(ln lc:Nat)(F:Nat->Prop)(C:CF F W ⟨vk,vn,vs,la,ln,lc⟩ x)(hw:x.wf)
  (fa:Fa)(K:Known p fa)(P:Pk p)(hsp:fa.span<=p.code.length+1)(S:St p fa r.m)(hev:r.m.events<=30)(hZ:∀j,W.heap.size<=j->Z j)(hF:∀g,F g->¬RO rb b mb v g)(hN:∀g,RO rb b mb v g->N<=g)
  (id k:Int):
  Calls Tryz.prog 70 #[.pointer (some ⟨b,0,none⟩),.agg #[id,t,k,a,bb,nm,tx,vk,vn,vs,.slice la ln lc]] W (yoP Z rb b mb v p r W (yas p r.m ⟨id,t,k,a,bb,nm,tx,x⟩)):=by
 refine(ygM b v p r.m W R.mx G fa K P hsp S hev (fun j hj=>⟨hZ j hj,fun e=>by have:=zlt R.h;omega,fun e=>by have:=R.mlt;omega⟩) id t k a bb nm tx x vk vn vs la ln lc F C hw (fun g hg e=>hF g hg (.inr (.inr e))) _ rfl).mono ?_;rintro e B ⟨A,rfl,H⟩;exact⟨A,rfl,zhd ⟨R.turn H.o.1 H.o.2,RPK.mk_ H.o.2⟩⟩
theorem yko
  {Z:Nat->Prop}(rb b mb:Nat)(v:MV)(p:Img)(r:RP)(W:World)(R:RPX TR Z W rb b mb v p r){N:Nat}(G:Gl Tryz.prog N W)(t a bb:Int)(nm tx:ByteArray)(x:Val)(vk vn:Int)(vs:ByteArray)(la:Option Addr)(ln lc:Nat)(F:Nat->Prop)(C:CF F W ⟨vk,vn,vs,la,ln,lc⟩ x)(hw:x.wf)
  (fa:Fa)(K:Known p fa)(P:Pk p)(hsp:fa.span<=p.code.length+1)(S:St p fa r.m)(hev:r.m.events<=30)(hZ:∀j,W.heap.size<=j->Z j)(hF:∀g,F g->¬RO rb b mb v g)(hN:∀g,RO rb b mb v g->N<=g)
  (hck:yad ⟨(r.seen:Int)+1,t,1,a,bb,nm,tx,x⟩=0)(hcl:r.closed=false)(hsn:r.seen<=4000000)(h0:r.seen=0)(q:Int×RP)(hr:ybQ p r ⟨(r.seen:Int)+1,t,1,a,bb,nm,tx,x⟩=q):
  Calls Tryz.prog 56 #[.pointer (some ⟨rb,0,none⟩),.agg #[.int .i64 ((r.seen:Int)+1),t,.int .i64 1,a,bb,nm,tx,vk,vn,vs,.slice la ln lc]] W
   (ycy Z rb b mb v p W q):=by
 have HR:=zhd (show q=(0,{r with m:=(yas p r.m ⟨(r.seen:Int)+1,t,1,a,bb,nm,tx,x⟩).2,seen:=r.seen+1,closed:=yaS 1}) by rw[<-hr,yba (yb3 hck rfl hcl ⟨fun _=>rfl,fun _=>h0⟩),if_pos (by rfl)];rfl);have n3:((r.seen:Int)==0)=true:=by rw[beq_iff_eq];omega
 have n4:decide (0<(r.seen:Int))=false:=znd (by omega);have n5:¬0<(r.seen:Int):=by omega
 have Am:decide (0<r.seen)=false:=znd (by omega);have Al:¬0<r.seen:=by omega
 have Q:=zh8 K P hsp S hev hZ hF hN;have Ai:yaH 1=true:=rfl;clear hr h0 K P hsp S hev hZ hF hN;have HO:=zhd Ai;clear Ai;have An:wrap64 ((r.seen:Int)+1)=(r.seen:Int)+1:=by unfold wrap64;omega
 have HC:=zh2 hcl hsn;clear hsn hcl;obtain⟨w0,s⟩:∃w0,w0=W.alloc (.cells #[.int .i64 ((r.seen:Int)+1),t,.int .i64 1,a,bb,nm,tx,vk,vn,vs,.slice la ln lc] 40):=⟨_,rfl⟩;have B0:=zba s;have hB:=zha s;have C0:=C.keep (S:=fun _=>False) (zkb B0) (fun _ _ f=>f);have EK:=zhd (ybt ((r.seen:Int)+1) t 1 a bb nm tx x vk vn vs la ln lc F w0 (G.below B0) C0 hw _ hck);obtain⟨n,l,k,i,d,c,Y,V,U,T,A,O,_⟩:=yay hB;have y:=zh6 R B0 hB C G hw;have Ao:=zhd hck;clear hck C0 B0 hB C R G hw;go_in;go_wp2_with fail;rw[<-s];clear s;refine EK.o.mono ?_;rintro e w1 ⟨rfl,Ag⟩;have B1:Below W W w1:=y.o.2.1.trans (Ag.mono y.o.2.1.size);have Ae:=(Ag.block W O).trans y.o.2.2.1;have R1:=y.o.1.ext B1;clear n l k i d c Y V U T A O;obtain⟨n,l,k,i,d,c,Y,V,U,T,A,O,_⟩:=yay Ae;obtain⟨M,L,J,I,E,H,z,rf⟩:=R1.q;have H1:=zh3 B1 Ae R1;clear B1 Ae R1 Ag EK;rw[HC.o.1]at E;go_upto_region 3 with(fail);go_region
 all_goals
  go_upto_region 10 with(fail);refine yaa ?_;intro w3 Ah;have P3:=(H1.o.2.2.ext (znv _ _).drew).put 1 (.int .i64 ((r.seen:Int)+1)) {r with seen:=r.seen+1} rfl rfl (by simp);have D:w3=w1.drew.setCell ⟨rb,1,none⟩ (.int .i64 ((r.seen:Int)+1)):=by rw[Ah];rfl
  rw[<-D]at P3;have nb:W≠rb:=fun e=>by have:=zlt y.o.1.h;omega
  have Ad:w3.heap[W.heap.size]? =some (.cells #[.int .i64 ((r.seen:Int)+1),t,.int .i64 1,a,bb,nm,tx,vk,vn,vs,.slice la ln lc] 40 (0,0)):=by rw[D];exact(znn _ _ _ _ nb).trans H1.o.2.1
  have K3:RPK rb b mb v W v w3:=(RPK.ext H1.o.1.drew).trans P3.2;have Aj:w3.heap.size=w1.heap.size:=by rw[D];simp[World.setCell]
  clear Ah D n l k i d c Y V U T A O M L J I E H z rf nb;obtain⟨n,l,k,i,d,c,Y,V,U,T,A,O,_⟩:=yay Ad;obtain⟨M,L,J,I,E,H,z,rf⟩:=P3.1.q;dsimp only at M L J I E H;have OU:=zhd (yam ((r.seen:Int)+1) t 1 a bb nm tx vk vn vs la ln lc w3 _ HO.o);have H3:=zh3 P3.1 K3 Ad;clear P3 K3 Ad Aj;go_wp2_with fail;refine OU.o.mono ?_;rintro e w4 ⟨rfl,u⟩;have Ac:=(u.block W O).trans H3.o.2.2;have R4:=H3.o.1.ext u;have K4:=H3.o.2.1.trans (RPK.ext u);clear n l k i d c Y V U T A O M L J I E H z rf OU;obtain⟨n,l,k,i,d,c,Y,V,U,T,A,O,_⟩:=yay Ac;obtain⟨M,L,J,I,E,H,z,rf⟩:=R4.q;dsimp only at M L J I E H;have H4:=zh3 R4 K4 Ac;clear R4 K4 Ac u
 all_goals
  go_upto_region 13 with(fail);have RA:=zhd (fun X (B:Below w4 w4 X)=>ydi rb b mb v p {r with seen:=r.seen+1} X (H4.o.1.ext B) (((y.o.2.2.2.2.1.keep H4.o.2.1.keeps Q.o.2.2.2.2.2.2.2).below B)) t a bb nm tx x vk vn vs la ln lc F ((y.o.2.2.2.1.keep H4.o.2.1.keeps Q.o.2.2.2.2.2.2.1).keep (S:=fun _=>False) (zkb B) (fun _ _ f=>f)) y.o.2.2.2.2.2 fa Q.o.1 Q.o.2.1 Q.o.2.2.1 Q.o.2.2.2.1 Q.o.2.2.2.2.1 (fun j hj=>Q.o.2.2.2.2.2.1 j (by have h1:=B.size;have h2:=H4.o.2.1.keeps.size;omega)) Q.o.2.2.2.2.2.2.1 Q.o.2.2.2.2.2.2.2 ((r.seen:Int)+1) 1);have HW:=zhd (show W<w4.heap.size/\¬RO rb b mb v W.heap.size from⟨O,fun e=>by have:=y.o.1.lt e;omega⟩);have HD:Below w4 w4 w4.drew:=(znv _ _).drew;go_region_law ((go_simp;go_at_call 70;refine(RA.o _ (by first|exact HD|exact znv _ _)).mono ?_;rintro e w6 ⟨v6,rfl,H6⟩))
  all_goals
   have K6:=H4.o.2.1.trans ((RPK.ext HD).trans H6.o.2);have Ab:=(H6.o.2.keeps.block W HW.o.1 HW.o.2).trans H4.o.2.2;have HY:=zh3 H6.o.1 K6 Ab;clear n l k i d c Y V U T A O M L J I E H z rf RA HD K6;obtain⟨n,l,k,i,d,c,Y,V,U,T,A,O,_⟩:=yay Ab;obtain⟨M,L,J,I,E,H,z,rf⟩:=HY.o.1.q;dsimp only at M L J I E H;clear Ab;obtain⟨cb,Aa⟩:∃cb,decide (16<=(1:Int)/\1<=21)=cb:=⟨_,rfl⟩;have CS:=zhd (ybK ((r.seen:Int)+1) t 1 a bb nm tx vk vn vs la ln lc w6 cb Aa);have Ak:=zhd Aa;clear Aa;go_wp2_with fail;refine CS.o.mono ?_;rintro e w8 ⟨rfl,Af⟩;have R8:=HY.o.1.ext Af;have K8:=HY.o.2.1.trans (RPK.ext Af);clear n l k i d c Y V U T A O M L J I E H z rf CS;obtain⟨M,L,J,I,E,H,z,rf⟩:=R8.q;dsimp only at M L J I E H;have P8:=R8.put 4 (.bool cb) q.2 (by rw[HR.o]) (by rw[HR.o]) (by rw[HR.o,<-Ak.o];rfl);have H8:=zh2 P8.1 (K8.trans P8.2);clear R8 K8 P8 Af;go_wp2;go_ret;exact⟨_,by rw[HR.o];rfl,zhd H8.o⟩
theorem ym7
  {Z:Nat->Prop}(rb b mb:Nat)(v:MV)(p:Img)(r:RP)(W:World)(R:RPX TR Z W rb b mb v p r){N:Nat}(G:Gl Tryz.prog N W)(t a bb:Int)(nm tx:ByteArray)(x:Val)(vk vn:Int)(vs:ByteArray)(la:Option Addr)(ln lc:Nat)(F:Nat->Prop)(C:CF F W ⟨vk,vn,vs,la,ln,lc⟩ x)(hw:x.wf)
  (fa:Fa)(K:Known p fa)(P:Pk p)(hsp:fa.span<=p.code.length+1)(S:St p fa r.m)(hev:r.m.events<=30)(hZ:∀j,W.heap.size<=j->Z j)(hF:∀g,F g->¬RO rb b mb v g)(hN:∀g,RO rb b mb v g->N<=g)
  (k:Int)(hck:yad ⟨(r.seen:Int)+1,t,k,a,bb,nm,tx,x⟩=0)(hcl:r.closed=false)(hsn:r.seen<=4000000)(h0:¬r.seen=0)(hk:¬k=1)(h12:¬k=12)(hko:yaH k=true)(q:Int×RP)(hr:ybQ p r ⟨(r.seen:Int)+1,t,k,a,bb,nm,tx,x⟩=q):
  Calls Tryz.prog 56 #[.pointer (some ⟨rb,0,none⟩),.agg #[.int .i64 ((r.seen:Int)+1),t,k,a,bb,nm,tx,vk,vn,vs,.slice la ln lc]] W
   (ycy Z rb b mb v p W q):=by
 have HR:=zhd (show q=(0,{r with m:=(yas p r.m ⟨(r.seen:Int)+1,t,k,a,bb,nm,tx,x⟩).2,seen:=r.seen+1,closed:=yaS k}) by rw[<-hr,yba (yb3 hck rfl hcl ⟨fun h=>absurd h h0,fun h=>absurd h hk⟩),if_pos (by exact hko)];dsimp only;rw[if_neg h12]);have n1:(k==1)=false:=by rw[zna];exact hk
 have n2:(k !=1)=true:=by unfold bne;rw[n1];rfl
 have n6:(k==12)=false:=by rw[zna];exact h12
 have n3:((r.seen:Int)==0)=false:=by rw[zna];omega
 have n4:decide (0<(r.seen:Int))=true:=zno (by omega);have n5:0<(r.seen:Int):=by omega
 have Al:decide (0<r.seen)=true:=zno (by omega);have Ak:0<r.seen:=by omega
 have Q:=zh8 K P hsp S hev hZ hF hN;clear hr h0 hk h12 K P hsp S hev hZ hF hN;have HO:=zhd hko;clear hko;have Am:wrap64 ((r.seen:Int)+1)=(r.seen:Int)+1:=by unfold wrap64;omega
 have HC:=zh2 hcl hsn;clear hsn hcl;obtain⟨w0,u⟩:∃w0,w0=W.alloc (.cells #[.int .i64 ((r.seen:Int)+1),t,k,a,bb,nm,tx,vk,vn,vs,.slice la ln lc] 40):=⟨_,rfl⟩;have B0:=zba u;have hB:=zha u;have C0:=C.keep (S:=fun _=>False) (zkb B0) (fun _ _ f=>f);have EK:=zhd (ybt ((r.seen:Int)+1) t k a bb nm tx x vk vn vs la ln lc F w0 (G.below B0) C0 hw _ hck);obtain⟨s,n,l,i,d,c,Y,V,U,T,A,O,_⟩:=yay hB;have z:=zh6 R B0 hB C G hw;have An:=zhd hck;clear hck C0 B0 hB C R G hw;go_in;go_wp2_with fail;rw[<-u];clear u;refine EK.o.mono ?_;rintro e w1 ⟨rfl,Ag⟩;have B1:Below W W w1:=z.o.2.1.trans (Ag.mono z.o.2.1.size);have Ae:=(Ag.block W O).trans z.o.2.2.1;have R1:=z.o.1.ext B1;clear s n l i d c Y V U T A O;obtain⟨s,n,l,i,d,c,Y,V,U,T,A,O,_⟩:=yay Ae;obtain⟨M,L,J,I,E,H,rl,rf⟩:=R1.q;have H1:=zh3 B1 Ae R1;clear B1 Ae R1 Ag EK;rw[HC.o.1]at E;go_upto_region 3 with(fail);go_region
 all_goals
  go_upto_region 10 with(fail);refine yaa ?_;intro w3 Ah;have P3:=(H1.o.2.2.ext (znv _ _).drew).put 1 (.int .i64 ((r.seen:Int)+1)) {r with seen:=r.seen+1} rfl rfl (by simp);have D:w3=w1.drew.setCell ⟨rb,1,none⟩ (.int .i64 ((r.seen:Int)+1)):=by rw[Ah];rfl
  rw[<-D]at P3;have nb:W≠rb:=fun e=>by have:=zlt z.o.1.h;omega
  have Ad:w3.heap[W.heap.size]? =some (.cells #[.int .i64 ((r.seen:Int)+1),t,k,a,bb,nm,tx,vk,vn,vs,.slice la ln lc] 40 (0,0)):=by rw[D];exact(znn _ _ _ _ nb).trans H1.o.2.1
  have K3:RPK rb b mb v W v w3:=(RPK.ext H1.o.1.drew).trans P3.2;have Ai:w3.heap.size=w1.heap.size:=by rw[D];simp[World.setCell]
  clear Ah D s n l i d c Y V U T A O M L J I E H rl rf nb;obtain⟨s,n,l,i,d,c,Y,V,U,T,A,O,_⟩:=yay Ad;obtain⟨M,L,J,I,E,H,rl,rf⟩:=P3.1.q;dsimp only at M L J I E H;have OU:=zhd (yam ((r.seen:Int)+1) t k a bb nm tx vk vn vs la ln lc w3 _ HO.o);have H3:=zh3 P3.1 K3 Ad;clear P3 K3 Ad Ai;go_wp2_with fail;refine OU.o.mono ?_;rintro e w4 ⟨rfl,y⟩;have Ac:=(y.block W O).trans H3.o.2.2;have R4:=H3.o.1.ext y;have K4:=H3.o.2.1.trans (RPK.ext y);clear s n l i d c Y V U T A O M L J I E H rl rf OU;obtain⟨s,n,l,i,d,c,Y,V,U,T,A,O,_⟩:=yay Ac;obtain⟨M,L,J,I,E,H,rl,rf⟩:=R4.q;dsimp only at M L J I E H;have H4:=zh3 R4 K4 Ac;clear R4 K4 Ac y
 all_goals
  go_upto_region 13 with(fail);have RA:=zhd (fun X (B:Below w4 w4 X)=>ydi rb b mb v p {r with seen:=r.seen+1} X (H4.o.1.ext B) (((z.o.2.2.2.2.1.keep H4.o.2.1.keeps Q.o.2.2.2.2.2.2.2).below B)) t a bb nm tx x vk vn vs la ln lc F ((z.o.2.2.2.1.keep H4.o.2.1.keeps Q.o.2.2.2.2.2.2.1).keep (S:=fun _=>False) (zkb B) (fun _ _ f=>f)) z.o.2.2.2.2.2 fa Q.o.1 Q.o.2.1 Q.o.2.2.1 Q.o.2.2.2.1 Q.o.2.2.2.2.1 (fun j hj=>Q.o.2.2.2.2.2.1 j (by have h1:=B.size;have h2:=H4.o.2.1.keeps.size;omega)) Q.o.2.2.2.2.2.2.1 Q.o.2.2.2.2.2.2.2 ((r.seen:Int)+1) k);have HW:=zhd (show W<w4.heap.size/\¬RO rb b mb v W.heap.size from⟨O,fun e=>by have:=z.o.1.lt e;omega⟩);have HD:Below w4 w4 w4.drew:=(znv _ _).drew;go_region_law ((go_simp;go_at_call 70;refine(RA.o _ (by first|exact HD|exact znv _ _)).mono ?_;rintro e w6 ⟨v6,rfl,H6⟩))
  all_goals
   have K6:=H4.o.2.1.trans ((RPK.ext HD).trans H6.o.2);have Ab:=(H6.o.2.keeps.block W HW.o.1 HW.o.2).trans H4.o.2.2;have HY:=zh3 H6.o.1 K6 Ab;clear s n l i d c Y V U T A O M L J I E H rl rf RA HD K6;obtain⟨s,n,l,i,d,c,Y,V,U,T,A,O,_⟩:=yay Ab;obtain⟨M,L,J,I,E,H,rl,rf⟩:=HY.o.1.q;dsimp only at M L J I E H;clear Ab;obtain⟨cb,Aa⟩:∃cb,decide (16<=(k:Int)/\k<=21)=cb:=⟨_,rfl⟩;have CS:=zhd (ybK ((r.seen:Int)+1) t k a bb nm tx vk vn vs la ln lc w6 cb Aa);have Aj:=zhd Aa;clear Aa;go_wp2_with fail;refine CS.o.mono ?_;rintro e w8 ⟨rfl,Af⟩;have R8:=HY.o.1.ext Af;have K8:=HY.o.2.1.trans (RPK.ext Af);clear s n l i d c Y V U T A O M L J I E H rl rf CS;obtain⟨M,L,J,I,E,H,rl,rf⟩:=R8.q;dsimp only at M L J I E H;have P8:=R8.put 4 (.bool cb) q.2 (by rw[HR.o]) (by rw[HR.o]) (by rw[HR.o,<-Aj.o];rfl);have H8:=zh2 P8.1 (K8.trans P8.2);clear R8 K8 P8 Af;go_wp2;go_ret;exact⟨_,by rw[HR.o];rfl,zhd H8.o⟩
theorem ykp
  {Z:Nat->Prop}(rb b mb:Nat)(v:MV)(p:Img)(r:RP)(W:World)(R:RPX TR Z W rb b mb v p r){N:Nat}(G:Gl Tryz.prog N W)(t a bb:Int)(nm tx:ByteArray)(x:Val)(vk vn:Int)(vs:ByteArray)(la:Option Addr)(ln lc:Nat)(F:Nat->Prop)(C:CF F W ⟨vk,vn,vs,la,ln,lc⟩ x)(hw:x.wf)
  (fa:Fa)(K:Known p fa)(P:Pk p)(hsp:fa.span<=p.code.length+1)(S:St p fa r.m)(hev:r.m.events<=30)(hZ:∀j,W.heap.size<=j->Z j)(hF:∀g,F g->¬RO rb b mb v g)(hN:∀g,RO rb b mb v g->N<=g)
  (hck:yad ⟨(r.seen:Int)+1,t,12,a,bb,nm,tx,x⟩=0)(hcl:r.closed=false)(hsn:r.seen<=4000000)(h0:¬r.seen=0)(q:Int×RP)(hr:ybQ p r ⟨(r.seen:Int)+1,t,12,a,bb,nm,tx,x⟩=q):
  Calls Tryz.prog 56 #[.pointer (some ⟨rb,0,none⟩),.agg #[.int .i64 ((r.seen:Int)+1),t,.int .i64 12,a,bb,nm,tx,vk,vn,vs,.slice la ln lc]] W
   (ycy Z rb b mb v p W q):=by
 have HR:=zhd (show q=(0,{r with m:=(yas p r.m ⟨(r.seen:Int)+1,t,12,a,bb,nm,tx,x⟩).2,seen:=r.seen+1,fired:=a::r.fired,closed:=yaS 12}) by rw[<-hr,yba (yb3 hck rfl hcl ⟨fun h=>absurd h h0,fun h=>absurd h (by show¬(12:Int)=1;decide)⟩),if_pos (by rfl)];rfl);have n3:((r.seen:Int)==0)=false:=by rw[zna];omega
 have n4:decide (0<(r.seen:Int))=true:=zno (by omega);have n5:0<(r.seen:Int):=by omega
 have Au:decide (0<r.seen)=true:=zno (by omega);have At:0<r.seen:=by omega
 have y:=zh8 K P hsp S hev hZ hF hN;have Ap:yaH 12=true:=rfl;clear hr h0 K P hsp S hev hZ hF hN;have HO:=zhd Ap;clear Ap;have Av:wrap64 ((r.seen:Int)+1)=(r.seen:Int)+1:=by unfold wrap64;omega
 have HC:=zh2 hcl hsn;clear hsn hcl;obtain⟨w0,z⟩:∃w0,w0=W.alloc (.cells #[.int .i64 ((r.seen:Int)+1),t,.int .i64 12,a,bb,nm,tx,vk,vn,vs,.slice la ln lc] 40):=⟨_,rfl⟩;have B0:=zba z;have hB:=zha z;have C0:=C.keep (S:=fun _=>False) (zkb B0) (fun _ _ f=>f);have EK:=zhd (ybt ((r.seen:Int)+1) t 12 a bb nm tx x vk vn vs la ln lc F w0 (G.below B0) C0 hw _ hck);obtain⟨l,k,i,d,c,Y,V,U,T,Q,A,M,_⟩:=yay hB;have u:=zh6 R B0 hB C G hw;have Ax:=zhd hck;clear hck C0 B0 hB C R G hw;go_in;go_wp2_with fail;rw[<-z];clear z;refine EK.o.mono ?_;rintro e w1 ⟨rfl,Al⟩;have B1:Below W W w1:=u.o.2.1.trans (Al.mono u.o.2.1.size);have Aj:=(Al.block W M).trans u.o.2.2.1;have R1:=u.o.1.ext B1;clear l k i d c Y V U T Q A M;obtain⟨l,k,i,d,c,Y,V,U,T,Q,A,M,_⟩:=yay Aj;obtain⟨L,J,I,H,D,E,n,s⟩:=R1.q;have H1:=zh3 B1 Aj R1;clear B1 Aj R1 Al EK;rw[HC.o.1]at D;go_upto_region 3 with(fail);go_region
 all_goals
  go_upto_region 10 with(fail);refine yaa ?_;intro w3 An;have P3:=(H1.o.2.2.ext (znv _ _).drew).put 1 (.int .i64 ((r.seen:Int)+1)) {r with seen:=r.seen+1} rfl rfl (by simp);have O:w3=w1.drew.setCell ⟨rb,1,none⟩ (.int .i64 ((r.seen:Int)+1)):=by rw[An];rfl
  rw[<-O]at P3;have nb:W≠rb:=fun e=>by have:=zlt u.o.1.h;omega
  have Ai:w3.heap[W.heap.size]? =some (.cells #[.int .i64 ((r.seen:Int)+1),t,.int .i64 12,a,bb,nm,tx,vk,vn,vs,.slice la ln lc] 40 (0,0)):=by rw[O];exact(znn _ _ _ _ nb).trans H1.o.2.1
  have K3:RPK rb b mb v W v w3:=(RPK.ext H1.o.1.drew).trans P3.2;have Ar:w3.heap.size=w1.heap.size:=by rw[O];simp[World.setCell]
  clear An O l k i d c Y V U T Q A M L J I H D E n s nb;obtain⟨l,k,i,d,c,Y,V,U,T,Q,A,M,_⟩:=yay Ai;obtain⟨L,J,I,H,D,E,n,s⟩:=P3.1.q;dsimp only at L J I H D E;have OU:=zhd (yam ((r.seen:Int)+1) t 12 a bb nm tx vk vn vs la ln lc w3 _ HO.o);have H3:=zh3 P3.1 K3 Ai;clear P3 K3 Ai Ar;go_wp2_with fail;refine OU.o.mono ?_;rintro e w4 ⟨rfl,Aa⟩;have Ah:=(Aa.block W M).trans H3.o.2.2;have R4:=H3.o.1.ext Aa;have K4:=H3.o.2.1.trans (RPK.ext Aa);clear l k i d c Y V U T Q A M L J I H D E n s OU;obtain⟨l,k,i,d,c,Y,V,U,T,Q,A,M,_⟩:=yay Ah;obtain⟨L,J,I,H,D,E,n,s⟩:=R4.q;dsimp only at L J I H D E;have H4:=zh3 R4 K4 Ah;clear R4 K4 Ah Aa
 all_goals
  obtain⟨o,Ad,Ac⟩:=MapAt.store H4.o.1.fm yl1 Tryz.underlying57 a true;replace Ad:∀X:World,ydY w4 mb X->(Instr.mapUpdate 57 (.map (some mb)) (.int .i64 a) (.bool true)).run Tryz.prog X= .ok () (setBlock X mb o):=Ad;have Ao:=H4.o.1.mlt;have Aq:=zhd (Ac _ (yce _ _ _ Ao));clear Ac;go_upto_region 12 with(fail);go_region
  all_goals
   go_upto_region 13 with(fail);refine yaa ?_;intro w5 Am;have Ab:w5=(setBlock w4 mb o).drew:=by rw[Am];rfl
   have F5:=H4.o.1.fire a Aq.o;have R5:=F5.1.ext (znv _ _).drew;have K5:=F5.2.trans (RPK.ext (znv (setBlock w4 mb o).heap.size (setBlock w4 mb o)).drew);rw[<-Ab]at R5 K5;have Ag:=(K5.keeps.block W M (fun e=>by have:=u.o.1.lt e;omega)).trans H4.o.2.2;have H5:=zh3 R5 (H4.o.2.1.trans K5) Ag;clear Am Ab F5 R5 K5 Ad Ao Aq l k i d c Y V U T Q A M L J I H D E n s;obtain⟨l,k,i,d,c,Y,V,U,T,Q,A,M,_⟩:=yay Ag;obtain⟨L,J,I,H,D,E,n,s⟩:=H5.o.1.q;dsimp only at L J I H D E;clear Ag;have RA:=zhd (fun X (B:Below w5 w5 X)=>ydi rb b mb v p {r with seen:=r.seen+1,fired:=a::r.fired} X (H5.o.1.ext B) (((u.o.2.2.2.2.1.keep H5.o.2.1.keeps y.o.2.2.2.2.2.2.2).below B)) t a bb nm tx x vk vn vs la ln lc F ((u.o.2.2.2.1.keep H5.o.2.1.keeps y.o.2.2.2.2.2.2.1).keep (S:=fun _=>False) (zkb B) (fun _ _ f=>f)) u.o.2.2.2.2.2 fa y.o.1 y.o.2.1 y.o.2.2.1 y.o.2.2.2.1 y.o.2.2.2.2.1 (fun j hj=>y.o.2.2.2.2.2.1 j (by have h1:=B.size;have h2:=H5.o.2.1.keeps.size;omega)) y.o.2.2.2.2.2.2.1 y.o.2.2.2.2.2.2.2 ((r.seen:Int)+1) 12)
   have HW:=zhd (show W<w5.heap.size/\¬RO rb b mb v W.heap.size from⟨M,fun e=>by have:=u.o.1.lt e;omega⟩);have HD:Below w5 w5 w5.drew:=(znv _ _).drew;go_region_law ((go_simp;go_at_call 70;refine(RA.o _ (by first|exact HD|exact znv _ _)).mono ?_;rintro e w6 ⟨v6,rfl,H6⟩))
   all_goals
    have K6:=H5.o.2.1.trans ((RPK.ext HD).trans H6.o.2);have Af:=(H6.o.2.keeps.block W HW.o.1 HW.o.2).trans H5.o.2.2;have HY:=zh3 H6.o.1 K6 Af;clear l k i d c Y V U T Q A M L J I H D E n s RA HD K6;obtain⟨l,k,i,d,c,Y,V,U,T,Q,A,M,_⟩:=yay Af;obtain⟨L,J,I,H,D,E,n,s⟩:=HY.o.1.q;dsimp only at L J I H D E;clear Af;obtain⟨cb,Ae⟩:∃cb,decide (16<=(12:Int)/\12<=21)=cb:=⟨_,rfl⟩;have CS:=zhd (ybK ((r.seen:Int)+1) t 12 a bb nm tx vk vn vs la ln lc w6 cb Ae);have As:=zhd Ae;clear Ae;go_wp2_with fail;refine CS.o.mono ?_;rintro e w8 ⟨rfl,Ak⟩;have R8:=HY.o.1.ext Ak;have K8:=HY.o.2.1.trans (RPK.ext Ak);clear l k i d c Y V U T Q A M L J I H D E n s CS;obtain⟨L,J,I,H,D,E,n,s⟩:=R8.q;dsimp only at L J I H D E;have P8:=R8.put 4 (.bool cb) q.2 (by rw[HR.o]) (by rw[HR.o]) (by rw[HR.o,<-As.o];rfl);have H8:=zh2 P8.1 (K8.trans P8.2);clear R8 K8 P8 Ak;go_wp2;go_ret;exact⟨_,by rw[HR.o];rfl,zhd H8.o⟩
set_option linter.unusedVariables false
theorem ykQ (c:Cm)(e:Ev)(h:(evOfC c).kind≠0):ydL c e=yde {evOfC c with id:=e.id,b:=bif (evOfC c).kind==21 then e.b else(evOfC c).b} e:=by
 unfold ydL yde;dsimp only;rw[show((evOfC c).kind !=0)=true by simpa using h,Bool.true_and,beq_self_eq_true,Bool.true_and]
theorem yni {c:Cm}(hc:yaV c=0):ybR (evOfC c).kind=true:=by
 obtain⟨_,_,_,_,_,hk⟩:=ydW hc;unfold evOfC
 repeat' split
 all_goals first|rfl|(exfalso;omega)
theorem yjv {c:Cm}(hc:yaV c=0):(evOfC c).kind≠0:=fun e=>by
 have h:=yni hc;rw[e]at h;exact absurd h (by decide)
theorem ymi (c:Cm)(hc:yaV c=0)(hz:szV c.v<=1073741824)(ck cn:Int)(cs:ByteArray)(ma:Option Addr)(mn mc:Nat)(F:Nat->Prop)(W:World)(C:CF F W ⟨ck,cn,cs,ma,mn,mc⟩ c.v)
  (id t k a bb:Int)(nm tx:ByteArray)(x:Val)(vk vn:Int)(vs:ByteArray)(la:Option Addr)(ln lc:Nat)(F':Nat->Prop)(D:CF F' W ⟨vk,vn,vs,la,ln,lc⟩ x)(q:Bool)(hq:ydL c ⟨id,t,k,a,bb,nm,tx,x⟩=q):
  Calls Tryz.prog 102 #[.agg #[c.kind,c.time,c.a,c.b,c.name,ck,cn,cs,.slice ma mn mc],.agg #[id,t,k,a,bb,nm,tx,vk,vn,vs,.slice la ln lc]] W (fun e w'=>e= .returned (.bool q)/\Below W W w'):=by
 obtain⟨w0,L⟩:∃w0,w0=(W.alloc (.cells #[c.kind,c.time,c.a,c.b,c.name,ck,cn,cs,.slice ma mn mc] 52)).alloc (.cells #[id,t,k,a,bb,nm,tx,vk,vn,vs,.slice la ln lc] 40):=⟨_,rfl⟩;have B0:Below W W w0:=by rw[L];exact(zal).alloc (by simp) _
 have hC:w0.heap[W.heap.size]? =some (.cells #[c.kind,c.time,c.a,c.b,c.name,ck,cn,cs,.slice ma mn mc] 52 (0,0)):=by rw[L];exact yaC
 have hD:w0.heap[W.heap.size+1]? =some (.cells #[id,t,k,a,bb,nm,tx,vk,vn,vs,.slice la ln lc] 40 (0,0)):=by rw[L];exact yan
 obtain⟨c0,c1,c2,c3,c4,c5,c6,c7,c8,cl,_⟩:=ygD hC;have CE:=zhd (yb8 c hc hz ck cn cs ma mn mc F w0 (C.keep (S:=fun _=>False) (zkb B0) (fun _ _ f=>f)));have y:=yjv hc;rw[ykQ c _ y]at hq;have Ad:((evOfC c).kind==0)=false:=by rw[zna];exact y
 have Ag:((evOfC c).kind !=0)=true:=by unfold bne;rw[Ad];rfl
 have K:=zh4 B0 hD D hq;clear B0 hC C D hc hz hq y hD;go_in;go_wp2_with fail;rw[<-L];clear L;refine CE.o.mono ?_;rintro e w1 ⟨uk,un,us,ua,ul,uc,rfl,H1⟩;have Ab:=(H1.o.2.block (W.heap.size+1) (zlt K.o.2.1)).trans K.o.2.1;obtain⟨n,m,l,i,d,Z,Y,X,V,U,B,Q,T⟩:=yay Ab;have Ac:=zhd Ab;clear c0 c1 c2 c3 c4 c5 c6 c7 c8 cl CE Ab;go_upto_region 2 with(fail);refine yaa ?_;intro w2 p;have z:=zha p;have B2:=zba p;have Aa:=(B2.block (W.heap.size+1) Q).trans Ac.o;clear n m l i d Z Y X V U B Q T;obtain⟨n,m,l,i,d,Z,Y,X,V,U,B,Q,T⟩:=yay Aa;obtain⟨e0,e1,e2,e3,e4,e5,e6,e7,e8,e9,J,el,ef⟩:=yay z;have nb:W.heap.size+1≠w1.heap.size:=fun e=>by have:=zlt Ac.o;omega
 have Af:¬W.heap.size+1=w1.heap.size:=nb;have Ae:¬w1.heap.size=W.heap.size+1:=fun e=>nb e.symm;have P:=zh3 B2 Aa z;clear p B2 Aa z;by_cases h21:(evOfC c).kind=21
 .have u:((evOfC c).kind==21)=true:=by rw[beq_iff_eq];exact h21
  have HQ:=zhd (show yde ⟨id,(evOfC c).time,(evOfC c).kind,(evOfC c).a,bb,(evOfC c).name,(evOfC c).text,(evOfC c).v⟩ ⟨id,t,k,a,bb,nm,tx,x⟩=q by have:=K.o.2.2.2;rw[u]at this;exact this);clear h21;go_upto_region 5 with(fail);refine yaa ?_;intro w3 E;have M:w3.heap[w1.heap.size]? =some (.cells #[id,(evOfC c).time,(evOfC c).kind,(evOfC c).a,bb,(evOfC c).name,(evOfC c).text,uk,un,us,.slice ua ul uc] 40 (0,0)):=by
   rw[E];have:=P.o.2.2;simp[World.setCell,zni,this]
  have R:Keeps (fun j=>j=w1) w2 w3:=by
   rw[E]
   repeat(first|with_reducible exact Keeps.refl _ _|(refine Keeps.setCell ?_ (Or.inl ?h) _;case h=>rfl))
  have N:=(R.block (W.heap.size+1) (zlt P.o.2.1) nb).trans P.o.2.1;clear n m l i d Z Y X V U B Q T e0 e1 e2 e3 e4 e5 e6 e7 e8 e9 J el ef E;obtain⟨n,m,l,i,d,Z,Y,X,V,U,B,Q,T⟩:=yay N;obtain⟨e0,e1,e2,e3,e4,e5,e6,e7,e8,e9,J,el,ef⟩:=yay M;have r:=H1.o.2.size;have A:=K.o.1.trans (H1.o.2.mono K.o.1.size);have I:=A.trans (P.o.1.mono A.size);have H:Below W W w3:=I.trans (R.below I.size (fun j hj e=>by have:=A.size;omega));have s:=K.o.1.size;have CV:=((H1.o.1.mono (G:=fun g=>g<w1) (fun g _ hl=>hl)).keep (S:=fun _=>False) (zkb P.o.1) (fun _ _ f=>f)).keep R (fun g hg e=>by have hg:g<w1:=hg;omega);have SA:=zhd (ygp id (evOfC c).time (evOfC c).kind (evOfC c).a bb (evOfC c).name (evOfC c).text uk un us ua ul uc id t k a bb nm tx vk vn vs la ln lc (evOfC c).v x _ _ w3 CV (K.o.2.2.1.keep (S:=fun _=>False) (zkb H) (fun _ _ f=>f)) q HQ.o);have H3:=zhd H;clear M R N r A I H s CV nb;go_wp2_with fail;refine SA.o.mono ?_;rintro e w4 ⟨rfl,O⟩;have H4:=zhd (H3.o.trans (O.mono H3.o.size))
  clear O n m l i d Z Y X V U B Q T e0 e1 e2 e3 e4 e5 e6 e7 e8 e9 J el ef;go_wp2;go_ret;exact⟨rfl,H4.o⟩
 .have u:((evOfC c).kind==21)=false:=by rw[zna];exact h21
  have HQ:=zhd (show yde ⟨id,(evOfC c).time,(evOfC c).kind,(evOfC c).a,(evOfC c).b,(evOfC c).name,(evOfC c).text,(evOfC c).v⟩ ⟨id,t,k,a,bb,nm,tx,x⟩=q by have:=K.o.2.2.2;rw[u]at this;exact this);clear h21;go_upto_region 5 with(fail);refine yaa ?_;intro w3 E;have M:w3.heap[w1.heap.size]? =some (.cells #[id,(evOfC c).time,(evOfC c).kind,(evOfC c).a,(evOfC c).b,(evOfC c).name,(evOfC c).text,uk,un,us,.slice ua ul uc] 40 (0,0)):=by
   rw[E];have:=P.o.2.2;simp[World.setCell,zni,this]
  have R:Keeps (fun j=>j=w1) w2 w3:=by
   rw[E]
   repeat(first|with_reducible exact Keeps.refl _ _|(refine Keeps.setCell ?_ (Or.inl ?h) _;case h=>rfl))
  have N:=(R.block (W.heap.size+1) (zlt P.o.2.1) nb).trans P.o.2.1;clear n m l i d Z Y X V U B Q T e0 e1 e2 e3 e4 e5 e6 e7 e8 e9 J el ef E;obtain⟨n,m,l,i,d,Z,Y,X,V,U,B,Q,T⟩:=yay N;obtain⟨e0,e1,e2,e3,e4,e5,e6,e7,e8,e9,J,el,ef⟩:=yay M;have r:=H1.o.2.size;have A:=K.o.1.trans (H1.o.2.mono K.o.1.size);have I:=A.trans (P.o.1.mono A.size);have H:Below W W w3:=I.trans (R.below I.size (fun j hj e=>by have:=A.size;omega));have s:=K.o.1.size;have CV:=((H1.o.1.mono (G:=fun g=>g<w1) (fun g _ hl=>hl)).keep (S:=fun _=>False) (zkb P.o.1) (fun _ _ f=>f)).keep R (fun g hg e=>by have hg:g<w1:=hg;omega);have SA:=zhd (ygp id (evOfC c).time (evOfC c).kind (evOfC c).a (evOfC c).b (evOfC c).name (evOfC c).text uk un us ua ul uc id t k a bb nm tx vk vn vs la ln lc (evOfC c).v x _ _ w3 CV (K.o.2.2.1.keep (S:=fun _=>False) (zkb H) (fun _ _ f=>f)) q HQ.o);have H3:=zhd H;clear M R N r A I H s CV nb;go_wp2_with fail;refine SA.o.mono ?_;rintro e w4 ⟨rfl,O⟩;have H4:=zhd (H3.o.trans (O.mono H3.o.size))
  clear O n m l i d Z Y X V U B Q T e0 e1 e2 e3 e4 e5 e6 e7 e8 e9 J el ef;go_wp2;go_ret;exact⟨rfl,H4.o⟩
end Go.Proofs.YtpagmlndgblhhaaGreatDoor
namespace Go.Va
open Go.Own Go.RowKit
open Go.Proofs.YtpagmlndgblhhaaGreatDoor
theorem yfM {c:Cm}(h:yaV c=0)(hw:c.v.wf):yaV (yaE c)=0/\(yaE c).v.wf:=by
 have hv:checkL c.v=0:=(ydW h).2.2.2.2.1;have A:=ybb ⟨hv,hw⟩;refine⟨?_,A.2⟩;unfold yaV at h|-;show(match ylb c.kind with
  |none=>(9:Int)
  |some (fa,fb,fn,fv)=>
   if c.time<0\/4611686018427387903<c.time\/c.a<0\/c.b<0\/(fa=false/\c.a≠0)\/(fb=false/\c.b≠0)then 1 else
   if 64<c.name.size then 2 else
   if(fn=false/\c.name.size≠0)\/(fv=false/\(yab c.v).kind≠0)then 8 else checkL (yab c.v))=0
 rw[yaL,A.1];rw[hv]at h;exact h
theorem ymG {p:Img}{fa:Fa}(K:Known p fa)(P:Pk p)(hsp:fa.span<=p.code.length+1){r:RP}(S:St p fa r.m){e:Ev}(hw:e.v.wf)(hev:r.m.events+(ya1 [e]).length<=30)(hnx:r.next<=r.m.made.length):
  St p fa (ybQ p r e).2.m/\(ybQ p r e).2.m.events<=r.m.events+(ya1 [e]).length/\(ybQ p r e).2.next<=(ybQ p r e).2.m.made.length/\(ybQ p r e).2.seen<=r.seen+1:=by
 by_cases hwn:ycM r e=0
 .rw[yba hwn]
  obtain⟨a,b,A,B,G,F⟩:=yc1 r.fired (r.m.made.drop r.next) r.next;have C:(r.m.made.drop r.next).length=a.length+b.length:=by rw[A,znk]
  rw[List.length_drop]at C;by_cases ho:yaH e.kind=true
  .rw[if_pos ho]
   have A:ya1 [e]=[e]:=by unfold ya1;rw[List.filter_cons,if_pos ho];rfl
   rw[A]at hev|-;obtain⟨E,B⟩:=S.apply K P hsp e hw (by simp at hev;omega);obtain⟨k,hk⟩:=ydd p r.m e;refine⟨E,B,?_,znc _⟩;show r.next<=((yas p r.m e).2.made).length;rw[hk,znk];omega
  .rw[if_neg ho]
   split
   .split
    .exact⟨S,Nat.le_add_right _ _,by show ybj r.fired (r.m.made.drop r.next) r.next<=r.m.made.length;omega,znc _⟩
    .rename_i c D
     have:=(zge D).1;split
     .exact⟨S,Nat.le_add_right _ _,by show ybj r.fired (r.m.made.drop r.next) r.next+1<=r.m.made.length;omega,znc _⟩
     .exact⟨S,Nat.le_add_right _ _,by show ybj r.fired (r.m.made.drop r.next) r.next<=r.m.made.length;omega,znc _⟩
   .exact⟨S,Nat.le_add_right _ _,hnx,znc _⟩
 .rw[yhn hwn]
  exact⟨S,Nat.le_add_right _ _,hnx,Nat.le_succ _⟩
theorem ye5 (F:List Int):∀(l:List Cm) (n:Nat),ybj F (l.map yaE) n=ybj F l n
 |[],_=>rfl
 |c::l,n=>by
  rw[List.map_cons,ybj,ybj,ye5 F l];rfl
theorem yjr (c:Cm)(e:Ev):ydL (yaE c) e=ydL c e:=by
 unfold ydL;rw[show evOfC (yaE c)=evOfC c from ydn c]
end Go.Va
namespace Go.Proofs.YtpagmlndgblhhaaGreatDoor
open Go.RowKit Go.Own Go.Own.MapTy Go.Va Go.Sort
open Go.Own.Cells (sz enc)
set_option linter.unusedVariables false
theorem ylZ
  {Z:Nat->Prop}(rb b mb:Nat)(v:MV)(p:Img)(r:RP)(W:World)(R:RPX TR Z W rb b mb v p r){N:Nat}(G:Gl Tryz.prog N W)(t a bb:Int)(nm tx:ByteArray)(x:Val)(vk vn:Int)(vs:ByteArray)(la:Option Addr)(ln lc:Nat)(F:Nat->Prop)(C:CF F W ⟨vk,vn,vs,la,ln,lc⟩ x)(hw:x.wf)
  (fa:Fa)(K:Known p fa)(P:Pk p)(hsp:fa.span<=p.code.length+1)(S:St p fa r.m)(hev:r.m.events<=30)(hZ:∀j,W.heap.size<=j->Z j)(hF:∀g,F g->¬RO rb b mb v g)(hN:∀g,RO rb b mb v g->N<=g)
  (k:Int)(hck:yad ⟨(r.seen:Int)+1,t,k,a,bb,nm,tx,x⟩=0)(hcl:r.closed=false)(hsn:r.seen<=4000000)(h0:¬r.seen=0)(hm:ybR k=true)(hnx:r.next<=r.m.made.length)(q:Int×RP)(hr:ybQ p r ⟨(r.seen:Int)+1,t,k,a,bb,nm,tx,x⟩=q):
  Calls Tryz.prog 56 #[.pointer (some ⟨rb,0,none⟩),.agg #[.int .i64 ((r.seen:Int)+1),t,k,a,bb,nm,tx,vk,vn,vs,.slice la ln lc]] W
   (ycy Z rb b mb v p W q):=by
 have Am:yaH k=false:=ydQ hm;have hk:¬k=1:=fun h=>by rw[h]at hm;exact absurd hm (by decide)
 rw[yba (yb3 hck rfl hcl ⟨fun h=>absurd h h0,fun h=>absurd h hk⟩),if_neg (by rw[Am];decide),if_pos (by exact hm)]at hr;have HR:=zhd hr;have n1:(k==1)=false:=by rw[zna];exact hk
 have n2:(k !=1)=true:=by unfold bne;rw[n1];rfl
 have n3:((r.seen:Int)==0)=false:=by rw[zna];omega
 have n4:decide (0<(r.seen:Int))=true:=zno (by omega);have n5:0<(r.seen:Int):=by omega
 have Be:decide (0<r.seen)=true:=zno (by omega);have Bd:0<r.seen:=by omega
 have A1:r.m.made.length<=700000:=by have h1:=S.bd;omega
 have HS:=zh5 S hF hN hnx A1;have HM:=zhd hm;clear hr h0 hk hm K P hsp S hev hZ hF hN hnx A1;have HO:=zhd Am;clear Am;have Bf:wrap64 ((r.seen:Int)+1)=(r.seen:Int)+1:=by unfold wrap64;omega
 have HC:=zh2 hcl hsn;clear hsn hcl;obtain⟨w0,Ad⟩:∃w0,w0=W.alloc (.cells #[.int .i64 ((r.seen:Int)+1),t,k,a,bb,nm,tx,vk,vn,vs,.slice la ln lc] 40):=⟨_,rfl⟩;have B0:=zba Ad;have hB:=zha Ad;have C0:=C.keep (S:=fun _=>False) (zkb B0) (fun _ _ f=>f);have EK:=zhd (ybt ((r.seen:Int)+1) t k a bb nm tx x vk vn vs la ln lc F w0 (G.below B0) C0 hw _ hck);obtain⟨y,u,s,i,d,Y,V,U,T,Q,A,M,_⟩:=yay hB;have HX:=zh6 R B0 hB C G hw;have Bi:=zhd hck;clear hck C0 B0 hB C R G hw;go_in;go_wp2_with fail;rw[<-Ad];clear Ad;refine EK.o.mono ?_;rintro e w1 ⟨rfl,Au⟩;have B1:Below W W w1:=HX.o.2.1.trans (Au.mono HX.o.2.1.size);have At:=(Au.block W M).trans HX.o.2.2.1;have R1:=HX.o.1.ext B1;clear y u s i d Y V U T Q A M;obtain⟨y,u,s,i,d,Y,V,U,T,Q,A,M,_⟩:=yay At;obtain⟨L,J,I,H,D,E,O,rf⟩:=R1.q;have H1:=zh3 B1 At R1;clear B1 At R1 Au EK;rw[HC.o.1]at D;go_upto_region 3 with(fail);go_region
 all_goals
  go_upto_region 10 with(fail);refine yaa ?_;intro w3 Ay;have P3:=(H1.o.2.2.ext (znv _ _).drew).put 1 (.int .i64 ((r.seen:Int)+1)) {r with seen:=r.seen+1} rfl rfl (by simp);have Aa:w3=w1.drew.setCell ⟨rb,1,none⟩ (.int .i64 ((r.seen:Int)+1)):=by rw[Ay];rfl
  rw[<-Aa]at P3;have nb:W≠rb:=fun e=>by have:=zlt HX.o.1.h;omega
  have As:w3.heap[W.heap.size]? =some (.cells #[.int .i64 ((r.seen:Int)+1),t,k,a,bb,nm,tx,vk,vn,vs,.slice la ln lc] 40 (0,0)):=by rw[Aa];exact(znn _ _ _ _ nb).trans H1.o.2.1
  have K3:RPK rb b mb v W v w3:=(RPK.ext H1.o.1.drew).trans P3.2;have A4:w3.heap.size=w1.heap.size:=by rw[Aa];simp[World.setCell]
  clear Ay Aa y u s i d Y V U T Q A M L J I H D E O rf nb;obtain⟨y,u,s,i,d,Y,V,U,T,Q,A,M,_⟩:=yay As;obtain⟨L,J,I,H,D,E,O,rf⟩:=P3.1.q;dsimp only at L J I H D E;have OU:=zhd (yam ((r.seen:Int)+1) t k a bb nm tx vk vn vs la ln lc w3 _ HO.o);have H3:=zh3 P3.1 K3 As;clear P3 K3 As A4;go_wp2_with fail;refine OU.o.mono ?_;rintro e w4 ⟨rfl,Ag⟩;have Ar:=(Ag.block W M).trans H3.o.2.2;have R4:=H3.o.1.ext Ag;have K4:=H3.o.2.1.trans (RPK.ext Ag);clear y u s i d Y V U T Q A M L J I H D E O rf OU;obtain⟨y,u,s,i,d,Y,V,U,T,Q,A,M,_⟩:=yay Ar;obtain⟨L,J,I,H,D,E,O,rf⟩:=R4.q;dsimp only at L J I H D E;have H4:=zh3 R4 K4 Ar;clear R4 K4 Ar Ag
 all_goals
  have CM:=zhd (yeE ((r.seen:Int)+1) t k a bb nm tx vk vn vs la ln lc w4 _ HM.o);go_wp2_with fail;refine CM.o.mono ?_;rintro e w5 ⟨rfl,Af⟩;have Aq:=(Af.block W M).trans H4.o.2.2;have R5:=H4.o.1.ext Af;have MD:=zhd (yfC b v p r.m w5 R5.mx (yky HS.o.1) (by have:=HS.o.2.2.2.2;omega));have H5:=zh3 R5 (H4.o.2.1.trans (RPK.ext Af)) Aq;clear y u s i d Y V U T Q A M L J I H D E O rf CM;obtain⟨y,u,s,i,d,Y,V,U,T,Q,A,M,_⟩:=yay Aq;obtain⟨L,J,I,H,D,E,O,rf⟩:=R5.q;dsimp only at L J I H D E;clear R5 Aq Af;go_wp2_with fail;refine MD.o.mono ?_;rintro e w6 ⟨r6,rfl,H6⟩;obtain⟨n,hn⟩:∃n,r.m.made.length=n:=⟨_,rfl⟩;obtain⟨am,cm,rfl⟩:∃a c,r6= .slice a n c:=by obtain⟨a,c,h⟩:=H6.o.1.slice;rw[zmd,hn]at h;exact⟨a,c,h⟩
  have Ah:=zhd hn;have R6:=H5.o.1.ext H6.o.2.2;have A3:=(H6.o.2.2.block W M).trans H5.o.2.2;have Az:rb<w5.heap.size:=O;have E6:=H6.o.1.rd (G:=fun g=>w5<=g) (fun g h _=>h) H6.o.2.1;have SK:=zhd (ylG rb b mb v p {r with seen:=r.seen+1} w6 R6 (r.m.made.map yaE) (fun g=>w5<=g) am n cm (by rw[zmd];exact hn) E6 (fun g hg e=>by have hg:w5<=g:=hg;omega) (by have h1:=HS.o.2.2.2.1;show r.next<=n;omega) (by have h1:=HS.o.2.2.2.2;omega));have Ac:=zh5 R6 (H5.o.2.1.trans (RPK.ext H6.o.2.2)) A3 E6 Az;clear y u s i d Y V U T Q A M L J I H D E O rf MD hn R6 A3 Az E6;go_wp2_with fail;refine SK.o.mono ?_;rintro e w7 ⟨rfl,H7⟩;obtain⟨nx,hnx⟩:∃nx,ybj r.fired (r.m.made.drop r.next) r.next=nx:=⟨_,rfl⟩;replace HR:=HR.o;have R7:=H7.o.1;rw[show ybj ({r with seen:=r.seen+1}:RP).fired ((r.m.made.map yaE).drop ({r with seen:=r.seen+1}:RP).next) ({r with seen:=r.seen+1}:RP).next=nx by show ybj r.fired ((r.m.made.map yaE).drop r.next) r.next=nx;rw[<-List.map_drop,ye5,hnx]]at R7;rw[hnx]at HR;have A0:¬RO rb b mb v W.heap.size:=fun e=>by have:=HX.o.1.lt e;omega
  have Ap:=(H7.o.2.1.keeps.block W (zlt Ac.o.2.2.1) A0).trans Ac.o.2.2.1;have K7:=Ac.o.2.1.trans H7.o.2.1;have E7:=Ac.o.2.2.2.1.keep H7.o.2.2 (fun g hg e=>by have hg:w5<=g:=hg;have:=Ac.o.2.2.2.2;omega);obtain⟨y,u,s,i,d,Y,V,U,T,Q,A,M,_⟩:=yay Ap;obtain⟨L,J,I,H,D,E,O,rf⟩:=R7.q;dsimp only at L J I H D E;have HD:Below w7 w7 w7.drew:=(znv _ _).drew;have A8:nx<=n:=by
   obtain⟨x1,x2,h1,h2,_,_⟩:=yc1 r.fired (r.m.made.drop r.next) r.next;have h3:(r.m.made.drop r.next).length=x1.length+x2.length:=by rw[h1,znk]
   rw[List.length_drop]at h3;have h4:=Ah.o;have h5:=HS.o.2.2.2.1;omega
  have z:=zh4 R7 K7 Ap E7;have Bh:=zhd hnx;clear SK H7 hnx R7 K7 Ap E7;by_cases hin:nx<n
  .
   obtain⟨c,hc⟩:=yac (l:=r.m.made) (k:=nx) (by have:=Ah.o;omega);have A2:(r.m.made.map yaE)[nx]? =some (yaE c):=by rw[List.getElem?_map,hc];rfl
   rw[hc]at HR;dsimp only at HR;obtain⟨g,Bb,ck,cn,cs,ma,mn,mc,rfl,A6,hg,dv,y0,y1,y2,y3,y4,y5,y6,y7,y8⟩:=yla z.o.2.2.2 A2;have Ai:c∈r.m.made:=zmg hc;have Al:=HS.o.1.rk.vs.mds c Ai;have hcl:=yfM Al.1 Al.2;have Ba:(nx:Int)<(n:Int):=by omega
   have A9:((nx:Int)==(n:Int))=false:=by rw[zna];omega
   obtain⟨qb,Ak⟩:∃qb,ydL c ⟨(r.seen:Int)+1,t,k,a,bb,nm,tx,x⟩=qb:=⟨_,rfl⟩;have CV:=(HX.o.2.2.2.1.keep z.o.2.1.keeps HS.o.2.1);have FI:=zhd (fun X (B:Below w7 w7 X)=>ymi (yaE c) hcl.1 (by have:=ycS (x:=(yaE c).v) ⟨ypb hcl.1,hcl.2⟩;omega) ck cn cs ma mn mc (fun g=>w5<=g) X (dv.keep (S:=fun _=>False) (zkb B) (fun _ _ f=>f)) ((r.seen:Int)+1) t k a bb nm tx x vk vn vs la ln lc F (CV.keep (S:=fun _=>False) (zkb B) (fun _ _ f=>f)) qb (by rw[yjr];exact Ak));rw[Ak]at HR;replace HR:=zhd HR.symm;have A5:g<w7:=hg;obtain⟨c0,c1,c2,c3,c4,cv⟩:=c;dsimp only[yaE]at y0 y1 y2 y3 y4 FI;clear hc A2 Ai Al hcl Ak CV dv A6;go_upto_region 17 with(fail);go_region_law ((go_simp;go_at_call 102;refine(FI.o _ (by first|exact HD|exact znv _ _)).mono ?_;rintro e w8 ⟨rfl,Ab⟩;have Av:=zhd (HD.trans (Ab.mono HD.size));clear Ab))
   all_goals
    have R8:=z.o.1.ext Av.o;have K8:=z.o.2.1.trans (RPK.ext Av.o);have Ae:=(Av.o.block W M).trans z.o.2.2.1;clear y u s i d Y V U T Q A M L J I H D E O rf y0 y1 y2 y3 y4 y5 y6 y7 y8 hg A5 HD FI;cases qb with
    |false=>
     replace HR:=zhd (show q=(150,({r with seen:=r.seen+1,next:=nx}:RP))from by rw[HR.o];simp);have H8:=zh2 R8 K8;clear R8 K8 Ae;go_wp2;go_ret;exact⟨v,by rw[HR.o];rfl,zhd ⟨by rw[HR.o];exact H8.o.1,H8.o.2⟩⟩
    |true=>
     replace HR:=zhd (show q=(0,({r with seen:=r.seen+1,next:=nx+1,closed:=yaS k}:RP))from by rw[HR.o];simp);have Bg:wrap64 ((nx:Int)+1)=(nx:Int)+1:=by have:=Ah.o;have:=HS.o.2.2.2.2;unfold wrap64;omega
     obtain⟨y,u,s,i,d,Y,V,U,T,Q,A,M,_⟩:=yay Ae;obtain⟨L,J,I,H,D,E,O,rf⟩:=R8.q;dsimp only at L J I H D E;have Ax:¬W.heap.size=rb:=fun e=>A0 (.inl e);have Bc:¬rb=W.heap.size:=fun e=>Ax e.symm;have P9:=R8.put 2 (.int .i64 ((nx:Int)+1)) {r with seen:=r.seen+1,next:=nx+1} rfl rfl (by simp);have Ao:=(znn w8 ⟨rb,2,none⟩ (.int .i64 ((nx:Int)+1)) _ Ax).trans Ae;obtain⟨w9,Aj⟩:∃w9,w9=w8.setCell ⟨rb,2,none⟩ (.int .i64 ((nx:Int)+1)):=⟨_,rfl⟩;rw[<-Aj]at P9 Ao;have H9:=zh3 P9.1 (K8.trans P9.2) Ao;clear R8 K8 Ae P9 Ao;go_upto_region 20 with(fail);rw[<-Aj];clear Aj y u s i d Y V U T Q A M L J I H D E O rf;obtain⟨y,u,s,i,d,Y,V,U,T,Q,A,M,_⟩:=yay H9.o.2.2;obtain⟨L,J,I,H,D,E,O,rf⟩:=H9.o.1.q;dsimp only at L J I H D E;obtain⟨cb,An⟩:∃cb,decide (16<=(k:Int)/\k<=21)=cb:=⟨_,rfl⟩;have CS:=zhd (ybK ((r.seen:Int)+1) t k a bb nm tx vk vn vs la ln lc w9 cb An);have A7:=zhd An;clear An;go_wp2_with fail;refine CS.o.mono ?_;rintro e w8 ⟨rfl,Ab⟩;have R8:=H9.o.1.ext Ab;have K8:=H9.o.2.1.trans (RPK.ext Ab);clear y u s i d Y V U T Q A M L J I H D E O rf CS
     obtain⟨L,J,I,H,D,E,O,rf⟩:=R8.q;dsimp only at L J I H D E;have P8:=R8.put 4 (.bool cb) q.2 (by rw[HR.o]) (by rw[HR.o]) (by rw[HR.o,<-A7.o];rfl);have H8:=zh2 P8.1 (K8.trans P8.2);clear R8 K8 P8 Ab;go_wp2;go_ret;exact⟨_,by rw[HR.o];rfl,zhd H8.o⟩
  .
   obtain rfl:nx=n:=by omega
   have hc:r.m.made[nx]? =none:=List.getElem?_eq_none (by have:=Ah.o;omega);rw[hc]at HR;dsimp only at HR;replace HR:=zhd HR.symm;clear hc;go_upto_region 17 with(fail);go_region
   all_goals
    go_wp2;go_ret;exact⟨v,by rw[HR.o];rfl,zhd ⟨by rw[HR.o];exact z.o.1.ext HD,z.o.2.1.trans (RPK.ext HD)⟩⟩
theorem RPK.ro {rb b mb:Nat}{v v':MV}{W W':World}(K:RPK rb b mb v W v' W'){g:Nat}(h:RO rb b mb v' g):RO rb b mb v g\/W<=g:=h.elim (fun e=>.inl (.inl e)) (fun h=>h.elim (fun e=>.inl (.inr (.inl e))) (fun h=>(K.own g h).imp (fun h=>.inr (.inr h)) (fun h=>h)))
theorem yna
  {Z:Nat->Prop}(rb b mb:Nat)(v:MV)(p:Img)(r:RP)(W:World)(R:RPX TR Z W rb b mb v p r){N:Nat}(G:Gl Tryz.prog N W)(t a bb:Int)(nm tx:ByteArray)(x:Val)(vk vn:Int)(vs:ByteArray)(la:Option Addr)(ln lc:Nat)(F:Nat->Prop)(C:CF F W ⟨vk,vn,vs,la,ln,lc⟩ x)(hw:x.wf)
  (fa:Fa)(K:Known p fa)(P:Pk p)(hsp:fa.span<=p.code.length+1)(S:St p fa r.m)(hev:r.m.events<=30)(hZ:∀j,W.heap.size<=j->Z j)(hF:∀g,F g->¬RO rb b mb v g)(hN:∀g,RO rb b mb v g->N<=g)
  (hsn:r.seen<=4000000)(hnx:r.next<=r.m.made.length)(id k:Int):
  Calls Tryz.prog 56 #[.pointer (some ⟨rb,0,none⟩),.agg #[.int .i64 (id),t,k,a,bb,nm,tx,vk,vn,vs,.slice la ln lc]] W
   (ycy Z rb b mb v p W (ybQ p r ⟨id,t,k,a,bb,nm,tx,x⟩)):=by
 by_cases h0:yad ⟨id,t,k,a,bb,nm,tx,x⟩=0
 .by_cases hid:id=(r.seen:Int)+1
  .subst hid
   by_cases A:r.closed=true
   .exact yjj rb b mb v p r W R G t a bb nm tx x vk vn vs la ln lc F C hw k h0 A hsn _ rfl
   .have A:r.closed=false:=by simpa using A
    by_cases hs:r.seen=0
    .by_cases hk:k=1
     .subst hk
      exact yko rb b mb v p r W R G t a bb nm tx x vk vn vs la ln lc F C hw fa K P hsp S hev hZ hF hN h0 A hsn hs _ rfl
     .exact yji rb b mb v p r W R G t a bb nm tx x vk vn vs la ln lc F C hw k h0 A hsn hs hk _ rfl
    .by_cases hk:k=1
     .subst hk
      exact yjh rb b mb v p r W R G t a bb nm tx x vk vn vs la ln lc F C hw h0 A hsn hs _ rfl
     .by_cases B:yaH k=true
      .by_cases h12:k=12
       .subst h12
        exact ykp rb b mb v p r W R G t a bb nm tx x vk vn vs la ln lc F C hw fa K P hsp S hev hZ hF hN h0 A hsn hs _ rfl
       .exact ym7 rb b mb v p r W R G t a bb nm tx x vk vn vs la ln lc F C hw fa K P hsp S hev hZ hF hN k h0 A hsn hs hk h12 B _ rfl
      .have B:yaH k=false:=by simpa using B
       by_cases hm:ybR k=true
       .exact ylZ rb b mb v p r W R G t a bb nm tx x vk vn vs la ln lc F C hw fa K P hsp S hev hZ hF hN k h0 A hsn hs hm hnx _ rfl
       .exact ylY rb b mb v p r W R G t a bb nm tx x vk vn vs la ln lc F C hw k h0 A hsn hs hk B (by simpa using hm) _ rfl
  .exact ykq rb b mb v p r W R G t a bb nm tx x vk vn vs la ln lc F C hw id k h0 hid hsn _ rfl
 .exact ym9 rb b mb v p r W R G t a bb nm tx x vk vn vs la ln lc F C hw id k _ rfl (by simpa using h0) _ rfl
def yoX (Z:Nat->Prop)(rb b mb:Nat)(v:MV)(p:Img)(W:World)(r:RP)(e:Ending)(w':World):Prop:=∃v',e= .returned (.int .i64 r.err)/\Hid (RPX TR Z w' rb b mb v' p r/\RPK rb b mb v W v' w')
def ypT (Z:Nat->Prop)(rb b mb:Nat)(v:MV)(p:Img)(fa:Fa)(r:RP)(W:World)(l:List Ev)(gk:Nat)(v9:Value)(wr:World):Prop:=
 ∃(j:Nat) (v':MV) (r':RP),v9= .int .i64 j/\j<=l.length/\gk=l.length - j/\yar p r' (l.drop j)=yar p r l/\RPX TR Z wr rb b mb v' p r'/\RPK rb b mb v W v' wr/\St p fa r'.m/\r'.m.events+(ya1 (l.drop j)).length<=30/\r'.seen+(l.length - j)<=4000000/\r'.next<=r'.m.made.length
theorem ymk
  {Z:Nat->Prop}(rb b mb:Nat)(v:MV)(p:Img)(r:RP)(W:World)(R:RPX TR Z W rb b mb v p r){N:Nat}(G:Gl Tryz.prog N W)(F:Nat->Prop)(ea:Option Addr)(en ec:Nat)(l:List Ev)(E:XRd F W (.slice ea en ec) l)(hew:∀e∈l,e.v.wf)(fa:Fa)(K:Known p fa)(P:Pk p)(hsp:fa.span<=p.code.length+1)(S:St p fa r.m)(hev:r.m.events+(ya1 l).length<=30)(hsn:r.seen+l.length<=4000000)(hnx:r.next<=r.m.made.length)(hZ:∀j,W.heap.size<=j->Z j)(hF:∀g,F g->¬RO rb b mb v g)(hN:∀g,RO rb b mb v g->N<=g)(hFl:∀g,F g->g<W.heap.size):
  Calls Tryz.prog 18 #[.pointer (some ⟨rb,0,none⟩),.slice ea en ec] W (yoX Z rb b mb v p W (yar p r l)):=by
 have y:l.length=en:=by obtain⟨a,c,h⟩:=E.slice;cases h;rfl
 have H:=zh8 R E hew S hev hsn hnx y;have L:=zh8 K P hsp hZ hF hN hFl G;have u:N<=W.heap.size:=by have h1:=hN rb (.inl rfl);have h2:=zlt R.h;omega
 have Ad:=zhd u;clear R G E hew K P hsp S hev hsn hnx hZ hF hN hFl y u;go_in;go_wp2_with fail;go_loopg [9] en (fun gk v9 wr=>ypT Z rb b mb v p fa r W l gk v9 wr)
 case atStart=>exact⟨0,v,r,rfl,znq _,by rw[H.o.2.2.2.2.2.2.2];rfl,rfl,H.o.1,RPK.refl _ _ _ _ _,H.o.2.2.2.1,H.o.2.2.2.2.1,by have:=H.o.2.2.2.2.2.1;omega,H.o.2.2.2.2.2.2.1⟩
 case round=>
  obtain⟨j,v1,O,rfl,hj,Q,A,i,M,S1,J,I,C⟩:=hrel;rw[H.o.2.2.2.2.2.2.2]at hj Q I;obtain⟨c0,c1,c2,c3,c4,s,cl,cf⟩:=i.q;obtain⟨er,B⟩:∃er,O.err=er:=⟨_,rfl⟩;rw[B]at s;by_cases hjn:j<en
  .have Af:(j:Int)<(en:Int):=by omega
   obtain⟨e,n⟩:=yac (l:=l) (k:=j) (by rw[H.o.2.2.2.2.2.2.2];exact hjn);obtain⟨g,Ag,vk,vn,vs,la,ln,lc,rfl,U,hg,dv,y0,y1,y2,y3,y4,y5,y6,y7,y8,y9,y10⟩:=ycU H.o.2.1 n;have d:¬RO rb b mb v g:=L.o.2.2.2.2.1 g U;rw[<-M.keeps.cell (p:=⟨g,_,none⟩) hg d]at y0 y1 y2 y3 y4 y5 y6 y7 y8 y9 y10;have Ab:g<wr:=znj hg M.keeps.size;have T:l.drop j=e::l.drop (j+1):=by
    rw[znr (zge n).1,(zge n).2]
   by_cases he0:er=0
   .subst he0
    have Ac:=zhd (show wrap64 ((j:Int)+1)=(j:Int)+1 by have h1:=H.o.2.2.2.2.2.1;have h2:=H.o.2.2.2.2.2.2.2;unfold wrap64;omega);rw[T,yck B]at A;rw[T,show e::l.drop (j+1)=[e]++l.drop (j+1)from rfl,yaZ,znk]at J;have X:=H.o.2.2.1 e (zmg n);obtain⟨S2,x,V,t⟩:=ymG L.o.1 L.o.2.1 L.o.2.2.1 S1 X (by omega) C;have HM:=zhd (show en - (j+1)<gk by omega);have D:=zh6 i M S1 (show O.m.events<=29+1 by omega) (show O.seen<=4000000 by omega) C;have HO:=zh5 A S2 (show(ybQ p O e).2.m.events+(ya1 (l.drop (j+1))).length<=30 by omega) (show(ybQ p O e).2.seen+(en - (j+1))<=4000000 by omega) V;have HD:=zh4 dv X U B;clear A T n B J S1 S2 x V t C I i Q dv X U d;obtain⟨e0,e1,e2,e3,e4,e5,e6,ex⟩:=e;dsimp only at y0 y1 y2 y3 y4 y5 y6;go_upto_region 4 with(fail);refine yaa ?_;intro w2 Y;have z:=zha Y;have B2:=zba Y;have R2:=D.o.1.ext B2;have K2:=M.trans (RPK.ext B2);clear y0 y1 y2 y3 y4 y5 y6 y7 y8 y9 y10 c0 c1 c2 c3 c4 s cl cf Y Ab;obtain⟨x0,x1,x2,x3,x4,x5,x6,x7,x8,x9,x10,xl,_⟩:=yay z;obtain⟨c0,c1,c2,c3,c4,s,cl,cf⟩:=R2.q;rw[HD.o.2.2.2]at s
    have f:∀g,RO rb b mb v1 g->RO rb b mb v g\/W.heap.size<=g:=fun g h=>M.ro h;have ON:=zhd (yna rb b mb v1 p O w2 R2 (L.o.2.2.2.2.2.2.2.keep K2.keeps L.o.2.2.2.2.2.1) e1 e3 e4 e5 e6 ex vk vn vs la ln lc F (HD.o.1.keep K2.keeps L.o.2.2.2.2.1) HD.o.2.1 fa L.o.1 L.o.2.1 L.o.2.2.1 D.o.2.2.1 D.o.2.2.2.1 (fun q hq=>L.o.2.2.2.1 q (by have:=K2.keeps.size;omega)) (fun q hq e=>(f q e).elim (L.o.2.2.2.2.1 q hq) (fun h=>by have:=L.o.2.2.2.2.2.2.1 q hq;omega)) (fun q hq=>(f q hq).elim (L.o.2.2.2.2.2.1 q) (fun h=>znf Ad.o h)) D.o.2.2.2.2.1 D.o.2.2.2.2.2 e0 e2);have Ae:=zhd K2;clear z B2 R2 K2 f M;go_wp2_with fail;refine ON.o.mono ?_;rintro e w3 ⟨v3,rfl,H3⟩;have P3:=H3.o.1.put 5 (.int .i64 (ybQ p O ⟨e0,e1,e2,e3,e4,e5,e6,ex⟩).1) {(ybQ p O ⟨e0,e1,e2,e3,e4,e5,e6,ex⟩).2 with err:=(ybQ p O ⟨e0,e1,e2,e3,e4,e5,e6,ex⟩).1} rfl rfl rfl;have H4:=zh2 P3.1 ((Ae.o.trans H3.o.2).trans P3.2);clear x0 x1 x2 x3 x4 x5 x6 x7 x8 x9 x10 xl c0 c1 c2 c3 c4 s cl cf ON;obtain⟨c0,c1,c2,c3,c4,s,cl,cf⟩:=H3.o.1.q;clear P3;have Aa:=Ac.o;go_wp2_with fail;go_roundg (en - (j+1))
    case measure=>exact HM.o
    case rel=>exact⟨j+1,v3,_,by simp[Aa],by rw[H.o.2.2.2.2.2.2.2];omega,by rw[H.o.2.2.2.2.2.2.2],HO.o.1,H4.o.1,H4.o.2,HO.o.2.1,HO.o.2.2.1,by rw[H.o.2.2.2.2.2.2.2];exact HO.o.2.2.2.1,HO.o.2.2.2.2⟩
   .have n1:(er==0)=false:=by rw[zna];exact he0
    have n2:(er !=0)=true:=by unfold bne;rw[n1];rfl
    rw[ybV (by rw[B];exact he0)]at A;have D:=zh4 i M A B;have M:=M.keeps.size;clear A T n B J S1 C I i Q dv U d he0;obtain⟨e0,e1,e2,e3,e4,e5,e6,ex⟩:=e;dsimp only at y0 y1 y2 y3 y4 y5 y6;go_wp2;go_ret;exact⟨v1,by rw[<-D.o.2.2.1,D.o.2.2.2];rfl,zhd ⟨by rw[<-D.o.2.2.1];exact D.o.1.ext (zal),D.o.2.1.trans (RPK.ext (zal))⟩⟩
  .obtain rfl:j=en:=by omega
   have Ah:¬(j:Int)<j:=by omega
   rw[zns (by rw[H.o.2.2.2.2.2.2.2];exact znc _)]at A;have D:=zh4 i M (show O=yar p r l from A) B;clear A B J S1 C I i Q M;go_wp2;go_ret;exact⟨v1,by rw[<-D.o.2.2.1,D.o.2.2.2];rfl,zhd ⟨by rw[<-D.o.2.2.1];exact D.o.1,D.o.2.1⟩⟩
end Go.Proofs.YtpagmlndgblhhaaGreatDoor
namespace Go.Va
open Go.Own Go.RowKit
open Go.Own.Cells (sz enc)
theorem yhZ {α:Type}[Cells α]{P:Program}{t e:TypeId}{bytes:Nat}(E:ElemOf α P t e bytes){F:Nat->Prop}{W:World}{ops:Array Oper}{rest:List Oper}{o:Oper}{a:Act}{Q:Exit->Act->World->Prop}
  (hg:o.guard=none)(s x:Operand)(hop:o.op=Op.call {callee:=Callee.builtin Builtin.append,args:=#[s,x],argTypes:=#[t,t]})
  {v u:Value}(hs:a.eval s=v)(hx:a.eval x=u){xs ys:List α}(h:RowAt W e v xs)(hu:RdF F W u ys)
  (hl:(xs.length+ys.length)*bytes<=140737488355328)(h63:xs.length+ys.length<=maxLen)
  (hK:∀a1 q1 w1,RowAt w1 e (.slice a1 (xs.length+ys.length) q1) (xs++ys)->Keeps (fun j=>v.ownBlock=some j) W w1->(∀g,(Value.slice a1 (xs.length+ys.length) q1).ownBlock=some g->v.ownBlock=some g\/W.heap.size<=g)->wpList P ops Q rest (a.put o.dst (.slice a1 (xs.length+ys.length) q1)) w1):
  wpList P ops Q (o::rest) a W:=
 wpList_plain hg fun _ hk=>by
  obtain⟨a1,q1,w1,D,A,B,C⟩:=yfY E h hu hl h63 o.type;unfold Oper.wp execOp;simp only[hop,resolve,invoke,builtin,Sem.run_bind,Sem.run_pure,Result.andThen_ok,List.map_toArray,List.map_cons,List.map_nil,hs,hx,D];exact hk _ _ (hK a1 q1 w1 A B C)
def yaf (p:Img):Img:={p with consts:=p.consts.map yab}
end Go.Va
namespace Go.Proofs.YtpagmlndgblhhaaGreatDoor
open Go.RowKit Go.Own Go.Own.MapTy Go.Va Go.Sort
open Go.Own.Cells (sz enc)
theorem ymC (w:World)(p:Addr)(v:Value):(w.setCell p v).heap.size=w.heap.size:=by simp[World.setCell]
def ynR (W:World)(p:Img)(e:Ending)(w':World):Prop:=∃i:IC,e= .returned (.agg #[.slice i.ca i.cn i.cc,.slice i.ka i.kn i.kc,.slice i.na i.nn i.nc,i.pl])/\Hid (IAt (fun g=>W<=g) w' i (yaf p)/\Below W W w')
structure IcL (w wr:World)(N:Nat)(i:IC)(cv v:Value)(code:List In)(l:List Val):Prop where
 b3:wr.heap[w.heap.size+2]? =some (.cells #[cv,v,.slice none 0 0,i.pl] 28 (0,0))
 b2:wr.heap[w.heap.size+1]? =some (.cells #[.slice none 0 0,.slice none 0 0,.slice none 0 0,.int .i64 0] 28 (0,0))
 b1:wr.heap[w.heap.size]? =some (.cells #[.slice i.ca i.cn i.cc,.slice i.ka i.kn i.kc,.slice i.na i.nn i.nc,i.pl] 28 (0,0))
 code:RowAt wr 106 cv code
 cown:∀g,cv.ownBlock=some g->w.heap.size+2<g/\g<N
 row:XRow (fun g=>N<=g/\¬v.ownBlock=some g) wr 38 v (l.map yab)
 own:∀g,v.ownBlock=some g->N<=g
 low:w.heap.size+3<=N/\N<=wr.heap.size
 below:Below w w wr
theorem IcL.next {w wr W w8 w9:World}{N:Nat}{i:IC}{cv v v1:Value}{code:List In}{l:List Val}{ks:List VC}{c8:VC}{y:Val}{o:Obj}(h:IcL w wr N i cv v code l)(hP:Ptw (fun g=>N<=g/\¬v.ownBlock=some g) wr ks (l.map yab))
  (K0:Below wr wr W)(hc:CF (fun g=>W<=g) w8 c8 (yab y))(K8:Below W W w8)
  (hr1:RowAt w9 38 v1 (ks++[c8]))(hk1:Keeps (fun j=>v.ownBlock=some j) (w8.alloc o) w9)(hf1:∀g,v1.ownBlock=some g->v.ownBlock=some g\/(w8.alloc o).heap.size<=g):IcL w (w9.setCell ⟨w.heap.size+2,1,none⟩ v1) N i cv v1 code (l++[y]):=by
 have E:=K0.size;have L:=K8.size;have H:=h.low;have M:(w8.alloc o).heap.size=w8.heap.size+1:=by simp
 have own:∀g,v1.ownBlock=some g->N<=g:=fun g A=>by
  rcases hf1 g A with e|e
  .exact h.own g e
  .omega
 have D:Keeps (fun _=>False) wr (w8.alloc o):=(zkb ((K0.trans (K8.mono E)))).alloc _;have B:Keeps (fun j=>v.ownBlock=some j) wr w9:=(D.mono (fun _ _ f=>f.elim)).trans hk1 (fun j _ e=>e);have KS:Keeps (fun j=>j=w+2) w9 (w9.setCell ⟨w.heap.size+2,1,none⟩ v1):=Keeps.setCell (S:=fun j=>j=w+2) (p:=⟨w.heap.size+2,1,none⟩) (Keeps.refl _ _) (.inl rfl) _;have C:∀k,k<N->¬v.ownBlock=some k:=fun k hk e=>by have:=h.own k e;omega
 have b3:=(B.block _ (zlt h.b3) (C _ (by omega))).trans h.b3;have b2:=(B.block _ (zlt h.b2) (C _ (by omega))).trans h.b2;have b1:=(B.block _ (zlt h.b1) (C _ (by omega))).trans h.b1;have F:=B.size;refine⟨by simp[World.setCell,zni,b3],(znn _ _ _ _ (by simp)).trans b2,(znn _ _ _ _ (by simp)).trans b1,(h.code.keep B (fun g A=>C g (h.cown g A).2)).keep KS (fun g A e=>by have:=(h.cown g A).1;have e:g=w+2:=e;omega),h.cown,?_,own,⟨H.1,by rw[ymC];omega⟩,?_⟩
 .have J:Ptw (fun g=>(N<=g/\¬v.ownBlock=some g)/\g<w8) (w8.alloc o) ks (l.map yab):=(hP.mono (G:=fun g=>(N<=g/\¬v.ownBlock=some g)/\g<w8) (fun g A hl=>⟨A,by omega⟩)).keep D (fun _ _ f=>f)
  have K:CF (fun g=>(N<=g/\¬v.ownBlock=some g)/\g<w8) (w8.alloc o) c8 (yab y):=(hc.mono (G:=fun g=>(N<=g/\¬v.ownBlock=some g)/\g<w8) (fun g A hl=>⟨⟨by have A:W<=g:=A;omega,fun e=>by have A:W<=g:=A;have:=h.row.lt e;omega⟩,hl⟩)).keep (S:=fun _=>False) ((Keeps.refl _ _).alloc _) (fun _ _ f=>f);have I:=((J.app (Ptw.one K)).keep hk1 (fun g A e=>A.1.2 e)).mono (G:=fun g=>N<=g/\¬v1.ownBlock=some g) (fun g A _=>⟨A.1.1,fun e=>(hf1 g e).elim A.1.2 (fun q=>by have:=A.2;omega)⟩);rw[List.map_append];exact(XRow.of hr1 I).keep KS (fun g A e=>by have e:g=w+2:=e;have:=A.1;omega) (fun g A e=>by have e:g=w+2:=e;have:=own g A;omega)
 .exact(h.below.trans (B.below h.below.size (fun j hj e=>by have:=h.own j e;omega))).setCell (p:=⟨w.heap.size+2,1,none⟩) (by show w<=w.heap.size+2;omega) _
theorem ygh (F:Nat->Prop)(W:World)(i:IC)(p:Img)(H:IAt F W i p)(hz:∀x∈p.consts,szV x<=1073741824)(hlen:p.code.length<=4096/\p.consts.length<=4096/\p.names.length<=4096):
  Calls Tryz.prog 52 #[.agg #[.slice i.ca i.cn i.cc,.slice i.ka i.kn i.kc,.slice i.na i.nn i.nc,i.pl]] W (ynR W p):=by
 obtain⟨h1,h2,h3⟩:=H.lens;obtain⟨ca,cn,cc,ka,kn,kc,na,nn,nc,pl⟩:=i;dsimp only at h1 h2 h3|-;have c:=zh6 H hz hlen h1 h2 h3;have HE:=zhd H.consts.elems.2.2;have M:kn<=4096:=by omega
 clear H hz hlen h1 h2 h3;go_in;go_upto_region 2 with(fail);refine yaa ?_;intro w1 G;have B1:Below W W w1:=by rw[G];exact((zal).alloc (by simp) _).alloc (by simp;omega) _
 have q:w1.heap[W.heap.size+2]? =some (.cells #[.slice none 0 0,.slice none 0 0,.slice none 0 0,pl] 28 (0,0)):=by rw[G];exact ygJ (by simp)
 have x2:w1.heap[W.heap.size+1]? =some (.cells #[.slice none 0 0,.slice none 0 0,.slice none 0 0,.int .i64 0] 28 (0,0)):=by rw[G];exact(zne _ _ _ (by simp)).trans (ygJ (by simp))
 have x1:w1.heap[W.heap.size]? =some (.cells #[.slice ca cn cc,.slice ka kn kc,.slice na nn nc,pl] 28 (0,0)):=by rw[G];exact(zne _ _ _ (by simp;omega)).trans ((zne _ _ _ (by simp)).trans (ygJ rfl))
 have An:w1.heap.size=W.heap.size+3:=by rw[G];simp
 have A1:=zca q 0 rfl;have f3:∀o,w1.frozen? ⟨W.heap.size+2,o,none⟩=false:=fun o=>zfr q o;have A2:=zca x1 0 rfl;have l3:W.heap.size+2<w1.heap.size:=zlt q;have l1:W<w1.heap.size:=zlt x1;have HC:=zhd (c.o.1.code.keep (S:=fun _=>False) (zkb B1) (fun _ _ f=>f));have H1:=zh5 B1 x1 x2 q An;have Av:=zhd (show(([]:List In).length+p.code.length)*16<=140737488355328/\([]:List In).length+p.code.length<=maxLen from by have:=c.o.2.2.1.1;unfold maxLen;simp;omega);clear G B1 x1 x2 q An;go_upto_region 2 with(fail)
 go_wp2_with (at_builtin;refine yhZ (α:=In) ynD rfl (.tmp 10) (.tmp 12) rfl rfl rfl (RowAt.nil _ _) HC.o Av.o.1 Av.o.2 ?_;intro a R Q Aa V Ae;simp only[List.length_nil,Nat.zero_add,List.nil_append]at Aa Ae|-;have C:=(V.block (W.heap.size+2) l3 (fun e=>by cases e)).trans H1.o.2.2.2.1;have Y:=(V.block W l1 (fun e=>by cases e)).trans H1.o.2.1;have A0:Q.cell? ⟨W.heap.size+2,0,none⟩=some (.slice none 0 0):=(by rw[zch C];rfl);have d3:∀o,Q.frozen? ⟨W.heap.size+2,o,none⟩=false:=(fun o=>zfr C o);have m3:=zlt C;have Az:Q.cell? ⟨W,1,none⟩=some (.slice ka kn kc):=(by rw[zch Y];rfl);have m1:=zlt Y;have m:=zh5 Aa V Ae C Y;clear Aa V Ae C Y);go_upto_region 3 with(fail);refine yaa ?_;intro w3 J;have KS:Keeps (fun j=>j=W+2) Q w3:=by rw[J];exact Keeps.setCell (S:=fun j=>j=W+2) (p:=⟨W.heap.size+2,0,none⟩) (Keeps.refl _ _) (.inl rfl) _
 have Ay:w1<=Q.heap.size:=m.o.2.1.size;have Ax:w3.heap.size=Q.heap.size:=by rw[J,ymC]
 have G:=H1.o.2.2.2.2;have Af:∀g,(Value.slice a p.code.length R).ownBlock=some g->w1.heap.size<=g:=fun g A=>(m.o.2.2.1 g A).resolve_left (fun e=>by cases e);have Ag:RowAt Q 106 (.slice a p.code.length R) p.code:=m.o.1;have b:IcL W w3 Q.heap.size ⟨ca,cn,cc,ka,kn,kc,na,nn,nc,pl⟩ (.slice a p.code.length R) (.slice none 0 0) p.code []:=by
  refine⟨by rw[J];have:=m.o.2.2.2.1;simp[World.setCell,zni,this],?_,?_,Ag.keep KS (fun g A e=>by have:=Af g A;have e:g=W+2:=e;omega),fun g A=>⟨by have:=Af g A;omega,Ag.lt A⟩,XRow.nil _ _ _,(fun g h=>by cases h),⟨by omega,by omega⟩,?_⟩
  .rw[J,znn _ _ _ _ (by simp),m.o.2.1.block (W.heap.size+1) (by omega) (fun e=>by cases e)]
   exact H1.o.2.2.1
  .rw[J,znn _ _ _ _ (fun e=>by have e:W.heap.size=W.heap.size+2:=e;omega)]
   exact m.o.2.2.2.2
  .exact(H1.o.1.trans ((m.o.2.1.below (znc _) (fun j hj e=>by cases e)).mono H1.o.1.size)).trans (KS.below (by have:=H1.o.1.size;omega) (fun j hj e=>by have e:j=W+2:=e;omega))
 have Az:=zca b.b1 1 rfl;have m1:=zlt b.b1;have At:=zhd b;obtain⟨L,N⟩:∃n,p.code.length=n:=⟨_,rfl⟩;have Bb:=zhd N;rw[N]at At|-;clear N;clear J KS Ay Ax G Af Ag b m A0 d3 m3 A1 f3 A2 l3 l1 HC;go_wp2_with fail;go_loopg [18] kn (fun gk v18 wr=>∃j:Nat,v18= .int .i64 j/\j<=kn/\gk=kn - j/\Hid (∃v,IcL W wr Q.heap.size ⟨ca,cn,cc,ka,kn,kc,na,nn,nc,pl⟩ (.slice a L R) v p.code (p.consts.take j)))
 case atStart=>exact⟨0,rfl,znq _,rfl,zhd ⟨_,At.o⟩⟩
 case round=>
  obtain⟨j,rfl,hj,Ac,D⟩:=hrel;obtain⟨v,D⟩:=D.o;obtain⟨r,P,K⟩:=D.row.cells;obtain⟨Z,c3,rfl⟩:=P.slice;have M:r.length=j:=by
   rw[K.1,zmd,List.length_take];have:=c.o.2.2.2.2.1;omega
  rw[M]at P D K;obtain⟨z0,z1,z2,z3,_⟩:=zq4 D.b3;have zf:∀o,wr.frozen? ⟨W.heap.size+2,o,none⟩=false:=fun o=>zfr D.b3 o;have zl:W.heap.size+2<wr.heap.size:=zlt D.b3;have y0:=zca D.b1 2 rfl;have yl:W<wr.heap.size:=zlt D.b1;obtain⟨x0,x1,x2,q,_⟩:=zq4 D.b2;have xf:∀o,wr.frozen? ⟨W.heap.size+1,o,none⟩=false:=fun o=>zfr D.b2 o;have xl:W.heap.size+1<wr.heap.size:=zlt D.b2;by_cases hjn:j<kn
  .obtain⟨y,hy⟩:=yac (l:=p.consts) (k:=j) (by have:=c.o.2.2.2.2.1;omega)
   obtain⟨g,A6,ha,Ba,A,Ar⟩:=HE.o.resolve_left (fun e=>by rw[e]at hy;simp at hy);obtain⟨c',hC,q0,q1,Ai,q3⟩:=Ar j y hy;rw[<-D.below.cell (p:=⟨g,_,none⟩) A]at q0 q1 Ai q3;have A9:g<wr:=znj A D.below.size;have Ah:=zhd (show(r.length+[(⟨0,0,⟨#[]⟩,none,0,0⟩:VC)].length)*56<=140737488355328/\r.length+[(⟨0,0,⟨#[]⟩,none,0,0⟩:VC)].length<=maxLen/\r.length+[(⟨0,0,⟨#[]⟩,none,0,0⟩:VC)].length=j+1 from by
    have e:r.length+[(⟨0,0,⟨#[]⟩,none,0,0⟩:VC)].length=j+1:=by rw[M];rfl
    rw[e];exact⟨by omega,by unfold maxLen;omega,rfl⟩)
   have A5:(j:Int)<kn:=by omega
   have A7:wrap64 ((j:Int)+1)=(j:Int)+1:=by unfold wrap64;omega
   have A4:=zhd (fun W' (B:Below wr wr W')=>yax y c'.kind c'.n c'.s c'.la c'.ln c'.lc F W' ((hC.keep (S:=fun _=>False) (zkb D.below) (fun _ _ f=>f)).keep (S:=fun _=>False) (zkb B) (fun _ _ f=>f)) (c.o.2.1 y (zmg hy)));have Am:p.consts.take (j+1)=p.consts.take j++[y]:=by rw[List.take_add_one,hy];rfl
   have NB:=zhd (show∀g,(Value.slice Z j c3).ownBlock=some g->g≠W.heap.size+2 from fun g A e=>by have:=D.own g A;have:=D.low;omega);have E:=zh6 D P K Am Ac M;subst ha;clear Ar hC hy Am D P K Ac M hj;go_upto_region 6 with(fail);refine yaa ?_;intro w5 t;have B5:=zba t;have As:=zha t;obtain⟨r0,r1,r2,r3,rl⟩:=zq4 As;have T:=(B5.block _ zl).trans E.o.1.b3;have s1:=zca T 1 rfl;have sl:=zlt T;have CL:=zhd (A4.o w5.drew B5.drew);have d:=zh3 B5 T (E.o.2.1.below B5);clear t B5 As T q0 q1 Ai q3 z0 z1 z2 z3 zf zl y0 yl x0 x1 x2 q xf xl;go_region_law (first
    |(go_simp;go_at_call 58;refine CL.o.mono ?_;rintro e w8 ⟨⟨k8,n8,s8,Al,Aj,Ak⟩,rfl,H8⟩;have O:=(H8.o.2.block (W.heap.size+2) sl).trans d.o.2.1;have y3:w8.cell? ⟨W.heap.size+2,1,none⟩=some (.slice Z j c3):=(by rw[zch O];rfl);have fy:∀o,w8.frozen? ⟨W.heap.size+2,o,none⟩=false:=(fun o=>zfr O o);have ly:W.heap.size+2<w8.heap.size:=(zlt O);have HG:=zh2 O (d.o.2.2.drew.below H8.o.2);clear O)
    |(refine yaz (α:=VC) (o:=⟨some 27,_,_,_,_,_⟩) yfJ (by rfl) (.tmp 23) (.tmp 26) (by rfl) (v:=.slice Z j c3) (u:=.slice (some ⟨w8,0,none⟩) 1 1) (by rfl) (by rfl) (xs:=r) (ys:=[⟨k8,n8,s8,Al,Aj,Ak⟩]) (HG.o.2.alloc _) (RowAt.lit (α:=VC) (y:=⟨k8,n8,s8,Al,Aj,Ak⟩) (znb _ _)) Ah.o.1 Ah.o.2.1 (j+1) Ah.o.2.2 ?_;intro a1 cp w9 Ao Ab Aq;have X:=(Ab.block (W.heap.size+2) (by simp;omega) (fun e=>NB.o _ e rfl)).trans ((zne _ _ _ ly).trans HG.o.1);have t3:w9.cell? ⟨W.heap.size+2,1,none⟩=some (.slice Z j c3):=(by rw[zch X];rfl);have fz:∀o,w9.frozen? ⟨W.heap.size+2,o,none⟩=false:=(fun o=>zfr X o);have lz:W.heap.size+2<w9.heap.size:=zlt X;have FF:=zh3 Ao Ab Aq;clear Ao Ab Aq X))
   all_goals
    go_wp2_with fail;go_roundg (kn - (j+1))
    case measure=>have:=E.o.2.2.2.2.1;omega
    case rel=>exact⟨j+1,by simp,hjn,rfl,zhd ⟨_,by rw[E.o.2.2.2.1];exact E.o.1.next E.o.2.2.1 d.o.1.drew H8.o.1 H8.o.2 FF.o.1 FF.o.2.1 FF.o.2.2⟩⟩
  .obtain rfl:j=kn:=by omega
   have A8:¬(j:Int)<j:=by omega
   have hT:p.consts.take j=p.consts:=zmj (by have:=c.o.2.2.2.2.1;omega);rw[hT]at D K;have A3:=zhd (c.o.1.names.keep (S:=fun _=>False) (zkb D.below) (fun _ _ f=>f));have Au:=zhd (show(([]:List ByteArray).length+p.names.length)*16<=140737488355328/\([]:List ByteArray).length+p.names.length<=maxLen from by have:=c.o.2.2.1.2.2;unfold maxLen;simp;omega);have E:=zhd D;clear hT D P K Ac hj
   go_wp2_with (at_builtin;go_must (refine yhZ (α:=ByteArray) ypw rfl (.tmp 31) (.tmp 33) rfl rfl rfl (RowAt.nil _ _) A3.o Au.o.1 Au.o.2 ?_);intro a5 q5 w5 z U Ad;simp only[List.length_nil,Nat.zero_add,List.nil_append]at z Ad|-;have C:=(U.block (W.heap.size+2) zl (fun e=>by cases e)).trans E.o.b3;have I:=(U.block (W.heap.size+1) xl (fun e=>by cases e)).trans E.o.b2;have t0:w5.cell? ⟨W.heap.size+2,0,none⟩=some (.slice a L R):=(by rw[zch C];rfl);have t1:w5.cell? ⟨W.heap.size+2,1,none⟩=some (.slice Z j c3):=(by rw[zch C];rfl);have t2:w5.cell? ⟨W.heap.size+2,2,none⟩=some (.slice none 0 0):=(by rw[zch C];rfl);have t3:w5.cell? ⟨W.heap.size+2,3,none⟩=some (.int .i64 pl):=(by rw[zch C];rfl);have tf:∀o,w5.frozen? ⟨W.heap.size+2,o,none⟩=false:=(fun o=>zfr C o);have tl:=zlt C;have u0:w5.cell? ⟨W.heap.size+1,0,none⟩=some (.slice none 0 0):=(by rw[zch I];rfl);have u1:w5.cell? ⟨W.heap.size+1,1,none⟩=some (.slice none 0 0):=(by rw[zch I];rfl);have u2:w5.cell? ⟨W.heap.size+1,2,none⟩=some (.slice none 0 0):=(by rw[zch I];rfl);have u3:w5.cell? ⟨W.heap.size+1,3,none⟩=some (.int .i64 0):=(by rw[zch I];rfl);have uf:∀o,w5.frozen? ⟨W.heap.size+1,o,none⟩=false:=(fun o=>zfr I o);have ul:=zlt I;have d:=zh3 z U Ad;clear z U Ad C I)
   refine zng (v:=.agg #[.slice a L R,.slice Z j c3,.slice a5 p.names.length q5,pl]) (by simp only[results,Tryz.results52];go_simp) rfl ⟨⟨a,L,R,Z,j,c3,a5,p.names.length,q5,pl⟩,rfl,zhd ⟨?_,?_⟩⟩
   .have K5:Keeps (fun _=>False) wr w5:=d.o.2.1.mono (fun _ _ e=>by cases e)
    have KZ:=(((((Keeps.refl (fun j=>j=W+2\/j=W+1) w5).setCell (p:=⟨W.heap.size+1+1,2,none⟩) (.inl (.inl rfl)) (.slice a5 p.names.length q5)).setCell (p:=⟨W.heap.size+1,0,none⟩) (.inl (.inr rfl)) (.slice a L R)).setCell (p:=⟨W.heap.size+1,1,none⟩) (.inl (.inr rfl)) (.slice Z j c3)).setCell (p:=⟨W.heap.size+1,2,none⟩) (.inl (.inr rfl)) (.slice a5 p.names.length q5)).setCell (p:=⟨W.heap.size+1,3,none⟩) (.inl (.inr rfl)) (.int .i64 pl);obtain⟨r,hR,hP⟩:=E.o.row.cells;have Ap:=E.o.low;refine⟨RdF.of_row ((E.o.code.keep K5 (fun _ _ f=>f)).keep KZ (fun g A e=> ?_)) (fun g A=> ?_),VF.of (RdF.of_row ((hR.keep K5 (fun _ _ f=>f)).keep KZ (fun g A e=> ?_)) (fun g A=> ?_)) (((hP.keep K5 (fun _ _ f=>f)).keep KZ (fun g A e=> ?_)).mono (fun g A _=> ?_)),RdF.of_row (d.o.1.keep KZ (fun g A e=> ?_)) (fun g A=> ?_),c.o.1.pl⟩
    .have:=(E.o.cown g A).1;omega
    .show W<=g;have:=(E.o.cown g A).1;omega
    .have:=E.o.own g A;omega
    .show W<=g;have:=E.o.own g A;omega
    .have:=A.1;omega
    .have:=A.1;omega
    .rcases d.o.2.2 g A with h|h
     .cases h
     .omega
    .rcases d.o.2.2 g A with h|h
     .cases h
     .show W<=g;omega
   .have KZ:=(((((Keeps.refl (fun j=>j=W+2\/j=W+1) w5).setCell (p:=⟨W.heap.size+1+1,2,none⟩) (.inl (.inl rfl)) (.slice a5 p.names.length q5)).setCell (p:=⟨W.heap.size+1,0,none⟩) (.inl (.inr rfl)) (.slice a L R)).setCell (p:=⟨W.heap.size+1,1,none⟩) (.inl (.inr rfl)) (.slice Z j c3)).setCell (p:=⟨W.heap.size+1,2,none⟩) (.inl (.inr rfl)) (.slice a5 p.names.length q5)).setCell (p:=⟨W.heap.size+1,3,none⟩) (.inl (.inr rfl)) (.int .i64 pl)
    have Ap:=E.o.low;have hb:=E.o.below.size;have K5:Keeps (fun _=>False) wr w5:=d.o.2.1.mono (fun _ _ e=>by cases e);exact(E.o.below.trans ((K5.below (znc _) (fun _ _ f=>f)).mono hb)).trans (KZ.below (by have:=K5.size;omega) (fun jz hj e=>by omega))
end Go.Proofs.YtpagmlndgblhhaaGreatDoor
