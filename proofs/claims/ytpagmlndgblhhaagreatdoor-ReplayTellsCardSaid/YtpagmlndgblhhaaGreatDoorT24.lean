/- Parts of the proof: what the functions and the plain laws give that later parts lean on. Conditions: none beyond those that each theorem names. -/
import Derived.Test.YtpagmlndgblhhaaGreatDoorT23
set_option maxRecDepth 100000
set_option maxHeartbeats 8000000
namespace Go.Proofs.YtpagmlndgblhhaaGreatDoor
open Go.RowKit Go.Own Go.Own.MapTy Go.Va Go.Sort
open Go.Own.Cells (sz enc)
set_option linter.unusedVariables false
def ycv (Z:Nat->Prop)(rb b mb:Nat)(v:MV)(p:Img)(W:World)(q:Int×RP)(e:Ending)(w':World):Prop:=∃v',e= .returned (.int .i64 q.1)/\Hid (RPX TR Z w' rb b mb v' p q.2/\RPK rb b mb v W v' w')
theorem ym0
  {Z:Nat->Prop}(rb b mb:Nat)(v:MV)(p:Img)(r:RP)(W:World)(R:RPX TR Z W rb b mb v p r){N:Nat}(G:Gl Tryz.prog N W)(t a bb:Int)(nm tx:ByteArray)(x:Val)(vk vn:Int)(vs:ByteArray)(la:Option Addr)(ln lc:Nat)(F:Nat->Prop)(C:CF F W ⟨vk,vn,vs,la,ln,lc⟩ x)(hw:x.wf)
  (id k:Int)(ck:Int)(hck:yae ⟨id,t,k,a,bb,nm,tx,x⟩=ck)(hne:(ck !=0)=true)(q:Int×RP)(hr:ybK p r ⟨id,t,k,a,bb,nm,tx,x⟩=q):
  Calls Tryz.prog 56 #[.pointer (some ⟨rb,0,none⟩),.agg #[.int .i64 (id),t,k,a,bb,nm,tx,vk,vn,vs,.slice la ln lc]] W
   (ycv Z rb b mb v p W q):=by
 have h:=zhd (show q=(9,r) by rw[<-hr];unfold ybK;rw[if_pos (by rw[hck];simpa using hne)]);clear hr;obtain⟨J,A⟩:∃J,J=W.alloc (.cells #[.int .i64 (id),t,k,a,bb,nm,tx,vk,vn,vs,.slice la ln lc] 40):=⟨_,rfl⟩;have I:=zba A;have L:=zha A;have l:=C.keep (S:=fun _=>False) (zkb I) (fun _ _ f=>f);have j:=zhd (ybp (id) t k a bb nm tx x vk vn vs la ln lc F J (G.below I) l hw _ hck);obtain⟨g,d,c,Y,X,V,U,T,Q,P,E,K,_⟩:=yaB L;have H:=zh6 R I L C G hw;have Aa:=zhd hck;clear hck l I L C R G hw;go_in;go_wp2_with fail;rw[<-A];clear A;refine j.o.mono ?_;rintro e w1 ⟨rfl,D⟩;have O:Below W W w1:=H.o.2.1.trans (D.mono H.o.2.1.size);have B:=(D.block W K).trans H.o.2.2.1;have M:=H.o.1.ext O;clear g d c Y X V U T Q P E K;obtain⟨g,d,c,Y,X,V,U,T,Q,P,E,K,_⟩:=yaB B;obtain⟨r0,r1,z,y,u,s,m,n⟩:=M.q;have i:=zh3 O B M;clear O B M D j;clear r0 r1 z y u s m n;go_wp2;go_ret;exact⟨v,by rw[h.o];rfl,zhd ⟨by rw[h.o];exact i.o.2.2,RPK.ext i.o.1⟩⟩
theorem yka
  {Z:Nat->Prop}(rb b mb:Nat)(v:MV)(p:Img)(r:RP)(W:World)(R:RPX TR Z W rb b mb v p r){N:Nat}(G:Gl Tryz.prog N W)(t a bb:Int)(nm tx:ByteArray)(x:Val)(vk vn:Int)(vs:ByteArray)(la:Option Addr)(ln lc:Nat)(F:Nat->Prop)(C:CF F W ⟨vk,vn,vs,la,ln,lc⟩ x)(hw:x.wf)
  (id k:Int)(hck:yae ⟨id,t,k,a,bb,nm,tx,x⟩=0)(hid:¬id=(r.seen:Int)+1)(hsn:r.seen<=4000000)(q:Int×RP)(hr:ybK p r ⟨id,t,k,a,bb,nm,tx,x⟩=q):
  Calls Tryz.prog 56 #[.pointer (some ⟨rb,0,none⟩),.agg #[.int .i64 (id),t,k,a,bb,nm,tx,vk,vn,vs,.slice la ln lc]] W
   (ycv Z rb b mb v p W q):=by
 have h:=zhd (show q=(180,r) by rw[<-hr];unfold ybK;rw[if_neg (by simpa using hck),if_pos hid]);have m:(id==(r.seen:Int)+1)=false:=by rw[zna];exact hid
 have n2:(id !=(r.seen:Int)+1)=true:=by unfold bne;rw[m];rfl
 have n:wrap64 ((r.seen:Int)+1)=(r.seen:Int)+1:=by unfold wrap64;omega
 clear hr hid hsn;obtain⟨J,A⟩:∃J,J=W.alloc (.cells #[.int .i64 (id),t,k,a,bb,nm,tx,vk,vn,vs,.slice la ln lc] 40):=⟨_,rfl⟩;have I:=zba A;have L:=zha A;have l:=C.keep (S:=fun _=>False) (zkb I) (fun _ _ f=>f);have j:=zhd (ybp (id) t k a bb nm tx x vk vn vs la ln lc F J (G.below I) l hw _ hck);obtain⟨g,d,c,Y,X,V,U,T,Q,P,E,K,_⟩:=yaB L;have H:=zh6 R I L C G hw;have s:=zhd hck;clear hck l I L C R G hw;go_in;go_wp2_with fail;rw[<-A];clear A;refine j.o.mono ?_;rintro e w1 ⟨rfl,D⟩;have O:Below W W w1:=H.o.2.1.trans (D.mono H.o.2.1.size);have B:=(D.block W K).trans H.o.2.2.1;have M:=H.o.1.ext O;clear g d c Y X V U T Q P E K;obtain⟨g,d,c,Y,X,V,U,T,Q,P,E,K,_⟩:=yaB B;obtain⟨r0,r1,r2,r3,r4,z,u,y⟩:=M.q;have i:=zh3 O B M;clear O B M D j;go_upto_region 3 with(fail);go_region
 all_goals
  go_wp2;go_ret;exact⟨v,by rw[h.o];rfl,zhd ⟨by rw[h.o];exact i.o.2.2.ext (znv _ _).drew,RPK.ext i.o.1.drew⟩⟩
theorem yi9
  {Z:Nat->Prop}(rb b mb:Nat)(v:MV)(p:Img)(r:RP)(W:World)(R:RPX TR Z W rb b mb v p r){N:Nat}(G:Gl Tryz.prog N W)(t a bb:Int)(nm tx:ByteArray)(x:Val)(vk vn:Int)(vs:ByteArray)(la:Option Addr)(ln lc:Nat)(F:Nat->Prop)(C:CF F W ⟨vk,vn,vs,la,ln,lc⟩ x)(hw:x.wf)
  (k:Int)(hck:yae ⟨(r.seen:Int)+1,t,k,a,bb,nm,tx,x⟩=0)(hcl:r.closed=true)(hsn:r.seen<=4000000)(q:Int×RP)(hr:ybK p r ⟨(r.seen:Int)+1,t,k,a,bb,nm,tx,x⟩=q):
  Calls Tryz.prog 56 #[.pointer (some ⟨rb,0,none⟩),.agg #[.int .i64 ((r.seen:Int)+1),t,k,a,bb,nm,tx,vk,vn,vs,.slice la ln lc]] W
   (ycv Z rb b mb v p W q):=by
 have h:=zhd (show q=(181,r) by rw[<-hr];unfold ybK;rw[if_neg (by simpa using hck),if_neg (by simp),if_pos hcl]);have n:wrap64 ((r.seen:Int)+1)=(r.seen:Int)+1:=by unfold wrap64;omega
 have u:=zhd hcl;clear hr hsn hcl;obtain⟨J,A⟩:∃J,J=W.alloc (.cells #[.int .i64 ((r.seen:Int)+1),t,k,a,bb,nm,tx,vk,vn,vs,.slice la ln lc] 40):=⟨_,rfl⟩;have I:=zba A;have L:=zha A;have l:=C.keep (S:=fun _=>False) (zkb I) (fun _ _ f=>f);have j:=zhd (ybp ((r.seen:Int)+1) t k a bb nm tx x vk vn vs la ln lc F J (G.below I) l hw _ hck);obtain⟨g,d,c,Y,X,V,U,T,Q,P,E,K,_⟩:=yaB L;have H:=zh6 R I L C G hw;have s:=zhd hck;clear hck l I L C R G hw;go_in;go_wp2_with fail;rw[<-A];clear A;refine j.o.mono ?_;rintro e w1 ⟨rfl,D⟩;have O:Below W W w1:=H.o.2.1.trans (D.mono H.o.2.1.size);have B:=(D.block W K).trans H.o.2.2.1;have M:=H.o.1.ext O;clear g d c Y X V U T Q P E K;obtain⟨g,d,c,Y,X,V,U,T,Q,P,E,K,_⟩:=yaB B;obtain⟨r0,r1,r2,r3,m,r5,y,z⟩:=M.q;have i:=zh3 O B M;clear O B M D j;rw[u.o]at m;go_upto_region 3 with(fail);go_region
 all_goals
  go_wp2;go_ret;exact⟨v,by rw[h.o];rfl,zhd ⟨by rw[h.o];exact i.o.2.2.ext (znv _ _).drew,RPK.ext i.o.1.drew⟩⟩
theorem yi8
  {Z:Nat->Prop}(rb b mb:Nat)(v:MV)(p:Img)(r:RP)(W:World)(R:RPX TR Z W rb b mb v p r){N:Nat}(G:Gl Tryz.prog N W)(t a bb:Int)(nm tx:ByteArray)(x:Val)(vk vn:Int)(vs:ByteArray)(la:Option Addr)(ln lc:Nat)(F:Nat->Prop)(C:CF F W ⟨vk,vn,vs,la,ln,lc⟩ x)(hw:x.wf)
  (k:Int)(hck:yae ⟨(r.seen:Int)+1,t,k,a,bb,nm,tx,x⟩=0)(hcl:r.closed=false)(hsn:r.seen<=4000000)(h0:r.seen=0)(hk:¬k=1)(q:Int×RP)(hr:ybK p r ⟨(r.seen:Int)+1,t,k,a,bb,nm,tx,x⟩=q):
  Calls Tryz.prog 56 #[.pointer (some ⟨rb,0,none⟩),.agg #[.int .i64 ((r.seen:Int)+1),t,k,a,bb,nm,tx,vk,vn,vs,.slice la ln lc]] W
   (ycv Z rb b mb v p W q):=by
 have h:=zhd (show q=(7,r) by rw[<-hr];unfold ybK;rw[if_neg (by simpa using hck),if_neg (by simp),if_neg (by rw[hcl];decide),if_pos (.inl ⟨h0,hk⟩)]);have u:(k==1)=false:=by rw[zna];exact hk
 have n2:(k !=1)=true:=by unfold bne;rw[u];rfl
 have n3:((r.seen:Int)==0)=true:=by rw[beq_iff_eq];omega
 have n4:decide (0<(r.seen:Int))=false:=znd (by omega);have n5:¬0<(r.seen:Int):=by omega
 have s:decide (0<r.seen)=false:=znd (by omega);have n:¬0<r.seen:=by omega
 clear hr hk h0;have y:wrap64 ((r.seen:Int)+1)=(r.seen:Int)+1:=by unfold wrap64;omega
 have HC:=zh2 hcl hsn;clear hsn hcl;obtain⟨J,A⟩:∃J,J=W.alloc (.cells #[.int .i64 ((r.seen:Int)+1),t,k,a,bb,nm,tx,vk,vn,vs,.slice la ln lc] 40):=⟨_,rfl⟩;have I:=zba A;have L:=zha A;have l:=C.keep (S:=fun _=>False) (zkb I) (fun _ _ f=>f);have j:=zhd (ybp ((r.seen:Int)+1) t k a bb nm tx x vk vn vs la ln lc F J (G.below I) l hw _ hck);obtain⟨g,d,c,Y,X,V,U,T,Q,P,E,K,_⟩:=yaB L;have H:=zh6 R I L C G hw;have z:=zhd hck;clear hck l I L C R G hw;go_in;go_wp2_with fail;rw[<-A];clear A;refine j.o.mono ?_;rintro e w1 ⟨rfl,D⟩;have O:Below W W w1:=H.o.2.1.trans (D.mono H.o.2.1.size);have B:=(D.block W K).trans H.o.2.2.1;have M:=H.o.1.ext O;clear g d c Y X V U T Q P E K;obtain⟨g,d,c,Y,X,V,U,T,Q,P,E,K,_⟩:=yaB B;obtain⟨r0,r1,r2,r3,m,r5,rl,rf⟩:=M.q;have i:=zh3 O B M;clear O B M D j;rw[HC.o.1]at m;go_upto_region 3 with(fail);go_region
 all_goals
  go_wp2;go_ret;exact⟨v,by rw[h.o];rfl,zhd ⟨by rw[h.o];exact i.o.2.2.ext (znv _ _).drew,RPK.ext i.o.1.drew⟩⟩
theorem yi7
  {Z:Nat->Prop}(rb b mb:Nat)(v:MV)(p:Img)(r:RP)(W:World)(R:RPX TR Z W rb b mb v p r){N:Nat}(G:Gl Tryz.prog N W)(t a bb:Int)(nm tx:ByteArray)(x:Val)(vk vn:Int)(vs:ByteArray)(la:Option Addr)(ln lc:Nat)(F:Nat->Prop)(C:CF F W ⟨vk,vn,vs,la,ln,lc⟩ x)(hw:x.wf)
  (hck:yae ⟨(r.seen:Int)+1,t,1,a,bb,nm,tx,x⟩=0)(hcl:r.closed=false)(hsn:r.seen<=4000000)(h0:¬r.seen=0)(q:Int×RP)(hr:ybK p r ⟨(r.seen:Int)+1,t,1,a,bb,nm,tx,x⟩=q):
  Calls Tryz.prog 56 #[.pointer (some ⟨rb,0,none⟩),.agg #[.int .i64 ((r.seen:Int)+1),t,.int .i64 1,a,bb,nm,tx,vk,vn,vs,.slice la ln lc]] W
   (ycv Z rb b mb v p W q):=by
 have h:=zhd (show q=(7,r) by rw[<-hr];unfold ybK;rw[if_neg (by simpa using hck),if_neg (by simp),if_neg (by rw[hcl];decide),if_pos (.inr ⟨h0,rfl⟩)]);have n3:((r.seen:Int)==0)=false:=by rw[zna];omega
 have n4:decide (0<(r.seen:Int))=true:=zno (by omega);have n5:0<(r.seen:Int):=by omega
 have n:decide (0<r.seen)=true:=zno (by omega);have m:0<r.seen:=by omega
 clear hr h0;have s:wrap64 ((r.seen:Int)+1)=(r.seen:Int)+1:=by unfold wrap64;omega
 have y:=zh2 hcl hsn;clear hsn hcl;obtain⟨J,A⟩:∃J,J=W.alloc (.cells #[.int .i64 ((r.seen:Int)+1),t,.int .i64 1,a,bb,nm,tx,vk,vn,vs,.slice la ln lc] 40):=⟨_,rfl⟩;have I:=zba A;have L:=zha A;have k:=C.keep (S:=fun _=>False) (zkb I) (fun _ _ f=>f);have j:=zhd (ybp ((r.seen:Int)+1) t 1 a bb nm tx x vk vn vs la ln lc F J (G.below I) k hw _ hck);obtain⟨g,d,c,Y,X,V,U,T,Q,P,E,K,_⟩:=yaB L;have H:=zh6 R I L C G hw;have u:=zhd hck;clear hck k I L C R G hw;go_in;go_wp2_with fail;rw[<-A];clear A;refine j.o.mono ?_;rintro e w1 ⟨rfl,D⟩;have O:Below W W w1:=H.o.2.1.trans (D.mono H.o.2.1.size);have B:=(D.block W K).trans H.o.2.2.1;have M:=H.o.1.ext O;clear g d c Y X V U T Q P E K;obtain⟨g,d,c,Y,X,V,U,T,Q,P,E,K,_⟩:=yaB B;obtain⟨r0,r1,r2,r3,l,r5,z,rf⟩:=M.q;have i:=zh3 O B M;clear O B M D j;rw[y.o.1]at l;go_upto_region 3 with(fail);go_region
 all_goals
  go_wp2;go_ret;exact⟨v,by rw[h.o];rfl,zhd ⟨by rw[h.o];exact i.o.2.2.ext (znv _ _).drew,RPK.ext i.o.1.drew⟩⟩
theorem ylL
  {Z:Nat->Prop}(rb b mb:Nat)(v:MV)(p:Img)(r:RP)(W:World)(R:RPX TR Z W rb b mb v p r){N:Nat}(G:Gl Tryz.prog N W)(t a bb:Int)(nm tx:ByteArray)(x:Val)(vk vn:Int)(vs:ByteArray)(la:Option Addr)(ln lc:Nat)(F:Nat->Prop)(C:CF F W ⟨vk,vn,vs,la,ln,lc⟩ x)(hw:x.wf)
  (k:Int)(hck:yae ⟨(r.seen:Int)+1,t,k,a,bb,nm,tx,x⟩=0)(hcl:r.closed=false)(hsn:r.seen<=4000000)(h0:¬r.seen=0)(hk:¬k=1)(hko:yaI k=false)(hm:yaX k=false)(q:Int×RP)(hr:ybK p r ⟨(r.seen:Int)+1,t,k,a,bb,nm,tx,x⟩=q):
  Calls Tryz.prog 56 #[.pointer (some ⟨rb,0,none⟩),.agg #[.int .i64 ((r.seen:Int)+1),t,k,a,bb,nm,tx,vk,vn,vs,.slice la ln lc]] W
   (ycv Z rb b mb v p W q):=by
 have HR:=zhd (show q=(0,{r with seen:=r.seen+1,closed:=yaS k}) by rw[<-hr,ya0 (ybH hck rfl hcl ⟨fun h=>absurd h h0,fun h=>absurd h hk⟩),if_neg (by rw[hko];decide),if_neg (by rw[hm];decide)]);have n1:(k==1)=false:=by rw[zna];exact hk
 have n2:(k !=1)=true:=by unfold bne;rw[n1];rfl
 have n3:((r.seen:Int)==0)=false:=by rw[zna];omega
 have n4:decide (0<(r.seen:Int))=true:=zno (by omega);have n5:0<(r.seen:Int):=by omega
 have Af:decide (0<r.seen)=true:=zno (by omega);have Ae:0<r.seen:=by omega
 have HM:=zhd hm;clear hr h0 hk hm;have HO:=zhd hko;clear hko;have Ag:wrap64 ((r.seen:Int)+1)=(r.seen:Int)+1:=by unfold wrap64;omega
 have HC:=zh2 hcl hsn;clear hsn hcl;obtain⟨w0,d⟩:∃w0,w0=W.alloc (.cells #[.int .i64 ((r.seen:Int)+1),t,k,a,bb,nm,tx,vk,vn,vs,.slice la ln lc] 40):=⟨_,rfl⟩;have B0:=zba d;have hB:=zha d;have C0:=C.keep (S:=fun _=>False) (zkb B0) (fun _ _ f=>f);have EK:=zhd (ybp ((r.seen:Int)+1) t k a bb nm tx x vk vn vs la ln lc F w0 (G.below B0) C0 hw _ hck);obtain⟨c,Y,X,V,U,T,Q,P,O,M,A,L,_⟩:=yaB hB;have HX:=zh6 R B0 hB C G hw;have Ah:=zhd hck;clear hck C0 B0 hB C R G hw;go_in;go_wp2_with fail;rw[<-d];clear d;refine EK.o.mono ?_;rintro e w1 ⟨rfl,Aa⟩;have B1:Below W W w1:=HX.o.2.1.trans (Aa.mono HX.o.2.1.size);have y:=(Aa.block W L).trans HX.o.2.2.1;have R1:=HX.o.1.ext B1;clear c Y X V U T Q P O M A L;obtain⟨c,Y,X,V,U,T,Q,P,O,M,A,L,_⟩:=yaB y;obtain⟨K,J,I,H,D,E,j,l⟩:=R1.q;have H1:=zh3 B1 y R1;clear B1 y R1 Aa EK;rw[HC.o.1]at D;go_upto_region 3 with(fail);go_region
 all_goals
  go_upto_region 10 with(fail);refine yaa ?_;intro w3 Ab;have P3:=(H1.o.2.2.ext (znv _ _).drew).put 1 (.int .i64 ((r.seen:Int)+1)) {r with seen:=r.seen+1} rfl rfl (by simp);have B:w3=w1.drew.setCell ⟨rb,1,none⟩ (.int .i64 ((r.seen:Int)+1)):=by rw[Ab];rfl
  rw[<-B]at P3;have nb:W≠rb:=fun e=>by have:=zlt HX.o.1.h;omega
  have u:w3.heap[W.heap.size]? =some (.cells #[.int .i64 ((r.seen:Int)+1),t,k,a,bb,nm,tx,vk,vn,vs,.slice la ln lc] 40 (0,0)):=by rw[B];exact(znn _ _ _ _ nb).trans H1.o.2.1
  have K3:RPK rb b mb v W v w3:=(RPK.ext H1.o.1.drew).trans P3.2;have Ac:w3.heap.size=w1.heap.size:=by rw[B];simp[World.setCell]
  clear Ab B c Y X V U T Q P O M A L K J I H D E j l nb;obtain⟨c,Y,X,V,U,T,Q,P,O,M,A,L,_⟩:=yaB u;obtain⟨K,J,I,H,D,E,j,l⟩:=P3.1.q;dsimp only at K J I H D E;have OU:=zhd (yam ((r.seen:Int)+1) t k a bb nm tx vk vn vs la ln lc w3 _ HO.o);have H3:=zh3 P3.1 K3 u;clear P3 K3 u Ac;go_wp2_with fail;refine OU.o.mono ?_;rintro e w4 ⟨rfl,i⟩;have s:=(i.block W L).trans H3.o.2.2;have R4:=H3.o.1.ext i;have K4:=H3.o.2.1.trans (RPK.ext i);clear c Y X V U T Q P O M A L K J I H D E j l OU;obtain⟨c,Y,X,V,U,T,Q,P,O,M,A,L,_⟩:=yaB s;obtain⟨K,J,I,H,D,E,j,l⟩:=R4.q;dsimp only at K J I H D E;have H4:=zh3 R4 K4 s;clear R4 K4 s i
 all_goals
  have CM:=zhd (yc9 ((r.seen:Int)+1) t k a bb nm tx vk vn vs la ln lc w4 _ HM.o);go_wp2_with fail;refine CM.o.mono ?_;rintro e w5 ⟨rfl,g⟩;have n:=(g.block W L).trans H4.o.2.2;have R5:=H4.o.1.ext g;have H5:=zh3 R5 (H4.o.2.1.trans (RPK.ext g)) n;clear c Y X V U T Q P O M A L K J I H D E j l CM;obtain⟨c,Y,X,V,U,T,Q,P,O,M,A,L,_⟩:=yaB n;obtain⟨K,J,I,H,D,E,j,l⟩:=R5.q;dsimp only at K J I H D E;clear R5 n g;obtain⟨cb,m⟩:∃cb,decide (16<=(k:Int)/\k<=21)=cb:=⟨_,rfl⟩;have CS:=zhd (ybF ((r.seen:Int)+1) t k a bb nm tx vk vn vs la ln lc w5 cb m);have Ad:=zhd m;clear m;go_wp2_with fail;refine CS.o.mono ?_;rintro e w8 ⟨rfl,z⟩;have R8:=H5.o.1.ext z;have K8:=H5.o.2.1.trans (RPK.ext z);clear c Y X V U T Q P O M A L K J I H D E j l CS;obtain⟨K,J,I,H,D,E,j,l⟩:=R8.q;dsimp only at K J I H D E;have P8:=R8.put 4 (.bool cb) q.2 (by rw[HR.o]) (by rw[HR.o]) (by rw[HR.o,<-Ad.o];rfl);have H8:=zh2 P8.1 (K8.trans P8.2);clear R8 K8 P8 z;go_wp2;go_ret;exact⟨_,by rw[HR.o];rfl,zhd H8.o⟩
def yoI (Z:Nat->Prop)(rb b mb:Nat)(v:MV)(p:Img)(r:RP)(W:World)(q:Int×MS)(e:Ending)(w':World):Prop:=∃v',e= .returned (.int .i64 q.1)/\Hid (RPX TR Z w' rb b mb v' p {r with m:=q.2}/\RPK rb b mb v W v' w')
theorem ydf
  {Z:Nat->Prop}(rb b mb:Nat)(v:MV)(p:Img)(r:RP)(W:World)(R:RPX TR Z W rb b mb v p r){N:Nat}(G:Gl Tryz.prog N W)(t a bb:Int)(nm tx:ByteArray)(x:Val)(vk vn:Int)(vs:ByteArray)(la:Option Addr)(ln lc:Nat)(F:Nat->Prop)(C:CF F W ⟨vk,vn,vs,la,ln,lc⟩ x)(hw:x.wf)
  (fa:Fa)(K:Known p fa)(P:Pk p)(hsp:fa.span<=p.code.length+1)(S:St p fa r.m)(hev:r.m.events<=30)(hZ:∀j,W.heap.size<=j->Z j)(hF:∀g,F g->¬RO rb b mb v g)(hN:∀g,RO rb b mb v g->N<=g)
  (id k:Int):
  Calls Tryz.prog 70 #[.pointer (some ⟨b,0,none⟩),.agg #[id,t,k,a,bb,nm,tx,vk,vn,vs,.slice la ln lc]] W (yoI Z rb b mb v p r W (yat p r.m ⟨id,t,k,a,bb,nm,tx,x⟩)):=by
 refine(ygC b v p r.m W R.mx G fa K P hsp S hev (fun j hj=>⟨hZ j hj,fun e=>by have:=zlt R.h;omega,fun e=>by have:=R.mlt;omega⟩) id t k a bb nm tx x vk vn vs la ln lc F C hw (fun g hg e=>hF g hg (.inr (.inr e))) _ rfl).mono ?_;rintro e B ⟨A,rfl,H⟩;exact⟨A,rfl,zhd ⟨R.turn H.o.1 H.o.2,RPK.mk_ H.o.2⟩⟩
theorem yj8
  {Z:Nat->Prop}(rb b mb:Nat)(v:MV)(p:Img)(r:RP)(W:World)(R:RPX TR Z W rb b mb v p r){N:Nat}(G:Gl Tryz.prog N W)(t a bb:Int)(nm tx:ByteArray)(x:Val)(vk vn:Int)(vs:ByteArray)(la:Option Addr)(ln lc:Nat)(F:Nat->Prop)(C:CF F W ⟨vk,vn,vs,la,ln,lc⟩ x)(hw:x.wf)
  (fa:Fa)(K:Known p fa)(P:Pk p)(hsp:fa.span<=p.code.length+1)(S:St p fa r.m)(hev:r.m.events<=30)(hZ:∀j,W.heap.size<=j->Z j)(hF:∀g,F g->¬RO rb b mb v g)(hN:∀g,RO rb b mb v g->N<=g)
  (hck:yae ⟨(r.seen:Int)+1,t,1,a,bb,nm,tx,x⟩=0)(hcl:r.closed=false)(hsn:r.seen<=4000000)(h0:r.seen=0)(q:Int×RP)(hr:ybK p r ⟨(r.seen:Int)+1,t,1,a,bb,nm,tx,x⟩=q):
  Calls Tryz.prog 56 #[.pointer (some ⟨rb,0,none⟩),.agg #[.int .i64 ((r.seen:Int)+1),t,.int .i64 1,a,bb,nm,tx,vk,vn,vs,.slice la ln lc]] W
   (ycv Z rb b mb v p W q):=by
 have HR:=zhd (show q=(0,{r with m:=(yat p r.m ⟨(r.seen:Int)+1,t,1,a,bb,nm,tx,x⟩).2,seen:=r.seen+1,closed:=yaS 1}) by rw[<-hr,ya0 (ybH hck rfl hcl ⟨fun _=>rfl,fun _=>h0⟩),if_pos (by rfl)];rfl);have n3:((r.seen:Int)==0)=true:=by rw[beq_iff_eq];omega
 have n4:decide (0<(r.seen:Int))=false:=znd (by omega);have n5:¬0<(r.seen:Int):=by omega
 have Am:decide (0<r.seen)=false:=znd (by omega);have Al:¬0<r.seen:=by omega
 have Q:=zh8 K P hsp S hev hZ hF hN;have Ai:yaI 1=true:=rfl;clear hr h0 K P hsp S hev hZ hF hN;have HO:=zhd Ai;clear Ai;have An:wrap64 ((r.seen:Int)+1)=(r.seen:Int)+1:=by unfold wrap64;omega
 have HC:=zh2 hcl hsn;clear hsn hcl;obtain⟨w0,s⟩:∃w0,w0=W.alloc (.cells #[.int .i64 ((r.seen:Int)+1),t,.int .i64 1,a,bb,nm,tx,vk,vn,vs,.slice la ln lc] 40):=⟨_,rfl⟩;have B0:=zba s;have hB:=zha s;have C0:=C.keep (S:=fun _=>False) (zkb B0) (fun _ _ f=>f);have EK:=zhd (ybp ((r.seen:Int)+1) t 1 a bb nm tx x vk vn vs la ln lc F w0 (G.below B0) C0 hw _ hck);obtain⟨n,l,k,i,d,c,Y,V,U,T,A,O,_⟩:=yaB hB;have y:=zh6 R B0 hB C G hw;have Ao:=zhd hck;clear hck C0 B0 hB C R G hw;go_in;go_wp2_with fail;rw[<-s];clear s;refine EK.o.mono ?_;rintro e w1 ⟨rfl,Ag⟩;have B1:Below W W w1:=y.o.2.1.trans (Ag.mono y.o.2.1.size);have Ae:=(Ag.block W O).trans y.o.2.2.1;have R1:=y.o.1.ext B1;clear n l k i d c Y V U T A O;obtain⟨n,l,k,i,d,c,Y,V,U,T,A,O,_⟩:=yaB Ae;obtain⟨M,L,J,I,E,H,z,rf⟩:=R1.q;have H1:=zh3 B1 Ae R1;clear B1 Ae R1 Ag EK;rw[HC.o.1]at E;go_upto_region 3 with(fail);go_region
 all_goals
  go_upto_region 10 with(fail);refine yaa ?_;intro w3 Ah;have P3:=(H1.o.2.2.ext (znv _ _).drew).put 1 (.int .i64 ((r.seen:Int)+1)) {r with seen:=r.seen+1} rfl rfl (by simp);have D:w3=w1.drew.setCell ⟨rb,1,none⟩ (.int .i64 ((r.seen:Int)+1)):=by rw[Ah];rfl
  rw[<-D]at P3;have nb:W≠rb:=fun e=>by have:=zlt y.o.1.h;omega
  have Ad:w3.heap[W.heap.size]? =some (.cells #[.int .i64 ((r.seen:Int)+1),t,.int .i64 1,a,bb,nm,tx,vk,vn,vs,.slice la ln lc] 40 (0,0)):=by rw[D];exact(znn _ _ _ _ nb).trans H1.o.2.1
  have K3:RPK rb b mb v W v w3:=(RPK.ext H1.o.1.drew).trans P3.2;have Aj:w3.heap.size=w1.heap.size:=by rw[D];simp[World.setCell]
  clear Ah D n l k i d c Y V U T A O M L J I E H z rf nb;obtain⟨n,l,k,i,d,c,Y,V,U,T,A,O,_⟩:=yaB Ad;obtain⟨M,L,J,I,E,H,z,rf⟩:=P3.1.q;dsimp only at M L J I E H;have OU:=zhd (yam ((r.seen:Int)+1) t 1 a bb nm tx vk vn vs la ln lc w3 _ HO.o);have H3:=zh3 P3.1 K3 Ad;clear P3 K3 Ad Aj;go_wp2_with fail;refine OU.o.mono ?_;rintro e w4 ⟨rfl,u⟩;have Ac:=(u.block W O).trans H3.o.2.2;have R4:=H3.o.1.ext u;have K4:=H3.o.2.1.trans (RPK.ext u);clear n l k i d c Y V U T A O M L J I E H z rf OU;obtain⟨n,l,k,i,d,c,Y,V,U,T,A,O,_⟩:=yaB Ac;obtain⟨M,L,J,I,E,H,z,rf⟩:=R4.q;dsimp only at M L J I E H;have H4:=zh3 R4 K4 Ac;clear R4 K4 Ac u
 all_goals
  go_upto_region 13 with(fail);have RA:=zhd (fun X (B:Below w4 w4 X)=>ydf rb b mb v p {r with seen:=r.seen+1} X (H4.o.1.ext B) (((y.o.2.2.2.2.1.keep H4.o.2.1.keeps Q.o.2.2.2.2.2.2.2).below B)) t a bb nm tx x vk vn vs la ln lc F ((y.o.2.2.2.1.keep H4.o.2.1.keeps Q.o.2.2.2.2.2.2.1).keep (S:=fun _=>False) (zkb B) (fun _ _ f=>f)) y.o.2.2.2.2.2 fa Q.o.1 Q.o.2.1 Q.o.2.2.1 Q.o.2.2.2.1 Q.o.2.2.2.2.1 (fun j hj=>Q.o.2.2.2.2.2.1 j (by have h1:=B.size;have h2:=H4.o.2.1.keeps.size;omega)) Q.o.2.2.2.2.2.2.1 Q.o.2.2.2.2.2.2.2 ((r.seen:Int)+1) 1);have HW:=zhd (show W<w4.heap.size/\¬RO rb b mb v W.heap.size from⟨O,fun e=>by have:=y.o.1.lt e;omega⟩);have HD:Below w4 w4 w4.drew:=(znv _ _).drew;go_region_law ((go_simp;go_at_call 70;refine(RA.o _ (by first|exact HD|exact znv _ _)).mono ?_;rintro e w6 ⟨v6,rfl,H6⟩))
  all_goals
   have K6:=H4.o.2.1.trans ((RPK.ext HD).trans H6.o.2);have Ab:=(H6.o.2.keeps.block W HW.o.1 HW.o.2).trans H4.o.2.2;have HY:=zh3 H6.o.1 K6 Ab;clear n l k i d c Y V U T A O M L J I E H z rf RA HD K6;obtain⟨n,l,k,i,d,c,Y,V,U,T,A,O,_⟩:=yaB Ab;obtain⟨M,L,J,I,E,H,z,rf⟩:=HY.o.1.q;dsimp only at M L J I E H;clear Ab;obtain⟨cb,Aa⟩:∃cb,decide (16<=(1:Int)/\1<=21)=cb:=⟨_,rfl⟩;have CS:=zhd (ybF ((r.seen:Int)+1) t 1 a bb nm tx vk vn vs la ln lc w6 cb Aa);have Ak:=zhd Aa;clear Aa;go_wp2_with fail;refine CS.o.mono ?_;rintro e w8 ⟨rfl,Af⟩;have R8:=HY.o.1.ext Af;have K8:=HY.o.2.1.trans (RPK.ext Af);clear n l k i d c Y V U T A O M L J I E H z rf CS;obtain⟨M,L,J,I,E,H,z,rf⟩:=R8.q;dsimp only at M L J I E H;have P8:=R8.put 4 (.bool cb) q.2 (by rw[HR.o]) (by rw[HR.o]) (by rw[HR.o,<-Ak.o];rfl);have H8:=zh2 P8.1 (K8.trans P8.2);clear R8 K8 P8 Af;go_wp2;go_ret;exact⟨_,by rw[HR.o];rfl,zhd H8.o⟩
theorem ymY
  {Z:Nat->Prop}(rb b mb:Nat)(v:MV)(p:Img)(r:RP)(W:World)(R:RPX TR Z W rb b mb v p r){N:Nat}(G:Gl Tryz.prog N W)(t a bb:Int)(nm tx:ByteArray)(x:Val)(vk vn:Int)(vs:ByteArray)(la:Option Addr)(ln lc:Nat)(F:Nat->Prop)(C:CF F W ⟨vk,vn,vs,la,ln,lc⟩ x)(hw:x.wf)
  (fa:Fa)(K:Known p fa)(P:Pk p)(hsp:fa.span<=p.code.length+1)(S:St p fa r.m)(hev:r.m.events<=30)(hZ:∀j,W.heap.size<=j->Z j)(hF:∀g,F g->¬RO rb b mb v g)(hN:∀g,RO rb b mb v g->N<=g)
  (k:Int)(hck:yae ⟨(r.seen:Int)+1,t,k,a,bb,nm,tx,x⟩=0)(hcl:r.closed=false)(hsn:r.seen<=4000000)(h0:¬r.seen=0)(hk:¬k=1)(h12:¬k=12)(hko:yaI k=true)(q:Int×RP)(hr:ybK p r ⟨(r.seen:Int)+1,t,k,a,bb,nm,tx,x⟩=q):
  Calls Tryz.prog 56 #[.pointer (some ⟨rb,0,none⟩),.agg #[.int .i64 ((r.seen:Int)+1),t,k,a,bb,nm,tx,vk,vn,vs,.slice la ln lc]] W
   (ycv Z rb b mb v p W q):=by
 have HR:=zhd (show q=(0,{r with m:=(yat p r.m ⟨(r.seen:Int)+1,t,k,a,bb,nm,tx,x⟩).2,seen:=r.seen+1,closed:=yaS k}) by rw[<-hr,ya0 (ybH hck rfl hcl ⟨fun h=>absurd h h0,fun h=>absurd h hk⟩),if_pos (by exact hko)];dsimp only;rw[if_neg h12]);have n1:(k==1)=false:=by rw[zna];exact hk
 have n2:(k !=1)=true:=by unfold bne;rw[n1];rfl
 have n6:(k==12)=false:=by rw[zna];exact h12
 have n3:((r.seen:Int)==0)=false:=by rw[zna];omega
 have n4:decide (0<(r.seen:Int))=true:=zno (by omega);have n5:0<(r.seen:Int):=by omega
 have Al:decide (0<r.seen)=true:=zno (by omega);have Ak:0<r.seen:=by omega
 have Q:=zh8 K P hsp S hev hZ hF hN;clear hr h0 hk h12 K P hsp S hev hZ hF hN;have HO:=zhd hko;clear hko;have Am:wrap64 ((r.seen:Int)+1)=(r.seen:Int)+1:=by unfold wrap64;omega
 have HC:=zh2 hcl hsn;clear hsn hcl;obtain⟨w0,u⟩:∃w0,w0=W.alloc (.cells #[.int .i64 ((r.seen:Int)+1),t,k,a,bb,nm,tx,vk,vn,vs,.slice la ln lc] 40):=⟨_,rfl⟩;have B0:=zba u;have hB:=zha u;have C0:=C.keep (S:=fun _=>False) (zkb B0) (fun _ _ f=>f);have EK:=zhd (ybp ((r.seen:Int)+1) t k a bb nm tx x vk vn vs la ln lc F w0 (G.below B0) C0 hw _ hck);obtain⟨s,n,l,i,d,c,Y,V,U,T,A,O,_⟩:=yaB hB;have z:=zh6 R B0 hB C G hw;have An:=zhd hck;clear hck C0 B0 hB C R G hw;go_in;go_wp2_with fail;rw[<-u];clear u;refine EK.o.mono ?_;rintro e w1 ⟨rfl,Ag⟩;have B1:Below W W w1:=z.o.2.1.trans (Ag.mono z.o.2.1.size);have Ae:=(Ag.block W O).trans z.o.2.2.1;have R1:=z.o.1.ext B1;clear s n l i d c Y V U T A O;obtain⟨s,n,l,i,d,c,Y,V,U,T,A,O,_⟩:=yaB Ae;obtain⟨M,L,J,I,E,H,rl,rf⟩:=R1.q;have H1:=zh3 B1 Ae R1;clear B1 Ae R1 Ag EK;rw[HC.o.1]at E;go_upto_region 3 with(fail);go_region
 all_goals
  go_upto_region 10 with(fail);refine yaa ?_;intro w3 Ah;have P3:=(H1.o.2.2.ext (znv _ _).drew).put 1 (.int .i64 ((r.seen:Int)+1)) {r with seen:=r.seen+1} rfl rfl (by simp);have D:w3=w1.drew.setCell ⟨rb,1,none⟩ (.int .i64 ((r.seen:Int)+1)):=by rw[Ah];rfl
  rw[<-D]at P3;have nb:W≠rb:=fun e=>by have:=zlt z.o.1.h;omega
  have Ad:w3.heap[W.heap.size]? =some (.cells #[.int .i64 ((r.seen:Int)+1),t,k,a,bb,nm,tx,vk,vn,vs,.slice la ln lc] 40 (0,0)):=by rw[D];exact(znn _ _ _ _ nb).trans H1.o.2.1
  have K3:RPK rb b mb v W v w3:=(RPK.ext H1.o.1.drew).trans P3.2;have Ai:w3.heap.size=w1.heap.size:=by rw[D];simp[World.setCell]
  clear Ah D s n l i d c Y V U T A O M L J I E H rl rf nb;obtain⟨s,n,l,i,d,c,Y,V,U,T,A,O,_⟩:=yaB Ad;obtain⟨M,L,J,I,E,H,rl,rf⟩:=P3.1.q;dsimp only at M L J I E H;have OU:=zhd (yam ((r.seen:Int)+1) t k a bb nm tx vk vn vs la ln lc w3 _ HO.o);have H3:=zh3 P3.1 K3 Ad;clear P3 K3 Ad Ai;go_wp2_with fail;refine OU.o.mono ?_;rintro e w4 ⟨rfl,y⟩;have Ac:=(y.block W O).trans H3.o.2.2;have R4:=H3.o.1.ext y;have K4:=H3.o.2.1.trans (RPK.ext y);clear s n l i d c Y V U T A O M L J I E H rl rf OU;obtain⟨s,n,l,i,d,c,Y,V,U,T,A,O,_⟩:=yaB Ac;obtain⟨M,L,J,I,E,H,rl,rf⟩:=R4.q;dsimp only at M L J I E H;have H4:=zh3 R4 K4 Ac;clear R4 K4 Ac y
 all_goals
  go_upto_region 13 with(fail);have RA:=zhd (fun X (B:Below w4 w4 X)=>ydf rb b mb v p {r with seen:=r.seen+1} X (H4.o.1.ext B) (((z.o.2.2.2.2.1.keep H4.o.2.1.keeps Q.o.2.2.2.2.2.2.2).below B)) t a bb nm tx x vk vn vs la ln lc F ((z.o.2.2.2.1.keep H4.o.2.1.keeps Q.o.2.2.2.2.2.2.1).keep (S:=fun _=>False) (zkb B) (fun _ _ f=>f)) z.o.2.2.2.2.2 fa Q.o.1 Q.o.2.1 Q.o.2.2.1 Q.o.2.2.2.1 Q.o.2.2.2.2.1 (fun j hj=>Q.o.2.2.2.2.2.1 j (by have h1:=B.size;have h2:=H4.o.2.1.keeps.size;omega)) Q.o.2.2.2.2.2.2.1 Q.o.2.2.2.2.2.2.2 ((r.seen:Int)+1) k);have HW:=zhd (show W<w4.heap.size/\¬RO rb b mb v W.heap.size from⟨O,fun e=>by have:=z.o.1.lt e;omega⟩);have HD:Below w4 w4 w4.drew:=(znv _ _).drew;go_region_law ((go_simp;go_at_call 70;refine(RA.o _ (by first|exact HD|exact znv _ _)).mono ?_;rintro e w6 ⟨v6,rfl,H6⟩))
  all_goals
   have K6:=H4.o.2.1.trans ((RPK.ext HD).trans H6.o.2);have Ab:=(H6.o.2.keeps.block W HW.o.1 HW.o.2).trans H4.o.2.2;have HY:=zh3 H6.o.1 K6 Ab;clear s n l i d c Y V U T A O M L J I E H rl rf RA HD K6;obtain⟨s,n,l,i,d,c,Y,V,U,T,A,O,_⟩:=yaB Ab;obtain⟨M,L,J,I,E,H,rl,rf⟩:=HY.o.1.q;dsimp only at M L J I E H;clear Ab;obtain⟨cb,Aa⟩:∃cb,decide (16<=(k:Int)/\k<=21)=cb:=⟨_,rfl⟩;have CS:=zhd (ybF ((r.seen:Int)+1) t k a bb nm tx vk vn vs la ln lc w6 cb Aa);have Aj:=zhd Aa;clear Aa;go_wp2_with fail;refine CS.o.mono ?_;rintro e w8 ⟨rfl,Af⟩;have R8:=HY.o.1.ext Af;have K8:=HY.o.2.1.trans (RPK.ext Af);clear s n l i d c Y V U T A O M L J I E H rl rf CS;obtain⟨M,L,J,I,E,H,rl,rf⟩:=R8.q;dsimp only at M L J I E H;have P8:=R8.put 4 (.bool cb) q.2 (by rw[HR.o]) (by rw[HR.o]) (by rw[HR.o,<-Aj.o];rfl);have H8:=zh2 P8.1 (K8.trans P8.2);clear R8 K8 P8 Af;go_wp2;go_ret;exact⟨_,by rw[HR.o];rfl,zhd H8.o⟩
theorem yj9
  {Z:Nat->Prop}(rb b mb:Nat)(v:MV)(p:Img)(r:RP)(W:World)(R:RPX TR Z W rb b mb v p r){N:Nat}(G:Gl Tryz.prog N W)(t a bb:Int)(nm tx:ByteArray)(x:Val)(vk vn:Int)(vs:ByteArray)(la:Option Addr)(ln lc:Nat)(F:Nat->Prop)(C:CF F W ⟨vk,vn,vs,la,ln,lc⟩ x)(hw:x.wf)
  (fa:Fa)(K:Known p fa)(P:Pk p)(hsp:fa.span<=p.code.length+1)(S:St p fa r.m)(hev:r.m.events<=30)(hZ:∀j,W.heap.size<=j->Z j)(hF:∀g,F g->¬RO rb b mb v g)(hN:∀g,RO rb b mb v g->N<=g)
  (hck:yae ⟨(r.seen:Int)+1,t,12,a,bb,nm,tx,x⟩=0)(hcl:r.closed=false)(hsn:r.seen<=4000000)(h0:¬r.seen=0)(q:Int×RP)(hr:ybK p r ⟨(r.seen:Int)+1,t,12,a,bb,nm,tx,x⟩=q):
  Calls Tryz.prog 56 #[.pointer (some ⟨rb,0,none⟩),.agg #[.int .i64 ((r.seen:Int)+1),t,.int .i64 12,a,bb,nm,tx,vk,vn,vs,.slice la ln lc]] W
   (ycv Z rb b mb v p W q):=by
 have HR:=zhd (show q=(0,{r with m:=(yat p r.m ⟨(r.seen:Int)+1,t,12,a,bb,nm,tx,x⟩).2,seen:=r.seen+1,fired:=a::r.fired,closed:=yaS 12}) by rw[<-hr,ya0 (ybH hck rfl hcl ⟨fun h=>absurd h h0,fun h=>absurd h (by show¬(12:Int)=1;decide)⟩),if_pos (by rfl)];rfl);have n3:((r.seen:Int)==0)=false:=by rw[zna];omega
 have n4:decide (0<(r.seen:Int))=true:=zno (by omega);have n5:0<(r.seen:Int):=by omega
 have Au:decide (0<r.seen)=true:=zno (by omega);have At:0<r.seen:=by omega
 have y:=zh8 K P hsp S hev hZ hF hN;have Ap:yaI 12=true:=rfl;clear hr h0 K P hsp S hev hZ hF hN;have HO:=zhd Ap;clear Ap;have Av:wrap64 ((r.seen:Int)+1)=(r.seen:Int)+1:=by unfold wrap64;omega
 have HC:=zh2 hcl hsn;clear hsn hcl;obtain⟨w0,z⟩:∃w0,w0=W.alloc (.cells #[.int .i64 ((r.seen:Int)+1),t,.int .i64 12,a,bb,nm,tx,vk,vn,vs,.slice la ln lc] 40):=⟨_,rfl⟩;have B0:=zba z;have hB:=zha z;have C0:=C.keep (S:=fun _=>False) (zkb B0) (fun _ _ f=>f);have EK:=zhd (ybp ((r.seen:Int)+1) t 12 a bb nm tx x vk vn vs la ln lc F w0 (G.below B0) C0 hw _ hck);obtain⟨l,k,i,d,c,Y,V,U,T,Q,A,M,_⟩:=yaB hB;have u:=zh6 R B0 hB C G hw;have Ax:=zhd hck;clear hck C0 B0 hB C R G hw;go_in;go_wp2_with fail;rw[<-z];clear z;refine EK.o.mono ?_;rintro e w1 ⟨rfl,Al⟩;have B1:Below W W w1:=u.o.2.1.trans (Al.mono u.o.2.1.size);have Aj:=(Al.block W M).trans u.o.2.2.1;have R1:=u.o.1.ext B1;clear l k i d c Y V U T Q A M;obtain⟨l,k,i,d,c,Y,V,U,T,Q,A,M,_⟩:=yaB Aj;obtain⟨L,J,I,H,D,E,n,s⟩:=R1.q;have H1:=zh3 B1 Aj R1;clear B1 Aj R1 Al EK;rw[HC.o.1]at D;go_upto_region 3 with(fail);go_region
 all_goals
  go_upto_region 10 with(fail);refine yaa ?_;intro w3 An;have P3:=(H1.o.2.2.ext (znv _ _).drew).put 1 (.int .i64 ((r.seen:Int)+1)) {r with seen:=r.seen+1} rfl rfl (by simp);have O:w3=w1.drew.setCell ⟨rb,1,none⟩ (.int .i64 ((r.seen:Int)+1)):=by rw[An];rfl
  rw[<-O]at P3;have nb:W≠rb:=fun e=>by have:=zlt u.o.1.h;omega
  have Ai:w3.heap[W.heap.size]? =some (.cells #[.int .i64 ((r.seen:Int)+1),t,.int .i64 12,a,bb,nm,tx,vk,vn,vs,.slice la ln lc] 40 (0,0)):=by rw[O];exact(znn _ _ _ _ nb).trans H1.o.2.1
  have K3:RPK rb b mb v W v w3:=(RPK.ext H1.o.1.drew).trans P3.2;have Ar:w3.heap.size=w1.heap.size:=by rw[O];simp[World.setCell]
  clear An O l k i d c Y V U T Q A M L J I H D E n s nb;obtain⟨l,k,i,d,c,Y,V,U,T,Q,A,M,_⟩:=yaB Ai;obtain⟨L,J,I,H,D,E,n,s⟩:=P3.1.q;dsimp only at L J I H D E;have OU:=zhd (yam ((r.seen:Int)+1) t 12 a bb nm tx vk vn vs la ln lc w3 _ HO.o);have H3:=zh3 P3.1 K3 Ai;clear P3 K3 Ai Ar;go_wp2_with fail;refine OU.o.mono ?_;rintro e w4 ⟨rfl,Aa⟩;have Ah:=(Aa.block W M).trans H3.o.2.2;have R4:=H3.o.1.ext Aa;have K4:=H3.o.2.1.trans (RPK.ext Aa);clear l k i d c Y V U T Q A M L J I H D E n s OU;obtain⟨l,k,i,d,c,Y,V,U,T,Q,A,M,_⟩:=yaB Ah;obtain⟨L,J,I,H,D,E,n,s⟩:=R4.q;dsimp only at L J I H D E;have H4:=zh3 R4 K4 Ah;clear R4 K4 Ah Aa
 all_goals
  obtain⟨o,Ad,Ac⟩:=MapAt.store H4.o.1.fm ylO Tryz.underlying57 a true;replace Ad:∀X:World,ydU w4 mb X->(Instr.mapUpdate 57 (.map (some mb)) (.int .i64 a) (.bool true)).run Tryz.prog X= .ok () (setBlock X mb o):=Ad;have Ao:=H4.o.1.mlt;have Aq:=zhd (Ac _ (yce _ _ _ Ao));clear Ac;go_upto_region 12 with(fail);go_region
  all_goals
   go_upto_region 13 with(fail);refine yaa ?_;intro w5 Am;have Ab:w5=(setBlock w4 mb o).drew:=by rw[Am];rfl
   have F5:=H4.o.1.fire a Aq.o;have R5:=F5.1.ext (znv _ _).drew;have K5:=F5.2.trans (RPK.ext (znv (setBlock w4 mb o).heap.size (setBlock w4 mb o)).drew);rw[<-Ab]at R5 K5;have Ag:=(K5.keeps.block W M (fun e=>by have:=u.o.1.lt e;omega)).trans H4.o.2.2;have H5:=zh3 R5 (H4.o.2.1.trans K5) Ag;clear Am Ab F5 R5 K5 Ad Ao Aq l k i d c Y V U T Q A M L J I H D E n s;obtain⟨l,k,i,d,c,Y,V,U,T,Q,A,M,_⟩:=yaB Ag;obtain⟨L,J,I,H,D,E,n,s⟩:=H5.o.1.q;dsimp only at L J I H D E;clear Ag;have RA:=zhd (fun X (B:Below w5 w5 X)=>ydf rb b mb v p {r with seen:=r.seen+1,fired:=a::r.fired} X (H5.o.1.ext B) (((u.o.2.2.2.2.1.keep H5.o.2.1.keeps y.o.2.2.2.2.2.2.2).below B)) t a bb nm tx x vk vn vs la ln lc F ((u.o.2.2.2.1.keep H5.o.2.1.keeps y.o.2.2.2.2.2.2.1).keep (S:=fun _=>False) (zkb B) (fun _ _ f=>f)) u.o.2.2.2.2.2 fa y.o.1 y.o.2.1 y.o.2.2.1 y.o.2.2.2.1 y.o.2.2.2.2.1 (fun j hj=>y.o.2.2.2.2.2.1 j (by have h1:=B.size;have h2:=H5.o.2.1.keeps.size;omega)) y.o.2.2.2.2.2.2.1 y.o.2.2.2.2.2.2.2 ((r.seen:Int)+1) 12)
   have HW:=zhd (show W<w5.heap.size/\¬RO rb b mb v W.heap.size from⟨M,fun e=>by have:=u.o.1.lt e;omega⟩);have HD:Below w5 w5 w5.drew:=(znv _ _).drew;go_region_law ((go_simp;go_at_call 70;refine(RA.o _ (by first|exact HD|exact znv _ _)).mono ?_;rintro e w6 ⟨v6,rfl,H6⟩))
   all_goals
    have K6:=H5.o.2.1.trans ((RPK.ext HD).trans H6.o.2);have Af:=(H6.o.2.keeps.block W HW.o.1 HW.o.2).trans H5.o.2.2;have HY:=zh3 H6.o.1 K6 Af;clear l k i d c Y V U T Q A M L J I H D E n s RA HD K6;obtain⟨l,k,i,d,c,Y,V,U,T,Q,A,M,_⟩:=yaB Af;obtain⟨L,J,I,H,D,E,n,s⟩:=HY.o.1.q;dsimp only at L J I H D E;clear Af;obtain⟨cb,Ae⟩:∃cb,decide (16<=(12:Int)/\12<=21)=cb:=⟨_,rfl⟩;have CS:=zhd (ybF ((r.seen:Int)+1) t 12 a bb nm tx vk vn vs la ln lc w6 cb Ae);have As:=zhd Ae;clear Ae;go_wp2_with fail;refine CS.o.mono ?_;rintro e w8 ⟨rfl,Ak⟩;have R8:=HY.o.1.ext Ak;have K8:=HY.o.2.1.trans (RPK.ext Ak);clear l k i d c Y V U T Q A M L J I H D E n s CS;obtain⟨L,J,I,H,D,E,n,s⟩:=R8.q;dsimp only at L J I H D E;have P8:=R8.put 4 (.bool cb) q.2 (by rw[HR.o]) (by rw[HR.o]) (by rw[HR.o,<-As.o];rfl);have H8:=zh2 P8.1 (K8.trans P8.2);clear R8 K8 P8 Ak;go_wp2;go_ret;exact⟨_,by rw[HR.o];rfl,zhd H8.o⟩
set_option linter.unusedVariables false
theorem ykD (c:Cm)(e:Ev)(h:(evOfC c).kind≠0):ydG c e=yiN {evOfC c with id:=e.id,b:=bif (evOfC c).kind==21 then e.b else(evOfC c).b} e:=by
 unfold ydG yiN;dsimp only;rw[show((evOfC c).kind !=0)=true by simpa using h,Bool.true_and,beq_self_eq_true,Bool.true_and]
theorem ym9 {c:Cm}(hc:yaV c=0):yaX (evOfC c).kind=true:=by
 obtain⟨_,_,_,_,_,hk⟩:=ydS hc;unfold evOfC
 repeat' split
 all_goals first|rfl|(exfalso;omega)
theorem yjk {c:Cm}(hc:yaV c=0):(evOfC c).kind≠0:=fun e=>by
 have h:=ym9 hc;rw[e]at h;exact absurd h (by decide)
theorem yl6 (c:Cm)(hc:yaV c=0)(hz:szV c.v<=1073741824)(ck cn:Int)(cs:ByteArray)(ma:Option Addr)(mn mc:Nat)(F:Nat->Prop)(W:World)(C:CF F W ⟨ck,cn,cs,ma,mn,mc⟩ c.v)
  (id t k a bb:Int)(nm tx:ByteArray)(x:Val)(vk vn:Int)(vs:ByteArray)(la:Option Addr)(ln lc:Nat)(F':Nat->Prop)(D:CF F' W ⟨vk,vn,vs,la,ln,lc⟩ x)(q:Bool)(hq:ydG c ⟨id,t,k,a,bb,nm,tx,x⟩=q):
  Calls Tryz.prog 102 #[.agg #[c.kind,c.time,c.a,c.b,c.name,ck,cn,cs,.slice ma mn mc],.agg #[id,t,k,a,bb,nm,tx,vk,vn,vs,.slice la ln lc]] W (fun e w'=>e= .returned (.bool q)/\Below W W w'):=by
 obtain⟨w0,L⟩:∃w0,w0=(W.alloc (.cells #[c.kind,c.time,c.a,c.b,c.name,ck,cn,cs,.slice ma mn mc] 52)).alloc (.cells #[id,t,k,a,bb,nm,tx,vk,vn,vs,.slice la ln lc] 40):=⟨_,rfl⟩;have B0:Below W W w0:=by rw[L];exact(zal).alloc (by simp) _
 have hC:w0.heap[W.heap.size]? =some (.cells #[c.kind,c.time,c.a,c.b,c.name,ck,cn,cs,.slice ma mn mc] 52 (0,0)):=by rw[L];exact yaG
 have hD:w0.heap[W.heap.size+1]? =some (.cells #[id,t,k,a,bb,nm,tx,vk,vn,vs,.slice la ln lc] 40 (0,0)):=by rw[L];exact yar
 obtain⟨c0,c1,c2,c3,c4,c5,c6,c7,c8,cl,_⟩:=ygt hC;have CE:=zhd (yca c hc hz ck cn cs ma mn mc F w0 (C.keep (S:=fun _=>False) (zkb B0) (fun _ _ f=>f)));have y:=yjk hc;rw[ykD c _ y]at hq;have Ad:((evOfC c).kind==0)=false:=by rw[zna];exact y
 have Ag:((evOfC c).kind !=0)=true:=by unfold bne;rw[Ad];rfl
 have K:=zh4 B0 hD D hq;clear B0 hC C D hc hz hq y hD;go_in;go_wp2_with fail;rw[<-L];clear L;refine CE.o.mono ?_;rintro e w1 ⟨uk,un,us,ua,ul,uc,rfl,H1⟩;have Ab:=(H1.o.2.block (W.heap.size+1) (zlt K.o.2.1)).trans K.o.2.1;obtain⟨n,m,l,i,d,Z,Y,X,V,U,B,Q,T⟩:=yaB Ab;have Ac:=zhd Ab;clear c0 c1 c2 c3 c4 c5 c6 c7 c8 cl CE Ab;go_upto_region 2 with(fail);refine yaa ?_;intro w2 p;have z:=zha p;have B2:=zba p;have Aa:=(B2.block (W.heap.size+1) Q).trans Ac.o;clear n m l i d Z Y X V U B Q T;obtain⟨n,m,l,i,d,Z,Y,X,V,U,B,Q,T⟩:=yaB Aa;obtain⟨e0,e1,e2,e3,e4,e5,e6,e7,e8,e9,J,el,ef⟩:=yaB z;have nb:W.heap.size+1≠w1.heap.size:=fun e=>by have:=zlt Ac.o;omega
 have Af:¬W.heap.size+1=w1.heap.size:=nb;have Ae:¬w1.heap.size=W.heap.size+1:=fun e=>nb e.symm;have P:=zh3 B2 Aa z;clear p B2 Aa z;by_cases h21:(evOfC c).kind=21
 .have u:((evOfC c).kind==21)=true:=by rw[beq_iff_eq];exact h21
  have HQ:=zhd (show yiN ⟨id,(evOfC c).time,(evOfC c).kind,(evOfC c).a,bb,(evOfC c).name,(evOfC c).text,(evOfC c).v⟩ ⟨id,t,k,a,bb,nm,tx,x⟩=q by have:=K.o.2.2.2;rw[u]at this;exact this);clear h21;go_upto_region 5 with(fail);refine yaa ?_;intro w3 E;have M:w3.heap[w1.heap.size]? =some (.cells #[id,(evOfC c).time,(evOfC c).kind,(evOfC c).a,bb,(evOfC c).name,(evOfC c).text,uk,un,us,.slice ua ul uc] 40 (0,0)):=by
   rw[E];have:=P.o.2.2;simp[World.setCell,zni,this]
  have R:Keeps (fun j=>j=w1) w2 w3:=by
   rw[E]
   repeat(first|with_reducible exact Keeps.refl _ _|(refine Keeps.setCell ?_ (Or.inl ?h) _;case h=>rfl))
  have N:=(R.block (W.heap.size+1) (zlt P.o.2.1) nb).trans P.o.2.1;clear n m l i d Z Y X V U B Q T e0 e1 e2 e3 e4 e5 e6 e7 e8 e9 J el ef E;obtain⟨n,m,l,i,d,Z,Y,X,V,U,B,Q,T⟩:=yaB N;obtain⟨e0,e1,e2,e3,e4,e5,e6,e7,e8,e9,J,el,ef⟩:=yaB M;have r:=H1.o.2.size;have A:=K.o.1.trans (H1.o.2.mono K.o.1.size);have I:=A.trans (P.o.1.mono A.size);have H:Below W W w3:=I.trans (R.below I.size (fun j hj e=>by have:=A.size;omega));have s:=K.o.1.size;have CV:=((H1.o.1.mono (G:=fun g=>g<w1) (fun g _ hl=>hl)).keep (S:=fun _=>False) (zkb P.o.1) (fun _ _ f=>f)).keep R (fun g hg e=>by have hg:g<w1:=hg;omega);have SA:=zhd (ygg id (evOfC c).time (evOfC c).kind (evOfC c).a bb (evOfC c).name (evOfC c).text uk un us ua ul uc id t k a bb nm tx vk vn vs la ln lc (evOfC c).v x _ _ w3 CV (K.o.2.2.1.keep (S:=fun _=>False) (zkb H) (fun _ _ f=>f)) q HQ.o);have H3:=zhd H;clear M R N r A I H s CV nb;go_wp2_with fail;refine SA.o.mono ?_;rintro e w4 ⟨rfl,O⟩;have H4:=zhd (H3.o.trans (O.mono H3.o.size))
  clear O n m l i d Z Y X V U B Q T e0 e1 e2 e3 e4 e5 e6 e7 e8 e9 J el ef;go_wp2;go_ret;exact⟨rfl,H4.o⟩
 .have u:((evOfC c).kind==21)=false:=by rw[zna];exact h21
  have HQ:=zhd (show yiN ⟨id,(evOfC c).time,(evOfC c).kind,(evOfC c).a,(evOfC c).b,(evOfC c).name,(evOfC c).text,(evOfC c).v⟩ ⟨id,t,k,a,bb,nm,tx,x⟩=q by have:=K.o.2.2.2;rw[u]at this;exact this);clear h21;go_upto_region 5 with(fail);refine yaa ?_;intro w3 E;have M:w3.heap[w1.heap.size]? =some (.cells #[id,(evOfC c).time,(evOfC c).kind,(evOfC c).a,(evOfC c).b,(evOfC c).name,(evOfC c).text,uk,un,us,.slice ua ul uc] 40 (0,0)):=by
   rw[E];have:=P.o.2.2;simp[World.setCell,zni,this]
  have R:Keeps (fun j=>j=w1) w2 w3:=by
   rw[E]
   repeat(first|with_reducible exact Keeps.refl _ _|(refine Keeps.setCell ?_ (Or.inl ?h) _;case h=>rfl))
  have N:=(R.block (W.heap.size+1) (zlt P.o.2.1) nb).trans P.o.2.1;clear n m l i d Z Y X V U B Q T e0 e1 e2 e3 e4 e5 e6 e7 e8 e9 J el ef E;obtain⟨n,m,l,i,d,Z,Y,X,V,U,B,Q,T⟩:=yaB N;obtain⟨e0,e1,e2,e3,e4,e5,e6,e7,e8,e9,J,el,ef⟩:=yaB M;have r:=H1.o.2.size;have A:=K.o.1.trans (H1.o.2.mono K.o.1.size);have I:=A.trans (P.o.1.mono A.size);have H:Below W W w3:=I.trans (R.below I.size (fun j hj e=>by have:=A.size;omega));have s:=K.o.1.size;have CV:=((H1.o.1.mono (G:=fun g=>g<w1) (fun g _ hl=>hl)).keep (S:=fun _=>False) (zkb P.o.1) (fun _ _ f=>f)).keep R (fun g hg e=>by have hg:g<w1:=hg;omega);have SA:=zhd (ygg id (evOfC c).time (evOfC c).kind (evOfC c).a (evOfC c).b (evOfC c).name (evOfC c).text uk un us ua ul uc id t k a bb nm tx vk vn vs la ln lc (evOfC c).v x _ _ w3 CV (K.o.2.2.1.keep (S:=fun _=>False) (zkb H) (fun _ _ f=>f)) q HQ.o);have H3:=zhd H;clear M R N r A I H s CV nb;go_wp2_with fail;refine SA.o.mono ?_;rintro e w4 ⟨rfl,O⟩;have H4:=zhd (H3.o.trans (O.mono H3.o.size))
  clear O n m l i d Z Y X V U B Q T e0 e1 e2 e3 e4 e5 e6 e7 e8 e9 J el ef;go_wp2;go_ret;exact⟨rfl,H4.o⟩
end Go.Proofs.YtpagmlndgblhhaaGreatDoor
namespace Go.Va
open Go.Own Go.RowKit
open Go.Proofs.YtpagmlndgblhhaaGreatDoor
theorem yfG {c:Cm}(h:yaV c=0)(hw:c.v.wf):yaV (yaD c)=0/\(yaD c).v.wf:=by
 have hv:checkL c.v=0:=(ydS h).2.2.2.2.1;have A:=ybd ⟨hv,hw⟩;refine⟨?_,A.2⟩;unfold yaV at h|-;show(match ykZ c.kind with
  |none=>(9:Int)
  |some (fa,fb,fn,fv)=>
   if c.time<0\/4611686018427387903<c.time\/c.a<0\/c.b<0\/(fa=false/\c.a≠0)\/(fb=false/\c.b≠0)then 1 else
   if 64<c.name.size then 2 else
   if(fn=false/\c.name.size≠0)\/(fv=false/\(yab c.v).kind≠0)then 8 else checkL (yab c.v))=0
 rw[ya2,A.1];rw[hv]at h;exact h
end Go.Va
