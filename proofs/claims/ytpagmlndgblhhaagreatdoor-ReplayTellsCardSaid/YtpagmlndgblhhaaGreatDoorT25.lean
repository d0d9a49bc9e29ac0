/- Parts of the proof: what the functions and the plain laws give that later parts lean on. Conditions: none beyond those that each theorem names. -/
import Derived.Test.YtpagmlndgblhhaaGreatDoorT24
set_option maxRecDepth 100000
set_option maxHeartbeats 8000000
namespace Go.Va
open Go.Own Go.RowKit
open Go.Proofs.YtpagmlndgblhhaaGreatDoor
theorem ymv {p:Img}{fa:Fa}(K:Known p fa)(P:Pk p)(hsp:fa.span<=p.code.length+1){r:RP}(S:St p fa r.m){e:Ev}(hw:e.v.wf)(hev:r.m.events+(ya8 [e]).length<=30)(hnx:r.next<=r.m.made.length):
  St p fa (ybK p r e).2.m/\(ybK p r e).2.m.events<=r.m.events+(ya8 [e]).length/\(ybK p r e).2.next<=(ybK p r e).2.m.made.length/\(ybK p r e).2.seen<=r.seen+1:=by
 by_cases hwn:ycm r e=0
 .rw[ya0 hwn]
  obtain⟨a,b,A,B,G,F⟩:=ycV r.fired (r.m.made.drop r.next) r.next;have C:(r.m.made.drop r.next).length=a.length+b.length:=by rw[A,znk]
  rw[List.length_drop]at C;by_cases ho:yaI e.kind=true
  .rw[if_pos ho]
   have A:ya8 [e]=[e]:=by unfold ya8;rw[List.filter_cons,if_pos ho];rfl
   rw[A]at hev|-;obtain⟨E,B⟩:=S.apply K P hsp e hw (by simp at hev;omega);obtain⟨k,hk⟩:=yda p r.m e;refine⟨E,B,?_,znc _⟩;show r.next<=((yat p r.m e).2.made).length;rw[hk,znk];omega
  .rw[if_neg ho]
   split
   .split
    .exact⟨S,Nat.le_add_right _ _,by show ybi r.fired (r.m.made.drop r.next) r.next<=r.m.made.length;omega,znc _⟩
    .rename_i c D
     have:=(zge D).1;split
     .exact⟨S,Nat.le_add_right _ _,by show ybi r.fired (r.m.made.drop r.next) r.next+1<=r.m.made.length;omega,znc _⟩
     .exact⟨S,Nat.le_add_right _ _,by show ybi r.fired (r.m.made.drop r.next) r.next<=r.m.made.length;omega,znc _⟩
   .exact⟨S,Nat.le_add_right _ _,hnx,znc _⟩
 .rw[yfr hwn]
  exact⟨S,Nat.le_add_right _ _,hnx,Nat.le_succ _⟩
theorem ye4 (F:List Int):∀(l:List Cm) (n:Nat),ybi F (l.map yaD) n=ybi F l n
 |[],_=>rfl
 |c::l,n=>by
  rw[List.map_cons,ybi,ybi,ye4 F l];rfl
theorem yjh (c:Cm)(e:Ev):ydG (yaD c) e=ydG c e:=by
 unfold ydG;rw[show evOfC (yaD c)=evOfC c from ydj c]
end Go.Va
namespace Go.Proofs.YtpagmlndgblhhaaGreatDoor
open Go.RowKit Go.Own Go.Own.MapTy Go.Va Go.Sort
open Go.Own.Cells (sz enc)
set_option linter.unusedVariables false
theorem ylM
  {Z:Nat->Prop}(rb b mb:Nat)(v:MV)(p:Img)(r:RP)(W:World)(R:RPX TR Z W rb b mb v p r){N:Nat}(G:Gl Tryz.prog N W)(t a bb:Int)(nm tx:ByteArray)(x:Val)(vk vn:Int)(vs:ByteArray)(la:Option Addr)(ln lc:Nat)(F:Nat->Prop)(C:CF F W ⟨vk,vn,vs,la,ln,lc⟩ x)(hw:x.wf)
  (fa:Fa)(K:Known p fa)(P:Pk p)(hsp:fa.span<=p.code.length+1)(S:St p fa r.m)(hev:r.m.events<=30)(hZ:∀j,W.heap.size<=j->Z j)(hF:∀g,F g->¬RO rb b mb v g)(hN:∀g,RO rb b mb v g->N<=g)
  (k:Int)(hck:yae ⟨(r.seen:Int)+1,t,k,a,bb,nm,tx,x⟩=0)(hcl:r.closed=false)(hsn:r.seen<=4000000)(h0:¬r.seen=0)(hm:yaX k=true)(hnx:r.next<=r.m.made.length)(q:Int×RP)(hr:ybK p r ⟨(r.seen:Int)+1,t,k,a,bb,nm,tx,x⟩=q):
  Calls Tryz.prog 56 #[.pointer (some ⟨rb,0,none⟩),.agg #[.int .i64 ((r.seen:Int)+1),t,k,a,bb,nm,tx,vk,vn,vs,.slice la ln lc]] W
   (ycv Z rb b mb v p W q):=by
 have Am:yaI k=false:=ycx hm;have hk:¬k=1:=fun h=>by rw[h]at hm;exact absurd hm (by decide)
 rw[ya0 (ybH hck rfl hcl ⟨fun h=>absurd h h0,fun h=>absurd h hk⟩),if_neg (by rw[Am];decide),if_pos (by exact hm)]at hr;have HR:=zhd hr;have n1:(k==1)=false:=by rw[zna];exact hk
 have n2:(k !=1)=true:=by unfold bne;rw[n1];rfl
 have n3:((r.seen:Int)==0)=false:=by rw[zna];omega
 have n4:decide (0<(r.seen:Int))=true:=zno (by omega);have n5:0<(r.seen:Int):=by omega
 have Be:decide (0<r.seen)=true:=zno (by omega);have Bd:0<r.seen:=by omega
 have A1:r.m.made.length<=700000:=by have h1:=S.bd;omega
 have HS:=zh5 S hF hN hnx A1;have HM:=zhd hm;clear hr h0 hk hm K P hsp S hev hZ hF hN hnx A1;have HO:=zhd Am;clear Am;have Bf:wrap64 ((r.seen:Int)+1)=(r.seen:Int)+1:=by unfold wrap64;omega
 have HC:=zh2 hcl hsn;clear hsn hcl;obtain⟨w0,Ad⟩:∃w0,w0=W.alloc (.cells #[.int .i64 ((r.seen:Int)+1),t,k,a,bb,nm,tx,vk,vn,vs,.slice la ln lc] 40):=⟨_,rfl⟩;have B0:=zba Ad;have hB:=zha Ad;have C0:=C.keep (S:=fun _=>False) (zkb B0) (fun _ _ f=>f);have EK:=zhd (ybp ((r.seen:Int)+1) t k a bb nm tx x vk vn vs la ln lc F w0 (G.below B0) C0 hw _ hck);obtain⟨y,u,s,i,d,Y,V,U,T,Q,A,M,_⟩:=yaB hB;have HX:=zh6 R B0 hB C G hw;have Bi:=zhd hck;clear hck C0 B0 hB C R G hw;go_in;go_wp2_with fail;rw[<-Ad];clear Ad;refine EK.o.mono ?_;rintro e w1 ⟨rfl,Au⟩;have B1:Below W W w1:=HX.o.2.1.trans (Au.mono HX.o.2.1.size);have At:=(Au.block W M).trans HX.o.2.2.1;have R1:=HX.o.1.ext B1;clear y u s i d Y V U T Q A M;obtain⟨y,u,s,i,d,Y,V,U,T,Q,A,M,_⟩:=yaB At;obtain⟨L,J,I,H,D,E,O,rf⟩:=R1.q;have H1:=zh3 B1 At R1;clear B1 At R1 Au EK;rw[HC.o.1]at D;go_upto_region 3 with(fail);go_region
 all_goals
  go_upto_region 10 with(fail);refine yaa ?_;intro w3 Ay;have P3:=(H1.o.2.2.ext (znv _ _).drew).put 1 (.int .i64 ((r.seen:Int)+1)) {r with seen:=r.seen+1} rfl rfl (by simp);have Aa:w3=w1.drew.setCell ⟨rb,1,none⟩ (.int .i64 ((r.seen:Int)+1)):=by rw[Ay];rfl
  rw[<-Aa]at P3;have nb:W≠rb:=fun e=>by have:=zlt HX.o.1.h;omega
  have As:w3.heap[W.heap.size]? =some (.cells #[.int .i64 ((r.seen:Int)+1),t,k,a,bb,nm,tx,vk,vn,vs,.slice la ln lc] 40 (0,0)):=by rw[Aa];exact(znn _ _ _ _ nb).trans H1.o.2.1
  have K3:RPK rb b mb v W v w3:=(RPK.ext H1.o.1.drew).trans P3.2;have A4:w3.heap.size=w1.heap.size:=by rw[Aa];simp[World.setCell]
  clear Ay Aa y u s i d Y V U T Q A M L J I H D E O rf nb;obtain⟨y,u,s,i,d,Y,V,U,T,Q,A,M,_⟩:=yaB As;obtain⟨L,J,I,H,D,E,O,rf⟩:=P3.1.q;dsimp only at L J I H D E;have OU:=zhd (yam ((r.seen:Int)+1) t k a bb nm tx vk vn vs la ln lc w3 _ HO.o);have H3:=zh3 P3.1 K3 As;clear P3 K3 As A4;go_wp2_with fail;refine OU.o.mono ?_;rintro e w4 ⟨rfl,Ag⟩;have Ar:=(Ag.block W M).trans H3.o.2.2;have R4:=H3.o.1.ext Ag;have K4:=H3.o.2.1.trans (RPK.ext Ag);clear y u s i d Y V U T Q A M L J I H D E O rf OU;obtain⟨y,u,s,i,d,Y,V,U,T,Q,A,M,_⟩:=yaB Ar;obtain⟨L,J,I,H,D,E,O,rf⟩:=R4.q;dsimp only at L J I H D E;have H4:=zh3 R4 K4 Ar;clear R4 K4 Ar Ag
 all_goals
  have CM:=zhd (yc9 ((r.seen:Int)+1) t k a bb nm tx vk vn vs la ln lc w4 _ HM.o);go_wp2_with fail;refine CM.o.mono ?_;rintro e w5 ⟨rfl,Af⟩;have Aq:=(Af.block W M).trans H4.o.2.2;have R5:=H4.o.1.ext Af;have MD:=zhd (yfu b v p r.m w5 R5.mx (ykk HS.o.1) (by have:=HS.o.2.2.2.2;omega));have H5:=zh3 R5 (H4.o.2.1.trans (RPK.ext Af)) Aq;clear y u s i d Y V U T Q A M L J I H D E O rf CM;obtain⟨y,u,s,i,d,Y,V,U,T,Q,A,M,_⟩:=yaB Aq;obtain⟨L,J,I,H,D,E,O,rf⟩:=R5.q;dsimp only at L J I H D E;clear R5 Aq Af;go_wp2_with fail;refine MD.o.mono ?_;rintro e w6 ⟨r6,rfl,H6⟩;obtain⟨n,hn⟩:∃n,r.m.made.length=n:=⟨_,rfl⟩;obtain⟨am,cm,rfl⟩:∃a c,r6= .slice a n c:=by obtain⟨a,c,h⟩:=H6.o.1.slice;rw[zmd,hn]at h;exact⟨a,c,h⟩
  have Ah:=zhd hn;have R6:=H5.o.1.ext H6.o.2.2;have A3:=(H6.o.2.2.block W M).trans H5.o.2.2;have Az:rb<w5.heap.size:=O;have E6:=H6.o.1.rd (G:=fun g=>w5<=g) (fun g h _=>h) H6.o.2.1;have SK:=zhd (ylt rb b mb v p {r with seen:=r.seen+1} w6 R6 (r.m.made.map yaD) (fun g=>w5<=g) am n cm (by rw[zmd];exact hn) E6 (fun g hg e=>by have hg:w5<=g:=hg;omega) (by have h1:=HS.o.2.2.2.1;show r.next<=n;omega) (by have h1:=HS.o.2.2.2.2;omega));have Ac:=zh5 R6 (H5.o.2.1.trans (RPK.ext H6.o.2.2)) A3 E6 Az;clear y u s i d Y V U T Q A M L J I H D E O rf MD hn R6 A3 Az E6;go_wp2_with fail;refine SK.o.mono ?_;rintro e w7 ⟨rfl,H7⟩;obtain⟨nx,hnx⟩:∃nx,ybi r.fired (r.m.made.drop r.next) r.next=nx:=⟨_,rfl⟩;replace HR:=HR.o;have R7:=H7.o.1;rw[show ybi ({r with seen:=r.seen+1}:RP).fired ((r.m.made.map yaD).drop ({r with seen:=r.seen+1}:RP).next) ({r with seen:=r.seen+1}:RP).next=nx by show ybi r.fired ((r.m.made.map yaD).drop r.next) r.next=nx;rw[<-List.map_drop,ye4,hnx]]at R7;rw[hnx]at HR;have A0:¬RO rb b mb v W.heap.size:=fun e=>by have:=HX.o.1.lt e;omega
  have Ap:=(H7.o.2.1.keeps.block W (zlt Ac.o.2.2.1) A0).trans Ac.o.2.2.1;have K7:=Ac.o.2.1.trans H7.o.2.1;have E7:=Ac.o.2.2.2.1.keep H7.o.2.2 (fun g hg e=>by have hg:w5<=g:=hg;have:=Ac.o.2.2.2.2;omega);obtain⟨y,u,s,i,d,Y,V,U,T,Q,A,M,_⟩:=yaB Ap;obtain⟨L,J,I,H,D,E,O,rf⟩:=R7.q;dsimp only at L J I H D E;have HD:Below w7 w7 w7.drew:=(znv _ _).drew;have A8:nx<=n:=by
   obtain⟨x1,x2,h1,h2,_,_⟩:=ycV r.fired (r.m.made.drop r.next) r.next;have h3:(r.m.made.drop r.next).length=x1.length+x2.length:=by rw[h1,znk]
   rw[List.length_drop]at h3;have h4:=Ah.o;have h5:=HS.o.2.2.2.1;omega
  have z:=zh4 R7 K7 Ap E7;have Bh:=zhd hnx;clear SK H7 hnx R7 K7 Ap E7;by_cases hin:nx<n
  .
   obtain⟨c,hc⟩:=yac (l:=r.m.made) (k:=nx) (by have:=Ah.o;omega);have A2:(r.m.made.map yaD)[nx]? =some (yaD c):=by rw[List.getElem?_map,hc];rfl
   rw[hc]at HR;dsimp only at HR;obtain⟨g,Bb,ck,cn,cs,ma,mn,mc,rfl,A6,hg,dv,y0,y1,y2,y3,y4,y5,y6,y7,y8⟩:=ykY z.o.2.2.2 A2;have Ai:c∈r.m.made:=zmg hc;have Al:=HS.o.1.rk.vs.mds c Ai;have hcl:=yfG Al.1 Al.2;have Ba:(nx:Int)<(n:Int):=by omega
   have A9:((nx:Int)==(n:Int))=false:=by rw[zna];omega
   obtain⟨qb,Ak⟩:∃qb,ydG c ⟨(r.seen:Int)+1,t,k,a,bb,nm,tx,x⟩=qb:=⟨_,rfl⟩;have CV:=(HX.o.2.2.2.1.keep z.o.2.1.keeps HS.o.2.1);have FI:=zhd (fun X (B:Below w7 w7 X)=>yl6 (yaD c) hcl.1 (by have:=ycZ (x:=(yaD c).v) ⟨yo5 hcl.1,hcl.2⟩;omega) ck cn cs ma mn mc (fun g=>w5<=g) X (dv.keep (S:=fun _=>False) (zkb B) (fun _ _ f=>f)) ((r.seen:Int)+1) t k a bb nm tx x vk vn vs la ln lc F (CV.keep (S:=fun _=>False) (zkb B) (fun _ _ f=>f)) qb (by rw[yjh];exact Ak));rw[Ak]at HR;replace HR:=zhd HR.symm;have A5:g<w7:=hg;obtain⟨c0,c1,c2,c3,c4,cv⟩:=c;dsimp only[yaD]at y0 y1 y2 y3 y4 FI;clear hc A2 Ai Al hcl Ak CV dv A6;go_upto_region 17 with(fail);go_region_law ((go_simp;go_at_call 102;refine(FI.o _ (by first|exact HD|exact znv _ _)).mono ?_;rintro e w8 ⟨rfl,Ab⟩;have Av:=zhd (HD.trans (Ab.mono HD.size));clear Ab))
   all_goals
    have R8:=z.o.1.ext Av.o;have K8:=z.o.2.1.trans (RPK.ext Av.o);have Ae:=(Av.o.block W M).trans z.o.2.2.1;clear y u s i d Y V U T Q A M L J I H D E O rf y0 y1 y2 y3 y4 y5 y6 y7 y8 hg A5 HD FI;cases qb with
    |false=>
     replace HR:=zhd (show q=(150,({r with seen:=r.seen+1,next:=nx}:RP))from by rw[HR.o];simp);have H8:=zh2 R8 K8;clear R8 K8 Ae;go_wp2;go_ret;exact⟨v,by rw[HR.o];rfl,zhd ⟨by rw[HR.o];exact H8.o.1,H8.o.2⟩⟩
    |true=>
     replace HR:=zhd (show q=(0,({r with seen:=r.seen+1,next:=nx+1,closed:=yaS k}:RP))from by rw[HR.o];simp);have Bg:wrap64 ((nx:Int)+1)=(nx:Int)+1:=by have:=Ah.o;have:=HS.o.2.2.2.2;unfold wrap64;omega
     obtain⟨y,u,s,i,d,Y,V,U,T,Q,A,M,_⟩:=yaB Ae;obtain⟨L,J,I,H,D,E,O,rf⟩:=R8.q;dsimp only at L J I H D E;have Ax:¬W.heap.size=rb:=fun e=>A0 (.inl e);have Bc:¬rb=W.heap.size:=fun e=>Ax e.symm;have P9:=R8.put 2 (.int .i64 ((nx:Int)+1)) {r with seen:=r.seen+1,next:=nx+1} rfl rfl (by simp);have Ao:=(znn w8 ⟨rb,2,none⟩ (.int .i64 ((nx:Int)+1)) _ Ax).trans Ae;obtain⟨w9,Aj⟩:∃w9,w9=w8.setCell ⟨rb,2,none⟩ (.int .i64 ((nx:Int)+1)):=⟨_,rfl⟩;rw[<-Aj]at P9 Ao;have H9:=zh3 P9.1 (K8.trans P9.2) Ao;clear R8 K8 Ae P9 Ao;go_upto_region 20 with(fail);rw[<-Aj];clear Aj y u s i d Y V U T Q A M L J I H D E O rf;obtain⟨y,u,s,i,d,Y,V,U,T,Q,A,M,_⟩:=yaB H9.o.2.2;obtain⟨L,J,I,H,D,E,O,rf⟩:=H9.o.1.q;dsimp only at L J I H D E;obtain⟨cb,An⟩:∃cb,decide (16<=(k:Int)/\k<=21)=cb:=⟨_,rfl⟩;have CS:=zhd (ybF ((r.seen:Int)+1) t k a bb nm tx vk vn vs la ln lc w9 cb An);have A7:=zhd An;clear An;go_wp2_with fail;refine CS.o.mono ?_;rintro e w8 ⟨rfl,Ab⟩;have R8:=H9.o.1.ext Ab;have K8:=H9.o.2.1.trans (RPK.ext Ab);clear y u s i d Y V U T Q A M L J I H D E O rf CS
     obtain⟨L,J,I,H,D,E,O,rf⟩:=R8.q;dsimp only at L J I H D E;have P8:=R8.put 4 (.bool cb) q.2 (by rw[HR.o]) (by rw[HR.o]) (by rw[HR.o,<-A7.o];rfl);have H8:=zh2 P8.1 (K8.trans P8.2);clear R8 K8 P8 Ab;go_wp2;go_ret;exact⟨_,by rw[HR.o];rfl,zhd H8.o⟩
  .
   obtain rfl:nx=n:=by omega
   have hc:r.m.made[nx]? =none:=List.getElem?_eq_none (by have:=Ah.o;omega);rw[hc]at HR;dsimp only at HR;replace HR:=zhd HR.symm;clear hc;go_upto_region 17 with(fail);go_region
   all_goals
    go_wp2;go_ret;exact⟨v,by rw[HR.o];rfl,zhd ⟨by rw[HR.o];exact z.o.1.ext HD,z.o.2.1.trans (RPK.ext HD)⟩⟩
theorem RPK.ro {rb b mb:Nat}{v v':MV}{W W':World}(K:RPK rb b mb v W v' W'){g:Nat}(h:RO rb b mb v' g):RO rb b mb v g\/W<=g:=h.elim (fun e=>.inl (.inl e)) (fun h=>h.elim (fun e=>.inl (.inr (.inl e))) (fun h=>(K.own g h).imp (fun h=>.inr (.inr h)) (fun h=>h)))
theorem ym1
  {Z:Nat->Prop}(rb b mb:Nat)(v:MV)(p:Img)(r:RP)(W:World)(R:RPX TR Z W rb b mb v p r){N:Nat}(G:Gl Tryz.prog N W)(t a bb:Int)(nm tx:ByteArray)(x:Val)(vk vn:Int)(vs:ByteArray)(la:Option Addr)(ln lc:Nat)(F:Nat->Prop)(C:CF F W ⟨vk,vn,vs,la,ln,lc⟩ x)(hw:x.wf)
  (fa:Fa)(K:Known p fa)(P:Pk p)(hsp:fa.span<=p.code.length+1)(S:St p fa r.m)(hev:r.m.events<=30)(hZ:∀j,W.heap.size<=j->Z j)(hF:∀g,F g->¬RO rb b mb v g)(hN:∀g,RO rb b mb v g->N<=g)
  (hsn:r.seen<=4000000)(hnx:r.next<=r.m.made.length)(id k:Int):
  Calls Tryz.prog 56 #[.pointer (some ⟨rb,0,none⟩),.agg #[.int .i64 (id),t,k,a,bb,nm,tx,vk,vn,vs,.slice la ln lc]] W
   (ycv Z rb b mb v p W (ybK p r ⟨id,t,k,a,bb,nm,tx,x⟩)):=by
 by_cases h0:yae ⟨id,t,k,a,bb,nm,tx,x⟩=0
 .by_cases hid:id=(r.seen:Int)+1
  .subst hid
   by_cases A:r.closed=true
   .exact yi9 rb b mb v p r W R G t a bb nm tx x vk vn vs la ln lc F C hw k h0 A hsn _ rfl
   .have A:r.closed=false:=by simpa using A
    by_cases hs:r.seen=0
    .by_cases hk:k=1
     .subst hk
      exact yj8 rb b mb v p r W R G t a bb nm tx x vk vn vs la ln lc F C hw fa K P hsp S hev hZ hF hN h0 A hsn hs _ rfl
     .exact yi8 rb b mb v p r W R G t a bb nm tx x vk vn vs la ln lc F C hw k h0 A hsn hs hk _ rfl
    .by_cases hk:k=1
     .subst hk
      exact yi7 rb b mb v p r W R G t a bb nm tx x vk vn vs la ln lc F C hw h0 A hsn hs _ rfl
     .by_cases B:yaI k=true
      .by_cases h12:k=12
       .subst h12
        exact yj9 rb b mb v p r W R G t a bb nm tx x vk vn vs la ln lc F C hw fa K P hsp S hev hZ hF hN h0 A hsn hs _ rfl
       .exact ymY rb b mb v p r W R G t a bb nm tx x vk vn vs la ln lc F C hw fa K P hsp S hev hZ hF hN k h0 A hsn hs hk h12 B _ rfl
      .have B:yaI k=false:=by simpa using B
       by_cases hm:yaX k=true
       .exact ylM rb b mb v p r W R G t a bb nm tx x vk vn vs la ln lc F C hw fa K P hsp S hev hZ hF hN k h0 A hsn hs hm hnx _ rfl
       .exact ylL rb b mb v p r W R G t a bb nm tx x vk vn vs la ln lc F C hw k h0 A hsn hs hk B (by simpa using hm) _ rfl
  .exact yka rb b mb v p r W R G t a bb nm tx x vk vn vs la ln lc F C hw id k h0 hid hsn _ rfl
 .exact ym0 rb b mb v p r W R G t a bb nm tx x vk vn vs la ln lc F C hw id k _ rfl (by simpa using h0) _ rfl
def yoS (Z:Nat->Prop)(rb b mb:Nat)(v:MV)(p:Img)(W:World)(r:RP)(e:Ending)(w':World):Prop:=∃v',e= .returned (.int .i64 r.err)/\Hid (RPX TR Z w' rb b mb v' p r/\RPK rb b mb v W v' w')
def ypO (Z:Nat->Prop)(rb b mb:Nat)(v:MV)(p:Img)(fa:Fa)(r:RP)(W:World)(l:List Ev)(gk:Nat)(v9:Value)(wr:World):Prop:=
 ∃(j:Nat) (v':MV) (r':RP),v9= .int .i64 j/\j<=l.length/\gk=l.length - j/\yan p r' (l.drop j)=yan p r l/\RPX TR Z wr rb b mb v' p r'/\RPK rb b mb v W v' wr/\St p fa r'.m/\r'.m.events+(ya8 (l.drop j)).length<=30/\r'.seen+(l.length - j)<=4000000/\r'.next<=r'.m.made.length
theorem yl8
  {Z:Nat->Prop}(rb b mb:Nat)(v:MV)(p:Img)(r:RP)(W:World)(R:RPX TR Z W rb b mb v p r){N:Nat}(G:Gl Tryz.prog N W)(F:Nat->Prop)(ea:Option Addr)(en ec:Nat)(l:List Ev)(E:XRd F W (.slice ea en ec) l)(hew:∀e∈l,e.v.wf)(fa:Fa)(K:Known p fa)(P:Pk p)(hsp:fa.span<=p.code.length+1)(S:St p fa r.m)(hev:r.m.events+(ya8 l).length<=30)(hsn:r.seen+l.length<=4000000)(hnx:r.next<=r.m.made.length)(hZ:∀j,W.heap.size<=j->Z j)(hF:∀g,F g->¬RO rb b mb v g)(hN:∀g,RO rb b mb v g->N<=g)(hFl:∀g,F g->g<W.heap.size):
  Calls Tryz.prog 18 #[.pointer (some ⟨rb,0,none⟩),.slice ea en ec] W (yoS Z rb b mb v p W (yan p r l)):=by
 have y:l.length=en:=by obtain⟨a,c,h⟩:=E.slice;cases h;rfl
 have H:=zh8 R E hew S hev hsn hnx y;have L:=zh8 K P hsp hZ hF hN hFl G;have u:N<=W.heap.size:=by have h1:=hN rb (.inl rfl);have h2:=zlt R.h;omega
 have Ad:=zhd u;clear R G E hew K P hsp S hev hsn hnx hZ hF hN hFl y u;go_in;go_wp2_with fail;go_loopg [9] en (fun gk v9 wr=>ypO Z rb b mb v p fa r W l gk v9 wr)
 case atStart=>exact⟨0,v,r,rfl,znq _,by rw[H.o.2.2.2.2.2.2.2];rfl,rfl,H.o.1,RPK.refl _ _ _ _ _,H.o.2.2.2.1,H.o.2.2.2.2.1,by have:=H.o.2.2.2.2.2.1;omega,H.o.2.2.2.2.2.2.1⟩
 case round=>
  obtain⟨j,v1,O,rfl,hj,Q,A,i,M,S1,J,I,C⟩:=hrel;rw[H.o.2.2.2.2.2.2.2]at hj Q I;obtain⟨c0,c1,c2,c3,c4,s,cl,cf⟩:=i.q;obtain⟨er,B⟩:∃er,O.err=er:=⟨_,rfl⟩;rw[B]at s;by_cases hjn:j<en
  .have Af:(j:Int)<(en:Int):=by omega
   obtain⟨e,n⟩:=yac (l:=l) (k:=j) (by rw[H.o.2.2.2.2.2.2.2];exact hjn);obtain⟨g,Ag,vk,vn,vs,la,ln,lc,rfl,U,hg,dv,y0,y1,y2,y3,y4,y5,y6,y7,y8,y9,y10⟩:=yc5 H.o.2.1 n;have d:¬RO rb b mb v g:=L.o.2.2.2.2.1 g U;rw[<-M.keeps.cell (p:=⟨g,_,none⟩) hg d]at y0 y1 y2 y3 y4 y5 y6 y7 y8 y9 y10;have Ab:g<wr:=znj hg M.keeps.size;have T:l.drop j=e::l.drop (j+1):=by
    rw[znr (zge n).1,(zge n).2]
   by_cases he0:er=0
   .subst he0
    have Ac:=zhd (show wrap64 ((j:Int)+1)=(j:Int)+1 by have h1:=H.o.2.2.2.2.2.1;have h2:=H.o.2.2.2.2.2.2.2;unfold wrap64;omega);rw[T,ybU B]at A;rw[T,show e::l.drop (j+1)=[e]++l.drop (j+1)from rfl,yaQ,znk]at J;have X:=H.o.2.2.1 e (zmg n);obtain⟨S2,x,V,t⟩:=ymv L.o.1 L.o.2.1 L.o.2.2.1 S1 X (by omega) C;have HM:=zhd (show en - (j+1)<gk by omega);have D:=zh6 i M S1 (show O.m.events<=29+1 by omega) (show O.seen<=4000000 by omega) C;have HO:=zh5 A S2 (show(ybK p O e).2.m.events+(ya8 (l.drop (j+1))).length<=30 by omega) (show(ybK p O e).2.seen+(en - (j+1))<=4000000 by omega) V;have HD:=zh4 dv X U B;clear A T n B J S1 S2 x V t C I i Q dv X U d;obtain⟨e0,e1,e2,e3,e4,e5,e6,ex⟩:=e;dsimp only at y0 y1 y2 y3 y4 y5 y6;go_upto_region 4 with(fail);refine yaa ?_;intro w2 Y;have z:=zha Y;have B2:=zba Y;have R2:=D.o.1.ext B2;have K2:=M.trans (RPK.ext B2);clear y0 y1 y2 y3 y4 y5 y6 y7 y8 y9 y10 c0 c1 c2 c3 c4 s cl cf Y Ab;obtain⟨x0,x1,x2,x3,x4,x5,x6,x7,x8,x9,x10,xl,_⟩:=yaB z;obtain⟨c0,c1,c2,c3,c4,s,cl,cf⟩:=R2.q;rw[HD.o.2.2.2]at s
    have f:∀g,RO rb b mb v1 g->RO rb b mb v g\/W.heap.size<=g:=fun g h=>M.ro h;have ON:=zhd (ym1 rb b mb v1 p O w2 R2 (L.o.2.2.2.2.2.2.2.keep K2.keeps L.o.2.2.2.2.2.1) e1 e3 e4 e5 e6 ex vk vn vs la ln lc F (HD.o.1.keep K2.keeps L.o.2.2.2.2.1) HD.o.2.1 fa L.o.1 L.o.2.1 L.o.2.2.1 D.o.2.2.1 D.o.2.2.2.1 (fun q hq=>L.o.2.2.2.1 q (by have:=K2.keeps.size;omega)) (fun q hq e=>(f q e).elim (L.o.2.2.2.2.1 q hq) (fun h=>by have:=L.o.2.2.2.2.2.2.1 q hq;omega)) (fun q hq=>(f q hq).elim (L.o.2.2.2.2.2.1 q) (fun h=>znf Ad.o h)) D.o.2.2.2.2.1 D.o.2.2.2.2.2 e0 e2);have Ae:=zhd K2;clear z B2 R2 K2 f M;go_wp2_with fail;refine ON.o.mono ?_;rintro e w3 ⟨v3,rfl,H3⟩;have P3:=H3.o.1.put 5 (.int .i64 (ybK p O ⟨e0,e1,e2,e3,e4,e5,e6,ex⟩).1) {(ybK p O ⟨e0,e1,e2,e3,e4,e5,e6,ex⟩).2 with err:=(ybK p O ⟨e0,e1,e2,e3,e4,e5,e6,ex⟩).1} rfl rfl rfl;have H4:=zh2 P3.1 ((Ae.o.trans H3.o.2).trans P3.2);clear x0 x1 x2 x3 x4 x5 x6 x7 x8 x9 x10 xl c0 c1 c2 c3 c4 s cl cf ON;obtain⟨c0,c1,c2,c3,c4,s,cl,cf⟩:=H3.o.1.q;clear P3;have Aa:=Ac.o;go_wp2_with fail;go_roundg (en - (j+1))
    case measure=>exact HM.o
    case rel=>exact⟨j+1,v3,_,by simp[Aa],by rw[H.o.2.2.2.2.2.2.2];omega,by rw[H.o.2.2.2.2.2.2.2],HO.o.1,H4.o.1,H4.o.2,HO.o.2.1,HO.o.2.2.1,by rw[H.o.2.2.2.2.2.2.2];exact HO.o.2.2.2.1,HO.o.2.2.2.2⟩
   .have n1:(er==0)=false:=by rw[zna];exact he0
    have n2:(er !=0)=true:=by unfold bne;rw[n1];rfl
    rw[ybV (by rw[B];exact he0)]at A;have D:=zh4 i M A B;have M:=M.keeps.size;clear A T n B J S1 C I i Q dv U d he0;obtain⟨e0,e1,e2,e3,e4,e5,e6,ex⟩:=e;dsimp only at y0 y1 y2 y3 y4 y5 y6;go_wp2;go_ret;exact⟨v1,by rw[<-D.o.2.2.1,D.o.2.2.2];rfl,zhd ⟨by rw[<-D.o.2.2.1];exact D.o.1.ext (zal),D.o.2.1.trans (RPK.ext (zal))⟩⟩
  .obtain rfl:j=en:=by omega
   have Ah:¬(j:Int)<j:=by omega
   rw[zns (by rw[H.o.2.2.2.2.2.2.2];exact znc _)]at A;have D:=zh4 i M (show O=yan p r l from A) B;clear A B J S1 C I i Q M;go_wp2;go_ret;exact⟨v1,by rw[<-D.o.2.2.1,D.o.2.2.2];rfl,zhd ⟨by rw[<-D.o.2.2.1];exact D.o.1,D.o.2.1⟩⟩
end Go.Proofs.YtpagmlndgblhhaaGreatDoor
namespace Go.Va
open Go.Own Go.RowKit
open Go.Own.Cells (sz enc)
theorem yhQ {α:Type}[Cells α]{P:Program}{t e:TypeId}{bytes:Nat}(E:ElemOf α P t e bytes){F:Nat->Prop}{W:World}{ops:Array Oper}{rest:List Oper}{o:Oper}{a:Act}{Q:Exit->Act->World->Prop}
  (hg:o.guard=none)(s x:Operand)(hop:o.op=Op.call {callee:=Callee.builtin Builtin.append,args:=#[s,x],argTypes:=#[t,t]})
  {v u:Value}(hs:a.eval s=v)(hx:a.eval x=u){xs ys:List α}(h:RowAt W e v xs)(hu:RdF F W u ys)
  (hl:(xs.length+ys.length)*bytes<=140737488355328)(h63:xs.length+ys.length<=maxLen)
  (hK:∀a1 q1 w1,RowAt w1 e (.slice a1 (xs.length+ys.length) q1) (xs++ys)->Keeps (fun j=>v.ownBlock=some j) W w1->(∀g,(Value.slice a1 (xs.length+ys.length) q1).ownBlock=some g->v.ownBlock=some g\/W.heap.size<=g)->wpList P ops Q rest (a.put o.dst (.slice a1 (xs.length+ys.length) q1)) w1):
  wpList P ops Q (o::rest) a W:=
 wpList_plain hg fun _ hk=>by
  obtain⟨a1,q1,w1,D,A,B,C⟩:=yfR E h hu hl h63 o.type;unfold Oper.wp execOp;simp only[hop,resolve,invoke,builtin,Sem.run_bind,Sem.run_pure,Result.andThen_ok,List.map_toArray,List.map_cons,List.map_nil,hs,hx,D];exact hk _ _ (hK a1 q1 w1 A B C)
def yaf (p:Img):Img:={p with consts:=p.consts.map yab}
end Go.Va
namespace Go.Proofs.YtpagmlndgblhhaaGreatDoor
open Go.RowKit Go.Own Go.Own.MapTy Go.Va Go.Sort
open Go.Own.Cells (sz enc)
theorem ymr (w:World)(p:Addr)(v:Value):(w.setCell p v).heap.size=w.heap.size:=by simp[World.setCell]
def ynJ (W:World)(p:Img)(e:Ending)(w':World):Prop:=∃i:IC,e= .returned (.agg #[.slice i.ca i.cn i.cc,.slice i.ka i.kn i.kc,.slice i.na i.nn i.nc,i.pl])/\Hid (IAt (fun g=>W<=g) w' i (yaf p)/\Below W W w')
structure IcL (w wr:World)(N:Nat)(i:IC)(cv v:Value)(code:List In)(l:List Val):Prop where
 b3:wr.heap[w.heap.size+2]? =some (.cells #[cv,v,.slice none 0 0,i.pl] 28 (0,0))
 b2:wr.heap[w.heap.size+1]? =some (.cells #[.slice none 0 0,.slice none 0 0,.slice none 0 0,.int .i64 0] 28 (0,0))
 b1:wr.heap[w.heap.size]? =some (.cells #[.slice i.ca i.cn i.cc,.slice i.ka i.kn i.kc,.slice i.na i.nn i.nc,i.pl] 28 (0,0))
 code:RowAt wr 106 cv code
 cown:∀g,cv.ownBlock=some g->w.heap.size+2<g/\g<N
 row:XRow (fun g=>N<=g/\¬v.ownBlock=some g) wr 38 v (l.map yab)
 own:∀g,v.ownBlock=some g->N<=g
 low:w.heap.size+3<=N/\N<=wr.heap.size
 below:Below w w wr
theorem IcL.next {w wr W w8 w9:World}{N:Nat}{i:IC}{cv v v1:Value}{code:List In}{l:List Val}{ks:List VC}{c8:VC}{y:Val}{o:Obj}(h:IcL w wr N i cv v code l)(hP:Ptw (fun g=>N<=g/\¬v.ownBlock=some g) wr ks (l.map yab))
  (K0:Below wr wr W)(hc:CF (fun g=>W<=g) w8 c8 (yab y))(K8:Below W W w8)
  (hr1:RowAt w9 38 v1 (ks++[c8]))(hk1:Keeps (fun j=>v.ownBlock=some j) (w8.alloc o) w9)(hf1:∀g,v1.ownBlock=some g->v.ownBlock=some g\/(w8.alloc o).heap.size<=g):IcL w (w9.setCell ⟨w.heap.size+2,1,none⟩ v1) N i cv v1 code (l++[y]):=by
 have E:=K0.size;have L:=K8.size;have H:=h.low;have M:(w8.alloc o).heap.size=w8.heap.size+1:=by simp
 have own:∀g,v1.ownBlock=some g->N<=g:=fun g A=>by
  rcases hf1 g A with e|e
  .exact h.own g e
  .omega
 have D:Keeps (fun _=>False) wr (w8.alloc o):=(zkb ((K0.trans (K8.mono E)))).alloc _;have B:Keeps (fun j=>v.ownBlock=some j) wr w9:=(D.mono (fun _ _ f=>f.elim)).trans hk1 (fun j _ e=>e);have KS:Keeps (fun j=>j=w+2) w9 (w9.setCell ⟨w.heap.size+2,1,none⟩ v1):=Keeps.setCell (S:=fun j=>j=w+2) (p:=⟨w.heap.size+2,1,none⟩) (Keeps.refl _ _) (.inl rfl) _;have C:∀k,k<N->¬v.ownBlock=some k:=fun k hk e=>by have:=h.own k e;omega
 have b3:=(B.block _ (zlt h.b3) (C _ (by omega))).trans h.b3;have b2:=(B.block _ (zlt h.b2) (C _ (by omega))).trans h.b2;have b1:=(B.block _ (zlt h.b1) (C _ (by omega))).trans h.b1;have F:=B.size;refine⟨by simp[World.setCell,zni,b3],(znn _ _ _ _ (by simp)).trans b2,(znn _ _ _ _ (by simp)).trans b1,(h.code.keep B (fun g A=>C g (h.cown g A).2)).keep KS (fun g A e=>by have:=(h.cown g A).1;have e:g=w+2:=e;omega),h.cown,?_,own,⟨H.1,by rw[ymr];omega⟩,?_⟩
 .have J:Ptw (fun g=>(N<=g/\¬v.ownBlock=some g)/\g<w8) (w8.alloc o) ks (l.map yab):=(hP.mono (G:=fun g=>(N<=g/\¬v.ownBlock=some g)/\g<w8) (fun g A hl=>⟨A,by omega⟩)).keep D (fun _ _ f=>f)
  have K:CF (fun g=>(N<=g/\¬v.ownBlock=some g)/\g<w8) (w8.alloc o) c8 (yab y):=(hc.mono (G:=fun g=>(N<=g/\¬v.ownBlock=some g)/\g<w8) (fun g A hl=>⟨⟨by have A:W<=g:=A;omega,fun e=>by have A:W<=g:=A;have:=h.row.lt e;omega⟩,hl⟩)).keep (S:=fun _=>False) ((Keeps.refl _ _).alloc _) (fun _ _ f=>f);have I:=((J.app (Ptw.one K)).keep hk1 (fun g A e=>A.1.2 e)).mono (G:=fun g=>N<=g/\¬v1.ownBlock=some g) (fun g A _=>⟨A.1.1,fun e=>(hf1 g e).elim A.1.2 (fun q=>by have:=A.2;omega)⟩);rw[List.map_append];exact(XRow.of hr1 I).keep KS (fun g A e=>by have e:g=w+2:=e;have:=A.1;omega) (fun g A e=>by have e:g=w+2:=e;have:=own g A;omega)
 .exact(h.below.trans (B.below h.below.size (fun j hj e=>by have:=h.own j e;omega))).setCell (p:=⟨w.heap.size+2,1,none⟩) (by show w<=w.heap.size+2;omega) _
theorem yga (F:Nat->Prop)(W:World)(i:IC)(p:Img)(H:IAt F W i p)(hz:∀x∈p.consts,szV x<=1073741824)(hlen:p.code.length<=4096/\p.consts.length<=4096/\p.names.length<=4096):
  Calls Tryz.prog 52 #[.agg #[.slice i.ca i.cn i.cc,.slice i.ka i.kn i.kc,.slice i.na i.nn i.nc,i.pl]] W (ynJ W p):=by
 obtain⟨h1,h2,h3⟩:=H.lens;obtain⟨ca,cn,cc,ka,kn,kc,na,nn,nc,pl⟩:=i;dsimp only at h1 h2 h3|-;have c:=zh6 H hz hlen h1 h2 h3;have HE:=zhd H.consts.elems.2.2;have M:kn<=4096:=by omega
 clear H hz hlen h1 h2 h3;go_in;go_upto_region 2 with(fail);refine yaa ?_;intro w1 G;have B1:Below W W w1:=by rw[G];exact((zal).alloc (by simp) _).alloc (by simp;omega) _
 have q:w1.heap[W.heap.size+2]? =some (.cells #[.slice none 0 0,.slice none 0 0,.slice none 0 0,pl] 28 (0,0)):=by rw[G];exact ygz (by simp)
 have x2:w1.heap[W.heap.size+1]? =some (.cells #[.slice none 0 0,.slice none 0 0,.slice none 0 0,.int .i64 0] 28 (0,0)):=by rw[G];exact(zne _ _ _ (by simp)).trans (ygz (by simp))
 have x1:w1.heap[W.heap.size]? =some (.cells #[.slice ca cn cc,.slice ka kn kc,.slice na nn nc,pl] 28 (0,0)):=by rw[G];exact(zne _ _ _ (by simp;omega)).trans ((zne _ _ _ (by simp)).trans (ygz rfl))
 have An:w1.heap.size=W.heap.size+3:=by rw[G];simp
 have A1:=zca q 0 rfl;have f3:∀o,w1.frozen? ⟨W.heap.size+2,o,none⟩=false:=fun o=>zfr q o;have A2:=zca x1 0 rfl;have l3:W.heap.size+2<w1.heap.size:=zlt q;have l1:W<w1.heap.size:=zlt x1;have HC:=zhd (c.o.1.code.keep (S:=fun _=>False) (zkb B1) (fun _ _ f=>f));have H1:=zh5 B1 x1 x2 q An;have Av:=zhd (show(([]:List In).length+p.code.length)*16<=140737488355328/\([]:List In).length+p.code.length<=maxLen from by have:=c.o.2.2.1.1;unfold maxLen;simp;omega);clear G B1 x1 x2 q An;go_upto_region 2 with(fail)
 go_wp2_with (at_builtin;refine yhQ (α:=In) ynt rfl (.tmp 10) (.tmp 12) rfl rfl rfl (RowAt.nil _ _) HC.o Av.o.1 Av.o.2 ?_;intro a R Q Aa V Ae;simp only[List.length_nil,Nat.zero_add,List.nil_append]at Aa Ae|-;have C:=(V.block (W.heap.size+2) l3 (fun e=>by cases e)).trans H1.o.2.2.2.1;have Y:=(V.block W l1 (fun e=>by cases e)).trans H1.o.2.1;have A0:Q.cell? ⟨W.heap.size+2,0,none⟩=some (.slice none 0 0):=(by rw[zch C];rfl);have d3:∀o,Q.frozen? ⟨W.heap.size+2,o,none⟩=false:=(fun o=>zfr C o);have m3:=zlt C;have Az:Q.cell? ⟨W,1,none⟩=some (.slice ka kn kc):=(by rw[zch Y];rfl);have m1:=zlt Y;have m:=zh5 Aa V Ae C Y;clear Aa V Ae C Y);go_upto_region 3 with(fail);refine yaa ?_;intro w3 J;have KS:Keeps (fun j=>j=W+2) Q w3:=by rw[J];exact Keeps.setCell (S:=fun j=>j=W+2) (p:=⟨W.heap.size+2,0,none⟩) (Keeps.refl _ _) (.inl rfl) _
 have Ay:w1<=Q.heap.size:=m.o.2.1.size;have Ax:w3.heap.size=Q.heap.size:=by rw[J,ymr]
 have G:=H1.o.2.2.2.2;have Af:∀g,(Value.slice a p.code.length R).ownBlock=some g->w1.heap.size<=g:=fun g A=>(m.o.2.2.1 g A).resolve_left (fun e=>by cases e);have Ag:RowAt Q 106 (.slice a p.code.length R) p.code:=m.o.1;have b:IcL W w3 Q.heap.size ⟨ca,cn,cc,ka,kn,kc,na,nn,nc,pl⟩ (.slice a p.code.length R) (.slice none 0 0) p.code []:=by
  refine⟨by rw[J];have:=m.o.2.2.2.1;simp[World.setCell,zni,this],?_,?_,Ag.keep KS (fun g A e=>by have:=Af g A;have e:g=W+2:=e;omega),fun g A=>⟨by have:=Af g A;omega,Ag.lt A⟩,XRow.nil _ _ _,(fun g h=>by cases h),⟨by omega,by omega⟩,?_⟩
  .rw[J,znn _ _ _ _ (by simp),m.o.2.1.block (W.heap.size+1) (by omega) (fun e=>by cases e)]
   exact H1.o.2.2.1
  .rw[J,znn _ _ _ _ (fun e=>by have e:W.heap.size=W.heap.size+2:=e;omega)]
   exact m.o.2.2.2.2
  .exact(H1.o.1.trans ((m.o.2.1.below (znc _) (fun j hj e=>by cases e)).mono H1.o.1.size)).trans (KS.below (by have:=H1.o.1.size;omega) (fun j hj e=>by have e:j=W+2:=e;omega))
 have Az:=zca b.b1 1 rfl;have m1:=zlt b.b1;have At:=zhd b;obtain⟨L,N⟩:∃n,p.code.length=n:=⟨_,rfl⟩;have Bb:=zhd N;rw[N]at At|-;clear N;clear J KS Ay Ax G Af Ag b m A0 d3 m3 A1 f3 A2 l3 l1 HC;go_wp2_with fail;go_loopg [18] kn (fun gk v18 wr=>∃j:Nat,v18= .int .i64 j/\j<=kn/\gk=kn - j/\Hid (∃v,IcL W wr Q.heap.size ⟨ca,cn,cc,ka,kn,kc,na,nn,nc,pl⟩ (.slice a L R) v p.code (p.consts.take j)))
 case atStart=>exact⟨0,rfl,znq _,rfl,zhd ⟨_,At.o⟩⟩
 case round=>
  obtain⟨j,rfl,hj,Ac,D⟩:=hrel;obtain⟨v,D⟩:=D.o;obtain⟨r,P,K⟩:=D.row.cells;obtain⟨Z,c3,rfl⟩:=P.slice;have M:r.length=j:=by
   rw[K.1,zmd,List.length_take];have:=c.o.2.2.2.2.1;omega
  rw[M]at P D K;obtain⟨z0,z1,z2,z3,_⟩:=zq4 D.b3;have zf:∀o,wr.frozen? ⟨W.heap.size+2,o,none⟩=false:=fun o=>zfr D.b3 o;have zl:W.heap.size+2<wr.heap.size:=zlt D.b3;have y0:=zca D.b1 2 rfl;have yl:W<wr.heap.size:=zlt D.b1;obtain⟨x0,x1,x2,q,_⟩:=zq4 D.b2;have xf:∀o,wr.frozen? ⟨W.heap.size+1,o,none⟩=false:=fun o=>zfr D.b2 o;have xl:W.heap.size+1<wr.heap.size:=zlt D.b2;by_cases hjn:j<kn
  .obtain⟨y,hy⟩:=yac (l:=p.consts) (k:=j) (by have:=c.o.2.2.2.2.1;omega)
   obtain⟨g,A6,ha,Ba,A,Ar⟩:=HE.o.resolve_left (fun e=>by rw[e]at hy;simp at hy);obtain⟨c',hC,q0,q1,Ai,q3⟩:=Ar j y hy;rw[<-D.below.cell (p:=⟨g,_,none⟩) A]at q0 q1 Ai q3;have A9:g<wr:=znj A D.below.size;have Ah:=zhd (show(r.length+[(⟨0,0,⟨#[]⟩,none,0,0⟩:VC)].length)*56<=140737488355328/\r.length+[(⟨0,0,⟨#[]⟩,none,0,0⟩:VC)].length<=maxLen/\r.length+[(⟨0,0,⟨#[]⟩,none,0,0⟩:VC)].length=j+1 from by
    have e:r.length+[(⟨0,0,⟨#[]⟩,none,0,0⟩:VC)].length=j+1:=by rw[M];rfl
    rw[e];exact⟨by omega,by unfold maxLen;omega,rfl⟩)
   have A5:(j:Int)<kn:=by omega
   have A7:wrap64 ((j:Int)+1)=(j:Int)+1:=by unfold wrap64;omega
   have A4:=zhd (fun W' (B:Below wr wr W')=>yax y c'.kind c'.n c'.s c'.la c'.ln c'.lc F W' ((hC.keep (S:=fun _=>False) (zkb D.below) (fun _ _ f=>f)).keep (S:=fun _=>False) (zkb B) (fun _ _ f=>f)) (c.o.2.1 y (zmg hy)));have Am:p.consts.take (j+1)=p.consts.take j++[y]:=by rw[List.take_add_one,hy];rfl
   have NB:=zhd (show∀g,(Value.slice Z j c3).ownBlock=some g->g≠W.heap.size+2 from fun g A e=>by have:=D.own g A;have:=D.low;omega);have E:=zh6 D P K Am Ac M;subst ha;clear Ar hC hy Am D P K Ac M hj;go_upto_region 6 with(fail);refine yaa ?_;intro w5 t;have B5:=zba t;have As:=zha t;obtain⟨r0,r1,r2,r3,rl⟩:=zq4 As;have T:=(B5.block _ zl).trans E.o.1.b3;have s1:=zca T 1 rfl;have sl:=zlt T;have CL:=zhd (A4.o w5.drew B5.drew);have d:=zh3 B5 T (E.o.2.1.below B5);clear t B5 As T q0 q1 Ai q3 z0 z1 z2 z3 zf zl y0 yl x0 x1 x2 q xf xl;go_region_law (first
    |(go_simp;go_at_call 58;refine CL.o.mono ?_;rintro e w8 ⟨⟨k8,n8,s8,Al,Aj,Ak⟩,rfl,H8⟩;have O:=(H8.o.2.block (W.heap.size+2) sl).trans d.o.2.1;have y3:w8.cell? ⟨W.heap.size+2,1,none⟩=some (.slice Z j c3):=(by rw[zch O];rfl);have fy:∀o,w8.frozen? ⟨W.heap.size+2,o,none⟩=false:=(fun o=>zfr O o);have ly:W.heap.size+2<w8.heap.size:=(zlt O);have HG:=zh2 O (d.o.2.2.drew.below H8.o.2);clear O)
    |(refine yay (α:=VC) (o:=⟨some 27,_,_,_,_,_⟩) yfD (by rfl) (.tmp 23) (.tmp 26) (by rfl) (v:=.slice Z j c3) (u:=.slice (some ⟨w8,0,none⟩) 1 1) (by rfl) (by rfl) (xs:=r) (ys:=[⟨k8,n8,s8,Al,Aj,Ak⟩]) (HG.o.2.alloc _) (RowAt.lit (α:=VC) (y:=⟨k8,n8,s8,Al,Aj,Ak⟩) (znb _ _)) Ah.o.1 Ah.o.2.1 (j+1) Ah.o.2.2 ?_;intro a1 cp w9 Ao Ab Aq;have X:=(Ab.block (W.heap.size+2) (by simp;omega) (fun e=>NB.o _ e rfl)).trans ((zne _ _ _ ly).trans HG.o.1);have t3:w9.cell? ⟨W.heap.size+2,1,none⟩=some (.slice Z j c3):=(by rw[zch X];rfl);have fz:∀o,w9.frozen? ⟨W.heap.size+2,o,none⟩=false:=(fun o=>zfr X o);have lz:W.heap.size+2<w9.heap.size:=zlt X;have FF:=zh3 Ao Ab Aq;clear Ao Ab Aq X))
   all_goals
    go_wp2_with fail;go_roundg (kn - (j+1))
    case measure=>have:=E.o.2.2.2.2.1;omega
    case rel=>exact⟨j+1,by simp,hjn,rfl,zhd ⟨_,by rw[E.o.2.2.2.1];exact E.o.1.next E.o.2.2.1 d.o.1.drew H8.o.1 H8.o.2 FF.o.1 FF.o.2.1 FF.o.2.2⟩⟩
  .obtain rfl:j=kn:=by omega
   have A8:¬(j:Int)<j:=by omega
   have hT:p.consts.take j=p.consts:=zmj (by have:=c.o.2.2.2.2.1;omega);rw[hT]at D K;have A3:=zhd (c.o.1.names.keep (S:=fun _=>False) (zkb D.below) (fun _ _ f=>f));have Au:=zhd (show(([]:List ByteArray).length+p.names.length)*16<=140737488355328/\([]:List ByteArray).length+p.names.length<=maxLen from by have:=c.o.2.2.1.2.2;unfold maxLen;simp;omega);have E:=zhd D;clear hT D P K Ac hj
   go_wp2_with (at_builtin;go_must (refine yhQ (α:=ByteArray) ypq rfl (.tmp 31) (.tmp 33) rfl rfl rfl (RowAt.nil _ _) A3.o Au.o.1 Au.o.2 ?_);intro a5 q5 w5 z U Ad;simp only[List.length_nil,Nat.zero_add,List.nil_append]at z Ad|-;have C:=(U.block (W.heap.size+2) zl (fun e=>by cases e)).trans E.o.b3;have I:=(U.block (W.heap.size+1) xl (fun e=>by cases e)).trans E.o.b2;have t0:w5.cell? ⟨W.heap.size+2,0,none⟩=some (.slice a L R):=(by rw[zch C];rfl);have t1:w5.cell? ⟨W.heap.size+2,1,none⟩=some (.slice Z j c3):=(by rw[zch C];rfl);have t2:w5.cell? ⟨W.heap.size+2,2,none⟩=some (.slice none 0 0):=(by rw[zch C];rfl);have t3:w5.cell? ⟨W.heap.size+2,3,none⟩=some (.int .i64 pl):=(by rw[zch C];rfl);have tf:∀o,w5.frozen? ⟨W.heap.size+2,o,none⟩=false:=(fun o=>zfr C o);have tl:=zlt C;have u0:w5.cell? ⟨W.heap.size+1,0,none⟩=some (.slice none 0 0):=(by rw[zch I];rfl);have u1:w5.cell? ⟨W.heap.size+1,1,none⟩=some (.slice none 0 0):=(by rw[zch I];rfl);have u2:w5.cell? ⟨W.heap.size+1,2,none⟩=some (.slice none 0 0):=(by rw[zch I];rfl);have u3:w5.cell? ⟨W.heap.size+1,3,none⟩=some (.int .i64 0):=(by rw[zch I];rfl);have uf:∀o,w5.frozen? ⟨W.heap.size+1,o,none⟩=false:=(fun o=>zfr I o);have ul:=zlt I;have d:=zh3 z U Ad;clear z U Ad C I)
   refine zng (v:=.agg #[.slice a L R,.slice Z j c3,.slice a5 p.names.length q5,pl]) (by simp only[results,Tryz.results52];go_simp) rfl ⟨⟨a,L,R,Z,j,c3,a5,p.names.length,q5,pl⟩,rfl,zhd ⟨?_,?_⟩⟩
   .have K5:Keeps (fun _=>False) wr w5:=d.o.2.1.mono (fun _ _ e=>by cases e)
    have KZ:=(((((Keeps.refl (fun j=>j=W+2\/j=W+1) w5).setCell (p:=⟨W.heap.size+1+1,2,none⟩) (.inl (.inl rfl)) (.slice a5 p.names.length q5)).setCell (p:=⟨W.heap.size+1,0,none⟩) (.inl (.inr rfl)) (.slice a L R)).setCell (p:=⟨W.heap.size+1,1,none⟩) (.inl (.inr rfl)) (.slice Z j c3)).setCell (p:=⟨W.heap.size+1,2,none⟩) (.inl (.inr rfl)) (.slice a5 p.names.length q5)).setCell (p:=⟨W.heap.size+1,3,none⟩) (.inl (.inr rfl)) (.int .i64 pl);obtain⟨r,hR,hP⟩:=E.o.row.cells;have Ap:=E.o.low;refine⟨RdF.of_row ((E.o.code.keep K5 (fun _ _ f=>f)).keep KZ (fun g A e=> ?_)) (fun g A=> ?_),VF.of (RdF.of_row ((hR.keep K5 (fun _ _ f=>f)).keep KZ (fun g A e=> ?_)) (fun g A=> ?_)) (((hP.keep K5 (fun _ _ f=>f)).keep KZ (fun g A e=> ?_)).mono (fun g A _=> ?_)),RdF.of_row (d.o.1.keep KZ (fun g A e=> ?_)) (fun g A=> ?_),c.o.1.pl⟩
    .have:=(E.o.cown g A).1;omega
    .show W<=g;have:=(E.o.cown g A).1;omega
    .have:=E.o.own g A;omega
    .show W<=g;have:=E.o.own g A;omega
    .have:=A.1;omega
    .have:=A.1;omega
    .rcases d.o.2.2 g A with h|h
     .cases h
     .omega
    .rcases d.o.2.2 g A with h|h
     .cases h
     .show W<=g;omega
   .have KZ:=(((((Keeps.refl (fun j=>j=W+2\/j=W+1) w5).setCell (p:=⟨W.heap.size+1+1,2,none⟩) (.inl (.inl rfl)) (.slice a5 p.names.length q5)).setCell (p:=⟨W.heap.size+1,0,none⟩) (.inl (.inr rfl)) (.slice a L R)).setCell (p:=⟨W.heap.size+1,1,none⟩) (.inl (.inr rfl)) (.slice Z j c3)).setCell (p:=⟨W.heap.size+1,2,none⟩) (.inl (.inr rfl)) (.slice a5 p.names.length q5)).setCell (p:=⟨W.heap.size+1,3,none⟩) (.inl (.inr rfl)) (.int .i64 pl)
    have Ap:=E.o.low;have hb:=E.o.below.size;have K5:Keeps (fun _=>False) wr w5:=d.o.2.1.mono (fun _ _ e=>by cases e);exact(E.o.below.trans ((K5.below (znc _) (fun _ _ f=>f)).mono hb)).trans (KZ.below (by have:=K5.size;omega) (fun jz hj e=>by omega))
end Go.Proofs.YtpagmlndgblhhaaGreatDoor
namespace Go.Va
open Go.Own Go.RowKit
open Go.Proofs.YtpagmlndgblhhaaGreatDoor
theorem ygq:∀l:List Val,yaL (l.map yab)=yaL l
 |[]=>rfl
 |x::r=>by rw[List.map_cons,yaL,yaL,yaN,ygq r]
theorem yc8 (p:Img):∀l:List In,ybx (yaf p) l=ybx p l
 |[]=>rfl
 |c::r=>by
  have hm:∀k,mostL (yaf p) k=mostL p k:=fun k=>by unfold mostL yaf;rw[zmd]
  rw[ybx,ybx,hm,yc8 p r]
theorem yjf (p:Img):imgL (yaf p)=imgL p:=by
 unfold imgL;rw[yc8];unfold yaf;simp only[zmd,ygq]
theorem ygs (p:Img):yaY (yaf p)=yaY p:=by
 unfold yaY;rw[yjf];rfl
end Go.Va
namespace Go.Proofs.YtpagmlndgblhhaaGreatDoor
open Go.RowKit Go.Own Go.Own.MapTy Go.Va Go.Sort
open Go.Own.Cells (sz enc)
theorem ykm {n:Nat}(h:n<=16):(madeCells #[.int .i64 0,.int .i64 0,.string .empty,.slice none 0 0] (n*4)).toList=(List.replicate n (⟨0,0,.empty,none,0,0⟩:VC)).flatMap enc:=by
 have e:∀k,(madeCells #[.int .i64 0,.int .i64 0,.string .empty,.slice none 0 0] k).toList=(List.range k).map (fun j=>(#[.int .i64 0,.int .i64 0,.string .empty,.slice none 0 0]:Array Value)[j%4]!):=fun k=>by simp[madeCells]
 rw[e];have A:n=0\/n=1\/n=2\/n=3\/n=4\/n=5\/n=6\/n=7\/n=8\/n=9\/n=10\/n=11\/n=12\/n=13\/n=14\/n=15\/n=16:=by omega
 rcases A with rfl|rfl|rfl|rfl|rfl|rfl|rfl|rfl|rfl|rfl|rfl|rfl|rfl|rfl|rfl|rfl|rfl<;>rfl
theorem yni:(Tryz.prog.info? 38).map (fun i=>(i.zero,i.size,i.bytes))=some (some (.agg #[.int .i64 0,.int .i64 0,.string .empty,.slice none 0 0]),4,56):=by kernel_rfl
def yoN (W:World)(p:Img)(b:Nat)(v:MV)(w':World):Prop:=MX TT (fun j=>W<=j) w' b v (yaf p) (ms0 (yaf p))/\(∀j,MO v b j->W.heap.size<=j)/\Below W W w'
def ynG (W:World)(p:Img)(er:Int)(e:Ending)(w':World):Prop:=
 (er≠0/\e= .returned (.tuple #[.pointer none,er])/\Hid (Below W W w'))\/(er=0/\∃(b:Nat) (v:MV),e= .returned (.tuple #[.pointer (some ⟨b,0,none⟩),.int .i64 0])/\Hid (yoN W p b v w'))
theorem ym8 {W w2 w3 w4:World}{p:Img}{i3:IC}{n:Nat}(hW:W<=w2.heap.size)(B23:Below w2 w2 w3)(BW:Below W W w3)(H3:IAt (fun g=>w2<=g) w3 i3 (yaf p))(B4:Below w3 w3 w4)
  (hm4:w4.heap[w3.heap.size]? =some (.cells (ybT ⟨.slice none 0 0,i3,.slice none 0 0,⟨0,0,⟨#[]⟩,none,0,0⟩,.slice none 0 0,.slice none 0 0,.slice none 0 0,.slice none 0 0⟩ (ms0 (yaf p))).toArray 123 (0,0)))(hs4:w4.heap.size=w3.heap.size+1)(hn:p.places=n)(hn16:n<=16):
  yoN W p w3.heap.size ⟨.slice none 0 0,i3,.slice (some ⟨w4,0,none⟩) n n,⟨0,0,⟨#[]⟩,none,0,0⟩,.slice none 0 0,.slice none 0 0,.slice none 0 0,.slice none 0 0⟩
   ((w4.setCell ⟨w3,5,none⟩ (.slice (some ⟨w4,0,none⟩) n n)).alloc (.cells (madeCells #[.int .i64 0,.int .i64 0,.string .empty,.slice none 0 0] (n*4)) 38)):=by
 obtain⟨w5,C⟩:∃w5,w5=w4.setCell ⟨w3,5,none⟩ (.slice (some ⟨w4,0,none⟩) n n):=⟨_,rfl⟩;have J:w5.heap.size=w4.heap.size:=by rw[C];simp[World.setCell]
 have P:w5.heap[w3.heap.size]? =some (.cells (ybT ⟨.slice none 0 0,i3,.slice (some ⟨w4,0,none⟩) n n,⟨0,0,⟨#[]⟩,none,0,0⟩,.slice none 0 0,.slice none 0 0,.slice none 0 0,.slice none 0 0⟩ (ms0 (yaf p))).toArray 123 (0,0)):=by
  rw[C];simp only[World.setCell,zni,hm4];rfl
 have N:Below w3 w3 w5:=by rw[C];exact B4.trans ⟨rfl,rfl,rfl,by simp[World.setCell],fun k hk=>znn _ _ _ _ (Nat.ne_of_lt hk)⟩
 rw[<-C];obtain⟨w6,D⟩:∃w6,w6=w5.alloc (.cells (madeCells #[.int .i64 0,.int .i64 0,.string .empty,.slice none 0 0] (n*4)) 38):=⟨_,rfl⟩;have O:w6.heap[w4.heap.size]? =some (.cells (madeCells #[.int .i64 0,.int .i64 0,.string .empty,.slice none 0 0] (n*4)) 38 (0,0)):=by rw[D,<-J];exact znb _ _
 have F:=zba D;rw[<-D];have L:=(F.block w3 (by omega)).trans P;have H:Below w3 w3 w6:=N.trans (F.mono (by omega));have E:∀j,MO ⟨.slice none 0 0,i3,.slice (some ⟨w4,0,none⟩) n n,⟨0,0,⟨#[]⟩,none,0,0⟩,.slice none 0 0,.slice none 0 0,.slice none 0 0,.slice none 0 0⟩ w3.heap.size j->j=w3.heap.size\/j=w4:=by
  rintro j ⟨i,A⟩
  match i,A with
  |0,A=>cases A;exact .inl rfl
  |1,A=>cases A
  |2,A=>cases A;exact .inr rfl
  |3,A=>cases A
  |4,A=>cases A
  |5,A=>cases A
  |6,A=>cases A
  |n+7,A=>cases A
 have R:=B23.size;refine⟨⟨L,XRow.nil _ _ _,?_,XRow.nil _ _ _,XRow.nil _ _ _,XRow.nil _ _ _,XRow.nil _ _ _,?_,yaH _ _,?_⟩,fun j B=> ?_,?_⟩
 .refine XRow.of (cs:=List.replicate n (⟨0,0,.empty,none,0,0⟩:VC)) (RowAt.made O (ykm hn16) (by simp) (znf hn16 (by decide))) ⟨by simp[ms0,yaf,hn],fun i c x hc hx=> ?_⟩
  have K:=List.eq_of_mem_replicate (zmg hc);have I:=List.eq_of_mem_replicate (zmg hx);subst K I;exact yaH _ _
 .have M:=H3.mono (G:=fun g=>w2<=g/\g<w3) (fun g h1 h2=>⟨h1,h2⟩)
  have Q:=M.below H;exact Q.mono (fun g hg _=>⟨fun e=>by rcases E g e with rfl|rfl<;>omega,show W<=g by omega⟩)
 .rintro i j g A B
  match i,A with
  |0,A=>
   cases A
   match j,B with
   |0,B=>rfl
   |2,B=>have h:w4.heap.size=w3.heap.size:=Option.some.inj B;omega
   |1,B=>cases B
   |3,B=>cases B
   |4,B=>cases B
   |5,B=>cases B
   |6,B=>cases B
   |n+7,B=>cases B
  |2,A=>
   cases A
   match j,B with
   |0,B=>have h:w3.heap.size=w4.heap.size:=Option.some.inj B;omega
   |2,B=>rfl
   |1,B=>cases B
   |3,B=>cases B
   |4,B=>cases B
   |5,B=>cases B
   |6,B=>cases B
   |n+7,B=>cases B
  |1,A=>cases A
  |3,A=>cases A
  |4,A=>cases A
  |5,A=>cases A
  |6,A=>cases A
  |n+7,A=>cases A
 .rcases E j B with rfl|rfl<;>have:=BW.size<;>omega
 .exact BW.trans (H.mono BW.size)
theorem yhf (F:Nat->Prop)(W:World)(i:IC)(p:Img)(H:IAt F W i p)(hw:∀x∈p.consts,x.wf)(r:Fa×Int×Int)(hr:yaY p=r):
  Calls Tryz.prog 14 #[.agg #[.slice i.ca i.cn i.cc,.slice i.ka i.kn i.kc,.slice i.na i.nn i.nc,i.pl]] W (ynG W p r.2.2):=by
 obtain⟨U,D⟩:∃U,U=W.alloc (.cells #[.slice i.ca i.cn i.cc,.slice i.ka i.kn i.kc,.slice i.na i.nn i.nc,i.pl] 28):=⟨_,rfl⟩;have y:=zba D;have l:=zha D;have t:=H.keep (S:=fun _=>False) (zkb y) (fun _ _ f=>f);have CK:=zhd (yiI F i p U t hw r hr);obtain⟨c0,c1,c2,c3,l0⟩:=zq4 l;have R:=zh5 y l t hw hr;clear y l t H hw hr;go_in;go_wp2_with fail;rw[<-D];clear D;refine CK.o.mono ?_;rintro e j ⟨hv,rfl,g⟩;obtain⟨fa,at_,b⟩:=r;dsimp only at g|-;obtain⟨xa,xc,rfl⟩:=g.o.1.slice;go_upto_region 2 with(fail);refine yaa ?_;intro w2 L;have B2:Below j j w2:=by rw[L];exact(zal).alloc (by simp) _
 have m:w2.heap[j.heap.size+1]? =some (.cells #[at_,b] 112 (0,0)):=by rw[L];exact yar
 have e1:=zca m 1 rfl;have el:=zlt m;have I:Below U U w2:=g.o.2.2.trans (B2.mono g.o.2.2.size);have G:=(I.block W l0).trans R.o.2.1;have O:=R.o.1.trans (I.mono R.o.1.size);have T:=zh3 I G O;clear L B2 m I c0 c1 c2 c3 l0 CK;cases hez:(b !=0)with
 |true=>
  have a:b≠0:=by simpa using hez
  have HN:=zhd a;clear G O a;go_wp2_with fail;go_region
  all_goals
   go_wp2_with fail;exact zng (v:=.tuple #[.pointer none,b]) (by simp only[results,Tryz.results14];go_simp) rfl (.inl ⟨HN.o,rfl,zhd T.o.2.2.drew⟩)
 |false=>
  obtain rfl:b=0:=by simpa using hez
  clear hez;have K:=(ydo R.o.2.2.2.2).2 rfl;have k:=yb3 K.2.img;have X:∀x∈p.consts,szV x<=1073741824:=fun x hx=>by have:=ymd K.2.img x hx;omega
  have CL:=zhd (yga F w2 i p (R.o.2.2.1.keep (S:=fun _=>False) (zkb T.o.1) (fun _ _ f=>f)) X ⟨by omega,by omega,by omega⟩);obtain⟨c0,c1,c2,c3,l2⟩:=zq4 G;have Z:i.pl=p.places:=R.o.2.2.1.pl;obtain⟨n,hn⟩:∃n:Nat,p.places=n:=⟨p.places.toNat,by omega⟩;have A:n<=16:=by omega
  have N:=zh4 Z hn A K.2;clear G O k X K Z hn A;go_wp2_with fail;refine CL.o.mono ?_;rintro e Q ⟨i3,rfl,d⟩;have E:=(d.o.2.block W l2).trans T.o.2.1;have d3:Q.cell? ⟨W,3,none⟩=some (.int .i64 (n:Int)):=by rw[zch E,<-N.o.2.1,<-N.o.1];rfl
  have l3:=zlt E;have q:=zhd E;clear E c0 c1 c2 c3 l2;go_upto_region 5 with(fail);refine yaa ?_;intro c C;have B:c.heap[Q.heap.size]? =some (.cells (ybT ⟨.slice none 0 0,i3,.slice none 0 0,⟨0,0,⟨#[]⟩,none,0,0⟩,.slice none 0 0,.slice none 0 0,.slice none 0 0,.slice none 0 0⟩ (ms0 (yaf p))).toArray 123 (0,0)):=by
   rw[C];exact znb _ _
  have u:=zba C;have Y:c.heap.size=Q.heap.size+1:=by rw[C];simp
  have M:=(u.block W l3).trans q.o;have d4:c.cell? ⟨W,3,none⟩=some (.int .i64 (n:Int)):=by rw[zch M,<-N.o.2.1,<-N.o.1];rfl
  have l4:=zlt M;have m5:=zca B 5 rfl;have mf:∀o,c.frozen? ⟨Q,o,none⟩=false:=fun o=>zfr B o;have ml:=zlt B;have s:=zh3 B u Y;clear C B u Y M d3 l3;obtain⟨J,V,z,ts,tb⟩:∃J,Tryz.prog.info? 38=some J/\J.zero=some (.agg #[.int .i64 0,.int .i64 0,.string .empty,.slice none 0 0])/\J.size=4/\J.bytes=56:=by
   have h:=yni;cases hq:Tryz.prog.info? 38 with
   |none=>rw[hq]at h;cases h
   |some J=>
    rw[hq]at h;simp only[Option.map_some,Option.some.injEq,Prod.mk.injEq]at h;exact⟨J,rfl,h.1,h.2.1,h.2.2⟩
  have A:=N.o.2.2.1;have Aa:∀W:World,(Instr.makeSlice 25 (.int .i64 (n:Int)) (.int .i64 (n:Int))).run Tryz.prog W= .ok (.slice (some ⟨W,0,none⟩) n n) (W.alloc (.cells (madeCells #[.int .i64 0,.int .i64 0,.string .empty,.slice none 0 0] (n*4)) 38)):=fun W=>by
   have:=run_make (P:=Tryz.prog) W 25 38 J (.agg #[.int .i64 0,.int .i64 0,.string .empty,.slice none 0 0]) Tryz.underlying25 V z .i64 .i64 n n (by omega) (by omega) (by rw[tb];omega) (by omega);rw[ts]at this;simpa[Value.cells]using this
  clear V z ts tb A;go_wp2_with fail;exact zng (v:=.tuple #[.pointer (some ⟨Q,0,none⟩),.int .i64 0]) (by simp only[results,Tryz.results14];go_simp) rfl (.inr ⟨rfl,Q.heap.size,_,rfl,zhd (ym8 (T.o.2.2.size) d.o.2 (T.o.2.2.trans (d.o.2.mono T.o.2.2.size)) d.o.1 s.o.2.1 s.o.1 s.o.2.2 N.o.2.1 N.o.2.2.1)⟩)
set_option linter.unusedVariables false
theorem ydM {p:Img}{fa:Fa}{at_:Int}(hw:∀x∈p.consts,x.wf)(hck:yaY p=(fa,at_,0)):Known (yaf p) fa/\Pk (yaf p)/\fa.span<=(yaf p).code.length+1/\St (yaf p) fa (ms0 (yaf p)):=by
 have E:=((ydo hck).2 rfl).2;have B:=yb3 E.img;have A:yaY (yaf p)=(fa,at_,0):=(ygs p).trans hck;have D:=((ydo A).2 rfl).2;exact⟨D,⟨fun x hx=>by
  obtain⟨y,C,rfl⟩:=List.mem_map.1 hx;exact ybd ⟨yeA B.2.2.2.2.2.2.1 y C,hw y C⟩,fun x hx=>yig B.2.2.2.2.2.2.2.1 x hx⟩,ymR A,St.zero D B.2.2.2.2.1⟩
theorem RPX.monoZ {tr:TypeId}{Z Z':Nat->Prop}{W:World}{rb b mb:Nat}{v:MV}{p:Img}{r:RP}(R:RPX tr Z W rb b mb v p r)(h:∀j,Z j->j<W.heap.size->Z' j):RPX tr Z' W rb b mb v p r:=⟨R.h,R.mx.monoZ (fun j hj hl=>⟨h j hj.1 hl,hj.2⟩),R.fm,R.ne,R.o1,R.o2⟩
def yp1 (W:World)(p:Img)(r:RP)(rb b mb:Nat)(v:MV)(w':World):Prop:=RPX TR (fun j=>W<=j) w' rb b mb v (yaf p) r/\(∀j,RO rb b mb v j->W.heap.size<=j)/\Below W W w'
def ymI (W:World)(p:Img)(er:Int)(e:Ending)(w':World):Prop:=
 (er≠0/\e= .returned (.tuple #[.pointer none,er])/\Hid (Below W W w'))\/(er=0/\∃(rb b mb:Nat) (v:MV),e= .returned (.tuple #[.pointer (some ⟨rb,0,none⟩),.int .i64 0])/\Hid (yp1 W p (rp0 (yaf p)) rb b mb v w'))
theorem ylB (F:Nat->Prop)(W:World)(i:IC)(p:Img)(H:IAt F W i p)(hw:∀x∈p.consts,x.wf)(r:Fa×Int×Int)(hr:yaY p=r):
  Calls Tryz.prog 13 #[.agg #[.slice i.ca i.cn i.cc,.slice i.ka i.kn i.kc,.slice i.na i.nn i.nc,i.pl]] W (ymI W p r.2.2):=by
 obtain⟨G,B⟩:∃G,G=W.alloc (.cells #[.slice i.ca i.cn i.cc,.slice i.ka i.kn i.kc,.slice i.na i.nn i.nc,i.pl] 28):=⟨_,rfl⟩;have L:=zba B;have M:=zha B;have R:=zhd (yhf F G i p (H.keep (S:=fun _=>False) (zkb L) (fun _ _ f=>f)) hw r hr);obtain⟨c0,c1,c2,c3,Y⟩:=zq4 M;have I:=zhd L;clear L M H hw hr;go_in;go_wp2_with fail;rw[<-B];clear B;refine R.o.mono ?_;obtain⟨Z,at_,K⟩:=r;dsimp only;rintro e A (⟨D,rfl,C⟩|⟨rfl,b,v,rfl,C⟩)
 .have O:(K==0)=false:=by rw[zna];exact D
  have X:(K !=0)=true:=by unfold bne;rw[O];rfl
  have U:=zhd D;have V:=zhd (I.o.trans (C.o.mono I.o.size));clear D C;go_wp2_with fail;exact zng (v:=.tuple #[.pointer none,K]) (by simp only[results,Tryz.results13];go_simp) rfl (.inl ⟨U.o,rfl,V⟩)
 .have Q:= @run_makeMap Tryz.prog
  go_wp2_with fail;have fin:ymI W p 0 (.returned (.tuple #[.pointer (some ⟨A.heap.size+1,0,none⟩),.int .i64 0])) ((A.alloc (.map #[] 0)).alloc (.cells #[.pointer (some ⟨b,0,none⟩),.int .i64 0,.int .i64 0,.map (some A.heap.size),.bool false,.int .i64 0] 59)):=by
   have N:Below A A ((A.alloc (.map #[] 0)).alloc (.cells #[.pointer (some ⟨b,0,none⟩),.int .i64 0,.int .i64 0,.map (some A.heap.size),.bool false,.int .i64 0] 59)):=(zal).alloc (by simp) _;have T:=(C.o.1.monoZ (Z':=fun q=>G<=q/\q<A) (fun j h1 h2=>⟨h1,h2⟩)).ext N;have P:=I.o.size;have J:=C.o.2.2.size;have E:∀j,MO v b j->j<A.heap.size:=fun j hj=>C.o.1.lt hj;refine .inr ⟨rfl,A.heap.size+1,b,A.heap.size,v,rfl,zhd ⟨⟨yar,T.monoZ (fun j h _=>⟨(show W.heap.size<=j by omega),by omega,by omega⟩),⟨#[],0,yaG,rfl,by simp[rp0,mOf]⟩,by omega,fun e=>by have:=E _ e;omega,fun e=>by have:=E _ e;omega⟩,?_,?_⟩⟩
   .rintro j (rfl|rfl|h)
    .omega
    .omega
    .have:=C.o.2.1 j h;omega
   .exact I.o.trans (((C.o.2.2.trans (N.mono J))).mono P)
  exact zng (v:=.tuple #[.pointer (some ⟨A.heap.size+1,0,none⟩),.int .i64 0]) (by simp only[results,Tryz.results13];go_simp) rfl fin
def ymH (W:World)(p:Img)(er:Int)(l:List Ev)(e:Ending)(w':World):Prop:=
 (er≠0/\e= .returned (.tuple #[.pointer none,er])/\Hid (Below W W w'))\/
 (er=0/\(yan (yaf p) (rp0 (yaf p)) l).err≠0/\e= .returned (.tuple #[.pointer none,.int .i64 (yan (yaf p) (rp0 (yaf p)) l).err])/\Hid (Below W W w'))\/
 (er=0/\(yan (yaf p) (rp0 (yaf p)) l).err=0/\∃(rb b mb:Nat) (v:MV),e= .returned (.tuple #[.pointer (some ⟨rb,0,none⟩),.int .i64 0])/\Hid (yp1 W p (yan (yaf p) (rp0 (yaf p)) l) rb b mb v w'))
theorem ycw {N:Nat}(F:Nat->Prop)(W:World)(G:Gl Tryz.prog N W)(hN:N<=W.heap.size)(i:IC)(p:Img)(H:IAt F W i p)(hw:∀x∈p.consts,x.wf)(r:Fa×Int×Int)(hr:yaY p=r)
  (ea:Option Addr)(en ec:Nat)(l:List Ev)(E:XRd (fun j=>j<W) W (.slice ea en ec) l)(hew:∀e∈l,e.v.wf)(hlo:(ya8 l).length<=30)(hl:l.length<=3000000):
  Calls Tryz.prog 11 #[.agg #[.slice i.ca i.cn i.cc,.slice i.ka i.kn i.kc,.slice i.na i.nn i.nc,i.pl],.slice ea en ec] W (ymH W p r.2.2 l):=by
 obtain⟨O,B⟩:∃O,O=W.alloc (.cells #[.slice i.ca i.cn i.cc,.slice i.ka i.kn i.kc,.slice i.na i.nn i.nc,i.pl] 28):=⟨_,rfl⟩;have c:=zba B;have k:=zha B;have n:=zhd (ylB F O i p (H.keep (S:=fun _=>False) (zkb c) (fun _ _ f=>f)) hw r hr);obtain⟨c0,c1,c2,c3,z⟩:=zq4 k;have A:=zh8 c E hew hlo hl hw G hN;have HR:=zhd hr;clear c k H hw hr E hew hlo hl G hN;go_in;go_wp2_with fail;rw[<-B];clear B;refine n.o.mono ?_;obtain⟨fa,at_,er⟩:=r;dsimp only;rintro e u (⟨D,rfl,C⟩|⟨rfl,U,b,Y,v,rfl,C⟩)
 .have X:(er==0)=false:=by rw[zna];exact D
  have y:(er !=0)=true:=by unfold bne;rw[X];rfl
  have Z:=zhd D;have HB:=zhd (A.o.1.trans (C.o.mono A.o.1.size));clear D C;go_wp2_with fail;exact zng (v:=.tuple #[.pointer none,er]) (by simp only[results,Tryz.results11];go_simp) rfl (.inl ⟨Z.o,rfl,HB⟩)
 .obtain⟨K,P,Q,S⟩:=ydM A.o.2.2.2.2.2.1 HR.o
  have M:=A.o.1.trans (C.o.2.2.mono A.o.1.size);have R:W<O.heap.size:=z;have s:=zhd (yl8 U b Y v (yaf p) (rp0 (yaf p)) u (C.o.1.monoZ (Z':=fun j=>W<=j) (fun j h _=>by have h:O<=j:=h;show W<=j;omega)) (A.o.2.2.2.2.2.2.1.below M) (fun j=>j<W) ea en ec l (A.o.2.1.below M) A.o.2.2.1 fa K P Q S (by show 0+(ya8 l).length<=30;have:=A.o.2.2.2.1;omega) (by show 0+l.length<=4000000;have:=A.o.2.2.2.2.1;omega) (znq _) (fun j hj=>by have:=M.size;show W<=j;omega) (fun g I e=>by have:=C.o.2.1 g e;have I:g<W:=I;omega) (fun g I=>by have:=C.o.2.1 g I;have:=A.o.2.2.2.2.2.2.2;omega) (fun g I=>by have I:g<W:=I;have:=M.size;omega));have L:=zh3 C.o.2.1 M R;clear K P Q S M R n;go_wp2_with fail;refine s.o.mono ?_;rintro e w2 ⟨d,rfl,V⟩;have t:Below W W w2:=L.o.2.1.trans (V.o.2.keeps.below L.o.2.1.size (fun q hq e=>by have:=L.o.1 q e;have:=L.o.2.2;omega));have m:∀j,RO U b Y d j->W.heap.size<=j:=fun j h=>(V.o.2.ro h).elim (fun h=>by have:=L.o.1 j h;have:=L.o.2.2;omega) (fun h=>znf L.o.2.1.size h)
  obtain⟨er,J⟩:∃er,(yan (yaf p) (rp0 (yaf p)) l).err=er:=⟨_,rfl⟩;have T:=zh3 V.o.1 m t;have a:=zhd J;rw[J];clear J t m s V;by_cases he0:er=0
  .subst he0
   go_wp2_with fail;exact zng (v:=.tuple #[.pointer (some ⟨U,0,none⟩),.int .i64 0]) (by simp only[results,Tryz.results11];go_simp) rfl (.inr (.inr ⟨rfl,a.o,U,b,Y,d,rfl,zhd T.o⟩))
  .have X:(er==0)=false:=by rw[zna];exact he0
   have y:(er !=0)=true:=by unfold bne;rw[X];rfl
   have Z:=zhd he0;clear he0;go_wp2_with fail;exact zng (v:=.tuple #[.pointer none,er]) (by simp only[results,Tryz.results11];go_simp) rfl (.inr (.inl ⟨rfl,by rw[a.o];exact Z.o,by rw[a.o],zhd T.o.2.2⟩))
end Go.Proofs.YtpagmlndgblhhaaGreatDoor
