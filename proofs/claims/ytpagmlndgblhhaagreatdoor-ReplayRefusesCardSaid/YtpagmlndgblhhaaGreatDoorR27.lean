/- Parts of the proof: what the functions and the plain laws give that later parts lean on. Conditions: none beyond those that each theorem names. -/
import Derived.Test.YtpagmlndgblhhaaGreatDoorR26
set_option maxRecDepth 100000
set_option maxHeartbeats 8000000
namespace Go.Va
open Go.Own Go.RowKit
open Go.Proofs.YtpagmlndgblhhaaGreatDoor
theorem yhq {p:Img}{fa:Fa}(K:Known p fa)(P:Pk p)(hsp:fa.span≤p.code.length+1){r:RP}(S:St p fa r.m){e:Ev}(hw:e.v.wf)(hev:r.m.events+(ycj [e]).length≤30)(hnx:r.next≤r.m.made.length):
  St p fa (ybo p r e).2.m∧(ybo p r e).2.m.events≤r.m.events+(ycj [e]).length∧(ybo p r e).2.next≤(ybo p r e).2.m.made.length∧(ybo p r e).2.seen≤r.seen+1:=by
 by_cases hwn:ybh r e=0
 ·rw[ycd hwn]
  obtain⟨a,b,h1,h2,h3,h4⟩:=yeU r.fired (r.m.made.drop r.next) r.next;have hl:(r.m.made.drop r.next).length=a.length+b.length:=by rw[h1,znk]
  rw[List.length_drop]at hl;by_cases ho:yaS e.kind=true
  ·rw[if_pos ho]
   have h1:ycj [e]=[e]:=by unfold ycj;rw[List.filter_cons,if_pos ho];rfl
   rw[h1]at hev⊢;obtain⟨S1,h2⟩:=S.apply K P hsp e hw (by simp at hev;omega);obtain⟨k,hk⟩:=ykn p r.m e;refine⟨S1,h2,?_,znc _⟩;show r.next≤((yay p r.m e).2.made).length;rw[hk,znk];omega
  ·rw[if_neg ho]
   split
   ·split
    ·exact⟨S,Nat.le_add_right _ _,by show ybr r.fired (r.m.made.drop r.next) r.next≤r.m.made.length;omega,znc _⟩
    ·rename_i c hc
     have:=(zge hc).1;split
     ·exact⟨S,Nat.le_add_right _ _,by show ybr r.fired (r.m.made.drop r.next) r.next+1≤r.m.made.length;omega,znc _⟩
     ·exact⟨S,Nat.le_add_right _ _,by show ybr r.fired (r.m.made.drop r.next) r.next≤r.m.made.length;omega,znc _⟩
   ·exact⟨S,Nat.le_add_right _ _,hnx,znc _⟩
 ·rw[yjs hwn]
  exact⟨S,Nat.le_add_right _ _,hnx,Nat.le_succ _⟩
theorem yeC (F:List Int):∀(l:List Cm) (n:Nat),ybr F (l.map yaG) n=ybr F l n
 |[],_=>rfl
 |c::l,n=>by
  rw[List.map_cons,ybr,ybr,yeC F l];rfl
theorem yiA (c:Cm)(e:Ev):ye7 (yaG c) e=ye7 c e:=by
 unfold ye7;rw[show evOfC (yaG c)=evOfC c from yeK c]
end Go.Va
namespace Go.Proofs.YtpagmlndgblhhaaGreatDoor
open Go.RowKit Go.Own Go.Own.MapTy Go.Va Go.Sort
open Go.Own.Cells (sz enc)
set_option linter.unusedVariables false
theorem ykW
  {Z:Nat→Prop}(rb b mb:Nat)(v:MV)(p:Img)(r:RP)(W:World)(R:RPX TR Z W rb b mb v p r){N:Nat}(G:Gl Tryz.prog N W)(t a bb:Int)(nm tx:ByteArray)(x:Val)(vk vn:Int)(vs:ByteArray)(la:Option Addr)(ln lc:Nat)(F:Nat→Prop)(C:CF F W ⟨vk,vn,vs,la,ln,lc⟩ x)(hw:x.wf)
  (fa:Fa)(K:Known p fa)(P:Pk p)(hsp:fa.span≤p.code.length+1)(S:St p fa r.m)(hev:r.m.events≤30)(hZ:∀j,W.heap.size≤j→Z j)(hF:∀g,F g→¬RO rb b mb v g)(hN:∀g,RO rb b mb v g→N≤g)
  (k:Int)(hck:yaj ⟨(r.seen:Int)+1,t,k,a,bb,nm,tx,x⟩=0)(hcl:r.closed=false)(hsn:r.seen≤4000000)(h0:¬r.seen=0)(hm:yb7 k=true)(hnx:r.next≤r.m.made.length)(q:Int×RP)(hr:ybo p r ⟨(r.seen:Int)+1,t,k,a,bb,nm,tx,x⟩=q):
  Calls Tryz.prog 56 #[.pointer (some ⟨rb,0,none⟩),.agg #[.int .i64 ((r.seen:Int)+1),.int .i64 t,.int .i64 k,.int .i64 a,.int .i64 bb,.string nm,.string tx,.int .i64 vk,.int .i64 vn,.string vs,.slice la ln lc]] W
   (ycc Z rb b mb v p W q):=by
 have hko:yaS k=false:=yk0 hm;have hk:¬k=1:=fun h=>by rw[h]at hm;exact absurd hm (by decide)
 rw[ycd (yb3 hck rfl hcl ⟨fun h=>absurd h h0,fun h=>absurd h hk⟩),if_neg (by rw[hko];decide),if_pos (by exact hm)]at hr;have HR:=zhd hr;have n1:(k==1)=false:=by rw[zna];exact hk
 have n2:(k !=1)=true:=by unfold bne;rw[n1];rfl
 have n3:((r.seen:Int)==0)=false:=by rw[zna];omega
 have n4:decide (0<(r.seen:Int))=true:=zno (by omega);have n5:0<(r.seen:Int):=by omega
 have n6':decide (0<r.seen)=true:=zno (by omega);have n7':0<r.seen:=by omega
 have hml:r.m.made.length≤700000:=by have h1:=S.bd;omega
 have HS:=zh5 S hF hN hnx hml;have HM:=zhd hm;clear hr h0 hk hm K P hsp S hev hZ hF hN hnx hml;have HO:=zhd hko;clear hko;have hws:wrap64 ((r.seen:Int)+1)=(r.seen:Int)+1:=by unfold wrap64;omega
 have HC:=zh2 hcl hsn;clear hsn hcl;obtain⟨w0,hw0⟩:∃w0,w0=W.alloc (.cells #[.int .i64 ((r.seen:Int)+1),.int .i64 t,.int .i64 k,.int .i64 a,.int .i64 bb,.string nm,.string tx,.int .i64 vk,.int .i64 vn,.string vs,.slice la ln lc] 40):=⟨_,rfl⟩;have B0:=zba hw0;have hB:=zha hw0;have C0:=C.keep (S:=fun _=>False) (zkb B0) (fun _ _ f=>f);have EK:=zhd (ybf ((r.seen:Int)+1) t k a bb nm tx x vk vn vs la ln lc F w0 (G.below B0) C0 hw _ hck);obtain⟨q0,q1,q2,q3,q4,q5,q6,q7,q8,q9,q10,ql,_⟩:=yaw hB;have HX:=zh6 R B0 hB C G hw;have HCK:=zhd hck;clear hck C0 B0 hB C R G hw;go_enter Tryz.func56,Tryz.ntmps56;go_wp2_with fail;rw[←hw0];clear hw0;refine EK.o.mono ?_;rintro e w1 ⟨rfl,hB1⟩;have B1:Below W.heap.size W w1:=HX.o.2.1.trans (hB1.mono HX.o.2.1.size);have hb1:=(hB1.block W.heap.size ql).trans HX.o.2.2.1;have R1:=HX.o.1.ext B1;clear q0 q1 q2 q3 q4 q5 q6 q7 q8 q9 q10 ql;obtain⟨q0,q1,q2,q3,q4,q5,q6,q7,q8,q9,q10,ql,_⟩:=yaw hb1;obtain⟨r0,r1,r2,r3,r4,r5,rl,rf⟩:=R1.q;have H1:=zh3 B1 hb1 R1;clear B1 hb1 R1 hB1 EK;rw[HC.o.1]at r4;go_upto_region 3 with(fail);go_region
 all_goals
  go_upto_region 10 with(fail);refine yaa ?_;intro w3 hw3;have P3:=(H1.o.2.2.ext (znv _ _).drew).put 1 (.int .i64 ((r.seen:Int)+1)) {r with seen:=r.seen+1} rfl rfl (by simp);have hw3':w3=w1.drew.setCell ⟨rb,1,none⟩ (.int .i64 ((r.seen:Int)+1)):=by rw[hw3];rfl
  rw[←hw3']at P3;have nb:W.heap.size≠rb:=fun e=>by have:=zlt HX.o.1.h;omega
  have hb3:w3.heap[W.heap.size]? =some (.cells #[.int .i64 ((r.seen:Int)+1),.int .i64 t,.int .i64 k,.int .i64 a,.int .i64 bb,.string nm,.string tx,.int .i64 vk,.int .i64 vn,.string vs,.slice la ln lc] 40 (0,0)):=by rw[hw3'];exact(znn _ _ _ _ nb).trans H1.o.2.1
  have K3:RPK rb b mb v W v w3:=(RPK.ext H1.o.1.drew).trans P3.2;have hs3:w3.heap.size=w1.heap.size:=by rw[hw3'];simp[World.setCell]
  clear hw3 hw3' q0 q1 q2 q3 q4 q5 q6 q7 q8 q9 q10 ql r0 r1 r2 r3 r4 r5 rl rf nb;obtain⟨q0,q1,q2,q3,q4,q5,q6,q7,q8,q9,q10,ql,_⟩:=yaw hb3;obtain⟨r0,r1,r2,r3,r4,r5,rl,rf⟩:=P3.1.q;dsimp only at r0 r1 r2 r3 r4 r5;have OU:=zhd (yam ((r.seen:Int)+1) t k a bb nm tx vk vn vs la ln lc w3 _ HO.o);have H3:=zh3 P3.1 K3 hb3;clear P3 K3 hb3 hs3;go_wp2_with fail;refine OU.o.mono ?_;rintro e w4 ⟨rfl,hB4⟩;have hb4:=(hB4.block W.heap.size ql).trans H3.o.2.2;have R4:=H3.o.1.ext hB4;have K4:=H3.o.2.1.trans (RPK.ext hB4);clear q0 q1 q2 q3 q4 q5 q6 q7 q8 q9 q10 ql r0 r1 r2 r3 r4 r5 rl rf OU;obtain⟨q0,q1,q2,q3,q4,q5,q6,q7,q8,q9,q10,ql,_⟩:=yaw hb4;obtain⟨r0,r1,r2,r3,r4,r5,rl,rf⟩:=R4.q;dsimp only at r0 r1 r2 r3 r4 r5;have H4:=zh3 R4 K4 hb4;clear R4 K4 hb4 hB4
 all_goals
  have CM:=zhd (ycN ((r.seen:Int)+1) t k a bb nm tx vk vn vs la ln lc w4 _ HM.o);go_wp2_with fail;refine CM.o.mono ?_;rintro e w5 ⟨rfl,hB5⟩;have hb5:=(hB5.block W.heap.size ql).trans H4.o.2.2;have R5:=H4.o.1.ext hB5;have MD:=zhd (ye4 b v p r.m w5 R5.mx (yjz HS.o.1) (by have:=HS.o.2.2.2.2;omega));have H5:=zh3 R5 (H4.o.2.1.trans (RPK.ext hB5)) hb5;clear q0 q1 q2 q3 q4 q5 q6 q7 q8 q9 q10 ql r0 r1 r2 r3 r4 r5 rl rf CM;obtain⟨q0,q1,q2,q3,q4,q5,q6,q7,q8,q9,q10,ql,_⟩:=yaw hb5;obtain⟨r0,r1,r2,r3,r4,r5,rl,rf⟩:=R5.q;dsimp only at r0 r1 r2 r3 r4 r5;clear R5 hb5 hB5;go_wp2_with fail;refine MD.o.mono ?_;rintro e w6 ⟨r6,rfl,H6⟩;obtain⟨n,hn⟩:∃n,r.m.made.length=n:=⟨_,rfl⟩;obtain⟨am,cm,rfl⟩:∃a c,r6= .slice a n c:=by obtain⟨a,c,h⟩:=H6.o.1.slice;rw[zmd,hn]at h;exact⟨a,c,h⟩
  have HNN:=zhd hn;have R6:=H5.o.1.ext H6.o.2.2;have hb6:=(H6.o.2.2.block W.heap.size ql).trans H5.o.2.2;have hrl:rb<w5.heap.size:=rl;have E6:=H6.o.1.rd (G:=fun g=>w5.heap.size≤g) (fun g h _=>h) H6.o.2.1;have SK:=zhd (ykE rb b mb v p {r with seen:=r.seen+1} w6 R6 (r.m.made.map yaG) (fun g=>w5.heap.size≤g) am n cm (by rw[zmd];exact hn) E6 (fun g hg e=>by have hg:w5.heap.size≤g:=hg;omega) (by have h1:=HS.o.2.2.2.1;show r.next≤n;omega) (by have h1:=HS.o.2.2.2.2;omega));have H6B:=zh5 R6 (H5.o.2.1.trans (RPK.ext H6.o.2.2)) hb6 E6 hrl;clear q0 q1 q2 q3 q4 q5 q6 q7 q8 q9 q10 ql r0 r1 r2 r3 r4 r5 rl rf MD hn R6 hb6 hrl E6;go_wp2_with fail;refine SK.o.mono ?_;rintro e w7 ⟨rfl,H7⟩;obtain⟨nx,hnx⟩:∃nx,ybr r.fired (r.m.made.drop r.next) r.next=nx:=⟨_,rfl⟩;replace HR:=HR.o;have R7:=H7.o.1;rw[show ybr ({r with seen:=r.seen+1}:RP).fired ((r.m.made.map yaG).drop ({r with seen:=r.seen+1}:RP).next) ({r with seen:=r.seen+1}:RP).next=nx by show ybr r.fired ((r.m.made.map yaG).drop r.next) r.next=nx;rw[←List.map_drop,yeC,hnx]]at R7;rw[hnx]at HR;have hnn:¬RO rb b mb v W.heap.size:=fun e=>by have:=HX.o.1.lt e;omega
  have hb7:=(H7.o.2.1.keeps.block W.heap.size (zlt H6B.o.2.2.1) hnn).trans H6B.o.2.2.1;have K7:=H6B.o.2.1.trans H7.o.2.1;have E7:=H6B.o.2.2.2.1.keep H7.o.2.2 (fun g hg e=>by have hg:w5.heap.size≤g:=hg;have:=H6B.o.2.2.2.2;omega);obtain⟨q0,q1,q2,q3,q4,q5,q6,q7,q8,q9,q10,ql,_⟩:=yaw hb7;obtain⟨r0,r1,r2,r3,r4,r5,rl,rf⟩:=R7.q;dsimp only at r0 r1 r2 r3 r4 r5;have HD:Below w7.heap.size w7 w7.drew:=(znv _ _).drew;have hnxl:nx≤n:=by
   obtain⟨x1,x2,h1,h2,_,_⟩:=yeU r.fired (r.m.made.drop r.next) r.next;have h3:(r.m.made.drop r.next).length=x1.length+x2.length:=by rw[h1,znk]
   rw[List.length_drop]at h3;have h4:=HNN.o;have h5:=HS.o.2.2.2.1;omega
  have H7B:=zh4 R7 K7 hb7 E7;have HNX:=zhd hnx;clear SK H7 hnx R7 K7 hb7 E7;by_cases hin:nx<n
  ·
   obtain⟨c,hc⟩:=yad (l:=r.m.made) (k:=nx) (by have:=HNN.o;omega);have hcc:(r.m.made.map yaG)[nx]? =some (yaG c):=by rw[List.getElem?_map,hc];rfl
   rw[hc]at HR;dsimp only at HR;obtain⟨g,off,ck,cn,cs,ma,mn,mc,rfl,hFg,hg,dv,y0,y1,y2,y3,y4,y5,y6,y7,y8⟩:=ylt H7B.o.2.2.2 hcc;have hmem:c∈r.m.made:=zmg hc;have hok:=HS.o.1.rk.vs.mds c hmem;have hcl:=yhN hok.1 hok.2;have hin1:(nx:Int)<(n:Int):=by omega
   have hine:((nx:Int)==(n:Int))=false:=by rw[zna];omega
   obtain⟨qb,hqb⟩:∃qb,ye7 c ⟨(r.seen:Int)+1,t,k,a,bb,nm,tx,x⟩=qb:=⟨_,rfl⟩;have CV:=(HX.o.2.2.2.1.keep H7B.o.2.1.keeps HS.o.2.1);have FI:=zhd (fun X (B:Below w7.heap.size w7 X)=>ylg (yaG c) hcl.1 (by have:=ycT (x:=(yaG c).v) ⟨yop hcl.1,hcl.2⟩;omega) ck cn cs ma mn mc (fun g=>w5.heap.size≤g) X (dv.keep (S:=fun _=>False) (zkb B) (fun _ _ f=>f)) ((r.seen:Int)+1) t k a bb nm tx x vk vn vs la ln lc F (CV.keep (S:=fun _=>False) (zkb B) (fun _ _ f=>f)) qb (by rw[yiA];exact hqb));rw[hqb]at HR;replace HR:=zhd HR.symm;have hgl:g<w7.heap.size:=hg;obtain⟨c0,c1,c2,c3,c4,cv⟩:=c;dsimp only[yaG]at y0 y1 y2 y3 y4 FI;clear hc hcc hmem hok hcl hqb CV dv hFg;go_upto_region 17 with(fail);go_region_law ((go_simp;go_at_call 102;refine(FI.o _ (by first|exact HD|exact znv _ _)).mono ?_;rintro e w8 ⟨rfl,hB8⟩;have HB8:=zhd (HD.trans (hB8.mono HD.size));clear hB8))
   all_goals
    have R8:=H7B.o.1.ext HB8.o;have K8:=H7B.o.2.1.trans (RPK.ext HB8.o);have hb8:=(HB8.o.block W.heap.size ql).trans H7B.o.2.2.1;clear q0 q1 q2 q3 q4 q5 q6 q7 q8 q9 q10 ql r0 r1 r2 r3 r4 r5 rl rf y0 y1 y2 y3 y4 y5 y6 y7 y8 hg hgl HD FI;cases qb with
    |false=>
     replace HR:=zhd (show q=(150,({r with seen:=r.seen+1,next:=nx}:RP))from by rw[HR.o];simp);have H8:=zh2 R8 K8;clear R8 K8 hb8;go_wp2_with fail;go_ret;exact⟨v,by rw[HR.o];rfl,zhd ⟨by rw[HR.o];exact H8.o.1,H8.o.2⟩⟩
    |true=>
     replace HR:=zhd (show q=(0,({r with seen:=r.seen+1,next:=nx+1,closed:=ybq k}:RP))from by rw[HR.o];simp);have hwn:wrap64 ((nx:Int)+1)=(nx:Int)+1:=by have:=HNN.o;have:=HS.o.2.2.2.2;unfold wrap64;omega
     obtain⟨q0,q1,q2,q3,q4,q5,q6,q7,q8,q9,q10,ql,_⟩:=yaw hb8;obtain⟨r0,r1,r2,r3,r4,r5,rl,rf⟩:=R8.q;dsimp only at r0 r1 r2 r3 r4 r5;have nb1:¬W.heap.size=rb:=fun e=>hnn (.inl e);have nb2:¬rb=W.heap.size:=fun e=>nb1 e.symm;have P9:=R8.put 2 (.int .i64 ((nx:Int)+1)) {r with seen:=r.seen+1,next:=nx+1} rfl rfl (by simp);have hb9:=(znn w8 ⟨rb,2,none⟩ (.int .i64 ((nx:Int)+1)) _ nb1).trans hb8;obtain⟨w9,hw9⟩:∃w9,w9=w8.setCell ⟨rb,2,none⟩ (.int .i64 ((nx:Int)+1)):=⟨_,rfl⟩;rw[←hw9]at P9 hb9;have H9:=zh3 P9.1 (K8.trans P9.2) hb9;clear R8 K8 hb8 P9 hb9;go_upto_region 20 with(fail);rw[←hw9];clear hw9 q0 q1 q2 q3 q4 q5 q6 q7 q8 q9 q10 ql r0 r1 r2 r3 r4 r5 rl rf;obtain⟨q0,q1,q2,q3,q4,q5,q6,q7,q8,q9,q10,ql,_⟩:=yaw H9.o.2.2;obtain⟨r0,r1,r2,r3,r4,r5,rl,rf⟩:=H9.o.1.q;dsimp only at r0 r1 r2 r3 r4 r5;obtain⟨cb,hcb⟩:∃cb,decide (16≤(k:Int)∧k≤21)=cb:=⟨_,rfl⟩;have CS:=zhd (yba ((r.seen:Int)+1) t k a bb nm tx vk vn vs la ln lc w9 cb hcb);have HCB:=zhd hcb;clear hcb;go_wp2_with fail;refine CS.o.mono ?_;rintro e w8 ⟨rfl,hB8⟩;have R8:=H9.o.1.ext hB8;have K8:=H9.o.2.1.trans (RPK.ext hB8);clear q0 q1 q2 q3 q4 q5 q6 q7 q8 q9 q10 ql r0 r1 r2 r3 r4 r5 rl rf CS
     obtain⟨r0,r1,r2,r3,r4,r5,rl,rf⟩:=R8.q;dsimp only at r0 r1 r2 r3 r4 r5;have P8:=R8.put 4 (.bool cb) q.2 (by rw[HR.o]) (by rw[HR.o]) (by rw[HR.o,←HCB.o];rfl);have H8:=zh2 P8.1 (K8.trans P8.2);clear R8 K8 P8 hB8;go_wp2_with fail;go_ret;exact⟨_,by rw[HR.o];rfl,zhd H8.o⟩
  ·
   obtain rfl:nx=n:=by omega
   have hc:r.m.made[nx]? =none:=List.getElem?_eq_none (by have:=HNN.o;omega);rw[hc]at HR;dsimp only at HR;replace HR:=zhd HR.symm;clear hc;go_upto_region 17 with(fail);go_region
   all_goals
    go_wp2_with fail;go_ret;exact⟨v,by rw[HR.o];rfl,zhd ⟨by rw[HR.o];exact H7B.o.1.ext HD,H7B.o.2.1.trans (RPK.ext HD)⟩⟩
theorem RPK.ro {rb b mb:Nat}{v v':MV}{W W':World}(K:RPK rb b mb v W v' W'){g:Nat}(h:RO rb b mb v' g):RO rb b mb v g∨W.heap.size≤g:=h.elim (fun e=>.inl (.inl e)) (fun h=>h.elim (fun e=>.inl (.inr (.inl e))) (fun h=>(K.own g h).imp (fun h=>.inr (.inr h)) (fun h=>h)))
theorem yl5
  {Z:Nat→Prop}(rb b mb:Nat)(v:MV)(p:Img)(r:RP)(W:World)(R:RPX TR Z W rb b mb v p r){N:Nat}(G:Gl Tryz.prog N W)(t a bb:Int)(nm tx:ByteArray)(x:Val)(vk vn:Int)(vs:ByteArray)(la:Option Addr)(ln lc:Nat)(F:Nat→Prop)(C:CF F W ⟨vk,vn,vs,la,ln,lc⟩ x)(hw:x.wf)
  (fa:Fa)(K:Known p fa)(P:Pk p)(hsp:fa.span≤p.code.length+1)(S:St p fa r.m)(hev:r.m.events≤30)(hZ:∀j,W.heap.size≤j→Z j)(hF:∀g,F g→¬RO rb b mb v g)(hN:∀g,RO rb b mb v g→N≤g)
  (hsn:r.seen≤4000000)(hnx:r.next≤r.m.made.length)(id k:Int):
  Calls Tryz.prog 56 #[.pointer (some ⟨rb,0,none⟩),.agg #[.int .i64 (id),.int .i64 t,.int .i64 k,.int .i64 a,.int .i64 bb,.string nm,.string tx,.int .i64 vk,.int .i64 vn,.string vs,.slice la ln lc]] W
   (ycc Z rb b mb v p W (ybo p r ⟨id,t,k,a,bb,nm,tx,x⟩)):=by
 by_cases h0:yaj ⟨id,t,k,a,bb,nm,tx,x⟩=0
 ·by_cases hid:id=(r.seen:Int)+1
  ·subst hid
   by_cases hcl:r.closed=true
   ·exact yis rb b mb v p r W R G t a bb nm tx x vk vn vs la ln lc F C hw k h0 hcl hsn _ rfl
   ·have hcl:r.closed=false:=by simpa using hcl
    by_cases hs:r.seen=0
    ·by_cases hk:k=1
     ·subst hk
      exact yjp rb b mb v p r W R G t a bb nm tx x vk vn vs la ln lc F C hw fa K P hsp S hev hZ hF hN h0 hcl hsn hs _ rfl
     ·exact yir rb b mb v p r W R G t a bb nm tx x vk vn vs la ln lc F C hw k h0 hcl hsn hs hk _ rfl
    ·by_cases hk:k=1
     ·subst hk
      exact yiq rb b mb v p r W R G t a bb nm tx x vk vn vs la ln lc F C hw h0 hcl hsn hs _ rfl
     ·by_cases ho:yaS k=true
      ·by_cases h12:k=12
       ·subst h12
        exact yjq rb b mb v p r W R G t a bb nm tx x vk vn vs la ln lc F C hw fa K P hsp S hev hZ hF hN h0 hcl hsn hs _ rfl
       ·exact yl2 rb b mb v p r W R G t a bb nm tx x vk vn vs la ln lc F C hw fa K P hsp S hev hZ hF hN k h0 hcl hsn hs hk h12 ho _ rfl
      ·have ho:yaS k=false:=by simpa using ho
       by_cases hm:yb7 k=true
       ·exact ykW rb b mb v p r W R G t a bb nm tx x vk vn vs la ln lc F C hw fa K P hsp S hev hZ hF hN k h0 hcl hsn hs hm hnx _ rfl
       ·exact ykV rb b mb v p r W R G t a bb nm tx x vk vn vs la ln lc F C hw k h0 hcl hsn hs hk ho (by simpa using hm) _ rfl
  ·exact yjr rb b mb v p r W R G t a bb nm tx x vk vn vs la ln lc F C hw id k h0 hid hsn _ rfl
 ·exact yl4 rb b mb v p r W R G t a bb nm tx x vk vn vs la ln lc F C hw id k _ rfl (by simpa using h0) _ rfl
def ynP (Z:Nat→Prop)(rb b mb:Nat)(v:MV)(p:Img)(W:World)(r:RP)(e:Ending)(w':World):Prop:=∃v',e= .returned (.int .i64 r.err)∧Hid (RPX TR Z w' rb b mb v' p r∧RPK rb b mb v W v' w')
def yoK (Z:Nat→Prop)(rb b mb:Nat)(v:MV)(p:Img)(fa:Fa)(r:RP)(W:World)(l:List Ev)(gk:Nat)(v9:Value)(wr:World):Prop:=
 ∃(j:Nat) (v':MV) (r':RP),v9= .int .i64 j∧j≤l.length∧gk=l.length - j∧yaK p r' (l.drop j)=yaK p r l∧RPX TR Z wr rb b mb v' p r'∧RPK rb b mb v W v' wr∧St p fa r'.m∧r'.m.events+(ycj (l.drop j)).length≤30∧r'.seen+(l.length - j)≤4000000∧r'.next≤r'.m.made.length
theorem yhI
  {Z:Nat→Prop}(rb b mb:Nat)(v:MV)(p:Img)(r:RP)(W:World)(R:RPX TR Z W rb b mb v p r){N:Nat}(G:Gl Tryz.prog N W)(F:Nat→Prop)(ea:Option Addr)(en ec:Nat)(l:List Ev)(E:XRd F W (.slice ea en ec) l)(hew:∀e∈l,e.v.wf)(fa:Fa)(K:Known p fa)(P:Pk p)(hsp:fa.span≤p.code.length+1)(S:St p fa r.m)(hev:r.m.events+(ycj l).length≤30)(hsn:r.seen+l.length≤4000000)(hnx:r.next≤r.m.made.length)(hZ:∀j,W.heap.size≤j→Z j)(hF:∀g,F g→¬RO rb b mb v g)(hN:∀g,RO rb b mb v g→N≤g)(hFl:∀g,F g→g<W.heap.size):
  Calls Tryz.prog 18 #[.pointer (some ⟨rb,0,none⟩),.slice ea en ec] W (ynP Z rb b mb v p W (yaK p r l)):=by
 have hen:l.length=en:=by obtain⟨a,c,h⟩:=E.slice;cases h;rfl
 have HX:=zh8 R E hew S hev hsn hnx hen;have HK:=zh8 K P hsp hZ hF hN hFl G;have hns:N≤W.heap.size:=by have h1:=hN rb (.inl rfl);have h2:=zlt R.h;omega
 have HNS:=zhd hns;clear R G E hew K P hsp S hev hsn hnx hZ hF hN hFl hen hns;go_enter Tryz.func18,Tryz.ntmps18;go_wp2_with fail;go_loopg [9] en (fun gk v9 wr=>yoK Z rb b mb v p fa r W l gk v9 wr)
 case atStart=>exact⟨0,v,r,rfl,znq _,by rw[HX.o.2.2.2.2.2.2.2];rfl,rfl,HX.o.1,RPK.refl _ _ _ _ _,HX.o.2.2.2.1,HX.o.2.2.2.2.1,by have:=HX.o.2.2.2.2.2.1;omega,HX.o.2.2.2.2.2.2.1⟩
 case round=>
  obtain⟨j,v1,r1,rfl,hj,hgk,hfd,R1,K1,S1,hev1,hsn1,hnx1⟩:=hrel;rw[HX.o.2.2.2.2.2.2.2]at hj hgk hsn1;obtain⟨c0,c1,c2,c3,c4,c5,cl,cf⟩:=R1.q;obtain⟨er,her⟩:∃er,r1.err=er:=⟨_,rfl⟩;rw[her]at c5;by_cases hjn:j<en
  ·have hjn':(j:Int)<(en:Int):=by omega
   obtain⟨e,he⟩:=yad (l:=l) (k:=j) (by rw[HX.o.2.2.2.2.2.2.2];exact hjn);obtain⟨g,off,vk,vn,vs,la,ln,lc,rfl,hFg,hg,dv,y0,y1,y2,y3,y4,y5,y6,y7,y8,y9,y10⟩:=yiD HX.o.2.1 he;have hnr:¬RO rb b mb v g:=HK.o.2.2.2.2.1 g hFg;rw[←K1.keeps.cell (p:=⟨g,_,none⟩) hg hnr]at y0 y1 y2 y3 y4 y5 y6 y7 y8 y9 y10;have hgl:g<wr.heap.size:=znj hg K1.keeps.size;have hdr:l.drop j=e::l.drop (j+1):=by
    rw[znr (zge he).1,(zge he).2]
   by_cases he0:er=0
   ·subst he0
    have HWJ:=zhd (show wrap64 ((j:Int)+1)=(j:Int)+1 by have h1:=HX.o.2.2.2.2.2.1;have h2:=HX.o.2.2.2.2.2.2.2;unfold wrap64;omega);rw[hdr,ycJ her]at hfd;rw[hdr,show e::l.drop (j+1)=[e]++l.drop (j+1)from rfl,ydk,znk]at hev1;have hwe:=HX.o.2.2.1 e (zmg he);obtain⟨S2,hev2,hnx2,hsn2⟩:=yhq HK.o.1 HK.o.2.1 HK.o.2.2.1 S1 hwe (by omega) hnx1;have HM:=zhd (show en - (j+1)<gk by omega);have H1:=zh6 R1 K1 S1 (show r1.m.events≤29+1 by omega) (show r1.seen≤4000000 by omega) hnx1;have HO:=zh5 hfd S2 (show(ybo p r1 e).2.m.events+(ycj (l.drop (j+1))).length≤30 by omega) (show(ybo p r1 e).2.seen+(en - (j+1))≤4000000 by omega) hnx2;have HD:=zh4 dv hwe hFg her;clear hfd hdr he her hev1 S1 S2 hev2 hnx2 hsn2 hnx1 hsn1 R1 hgk dv hwe hFg hnr;obtain⟨e0,e1,e2,e3,e4,e5,e6,ex⟩:=e;dsimp only at y0 y1 y2 y3 y4 y5 y6;go_upto_region 4 with(fail);refine yaa ?_;intro w2 hw2;have hb2:=zha hw2;have B2:=zba hw2;have R2:=H1.o.1.ext B2;have K2:=K1.trans (RPK.ext B2);clear y0 y1 y2 y3 y4 y5 y6 y7 y8 y9 y10 c0 c1 c2 c3 c4 c5 cl cf hw2 hgl;obtain⟨x0,x1,x2,x3,x4,x5,x6,x7,x8,x9,x10,xl,_⟩:=yaw hb2;obtain⟨c0,c1,c2,c3,c4,c5,cl,cf⟩:=R2.q;rw[HD.o.2.2.2]at c5
    have hO2:∀g,RO rb b mb v1 g→RO rb b mb v g∨W.heap.size≤g:=fun g h=>K1.ro h;have ON:=zhd (yl5 rb b mb v1 p r1 w2 R2 (HK.o.2.2.2.2.2.2.2.keep K2.keeps HK.o.2.2.2.2.2.1) e1 e3 e4 e5 e6 ex vk vn vs la ln lc F (HD.o.1.keep K2.keeps HK.o.2.2.2.2.1) HD.o.2.1 fa HK.o.1 HK.o.2.1 HK.o.2.2.1 H1.o.2.2.1 H1.o.2.2.2.1 (fun q hq=>HK.o.2.2.2.1 q (by have:=K2.keeps.size;omega)) (fun q hq e=>(hO2 q e).elim (HK.o.2.2.2.2.1 q hq) (fun h=>by have:=HK.o.2.2.2.2.2.2.1 q hq;omega)) (fun q hq=>(hO2 q hq).elim (HK.o.2.2.2.2.2.1 q) (fun h=>znf HNS.o h)) H1.o.2.2.2.2.1 H1.o.2.2.2.2.2 e0 e2);have HK2:=zhd K2;clear hb2 B2 R2 K2 hO2 K1;go_wp2_with fail;refine ON.o.mono ?_;rintro e w3 ⟨v3,rfl,H3⟩;have P3:=H3.o.1.put 5 (.int .i64 (ybo p r1 ⟨e0,e1,e2,e3,e4,e5,e6,ex⟩).1) {(ybo p r1 ⟨e0,e1,e2,e3,e4,e5,e6,ex⟩).2 with err:=(ybo p r1 ⟨e0,e1,e2,e3,e4,e5,e6,ex⟩).1} rfl rfl rfl;have H4:=zh2 P3.1 ((HK2.o.trans H3.o.2).trans P3.2);clear x0 x1 x2 x3 x4 x5 x6 x7 x8 x9 x10 xl c0 c1 c2 c3 c4 c5 cl cf ON;obtain⟨c0,c1,c2,c3,c4,c5,cl,cf⟩:=H3.o.1.q;clear P3;have hwj:=HWJ.o;go_wp2_with fail;go_roundg (en - (j+1))
    case measure=>exact HM.o
    case rel=>exact⟨j+1,v3,_,by simp[hwj],by rw[HX.o.2.2.2.2.2.2.2];omega,by rw[HX.o.2.2.2.2.2.2.2],HO.o.1,H4.o.1,H4.o.2,HO.o.2.1,HO.o.2.2.1,by rw[HX.o.2.2.2.2.2.2.2];exact HO.o.2.2.2.1,HO.o.2.2.2.2⟩
   ·have n1:(er==0)=false:=by rw[zna];exact he0
    have n2:(er !=0)=true:=by unfold bne;rw[n1];rfl
    rw[ybF (by rw[her];exact he0)]at hfd;have H1:=zh4 R1 K1 hfd her;have K1:=K1.keeps.size;clear hfd hdr he her hev1 S1 hnx1 hsn1 R1 hgk dv hFg hnr he0;obtain⟨e0,e1,e2,e3,e4,e5,e6,ex⟩:=e;dsimp only at y0 y1 y2 y3 y4 y5 y6;go_wp2_with fail;go_ret;exact⟨v1,by rw[←H1.o.2.2.1,H1.o.2.2.2];rfl,zhd ⟨by rw[←H1.o.2.2.1];exact H1.o.1.ext (zal),H1.o.2.1.trans (RPK.ext (zal))⟩⟩
  ·obtain rfl:j=en:=by omega
   have hnn:¬(j:Int)<j:=by omega
   rw[zns (by rw[HX.o.2.2.2.2.2.2.2];exact znc _)]at hfd;have H1:=zh4 R1 K1 (show r1=yaK p r l from hfd) her;clear hfd her hev1 S1 hnx1 hsn1 R1 hgk K1;go_wp2_with fail;go_ret;exact⟨v1,by rw[←H1.o.2.2.1,H1.o.2.2.2];rfl,zhd ⟨by rw[←H1.o.2.2.1];exact H1.o.1,H1.o.2.1⟩⟩
end Go.Proofs.YtpagmlndgblhhaaGreatDoor
namespace Go.Va
open Go.Own Go.RowKit
open Go.Own.Cells (sz enc)
theorem yg7 {α:Type}[Cells α]{P:Program}{t e:TypeId}{bytes:Nat}(E:ElemOf α P t e bytes){F:Nat→Prop}{W:World}{ops:Array Oper}{rest:List Oper}{o:Oper}{a:Act}{Q:Exit→Act→World→Prop}
  (hg:o.guard=none)(s x:Operand)(hop:o.op=Op.call {callee:=Callee.builtin Builtin.append,args:=#[s,x],argTypes:=#[t,t]})
  {v u:Value}(hs:a.eval s=v)(hx:a.eval x=u){xs ys:List α}(h:RowAt W e v xs)(hu:RdF F W u ys)
  (hl:(xs.length+ys.length)*bytes≤140737488355328)(h63:xs.length+ys.length≤maxLen)
  (hK:∀a1 q1 w1,RowAt w1 e (.slice a1 (xs.length+ys.length) q1) (xs++ys)→Keeps (fun j=>v.ownBlock=some j) W w1→(∀g,(Value.slice a1 (xs.length+ys.length) q1).ownBlock=some g→v.ownBlock=some g∨W.heap.size≤g)→wpList P ops Q rest (a.put o.dst (.slice a1 (xs.length+ys.length) q1)) w1):
  wpList P ops Q (o::rest) a W:=
 wpList_plain hg fun _ hk=>by
  obtain⟨a1,q1,w1,hr,hr1,hk1,hf1⟩:=yfp E h hu hl h63 o.type;unfold Oper.wp execOp;simp only[hop,resolve,invoke,builtin,Sem.run_bind,Sem.run_pure,Result.andThen_ok,List.map_toArray,List.map_cons,List.map_nil,hs,hx,hr];exact hk _ _ (hK a1 q1 w1 hr1 hk1 hf1)
def yae (p:Img):Img:={p with consts:=p.consts.map yab}
end Go.Va
namespace Go.Proofs.YtpagmlndgblhhaaGreatDoor
open Go.RowKit Go.Own Go.Own.MapTy Go.Va Go.Sort
open Go.Own.Cells (sz enc)
theorem yly (w:World)(p:Addr)(v:Value):(w.setCell p v).heap.size=w.heap.size:=by simp[World.setCell]
def ymL (W:World)(p:Img)(e:Ending)(w':World):Prop:=∃i:IC,e= .returned (.agg #[.slice i.ca i.cn i.cc,.slice i.ka i.kn i.kc,.slice i.na i.nn i.nc,.int .i64 i.pl])∧Hid (IAt (fun g=>W.heap.size≤g) w' i (yae p)∧Below W.heap.size W w')
structure IcL (w wr:World)(N:Nat)(i:IC)(cv v:Value)(code:List In)(l:List Val):Prop where
 b3:wr.heap[w.heap.size+2]? =some (.cells #[cv,v,.slice none 0 0,.int .i64 i.pl] 28 (0,0))
 b2:wr.heap[w.heap.size+1]? =some (.cells #[.slice none 0 0,.slice none 0 0,.slice none 0 0,.int .i64 0] 28 (0,0))
 b1:wr.heap[w.heap.size]? =some (.cells #[.slice i.ca i.cn i.cc,.slice i.ka i.kn i.kc,.slice i.na i.nn i.nc,.int .i64 i.pl] 28 (0,0))
 code:RowAt wr 106 cv code
 cown:∀g,cv.ownBlock=some g→w.heap.size+2<g∧g<N
 row:XRow (fun g=>N≤g∧¬v.ownBlock=some g) wr 38 v (l.map yab)
 own:∀g,v.ownBlock=some g→N≤g
 low:w.heap.size+3≤N∧N≤wr.heap.size
 below:Below w.heap.size w wr
theorem IcL.next {w wr W w8 w9:World}{N:Nat}{i:IC}{cv v v1:Value}{code:List In}{l:List Val}{ks:List VC}{c8:VC}{y:Val}{o:Obj}(h:IcL w wr N i cv v code l)(hP:Ptw (fun g=>N≤g∧¬v.ownBlock=some g) wr ks (l.map yab))
  (K0:Below wr.heap.size wr W)(hc:CF (fun g=>W.heap.size≤g) w8 c8 (yab y))(K8:Below W.heap.size W w8)
  (hr1:RowAt w9 38 v1 (ks++[c8]))(hk1:Keeps (fun j=>v.ownBlock=some j) (w8.alloc o) w9)(hf1:∀g,v1.ownBlock=some g→v.ownBlock=some g∨(w8.alloc o).heap.size≤g):IcL w (w9.setCell ⟨w.heap.size+2,1,none⟩ v1) N i cv v1 code (l++[y]):=by
 have s0:=K0.size;have s8:=K8.size;have hN:=h.low;have hA:(w8.alloc o).heap.size=w8.heap.size+1:=by simp
 have own:∀g,v1.ownBlock=some g→N≤g:=fun g hg=>by
  rcases hf1 g hg with e|e
  ·exact h.own g e
  ·omega
 have KA:Keeps (fun _=>False) wr (w8.alloc o):=(zkb ((K0.trans (K8.mono s0)))).alloc _;have K9:Keeps (fun j=>v.ownBlock=some j) wr w9:=(KA.mono (fun _ _ f=>f.elim)).trans hk1 (fun j _ e=>e);have KS:Keeps (fun j=>j=w.heap.size+2) w9 (w9.setCell ⟨w.heap.size+2,1,none⟩ v1):=Keeps.setCell (S:=fun j=>j=w.heap.size+2) (p:=⟨w.heap.size+2,1,none⟩) (Keeps.refl _ _) (.inl rfl) _;have nb:∀k,k<N→¬v.ownBlock=some k:=fun k hk e=>by have:=h.own k e;omega
 have b3:=(K9.block _ (zlt h.b3) (nb _ (by omega))).trans h.b3;have b2:=(K9.block _ (zlt h.b2) (nb _ (by omega))).trans h.b2;have b1:=(K9.block _ (zlt h.b1) (nb _ (by omega))).trans h.b1;have hsz:=K9.size;refine⟨by simp[World.setCell,zni,b3],(znn _ _ _ _ (by simp)).trans b2,(znn _ _ _ _ (by simp)).trans b1,(h.code.keep K9 (fun g hg=>nb g (h.cown g hg).2)).keep KS (fun g hg e=>by have:=(h.cown g hg).1;have e:g=w.heap.size+2:=e;omega),h.cown,?_,own,⟨hN.1,by rw[yly];omega⟩,?_⟩
 ·have P1:Ptw (fun g=>(N≤g∧¬v.ownBlock=some g)∧g<w8.heap.size) (w8.alloc o) ks (l.map yab):=(hP.mono (G:=fun g=>(N≤g∧¬v.ownBlock=some g)∧g<w8.heap.size) (fun g hg hl=>⟨hg,by omega⟩)).keep KA (fun _ _ f=>f)
  have C1:CF (fun g=>(N≤g∧¬v.ownBlock=some g)∧g<w8.heap.size) (w8.alloc o) c8 (yab y):=(hc.mono (G:=fun g=>(N≤g∧¬v.ownBlock=some g)∧g<w8.heap.size) (fun g hg hl=>⟨⟨by have hg:W.heap.size≤g:=hg;omega,fun e=>by have hg:W.heap.size≤g:=hg;have:=h.row.lt e;omega⟩,hl⟩)).keep (S:=fun _=>False) ((Keeps.refl _ _).alloc _) (fun _ _ f=>f);have P2:=((P1.app (Ptw.one C1)).keep hk1 (fun g hg e=>hg.1.2 e)).mono (G:=fun g=>N≤g∧¬v1.ownBlock=some g) (fun g hg _=>⟨hg.1.1,fun e=>(hf1 g e).elim hg.1.2 (fun q=>by have:=hg.2;omega)⟩);rw[List.map_append];exact(XRow.of hr1 P2).keep KS (fun g hg e=>by have e:g=w.heap.size+2:=e;have:=hg.1;omega) (fun g hg e=>by have e:g=w.heap.size+2:=e;have:=own g hg;omega)
 ·exact(h.below.trans (K9.below h.below.size (fun j hj e=>by have:=h.own j e;omega))).setCell (p:=⟨w.heap.size+2,1,none⟩) (by show w.heap.size≤w.heap.size+2;omega) _
theorem yfI (F:Nat→Prop)(W:World)(i:IC)(p:Img)(H:IAt F W i p)(hz:∀x∈p.consts,szV x≤1073741824)(hlen:p.code.length≤4096∧p.consts.length≤4096∧p.names.length≤4096):
  Calls Tryz.prog 52 #[.agg #[.slice i.ca i.cn i.cc,.slice i.ka i.kn i.kc,.slice i.na i.nn i.nc,.int .i64 i.pl]] W (ymL W p):=by
 obtain⟨h1,h2,h3⟩:=H.lens;obtain⟨ca,cn,cc,ka,kn,kc,na,nn,nc,pl⟩:=i;dsimp only at h1 h2 h3⊢;have HX:=zh6 H hz hlen h1 h2 h3;have HE:=zhd H.consts.elems.2.2;have hkl:kn≤4096:=by omega
 clear H hz hlen h1 h2 h3;go_enter Tryz.func52,Tryz.ntmps52;go_upto_region 2 with(fail);refine yaa ?_;intro w1 hw1;have B1:Below W.heap.size W w1:=by rw[hw1];exact((zal).alloc (by simp) _).alloc (by simp;omega) _
 have x3:w1.heap[W.heap.size+2]? =some (.cells #[.slice none 0 0,.slice none 0 0,.slice none 0 0,.int .i64 pl] 28 (0,0)):=by rw[hw1];exact yf2 (by simp)
 have x2:w1.heap[W.heap.size+1]? =some (.cells #[.slice none 0 0,.slice none 0 0,.slice none 0 0,.int .i64 0] 28 (0,0)):=by rw[hw1];exact(zne _ _ _ (by simp)).trans (yf2 (by simp))
 have x1:w1.heap[W.heap.size]? =some (.cells #[.slice ca cn cc,.slice ka kn kc,.slice na nn nc,.int .i64 pl] 28 (0,0)):=by rw[hw1];exact(zne _ _ _ (by simp;omega)).trans ((zne _ _ _ (by simp)).trans (yf2 rfl))
 have hs1:w1.heap.size=W.heap.size+3:=by rw[hw1];simp
 have c30:=zca x3 0 rfl;have f3:∀o,w1.frozen? ⟨W.heap.size+2,o,none⟩=false:=fun o=>zfr x3 o;have c10:=zca x1 0 rfl;have l3:W.heap.size+2<w1.heap.size:=zlt x3;have l1:W.heap.size<w1.heap.size:=zlt x1;have HC:=zhd (HX.o.1.code.keep (S:=fun _=>False) (zkb B1) (fun _ _ f=>f));have H1:=zh5 B1 x1 x2 x3 hs1;have HBD:=zhd (show(([]:List In).length+p.code.length)*16≤140737488355328∧([]:List In).length+p.code.length≤maxLen from by have:=HX.o.2.2.1.1;unfold maxLen;simp;omega);clear hw1 B1 x1 x2 x3 hs1;go_upto_region 2 with(fail)
 go_wp2_with (at_builtin;refine yg7 (α:=In) ymx rfl (.tmp 10) (.tmp 12) rfl rfl rfl (RowAt.nil _ _) HC.o HBD.o.1 HBD.o.2 ?_;intro a2 q2 w2 hr2 hk2 hf2;simp only[List.length_nil,Nat.zero_add,List.nil_append]at hr2 hf2⊢;have hb3:=(hk2.block (W.heap.size+2) l3 (fun e=>by cases e)).trans H1.o.2.2.2.1;have hb1:=(hk2.block W.heap.size l1 (fun e=>by cases e)).trans H1.o.2.1;have d30:w2.cell? ⟨W.heap.size+2,0,none⟩=some (.slice none 0 0):=(by rw[zch hb3];rfl);have d3:∀o,w2.frozen? ⟨W.heap.size+2,o,none⟩=false:=(fun o=>zfr hb3 o);have m3:=zlt hb3;have e11:w2.cell? ⟨W.heap.size,1,none⟩=some (.slice ka kn kc):=(by rw[zch hb1];rfl);have m1:=zlt hb1;have H2:=zh5 hr2 hk2 hf2 hb3 hb1;clear hr2 hk2 hf2 hb3 hb1);go_upto_region 3 with(fail);refine yaa ?_;intro w3 hw3;have KS:Keeps (fun j=>j=W.heap.size+2) w2 w3:=by rw[hw3];exact Keeps.setCell (S:=fun j=>j=W.heap.size+2) (p:=⟨W.heap.size+2,0,none⟩) (Keeps.refl _ _) (.inl rfl) _
 have hs2:w1.heap.size≤w2.heap.size:=H2.o.2.1.size;have hs3:w3.heap.size=w2.heap.size:=by rw[hw3,yly]
 have hw1:=H1.o.2.2.2.2;have hcw:∀g,(Value.slice a2 p.code.length q2).ownBlock=some g→w1.heap.size≤g:=fun g hg=>(H2.o.2.2.1 g hg).resolve_left (fun e=>by cases e);have hR2:RowAt w2 106 (.slice a2 p.code.length q2) p.code:=H2.o.1;have IC0:IcL W w3 w2.heap.size ⟨ca,cn,cc,ka,kn,kc,na,nn,nc,pl⟩ (.slice a2 p.code.length q2) (.slice none 0 0) p.code []:=by
  refine⟨by rw[hw3];have:=H2.o.2.2.2.1;simp[World.setCell,zni,this],?_,?_,hR2.keep KS (fun g hg e=>by have:=hcw g hg;have e:g=W.heap.size+2:=e;omega),fun g hg=>⟨by have:=hcw g hg;omega,hR2.lt hg⟩,XRow.nil _ _ _,(fun g h=>by cases h),⟨by omega,by omega⟩,?_⟩
  ·rw[hw3,znn _ _ _ _ (by simp),H2.o.2.1.block (W.heap.size+1) (by omega) (fun e=>by cases e)]
   exact H1.o.2.2.1
  ·rw[hw3,znn _ _ _ _ (fun e=>by have e:W.heap.size=W.heap.size+2:=e;omega)]
   exact H2.o.2.2.2.2
  ·exact(H1.o.1.trans ((H2.o.2.1.below (znc _) (fun j hj e=>by cases e)).mono H1.o.1.size)).trans (KS.below (by have:=H1.o.1.size;omega) (fun j hj e=>by have e:j=W.heap.size+2:=e;omega))
 have e11:=zca IC0.b1 1 rfl;have m1:=zlt IC0.b1;have HIC:=zhd IC0;obtain⟨cn2,hcn2⟩:∃n,p.code.length=n:=⟨_,rfl⟩;have HCN:=zhd hcn2;rw[hcn2]at HIC⊢;clear hcn2;clear hw3 KS hs2 hs3 hw1 hcw hR2 IC0 H2 d30 d3 m3 c30 f3 c10 l3 l1 HC;go_wp2_with fail;go_loopg [18] kn (fun gk v18 wr=>∃j:Nat,v18= .int .i64 j∧j≤kn∧gk=kn - j∧Hid (∃v,IcL W wr w2.heap.size ⟨ca,cn,cc,ka,kn,kc,na,nn,nc,pl⟩ (.slice a2 cn2 q2) v p.code (p.consts.take j)))
 case atStart=>exact⟨0,rfl,znq _,rfl,zhd ⟨_,HIC.o⟩⟩
 case round=>
  obtain⟨j,rfl,hj,hgk,HR⟩:=hrel;obtain⟨v,HR⟩:=HR.o;obtain⟨ks,hKR,hKP⟩:=HR.row.cells;obtain⟨a3,c3,rfl⟩:=hKR.slice;have hkl:ks.length=j:=by
   rw[hKP.1,zmd,List.length_take];have:=HX.o.2.2.2.2.1;omega
  rw[hkl]at hKR HR hKP;have z0:=zca HR.b3 0 rfl;have z1:=zca HR.b3 1 rfl;have z2:=zca HR.b3 2 rfl;have z3:=zca HR.b3 3 rfl;have zf:∀o,wr.frozen? ⟨W.heap.size+2,o,none⟩=false:=fun o=>zfr HR.b3 o;have zl:W.heap.size+2<wr.heap.size:=zlt HR.b3;have y0:=zca HR.b1 2 rfl;have yl:W.heap.size<wr.heap.size:=zlt HR.b1;have x0:=zca HR.b2 0 rfl;have x1:=zca HR.b2 1 rfl;have x2:=zca HR.b2 2 rfl;have x3:=zca HR.b2 3 rfl;have xf:∀o,wr.frozen? ⟨W.heap.size+1,o,none⟩=false:=fun o=>zfr HR.b2 o;have xl:W.heap.size+1<wr.heap.size:=zlt HR.b2;by_cases hjn:j<kn
  ·obtain⟨y,hy⟩:=yad (l:=p.consts) (k:=j) (by have:=HX.o.2.2.2.2.1;omega)
   obtain⟨g,off,ha,hFg,hg,hel⟩:=HE.o.resolve_left (fun e=>by rw[e]at hy;simp at hy);obtain⟨c',hC,q0,q1,q2',q3⟩:=hel j y hy;rw[←HR.below.cell (p:=⟨g,_,none⟩) hg]at q0 q1 q2' q3;have hgl:g<wr.heap.size:=znj hg HR.below.size;have HBK:=zhd (show(ks.length+[(⟨0,0,⟨#[]⟩,none,0,0⟩:VC)].length)*56≤140737488355328∧ks.length+[(⟨0,0,⟨#[]⟩,none,0,0⟩:VC)].length≤maxLen∧ks.length+[(⟨0,0,⟨#[]⟩,none,0,0⟩:VC)].length=j+1 from by
    have e:ks.length+[(⟨0,0,⟨#[]⟩,none,0,0⟩:VC)].length=j+1:=by rw[hkl];rfl
    rw[e];exact⟨by omega,by unfold maxLen;omega,rfl⟩)
   have hjn':(j:Int)<kn:=by omega
   have hwj:wrap64 ((j:Int)+1)=(j:Int)+1:=by unfold wrap64;omega
   have CLW:=zhd (fun W' (B:Below wr.heap.size wr W')=>yav y c'.kind c'.n c'.s c'.la c'.ln c'.lc F W' ((hC.keep (S:=fun _=>False) (zkb HR.below) (fun _ _ f=>f)).keep (S:=fun _=>False) (zkb B) (fun _ _ f=>f)) (HX.o.2.1 y (zmg hy)));have hta:p.consts.take (j+1)=p.consts.take j++[y]:=by rw[List.take_add_one,hy];rfl
   have NB:=zhd (show∀g,(Value.slice a3 j c3).ownBlock=some g→g≠W.heap.size+2 from fun g hg e=>by have:=HR.own g hg;have:=HR.low;omega);have HY:=zh6 HR hKR hKP hta hgk hkl;subst ha;clear hel hC hy hta HR hKR hKP hgk hkl hj;go_upto_region 6 with(fail);refine yaa ?_;intro w5 hw5;have B5:=zba hw5;have hb5:=zha hw5;have r0:=zca hb5 0 rfl;have r1:=zca hb5 1 rfl;have r2:=zca hb5 2 rfl;have r3:=zca hb5 3 rfl;have rl:=zlt hb5;have hz5:=(B5.block _ zl).trans HY.o.1.b3;have s1:=zca hz5 1 rfl;have sl:=zlt hz5;have CL:=zhd (CLW.o w5.drew B5.drew);have H5:=zh3 B5 hz5 (HY.o.2.1.below B5);clear hw5 B5 hb5 hz5 q0 q1 q2' q3 z0 z1 z2 z3 zf zl y0 yl x0 x1 x2 x3 xf xl;go_region_law (first
    |(go_simp;go_at_call 58;refine CL.o.mono ?_;rintro e w8 ⟨⟨k8,n8,s8,la8,ln8,lc8⟩,rfl,H8⟩;have hb8:=(H8.o.2.block (W.heap.size+2) sl).trans H5.o.2.1;have y3:w8.cell? ⟨W.heap.size+2,1,none⟩=some (.slice a3 j c3):=(by rw[zch hb8];rfl);have fy:∀o,w8.frozen? ⟨W.heap.size+2,o,none⟩=false:=(fun o=>zfr hb8 o);have ly:W.heap.size+2<w8.heap.size:=(zlt hb8);have HG:=zh2 hb8 (H5.o.2.2.drew.below H8.o.2);clear hb8)
    |(refine yaA (α:=VC) (o:=⟨some 27,_,_,_,_,_⟩) yfc (by rfl) (.tmp 23) (.tmp 26) (by rfl) (v:=.slice a3 j c3) (u:=.slice (some ⟨w8.heap.size,0,none⟩) 1 1) (by rfl) (by rfl) (xs:=ks) (ys:=[⟨k8,n8,s8,la8,ln8,lc8⟩]) (HG.o.2.alloc _) (RowAt.lit (α:=VC) (y:=⟨k8,n8,s8,la8,ln8,lc8⟩) (znb _ _)) HBK.o.1 HBK.o.2.1 (j+1) HBK.o.2.2 ?_;intro a1 cp w9 hr1 hk1 hf1;have hb9:=(hk1.block (W.heap.size+2) (by simp;omega) (fun e=>NB.o _ e rfl)).trans ((zne _ _ _ ly).trans HG.o.1);have t3:w9.cell? ⟨W.heap.size+2,1,none⟩=some (.slice a3 j c3):=(by rw[zch hb9];rfl);have fz:∀o,w9.frozen? ⟨W.heap.size+2,o,none⟩=false:=(fun o=>zfr hb9 o);have lz:W.heap.size+2<w9.heap.size:=zlt hb9;have FF:=zh3 hr1 hk1 hf1;clear hr1 hk1 hf1 hb9))
   all_goals
    go_wp2_with fail;go_roundg (kn - (j+1))
    case measure=>have:=HY.o.2.2.2.2.1;omega
    case rel=>exact⟨j+1,by simp,hjn,rfl,zhd ⟨_,by rw[HY.o.2.2.2.1];exact HY.o.1.next HY.o.2.2.1 H5.o.1.drew H8.o.1 H8.o.2 FF.o.1 FF.o.2.1 FF.o.2.2⟩⟩
  ·obtain rfl:j=kn:=by omega
   have hjj:¬(j:Int)<j:=by omega
   have hT:p.consts.take j=p.consts:=zmj (by have:=HX.o.2.2.2.2.1;omega);rw[hT]at HR hKP;have HNR:=zhd (HX.o.1.names.keep (S:=fun _=>False) (zkb HR.below) (fun _ _ f=>f));have HBN:=zhd (show(([]:List ByteArray).length+p.names.length)*16≤140737488355328∧([]:List ByteArray).length+p.names.length≤maxLen from by have:=HX.o.2.2.1.2.2;unfold maxLen;simp;omega);have HY:=zhd HR;clear hT HR hKR hKP hgk hj
   go_wp2_with (at_builtin;go_must (refine yg7 (α:=ByteArray) yom rfl (.tmp 31) (.tmp 33) rfl rfl rfl (RowAt.nil _ _) HNR.o HBN.o.1 HBN.o.2 ?_);intro a5 q5 w5 hr5 hk5 hf5;simp only[List.length_nil,Nat.zero_add,List.nil_append]at hr5 hf5⊢;have hb3:=(hk5.block (W.heap.size+2) zl (fun e=>by cases e)).trans HY.o.b3;have hb2:=(hk5.block (W.heap.size+1) xl (fun e=>by cases e)).trans HY.o.b2;have t0:w5.cell? ⟨W.heap.size+2,0,none⟩=some (.slice a2 cn2 q2):=(by rw[zch hb3];rfl);have t1:w5.cell? ⟨W.heap.size+2,1,none⟩=some (.slice a3 j c3):=(by rw[zch hb3];rfl);have t2:w5.cell? ⟨W.heap.size+2,2,none⟩=some (.slice none 0 0):=(by rw[zch hb3];rfl);have t3:w5.cell? ⟨W.heap.size+2,3,none⟩=some (.int .i64 pl):=(by rw[zch hb3];rfl);have tf:∀o,w5.frozen? ⟨W.heap.size+2,o,none⟩=false:=(fun o=>zfr hb3 o);have tl:=zlt hb3;have u0:w5.cell? ⟨W.heap.size+1,0,none⟩=some (.slice none 0 0):=(by rw[zch hb2];rfl);have u1:w5.cell? ⟨W.heap.size+1,1,none⟩=some (.slice none 0 0):=(by rw[zch hb2];rfl);have u2:w5.cell? ⟨W.heap.size+1,2,none⟩=some (.slice none 0 0):=(by rw[zch hb2];rfl);have u3:w5.cell? ⟨W.heap.size+1,3,none⟩=some (.int .i64 0):=(by rw[zch hb2];rfl);have uf:∀o,w5.frozen? ⟨W.heap.size+1,o,none⟩=false:=(fun o=>zfr hb2 o);have ul:=zlt hb2;have H5:=zh3 hr5 hk5 hf5;clear hr5 hk5 hf5 hb3 hb2)
   refine zng (v:=.agg #[.slice a2 cn2 q2,.slice a3 j c3,.slice a5 p.names.length q5,.int .i64 pl]) (by simp only[results,Tryz.results52];go_simp) rfl ⟨⟨a2,cn2,q2,a3,j,c3,a5,p.names.length,q5,pl⟩,rfl,zhd ⟨?_,?_⟩⟩
   ·have K5:Keeps (fun _=>False) wr w5:=H5.o.2.1.mono (fun _ _ e=>by cases e)
    have KZ:=(((((Keeps.refl (fun j=>j=W.heap.size+2∨j=W.heap.size+1) w5).setCell (p:=⟨W.heap.size+1+1,2,none⟩) (.inl (.inl rfl)) (.slice a5 p.names.length q5)).setCell (p:=⟨W.heap.size+1,0,none⟩) (.inl (.inr rfl)) (.slice a2 cn2 q2)).setCell (p:=⟨W.heap.size+1,1,none⟩) (.inl (.inr rfl)) (.slice a3 j c3)).setCell (p:=⟨W.heap.size+1,2,none⟩) (.inl (.inr rfl)) (.slice a5 p.names.length q5)).setCell (p:=⟨W.heap.size+1,3,none⟩) (.inl (.inr rfl)) (.int .i64 pl);obtain⟨ks,hR,hP⟩:=HY.o.row.cells;have hlow:=HY.o.low;refine⟨RdF.of_row ((HY.o.code.keep K5 (fun _ _ f=>f)).keep KZ (fun g hg e=> ?_)) (fun g hg=> ?_),VF.of (RdF.of_row ((hR.keep K5 (fun _ _ f=>f)).keep KZ (fun g hg e=> ?_)) (fun g hg=> ?_)) (((hP.keep K5 (fun _ _ f=>f)).keep KZ (fun g hg e=> ?_)).mono (fun g hg _=> ?_)),RdF.of_row (H5.o.1.keep KZ (fun g hg e=> ?_)) (fun g hg=> ?_),HX.o.1.pl⟩
    ·have:=(HY.o.cown g hg).1;omega
    ·show W.heap.size≤g;have:=(HY.o.cown g hg).1;omega
    ·have:=HY.o.own g hg;omega
    ·show W.heap.size≤g;have:=HY.o.own g hg;omega
    ·have:=hg.1;omega
    ·have:=hg.1;omega
    ·rcases H5.o.2.2 g hg with h|h
     ·cases h
     ·omega
    ·rcases H5.o.2.2 g hg with h|h
     ·cases h
     ·show W.heap.size≤g;omega
   ·have KZ:=(((((Keeps.refl (fun j=>j=W.heap.size+2∨j=W.heap.size+1) w5).setCell (p:=⟨W.heap.size+1+1,2,none⟩) (.inl (.inl rfl)) (.slice a5 p.names.length q5)).setCell (p:=⟨W.heap.size+1,0,none⟩) (.inl (.inr rfl)) (.slice a2 cn2 q2)).setCell (p:=⟨W.heap.size+1,1,none⟩) (.inl (.inr rfl)) (.slice a3 j c3)).setCell (p:=⟨W.heap.size+1,2,none⟩) (.inl (.inr rfl)) (.slice a5 p.names.length q5)).setCell (p:=⟨W.heap.size+1,3,none⟩) (.inl (.inr rfl)) (.int .i64 pl)
    have hlow:=HY.o.low;have hb:=HY.o.below.size;have K5:Keeps (fun _=>False) wr w5:=H5.o.2.1.mono (fun _ _ e=>by cases e);exact(HY.o.below.trans ((K5.below (znc _) (fun _ _ f=>f)).mono hb)).trans (KZ.below (by have:=K5.size;omega) (fun jz hj e=>by omega))
end Go.Proofs.YtpagmlndgblhhaaGreatDoor
namespace Go.Va
open Go.Own Go.RowKit
open Go.Proofs.YtpagmlndgblhhaaGreatDoor
theorem yfT:∀l:List Val,yaI (l.map yab)=yaI l
 |[]=>rfl
 |x::r=>by rw[List.map_cons,yaI,yaI,yaO,yfT r]
theorem ycM (p:Img):∀l:List In,ybp (yae p) l=ybp p l
 |[]=>rfl
 |c::r=>by
  have hm:∀k,mostL (yae p) k=mostL p k:=fun k=>by unfold mostL yae;rw[zmd]
  rw[ybp,ybp,hm,ycM p r]
theorem yiy (p:Img):imgL (yae p)=imgL p:=by
 unfold imgL;rw[ycM];unfold yae;simp only[zmd,yfT]
theorem yfV (p:Img):ya1 (yae p)=ya1 p:=by
 unfold ya1;rw[yiy];rfl
end Go.Va
namespace Go.Proofs.YtpagmlndgblhhaaGreatDoor
open Go.RowKit Go.Own Go.Own.MapTy Go.Va Go.Sort
open Go.Own.Cells (sz enc)
theorem yjB {n:Nat}(h:n≤16):(madeCells #[.int .i64 0,.int .i64 0,.string .empty,.slice none 0 0] (n*4)).toList=(List.replicate n (⟨0,0,.empty,none,0,0⟩:VC)).flatMap enc:=by
 have e:∀k,(madeCells #[.int .i64 0,.int .i64 0,.string .empty,.slice none 0 0] k).toList=(List.range k).map (fun j=>(#[.int .i64 0,.int .i64 0,.string .empty,.slice none 0 0]:Array Value)[j%4]!):=fun k=>by simp[madeCells]
 rw[e];have hc:n=0∨n=1∨n=2∨n=3∨n=4∨n=5∨n=6∨n=7∨n=8∨n=9∨n=10∨n=11∨n=12∨n=13∨n=14∨n=15∨n=16:=by omega
 rcases hc with rfl|rfl|rfl|rfl|rfl|rfl|rfl|rfl|rfl|rfl|rfl|rfl|rfl|rfl|rfl|rfl|rfl<;>rfl
theorem ymm:(Tryz.prog.info? 38).map (fun i=>(i.zero,i.size,i.bytes))=some (some (.agg #[.int .i64 0,.int .i64 0,.string .empty,.slice none 0 0]),4,56):=by kernel_rfl
def ynJ (W:World)(p:Img)(b:Nat)(v:MV)(w':World):Prop:=MX TT (fun j=>W.heap.size≤j) w' b v (yae p) (ms0 (yae p))∧(∀j,MO v b j→W.heap.size≤j)∧Below W.heap.size W w'
def ymI (W:World)(p:Img)(er:Int)(e:Ending)(w':World):Prop:=
 (er≠0∧e= .returned (.tuple #[.pointer none,.int .i64 er])∧Hid (Below W.heap.size W w'))∨(er=0∧∃(b:Nat) (v:MV),e= .returned (.tuple #[.pointer (some ⟨b,0,none⟩),.int .i64 0])∧Hid (ynJ W p b v w'))
theorem ymc {W w2 w3 w4:World}{p:Img}{i3:IC}{n:Nat}(hW:W.heap.size≤w2.heap.size)(B23:Below w2.heap.size w2 w3)(BW:Below W.heap.size W w3)(H3:IAt (fun g=>w2.heap.size≤g) w3 i3 (yae p))(B4:Below w3.heap.size w3 w4)
  (hm4:w4.heap[w3.heap.size]? =some (.cells (ybE ⟨.slice none 0 0,i3,.slice none 0 0,⟨0,0,⟨#[]⟩,none,0,0⟩,.slice none 0 0,.slice none 0 0,.slice none 0 0,.slice none 0 0⟩ (ms0 (yae p))).toArray 123 (0,0)))(hs4:w4.heap.size=w3.heap.size+1)(hn:p.places=n)(hn16:n≤16):
  ynJ W p w3.heap.size ⟨.slice none 0 0,i3,.slice (some ⟨w4.heap.size,0,none⟩) n n,⟨0,0,⟨#[]⟩,none,0,0⟩,.slice none 0 0,.slice none 0 0,.slice none 0 0,.slice none 0 0⟩
   ((w4.setCell ⟨w3.heap.size,5,none⟩ (.slice (some ⟨w4.heap.size,0,none⟩) n n)).alloc (.cells (madeCells #[.int .i64 0,.int .i64 0,.string .empty,.slice none 0 0] (n*4)) 38)):=by
 obtain⟨w5,hw5⟩:∃w5,w5=w4.setCell ⟨w3.heap.size,5,none⟩ (.slice (some ⟨w4.heap.size,0,none⟩) n n):=⟨_,rfl⟩;have hs5:w5.heap.size=w4.heap.size:=by rw[hw5];simp[World.setCell]
 have h5:w5.heap[w3.heap.size]? =some (.cells (ybE ⟨.slice none 0 0,i3,.slice (some ⟨w4.heap.size,0,none⟩) n n,⟨0,0,⟨#[]⟩,none,0,0⟩,.slice none 0 0,.slice none 0 0,.slice none 0 0,.slice none 0 0⟩ (ms0 (yae p))).toArray 123 (0,0)):=by
  rw[hw5];simp only[World.setCell,zni,hm4];rfl
 have B35:Below w3.heap.size w3 w5:=by rw[hw5];exact B4.trans ⟨rfl,rfl,rfl,by simp[World.setCell],fun k hk=>znn _ _ _ _ (Nat.ne_of_lt hk)⟩
 rw[←hw5];obtain⟨w6,hw6⟩:∃w6,w6=w5.alloc (.cells (madeCells #[.int .i64 0,.int .i64 0,.string .empty,.slice none 0 0] (n*4)) 38):=⟨_,rfl⟩;have h6:w6.heap[w4.heap.size]? =some (.cells (madeCells #[.int .i64 0,.int .i64 0,.string .empty,.slice none 0 0] (n*4)) 38 (0,0)):=by rw[hw6,←hs5];exact znb _ _
 have B56:=zba hw6;rw[←hw6];have h65:=(B56.block w3.heap.size (by omega)).trans h5;have B36:Below w3.heap.size w3 w6:=B35.trans (B56.mono (by omega));have hmo:∀j,MO ⟨.slice none 0 0,i3,.slice (some ⟨w4.heap.size,0,none⟩) n n,⟨0,0,⟨#[]⟩,none,0,0⟩,.slice none 0 0,.slice none 0 0,.slice none 0 0,.slice none 0 0⟩ w3.heap.size j→j=w3.heap.size∨j=w4.heap.size:=by
  rintro j ⟨i,hi⟩
  match i,hi with
  |0,hi=>cases hi;exact .inl rfl
  |1,hi=>cases hi
  |2,hi=>cases hi;exact .inr rfl
  |3,hi=>cases hi
  |4,hi=>cases hi
  |5,hi=>cases hi
  |6,hi=>cases hi
  |n+7,hi=>cases hi
 have hz:=B23.size;refine⟨⟨h65,XRow.nil _ _ _,?_,XRow.nil _ _ _,XRow.nil _ _ _,XRow.nil _ _ _,XRow.nil _ _ _,?_,yaD _ _,?_⟩,fun j hj=> ?_,?_⟩
 ·refine XRow.of (cs:=List.replicate n (⟨0,0,.empty,none,0,0⟩:VC)) (RowAt.made h6 (yjB hn16) (by simp) (znf hn16 (by decide))) ⟨by simp[ms0,yae,hn],fun i c x hc hx=> ?_⟩
  have hc':=List.eq_of_mem_replicate (zmg hc);have hx':=List.eq_of_mem_replicate (zmg hx);subst hc' hx';exact yaD _ _
 ·have H3':=H3.mono (G:=fun g=>w2.heap.size≤g∧g<w3.heap.size) (fun g h1 h2=>⟨h1,h2⟩)
  have H6:=H3'.below B36;exact H6.mono (fun g hg _=>⟨fun e=>by rcases hmo g e with rfl|rfl<;>omega,show W.heap.size≤g by omega⟩)
 ·rintro i j g hi hj
  match i,hi with
  |0,hi=>
   cases hi
   match j,hj with
   |0,hj=>rfl
   |2,hj=>have h:w4.heap.size=w3.heap.size:=Option.some.inj hj;omega
   |1,hj=>cases hj
   |3,hj=>cases hj
   |4,hj=>cases hj
   |5,hj=>cases hj
   |6,hj=>cases hj
   |n+7,hj=>cases hj
  |2,hi=>
   cases hi
   match j,hj with
   |0,hj=>have h:w3.heap.size=w4.heap.size:=Option.some.inj hj;omega
   |2,hj=>rfl
   |1,hj=>cases hj
   |3,hj=>cases hj
   |4,hj=>cases hj
   |5,hj=>cases hj
   |6,hj=>cases hj
   |n+7,hj=>cases hj
  |1,hi=>cases hi
  |3,hi=>cases hi
  |4,hi=>cases hi
  |5,hi=>cases hi
  |6,hi=>cases hi
  |n+7,hi=>cases hi
 ·rcases hmo j hj with rfl|rfl<;>have:=BW.size<;>omega
 ·exact BW.trans (B36.mono BW.size)
theorem ygD (F:Nat→Prop)(W:World)(i:IC)(p:Img)(H:IAt F W i p)(hw:∀x∈p.consts,x.wf)(r:Fa×Int×Int)(hr:ya1 p=r):
  Calls Tryz.prog 14 #[.agg #[.slice i.ca i.cn i.cc,.slice i.ka i.kn i.kc,.slice i.na i.nn i.nc,.int .i64 i.pl]] W (ymI W p r.2.2):=by
 obtain⟨w0,hw0⟩:∃w0,w0=W.alloc (.cells #[.slice i.ca i.cn i.cc,.slice i.ka i.kn i.kc,.slice i.na i.nn i.nc,.int .i64 i.pl] 28):=⟨_,rfl⟩;have B0:=zba hw0;have hB:=zha hw0;have H0:=H.keep (S:=fun _=>False) (zkb B0) (fun _ _ f=>f);have CK:=zhd (yh2 F i p w0 H0 hw r hr);have c0:=zca hB 0 rfl;have c1:=zca hB 1 rfl;have c2:=zca hB 2 rfl;have c3:=zca hB 3 rfl;have l0:=zlt hB;have HX:=zh5 B0 hB H0 hw hr;clear B0 hB H0 H hw hr;go_enter Tryz.func14,Tryz.ntmps14;go_wp2_with fail;rw[←hw0];clear hw0;refine CK.o.mono ?_;rintro e w1 ⟨hv,rfl,H1⟩;obtain⟨fa,at_,er⟩:=r;dsimp only at H1⊢;obtain⟨xa,xc,rfl⟩:=H1.o.1.slice;go_upto_region 2 with(fail);refine yaa ?_;intro w2 hw2;have B2:Below w1.heap.size w1 w2:=by rw[hw2];exact(zal).alloc (by simp) _
 have g2:w2.heap[w1.heap.size+1]? =some (.cells #[.int .i64 at_,.int .i64 er] 112 (0,0)):=by rw[hw2];exact yar
 have e1:=zca g2 1 rfl;have el:=zlt g2;have B02:Below w0.heap.size w0 w2:=H1.o.2.2.trans (B2.mono H1.o.2.2.size);have hb2:=(B02.block W.heap.size l0).trans HX.o.2.1;have BW2:=HX.o.1.trans (B02.mono HX.o.1.size);have H2:=zh3 B02 hb2 BW2;clear hw2 B2 g2 B02 c0 c1 c2 c3 l0 CK;cases hez:(er !=0)with
 |true=>
  have hne:er≠0:=by simpa using hez
  have HN:=zhd hne;clear hb2 BW2 hne;go_wp2_with fail;go_region
  all_goals
   go_wp2_with fail;exact zng (v:=.tuple #[.pointer none,.int .i64 er]) (by simp only[results,Tryz.results14];go_simp) rfl (.inl ⟨HN.o,rfl,zhd H2.o.2.2.drew⟩)
 |false=>
  obtain rfl:er=0:=by simpa using hez
  clear hez;have K:=(yc1 HX.o.2.2.2.2).2 rfl;have hok:=ybL K.2.img;have hsz:∀x∈p.consts,szV x≤1073741824:=fun x hx=>by have:=yln K.2.img x hx;omega
  have CL:=zhd (yfI F w2 i p (HX.o.2.2.1.keep (S:=fun _=>False) (zkb H2.o.1) (fun _ _ f=>f)) hsz ⟨by omega,by omega,by omega⟩);have c0:=zca hb2 0 rfl;have c1:=zca hb2 1 rfl;have c2:=zca hb2 2 rfl;have c3:=zca hb2 3 rfl;have l2:=zlt hb2;have hpl:i.pl=p.places:=HX.o.2.2.1.pl;obtain⟨n,hn⟩:∃n:Nat,p.places=n:=⟨p.places.toNat,by omega⟩;have hn16:n≤16:=by omega
  have HP:=zh4 hpl hn hn16 K.2;clear hb2 BW2 hok hsz K hpl hn hn16;go_wp2_with fail;refine CL.o.mono ?_;rintro e w3 ⟨i3,rfl,H3⟩;have hb3:=(H3.o.2.block W.heap.size l2).trans H2.o.2.1;have d3:w3.cell? ⟨W.heap.size,3,none⟩=some (.int .i64 (n:Int)):=by rw[zch hb3,←HP.o.2.1,←HP.o.1];rfl
  have l3:=zlt hb3;have HB3:=zhd hb3;clear hb3 c0 c1 c2 c3 l2;go_upto_region 5 with(fail);refine yaa ?_;intro w4 hw4;have hm4:w4.heap[w3.heap.size]? =some (.cells (ybE ⟨.slice none 0 0,i3,.slice none 0 0,⟨0,0,⟨#[]⟩,none,0,0⟩,.slice none 0 0,.slice none 0 0,.slice none 0 0,.slice none 0 0⟩ (ms0 (yae p))).toArray 123 (0,0)):=by
   rw[hw4];exact znb _ _
  have B4:=zba hw4;have hs4:w4.heap.size=w3.heap.size+1:=by rw[hw4];simp
  have hb4:=(B4.block W.heap.size l3).trans HB3.o;have d4:w4.cell? ⟨W.heap.size,3,none⟩=some (.int .i64 (n:Int)):=by rw[zch hb4,←HP.o.2.1,←HP.o.1];rfl
  have l4:=zlt hb4;have m5:=zca hm4 5 rfl;have mf:∀o,w4.frozen? ⟨w3.heap.size,o,none⟩=false:=fun o=>zfr hm4 o;have ml:=zlt hm4;have H4:=zh3 hm4 B4 hs4;clear hw4 hm4 B4 hs4 hb4 d3 l3;obtain⟨ti,hti,tz,ts,tb⟩:∃ti,Tryz.prog.info? 38=some ti∧ti.zero=some (.agg #[.int .i64 0,.int .i64 0,.string .empty,.slice none 0 0])∧ti.size=4∧ti.bytes=56:=by
   have h:=ymm;cases hq:Tryz.prog.info? 38 with
   |none=>rw[hq]at h;cases h
   |some ti=>
    rw[hq]at h;simp only[Option.map_some,Option.some.injEq,Prod.mk.injEq]at h;exact⟨ti,rfl,h.1,h.2.1,h.2.2⟩
  have hn16:=HP.o.2.2.1;have hmk:∀W:World,(Instr.makeSlice 25 (.int .i64 (n:Int)) (.int .i64 (n:Int))).run Tryz.prog W= .ok (.slice (some ⟨W.heap.size,0,none⟩) n n) (W.alloc (.cells (madeCells #[.int .i64 0,.int .i64 0,.string .empty,.slice none 0 0] (n*4)) 38)):=fun W=>by
   have:=run_make (P:=Tryz.prog) W 25 38 ti (.agg #[.int .i64 0,.int .i64 0,.string .empty,.slice none 0 0]) Tryz.underlying25 hti tz .i64 .i64 n n (by omega) (by omega) (by rw[tb];omega) (by omega);rw[ts]at this;simpa[Value.cells]using this
  clear hti tz ts tb hn16;go_wp2_with fail;exact zng (v:=.tuple #[.pointer (some ⟨w3.heap.size,0,none⟩),.int .i64 0]) (by simp only[results,Tryz.results14];go_simp) rfl (.inr ⟨rfl,w3.heap.size,_,rfl,zhd (ymc (H2.o.2.2.size) H3.o.2 (H2.o.2.2.trans (H3.o.2.mono H2.o.2.2.size)) H3.o.1 H4.o.2.1 H4.o.1 H4.o.2.2 HP.o.2.1 HP.o.2.2.1)⟩)
end Go.Proofs.YtpagmlndgblhhaaGreatDoor
