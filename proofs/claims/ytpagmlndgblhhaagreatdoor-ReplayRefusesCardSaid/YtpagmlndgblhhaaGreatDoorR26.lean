/- Parts of the proof: what the functions and the plain laws give that later parts lean on. Conditions: none beyond those that each theorem names. -/
import Derived.Test.YtpagmlndgblhhaaGreatDoorR25
set_option maxRecDepth 100000
set_option maxHeartbeats 8000000
namespace Go.Proofs.YtpagmlndgblhhaaGreatDoor
open Go.RowKit Go.Own Go.Own.MapTy Go.Va Go.Sort
open Go.Own.Cells (sz enc)
set_option linter.unusedVariables false
abbrev TR:TypeId:=59
theorem ybf {N:Nat}(id t k a bb:Int)(nm tx:ByteArray)(x:Val)(vk vn:Int)(vs:ByteArray)(la:Option Addr)(ln lc:Nat)(F:Nat→Prop)(W:World)(G:Gl Tryz.prog N W)(C:CF F W ⟨vk,vn,vs,la,ln,lc⟩ x)(hw:x.wf)(r:Int)(hr:yaj ⟨id,t,k,a,bb,nm,tx,x⟩=r):
  Calls Tryz.prog 16 #[.agg #[.int .i64 id,.int .i64 t,.int .i64 k,.int .i64 a,.int .i64 bb,.string nm,.string tx,.int .i64 vk,.int .i64 vn,.string vs,.slice la ln lc]] W (fun e w'=>e= .returned (.int .i64 r)∧Below W.heap.size W w'):=by
 have hvk:vk=x.kind:=C.kind;rw[yax]at hr;dsimp only at hr;rw[←hvk]at hr;exact yau id t k a bb nm tx vk vn vs la ln lc W G (checkL x) (fun W' BW=>yaB x vk vn vs la ln lc F W' (C.keep (S:=fun _=>False) (zkb BW) (fun _ _ f=>f)) hw _ rfl) _ hr
section
variable{Z:Nat→Prop} {W:World} {rb b mb:Nat} {v:MV} {p:Img} {r:RP}
theorem RPX.q {tr:TypeId}(R:RPX tr Z W rb b mb v p r):W.cell? ⟨rb,0,none⟩=some (.pointer (some ⟨b,0,none⟩))∧W.cell? ⟨rb,1,none⟩=some (.int .i64 (r.seen:Int))∧W.cell? ⟨rb,2,none⟩=some (.int .i64 (r.next:Int))∧W.cell? ⟨rb,3,none⟩=some (.map (some mb))∧W.cell? ⟨rb,4,none⟩=some (.bool r.closed)∧W.cell? ⟨rb,5,none⟩=some (.int .i64 r.err)∧rb<W.heap.size∧∀o,W.frozen? ⟨rb,o,none⟩=false:=
 ⟨by rw[zch R.h];rfl,by rw[zch R.h];rfl,by rw[zch R.h];rfl,by rw[zch R.h];rfl,by rw[zch R.h];rfl,by rw[zch R.h];rfl,zlt R.h,fun o=>zfr R.h o⟩
end
theorem ydG
  {Z:Nat→Prop}(rb b mb:Nat)(v:MV)(p:Img)(r:RP)(W:World)(R:RPX TR Z W rb b mb v p r)
  :Calls Tryz.prog 36 #[.pointer (some ⟨rb,0,none⟩)] W (fun e w'=>e= .returned (.int .i64 (r.seen:Int))∧Below W.heap.size W w'):=by
 obtain⟨r0,r1,r2,r3,r4,r5,rl,_⟩:=R.q;clear R;go_enter Tryz.func36,Tryz.ntmps36;go_wp2_with fail;go_ret;exact⟨rfl,znv _ _⟩
theorem yie
  {Z:Nat→Prop}(rb b mb:Nat)(v:MV)(p:Img)(r:RP)(W:World)(R:RPX TR Z W rb b mb v p r)
  :Calls Tryz.prog 22 #[.pointer (some ⟨rb,0,none⟩)] W (fun e w'=>e= .returned (.int .i64 (r.next:Int))∧Below W.heap.size W w'):=by
 obtain⟨r0,r1,r2,r3,r4,r5,rl,_⟩:=R.q;clear R;go_enter Tryz.func22,Tryz.ntmps22;go_wp2_with fail;go_ret;exact⟨rfl,znv _ _⟩
theorem ycs
  {Z:Nat→Prop}(rb b mb:Nat)(v:MV)(p:Img)(r:RP)(W:World)(R:RPX TR Z W rb b mb v p r)
  :Calls Tryz.prog 17 #[.pointer (some ⟨rb,0,none⟩)] W (fun e w'=>e= .returned (.bool r.closed)∧Below W.heap.size W w'):=by
 obtain⟨r0,r1,r2,r3,r4,r5,rl,_⟩:=R.q;clear R;go_enter Tryz.func17,Tryz.ntmps17;go_wp2_with fail;go_ret;exact⟨rfl,znv _ _⟩
theorem yhB
  {Z:Nat→Prop}(rb b mb:Nat)(v:MV)(p:Img)(r:RP)(W:World)(R:RPX TR Z W rb b mb v p r)
  (k t a bb:Int)(nm:ByteArray)(vk vn:Int)(vs:ByteArray)(la:Option Addr)(ln lc:Nat)(x:Val)(q:Bool)(hq:ybP r.fired ⟨k,t,a,bb,nm,x⟩=q):
  Calls Tryz.prog 50 #[.pointer (some ⟨rb,0,none⟩),.agg #[.int .i64 k,.int .i64 t,.int .i64 a,.int .i64 bb,.string nm,.int .i64 vk,.int .i64 vn,.string vs,.slice la ln lc]] W (fun e w'=>e= .returned (.bool q)∧Below W.heap.size W w'):=by
 obtain⟨w0,hw0⟩:∃w0,w0=W.alloc (.cells #[.int .i64 k,.int .i64 t,.int .i64 a,.int .i64 bb,.string nm,.int .i64 vk,.int .i64 vn,.string vs,.slice la ln lc] 52):=⟨_,rfl⟩;have B0:=zba hw0;have hB:=zha hw0;obtain⟨c0,c1,c2,c3,c4,c5,c6,c7,c8,cl,_⟩:=yhP hB;have R0:=R.ext B0;obtain⟨r0,r1,r2,r3,r4,r5,rl,_⟩:=R0.q;have hlk:=fun X hX=>yjx R0.fm a (decide (a∈r.fired)) rfl X hX;have H0:=zhd B0;unfold ybP at hq;dsimp only at hq;clear B0 hB R R0;by_cases hk:k=2
 ·subst hk
  rw[show((2:Int)==2)=true from rfl,Bool.true_and]at hq;obtain⟨d,hd⟩:∃d,decide (a∈r.fired)=d:=⟨_,rfl⟩;rw[hd]at hq hlk;subst hq;clear hd;go_enter Tryz.func50,Tryz.ntmps50;go_upto_region 1 with(fail);rw[←hw0];clear hw0;go_region
  all_goals
   go_wp2_with fail;go_ret;exact⟨rfl,H0.o.drew⟩
 ·have n2:(k==2)=false:=by rw[zna];exact hk
  rw[n2,Bool.false_and]at hq;subst hq;clear hlk hk;go_enter Tryz.func50,Tryz.ntmps50;go_upto_region 1 with(fail);rw[←hw0];clear hw0;go_region
  all_goals
   go_wp2_with fail;go_ret;exact⟨rfl,H0.o.drew⟩
def ynC (Z:Nat→Prop)(rb b mb:Nat)(v:MV)(p:Img)(r:RP)(W:World)(n:Nat)(e:Ending)(w':World):Prop:=e= .returned (.tuple #[])∧Hid (RPX TR Z w' rb b mb v p {r with next:=n}∧RPK rb b mb v W v w'∧Keeps (fun j=>j=rb) W w')
def yow (Z:Nat→Prop)(rb b mb:Nat)(v:MV)(p:Img)(r:RP)(W:World)(L:List Cm)(gk:Nat)(wr:World):Prop:=
 ∃n:Nat,n≤L.length∧gk=L.length - n∧RPX TR Z wr rb b mb v p {r with next:=n}∧RPK rb b mb v W v wr∧Keeps (fun j=>j=rb) W wr∧ybr r.fired (L.drop n) n=ybr r.fired (L.drop r.next) r.next
theorem ykE
  {Z:Nat→Prop}(rb b mb:Nat)(v:MV)(p:Img)(r:RP)(W:World)(R:RPX TR Z W rb b mb v p r)
  (L:List Cm)(F:Nat→Prop)(am:Option Addr)(n cm:Nat)(hn:L.length=n)(E:XRd F W (.slice am n cm) L)(hF:∀g,F g→¬g=rb)(hnx:r.next≤n)(hl:n≤4294967296):
  Calls Tryz.prog 101 #[.pointer (some ⟨rb,0,none⟩),.slice am n cm] W (ynC Z rb b mb v p r W (ybr r.fired (L.drop r.next) r.next)):=by
 have HX:=zh5 R E hF hl hn;have HN:=zhd hnx;clear R E hF hnx hl hn;go_enter Tryz.func101,Tryz.ntmps101;go_wp2_with fail;go_loopg [] (n - r.next) (fun gk wr=>yow Z rb b mb v p r W L gk wr)
 case atStart=>exact⟨r.next,by have h1:=HN.o;have h2:=HX.o.2.2.2.2;omega,by rw[HX.o.2.2.2.2],HX.o.1,RPK.refl _ _ _ _ _,Keeps.refl _ _,rfl⟩
 case round=>
  obtain⟨i,hi,hgk,R1,K1,K2,hsk⟩:=hrel;rw[HX.o.2.2.2.2]at hi hgk;obtain⟨r0,r1,r2,r3,r4,r5,rl,rf⟩:=R1.q;dsimp only at r0 r1 r2 r3 r4 r5;by_cases hin:i<n
  ·obtain⟨c,hc⟩:=yad (l:=L) (k:=i) (by rw[HX.o.2.2.2.2];exact hin)
   obtain⟨g,off,vk,vn,vs,la,ln,lc,rfl,hFg,hg,dv,y0,y1,y2,y3,y4,y5,y6,y7,y8⟩:=ylt HX.o.2.1 hc;have hgr:=HX.o.2.2.1 g hFg;rw[←K2.cell (p:=⟨g,_,none⟩) hg hgr]at y0 y1 y2 y3 y4 y5 y6 y7 y8;have hgl:g<wr.heap.size:=znj hg K2.size;have hin':(i:Int)<(n:Int):=by omega
   have hwi:wrap64 ((i:Int)+1)=(i:Int)+1:=by have:=HX.o.2.2.2.1;unfold wrap64;omega
   have hdr:L.drop i=c::L.drop (i+1):=by
    rw[znr (zge hc).1,(zge hc).2]
   rw[hdr,ybr]at hsk;obtain⟨lt,hlt⟩:∃lt,ybP r.fired c=lt:=⟨_,rfl⟩;have LT:=zhd (fun X (B:Below wr.heap.size wr X)=>yhB rb b mb v p {r with next:=i} X (R1.ext B) c.kind c.time c.a c.b c.name vk vn vs la ln lc c.v lt hlt);rw[hlt]at hsk;have HM:=zhd (show n - (i+1)<gk by omega);clear hlt;cases lt with
   |true=>
    rw[znm]at hsk;have H1:=zh4 R1 K1 K2 hsk;clear hsk hdr hc hgk R1 K1 K2 dv hFg hi;go_wp2_with fail;refine(LT.o _ (znv _ _)).mono ?_;rintro e w2 ⟨rfl,hB2⟩;have R2:=H1.o.1.ext hB2;obtain⟨s0,s1,s2,s3,s4,s5,sl,sf⟩:=R2.q;dsimp only at s0 s1 s2 s3 s4 s5;have P2:=R2.put 2 (.int .i64 ((i+1:Nat):Int)) {r with next:=i+1} rfl rfl rfl;have K2a:Keeps (fun j=>j=rb) wr w2:=(zkb (S:=fun _=>False) hB2).mono (fun _ _ f=>f.elim);have K2b:Keeps (fun j=>j=rb) w2 (w2.setCell ⟨rb,2,none⟩ (.int .i64 ((i+1:Nat):Int))):=Keeps.setCell (S:=fun j=>j=rb) (p:=⟨rb,2,none⟩) (Keeps.refl _ _) (.inl rfl) _;have K2c:=(H1.o.2.2.1.trans K2a (fun _ _ e=>e)).trans K2b (fun _ _ e=>e);have H2:=zh3 P2.1 ((H1.o.2.1.trans (RPK.ext hB2)).trans P2.2) K2c;clear R2 P2 hB2 K2a K2b K2c r0 r1 r2 r3 r4 r5 rl rf y0 y1 y2 y3 y4 y5 y6 y7 y8 hgl hg hgr;go_wp2_with fail;go_roundg (n - (i+1))
    case measure=>exact HM.o
    case rel=>exact⟨i+1,by rw[HX.o.2.2.2.2];omega,by rw[HX.o.2.2.2.2],H2.o.1,H2.o.2.1,H2.o.2.2,H1.o.2.2.2⟩
   |false=>
    rw[znl]at hsk;have H1:=zh4 R1 K1 K2 hsk;clear hsk hdr hc hgk R1 K1 K2 dv hFg hi;go_wp2_with fail;refine(LT.o _ (znv _ _)).mono ?_;rintro e w2 ⟨rfl,hB2⟩;have H2:=zhd hB2;clear hB2 r0 r1 r2 r3 r4 r5 rl rf y0 y1 y2 y3 y4 y5 y6 y7 y8 hgl hg hgr;go_wp2_with fail
    go_end0
    exact⟨rfl,zhd ⟨by rw[←H1.o.2.2.2];exact H1.o.1.ext H2.o,H1.o.2.1.trans (RPK.ext H2.o),H1.o.2.2.1.trans (zkb (S:=fun j=>j=rb) H2.o) (fun _ _ e=>e)⟩⟩
  ·obtain rfl:i=n:=by omega
   have hnn:¬(i:Int)<i:=by omega
   have hdr:L.drop i=[]:=zns (by rw[HX.o.2.2.2.2];exact znc _);rw[hdr,ybr]at hsk;have H1:=zh4 R1 K1 K2 hsk;clear hsk hdr hgk R1 K1 K2 hi;go_wp2_with fail
   go_end0
   exact⟨rfl,zhd ⟨by rw[←H1.o.2.2.2];exact H1.o.1,H1.o.2.1,H1.o.2.2.1⟩⟩
set_option linter.unusedVariables false
def ycc (Z:Nat→Prop)(rb b mb:Nat)(v:MV)(p:Img)(W:World)(q:Int×RP)(e:Ending)(w':World):Prop:=∃v',e= .returned (.int .i64 q.1)∧Hid (RPX TR Z w' rb b mb v' p q.2∧RPK rb b mb v W v' w')
theorem yl4
  {Z:Nat→Prop}(rb b mb:Nat)(v:MV)(p:Img)(r:RP)(W:World)(R:RPX TR Z W rb b mb v p r){N:Nat}(G:Gl Tryz.prog N W)(t a bb:Int)(nm tx:ByteArray)(x:Val)(vk vn:Int)(vs:ByteArray)(la:Option Addr)(ln lc:Nat)(F:Nat→Prop)(C:CF F W ⟨vk,vn,vs,la,ln,lc⟩ x)(hw:x.wf)
  (id k:Int)(ck:Int)(hck:yaj ⟨id,t,k,a,bb,nm,tx,x⟩=ck)(hne:(ck !=0)=true)(q:Int×RP)(hr:ybo p r ⟨id,t,k,a,bb,nm,tx,x⟩=q):
  Calls Tryz.prog 56 #[.pointer (some ⟨rb,0,none⟩),.agg #[.int .i64 (id),.int .i64 t,.int .i64 k,.int .i64 a,.int .i64 bb,.string nm,.string tx,.int .i64 vk,.int .i64 vn,.string vs,.slice la ln lc]] W
   (ycc Z rb b mb v p W q):=by
 have HR:=zhd (show q=(9,r) by rw[←hr];unfold ybo;rw[if_pos (by rw[hck];simpa using hne)]);clear hr;obtain⟨w0,hw0⟩:∃w0,w0=W.alloc (.cells #[.int .i64 (id),.int .i64 t,.int .i64 k,.int .i64 a,.int .i64 bb,.string nm,.string tx,.int .i64 vk,.int .i64 vn,.string vs,.slice la ln lc] 40):=⟨_,rfl⟩;have B0:=zba hw0;have hB:=zha hw0;have C0:=C.keep (S:=fun _=>False) (zkb B0) (fun _ _ f=>f);have EK:=zhd (ybf (id) t k a bb nm tx x vk vn vs la ln lc F w0 (G.below B0) C0 hw _ hck);obtain⟨q0,q1,q2,q3,q4,q5,q6,q7,q8,q9,q10,ql,_⟩:=yaw hB;have HX:=zh6 R B0 hB C G hw;have HCK:=zhd hck;clear hck C0 B0 hB C R G hw;go_enter Tryz.func56,Tryz.ntmps56;go_wp2_with fail;rw[←hw0];clear hw0;refine EK.o.mono ?_;rintro e w1 ⟨rfl,hB1⟩;have B1:Below W.heap.size W w1:=HX.o.2.1.trans (hB1.mono HX.o.2.1.size);have hb1:=(hB1.block W.heap.size ql).trans HX.o.2.2.1;have R1:=HX.o.1.ext B1;clear q0 q1 q2 q3 q4 q5 q6 q7 q8 q9 q10 ql;obtain⟨q0,q1,q2,q3,q4,q5,q6,q7,q8,q9,q10,ql,_⟩:=yaw hb1;obtain⟨r0,r1,r2,r3,r4,r5,rl,rf⟩:=R1.q;have H1:=zh3 B1 hb1 R1;clear B1 hb1 R1 hB1 EK;clear r0 r1 r2 r3 r4 r5 rl rf;go_wp2_with fail;go_ret;exact⟨v,by rw[HR.o];rfl,zhd ⟨by rw[HR.o];exact H1.o.2.2,RPK.ext H1.o.1⟩⟩
theorem yjr
  {Z:Nat→Prop}(rb b mb:Nat)(v:MV)(p:Img)(r:RP)(W:World)(R:RPX TR Z W rb b mb v p r){N:Nat}(G:Gl Tryz.prog N W)(t a bb:Int)(nm tx:ByteArray)(x:Val)(vk vn:Int)(vs:ByteArray)(la:Option Addr)(ln lc:Nat)(F:Nat→Prop)(C:CF F W ⟨vk,vn,vs,la,ln,lc⟩ x)(hw:x.wf)
  (id k:Int)(hck:yaj ⟨id,t,k,a,bb,nm,tx,x⟩=0)(hid:¬id=(r.seen:Int)+1)(hsn:r.seen≤4000000)(q:Int×RP)(hr:ybo p r ⟨id,t,k,a,bb,nm,tx,x⟩=q):
  Calls Tryz.prog 56 #[.pointer (some ⟨rb,0,none⟩),.agg #[.int .i64 (id),.int .i64 t,.int .i64 k,.int .i64 a,.int .i64 bb,.string nm,.string tx,.int .i64 vk,.int .i64 vn,.string vs,.slice la ln lc]] W
   (ycc Z rb b mb v p W q):=by
 have HR:=zhd (show q=(180,r) by rw[←hr];unfold ybo;rw[if_neg (by simpa using hck),if_pos hid]);have n1:(id==(r.seen:Int)+1)=false:=by rw[zna];exact hid
 have n2:(id !=(r.seen:Int)+1)=true:=by unfold bne;rw[n1];rfl
 have hws:wrap64 ((r.seen:Int)+1)=(r.seen:Int)+1:=by unfold wrap64;omega
 clear hr hid hsn;obtain⟨w0,hw0⟩:∃w0,w0=W.alloc (.cells #[.int .i64 (id),.int .i64 t,.int .i64 k,.int .i64 a,.int .i64 bb,.string nm,.string tx,.int .i64 vk,.int .i64 vn,.string vs,.slice la ln lc] 40):=⟨_,rfl⟩;have B0:=zba hw0;have hB:=zha hw0;have C0:=C.keep (S:=fun _=>False) (zkb B0) (fun _ _ f=>f);have EK:=zhd (ybf (id) t k a bb nm tx x vk vn vs la ln lc F w0 (G.below B0) C0 hw _ hck);obtain⟨q0,q1,q2,q3,q4,q5,q6,q7,q8,q9,q10,ql,_⟩:=yaw hB;have HX:=zh6 R B0 hB C G hw;have HCK:=zhd hck;clear hck C0 B0 hB C R G hw;go_enter Tryz.func56,Tryz.ntmps56;go_wp2_with fail;rw[←hw0];clear hw0;refine EK.o.mono ?_;rintro e w1 ⟨rfl,hB1⟩;have B1:Below W.heap.size W w1:=HX.o.2.1.trans (hB1.mono HX.o.2.1.size);have hb1:=(hB1.block W.heap.size ql).trans HX.o.2.2.1;have R1:=HX.o.1.ext B1;clear q0 q1 q2 q3 q4 q5 q6 q7 q8 q9 q10 ql;obtain⟨q0,q1,q2,q3,q4,q5,q6,q7,q8,q9,q10,ql,_⟩:=yaw hb1;obtain⟨r0,r1,r2,r3,r4,r5,rl,rf⟩:=R1.q;have H1:=zh3 B1 hb1 R1;clear B1 hb1 R1 hB1 EK;go_upto_region 3 with(fail);go_region
 all_goals
  go_wp2_with fail;go_ret;exact⟨v,by rw[HR.o];rfl,zhd ⟨by rw[HR.o];exact H1.o.2.2.ext (znv _ _).drew,RPK.ext H1.o.1.drew⟩⟩
theorem yis
  {Z:Nat→Prop}(rb b mb:Nat)(v:MV)(p:Img)(r:RP)(W:World)(R:RPX TR Z W rb b mb v p r){N:Nat}(G:Gl Tryz.prog N W)(t a bb:Int)(nm tx:ByteArray)(x:Val)(vk vn:Int)(vs:ByteArray)(la:Option Addr)(ln lc:Nat)(F:Nat→Prop)(C:CF F W ⟨vk,vn,vs,la,ln,lc⟩ x)(hw:x.wf)
  (k:Int)(hck:yaj ⟨(r.seen:Int)+1,t,k,a,bb,nm,tx,x⟩=0)(hcl:r.closed=true)(hsn:r.seen≤4000000)(q:Int×RP)(hr:ybo p r ⟨(r.seen:Int)+1,t,k,a,bb,nm,tx,x⟩=q):
  Calls Tryz.prog 56 #[.pointer (some ⟨rb,0,none⟩),.agg #[.int .i64 ((r.seen:Int)+1),.int .i64 t,.int .i64 k,.int .i64 a,.int .i64 bb,.string nm,.string tx,.int .i64 vk,.int .i64 vn,.string vs,.slice la ln lc]] W
   (ycc Z rb b mb v p W q):=by
 have HR:=zhd (show q=(181,r) by rw[←hr];unfold ybo;rw[if_neg (by simpa using hck),if_neg (by simp),if_pos hcl]);have hws:wrap64 ((r.seen:Int)+1)=(r.seen:Int)+1:=by unfold wrap64;omega
 have HC:=zhd hcl;clear hr hsn hcl;obtain⟨w0,hw0⟩:∃w0,w0=W.alloc (.cells #[.int .i64 ((r.seen:Int)+1),.int .i64 t,.int .i64 k,.int .i64 a,.int .i64 bb,.string nm,.string tx,.int .i64 vk,.int .i64 vn,.string vs,.slice la ln lc] 40):=⟨_,rfl⟩;have B0:=zba hw0;have hB:=zha hw0;have C0:=C.keep (S:=fun _=>False) (zkb B0) (fun _ _ f=>f);have EK:=zhd (ybf ((r.seen:Int)+1) t k a bb nm tx x vk vn vs la ln lc F w0 (G.below B0) C0 hw _ hck);obtain⟨q0,q1,q2,q3,q4,q5,q6,q7,q8,q9,q10,ql,_⟩:=yaw hB;have HX:=zh6 R B0 hB C G hw;have HCK:=zhd hck;clear hck C0 B0 hB C R G hw;go_enter Tryz.func56,Tryz.ntmps56;go_wp2_with fail;rw[←hw0];clear hw0;refine EK.o.mono ?_;rintro e w1 ⟨rfl,hB1⟩;have B1:Below W.heap.size W w1:=HX.o.2.1.trans (hB1.mono HX.o.2.1.size);have hb1:=(hB1.block W.heap.size ql).trans HX.o.2.2.1;have R1:=HX.o.1.ext B1;clear q0 q1 q2 q3 q4 q5 q6 q7 q8 q9 q10 ql;obtain⟨q0,q1,q2,q3,q4,q5,q6,q7,q8,q9,q10,ql,_⟩:=yaw hb1;obtain⟨r0,r1,r2,r3,r4,r5,rl,rf⟩:=R1.q;have H1:=zh3 B1 hb1 R1;clear B1 hb1 R1 hB1 EK;rw[HC.o]at r4;go_upto_region 3 with(fail);go_region
 all_goals
  go_wp2_with fail;go_ret;exact⟨v,by rw[HR.o];rfl,zhd ⟨by rw[HR.o];exact H1.o.2.2.ext (znv _ _).drew,RPK.ext H1.o.1.drew⟩⟩
theorem yir
  {Z:Nat→Prop}(rb b mb:Nat)(v:MV)(p:Img)(r:RP)(W:World)(R:RPX TR Z W rb b mb v p r){N:Nat}(G:Gl Tryz.prog N W)(t a bb:Int)(nm tx:ByteArray)(x:Val)(vk vn:Int)(vs:ByteArray)(la:Option Addr)(ln lc:Nat)(F:Nat→Prop)(C:CF F W ⟨vk,vn,vs,la,ln,lc⟩ x)(hw:x.wf)
  (k:Int)(hck:yaj ⟨(r.seen:Int)+1,t,k,a,bb,nm,tx,x⟩=0)(hcl:r.closed=false)(hsn:r.seen≤4000000)(h0:r.seen=0)(hk:¬k=1)(q:Int×RP)(hr:ybo p r ⟨(r.seen:Int)+1,t,k,a,bb,nm,tx,x⟩=q):
  Calls Tryz.prog 56 #[.pointer (some ⟨rb,0,none⟩),.agg #[.int .i64 ((r.seen:Int)+1),.int .i64 t,.int .i64 k,.int .i64 a,.int .i64 bb,.string nm,.string tx,.int .i64 vk,.int .i64 vn,.string vs,.slice la ln lc]] W
   (ycc Z rb b mb v p W q):=by
 have HR:=zhd (show q=(7,r) by rw[←hr];unfold ybo;rw[if_neg (by simpa using hck),if_neg (by simp),if_neg (by rw[hcl];decide),if_pos (.inl ⟨h0,hk⟩)]);have n1:(k==1)=false:=by rw[zna];exact hk
 have n2:(k !=1)=true:=by unfold bne;rw[n1];rfl
 have n3:((r.seen:Int)==0)=true:=by rw[beq_iff_eq];omega
 have n4:decide (0<(r.seen:Int))=false:=znd (by omega);have n5:¬0<(r.seen:Int):=by omega
 have n6':decide (0<r.seen)=false:=znd (by omega);have n7':¬0<r.seen:=by omega
 clear hr hk h0;have hws:wrap64 ((r.seen:Int)+1)=(r.seen:Int)+1:=by unfold wrap64;omega
 have HC:=zh2 hcl hsn;clear hsn hcl;obtain⟨w0,hw0⟩:∃w0,w0=W.alloc (.cells #[.int .i64 ((r.seen:Int)+1),.int .i64 t,.int .i64 k,.int .i64 a,.int .i64 bb,.string nm,.string tx,.int .i64 vk,.int .i64 vn,.string vs,.slice la ln lc] 40):=⟨_,rfl⟩;have B0:=zba hw0;have hB:=zha hw0;have C0:=C.keep (S:=fun _=>False) (zkb B0) (fun _ _ f=>f);have EK:=zhd (ybf ((r.seen:Int)+1) t k a bb nm tx x vk vn vs la ln lc F w0 (G.below B0) C0 hw _ hck);obtain⟨q0,q1,q2,q3,q4,q5,q6,q7,q8,q9,q10,ql,_⟩:=yaw hB;have HX:=zh6 R B0 hB C G hw;have HCK:=zhd hck;clear hck C0 B0 hB C R G hw;go_enter Tryz.func56,Tryz.ntmps56;go_wp2_with fail;rw[←hw0];clear hw0;refine EK.o.mono ?_;rintro e w1 ⟨rfl,hB1⟩;have B1:Below W.heap.size W w1:=HX.o.2.1.trans (hB1.mono HX.o.2.1.size);have hb1:=(hB1.block W.heap.size ql).trans HX.o.2.2.1;have R1:=HX.o.1.ext B1;clear q0 q1 q2 q3 q4 q5 q6 q7 q8 q9 q10 ql;obtain⟨q0,q1,q2,q3,q4,q5,q6,q7,q8,q9,q10,ql,_⟩:=yaw hb1;obtain⟨r0,r1,r2,r3,r4,r5,rl,rf⟩:=R1.q;have H1:=zh3 B1 hb1 R1;clear B1 hb1 R1 hB1 EK;rw[HC.o.1]at r4;go_upto_region 3 with(fail);go_region
 all_goals
  go_wp2_with fail;go_ret;exact⟨v,by rw[HR.o];rfl,zhd ⟨by rw[HR.o];exact H1.o.2.2.ext (znv _ _).drew,RPK.ext H1.o.1.drew⟩⟩
theorem yiq
  {Z:Nat→Prop}(rb b mb:Nat)(v:MV)(p:Img)(r:RP)(W:World)(R:RPX TR Z W rb b mb v p r){N:Nat}(G:Gl Tryz.prog N W)(t a bb:Int)(nm tx:ByteArray)(x:Val)(vk vn:Int)(vs:ByteArray)(la:Option Addr)(ln lc:Nat)(F:Nat→Prop)(C:CF F W ⟨vk,vn,vs,la,ln,lc⟩ x)(hw:x.wf)
  (hck:yaj ⟨(r.seen:Int)+1,t,1,a,bb,nm,tx,x⟩=0)(hcl:r.closed=false)(hsn:r.seen≤4000000)(h0:¬r.seen=0)(q:Int×RP)(hr:ybo p r ⟨(r.seen:Int)+1,t,1,a,bb,nm,tx,x⟩=q):
  Calls Tryz.prog 56 #[.pointer (some ⟨rb,0,none⟩),.agg #[.int .i64 ((r.seen:Int)+1),.int .i64 t,.int .i64 1,.int .i64 a,.int .i64 bb,.string nm,.string tx,.int .i64 vk,.int .i64 vn,.string vs,.slice la ln lc]] W
   (ycc Z rb b mb v p W q):=by
 have HR:=zhd (show q=(7,r) by rw[←hr];unfold ybo;rw[if_neg (by simpa using hck),if_neg (by simp),if_neg (by rw[hcl];decide),if_pos (.inr ⟨h0,rfl⟩)]);have n3:((r.seen:Int)==0)=false:=by rw[zna];omega
 have n4:decide (0<(r.seen:Int))=true:=zno (by omega);have n5:0<(r.seen:Int):=by omega
 have n6':decide (0<r.seen)=true:=zno (by omega);have n7':0<r.seen:=by omega
 clear hr h0;have hws:wrap64 ((r.seen:Int)+1)=(r.seen:Int)+1:=by unfold wrap64;omega
 have HC:=zh2 hcl hsn;clear hsn hcl;obtain⟨w0,hw0⟩:∃w0,w0=W.alloc (.cells #[.int .i64 ((r.seen:Int)+1),.int .i64 t,.int .i64 1,.int .i64 a,.int .i64 bb,.string nm,.string tx,.int .i64 vk,.int .i64 vn,.string vs,.slice la ln lc] 40):=⟨_,rfl⟩;have B0:=zba hw0;have hB:=zha hw0;have C0:=C.keep (S:=fun _=>False) (zkb B0) (fun _ _ f=>f);have EK:=zhd (ybf ((r.seen:Int)+1) t 1 a bb nm tx x vk vn vs la ln lc F w0 (G.below B0) C0 hw _ hck);obtain⟨q0,q1,q2,q3,q4,q5,q6,q7,q8,q9,q10,ql,_⟩:=yaw hB;have HX:=zh6 R B0 hB C G hw;have HCK:=zhd hck;clear hck C0 B0 hB C R G hw;go_enter Tryz.func56,Tryz.ntmps56;go_wp2_with fail;rw[←hw0];clear hw0;refine EK.o.mono ?_;rintro e w1 ⟨rfl,hB1⟩;have B1:Below W.heap.size W w1:=HX.o.2.1.trans (hB1.mono HX.o.2.1.size);have hb1:=(hB1.block W.heap.size ql).trans HX.o.2.2.1;have R1:=HX.o.1.ext B1;clear q0 q1 q2 q3 q4 q5 q6 q7 q8 q9 q10 ql;obtain⟨q0,q1,q2,q3,q4,q5,q6,q7,q8,q9,q10,ql,_⟩:=yaw hb1;obtain⟨r0,r1,r2,r3,r4,r5,rl,rf⟩:=R1.q;have H1:=zh3 B1 hb1 R1;clear B1 hb1 R1 hB1 EK;rw[HC.o.1]at r4;go_upto_region 3 with(fail);go_region
 all_goals
  go_wp2_with fail;go_ret;exact⟨v,by rw[HR.o];rfl,zhd ⟨by rw[HR.o];exact H1.o.2.2.ext (znv _ _).drew,RPK.ext H1.o.1.drew⟩⟩
theorem ykV
  {Z:Nat→Prop}(rb b mb:Nat)(v:MV)(p:Img)(r:RP)(W:World)(R:RPX TR Z W rb b mb v p r){N:Nat}(G:Gl Tryz.prog N W)(t a bb:Int)(nm tx:ByteArray)(x:Val)(vk vn:Int)(vs:ByteArray)(la:Option Addr)(ln lc:Nat)(F:Nat→Prop)(C:CF F W ⟨vk,vn,vs,la,ln,lc⟩ x)(hw:x.wf)
  (k:Int)(hck:yaj ⟨(r.seen:Int)+1,t,k,a,bb,nm,tx,x⟩=0)(hcl:r.closed=false)(hsn:r.seen≤4000000)(h0:¬r.seen=0)(hk:¬k=1)(hko:yaS k=false)(hm:yb7 k=false)(q:Int×RP)(hr:ybo p r ⟨(r.seen:Int)+1,t,k,a,bb,nm,tx,x⟩=q):
  Calls Tryz.prog 56 #[.pointer (some ⟨rb,0,none⟩),.agg #[.int .i64 ((r.seen:Int)+1),.int .i64 t,.int .i64 k,.int .i64 a,.int .i64 bb,.string nm,.string tx,.int .i64 vk,.int .i64 vn,.string vs,.slice la ln lc]] W
   (ycc Z rb b mb v p W q):=by
 have HR:=zhd (show q=(0,{r with seen:=r.seen+1,closed:=ybq k}) by rw[←hr,ycd (yb3 hck rfl hcl ⟨fun h=>absurd h h0,fun h=>absurd h hk⟩),if_neg (by rw[hko];decide),if_neg (by rw[hm];decide)]);have n1:(k==1)=false:=by rw[zna];exact hk
 have n2:(k !=1)=true:=by unfold bne;rw[n1];rfl
 have n3:((r.seen:Int)==0)=false:=by rw[zna];omega
 have n4:decide (0<(r.seen:Int))=true:=zno (by omega);have n5:0<(r.seen:Int):=by omega
 have n6':decide (0<r.seen)=true:=zno (by omega);have n7':0<r.seen:=by omega
 have HM:=zhd hm;clear hr h0 hk hm;have HO:=zhd hko;clear hko;have hws:wrap64 ((r.seen:Int)+1)=(r.seen:Int)+1:=by unfold wrap64;omega
 have HC:=zh2 hcl hsn;clear hsn hcl;obtain⟨w0,hw0⟩:∃w0,w0=W.alloc (.cells #[.int .i64 ((r.seen:Int)+1),.int .i64 t,.int .i64 k,.int .i64 a,.int .i64 bb,.string nm,.string tx,.int .i64 vk,.int .i64 vn,.string vs,.slice la ln lc] 40):=⟨_,rfl⟩;have B0:=zba hw0;have hB:=zha hw0;have C0:=C.keep (S:=fun _=>False) (zkb B0) (fun _ _ f=>f);have EK:=zhd (ybf ((r.seen:Int)+1) t k a bb nm tx x vk vn vs la ln lc F w0 (G.below B0) C0 hw _ hck);obtain⟨q0,q1,q2,q3,q4,q5,q6,q7,q8,q9,q10,ql,_⟩:=yaw hB;have HX:=zh6 R B0 hB C G hw;have HCK:=zhd hck;clear hck C0 B0 hB C R G hw;go_enter Tryz.func56,Tryz.ntmps56;go_wp2_with fail;rw[←hw0];clear hw0;refine EK.o.mono ?_;rintro e w1 ⟨rfl,hB1⟩;have B1:Below W.heap.size W w1:=HX.o.2.1.trans (hB1.mono HX.o.2.1.size);have hb1:=(hB1.block W.heap.size ql).trans HX.o.2.2.1;have R1:=HX.o.1.ext B1;clear q0 q1 q2 q3 q4 q5 q6 q7 q8 q9 q10 ql;obtain⟨q0,q1,q2,q3,q4,q5,q6,q7,q8,q9,q10,ql,_⟩:=yaw hb1;obtain⟨r0,r1,r2,r3,r4,r5,rl,rf⟩:=R1.q;have H1:=zh3 B1 hb1 R1;clear B1 hb1 R1 hB1 EK;rw[HC.o.1]at r4;go_upto_region 3 with(fail);go_region
 all_goals
  go_upto_region 10 with(fail);refine yaa ?_;intro w3 hw3;have P3:=(H1.o.2.2.ext (znv _ _).drew).put 1 (.int .i64 ((r.seen:Int)+1)) {r with seen:=r.seen+1} rfl rfl (by simp);have hw3':w3=w1.drew.setCell ⟨rb,1,none⟩ (.int .i64 ((r.seen:Int)+1)):=by rw[hw3];rfl
  rw[←hw3']at P3;have nb:W.heap.size≠rb:=fun e=>by have:=zlt HX.o.1.h;omega
  have hb3:w3.heap[W.heap.size]? =some (.cells #[.int .i64 ((r.seen:Int)+1),.int .i64 t,.int .i64 k,.int .i64 a,.int .i64 bb,.string nm,.string tx,.int .i64 vk,.int .i64 vn,.string vs,.slice la ln lc] 40 (0,0)):=by rw[hw3'];exact(znn _ _ _ _ nb).trans H1.o.2.1
  have K3:RPK rb b mb v W v w3:=(RPK.ext H1.o.1.drew).trans P3.2;have hs3:w3.heap.size=w1.heap.size:=by rw[hw3'];simp[World.setCell]
  clear hw3 hw3' q0 q1 q2 q3 q4 q5 q6 q7 q8 q9 q10 ql r0 r1 r2 r3 r4 r5 rl rf nb;obtain⟨q0,q1,q2,q3,q4,q5,q6,q7,q8,q9,q10,ql,_⟩:=yaw hb3;obtain⟨r0,r1,r2,r3,r4,r5,rl,rf⟩:=P3.1.q;dsimp only at r0 r1 r2 r3 r4 r5;have OU:=zhd (yam ((r.seen:Int)+1) t k a bb nm tx vk vn vs la ln lc w3 _ HO.o);have H3:=zh3 P3.1 K3 hb3;clear P3 K3 hb3 hs3;go_wp2_with fail;refine OU.o.mono ?_;rintro e w4 ⟨rfl,hB4⟩;have hb4:=(hB4.block W.heap.size ql).trans H3.o.2.2;have R4:=H3.o.1.ext hB4;have K4:=H3.o.2.1.trans (RPK.ext hB4);clear q0 q1 q2 q3 q4 q5 q6 q7 q8 q9 q10 ql r0 r1 r2 r3 r4 r5 rl rf OU;obtain⟨q0,q1,q2,q3,q4,q5,q6,q7,q8,q9,q10,ql,_⟩:=yaw hb4;obtain⟨r0,r1,r2,r3,r4,r5,rl,rf⟩:=R4.q;dsimp only at r0 r1 r2 r3 r4 r5;have H4:=zh3 R4 K4 hb4;clear R4 K4 hb4 hB4
 all_goals
  have CM:=zhd (ycN ((r.seen:Int)+1) t k a bb nm tx vk vn vs la ln lc w4 _ HM.o);go_wp2_with fail;refine CM.o.mono ?_;rintro e w5 ⟨rfl,hB5⟩;have hb5:=(hB5.block W.heap.size ql).trans H4.o.2.2;have R5:=H4.o.1.ext hB5;have H5:=zh3 R5 (H4.o.2.1.trans (RPK.ext hB5)) hb5;clear q0 q1 q2 q3 q4 q5 q6 q7 q8 q9 q10 ql r0 r1 r2 r3 r4 r5 rl rf CM;obtain⟨q0,q1,q2,q3,q4,q5,q6,q7,q8,q9,q10,ql,_⟩:=yaw hb5;obtain⟨r0,r1,r2,r3,r4,r5,rl,rf⟩:=R5.q;dsimp only at r0 r1 r2 r3 r4 r5;clear R5 hb5 hB5;obtain⟨cb,hcb⟩:∃cb,decide (16≤(k:Int)∧k≤21)=cb:=⟨_,rfl⟩;have CS:=zhd (yba ((r.seen:Int)+1) t k a bb nm tx vk vn vs la ln lc w5 cb hcb);have HCB:=zhd hcb;clear hcb;go_wp2_with fail;refine CS.o.mono ?_;rintro e w8 ⟨rfl,hB8⟩;have R8:=H5.o.1.ext hB8;have K8:=H5.o.2.1.trans (RPK.ext hB8);clear q0 q1 q2 q3 q4 q5 q6 q7 q8 q9 q10 ql r0 r1 r2 r3 r4 r5 rl rf CS;obtain⟨r0,r1,r2,r3,r4,r5,rl,rf⟩:=R8.q;dsimp only at r0 r1 r2 r3 r4 r5;have P8:=R8.put 4 (.bool cb) q.2 (by rw[HR.o]) (by rw[HR.o]) (by rw[HR.o,←HCB.o];rfl);have H8:=zh2 P8.1 (K8.trans P8.2);clear R8 K8 P8 hB8;go_wp2_with fail;go_ret;exact⟨_,by rw[HR.o];rfl,zhd H8.o⟩
def ynF (Z:Nat→Prop)(rb b mb:Nat)(v:MV)(p:Img)(r:RP)(W:World)(q:Int×MS)(e:Ending)(w':World):Prop:=∃v',e= .returned (.int .i64 q.1)∧Hid (RPX TR Z w' rb b mb v' p {r with m:=q.2}∧RPK rb b mb v W v' w')
theorem ycS
  {Z:Nat→Prop}(rb b mb:Nat)(v:MV)(p:Img)(r:RP)(W:World)(R:RPX TR Z W rb b mb v p r){N:Nat}(G:Gl Tryz.prog N W)(t a bb:Int)(nm tx:ByteArray)(x:Val)(vk vn:Int)(vs:ByteArray)(la:Option Addr)(ln lc:Nat)(F:Nat→Prop)(C:CF F W ⟨vk,vn,vs,la,ln,lc⟩ x)(hw:x.wf)
  (fa:Fa)(K:Known p fa)(P:Pk p)(hsp:fa.span≤p.code.length+1)(S:St p fa r.m)(hev:r.m.events≤30)(hZ:∀j,W.heap.size≤j→Z j)(hF:∀g,F g→¬RO rb b mb v g)(hN:∀g,RO rb b mb v g→N≤g)
  (id k:Int):
  Calls Tryz.prog 70 #[.pointer (some ⟨b,0,none⟩),.agg #[.int .i64 id,.int .i64 t,.int .i64 k,.int .i64 a,.int .i64 bb,.string nm,.string tx,.int .i64 vk,.int .i64 vn,.string vs,.slice la ln lc]] W (ynF Z rb b mb v p r W (yay p r.m ⟨id,t,k,a,bb,nm,tx,x⟩)):=by
 refine(yf5 b v p r.m W R.mx G fa K P hsp S hev (fun j hj=>⟨hZ j hj,fun e=>by have:=zlt R.h;omega,fun e=>by have:=R.mlt;omega⟩) id t k a bb nm tx x vk vn vs la ln lc F C hw (fun g hg e=>hF g hg (.inr (.inr e))) _ rfl).mono ?_;rintro e w' ⟨v',rfl,H⟩;exact⟨v',rfl,zhd ⟨R.turn H.o.1 H.o.2,RPK.mk_ H.o.2⟩⟩
theorem yjp
  {Z:Nat→Prop}(rb b mb:Nat)(v:MV)(p:Img)(r:RP)(W:World)(R:RPX TR Z W rb b mb v p r){N:Nat}(G:Gl Tryz.prog N W)(t a bb:Int)(nm tx:ByteArray)(x:Val)(vk vn:Int)(vs:ByteArray)(la:Option Addr)(ln lc:Nat)(F:Nat→Prop)(C:CF F W ⟨vk,vn,vs,la,ln,lc⟩ x)(hw:x.wf)
  (fa:Fa)(K:Known p fa)(P:Pk p)(hsp:fa.span≤p.code.length+1)(S:St p fa r.m)(hev:r.m.events≤30)(hZ:∀j,W.heap.size≤j→Z j)(hF:∀g,F g→¬RO rb b mb v g)(hN:∀g,RO rb b mb v g→N≤g)
  (hck:yaj ⟨(r.seen:Int)+1,t,1,a,bb,nm,tx,x⟩=0)(hcl:r.closed=false)(hsn:r.seen≤4000000)(h0:r.seen=0)(q:Int×RP)(hr:ybo p r ⟨(r.seen:Int)+1,t,1,a,bb,nm,tx,x⟩=q):
  Calls Tryz.prog 56 #[.pointer (some ⟨rb,0,none⟩),.agg #[.int .i64 ((r.seen:Int)+1),.int .i64 t,.int .i64 1,.int .i64 a,.int .i64 bb,.string nm,.string tx,.int .i64 vk,.int .i64 vn,.string vs,.slice la ln lc]] W
   (ycc Z rb b mb v p W q):=by
 have HR:=zhd (show q=(0,{r with m:=(yay p r.m ⟨(r.seen:Int)+1,t,1,a,bb,nm,tx,x⟩).2,seen:=r.seen+1,closed:=ybq 1}) by rw[←hr,ycd (yb3 hck rfl hcl ⟨fun _=>rfl,fun _=>h0⟩),if_pos (by rfl)];rfl);have n3:((r.seen:Int)==0)=true:=by rw[beq_iff_eq];omega
 have n4:decide (0<(r.seen:Int))=false:=znd (by omega);have n5:¬0<(r.seen:Int):=by omega
 have n6':decide (0<r.seen)=false:=znd (by omega);have n7':¬0<r.seen:=by omega
 have HS:=zh8 K P hsp S hev hZ hF hN;have hko:yaS 1=true:=rfl;clear hr h0 K P hsp S hev hZ hF hN;have HO:=zhd hko;clear hko;have hws:wrap64 ((r.seen:Int)+1)=(r.seen:Int)+1:=by unfold wrap64;omega
 have HC:=zh2 hcl hsn;clear hsn hcl;obtain⟨w0,hw0⟩:∃w0,w0=W.alloc (.cells #[.int .i64 ((r.seen:Int)+1),.int .i64 t,.int .i64 1,.int .i64 a,.int .i64 bb,.string nm,.string tx,.int .i64 vk,.int .i64 vn,.string vs,.slice la ln lc] 40):=⟨_,rfl⟩;have B0:=zba hw0;have hB:=zha hw0;have C0:=C.keep (S:=fun _=>False) (zkb B0) (fun _ _ f=>f);have EK:=zhd (ybf ((r.seen:Int)+1) t 1 a bb nm tx x vk vn vs la ln lc F w0 (G.below B0) C0 hw _ hck);obtain⟨q0,q1,q2,q3,q4,q5,q6,q7,q8,q9,q10,ql,_⟩:=yaw hB;have HX:=zh6 R B0 hB C G hw;have HCK:=zhd hck;clear hck C0 B0 hB C R G hw;go_enter Tryz.func56,Tryz.ntmps56;go_wp2_with fail;rw[←hw0];clear hw0;refine EK.o.mono ?_;rintro e w1 ⟨rfl,hB1⟩;have B1:Below W.heap.size W w1:=HX.o.2.1.trans (hB1.mono HX.o.2.1.size);have hb1:=(hB1.block W.heap.size ql).trans HX.o.2.2.1;have R1:=HX.o.1.ext B1;clear q0 q1 q2 q3 q4 q5 q6 q7 q8 q9 q10 ql;obtain⟨q0,q1,q2,q3,q4,q5,q6,q7,q8,q9,q10,ql,_⟩:=yaw hb1;obtain⟨r0,r1,r2,r3,r4,r5,rl,rf⟩:=R1.q;have H1:=zh3 B1 hb1 R1;clear B1 hb1 R1 hB1 EK;rw[HC.o.1]at r4;go_upto_region 3 with(fail);go_region
 all_goals
  go_upto_region 10 with(fail);refine yaa ?_;intro w3 hw3;have P3:=(H1.o.2.2.ext (znv _ _).drew).put 1 (.int .i64 ((r.seen:Int)+1)) {r with seen:=r.seen+1} rfl rfl (by simp);have hw3':w3=w1.drew.setCell ⟨rb,1,none⟩ (.int .i64 ((r.seen:Int)+1)):=by rw[hw3];rfl
  rw[←hw3']at P3;have nb:W.heap.size≠rb:=fun e=>by have:=zlt HX.o.1.h;omega
  have hb3:w3.heap[W.heap.size]? =some (.cells #[.int .i64 ((r.seen:Int)+1),.int .i64 t,.int .i64 1,.int .i64 a,.int .i64 bb,.string nm,.string tx,.int .i64 vk,.int .i64 vn,.string vs,.slice la ln lc] 40 (0,0)):=by rw[hw3'];exact(znn _ _ _ _ nb).trans H1.o.2.1
  have K3:RPK rb b mb v W v w3:=(RPK.ext H1.o.1.drew).trans P3.2;have hs3:w3.heap.size=w1.heap.size:=by rw[hw3'];simp[World.setCell]
  clear hw3 hw3' q0 q1 q2 q3 q4 q5 q6 q7 q8 q9 q10 ql r0 r1 r2 r3 r4 r5 rl rf nb;obtain⟨q0,q1,q2,q3,q4,q5,q6,q7,q8,q9,q10,ql,_⟩:=yaw hb3;obtain⟨r0,r1,r2,r3,r4,r5,rl,rf⟩:=P3.1.q;dsimp only at r0 r1 r2 r3 r4 r5;have OU:=zhd (yam ((r.seen:Int)+1) t 1 a bb nm tx vk vn vs la ln lc w3 _ HO.o);have H3:=zh3 P3.1 K3 hb3;clear P3 K3 hb3 hs3;go_wp2_with fail;refine OU.o.mono ?_;rintro e w4 ⟨rfl,hB4⟩;have hb4:=(hB4.block W.heap.size ql).trans H3.o.2.2;have R4:=H3.o.1.ext hB4;have K4:=H3.o.2.1.trans (RPK.ext hB4);clear q0 q1 q2 q3 q4 q5 q6 q7 q8 q9 q10 ql r0 r1 r2 r3 r4 r5 rl rf OU;obtain⟨q0,q1,q2,q3,q4,q5,q6,q7,q8,q9,q10,ql,_⟩:=yaw hb4;obtain⟨r0,r1,r2,r3,r4,r5,rl,rf⟩:=R4.q;dsimp only at r0 r1 r2 r3 r4 r5;have H4:=zh3 R4 K4 hb4;clear R4 K4 hb4 hB4
 all_goals
  go_upto_region 13 with(fail);have RA:=zhd (fun X (B:Below w4.heap.size w4 X)=>ycS rb b mb v p {r with seen:=r.seen+1} X (H4.o.1.ext B) (((HX.o.2.2.2.2.1.keep H4.o.2.1.keeps HS.o.2.2.2.2.2.2.2).below B)) t a bb nm tx x vk vn vs la ln lc F ((HX.o.2.2.2.1.keep H4.o.2.1.keeps HS.o.2.2.2.2.2.2.1).keep (S:=fun _=>False) (zkb B) (fun _ _ f=>f)) HX.o.2.2.2.2.2 fa HS.o.1 HS.o.2.1 HS.o.2.2.1 HS.o.2.2.2.1 HS.o.2.2.2.2.1 (fun j hj=>HS.o.2.2.2.2.2.1 j (by have h1:=B.size;have h2:=H4.o.2.1.keeps.size;omega)) HS.o.2.2.2.2.2.2.1 HS.o.2.2.2.2.2.2.2 ((r.seen:Int)+1) 1);have HW:=zhd (show W.heap.size<w4.heap.size∧¬RO rb b mb v W.heap.size from⟨ql,fun e=>by have:=HX.o.1.lt e;omega⟩);have HD:Below w4.heap.size w4 w4.drew:=(znv _ _).drew;go_region_law ((go_simp;go_at_call 70;refine(RA.o _ (by first|exact HD|exact znv _ _)).mono ?_;rintro e w6 ⟨v6,rfl,H6⟩))
  all_goals
   have K6:=H4.o.2.1.trans ((RPK.ext HD).trans H6.o.2);have hb6:=(H6.o.2.keeps.block W.heap.size HW.o.1 HW.o.2).trans H4.o.2.2;have HY:=zh3 H6.o.1 K6 hb6;clear q0 q1 q2 q3 q4 q5 q6 q7 q8 q9 q10 ql r0 r1 r2 r3 r4 r5 rl rf RA HD K6;obtain⟨q0,q1,q2,q3,q4,q5,q6,q7,q8,q9,q10,ql,_⟩:=yaw hb6;obtain⟨r0,r1,r2,r3,r4,r5,rl,rf⟩:=HY.o.1.q;dsimp only at r0 r1 r2 r3 r4 r5;clear hb6;obtain⟨cb,hcb⟩:∃cb,decide (16≤(1:Int)∧1≤21)=cb:=⟨_,rfl⟩;have CS:=zhd (yba ((r.seen:Int)+1) t 1 a bb nm tx vk vn vs la ln lc w6 cb hcb);have HCB:=zhd hcb;clear hcb;go_wp2_with fail;refine CS.o.mono ?_;rintro e w8 ⟨rfl,hB8⟩;have R8:=HY.o.1.ext hB8;have K8:=HY.o.2.1.trans (RPK.ext hB8);clear q0 q1 q2 q3 q4 q5 q6 q7 q8 q9 q10 ql r0 r1 r2 r3 r4 r5 rl rf CS;obtain⟨r0,r1,r2,r3,r4,r5,rl,rf⟩:=R8.q;dsimp only at r0 r1 r2 r3 r4 r5;have P8:=R8.put 4 (.bool cb) q.2 (by rw[HR.o]) (by rw[HR.o]) (by rw[HR.o,←HCB.o];rfl);have H8:=zh2 P8.1 (K8.trans P8.2);clear R8 K8 P8 hB8;go_wp2_with fail;go_ret;exact⟨_,by rw[HR.o];rfl,zhd H8.o⟩
theorem yl2
  {Z:Nat→Prop}(rb b mb:Nat)(v:MV)(p:Img)(r:RP)(W:World)(R:RPX TR Z W rb b mb v p r){N:Nat}(G:Gl Tryz.prog N W)(t a bb:Int)(nm tx:ByteArray)(x:Val)(vk vn:Int)(vs:ByteArray)(la:Option Addr)(ln lc:Nat)(F:Nat→Prop)(C:CF F W ⟨vk,vn,vs,la,ln,lc⟩ x)(hw:x.wf)
  (fa:Fa)(K:Known p fa)(P:Pk p)(hsp:fa.span≤p.code.length+1)(S:St p fa r.m)(hev:r.m.events≤30)(hZ:∀j,W.heap.size≤j→Z j)(hF:∀g,F g→¬RO rb b mb v g)(hN:∀g,RO rb b mb v g→N≤g)
  (k:Int)(hck:yaj ⟨(r.seen:Int)+1,t,k,a,bb,nm,tx,x⟩=0)(hcl:r.closed=false)(hsn:r.seen≤4000000)(h0:¬r.seen=0)(hk:¬k=1)(h12:¬k=12)(hko:yaS k=true)(q:Int×RP)(hr:ybo p r ⟨(r.seen:Int)+1,t,k,a,bb,nm,tx,x⟩=q):
  Calls Tryz.prog 56 #[.pointer (some ⟨rb,0,none⟩),.agg #[.int .i64 ((r.seen:Int)+1),.int .i64 t,.int .i64 k,.int .i64 a,.int .i64 bb,.string nm,.string tx,.int .i64 vk,.int .i64 vn,.string vs,.slice la ln lc]] W
   (ycc Z rb b mb v p W q):=by
 have HR:=zhd (show q=(0,{r with m:=(yay p r.m ⟨(r.seen:Int)+1,t,k,a,bb,nm,tx,x⟩).2,seen:=r.seen+1,closed:=ybq k}) by rw[←hr,ycd (yb3 hck rfl hcl ⟨fun h=>absurd h h0,fun h=>absurd h hk⟩),if_pos (by exact hko)];dsimp only;rw[if_neg h12]);have n1:(k==1)=false:=by rw[zna];exact hk
 have n2:(k !=1)=true:=by unfold bne;rw[n1];rfl
 have n6:(k==12)=false:=by rw[zna];exact h12
 have n3:((r.seen:Int)==0)=false:=by rw[zna];omega
 have n4:decide (0<(r.seen:Int))=true:=zno (by omega);have n5:0<(r.seen:Int):=by omega
 have n6':decide (0<r.seen)=true:=zno (by omega);have n7':0<r.seen:=by omega
 have HS:=zh8 K P hsp S hev hZ hF hN;clear hr h0 hk h12 K P hsp S hev hZ hF hN;have HO:=zhd hko;clear hko;have hws:wrap64 ((r.seen:Int)+1)=(r.seen:Int)+1:=by unfold wrap64;omega
 have HC:=zh2 hcl hsn;clear hsn hcl;obtain⟨w0,hw0⟩:∃w0,w0=W.alloc (.cells #[.int .i64 ((r.seen:Int)+1),.int .i64 t,.int .i64 k,.int .i64 a,.int .i64 bb,.string nm,.string tx,.int .i64 vk,.int .i64 vn,.string vs,.slice la ln lc] 40):=⟨_,rfl⟩;have B0:=zba hw0;have hB:=zha hw0;have C0:=C.keep (S:=fun _=>False) (zkb B0) (fun _ _ f=>f);have EK:=zhd (ybf ((r.seen:Int)+1) t k a bb nm tx x vk vn vs la ln lc F w0 (G.below B0) C0 hw _ hck);obtain⟨q0,q1,q2,q3,q4,q5,q6,q7,q8,q9,q10,ql,_⟩:=yaw hB;have HX:=zh6 R B0 hB C G hw;have HCK:=zhd hck;clear hck C0 B0 hB C R G hw;go_enter Tryz.func56,Tryz.ntmps56;go_wp2_with fail;rw[←hw0];clear hw0;refine EK.o.mono ?_;rintro e w1 ⟨rfl,hB1⟩;have B1:Below W.heap.size W w1:=HX.o.2.1.trans (hB1.mono HX.o.2.1.size);have hb1:=(hB1.block W.heap.size ql).trans HX.o.2.2.1;have R1:=HX.o.1.ext B1;clear q0 q1 q2 q3 q4 q5 q6 q7 q8 q9 q10 ql;obtain⟨q0,q1,q2,q3,q4,q5,q6,q7,q8,q9,q10,ql,_⟩:=yaw hb1;obtain⟨r0,r1,r2,r3,r4,r5,rl,rf⟩:=R1.q;have H1:=zh3 B1 hb1 R1;clear B1 hb1 R1 hB1 EK;rw[HC.o.1]at r4;go_upto_region 3 with(fail);go_region
 all_goals
  go_upto_region 10 with(fail);refine yaa ?_;intro w3 hw3;have P3:=(H1.o.2.2.ext (znv _ _).drew).put 1 (.int .i64 ((r.seen:Int)+1)) {r with seen:=r.seen+1} rfl rfl (by simp);have hw3':w3=w1.drew.setCell ⟨rb,1,none⟩ (.int .i64 ((r.seen:Int)+1)):=by rw[hw3];rfl
  rw[←hw3']at P3;have nb:W.heap.size≠rb:=fun e=>by have:=zlt HX.o.1.h;omega
  have hb3:w3.heap[W.heap.size]? =some (.cells #[.int .i64 ((r.seen:Int)+1),.int .i64 t,.int .i64 k,.int .i64 a,.int .i64 bb,.string nm,.string tx,.int .i64 vk,.int .i64 vn,.string vs,.slice la ln lc] 40 (0,0)):=by rw[hw3'];exact(znn _ _ _ _ nb).trans H1.o.2.1
  have K3:RPK rb b mb v W v w3:=(RPK.ext H1.o.1.drew).trans P3.2;have hs3:w3.heap.size=w1.heap.size:=by rw[hw3'];simp[World.setCell]
  clear hw3 hw3' q0 q1 q2 q3 q4 q5 q6 q7 q8 q9 q10 ql r0 r1 r2 r3 r4 r5 rl rf nb;obtain⟨q0,q1,q2,q3,q4,q5,q6,q7,q8,q9,q10,ql,_⟩:=yaw hb3;obtain⟨r0,r1,r2,r3,r4,r5,rl,rf⟩:=P3.1.q;dsimp only at r0 r1 r2 r3 r4 r5;have OU:=zhd (yam ((r.seen:Int)+1) t k a bb nm tx vk vn vs la ln lc w3 _ HO.o);have H3:=zh3 P3.1 K3 hb3;clear P3 K3 hb3 hs3;go_wp2_with fail;refine OU.o.mono ?_;rintro e w4 ⟨rfl,hB4⟩;have hb4:=(hB4.block W.heap.size ql).trans H3.o.2.2;have R4:=H3.o.1.ext hB4;have K4:=H3.o.2.1.trans (RPK.ext hB4);clear q0 q1 q2 q3 q4 q5 q6 q7 q8 q9 q10 ql r0 r1 r2 r3 r4 r5 rl rf OU;obtain⟨q0,q1,q2,q3,q4,q5,q6,q7,q8,q9,q10,ql,_⟩:=yaw hb4;obtain⟨r0,r1,r2,r3,r4,r5,rl,rf⟩:=R4.q;dsimp only at r0 r1 r2 r3 r4 r5;have H4:=zh3 R4 K4 hb4;clear R4 K4 hb4 hB4
 all_goals
  go_upto_region 13 with(fail);have RA:=zhd (fun X (B:Below w4.heap.size w4 X)=>ycS rb b mb v p {r with seen:=r.seen+1} X (H4.o.1.ext B) (((HX.o.2.2.2.2.1.keep H4.o.2.1.keeps HS.o.2.2.2.2.2.2.2).below B)) t a bb nm tx x vk vn vs la ln lc F ((HX.o.2.2.2.1.keep H4.o.2.1.keeps HS.o.2.2.2.2.2.2.1).keep (S:=fun _=>False) (zkb B) (fun _ _ f=>f)) HX.o.2.2.2.2.2 fa HS.o.1 HS.o.2.1 HS.o.2.2.1 HS.o.2.2.2.1 HS.o.2.2.2.2.1 (fun j hj=>HS.o.2.2.2.2.2.1 j (by have h1:=B.size;have h2:=H4.o.2.1.keeps.size;omega)) HS.o.2.2.2.2.2.2.1 HS.o.2.2.2.2.2.2.2 ((r.seen:Int)+1) k);have HW:=zhd (show W.heap.size<w4.heap.size∧¬RO rb b mb v W.heap.size from⟨ql,fun e=>by have:=HX.o.1.lt e;omega⟩);have HD:Below w4.heap.size w4 w4.drew:=(znv _ _).drew;go_region_law ((go_simp;go_at_call 70;refine(RA.o _ (by first|exact HD|exact znv _ _)).mono ?_;rintro e w6 ⟨v6,rfl,H6⟩))
  all_goals
   have K6:=H4.o.2.1.trans ((RPK.ext HD).trans H6.o.2);have hb6:=(H6.o.2.keeps.block W.heap.size HW.o.1 HW.o.2).trans H4.o.2.2;have HY:=zh3 H6.o.1 K6 hb6;clear q0 q1 q2 q3 q4 q5 q6 q7 q8 q9 q10 ql r0 r1 r2 r3 r4 r5 rl rf RA HD K6;obtain⟨q0,q1,q2,q3,q4,q5,q6,q7,q8,q9,q10,ql,_⟩:=yaw hb6;obtain⟨r0,r1,r2,r3,r4,r5,rl,rf⟩:=HY.o.1.q;dsimp only at r0 r1 r2 r3 r4 r5;clear hb6;obtain⟨cb,hcb⟩:∃cb,decide (16≤(k:Int)∧k≤21)=cb:=⟨_,rfl⟩;have CS:=zhd (yba ((r.seen:Int)+1) t k a bb nm tx vk vn vs la ln lc w6 cb hcb);have HCB:=zhd hcb;clear hcb;go_wp2_with fail;refine CS.o.mono ?_;rintro e w8 ⟨rfl,hB8⟩;have R8:=HY.o.1.ext hB8;have K8:=HY.o.2.1.trans (RPK.ext hB8);clear q0 q1 q2 q3 q4 q5 q6 q7 q8 q9 q10 ql r0 r1 r2 r3 r4 r5 rl rf CS;obtain⟨r0,r1,r2,r3,r4,r5,rl,rf⟩:=R8.q;dsimp only at r0 r1 r2 r3 r4 r5;have P8:=R8.put 4 (.bool cb) q.2 (by rw[HR.o]) (by rw[HR.o]) (by rw[HR.o,←HCB.o];rfl);have H8:=zh2 P8.1 (K8.trans P8.2);clear R8 K8 P8 hB8;go_wp2_with fail;go_ret;exact⟨_,by rw[HR.o];rfl,zhd H8.o⟩
theorem yjq
  {Z:Nat→Prop}(rb b mb:Nat)(v:MV)(p:Img)(r:RP)(W:World)(R:RPX TR Z W rb b mb v p r){N:Nat}(G:Gl Tryz.prog N W)(t a bb:Int)(nm tx:ByteArray)(x:Val)(vk vn:Int)(vs:ByteArray)(la:Option Addr)(ln lc:Nat)(F:Nat→Prop)(C:CF F W ⟨vk,vn,vs,la,ln,lc⟩ x)(hw:x.wf)
  (fa:Fa)(K:Known p fa)(P:Pk p)(hsp:fa.span≤p.code.length+1)(S:St p fa r.m)(hev:r.m.events≤30)(hZ:∀j,W.heap.size≤j→Z j)(hF:∀g,F g→¬RO rb b mb v g)(hN:∀g,RO rb b mb v g→N≤g)
  (hck:yaj ⟨(r.seen:Int)+1,t,12,a,bb,nm,tx,x⟩=0)(hcl:r.closed=false)(hsn:r.seen≤4000000)(h0:¬r.seen=0)(q:Int×RP)(hr:ybo p r ⟨(r.seen:Int)+1,t,12,a,bb,nm,tx,x⟩=q):
  Calls Tryz.prog 56 #[.pointer (some ⟨rb,0,none⟩),.agg #[.int .i64 ((r.seen:Int)+1),.int .i64 t,.int .i64 12,.int .i64 a,.int .i64 bb,.string nm,.string tx,.int .i64 vk,.int .i64 vn,.string vs,.slice la ln lc]] W
   (ycc Z rb b mb v p W q):=by
 have HR:=zhd (show q=(0,{r with m:=(yay p r.m ⟨(r.seen:Int)+1,t,12,a,bb,nm,tx,x⟩).2,seen:=r.seen+1,fired:=a::r.fired,closed:=ybq 12}) by rw[←hr,ycd (yb3 hck rfl hcl ⟨fun h=>absurd h h0,fun h=>absurd h (by show¬(12:Int)=1;decide)⟩),if_pos (by rfl)];rfl);have n3:((r.seen:Int)==0)=false:=by rw[zna];omega
 have n4:decide (0<(r.seen:Int))=true:=zno (by omega);have n5:0<(r.seen:Int):=by omega
 have n6':decide (0<r.seen)=true:=zno (by omega);have n7':0<r.seen:=by omega
 have HS:=zh8 K P hsp S hev hZ hF hN;have hko:yaS 12=true:=rfl;clear hr h0 K P hsp S hev hZ hF hN;have HO:=zhd hko;clear hko;have hws:wrap64 ((r.seen:Int)+1)=(r.seen:Int)+1:=by unfold wrap64;omega
 have HC:=zh2 hcl hsn;clear hsn hcl;obtain⟨w0,hw0⟩:∃w0,w0=W.alloc (.cells #[.int .i64 ((r.seen:Int)+1),.int .i64 t,.int .i64 12,.int .i64 a,.int .i64 bb,.string nm,.string tx,.int .i64 vk,.int .i64 vn,.string vs,.slice la ln lc] 40):=⟨_,rfl⟩;have B0:=zba hw0;have hB:=zha hw0;have C0:=C.keep (S:=fun _=>False) (zkb B0) (fun _ _ f=>f);have EK:=zhd (ybf ((r.seen:Int)+1) t 12 a bb nm tx x vk vn vs la ln lc F w0 (G.below B0) C0 hw _ hck);obtain⟨q0,q1,q2,q3,q4,q5,q6,q7,q8,q9,q10,ql,_⟩:=yaw hB;have HX:=zh6 R B0 hB C G hw;have HCK:=zhd hck;clear hck C0 B0 hB C R G hw;go_enter Tryz.func56,Tryz.ntmps56;go_wp2_with fail;rw[←hw0];clear hw0;refine EK.o.mono ?_;rintro e w1 ⟨rfl,hB1⟩;have B1:Below W.heap.size W w1:=HX.o.2.1.trans (hB1.mono HX.o.2.1.size);have hb1:=(hB1.block W.heap.size ql).trans HX.o.2.2.1;have R1:=HX.o.1.ext B1;clear q0 q1 q2 q3 q4 q5 q6 q7 q8 q9 q10 ql;obtain⟨q0,q1,q2,q3,q4,q5,q6,q7,q8,q9,q10,ql,_⟩:=yaw hb1;obtain⟨r0,r1,r2,r3,r4,r5,rl,rf⟩:=R1.q;have H1:=zh3 B1 hb1 R1;clear B1 hb1 R1 hB1 EK;rw[HC.o.1]at r4;go_upto_region 3 with(fail);go_region
 all_goals
  go_upto_region 10 with(fail);refine yaa ?_;intro w3 hw3;have P3:=(H1.o.2.2.ext (znv _ _).drew).put 1 (.int .i64 ((r.seen:Int)+1)) {r with seen:=r.seen+1} rfl rfl (by simp);have hw3':w3=w1.drew.setCell ⟨rb,1,none⟩ (.int .i64 ((r.seen:Int)+1)):=by rw[hw3];rfl
  rw[←hw3']at P3;have nb:W.heap.size≠rb:=fun e=>by have:=zlt HX.o.1.h;omega
  have hb3:w3.heap[W.heap.size]? =some (.cells #[.int .i64 ((r.seen:Int)+1),.int .i64 t,.int .i64 12,.int .i64 a,.int .i64 bb,.string nm,.string tx,.int .i64 vk,.int .i64 vn,.string vs,.slice la ln lc] 40 (0,0)):=by rw[hw3'];exact(znn _ _ _ _ nb).trans H1.o.2.1
  have K3:RPK rb b mb v W v w3:=(RPK.ext H1.o.1.drew).trans P3.2;have hs3:w3.heap.size=w1.heap.size:=by rw[hw3'];simp[World.setCell]
  clear hw3 hw3' q0 q1 q2 q3 q4 q5 q6 q7 q8 q9 q10 ql r0 r1 r2 r3 r4 r5 rl rf nb;obtain⟨q0,q1,q2,q3,q4,q5,q6,q7,q8,q9,q10,ql,_⟩:=yaw hb3;obtain⟨r0,r1,r2,r3,r4,r5,rl,rf⟩:=P3.1.q;dsimp only at r0 r1 r2 r3 r4 r5;have OU:=zhd (yam ((r.seen:Int)+1) t 12 a bb nm tx vk vn vs la ln lc w3 _ HO.o);have H3:=zh3 P3.1 K3 hb3;clear P3 K3 hb3 hs3;go_wp2_with fail;refine OU.o.mono ?_;rintro e w4 ⟨rfl,hB4⟩;have hb4:=(hB4.block W.heap.size ql).trans H3.o.2.2;have R4:=H3.o.1.ext hB4;have K4:=H3.o.2.1.trans (RPK.ext hB4);clear q0 q1 q2 q3 q4 q5 q6 q7 q8 q9 q10 ql r0 r1 r2 r3 r4 r5 rl rf OU;obtain⟨q0,q1,q2,q3,q4,q5,q6,q7,q8,q9,q10,ql,_⟩:=yaw hb4;obtain⟨r0,r1,r2,r3,r4,r5,rl,rf⟩:=R4.q;dsimp only at r0 r1 r2 r3 r4 r5;have H4:=zh3 R4 K4 hb4;clear R4 K4 hb4 hB4
 all_goals
  obtain⟨o,hup,hmap⟩:=MapAt.store H4.o.1.fm ymb Tryz.underlying57 a true;replace hup:∀X:World,yei w4 mb X→(Instr.mapUpdate 57 (.map (some mb)) (.int .i64 a) (.bool true)).run Tryz.prog X= .ok () (setBlock X mb o):=hup;have hml:=H4.o.1.mlt;have HMP:=zhd (hmap _ (ycC _ _ _ hml));clear hmap;go_upto_region 12 with(fail);go_region
  all_goals
   go_upto_region 13 with(fail);refine yaa ?_;intro w5 hw5;have hw5':w5=(setBlock w4 mb o).drew:=by rw[hw5];rfl
   have F5:=H4.o.1.fire a HMP.o;have R5:=F5.1.ext (znv _ _).drew;have K5:=F5.2.trans (RPK.ext (znv (setBlock w4 mb o).heap.size (setBlock w4 mb o)).drew);rw[←hw5']at R5 K5;have hb5:=(K5.keeps.block W.heap.size ql (fun e=>by have:=HX.o.1.lt e;omega)).trans H4.o.2.2;have H5:=zh3 R5 (H4.o.2.1.trans K5) hb5;clear hw5 hw5' F5 R5 K5 hup hml HMP q0 q1 q2 q3 q4 q5 q6 q7 q8 q9 q10 ql r0 r1 r2 r3 r4 r5 rl rf;obtain⟨q0,q1,q2,q3,q4,q5,q6,q7,q8,q9,q10,ql,_⟩:=yaw hb5;obtain⟨r0,r1,r2,r3,r4,r5,rl,rf⟩:=H5.o.1.q;dsimp only at r0 r1 r2 r3 r4 r5;clear hb5;have RA:=zhd (fun X (B:Below w5.heap.size w5 X)=>ycS rb b mb v p {r with seen:=r.seen+1,fired:=a::r.fired} X (H5.o.1.ext B) (((HX.o.2.2.2.2.1.keep H5.o.2.1.keeps HS.o.2.2.2.2.2.2.2).below B)) t a bb nm tx x vk vn vs la ln lc F ((HX.o.2.2.2.1.keep H5.o.2.1.keeps HS.o.2.2.2.2.2.2.1).keep (S:=fun _=>False) (zkb B) (fun _ _ f=>f)) HX.o.2.2.2.2.2 fa HS.o.1 HS.o.2.1 HS.o.2.2.1 HS.o.2.2.2.1 HS.o.2.2.2.2.1 (fun j hj=>HS.o.2.2.2.2.2.1 j (by have h1:=B.size;have h2:=H5.o.2.1.keeps.size;omega)) HS.o.2.2.2.2.2.2.1 HS.o.2.2.2.2.2.2.2 ((r.seen:Int)+1) 12)
   have HW:=zhd (show W.heap.size<w5.heap.size∧¬RO rb b mb v W.heap.size from⟨ql,fun e=>by have:=HX.o.1.lt e;omega⟩);have HD:Below w5.heap.size w5 w5.drew:=(znv _ _).drew;go_region_law ((go_simp;go_at_call 70;refine(RA.o _ (by first|exact HD|exact znv _ _)).mono ?_;rintro e w6 ⟨v6,rfl,H6⟩))
   all_goals
    have K6:=H5.o.2.1.trans ((RPK.ext HD).trans H6.o.2);have hb6:=(H6.o.2.keeps.block W.heap.size HW.o.1 HW.o.2).trans H5.o.2.2;have HY:=zh3 H6.o.1 K6 hb6;clear q0 q1 q2 q3 q4 q5 q6 q7 q8 q9 q10 ql r0 r1 r2 r3 r4 r5 rl rf RA HD K6;obtain⟨q0,q1,q2,q3,q4,q5,q6,q7,q8,q9,q10,ql,_⟩:=yaw hb6;obtain⟨r0,r1,r2,r3,r4,r5,rl,rf⟩:=HY.o.1.q;dsimp only at r0 r1 r2 r3 r4 r5;clear hb6;obtain⟨cb,hcb⟩:∃cb,decide (16≤(12:Int)∧12≤21)=cb:=⟨_,rfl⟩;have CS:=zhd (yba ((r.seen:Int)+1) t 12 a bb nm tx vk vn vs la ln lc w6 cb hcb);have HCB:=zhd hcb;clear hcb;go_wp2_with fail;refine CS.o.mono ?_;rintro e w8 ⟨rfl,hB8⟩;have R8:=HY.o.1.ext hB8;have K8:=HY.o.2.1.trans (RPK.ext hB8);clear q0 q1 q2 q3 q4 q5 q6 q7 q8 q9 q10 ql r0 r1 r2 r3 r4 r5 rl rf CS;obtain⟨r0,r1,r2,r3,r4,r5,rl,rf⟩:=R8.q;dsimp only at r0 r1 r2 r3 r4 r5;have P8:=R8.put 4 (.bool cb) q.2 (by rw[HR.o]) (by rw[HR.o]) (by rw[HR.o,←HCB.o];rfl);have H8:=zh2 P8.1 (K8.trans P8.2);clear R8 K8 P8 hB8;go_wp2_with fail;go_ret;exact⟨_,by rw[HR.o];rfl,zhd H8.o⟩
set_option linter.unusedVariables false
theorem yjR (c:Cm)(e:Ev)(h:(evOfC c).kind≠0):ye7 c e=yh6 {evOfC c with id:=e.id,b:=bif (evOfC c).kind==21 then e.b else(evOfC c).b} e:=by
 unfold ye7 yh6;dsimp only;rw[show((evOfC c).kind !=0)=true by simpa using h,Bool.true_and,beq_self_eq_true,Bool.true_and]
theorem ymd {c:Cm}(hc:yaT c=0):yb7 (evOfC c).kind=true:=by
 obtain⟨_,_,_,_,_,hk⟩:=yfe hc;unfold evOfC
 repeat' split
 all_goals first|rfl|(exfalso;omega)
theorem yiE {c:Cm}(hc:yaT c=0):(evOfC c).kind≠0:=fun e=>by
 have h:=ymd hc;rw[e]at h;exact absurd h (by decide)
theorem ylg (c:Cm)(hc:yaT c=0)(hz:szV c.v≤1073741824)(ck cn:Int)(cs:ByteArray)(ma:Option Addr)(mn mc:Nat)(F:Nat→Prop)(W:World)(C:CF F W ⟨ck,cn,cs,ma,mn,mc⟩ c.v)
  (id t k a bb:Int)(nm tx:ByteArray)(x:Val)(vk vn:Int)(vs:ByteArray)(la:Option Addr)(ln lc:Nat)(F':Nat→Prop)(D:CF F' W ⟨vk,vn,vs,la,ln,lc⟩ x)(q:Bool)(hq:ye7 c ⟨id,t,k,a,bb,nm,tx,x⟩=q):
  Calls Tryz.prog 102 #[.agg #[.int .i64 c.kind,.int .i64 c.time,.int .i64 c.a,.int .i64 c.b,.string c.name,.int .i64 ck,.int .i64 cn,.string cs,.slice ma mn mc],.agg #[.int .i64 id,.int .i64 t,.int .i64 k,.int .i64 a,.int .i64 bb,.string nm,.string tx,.int .i64 vk,.int .i64 vn,.string vs,.slice la ln lc]] W (fun e w'=>e= .returned (.bool q)∧Below W.heap.size W w'):=by
 obtain⟨w0,hw0⟩:∃w0,w0=(W.alloc (.cells #[.int .i64 c.kind,.int .i64 c.time,.int .i64 c.a,.int .i64 c.b,.string c.name,.int .i64 ck,.int .i64 cn,.string cs,.slice ma mn mc] 52)).alloc (.cells #[.int .i64 id,.int .i64 t,.int .i64 k,.int .i64 a,.int .i64 bb,.string nm,.string tx,.int .i64 vk,.int .i64 vn,.string vs,.slice la ln lc] 40):=⟨_,rfl⟩;have B0:Below W.heap.size W w0:=by rw[hw0];exact(zal).alloc (by simp) _
 have hC:w0.heap[W.heap.size]? =some (.cells #[.int .i64 c.kind,.int .i64 c.time,.int .i64 c.a,.int .i64 c.b,.string c.name,.int .i64 ck,.int .i64 cn,.string cs,.slice ma mn mc] 52 (0,0)):=by rw[hw0];exact yaE
 have hD:w0.heap[W.heap.size+1]? =some (.cells #[.int .i64 id,.int .i64 t,.int .i64 k,.int .i64 a,.int .i64 bb,.string nm,.string tx,.int .i64 vk,.int .i64 vn,.string vs,.slice la ln lc] 40 (0,0)):=by rw[hw0];exact yar
 obtain⟨c0,c1,c2,c3,c4,c5,c6,c7,c8,cl,_⟩:=yhP hC;have CE:=zhd (yc2 c hc hz ck cn cs ma mn mc F w0 (C.keep (S:=fun _=>False) (zkb B0) (fun _ _ f=>f)));have hk0:=yiE hc;rw[yjR c _ hk0]at hq;have hk1:((evOfC c).kind==0)=false:=by rw[zna];exact hk0
 have hk2:((evOfC c).kind !=0)=true:=by unfold bne;rw[hk1];rfl
 have H0:=zh4 B0 hD D hq;clear B0 hC C D hc hz hq hk0 hD;go_enter Tryz.func102,Tryz.ntmps102;go_wp2_with fail;rw[←hw0];clear hw0;refine CE.o.mono ?_;rintro e w1 ⟨uk,un,us,ua,ul,uc,rfl,H1⟩;have hD1:=(H1.o.2.block (W.heap.size+1) (zlt H0.o.2.1)).trans H0.o.2.1;obtain⟨d0,d1,d2,d3,d4,d5,d6,d7,d8,d9,d10,dl,df⟩:=yaw hD1;have HD1:=zhd hD1;clear c0 c1 c2 c3 c4 c5 c6 c7 c8 cl CE hD1;go_upto_region 2 with(fail);refine yaa ?_;intro w2 hw2;have hE2:=zha hw2;have B2:=zba hw2;have hD2:=(B2.block (W.heap.size+1) dl).trans HD1.o;clear d0 d1 d2 d3 d4 d5 d6 d7 d8 d9 d10 dl df;obtain⟨d0,d1,d2,d3,d4,d5,d6,d7,d8,d9,d10,dl,df⟩:=yaw hD2;obtain⟨e0,e1,e2,e3,e4,e5,e6,e7,e8,e9,e10,el,ef⟩:=yaw hE2;have nb:W.heap.size+1≠w1.heap.size:=fun e=>by have:=zlt HD1.o;omega
 have nb1:¬W.heap.size+1=w1.heap.size:=nb;have nb2:¬w1.heap.size=W.heap.size+1:=fun e=>nb e.symm;have H2:=zh3 B2 hD2 hE2;clear hw2 B2 hD2 hE2;by_cases h21:(evOfC c).kind=21
 ·have hk3:((evOfC c).kind==21)=true:=by rw[beq_iff_eq];exact h21
  have HQ:=zhd (show yh6 ⟨id,(evOfC c).time,(evOfC c).kind,(evOfC c).a,bb,(evOfC c).name,(evOfC c).text,(evOfC c).v⟩ ⟨id,t,k,a,bb,nm,tx,x⟩=q by have:=H0.o.2.2.2;rw[hk3]at this;exact this);clear h21;go_upto_region 5 with(fail);refine yaa ?_;intro w3 hw3;have hE3:w3.heap[w1.heap.size]? =some (.cells #[.int .i64 id,.int .i64 (evOfC c).time,.int .i64 (evOfC c).kind,.int .i64 (evOfC c).a,.int .i64 bb,.string (evOfC c).name,.string (evOfC c).text,.int .i64 uk,.int .i64 un,.string us,.slice ua ul uc] 40 (0,0)):=by
   rw[hw3];have:=H2.o.2.2;simp[World.setCell,zni,this]
  have K3:Keeps (fun j=>j=w1.heap.size) w2 w3:=by
   rw[hw3]
   repeat(first|with_reducible exact Keeps.refl _ _|(refine Keeps.setCell ?_ (Or.inl ?h) _;case h=>rfl))
  have hD3:=(K3.block (W.heap.size+1) (zlt H2.o.2.1) nb).trans H2.o.2.1;clear d0 d1 d2 d3 d4 d5 d6 d7 d8 d9 d10 dl df e0 e1 e2 e3 e4 e5 e6 e7 e8 e9 e10 el ef hw3;obtain⟨d0,d1,d2,d3,d4,d5,d6,d7,d8,d9,d10,dl,df⟩:=yaw hD3;obtain⟨e0,e1,e2,e3,e4,e5,e6,e7,e8,e9,e10,el,ef⟩:=yaw hE3;have hs1:=H1.o.2.size;have B01:=H0.o.1.trans (H1.o.2.mono H0.o.1.size);have B02:=B01.trans (H2.o.1.mono B01.size);have B03:Below W.heap.size W w3:=B02.trans (K3.below B02.size (fun j hj e=>by have:=B01.size;omega));have hs0:=H0.o.1.size;have CV:=((H1.o.1.mono (G:=fun g=>g<w1.heap.size) (fun g _ hl=>hl)).keep (S:=fun _=>False) (zkb H2.o.1) (fun _ _ f=>f)).keep K3 (fun g hg e=>by have hg:g<w1.heap.size:=hg;omega);have SA:=zhd (yfN id (evOfC c).time (evOfC c).kind (evOfC c).a bb (evOfC c).name (evOfC c).text uk un us ua ul uc id t k a bb nm tx vk vn vs la ln lc (evOfC c).v x _ _ w3 CV (H0.o.2.2.1.keep (S:=fun _=>False) (zkb B03) (fun _ _ f=>f)) q HQ.o);have H3:=zhd B03;clear hE3 K3 hD3 hs1 B01 B02 B03 hs0 CV nb;go_wp2_with fail;refine SA.o.mono ?_;rintro e w4 ⟨rfl,hB4⟩;have H4:=zhd (H3.o.trans (hB4.mono H3.o.size))
  clear hB4 d0 d1 d2 d3 d4 d5 d6 d7 d8 d9 d10 dl df e0 e1 e2 e3 e4 e5 e6 e7 e8 e9 e10 el ef;go_wp2_with fail;go_ret;exact⟨rfl,H4.o⟩
 ·have hk3:((evOfC c).kind==21)=false:=by rw[zna];exact h21
  have HQ:=zhd (show yh6 ⟨id,(evOfC c).time,(evOfC c).kind,(evOfC c).a,(evOfC c).b,(evOfC c).name,(evOfC c).text,(evOfC c).v⟩ ⟨id,t,k,a,bb,nm,tx,x⟩=q by have:=H0.o.2.2.2;rw[hk3]at this;exact this);clear h21;go_upto_region 5 with(fail);refine yaa ?_;intro w3 hw3;have hE3:w3.heap[w1.heap.size]? =some (.cells #[.int .i64 id,.int .i64 (evOfC c).time,.int .i64 (evOfC c).kind,.int .i64 (evOfC c).a,.int .i64 (evOfC c).b,.string (evOfC c).name,.string (evOfC c).text,.int .i64 uk,.int .i64 un,.string us,.slice ua ul uc] 40 (0,0)):=by
   rw[hw3];have:=H2.o.2.2;simp[World.setCell,zni,this]
  have K3:Keeps (fun j=>j=w1.heap.size) w2 w3:=by
   rw[hw3]
   repeat(first|with_reducible exact Keeps.refl _ _|(refine Keeps.setCell ?_ (Or.inl ?h) _;case h=>rfl))
  have hD3:=(K3.block (W.heap.size+1) (zlt H2.o.2.1) nb).trans H2.o.2.1;clear d0 d1 d2 d3 d4 d5 d6 d7 d8 d9 d10 dl df e0 e1 e2 e3 e4 e5 e6 e7 e8 e9 e10 el ef hw3;obtain⟨d0,d1,d2,d3,d4,d5,d6,d7,d8,d9,d10,dl,df⟩:=yaw hD3;obtain⟨e0,e1,e2,e3,e4,e5,e6,e7,e8,e9,e10,el,ef⟩:=yaw hE3;have hs1:=H1.o.2.size;have B01:=H0.o.1.trans (H1.o.2.mono H0.o.1.size);have B02:=B01.trans (H2.o.1.mono B01.size);have B03:Below W.heap.size W w3:=B02.trans (K3.below B02.size (fun j hj e=>by have:=B01.size;omega));have hs0:=H0.o.1.size;have CV:=((H1.o.1.mono (G:=fun g=>g<w1.heap.size) (fun g _ hl=>hl)).keep (S:=fun _=>False) (zkb H2.o.1) (fun _ _ f=>f)).keep K3 (fun g hg e=>by have hg:g<w1.heap.size:=hg;omega);have SA:=zhd (yfN id (evOfC c).time (evOfC c).kind (evOfC c).a (evOfC c).b (evOfC c).name (evOfC c).text uk un us ua ul uc id t k a bb nm tx vk vn vs la ln lc (evOfC c).v x _ _ w3 CV (H0.o.2.2.1.keep (S:=fun _=>False) (zkb B03) (fun _ _ f=>f)) q HQ.o);have H3:=zhd B03;clear hE3 K3 hD3 hs1 B01 B02 B03 hs0 CV nb;go_wp2_with fail;refine SA.o.mono ?_;rintro e w4 ⟨rfl,hB4⟩;have H4:=zhd (H3.o.trans (hB4.mono H3.o.size))
  clear hB4 d0 d1 d2 d3 d4 d5 d6 d7 d8 d9 d10 dl df e0 e1 e2 e3 e4 e5 e6 e7 e8 e9 e10 el ef;go_wp2_with fail;go_ret;exact⟨rfl,H4.o⟩
end Go.Proofs.YtpagmlndgblhhaaGreatDoor
namespace Go.Va
open Go.Own Go.RowKit
open Go.Proofs.YtpagmlndgblhhaaGreatDoor
theorem yhN {c:Cm}(h:yaT c=0)(hw:c.v.wf):yaT (yaG c)=0∧(yaG c).v.wf:=by
 have hv:checkL c.v=0:=(yfe h).2.2.2.2.1;have ho:=ya3 ⟨hv,hw⟩;refine⟨?_,ho.2⟩;unfold yaT at h⊢;show(match yka c.kind with
  |none=>(9:Int)
  |some (fa,fb,fn,fv)=>
   if c.time<0∨4611686018427387903<c.time∨c.a<0∨c.b<0∨(fa=false∧c.a≠0)∨(fb=false∧c.b≠0)then 1 else
   if 64<c.name.size then 2 else
   if(fn=false∧c.name.size≠0)∨(fv=false∧(yab c.v).kind≠0)then 8 else checkL (yab c.v))=0
 rw[ybz,ho.1];rw[hv]at h;exact h
end Go.Va
