/- Parts of the proof: what the functions and the plain laws give that later parts lean on. Conditions: none beyond those that each theorem names. -/
import Derived.Test.YtpagmlndgblhhaaGreatDoorT26
set_option maxRecDepth 100000
set_option maxHeartbeats 8000000
namespace Go.Proofs.YtpagmlndgblhhaaGreatDoor
open Go.RowKit Go.Own Go.Own.MapTy Go.Va Go.Sort
open Go.Own.Cells (sz enc)
theorem yj5 {N:Nat}(s:ByteArray)(w:World)(hs:s.size<=4294967280)(G:Gl Tryz.prog N w)(h0:Lib.hasPrefix (s.data.toList.drop 0) [110,105,108]=false)(h1:yex s.data.toList 0 34=false)(h2:yex s.data.toList 0 91=false)(x:Val)(hv:yf1 s.data.toList 0= .ok x s.size)(hcl:checkL x=0):
  Calls Tryz.prog 128 #[s] w (yoL w (x,0)):=by
 have hn:=G.n;have Z:TX ((w.alloc (.cells #[.int .i64 0,.int .i64 0,.string ⟨#[]⟩,.slice none 0 0] 38)).alloc (.cells #[s,.int .i64 0,.bool false] 246)) (w.heap.size+1) s 0 false:=yar;have Y:=zhd (show Calls Tryz.prog 151 #[.pointer (some ⟨w.heap.size+1,0,none⟩),.int .i64 0] _ _ from ylY (w.heap.size+1) s 0 0 _ Z hs (znq _) ((G.alloc _).alloc _) (by omega) h0 h1 h2 _ hv);have H:=ykd hv;clear G Z h0 h1 h2 hv;go_in;go_wp2_with fail;refine Y.o.mono ?_;rintro e C ⟨c,R,u,I,H2⟩;have q:∀o,C.cell? ⟨w,o,none⟩=(#[.int .i64 0,.int .i64 0,.string ⟨#[]⟩,.slice none 0 0]:Array Value)[o]? :=fun o=>by
  rw[I.cell (p:=⟨w,o,none⟩) (by simp;omega) (show¬w.heap.size=w.heap.size+1 by omega),zch yaG]
 have W:∀o,C.frozen? ⟨w,o,none⟩=false:=fun o=>by
  rw[I.frozen (p:=⟨w,o,none⟩) (by simp;omega) (show¬w.heap.size=w.heap.size+1 by omega),zfr yaG]
 have Q:=q 0;have P:=q 1;have O:=q 2;have M:=q 3;simp only[zmc,zma,zmb]at Q P O M;have L:=I.size;simp at L;have E:w<C.heap.size:=by omega
 have g:w.heap.size+1<C.heap.size:=by omega
 have y:=zhd (show Below w w C from(((zal).alloc (by simp) _).trans (I.below (B:=w.heap.size) (by simp;omega) (fun k hk e=>by omega))));clear q Y I;obtain⟨rfl,T,X,J⟩:=H2;have c0:=J.c0;have c1:=J.c1;have c2:=J.c2;have U:¬R<s.size:=by omega
 clear T;have e1:¬(R:Int)<s.size:=by omega
 have e2:decide (R<s.size)=false:=by rw[znz];exact U
 have F:=(X.mono (G:=fun j=>w<j) (fun j h _=>by simp at h;omega)).keep (S:=fun _=>False) ((Keeps.refl _ _).alloc (.cells #[c.kind,c.n,c.s,.slice c.la c.ln c.lc] 38)) (fun _ _ f=>f);have CC:=zhd (yaE x c.kind c.n c.s c.la c.ln c.lc _ _ F H _ rfl);rw[hcl]at CC;have a:=zhd F;clear J X H F hcl;go_wp2_with fail;refine CC.o.mono ?_;rintro e D ⟨rfl,A⟩;have p0:D.cell? ⟨C,0,none⟩=some (.int .i64 c.kind):=by rw[A.cell (p:=⟨C,0,none⟩) (by simp),zch (znb _ _)];rfl
 have p1:D.cell? ⟨C,1,none⟩=some (.int .i64 c.n):=by rw[A.cell (p:=⟨C,1,none⟩) (by simp),zch (znb _ _)];rfl
 have p2:D.cell? ⟨C,2,none⟩=some (.string c.s):=by rw[A.cell (p:=⟨C,2,none⟩) (by simp),zch (znb _ _)];rfl
 have p3:D.cell? ⟨C,3,none⟩=some (.slice c.la c.ln c.lc):=by rw[A.cell (p:=⟨C,3,none⟩) (by simp),zch (znb _ _)];rfl
 have t:D.cell? ⟨w,0,none⟩=some (.int .i64 0):=by rw[A.cell (p:=⟨w,0,none⟩) (by simp;omega)];exact(znt (w:=C) (zne _ _ _ E)).trans Q
 have r:D.cell? ⟨w,1,none⟩=some (.int .i64 0):=by rw[A.cell (p:=⟨w,1,none⟩) (by simp;omega)];exact(znt (w:=C) (zne _ _ _ E)).trans P
 have m:D.cell? ⟨w,2,none⟩=some (.string ⟨#[]⟩):=by rw[A.cell (p:=⟨w,2,none⟩) (by simp;omega)];exact(znt (w:=C) (zne _ _ _ E)).trans O
 have l:D.cell? ⟨w,3,none⟩=some (.slice none 0 0):=by rw[A.cell (p:=⟨w,3,none⟩) (by simp;omega)];exact(znt (w:=C) (zne _ _ _ E)).trans M
 have i:∀o,D.frozen? ⟨w,o,none⟩=false:=fun o=>by rw[A.frozen (p:=⟨w,o,none⟩) (by simp;omega)];exact(znu (w:=C) (zne _ _ _ E)).trans (W o)
 have K:=A.size;simp at K;have d:w<D.heap.size:=by omega
 have b:C<D.heap.size:=by omega
 have z:=zhd (show Below w w D from(y.o.alloc (by omega) _).trans (A.mono (by simp;omega)));have V:=zhd (a.o.keep (zkb (S:=fun _=>False) A) (fun _ _ f=>f));clear A c0 c1 c2 Q P O M W CC a;go_wp2_with fail;exact zng (v:=.tuple #[.agg #[c.kind,c.n,c.s,.slice c.la c.ln c.lc],.int .i64 0]) (by simp only[results,Tryz.results128];go_simp) rfl ⟨c,rfl,(V.o.keep (ypf w.heap.size D _ _ _ _) (fun j h e=>by omega)).mono (fun j h _=>by omega),yiz z.o _ _ _ _⟩
theorem ylI {Z:Nat->Prop}(b:Nat)(v:RV)(st:RSt)(line:Int)(s:ByteArray)(W:World)(R:RX Z W b v st)(hZ:∀j,W.heap.size<=j->Z j)(hl:st.consts.length<=65536)(x:Val)(PA:Calls Tryz.prog 128 #[s] W (yoL W (x,0)))(i0:Nat)(l':List Val)(hq:yfK x st.consts=(i0,l')):
  Calls Tryz.prog 93 #[.pointer (some ⟨b,0,none⟩),.int .i64 1,line,s] W (yoM Z W b v ((i0:Int),0,{st with consts:=l'})):=by
 have PA:=zhd PA;have L:=zhd R;clear R;go_in;go_wp2_with fail;refine PA.o.mono ?_;rintro e N ⟨⟨K,J,I,E,C,D⟩,rfl,F,H⟩;have A:=zh2 F H;clear F H PA;have B:Below W W (N.alloc (.cells #[K,J,I,.slice E C D] 38)):=A.o.2.alloc A.o.2.size _;have RV:=zhd (yiT b v st x K J I E C D _ (L.o.ext B) ((A.o.1.mono (G:=fun j=>¬Go.Va.RO v b j/\Z j) (fun j h _=>⟨fun e=>by have:=L.o.lt e;omega,hZ j h⟩)).keep (S:=fun _=>False) ((Keeps.refl _ _).alloc _) (fun _ _ f=>f)) (by omega) _ _ hq);have P:=zhd B;clear B hq;go_wp2_with fail;refine RV.o.mono ?_;rintro e Q ⟨O,rfl,M⟩;go_wp2_with fail;exact zng (v:=.tuple #[i0,.int .i64 0]) (by simp only[results,Tryz.results93];go_simp) rfl ⟨O,rfl,zhd ⟨M.o.1,(RK.ext P.o).trans M.o.2⟩⟩
theorem ylT {N:Nat}
  {Z:Nat->Prop}(b:Nat)(v:RV)(st:RSt)(n:Int)(s:ByteArray)(W:World)(R:RX Z W b v st)(hs:s.size<=65536)
  (G:Gl Tryz.prog N W)(hA:Lib.hasSuffix s.data.toList [58]=false)(hp:Lib.hasPrefix s.data.toList [32,32]=true)(op:Nat)(inf:Inf)(hf:yeU (ygG s)=some op)(ho:(ofL op).1=inf)(hm:ylg s=false)(hi:(inf.operand !=0)=false)(hc:st.code.length<=65536)(r:Int×RSt)(hr:r=(0,{st with code:=st.code++[⟨op,0⟩]})):
  Calls Tryz.prog 47 #[.pointer (some ⟨b,0,none⟩),n,s] W (ynH Z W b v r)
  :=by
 subst hr;have d:=yhv s;have L:=zhd (show Calls Tryz.prog 90 #[.string ⟨(Lib.trimPrefix s.data.toList [32,32]).toArray⟩,.string ⟨#[32]⟩] W (fun e w'=>e= .returned (.tuple #[.string (ygG s),.string (yc7 s),.bool (ylg s)])/\Below W W w')from by
  obtain⟨m,hm⟩:=G.m;have Y:(⟨(Lib.trimPrefix s.data.toList [32,32]).toArray⟩:ByteArray).size<4294967281:=by
   have e1:(⟨(Lib.trimPrefix s.data.toList [32,32]).toArray⟩:ByteArray).size=(Lib.trimPrefix s.data.toList [32,32]).length:=by show(Lib.trimPrefix s.data.toList [32,32]).toArray.size=_;simp
   rw[e1];omega
  exact(Any.strings_Cut Tryz.lays145 ⟨(Lib.trimPrefix s.data.toList [32,32]).toArray⟩ ⟨#[32]⟩ m W Y hm).mono fun e w' ⟨j1,n,j2⟩=>⟨by rw[j1];unfold ygG yc7 ylg;simp,by rw[j2];exact⟨rfl,rfl,rfl,znc _,fun _ _=>rfl⟩⟩)
 rw[hm]at L;have FI:=zhd (show∀w,Calls Tryz.prog 91 #[.string (ygG s)] w (fun e w'=>e= .returned (.tuple #[op,.bool true])/\Below w w w')from fun w=>(ykF (ygG s) w).mono fun e w' ⟨j1,j2⟩=>⟨by rw[j1,hf];rfl,j2⟩);have z:=zhd (show∀w,Calls Tryz.prog 92 #[op] w (fun e w'=>e= .returned (.tuple #[.agg #[inf.name,inf.operand,inf.i,inf.o,inf.blocks,inf.ends,inf.flow],.bool (ofL op).2])/\Below w w w')from fun w=>(yf0 op w).mono fun e w' ⟨j1,j2⟩=>⟨by rw[j1,ho];rfl,j2⟩);generalize(ofL op).2=ob at*;clear hf G d ho hm;have CP:=zhd (show∀W,Calls Tryz.prog 89 #[s,.string ⟨#[32,32]⟩] W (fun e w'=>e= .returned (.tuple #[.string ⟨(Lib.trimPrefix s.data.toList [32,32]).toArray⟩,.bool true])/\w'=W)from fun W=>(Any.strings_CutPrefix Tryz.lays103 s ⟨#[32,32]⟩ W).mono fun e w' ⟨j1,j2⟩=>⟨by rw[j1,show(⟨#[32,32]⟩:ByteArray).data.toList=[32,32]from rfl,hp],j2⟩)
 have l:=zhd (show∀W,Calls Tryz.prog 45 #[s,.string ⟨#[58]⟩] W (fun e w'=>e= .returned (.tuple #[.string (yjH s),.bool false])/\w'=W)from fun W=>(Any.strings_CutSuffix Tryz.lays104 s ⟨#[58]⟩ W (by omega)).mono fun e w' ⟨j1,j2⟩=>⟨by rw[j1,show(⟨#[58]⟩:ByteArray).data.toList=[58]from rfl,hA];rfl,j2⟩);clear hA hp;go_in;go_wp2_with fail;refine(l.o _).mono ?_;rintro e X ⟨rfl,O⟩;rw[O];clear O X;go_wp2_with fail;refine(CP.o _).mono ?_;rintro e X ⟨rfl,O⟩;rw[O];clear O X;go_wp2_with fail;refine L.o.mono ?_;rintro e w2 ⟨rfl,U⟩;have K:=zhd U;clear U;go_wp2_with fail;refine(FI.o _).mono ?_;rintro e D ⟨rfl,T⟩;have F:=zhd (K.o.trans (T.mono K.o.size));clear T K;go_wp2_with fail;refine(z.o _).mono ?_;rintro e H ⟨rfl,C⟩;have M:D<H.heap.size:=by have:=C.size;simp at this;omega
 have x:H.cell? ⟨D,0,none⟩=some (.int .i64 op):=by rw[C.cell (p:=⟨D,0,none⟩) (by simp),zch (znb _ _)];rfl
 have t:H.cell? ⟨D,1,none⟩=some (.int .i64 0):=by rw[C.cell (p:=⟨D,1,none⟩) (by simp),zch (znb _ _)];rfl
 have Ab:∀o,H.frozen? ⟨D,o,none⟩=false:=fun o=>by rw[C.frozen (p:=⟨D,o,none⟩) (by simp),zfr (znb _ _)]
 have V:=zhd ((F.o.alloc F.o.size (.cells #[op,.int .i64 0] 106)).trans (C.mono (by have:=F.o.size;simp;omega)));have s3:W<=D.heap.size:=F.o.size;clear C;obtain⟨w6,B⟩:∃w6,w6=H.alloc (.cells #[inf.name,inf.operand,inf.i,inf.o,inf.blocks,inf.ends,inf.flow] 169):=⟨_,rfl⟩;have q:Below W W w6:=by rw[B];exact V.o.alloc V.o.size _
 have A:=zh2 (R.ext q) (RK.ext (b:=b) (v:=v) q);go_wp2_with fail;rw[<-B];have x:w6.cell? ⟨D,0,none⟩=some (.int .i64 op):=by rw[B];exact(znt (w:=H) (zne _ _ _ M)).trans x
 have t:w6.cell? ⟨D,1,none⟩=some (.int .i64 0):=by rw[B];exact(znt (w:=H) (zne _ _ _ M)).trans t
 have Aa:D<w6.heap.size:=by rw[B];simp;omega
 clear B q L FI z;obtain⟨vc,vk,vn,vj,pl,mb⟩:=v;obtain⟨j,f,rfl⟩:∃a cap,vc= .slice a st.code.length cap:=A.o.1.code.slice;have b0:b<w6:=zlt A.o.1.h;have c0:=zca A.o.1.h 0 rfl;have f0:∀o,w6.frozen? ⟨b,o,none⟩=false:=fun o=>zfr A.o.1.h o;have NB:=zhd (show∀g,(Value.slice j st.code.length f).ownBlock=some g->g≠b from fun g hg=>(A.o.1.sep.c g hg).1);have J:=zhd (show(st.code.length+[(⟨op,0⟩:In)].length)*16<=140737488355328/\st.code.length+[(⟨op,0⟩:In)].length<=maxLen/\st.code.length+[(⟨op,0⟩:In)].length=st.code.length+1 from by unfold maxLen;simp;omega);go_region_law
  ((refine yay (α:=In) (o:=⟨some 105,_,_,_,_,_⟩) ynt (by rfl) (.tmp 102) (.tmp 104) (by rfl) (v:=.slice j st.code.length f) (u:=.slice (some ⟨w6,0,none⟩) 1 1) (by rfl) (by rfl) (xs:=st.code) (ys:=[⟨op,0⟩]) ((A.o.1.code.drew).alloc _) (RowAt.lit (α:=In) (y:=⟨op,0⟩) (znb _ _)) J.o.1 J.o.2.1 (st.code.length+1) J.o.2.2 ?_;intro a1 cp w9 P I Q;have E:=(I.block b (by simp;omega) (fun e=>NB.o b e rfl)).trans ((zne w6.drew _ _ b0).trans A.o.1.h);have y1:w9.cell? ⟨b,0,none⟩=some (.slice j st.code.length f):=by{rw[zch E];rfl};have y3:∀o,w9.frozen? ⟨b,o,none⟩=false:=fun o=>zfr E o;have b1:b<w9:=zlt E;have k:=zh3 P I Q;clear P I Q E))
 all_goals
  have S:=(A.o.1.ext (((znv _ w6).drew).alloc (znc _) (.cells #[op,.int .i64 0] 106))).setCode k.o.1 k.o.2.1 k.o.2.2;have HS:=zhd S;clear S;go_wp2;go_ret;exact⟨_,rfl,zhd ⟨HS.o.1,A.o.2.trans ((RK.ext (((znv _ w6).drew).alloc (znc _) _)).trans HS.o.2)⟩⟩
theorem ylU {N:Nat}
  {Z:Nat->Prop}(b:Nat)(v:RV)(st:RSt)(n:Int)(s:ByteArray)(W:World)(R:RX Z W b v st)(hs:s.size<=65536)
  (G:Gl Tryz.prog N W)(hA:Lib.hasSuffix s.data.toList [58]=false)(hp:Lib.hasPrefix s.data.toList [32,32]=true)(op:Nat)(inf:Inf)(hf:yeU (ygG s)=some op)(ho:(ofL op).1=inf)(hm:ylg s=true)(hi:(inf.operand !=0)=true)(oa:Int)(st':RSt)
  (hZ:∀j,W.heap.size<=j->Z j)(OA:∀Z1 w6,(∀j,w6.heap.size<=j->Z1 j)->RX Z1 w6 b v st->Gl Tryz.prog N w6->Calls Tryz.prog 93 #[.pointer (some ⟨b,0,none⟩),inf.operand,n,.string (yc7 s)] w6 (yoM Z1 w6 b v (oa,0,st')))(hc:st'.code.length<=65536)(r:Int×RSt)(hr:r=(0,{st' with code:=st'.code++[⟨op,oa⟩]})):
  Calls Tryz.prog 47 #[.pointer (some ⟨b,0,none⟩),n,s] W (ynH Z W b v r)
  :=by
 subst hr;have Ad:=yhv s;have X:=zhd (show Calls Tryz.prog 90 #[.string ⟨(Lib.trimPrefix s.data.toList [32,32]).toArray⟩,.string ⟨#[32]⟩] W (fun e w'=>e= .returned (.tuple #[.string (ygG s),.string (yc7 s),.bool (ylg s)])/\Below W W w')from by
  obtain⟨m,hm⟩:=G.m;have Ac:(⟨(Lib.trimPrefix s.data.toList [32,32]).toArray⟩:ByteArray).size<4294967281:=by
   have e1:(⟨(Lib.trimPrefix s.data.toList [32,32]).toArray⟩:ByteArray).size=(Lib.trimPrefix s.data.toList [32,32]).length:=by show(Lib.trimPrefix s.data.toList [32,32]).toArray.size=_;simp
   rw[e1];omega
  exact(Any.strings_Cut Tryz.lays145 ⟨(Lib.trimPrefix s.data.toList [32,32]).toArray⟩ ⟨#[32]⟩ m W Ac hm).mono fun e w' ⟨F,n,j2⟩=>⟨by rw[F];unfold ygG yc7 ylg;simp,by rw[j2];exact⟨rfl,rfl,rfl,znc _,fun _ _=>rfl⟩⟩)
 rw[hm]at X;have FI:=zhd (show∀w,Calls Tryz.prog 91 #[.string (ygG s)] w (fun e w'=>e= .returned (.tuple #[op,.bool true])/\Below w w w')from fun w=>(ykF (ygG s) w).mono fun e w' ⟨F,j2⟩=>⟨by rw[F,hf];rfl,j2⟩);have OF:=zhd (show∀w,Calls Tryz.prog 92 #[op] w (fun e w'=>e= .returned (.tuple #[.agg #[inf.name,inf.operand,inf.i,inf.o,inf.blocks,inf.ends,inf.flow],.bool (ofL op).2])/\Below w w w')from fun w=>(yf0 op w).mono fun e w' ⟨F,j2⟩=>⟨by rw[F,ho];rfl,j2⟩);generalize(ofL op).2=ob at*;have OA:=zhd OA;clear hf Ad ho hm;have CP:=zhd (show∀W,Calls Tryz.prog 89 #[s,.string ⟨#[32,32]⟩] W (fun e w'=>e= .returned (.tuple #[.string ⟨(Lib.trimPrefix s.data.toList [32,32]).toArray⟩,.bool true])/\w'=W)from fun W=>(Any.strings_CutPrefix Tryz.lays103 s ⟨#[32,32]⟩ W).mono fun e w' ⟨F,j2⟩=>⟨by rw[F,show(⟨#[32,32]⟩:ByteArray).data.toList=[32,32]from rfl,hp],j2⟩)
 have Af:=zhd (show∀W,Calls Tryz.prog 45 #[s,.string ⟨#[58]⟩] W (fun e w'=>e= .returned (.tuple #[.string (yjH s),.bool false])/\w'=W)from fun W=>(Any.strings_CutSuffix Tryz.lays104 s ⟨#[58]⟩ W (by omega)).mono fun e w' ⟨F,j2⟩=>⟨by rw[F,show(⟨#[58]⟩:ByteArray).data.toList=[58]from rfl,hA];rfl,j2⟩);clear hA hp;go_in;go_wp2_with fail;refine(Af.o _).mono ?_;rintro e w1 ⟨rfl,k⟩;rw[k];clear k w1;go_wp2_with fail;refine(CP.o _).mono ?_;rintro e w1 ⟨rfl,k⟩;rw[k];clear k w1;go_wp2_with fail;refine X.o.mono ?_;rintro e w2 ⟨rfl,x⟩;have U:=zhd x;clear x;go_wp2_with fail;refine(FI.o _).mono ?_;rintro e A ⟨rfl,t⟩;have K:=zhd (U.o.trans (t.mono U.o.size));clear t U;go_wp2_with fail;refine(OF.o _).mono ?_;rintro e L ⟨rfl,D⟩;have O:A<L.heap.size:=by have:=D.size;simp at this;omega
 have i0:L.cell? ⟨A,0,none⟩=some (.int .i64 op):=by rw[D.cell (p:=⟨A,0,none⟩) (by simp),zch (znb _ _)];rfl
 have i1:L.cell? ⟨A,1,none⟩=some (.int .i64 0):=by rw[D.cell (p:=⟨A,1,none⟩) (by simp),zch (znb _ _)];rfl
 have d:∀o,L.frozen? ⟨A,o,none⟩=false:=fun o=>by rw[D.frozen (p:=⟨A,o,none⟩) (by simp),zfr (znb _ _)]
 have Aa:=zhd ((K.o.alloc K.o.size (.cells #[op,.int .i64 0] 106)).trans (D.mono (by have:=K.o.size;simp;omega)));have s3:W<=A.heap.size:=K.o.size;clear D;obtain⟨w6,C⟩:∃w6,w6=L.alloc (.cells #[inf.name,inf.operand,inf.i,inf.o,inf.blocks,inf.ends,inf.flow] 169):=⟨_,rfl⟩;have Y:Below W W w6:=by rw[C];exact Aa.o.alloc Aa.o.size _
 have Ae:=zh2 (R.ext Y) (RK.ext (b:=b) (v:=v) Y);have i0:w6.cell? ⟨A,0,none⟩=some (.int .i64 op):=by rw[C];exact(znt (w:=L) (zne _ _ _ O)).trans i0
 have i1:w6.cell? ⟨A,1,none⟩=some (.int .i64 0):=by rw[C];exact(znt (w:=L) (zne _ _ _ O)).trans i1
 have f:∀o,w6.frozen? ⟨A,o,none⟩=false:=fun o=>by rw[C];exact(znu (w:=L) (zne _ _ _ O)).trans (d o)
 have I:A<w6.heap.size:=by rw[C];simp;omega
 have OC:=zhd (OA.o (fun j=>Z j/\j≠A) w6 (fun j hj=>⟨hZ j (by have:=Y.size;omega),by omega⟩) ((R.monoZ (fun j hj hl=>⟨hj,by omega⟩)).ext Y) (G.below Y));go_wp2_with fail;rw[<-C];refine OC.o.mono ?_;rintro e w7 ⟨v',rfl,V⟩;have E:¬Go.Va.RO v b A.heap.size:=fun h=>by have:=R.lt h;omega
 have j0:=(V.o.2.1.cell (p:=⟨A,0,none⟩) I E).trans i0;have F:=(V.o.2.1.cell (p:=⟨A,1,none⟩) I E).trans i1;have jf:∀o,w7.frozen? ⟨A,o,none⟩=false:=fun o=>(V.o.2.1.frozen (p:=⟨A,o,none⟩) I E).trans (f o);have Ab:A<w7.heap.size:=znj I V.o.2.1.size;have M:¬Go.Va.RO v' b A.heap.size:=fun h=>by
  rcases V.o.2.2.1 _ h with h|h
  .exact E h
  .omega
 have Q:=zh2 M (Ae.o.2.trans V.o.2);clear C Y X FI OF OC i0 i1 f d E M;obtain⟨w8,H⟩:∃w8,w8=w7.setCell ⟨A,1,none⟩ (.int .i64 oa):=⟨_,rfl⟩;have K8:Keeps (fun j=>j=A) w7 w8:=by rw[H];exact Keeps.setCell (S:=fun j=>j=A) (p:=⟨A,1,none⟩) (Keeps.refl _ _) (.inl rfl) _
 have R8:=(V.o.1.far K8 (fun j e h=>Q.o.1 (e▸h)) (fun j e h=>h.2 e)).monoZ (Z':=Z) (fun j h _=>h.1);have z:RK b v W v' w8:=⟨Q.o.2.1.trans K8 (fun j hj e=>by omega),Q.o.2.2⟩;have k0:w8.cell? ⟨A,0,none⟩=some (.int .i64 op):=by rw[H];go_simp
 have k1:w8.cell? ⟨A,1,none⟩=some (.int .i64 oa):=by rw[H];go_simp
 have Ag:A<w8.heap.size:=znj Ab K8.size;have B:=zh2 R8 z;go_wp2_with fail;rw[<-H];clear H K8 R8 z j0 F jf;obtain⟨vc,vk,vn,vj,pl,mb⟩:=v';obtain⟨ca,cc,rfl⟩:∃a cap,vc= .slice a st'.code.length cap:=B.o.1.code.slice;have b0:b<w8:=zlt B.o.1.h;have c0:=zca B.o.1.h 0 rfl;have f0:∀o,w8.frozen? ⟨b,o,none⟩=false:=fun o=>zfr B.o.1.h o;have NB:=zhd (show∀g,(Value.slice ca st'.code.length cc).ownBlock=some g->g≠b from fun g hg=>(B.o.1.sep.c g hg).1);have T:=zhd (show(st'.code.length+[(⟨op,oa⟩:In)].length)*16<=140737488355328/\st'.code.length+[(⟨op,oa⟩:In)].length<=maxLen/\st'.code.length+[(⟨op,oa⟩:In)].length=st'.code.length+1 from by unfold maxLen;simp;omega);go_region_law
  ((refine yay (α:=In) (o:=⟨some 105,_,_,_,_,_⟩) ynt (by rfl) (.tmp 102) (.tmp 104) (by rfl) (v:=.slice ca st'.code.length cc) (u:=.slice (some ⟨w8,0,none⟩) 1 1) (by rfl) (by rfl) (xs:=st'.code) (ys:=[⟨op,oa⟩]) ((B.o.1.code.drew).alloc _) (RowAt.lit (α:=In) (y:=⟨op,oa⟩) (znb _ _)) T.o.1 T.o.2.1 (st'.code.length+1) T.o.2.2 ?_;intro a1 cp w9 l P q;have J:=(P.block b (by simp;omega) (fun e=>NB.o b e rfl)).trans ((zne w8.drew _ _ b0).trans B.o.1.h);have y1:w9.cell? ⟨b,0,none⟩=some (.slice ca st'.code.length cc):=by{rw[zch J];rfl};have y3:∀o,w9.frozen? ⟨b,o,none⟩=false:=fun o=>zfr J o;have b1:b<w9:=zlt J;have FF:=zh3 l P q;clear l P q J))
 all_goals
  have S:=(B.o.1.ext (((znv _ w8).drew).alloc (znc _) (.cells #[op,oa] 106))).setCode FF.o.1 FF.o.2.1 FF.o.2.2;have HS:=zhd S;clear S;go_wp2;go_ret;exact⟨_,rfl,zhd ⟨HS.o.1,B.o.2.trans ((RK.ext (((znv _ w8).drew).alloc (znc _) _)).trans HS.o.2)⟩⟩
def yfp (x:ByteArray):Bool:= !(Lib.hasSuffix x.data.toList [58])&&(Lib.hasPrefix x.data.toList [32,32]&&((yeU (ygG x)).any (fun op=>(ofL op).1.operand==0)&& !(ylg x)))
theorem yha {N:Nat}{x:ByteArray}(hs:x.size<=65536)(hb:yfp x=true):LineLaw N x:=by
 unfold yfp at hb;rw[Bool.and_eq_true,Bool.and_eq_true,Bool.and_eq_true,Bool.not_eq_true',Bool.not_eq_true']at hb;obtain⟨F,D,B,hm⟩:=hb;cases hfo:yeU (ygG x)with
 |none=>rw[hfo]at B;cases B
 |some op=>
  rw[hfo]at B;have H:(ofL op).1.operand=0:=by simpa using B
  have E:((ofL op).1.operand !=0)=false:=by rw[H];rfl
  have I:ykv x=false:=by unfold ykv;rw[F];rfl
  have C:∀(n:Int) (A:RSt),lineL n x A=(0,{A with code:=A.code++[⟨op,0⟩]}):=by
   intro n A;unfold lineL;rw[if_neg (by rw[I];exact Bool.noConfusion),if_neg (by rw[D];exact Bool.noConfusion),hfo];dsimp only;rw[hm,E,if_neg (by simp),if_neg (by simp)]
  refine⟨fun b v A n W R G hZ m hm' h1 h2 h3 h4 h5=> ?_,fun line n A hn h=> ?_⟩
  .rw[C]
   exact ylT b v A n x W R hs G F D op _ hfo rfl hm E h4 _ rfl
  .rw[C]
   exact⟨by have:=h.code;dsimp only;rw[znk];exact Nat.add_le_add_right this 1,by have:=h.consts;dsimp only;omega,by have:=h.names;dsimp only;omega,by have:=h.jumps;dsimp only;omega,h.p0,h.p1,h.wf,h.at_⟩
structure PushB (x:ByteArray)(y:Val):Prop where
 a:Lib.hasSuffix x.data.toList [58]=false
 p:Lib.hasPrefix x.data.toList [32,32]=true
 f:yeU (ygG x)=some 1
 m:ylg x=true
 k:yf1 (yc7 x).data.toList 0= .ok y (yc7 x).size
 z:checkL y=0
 n0:Lib.hasPrefix ((yc7 x).data.toList.drop 0) [110,105,108]=false
 n1:yex (yc7 x).data.toList 0 34=false
 n2:yex (yc7 x).data.toList 0 91=false
 v:yo7 8 (yc7 x).data.toList 0=yf1 (yc7 x).data.toList 0
theorem yj3 {N:Nat}{x:ByteArray}{k:Val}(hs:x.size<=65536)(P:PushB x k):LineLaw N x:=by
 have B:(yc7 x).data.toList.length=(yc7 x).size:=by simp
 have C:ycY (yc7 x).data.toList=(k,0):=by
  unfold ycY;rw[P.v,P.k];dsimp only;rw[B,if_neg (Nat.lt_irrefl _),P.z,if_neg (fun h=>h rfl)]
 have E:((ofL ((1:Nat):Int)).1.operand !=0)=true:=by decide
 have I:ykv x=false:=by unfold ykv;rw[P.a];rfl
 have D:∀(n:Int) (A:RSt),lineL n x A=(0,{A with consts:=(yfK k A.consts).2,code:=A.code++[⟨((1:Nat):Int),((yfK k A.consts).1:Int)⟩]}):=by
  intro n A;unfold lineL;rw[if_neg (by rw[I];exact Bool.noConfusion),if_neg (by rw[P.p];exact Bool.noConfusion),P.f];dsimp only;rw[P.m,E,if_neg (by decide),if_pos rfl];have H:operL (ofL ((1:Nat):Int)).1.operand n (yc7 x) A=(((yfK k A.consts).1:Int),0,{A with consts:=(yfK k A.consts).2}):=by
   unfold operL;rw[if_pos (by decide),C,if_neg (fun h=>h rfl)]
  rw[H];dsimp only;rw[if_neg (fun h=>h rfl)]
 refine⟨fun b v A n W R G hZ m hm' h1 h2 h3 h4 h5=> ?_,fun line n A hn h=> ?_⟩
 .rw[D]
  exact ylU b v A n x W R hs G P.a P.p 1 _ P.f rfl P.m E ((yfK k A.consts).1:Int) {A with consts:=(yfK k A.consts).2} hZ (fun Z1 w6 hZ1 R6 G6=>ylI b v A n (yc7 x) w6 R6 hZ1 h1 k (yj5 (yc7 x) w6 (by have:=yhv x;omega) G6 P.n0 P.n1 P.n2 k P.k P.z) _ _ rfl) h4 _ rfl
 .rw[D]
  obtain⟨J,F⟩:=ymn (x:=k) (l:=A.consts) (i:=(yfK k A.consts).1) (l':=(yfK k A.consts).2) rfl;exact⟨by have:=h.code;dsimp only;rw[znk];exact Nat.add_le_add_right this 1,by have:=h.consts;dsimp only;omega,by have:=h.names;dsimp only;omega,by have:=h.jumps;dsimp only;omega,h.p0,h.p1,fun y hy=>(F y hy).elim (h.wf y) (fun e=>e▸ykd P.k),h.at_⟩
theorem yla {N:Nat}(s:ByteArray)(w:World)(G:Gl Tryz.prog N w)(h:s.size<=65536)(hn:Lib.hasSuffix s.data.toList [10]=true)(hb:∀x∈textL s,yfp x=true\/∃k,PushB x k):Calls Tryz.prog 10 #[s] w (yoW w (ypu s)):=by
 unfold ypu;rw[znd (show¬65536<s.size from by omega),hn];simp only[znl,Bool.not_true];exact yk9 s w G h hn (fun x hx=>(hb x hx).elim (yha (znf (ye1 x hx) h)) (fun⟨_,P⟩=>yj3 (znf (ye1 x hx) h) P)) _ rfl _ rfl
end Go.Proofs.YtpagmlndgblhhaaGreatDoor
namespace Go.Va
open Go.Own Go.RowKit
open Go.Proofs.YtpagmlndgblhhaaGreatDoor
def yoZ:ByteArray:=⟨#[32,32,112,117,115,104,32,53,10,32,32,116,105,109,101,114,10,32,32,119,97,105,116,10,32,32,114,101,116,117,114,110,10]⟩
def ydP:Img:=⟨[⟨1,0⟩,⟨17,0⟩,⟨18,0⟩,⟨25,0⟩],[ybw 5],[],0⟩
def yhm (k:Int):List Ev:=[⟨1,2,1,0,0,⟨#[]⟩,⟨#[]⟩,yag⟩,⟨2,2,2,0,0,⟨#[]⟩,⟨#[]⟩,yag⟩,⟨3,2,11,1,k,⟨#[]⟩,⟨#[]⟩,yag⟩]
theorem ynn:ypu yoZ=(ydP,0,0):=by kernel_rfl
theorem ylZ:textL yoZ=[⟨#[32,32,112,117,115,104,32,53]⟩,⟨#[32,32,116,105,109,101,114]⟩,⟨#[32,32,119,97,105,116]⟩,⟨#[32,32,114,101,116,117,114,110]⟩]:=by kernel_rfl
theorem yl0:PushB ⟨#[32,32,112,117,115,104,32,53]⟩ (ybw 5):=⟨by kernel_rfl,by kernel_rfl,by kernel_rfl,by kernel_rfl,by kernel_rfl,by kernel_rfl,by kernel_rfl,by kernel_rfl,by kernel_rfl,by kernel_rfl⟩
theorem ykz:∀x∈textL yoZ,yfp x=true\/∃k,PushB x k:=by
 rw[ylZ];intro x A;simp only[List.mem_cons,List.not_mem_nil,or_false]at A;rcases A with rfl|rfl|rfl|rfl
 .exact .inr ⟨_,yl0⟩
 .exact .inl (by kernel_rfl)
 .exact .inl (by kernel_rfl)
 .exact .inl (by kernel_rfl)
theorem yhl:(yaY ydP).2.2=0:=by kernel_rfl
def yil (k:Int):RP:=yan (yaf ydP) (rp0 (yaf ydP)) (yhm k)
theorem yeo:(yil 7).err=0/\(yil 7).seen=3/\(yil 7).next=1/\(yil 7).closed=false/\(ybJ (yil 7)).length=0:=⟨by kernel_rfl,by kernel_rfl,by kernel_rfl,by kernel_rfl,by kernel_rfl⟩
theorem yky:((yil 7).m.made.all (fun c=>decide (szV c.v<=1073741824)))=true/\decide ((yil 7).m.made.length<=4000000)=true/\decide ((yil 7).next<=(yil 7).m.made.length)=true:=⟨by kernel_rfl,by kernel_rfl,by kernel_rfl⟩
theorem ymA:(yil 8).err=150:=by kernel_rfl
theorem ykA:(ya8 (yhm 8)).length=1/\(ydw (yhm 8)).length=1:=⟨by kernel_rfl,by kernel_rfl⟩
theorem ynl:(ydc (yaf ydP) [⟨1,2,1,0,0,⟨#[]⟩,⟨#[]⟩,yag⟩]).map (fun e=>e.b)=[7]:=by kernel_rfl
theorem ynm:∃ev,ydc (yaf ydP) [⟨1,2,1,0,0,⟨#[]⟩,⟨#[]⟩,yag⟩]=[ev]/\ev.b=7:=by
 have h:=ynl;obtain⟨l,A⟩:∃l,ydc (yaf ydP) [⟨1,2,1,0,0,⟨#[]⟩,⟨#[]⟩,yag⟩]=l:=⟨_,rfl⟩;rw[A]at h|-;cases l with
 |nil=>cases h
 |cons e t=>
  cases t with
  |nil=>exact⟨e,rfl,by simpa using h⟩
  |cons a b=>simp at h
end Go.Va
namespace Go.Proofs.YtpagmlndgblhhaaGreatDoor
open Go.RowKit Go.Own Go.Own.MapTy Go.Va Go.Sort
open Go.Own.Cells (sz enc)
set_option linter.unusedVariables false
set_option linter.unusedSimpArgs false
def ecs (b:Int):List EC:=[⟨1,2,1,0,0,⟨#[]⟩,⟨#[]⟩,⟨0,0,⟨#[]⟩,none,0,0⟩⟩,⟨2,2,2,0,0,⟨#[]⟩,⟨#[]⟩,⟨0,0,⟨#[]⟩,none,0,0⟩⟩,⟨3,2,11,1,b,⟨#[]⟩,⟨#[]⟩,⟨0,0,⟨#[]⟩,none,0,0⟩⟩]
theorem yiq {w:World}{g:Nat}{b:Int}(h:w.heap[g]? =some (.cells #[.int .i64 1,.int .i64 2,.int .i64 1,.int .i64 0,.int .i64 0,.string ⟨#[]⟩,.string ⟨#[]⟩,.int .i64 0,.int .i64 0,.string ⟨#[]⟩,.slice none 0 0,.int .i64 2,.int .i64 2,.int .i64 2,.int .i64 0,.int .i64 0,.string ⟨#[]⟩,.string ⟨#[]⟩,.int .i64 0,.int .i64 0,.string ⟨#[]⟩,.slice none 0 0,.int .i64 3,.int .i64 2,.int .i64 11,.int .i64 1,.int .i64 b,.string ⟨#[]⟩,.string ⟨#[]⟩,.int .i64 0,.int .i64 0,.string ⟨#[]⟩,.slice none 0 0] 40 (0,0))):XRd (fun j=>j=g) w (.slice (some ⟨g,0,none⟩) 3 3) (yhm b):=by
 refine⟨ecs b,RdF.of_row (RowAt.made h rfl rfl (by unfold maxLen;omega)) (fun q hq=>by cases hq;rfl),rfl,fun i c x hc hx=> ?_⟩
 match i,hc,hx with
 |0,hc,hx=>cases hc;cases hx;exact⟨rfl,rfl,rfl,rfl,rfl,rfl,rfl,yaH _ _⟩
 |1,hc,hx=>cases hc;cases hx;exact⟨rfl,rfl,rfl,rfl,rfl,rfl,rfl,yaH _ _⟩
 |2,hc,hx=>cases hc;cases hx;exact⟨rfl,rfl,rfl,rfl,rfl,rfl,rfl,yaH _ _⟩
 |n+3,hc,hx=>cases hc
theorem yn7 {w:World}{g:Nat}(h:w.heap[g]? =some (.cells #[.int .i64 1,.int .i64 2,.int .i64 1,.int .i64 0,.int .i64 0,.string ⟨#[]⟩,.string ⟨#[]⟩,.int .i64 0,.int .i64 0,.string ⟨#[]⟩,.slice none 0 0] 40 (0,0))):XRd (fun j=>j=g) w (.slice (some ⟨g,0,none⟩) 1 1) [(⟨1,2,1,0,0,⟨#[]⟩,⟨#[]⟩,yag⟩:Ev)]:=by
 refine⟨[⟨1,2,1,0,0,⟨#[]⟩,⟨#[]⟩,⟨0,0,⟨#[]⟩,none,0,0⟩⟩],RdF.of_row (RowAt.made h rfl rfl (by unfold maxLen;omega)) (fun q hq=>by cases hq;rfl),rfl,fun i c x hc hx=> ?_⟩
 match i,hc,hx with
 |0,hc,hx=>cases hc;cases hx;exact⟨rfl,rfl,rfl,rfl,rfl,rfl,rfl,yaH _ _⟩
 |n+1,hc,hx=>cases hc
theorem ykL (b:Int):∀e∈yhm b,e.v.wf:=by
 intro e A;have hv:e.v=yag:=by
  unfold yhm at A;simp only[List.mem_cons,List.not_mem_nil,or_false]at A;rcases A with rfl|rfl|rfl<;>rfl
 rw[hv];exact ycS
theorem yk3:∀x∈ydP.consts,x.wf:=by
 intro x A;rw[List.mem_singleton.1 A];simp[ybw,Val.wf_eq,Val.kind,Val.num,Val.txt,Val.list,Val.wf.wfL];decide
theorem ygb {N:Nat}(W:World)(G:Gl Tryz.prog N W):Calls Tryz.prog 23 #[] W fun e w'=>e= .returned (.bool true)/\Below W W w':=by
 have PA:=zhd (ynn▸yla yoZ W G (by decide) (by kernel_rfl) ykz);have HG:=zhd G;clear G;go_in;go_wp2_with fail;refine PA.o.mono ?_;rintro e A ⟨i1,rfl,Af,Aj⟩;obtain⟨ca,cn,cc,ka,y,z,u,s,t,r⟩:=i1;dsimp only;have HI:=zh2 Af Aj;clear Af Aj PA;go_upto_region 3 with(fail);refine yaa ?_;intro w2 J;have h3:=yci (W:=A) (X:=.cells #[.slice ca cn cc,.slice ka y z,.slice u s t,r] 28) (Y:=.cells #[.int .i64 0,.int .i64 0] 31) (Z:=.cells #[.int .i64 1,.int .i64 2,.int .i64 1,.int .i64 0,.int .i64 0,.string ⟨#[]⟩,.string ⟨#[]⟩,.int .i64 0,.int .i64 0,.string ⟨#[]⟩,.slice none 0 0,.int .i64 2,.int .i64 2,.int .i64 2,.int .i64 0,.int .i64 0,.string ⟨#[]⟩,.string ⟨#[]⟩,.int .i64 0,.int .i64 0,.string ⟨#[]⟩,.slice none 0 0,.int .i64 3,.int .i64 2,.int .i64 11,.int .i64 1,.int .i64 7,.string ⟨#[]⟩,.string ⟨#[]⟩,.int .i64 0,.int .i64 0,.string ⟨#[]⟩,.slice none 0 0] 40);have B2:Below A A w2:=by rw[J];exact((zal).alloc (by simp) _).alloc (by simp;omega) _
 have b2:w2.heap[A.heap.size]? =some (.cells #[.slice ca cn cc,.slice ka y z,.slice u s t,r] 28 (0,0)):=by rw[J];exact h3.1
 have e2:w2.heap[A.heap.size+1+1]? =some (.cells #[.int .i64 1,.int .i64 2,.int .i64 1,.int .i64 0,.int .i64 0,.string ⟨#[]⟩,.string ⟨#[]⟩,.int .i64 0,.int .i64 0,.string ⟨#[]⟩,.slice none 0 0,.int .i64 2,.int .i64 2,.int .i64 2,.int .i64 0,.int .i64 0,.string ⟨#[]⟩,.string ⟨#[]⟩,.int .i64 0,.int .i64 0,.string ⟨#[]⟩,.slice none 0 0,.int .i64 3,.int .i64 2,.int .i64 11,.int .i64 1,.int .i64 7,.string ⟨#[]⟩,.string ⟨#[]⟩,.int .i64 0,.int .i64 0,.string ⟨#[]⟩,.slice none 0 0] 40 (0,0)):=by rw[J];exact h3.2.2
 have H:=zh3 B2 b2 e2;clear J h3;obtain⟨q0,q1,q2,q3,q⟩:=zq4 b2;have RY:=zhd (ycw _ w2 (HG.o.below (HI.o.2.trans (B2.mono HI.o.2.size))) (by have:=HG.o.n;have h1:=HI.o.2.size;have h2:=B2.size;omega) ⟨ca,cn,cc,ka,y,z,u,s,t,r⟩ ydP (HI.o.1.keep (S:=fun _=>False) (zkb B2) (fun _ _ f=>f)) yk3 (yaY ydP) rfl _ _ _ (yhm 7) ((yiq e2).mono (fun g hg hl=>hl)) (ykL 7) (by decide) (by decide));clear B2 b2 e2;go_wp2_with fail;refine RY.o.mono ?_;rintro e R (⟨h,_⟩|⟨_,h,_⟩|⟨_,_,T,b,mb,v,rfl,H3⟩)
 .exact absurd yhl h
 .exact absurd yeo.1 h
 have PD:=zhd (ydu T b mb v _ _ R H3.o.1 yeo.1 yeo.2.2.2.1 (fun c hc=>znx (List.all_eq_true.1 yky.1 c hc)) (znx yky.2.1) (znx yky.2.2));have SN:=zhd (fun X (B:Below R R X)=>(show Calls Tryz.prog 36 #[.pointer (some ⟨T,0,none⟩)] X (fun e w'=>e= .returned (.int .i64 3)/\Below X X w')from by have h:=yjX T b mb v _ _ X (H3.o.1.ext B);rw[show yan (yaf ydP) (rp0 (yaf ydP)) (yhm 7)=yil 7 from rfl,yeo.2.1]at h;exact h));have FN:=zhd (fun X (B:Below R R X)=>(show Calls Tryz.prog 22 #[.pointer (some ⟨T,0,none⟩)] X (fun e w'=>e= .returned (.int .i64 1)/\Below X X w')from by have h:=yiV T b mb v _ _ X (H3.o.1.ext B);rw[show yan (yaf ydP) (rp0 (yaf ydP)) (yhm 7)=yil 7 from rfl,yeo.2.2.1]at h;exact h));have CD:=zhd (fun X (B:Below R R X)=>(show Calls Tryz.prog 17 #[.pointer (some ⟨T,0,none⟩)] X (fun e w'=>e= .returned (.bool false)/\Below X X w')from by have h:=yg5 T b mb v _ _ X (H3.o.1.ext B);rw[show yan (yaf ydP) (rp0 (yaf ydP)) (yhm 7)=yil 7 from rfl,yeo.2.2.2.1]at h;exact h));have d:=zh2 H3.o.2.2 (zlt H.o.2.2);clear RY q0 q1 q2 q3 q H3;go_wp2_with fail
 refine PD.o.mono ?_;rintro e w4 ⟨q4,rfl,H4⟩;obtain⟨a4,c4,rfl⟩:∃a c,q4= .slice a 0 c:=by
  obtain⟨a,c,h⟩:=H4.o.1.slice;rw[zmd,show(ybJ (yan (yaf ydP) (rp0 (yaf ydP)) (yhm 7))).length=0 from yeo.2.2.2.2]at h;exact⟨a,c,h⟩
 have B4:=zhd H4.o.2.2;clear PD H4;go_wp2_with fail;refine(SN.o _ B4.o).mono ?_;rintro e w5 ⟨rfl,Ai⟩;have B5:=zhd (B4.o.trans (Ai.mono B4.o.size));clear Ai SN;go_wp2_with fail;refine(FN.o _ B5.o).mono ?_;rintro e w6 ⟨rfl,Ah⟩;have B6:=zhd (B5.o.trans (Ah.mono B5.o.size));clear Ah FN;go_wp2_with fail;refine(CD.o _ B6.o).mono ?_;rintro e w7 ⟨rfl,Ag⟩;have O:Below w2 w2 w7:=d.o.1.trans ((B6.o.trans (Ag.mono B6.o.size)).mono d.o.1.size);have b7:=(O.block A (zlt H.o.2.1)).trans H.o.2.1;have e7:=(O.block (A.heap.size+1+1) d.o.2).trans H.o.2.2;have P:=zh3 O b7 e7;clear Ag CD O;obtain⟨q0,q1,q2,q3,q⟩:=zq4 b7;have y0:=zca e7 0 rfl;have y1:=zca e7 1 rfl;have y2:=zca e7 2 rfl;have y3:=zca e7 3 rfl;have y4:=zca e7 4 rfl;have y5:=zca e7 5 rfl;have y6:=zca e7 6 rfl;have y7:=zca e7 7 rfl;have y8:=zca e7 8 rfl;have y9:=zca e7 9 rfl;have y10:=zca e7 10 rfl;have yl:=zlt e7
 have SE:=zhd (fun X (B:Below w7 w7 X) (hX:X.heap[w7.heap.size]? =some (.cells #[.int .i64 1,.int .i64 2,.int .i64 1,.int .i64 0,.int .i64 0,.string ⟨#[]⟩,.string ⟨#[]⟩,.int .i64 0,.int .i64 0,.string ⟨#[]⟩,.slice none 0 0] 40 (0,0)))=>yiL _ X (HG.o.below (HI.o.2.trans ((H.o.1.trans ((P.o.1.trans (B.mono P.o.1.size)).mono H.o.1.size)).mono HI.o.2.size))) ⟨ca,cn,cc,ka,y,z,u,s,t,r⟩ ydP (HI.o.1.keep (S:=fun _=>False) (zkb (H.o.1.trans ((P.o.1.trans (B.mono P.o.1.size)).mono H.o.1.size))) (fun _ _ f=>f)) yk3 (yaY ydP) rfl _ _ _ _ ((yn7 hX).mono (fun g hg hl=>hl)) (by intro e he;rw[List.mem_singleton.1 he];exact ycS) (by decide));clear b7 e7;go_wp2_with fail;go_region_law ((go_simp;go_at_call 29;refine(SE.o _ (by first|exact(znv _ _).drew.alloc (znc _) _|exact(zal).drew) (by exact znb _ _)).mono ?_;rintro e w8 (⟨h,_⟩|⟨_,r8,rfl,H8⟩);exact absurd yhl h))
 all_goals
  obtain⟨ev,Au,As⟩:=ynm;have X8:=H8.o.1;rw[Au]at X8;have M:Below w7 w7 w8:=znw (by first|exact(znv w7.heap.size w7).drew.alloc (znc _) _|exact((znv w7.heap.size w7).alloc (znc _) _).drew) (H8.o.2.2.mono (by simp));obtain⟨a8,c8,rfl⟩:∃a c,r8= .slice a 1 c:=X8.slice;obtain⟨g,I,V,rfl,hg,hrel,_,Ad⟩:=X8.at_ (i:=0) (x:=ev) rfl;have E:EvF _ w8 V ev:=hrel;have Ae:V.b=7:=E.b.trans As;have m4:w8.cell? ⟨g,I+4,none⟩=some (.int .i64 7):=by
   have:=Ad 4 (.int .i64 V.b) rfl;rw[Ae]at this;simpa using this
  have e8:=(M.block (A.heap.size+1+1) yl).trans P.o.2.2;have b8:=(M.block A q).trans P.o.2.1;have At:w7.heap.size+1<=g:=by have:=H8.o.2.1 g rfl;simpa using this
  have Ab:¬g=A.heap.size+1+1:=by omega
  have Aa:¬A.heap.size+1+1=g:=by omega
  have Ao:=zca e8 26 rfl;have sf:∀o,w8.frozen? ⟨A.heap.size+1+1,o,none⟩=false:=fun o=>zfr e8 o;have sl:=zlt e8;obtain⟨w9,C⟩:∃w9,w9=w8.setCell ⟨A.heap.size+1+1,26,none⟩ (.int .i64 8):=⟨_,rfl⟩;have e9:w9.heap[A.heap.size+1+1]? =some (.cells #[.int .i64 1,.int .i64 2,.int .i64 1,.int .i64 0,.int .i64 0,.string ⟨#[]⟩,.string ⟨#[]⟩,.int .i64 0,.int .i64 0,.string ⟨#[]⟩,.slice none 0 0,.int .i64 2,.int .i64 2,.int .i64 2,.int .i64 0,.int .i64 0,.string ⟨#[]⟩,.string ⟨#[]⟩,.int .i64 0,.int .i64 0,.string ⟨#[]⟩,.slice none 0 0,.int .i64 3,.int .i64 2,.int .i64 11,.int .i64 1,.int .i64 8,.string ⟨#[]⟩,.string ⟨#[]⟩,.int .i64 0,.int .i64 0,.string ⟨#[]⟩,.slice none 0 0] 40 (0,0)):=by
   rw[C];simp only[World.setCell,zni,e8];rfl
  have b9:w9.heap[A.heap.size]? =some (.cells #[.slice ca cn cc,.slice ka y z,.slice u s t,r] 28 (0,0)):=by rw[C];exact(znn _ _ _ _ (by show A≠A.heap.size+1+1;omega)).trans b8
  have m9:w9.cell? ⟨g,I+4,none⟩=some (.int .i64 7):=by
   have K9:Keeps (fun j=>j=A+1+1) w8 w9:=by rw[C];exact Keeps.setCell (S:=fun j=>j=A+1+1) (p:=⟨A.heap.size+1+1,26,none⟩) (Keeps.refl _ _) (.inl rfl) _
   exact(K9.cell (p:=⟨g,I+4,none⟩) hg Ab).trans m4
  have Al:Below A A w8:=H.o.1.trans ((P.o.1.trans (M.mono P.o.1.size)).mono H.o.1.size);have m:Below A A w9:=by rw[C];exact Al.setCell (by show A<=A.heap.size+1+1;omega) _
  have L:=HI.o.2.trans (m.mono HI.o.2.size);have Ac:g<w9:=by rw[C];simpa[World.setCell]using hg
  have RY:=zhd (ycw _ w9 (HG.o.below L) (by have:=HG.o.n;have h1:=L.size;omega) ⟨ca,cn,cc,ka,y,z,u,s,t,r⟩ ydP (HI.o.1.keep (S:=fun _=>False) (zkb m) (fun _ _ f=>f)) yk3 (yaY ydP) rfl _ _ _ (yhm 8) ((yiq e9).mono (fun g hg hl=>hl)) (ykL 8) (by decide) (by decide));have k:=zh4 L e9 m9 Ac;clear SE y0 y1 y2 y3 y4 y5 y6 y7 y8 y9 y10 yl q0 q1 q2 q3 q Ab Aa hrel E Ad Ae X8 H8 M m4 hg At Al m L m9 Ac;go_upto_region 8 with(fail);rw[<-C];clear C Ao sf sl e8 b8;obtain⟨q0,q1,q2,q3,q⟩:=zq4 b9;clear e9 b9;go_wp2_with fail;refine RY.o.mono ?_;rintro e An (⟨h,_⟩|⟨_,h,rfl,F⟩|⟨_,h,_⟩)
  .exact absurd yhl h
  .rw[show(yan (yaf ydP) (rp0 (yaf ydP)) (yhm 8)).err=150 from ymA]
   have Ar:=(F.o.cell (p:=⟨g,I+4,none⟩) k.o.2.2.2).trans k.o.2.2.1;have Av:=znj k.o.2.2.2 F.o.size;have U:=(F.o.block (A.heap.size+1+1) (zlt k.o.2.1)).trans k.o.2.1;have OU:=zhd (ylH An _ _ _ (yhm 8) (yiq U) (by decide) (by decide));have D:=zh2 (k.o.1.trans (F.o.mono k.o.1.size)) U;clear F q0 q1 q2 q3 q RY U h;go_wp2_with fail;refine OU.o.mono ?_;rintro e Am ⟨Aq,rfl,K⟩;obtain⟨A1,Az,rfl⟩:∃a c,Aq= .slice a 1 c:=by
    obtain⟨a,c,h⟩:=K.o.1.slice;rw[zmd,ykA.1]at h;exact⟨a,c,h⟩
   have MD:=zhd (ylR Am _ _ _ (yhm 8) (yiq ((K.o.2.2.block (A.heap.size+1+1) (zlt D.o.2)).trans D.o.2)) (by decide) (by decide));have Q:=zhd (D.o.1.trans (K.o.2.2.mono D.o.1.size));clear OU K Ar Av;go_wp2_with fail;refine MD.o.mono ?_;rintro e Ax ⟨Ap,rfl,l⟩;obtain⟨A0,Ay,rfl⟩:∃a c,Ap= .slice a 1 c:=by
    obtain⟨a,c,h⟩:=l.o.1.slice;rw[zmd,ykA.2]at h;exact⟨a,c,h⟩
   have Ak:=zhd (Q.o.trans (l.o.2.2.mono Q.o.size));clear MD l;go_wp2;go_ret;exact⟨rfl,Ak.o⟩
  .have h:(yil 8).err=0:=h
   rw[ymA]at h;cases h
theorem ybE {k:Int}(h:1<=k/\k<=21):k=1\/k=2\/k=3\/k=4\/k=5\/k=6\/k=7\/k=8\/k=9\/k=10\/k=11\/k=12\/k=13\/k=14\/k=15\/k=16\/k=17\/k=18\/k=19\/k=20\/k=21:=by omega
theorem yn5 (k:Int)(h:1<=k/\k<=21)(W:World)(r:Bool)(hr:hasF (evF k) 65=r):Calls Tryz.prog 73 #[k] W (fun e w'=>e= .returned (.bool r)/\w'=W):=by
 rcases ybE h with rfl|rfl|rfl|rfl|rfl|rfl|rfl|rfl|rfl|rfl|rfl|rfl|rfl|rfl|rfl|rfl|rfl|rfl|rfl|rfl|rfl
 all_goals
  have A:=zhd hr;clear hr h;go_in;go_wp2;go_ret;exact⟨by rw[<-A.o];exact congrArg (fun b=>Ending.returned (.bool b)) (by kernel_rfl),rfl⟩
theorem yn4 (k:Int)(h:1<=k/\k<=21)(W:World)(r:Bool)(hr:hasF (evF k) 66=r):Calls Tryz.prog 74 #[k] W (fun e w'=>e= .returned (.bool r)/\w'=W):=by
 rcases ybE h with rfl|rfl|rfl|rfl|rfl|rfl|rfl|rfl|rfl|rfl|rfl|rfl|rfl|rfl|rfl|rfl|rfl|rfl|rfl|rfl|rfl
 all_goals
  have A:=zhd hr;clear hr h;go_in;go_wp2;go_ret;exact⟨by rw[<-A.o];exact congrArg (fun b=>Ending.returned (.bool b)) (by kernel_rfl),rfl⟩
theorem yn3 (k:Int)(h:1<=k/\k<=21)(W:World)(r:Bool)(hr:hasF (evF k) 78=r):Calls Tryz.prog 75 #[k] W (fun e w'=>e= .returned (.bool r)/\w'=W):=by
 rcases ybE h with rfl|rfl|rfl|rfl|rfl|rfl|rfl|rfl|rfl|rfl|rfl|rfl|rfl|rfl|rfl|rfl|rfl|rfl|rfl|rfl|rfl
 all_goals
  have A:=zhd hr;clear hr h;go_in;go_wp2;go_ret;exact⟨by rw[<-A.o];exact congrArg (fun b=>Ending.returned (.bool b)) (by kernel_rfl),rfl⟩
theorem yn2 (k:Int)(h:1<=k/\k<=21)(W:World)(r:Bool)(hr:hasF (evF k) 84=r):Calls Tryz.prog 76 #[k] W (fun e w'=>e= .returned (.bool r)/\w'=W):=by
 rcases ybE h with rfl|rfl|rfl|rfl|rfl|rfl|rfl|rfl|rfl|rfl|rfl|rfl|rfl|rfl|rfl|rfl|rfl|rfl|rfl|rfl|rfl
 all_goals
  have A:=zhd hr;clear hr h;go_in;go_wp2;go_ret;exact⟨by rw[<-A.o];exact congrArg (fun b=>Ending.returned (.bool b)) (by kernel_rfl),rfl⟩
theorem yn1 (k:Int)(h:1<=k/\k<=21)(W:World)(r:Bool)(hr:hasF (evF k) 86=r):Calls Tryz.prog 77 #[k] W (fun e w'=>e= .returned (.bool r)/\w'=W):=by
 rcases ybE h with rfl|rfl|rfl|rfl|rfl|rfl|rfl|rfl|rfl|rfl|rfl|rfl|rfl|rfl|rfl|rfl|rfl|rfl|rfl|rfl|rfl
 all_goals
  have A:=zhd hr;clear hr h;go_in;go_wp2;go_ret;exact⟨by rw[<-A.o];exact congrArg (fun b=>Ending.returned (.bool b)) (by kernel_rfl),rfl⟩
theorem ylC (k:Int)(h:¬(1<=k/\k<=21))(W:World):Calls Tryz.prog 72 #[k] W (fun e w'=>e= .returned (.string ⟨#[]⟩)/\Below W W w'):=by
 by_cases h1:k<1
 .have B:decide (k<1)=true:=zno h1
  clear h;go_in;go_wp2;go_ret;exact⟨rfl,zal⟩
 .have A:21<k:=by omega
  have B:decide (k<1)=false:=znd h1;have C:decide (21<k)=true:=zno A;clear h;go_in;go_wp2;go_ret;exact⟨rfl,zal⟩
theorem yj0 (k:Int)(h:1<=k/\k<=21)(W:World):Calls Tryz.prog 72 #[k] W (fun e w'=>∃s:ByteArray,e= .returned (.string s)/\Hid (s.size≠0/\Below W W w')):=by
 rcases ybE h with rfl|rfl|rfl|rfl|rfl|rfl|rfl|rfl|rfl|rfl|rfl|rfl|rfl|rfl|rfl|rfl|rfl|rfl|rfl|rfl|rfl
 all_goals
  clear h;go_in;go_wp2;go_ret;exact⟨_,rfl,zhd ⟨by decide,zal⟩⟩
theorem yk4 (a b:Bool):a=true\/(a=false/\b=true)\/(a=false/\b=false):=by cases a<;>cases b<;>simp
theorem yg8 (id t k a b:Int)(nm tx:ByteArray)(vk vn:Int)(vs:ByteArray)(la:Option Addr)(ln lc:Nat)(x:Val)(F:Nat->Prop)(w:World)(C:CF F w ⟨vk,vn,vs,la,ln,lc⟩ x)(hw:x.wf)(r:Int)(hr:ynN k id t a b nm.size tx.size vk (checkL x)=r):
  Calls Tryz.prog 34 #[.agg #[id,t,k,a,b,nm,tx,vk,vn,vs,.slice la ln lc]] w (fun e w'=>e= .returned (.int .i64 r)/\Below w w w'):=by
 obtain⟨P,G⟩:∃P,P=w.alloc (.cells #[id,t,k,a,b,nm,tx,vk,vn,vs,.slice la ln lc] 40):=⟨_,rfl⟩;have B0:=zba G;have n:=zha G;have r2:=zca n 2 rfl;have lr:w.heap.size<P.heap.size:=zlt n;have i:=zhd (fun W (B:Below w w W)=>yi0 x vk vn vs la ln lc F W (C.keep (S:=fun _=>False) (zkb B) (fun _ _ f=>f)) hw);obtain⟨cl,Q⟩:∃cl,checkL x=cl:=⟨_,rfl⟩;rw[Q]at hr i;have j:=zh2 B0 n;clear B0 n C hw Q;unfold ynN at hr;by_cases hk:1<=k/\k<=21
 .obtain⟨e1,e2,e3⟩:=yfb hk
  rw[e1]at hr;dsimp only at hr;have NY:=zhd (yj0 k hk P);have HA:=zhd (fun W=>yn5 k hk W _ rfl);have Aa:=zhd (fun W=>yn4 k hk W _ rfl);have HN:=zhd (fun W=>yn3 k hk W _ rfl);have HT:=zhd (fun W=>yn2 k hk W _ rfl);have HV:=zhd (fun W=>yn1 k hk W _ rfl);generalize hasF (evF k) 65=hA at*;generalize hasF (evF k) 66=hBb at*;generalize hasF (evF k) 78=hN at*;generalize hasF (evF k) 84=hT at*;generalize hasF (evF k) 86=hV at*;have c:=zhd hr;clear e1 e2 e3 hk hr;go_in;go_wp2_with fail;rw[<-G];clear G;refine NY.o.mono ?_;rintro e s ⟨sn,rfl,H5⟩;have H:=H5.o.2;have Ac:sn.toList.isEmpty=false:=by rw[ybM];exact znd H5.o.1
  have A:=(H.block w lr).trans j.o.2;have E:=zhd (j.o.1.trans (H.mono j.o.1.size));have q0:=zca A 0 rfl;have q1:=zca A 1 rfl;have q3:=zca A 3 rfl;have q4:=zca A 4 rfl;have q5:=zca A 5 rfl;have q6:=zca A 6 rfl;have q7:=zca A 7 rfl;have q8:=zca A 8 rfl;have q9:=zca A 9 rfl;have Ab:=zca A 10 rfl;have l5:w<s.heap.size:=zlt A;clear A H r2 lr;by_cases hbad:id<1\/1048576<id\/t<0\/4611686018427387903<t\/a<0\/b<0
  .have D:=zhd (show(1:Int)=r from by
    have h:=c.o;by_cases g:id<1\/1048576<id\/t<0\/4611686018427387903<t
    .rw[if_pos g]at h;exact h
    .rw[if_neg g,if_pos (by omega)]at h;exact h)
   by_cases X:id<1
   .have d1:decide (id<1)=true:=zno X
    go_wp2_with fail
    all_goals
     go_ret;exact⟨by rw[<-D.o];rfl,E.o⟩
   .have d1:decide (id<1)=false:=znd X
    by_cases V:1048576<id
    .have d2:decide (1048576<id)=true:=zno V
     go_wp2_with fail
     all_goals
      go_ret;exact⟨by rw[<-D.o];rfl,E.o⟩
    .have d2:decide (1048576<id)=false:=znd V
     by_cases U:t<0
     .have y:decide (t<0)=true:=zno U
      go_wp2_with fail
      all_goals
       go_ret;exact⟨by rw[<-D.o];rfl,E.o⟩
     .have y:decide (t<0)=false:=znd U
      by_cases T:4611686018427387903<t
      .have v:decide (4611686018427387903<t)=true:=zno T
       go_wp2_with fail
       all_goals
        go_ret;exact⟨by rw[<-D.o];rfl,E.o⟩
      .have v:decide (4611686018427387903<t)=false:=znd T
       by_cases I:a<0
       .have N:decide (a<0)=true:=zno I
        go_wp2_with fail
        all_goals
         go_ret;exact⟨by rw[<-D.o];rfl,E.o⟩
       .have N:decide (a<0)=false:=znd I
        have J:b<0:=by omega
        have Y:decide (b<0)=true:=zno J;go_wp2_with fail
        all_goals
         go_ret;exact⟨by rw[<-D.o];rfl,E.o⟩
  .have X:¬id<1:=by omega
   have V:¬1048576<id:=by omega
   have U:¬t<0:=by omega
   have T:¬4611686018427387903<t:=by omega
   have I:¬a<0:=by omega
   have J:¬b<0:=by omega
   have d1:decide (id<1)=false:=znd X;have d2:decide (1048576<id)=false:=znd V;have y:decide (t<0)=false:=znd U;have v:decide (4611686018427387903<t)=false:=znd T;have N:decide (a<0)=false:=znd I;have Y:decide (b<0)=false:=znd J;have Z:=zhd (show(if(hA=false/\a≠0)\/(hBb=false/\b≠0)then 1 else if 64<nm.size\/128<tx.size then 2 else if(hN=false/\nm.size≠0)\/(hT=false/\tx.size≠0)then 8 else if hV=false/\vk≠0 then 8 else cl)=r from by
    have h:=c.o;rw[if_neg (by omega)]at h;by_cases g:(hA=false/\a≠0)\/(hBb=false/\b≠0)
    .rw[if_pos (.inr (.inr g))]at h;rw[if_pos g];exact h
    .rw[if_neg (fun e=>e.elim I (fun e=>e.elim J g))]at h;rw[if_neg g];exact h)
   clear hbad;go_upto_region 6 with(fail);clear X V U T I J d1 d2 y v N Y;go_cut [56] (fun v56 wx=>v56= .bool (decide ((hA=false/\a≠0)\/(hBb=false/\b≠0)))/\wx=s)
   case first=>
    have m:(a !=0)=decide (a≠0):=by by_cases h:a=0<;>simp[h]
    have l:(b !=0)=decide (b≠0):=by by_cases h:b=0<;>simp[h]
    have d:decide ((hA=false/\a≠0)\/(hBb=false/\b≠0))=((!hA&&(a !=0))||(!hBb&&(b !=0))):=by
     rw[m,l];cases hA<;>cases hBb<;>simp
    obtain⟨q,M⟩:∃z,(a !=0)=z:=⟨_,rfl⟩;obtain⟨p,L⟩:∃z,(b !=0)=z:=⟨_,rfl⟩;rw[M,L]at d;have O:=zhd d;clear d m l;rcases yk4 hA q with rfl|⟨rfl,rfl⟩|⟨rfl,rfl⟩
    rotate_left 1
    .go_wp2_with fail
     refine(HA.o _).mono ?_;rintro e K ⟨rfl,hw⟩;subst hw;go_wp2_with fail;go_meet
     case rel=>exact⟨by rw[O.o];rfl,rfl⟩
    all_goals
     rcases yk4 hBb p with rfl|⟨rfl,rfl⟩|⟨rfl,rfl⟩
     all_goals
      go_wp2_with fail;refine(HA.o _).mono ?_;rintro e K ⟨rfl,hw⟩;subst hw;go_wp2_with fail;refine(Aa.o _).mono ?_;rintro e K ⟨rfl,hw⟩;subst hw;go_wp2_with fail;go_meet
      case rel=>exact⟨by rw[O.o];rfl,rfl⟩
   case rest=>
    obtain⟨rfl,rfl⟩:=hcut;cases hd:decide ((hA=false/\a≠0)\/(hBb=false/\b≠0))with
    |true=>
     have D:=zhd (show(1:Int)=r from by
      have h:=Z.o;rw[if_pos (znx hd)]at h;exact h)
     go_wp2_with fail
     all_goals
      go_ret;exact⟨by rw[<-D.o];rfl,E.o⟩
    |false=>
     have D:=zhd (show(if 64<nm.size\/128<tx.size then 2 else if(hN=false/\nm.size≠0)\/(hT=false/\tx.size≠0)then 8 else if hV=false/\vk≠0 then 8 else cl)=r from by
      have h:=Z.o;rw[if_neg (zny hd)]at h;exact h)
     by_cases I:64<nm.size
     .have D:=zhd (show(2:Int)=r from by have h:=D.o;rw[if_pos (.inl I)]at h;exact h)
      have N:decide ((64:Int)<(nm.size:Int))=true:=zno (by omega);go_wp2_with fail
      all_goals
       go_ret;exact⟨by rw[<-D.o];rfl,E.o⟩
     .have N:decide ((64:Int)<(nm.size:Int))=false:=znd (by omega)
      by_cases J:128<tx.size
      .have D:=zhd (show(2:Int)=r from by have h:=D.o;rw[if_pos (.inr J)]at h;exact h)
       have Y:decide ((128:Int)<(tx.size:Int))=true:=zno (by omega);go_wp2_with fail
       all_goals
        go_ret;exact⟨by rw[<-D.o];rfl,E.o⟩
      .have Y:decide ((128:Int)<(tx.size:Int))=false:=znd (by omega)
       have D:=zhd (show(if(hN=false/\nm.size≠0)\/(hT=false/\tx.size≠0)\/(hV=false/\vk≠0)then 8 else cl)=r from by
        have h:=D.o;rw[if_neg (fun h=>h.elim I J)]at h;by_cases g:(hN=false/\nm.size≠0)\/(hT=false/\tx.size≠0)
        .rw[if_pos g]at h;rw[if_pos (g.elim .inl (fun g=>.inr (.inl g)))];exact h
        .rw[if_neg g]at h
         by_cases g2:hV=false/\vk≠0
         .rw[if_pos g2]at h;rw[if_pos (.inr (.inr g2))];exact h
         .rw[if_neg g2]at h;rw[if_neg (fun e=>e.elim (fun e=>g (.inl e)) (fun e=>e.elim (fun e=>g (.inr e)) g2))];exact h)
       go_upto_region 10 with(fail);clear N Y I J hd;go_cut [95] (fun v95 wx=>v95= .bool (decide ((hN=false/\nm.size≠0)\/(hT=false/\tx.size≠0)\/(hV=false/\vk≠0)))/\wx=wc)
       case first=>
        have d:decide ((hN=false/\nm.size≠0)\/(hT=false/\tx.size≠0)\/(hV=false/\vk≠0))=((!hN&& !nm.toList.isEmpty)||((!hT&& !tx.toList.isEmpty)||(!hV&&(vk !=0)))):=by
         rw[ybM,ybM];by_cases m:nm.size=0<;>by_cases l:tx.size=0<;>by_cases hc:vk=0<;>cases hN<;>cases hT<;>cases hV<;>simp[m,l,hc]
        obtain⟨q,M⟩:∃z,nm.toList.isEmpty=z:=⟨_,rfl⟩;obtain⟨p,L⟩:∃z,tx.toList.isEmpty=z:=⟨_,rfl⟩;obtain⟨zc,u⟩:∃z,(vk !=0)=z:=⟨_,rfl⟩;rw[M,L,u]at d;have O:=zhd d;clear d;rcases yk4 hN q with rfl|⟨rfl,rfl⟩|⟨rfl,rfl⟩
        rotate_left 2
        .go_wp2_with fail
         refine(HN.o _).mono ?_;rintro e K ⟨rfl,hw⟩;subst hw;go_wp2_with fail;go_meet
         case rel=>exact⟨by rw[O.o];rfl,rfl⟩
        all_goals
         rcases yk4 hT p with rfl|⟨rfl,rfl⟩|⟨rfl,rfl⟩
         rotate_left 2
         .go_wp2_with fail
          refine(HN.o _).mono ?_;rintro e K ⟨rfl,hw⟩;subst hw;go_wp2_with fail;refine(HT.o _).mono ?_;rintro e K ⟨rfl,hw⟩;subst hw;go_wp2_with fail;go_meet
          case rel=>exact⟨by rw[O.o];rfl,rfl⟩
         all_goals
          rcases yk4 hV zc with rfl|⟨rfl,rfl⟩|⟨rfl,rfl⟩
          all_goals
           go_wp2_with fail;refine(HN.o _).mono ?_;rintro e K ⟨rfl,hw⟩;subst hw;go_wp2_with fail;refine(HT.o _).mono ?_;rintro e K ⟨rfl,hw⟩;subst hw;go_wp2_with fail;refine(HV.o _).mono ?_;rintro e K ⟨rfl,hw⟩;subst hw;go_wp2_with fail;go_meet
           case rel=>exact⟨by rw[O.o];rfl,rfl⟩
       case rest=>
        obtain⟨rfl,rfl⟩:=hcut;cases hd2:decide ((hN=false/\nm.size≠0)\/(hT=false/\tx.size≠0)\/(hV=false/\vk≠0))with
        |true=>
         have D:=zhd (show(8:Int)=r from by
          have h:=D.o;rw[if_pos (znx hd2)]at h;exact h)
         go_wp2_with fail
         all_goals
          go_ret;exact⟨by rw[<-D.o];rfl,E.o⟩
        |false=>
         have D:=zhd (show cl=r from by
          have h:=D.o;rw[if_neg (zny hd2)]at h;exact h)
         have CH:=zhd (i.o _ E.o);go_wp2_with fail;refine CH.o.mono ?_;rintro e wv ⟨nv,rfl,R⟩;have E:=zhd (E.o.trans (R.mono E.o.size));clear R;go_wp2_with fail
         all_goals
          go_ret;exact⟨by rw[<-D.o];rfl,E.o⟩
 .have D:=zhd (show(9:Int)=r by rw[(ydk hk).1]at hr;exact hr)
  have NO:=zhd (ylC k hk P);clear hr hk;go_in;go_wp2_with fail;rw[<-G];clear G;refine NO.o.mono ?_;rintro e s ⟨rfl,H⟩;have E:=zhd (j.o.1.trans (H.mono j.o.1.size));clear H;go_wp2_with fail
  all_goals
   go_ret;exact⟨by rw[<-D.o];rfl,E.o⟩
end Go.Proofs.YtpagmlndgblhhaaGreatDoor
namespace Go.Va
open Go.Own Go.RowKit
def yle (l:List Ev):Prop:=∀(i:Nat) (e:Ev),l[i]? =some e->yae e=0/\yaI e.kind=true/\(e.kind=1↔i=0)
end Go.Va
namespace Go.Proofs.YtpagmlndgblhhaaGreatDoor
open Go.RowKit Go.Own Go.Own.MapTy Go.Va Go.Sort
open Go.Own.Cells (sz enc)
set_option linter.unusedVariables false
theorem yp3 {W:World}(id t k a bb:Int)(nm tx:ByteArray)(x:Val)(vk vn:Int)(vs:ByteArray)(la:Option Addr)(ln lc:Nat)(F:Nat->Prop)(C:CF F W ⟨vk,vn,vs,la,ln,lc⟩ x)(hw:x.wf)(r:Int)(hr:yae ⟨id,t,k,a,bb,nm,tx,x⟩=r):
  Calls Tryz.prog 34 #[.agg #[id,t,k,a,bb,nm,tx,vk,vn,vs,.slice la ln lc]] W (fun e w'=>e= .returned (.int .i64 r)/\Below W W w'):=by
 have A:vk=x.kind:=C.kind;rw[yaA]at hr;dsimp only at hr;rw[<-A]at hr;exact yg8 id t k a bb nm tx vk vn vs la ln lc x F W C hw r hr
def ypF (W:World)(mb:Nat)(n:Nat)(l:List Ev)(gk:Nat)(v9:Value)(wr:World):Prop:=
 ∃(i:Nat) (cs:List Int),v9= .int .i64 i/\i<=n/\gk=n - i/\MapAt NM wr mb (mOf cs)/\Below W W wr/\W<=mb/\∀(j:Nat) (e:Ev),j<i->l[j]? =some e->yae e=0/\yaI e.kind=true/\(e.kind=1↔j=0)
def yoK (W:World)(l:List Ev)(e:Ending)(w':World):Prop:=∃r:Bool,e= .returned (.bool r)/\Hid ((r=true->yle l/\l≠[])/\Below W W w')
theorem yhb {F:Nat->Prop}(W:World)(ea:Option Addr)(en ec:Nat)(l:List Ev)(E:XRd F W (.slice ea en ec) l)(hw:∀e∈l,e.v.wf)(hl:l.length<=4000000):
  Calls Tryz.prog 25 #[.slice ea en ec] W (yoK W l):=by
 have Aa:l.length=en:=by obtain⟨a,c,h⟩:=E.slice;cases h;rfl
 have Ac:= @run_makeMap Tryz.prog;have n:=zh4 E hw hl Aa;clear E hw hl Aa;go_in;go_wp2_with fail;clear Ac;obtain⟨H,G⟩:∃H,H=W.heap.size:=⟨_,rfl⟩;obtain⟨w0,J⟩:∃w0,w0=W.alloc (.map #[] 0):=⟨_,rfl⟩;have M0:MapAt NM w0 H (mOf []):=by rw[G,J];exact⟨#[],0,znb _ _,rfl,by simp[mOf]⟩
 have B0:=zba J;rw[<-J,<-G];have Z:=zh3 M0 B0 (Nat.le_of_eq G.symm);clear J M0 B0 G;go_loopg [9] en (fun gk v9 wr=>ypF W H en l gk v9 wr)
 case atStart=>exact⟨0,[],rfl,znq _,rfl,Z.o.1,Z.o.2.1,Z.o.2.2,fun j e h=>by omega⟩
 case round=>
  obtain⟨i,cs,rfl,hi,z,hM,m,G,hP⟩:=hrel;have x:H<wr.heap.size:=by obtain⟨es,ck,h1,_⟩:=hM;exact zlt h1
  by_cases hin:i<en
  .obtain⟨e,he⟩:=yac (l:=l) (k:=i) (by rw[n.o.2.2.2];exact hin)
   obtain⟨g,Am,vk,vn,vs,la,ln,lc,rfl,Af,hg,dv,y0,y1,y2,y3,y4,y5,y6,y7,y8,y9,y10⟩:=yc5 n.o.1 he;rw[<-m.cell (p:=⟨g,_,none⟩) hg]at y0 y1 y2 y3 y4 y5 y6 y7 y8 y9 y10;have Ae:g<wr:=znj hg m.size;have Aj:(i:Int)<(en:Int):=by omega
   have R:wrap64 ((i:Int)+1)=(i:Int)+1:=by have:=n.o.2.2.1;have:=n.o.2.2.2;unfold wrap64;omega
   have r:=n.o.2.1 e (zmg he);have HM:=zhd (show en - (i+1)<gk by omega);have D:=zh7 hM m G hP dv r he;clear hM m G hP dv r he Af z hi;obtain⟨e0,e1,P,O,e4,e5,e6,ex⟩:=e;dsimp only at y0 y1 y2 y3 y4 y5 y6;go_upto_region 5 with(fail);refine yaa ?_;intro w2 T;have B2:=zba T;have V:=zha T;clear y0 y1 y2 y3 y4 y5 y6 y7 y8 y9 y10 Ae hg T;obtain⟨x0,x1,x2,x3,x4,x5,x6,x7,x8,x9,x10,d,_⟩:=yaB V;obtain⟨q,t⟩:∃q,yae ⟨e0,e1,P,O,e4,e5,e6,ex⟩=q:=⟨_,rfl⟩;have RC:=zhd (yp3 e0 e1 P O e4 e5 e6 ex vk vn vs la ln lc F (D.o.2.2.2.2.1.keep (S:=fun _=>False) (zkb (D.o.2.1.trans (B2.mono D.o.2.1.size))) (fun _ _ f=>f)) D.o.2.2.2.2.2.1 q t);have H2:=zh2 B2 V;clear B2 V;go_wp2_with fail;refine RC.o.mono ?_;rintro e w3 ⟨rfl,Y⟩;have U:=(Y.block wr d).trans H2.o.2;have M:Below wr wr w3:=H2.o.1.trans (Y.mono H2.o.1.size);have Ab:=D.o.2.1.trans (M.mono D.o.2.1.size);have y:H<w3.heap.size:=znj x M.size;have H3:=zh3 M Ab U;clear x0 x1 x2 x3 x4 x5 x6 x7 x8 x9 x10 d RC M Ab Y x;obtain⟨x0,x1,x2,x3,x4,x5,x6,x7,x8,x9,x10,d,_⟩:=yaB U;clear U;by_cases hq0:q=0
   .subst hq0
    obtain⟨o,ho⟩:∃o,yaI P=o:=⟨_,rfl⟩;have OU:=zhd (yam e0 e1 P O e4 e5 e6 vk vn vs la ln lc w3 o ho);have HQ:=zh2 t ho;clear t ho;go_wp2_with fail;refine OU.o.mono ?_;rintro e w4 ⟨rfl,L⟩;have A:=(L.block wr d).trans H3.o.2.2;have B:Below wr wr w4:=H3.o.1.trans (L.mono H3.o.1.size);have C:=D.o.2.1.trans (B.mono D.o.2.1.size);have Ad:H<w4.heap.size:=znj y L.size;have Q:=ycr D.o.1 B;clear x0 x1 x2 x3 x4 x5 x6 x7 x8 x9 x10 d OU L y;obtain⟨x0,x1,x2,x3,x4,x5,x6,x7,x8,x9,x10,d,_⟩:=yaB A;have I:=zh3 Q C A;cases o with
    |false=>
     clear Q B C A;go_wp2;go_ret;exact⟨false,rfl,zhd ⟨fun h=>(by cases h),I.o.2.1⟩⟩
    |true=>
     by_cases hk1:P=1
     .subst hk1
      by_cases hi0:i=0
      .subst hi0
       clear Q B C A;go_wp2_with fail;go_roundg (en - (0+1))
       case measure=>exact HM.o
       case rel=>exact⟨0+1,cs,by first|rfl|(simp;done)|(simp[R];done),hin,rfl,I.o.1,I.o.2.1,D.o.2.2.1,fun j e hj hje=>by
        obtain rfl:j=0:=by omega
        rw[D.o.2.2.2.2.2.2]at hje;cases hje;exact⟨HQ.o.1,HQ.o.2,by simp⟩⟩
      .have n0:((i:Int)==0)=false:=by rw[zna];omega
       clear Q B C A;go_wp2;go_ret;exact⟨false,rfl,zhd ⟨fun h=>(by cases h),I.o.2.1⟩⟩
     .have n1:(P==1)=false:=by rw[zna];exact hk1
      by_cases hi0:i=0
      .subst hi0
       clear Q B C A hk1;go_wp2;go_ret;exact⟨false,rfl,zhd ⟨fun h=>(by cases h),I.o.2.1⟩⟩
      .have n0:((i:Int)==0)=false:=by rw[zna];omega
       have HS:=zhd (show∀(j:Nat) (e:Ev),j<i+1->l[j]? =some e->yae e=0/\yaI e.kind=true/\(e.kind=1↔j=0)from fun j e hj hje=>by
        by_cases hji:j=i
        .subst hji
         rw[D.o.2.2.2.2.2.2]at hje;cases hje;exact⟨HQ.o.1,HQ.o.2,⟨fun h=>absurd h hk1,fun h=>absurd h hi0⟩⟩
        .exact D.o.2.2.2.1 j e (by omega) hje)
       by_cases h12:P=12
       .subst h12
        obtain⟨f,hf⟩:∃f,decide (O∈cs)=f:=⟨_,rfl⟩;have Ap:=fun X hX=>yhe I.o.1 O f hf X hX;cases f with
        |true=>
         clear Q B C A hf hi0;go_wp2;go_ret;exact⟨false,rfl,zhd ⟨fun h=>(by cases h),I.o.2.1⟩⟩
        |false=>
         obtain⟨ob,s,N⟩:=MapAt.store I.o.1 ylO Tryz.underlying57 O true;replace s:∀X:World,ydU w4 H X->(Instr.mapUpdate 57 (.map (some H)) (.int .i64 O) (.bool true)).run Tryz.prog X= .ok () (setBlock X H ob):=s;have Ah:=zhd (N _ (yce _ _ _ Ad));have K4:Below W W (setBlock w4 H ob):=I.o.2.1.trans (((Keeps.refl (fun j=>j=H) w4).setBlock (b:=H) (.inl rfl) ob).below I.o.2.1.size (fun q t e=>by have:=D.o.2.2.1;omega));have Ai:=zhd K4;clear Q B C A hf hi0 N K4;go_wp2_with fail;go_roundg (en - (i+1))
         case measure=>exact HM.o
         case rel=>exact⟨i+1,O::cs,by simp[R],hin,rfl,Ah.o,Ai.o,D.o.2.2.1,HS.o⟩
       .have An:(P==12)=false:=by rw[zna];exact h12
        clear Q B C A hk1 hi0 h12;go_wp2_with fail;go_roundg (en - (i+1))
        case measure=>exact HM.o
        case rel=>exact⟨i+1,cs,by simp[R],hin,rfl,I.o.1,I.o.2.1,D.o.2.2.1,HS.o⟩
   .have n1:(q==0)=false:=by rw[zna];exact hq0
    have n2:(q !=0)=true:=by unfold bne;rw[n1];rfl
    clear hq0 t;go_wp2;go_ret;exact⟨false,rfl,zhd ⟨fun h=>(by cases h),H3.o.2.1⟩⟩
  .obtain rfl:i=en:=by omega
   have Ao:¬(i:Int)<i:=by omega
   have K:=n.o.2.2.2;have HZ:=zh2 m (show yle l from fun j e hje=>hP j e (by have:=(zge hje).1;omega) hje);clear hM m hP z hi;by_cases hi0:i=0
   .subst hi0
    clear K;go_wp2;go_ret;exact⟨false,rfl,zhd ⟨fun h=>(by cases h),HZ.o.1⟩⟩
   .have u:0<(i:Int):=by omega
    have Aq:decide (0<(i:Int))=true:=zno u;have Al:decide (0<i)=true:=zno (by omega);have Ak:0<i:=by omega
    have Ag:=zhd (show l≠[]from fun h=>by rw[h]at K;exact hi0 K.symm);clear K hi0;go_wp2;go_ret;exact⟨true,rfl,zhd ⟨fun _=>⟨HZ.o.2,Ag.o⟩,HZ.o.1⟩⟩
end Go.Proofs.YtpagmlndgblhhaaGreatDoor
namespace Go.Proofs.YtpagmlndgblhhaaGreatDoor
open Go.ChangeShapes Go.WideShapes Go.Deep Go.RowKit Go.Own Go.Va
open Go.Own.Cells (sz enc)
section
variable{H:Type} {tok:TypeId×Value->H} {w:World} {base:Nat} {spare:Nat->Bool} {held:Bool}
theorem yii {α β:Type}{R:α->β->Prop}:∀(ys:List α),(∀y∈ys,∃v,R y v)->∃l:List β,ys.length=l.length/\∀(i:Nat) (c:α) (x:β),ys[i]? =some c->l[i]? =some x->R c x
 |[],_=>⟨[],rfl,fun i c x h=>by simp at h⟩
 |y::r,h=>by
  obtain⟨v,hv⟩:=h y (zmf ..);obtain⟨l,B,A⟩:=yii r (fun z hz=>h z (zme _ hz));refine⟨v::l,by simp[B],fun i c x hc hx=> ?_⟩;cases i with
  |zero=>
   simp at hc hx;subst hc hx;exact hv
  |succ i=>exact A i c x (by simpa using hc) (by simpa using hx)
theorem yl7 {cs:List Value}(h:cs.length=11):∃a b c d e f g h i j k,cs=[a,b,c,d,e,f,g,h,i,j,k]:=by
 match cs,h with
 |[a,b,c,d,e,f,g,h,i,j,k],_=>exact⟨a,b,c,d,e,f,g,h,i,j,k,rfl⟩
theorem yp6:Tryz.prog.cellsOf 40=11:=by kernel_rfl
theorem yi6 (fuel:Nat)(cs:List Value)(x:DataW H×List MemPlace)(hl:cs.length=11)(h:DataW.trod tok Tryz.prog w base spare held fuel 40 cs=some x):∃y:EC,cs=enc y/\∃e:Ev,EvF (fun j=>j<w) w y e/\e.v.all B64/\ -9223372036854775808<=e.time/\e.time<=9223372036854775807:=by
 obtain⟨l,n,rfl,rfl,_,C,A⟩:=DataW.trod_struct Tryz.underlying40 h;obtain⟨c0,c1,c2,c3,t,s,r,q,p,o,D,rfl⟩:=yl7 hl
 match l,C with
 |[x0,x1,x2,x3,x4,x5,x6,x7],_=>
  have Z:=A 0 _ rfl;have Y:=A 1 _ rfl;have X:=A 2 _ rfl;have W:=A 3 _ rfl;have V:=A 4 _ rfl;have U:=A 5 _ rfl;have T:=A 6 _ rfl;have S:=A 7 _ rfl;simp[yku,yod,ynd,ync]at Z Y X W V U T S;obtain⟨R,i,_,_⟩:=DataW.trod_int Tryz.underlying3 Z;obtain⟨Q,g,_,k⟩:=DataW.trod_int Tryz.underlying2 Y;obtain⟨P,f,_,_⟩:=DataW.trod_int Tryz.underlying3 X;obtain⟨O,d,_,_⟩:=DataW.trod_int Tryz.underlying2 W;obtain⟨N,c,_,_⟩:=DataW.trod_int Tryz.underlying2 V;obtain⟨M,b,_,_⟩:=DataW.trod_string Tryz.underlying9 U;obtain⟨L,a,_,_⟩:=DataW.trod_string Tryz.underlying9 T;obtain⟨y,B,v,hv,m⟩:=yia n _ _ rfl S;simp at i g f d c b a;subst i g f d c b a;obtain⟨I,F,E,K,G,J⟩:=y;have B:[q,p,o,D]=[.int .i64 I,.int .i64 F,.string E,.slice K G J]:=B;simp only[List.cons.injEq,and_true]at B;obtain⟨rfl,rfl,rfl,rfl⟩:=B;exact⟨⟨R,Q,P,O,N,M,L,⟨I,F,E,K,G,J⟩⟩,rfl,⟨R,Q,P,O,N,M,L,v⟩,⟨rfl,rfl,rfl,rfl,rfl,rfl,rfl,hv⟩,m,(ykn k).1,(ykn k).2⟩
theorem yhc {a:Option Addr}{len cap:Nat}{d:DataW H}{p:List MemPlace}(h:DataW.Trod tok Tryz.prog w base spare held 22 (.slice a len cap) d p):∃l:List Ev,XRd (fun j=>j<w) w (.slice a len cap) l/\∀e∈l,e.v.all B64/\ -9223372036854775808<=e.time/\e.time<=9223372036854775807:=by
 obtain⟨fuel,L⟩:=h;obtain⟨M,D,I,A,B,J,K⟩:=yeh (α:=EC) (Q:=fun y=>∃e:Ev,EvF (fun j=>j<w) w y e/\e.v.all B64/\ -9223372036854775808<=e.time/\e.time<=9223372036854775807) Tryz.underlying22 yp6 (by decide) ⟨0,0,0,0,0,.empty,.empty,⟨0,0,.empty,none,0,0⟩⟩ (fun m _ cs x hcl ht=>yi6 m cs x hcl ht) L;simp[Value.cells]at A;obtain⟨rfl,rfl,rfl⟩:=A;obtain⟨l,G,F⟩:=yii (R:=fun(y:EC) (e:Ev)=>EvF (fun j=>j<w) w y e/\e.v.all B64/\ -9223372036854775808<=e.time/\e.time<=9223372036854775807) B K;refine⟨l,⟨B,J,G,fun i c x hc hx=>(F i c x hc hx).1⟩,fun e A=> ?_⟩;obtain⟨i,E⟩:=List.mem_iff_getElem?.1 A;have C:i<B.length:=by rw[G];exact(zge E).1
 exact(F i _ e (List.getElem?_eq_getElem C) E).2
end
end Go.Proofs.YtpagmlndgblhhaaGreatDoor
