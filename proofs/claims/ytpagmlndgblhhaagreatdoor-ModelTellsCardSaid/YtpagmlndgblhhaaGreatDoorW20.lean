/- Parts of the proof: what the functions and the plain laws give that later parts lean on. Conditions: none beyond those that each theorem names. -/
import Derived.Test.YtpagmlndgblhhaaGreatDoorW19
set_option maxRecDepth 100000
set_option maxHeartbeats 8000000
namespace Go.Proofs.YtpagmlndgblhhaaGreatDoor
open Go.RowKit Go.Own Go.Own.MapTy Go.Va Go.Sort
open Go.Own.Cells (sz enc)
set_option linter.unusedVariables false
structure RL (N n5 b gb fb:Nat)(v:MV)(p:Img)(s:MS)(v8:Value)(A:List Ev)(w:World):Prop where
 mx:MX TT (fun q=>N<=q/\¬v8.ownBlock=some q/\¬q=gb/\¬q=fb) w b v p s
 row:XRow (fun g=>¬MO v b g/\¬v8.ownBlock=some g/\¬g=gb/\¬g=fb) w 40 v8 A
 own:∀g,v8.ownBlock=some g->n5<=g/\¬MO v b g/\¬g=gb/\¬g=fb
 mo:∀g,MO v b g->¬g=gb/\¬g=fb
theorem RL.ext {N n5 b gb fb:Nat}{v:MV}{p:Img}{s:MS}{v8:Value}{A:List Ev}{w w':World}(h:RL N n5 b gb fb v p s v8 A w)(B:Below w w w'):RL N n5 b gb fb v p s v8 A w':=⟨h.mx.ext B,h.row.below B,h.own,h.mo⟩
theorem RL.map {N n5 b gb fb:Nat}{v:MV}{p:Img}{s:MS}{v8:Value}{A:List Ev}{w w':World}(h:RL N n5 b gb fb v p s v8 A w)(K:Keeps (fun j=>j=gb\/j=fb) w w'):RL N n5 b gb fb v p s v8 A w':=
 ⟨h.mx.far K (fun j e m=>e.elim (h.mo j m).1 (h.mo j m).2) (fun j e z=>e.elim z.2.2.1 z.2.2.2),h.row.keep K (fun g z e=>e.elim z.2.2.1 z.2.2.2) (fun g z e=>e.elim (h.own g z).2.2.1 (h.own g z).2.2.2),h.own,h.mo⟩
theorem RL.turn {N n5 b gb fb:Nat}{v v':MV}{p:Img}{s s':MS}{v8:Value}{A:List Ev}{w w':World}(h:RL N n5 b gb fb v p s v8 A w)(hm:gb<w.heap.size/\fb<w.heap.size)(M:MX TT (fun q=>N<=q/\¬v8.ownBlock=some q/\¬q=gb/\¬q=fb) w' b v' p s')(K:MK b v w v' w'):RL N n5 b gb fb v' p s' v8 A w':=by
 have B:∀g,¬MO v b g->g<w.heap.size->¬MO v' b g:=fun g h1 hl e=>(K.own g e).elim h1 (fun e=>by omega);refine⟨M,?_,fun g hg=>⟨(h.own g hg).1,B g (h.own g hg).2.1 (h.row.lt hg),(h.own g hg).2.2⟩,fun g hg=>(K.own g hg).elim (h.mo g) (fun e=>⟨by omega,by omega⟩)⟩;exact((h.row.mono (G:=fun g=>(¬MO v b g/\¬v8.ownBlock=some g/\¬g=gb/\¬g=fb)/\¬MO v' b g) (fun g hg hl=>⟨hg,B g hg.1 hl⟩)).keep K.keeps (fun g hg e=>hg.1.1 e) (fun g hg e=>(h.own g hg).2.1 e)).mono (fun g hg _=>⟨hg.2,hg.1.2⟩)
theorem RL.app {N n5 b gb fb:Nat}{v:MV}{p:Img}{s:MS}{v8 v1:Value}{A:List Ev}{w w4:World}{ks:List EC}{c:EC}{x:Ev}(h:RL N n5 b gb fb v p s v8 A w)(hm:gb<w.heap.size/\fb<w.heap.size)(h5:n5<=w.heap.size)
  (P:Ptw (fun g=>¬MO v b g/\¬v8.ownBlock=some g/\¬g=gb/\¬g=fb) w ks A)(Q:EvF (fun g=>¬MO v b g/\¬v8.ownBlock=some g/\¬g=gb/\¬g=fb) w c x)
  (hr:RowAt w4 40 v1 (ks++[c]))(hk:Keeps (fun j=>v8.ownBlock=some j) (w.alloc (.cells (enc c).toArray 40)) w4)(hf:∀g,v1.ownBlock=some g->v8.ownBlock=some g\/(w.alloc (.cells (enc c).toArray 40)).heap.size<=g):RL N n5 b gb fb v p s v1 (A++[x]) w4:=by
 have D:Below w w (w.alloc (.cells (enc c).toArray 40)):=zal;obtain⟨E,C⟩:∃E,E=w.alloc (.cells (enc c).toArray 40):=⟨_,rfl⟩;rw[<-C]at D hk hf;clear C;have K:=D.size;have F:=h.ext D;refine⟨?_,?_,fun g B=>(hf g B).elim (fun e=>h.own g e) (fun e=>⟨by omega,fun m=>by have:=h.mx.lt m;omega,by omega,by omega⟩),h.mo⟩
 .exact((F.mx.monoZ (Z':=fun q=>(N<=q/\¬v8.ownBlock=some q/\¬q=gb/\¬q=fb)/\q<E) (fun j h1 h2=>⟨h1,h2⟩)).far hk (fun j hj=>(h.own j hj).2.1) (fun j hj z=>z.1.2.1 hj)).monoZ (fun j hz _=>⟨hz.1.1,fun e=>(hf j e).elim hz.1.2.1 (fun e=>by have:=hz.2;omega),hz.1.2.2⟩)
 .have J:=P.app (Ptw.one (x:=x) Q)
  have I:=J.mono (G:=fun g=>(¬MO v b g/\¬v8.ownBlock=some g/\¬g=gb/\¬g=fb)/\g<w) (fun g B hl=>⟨B,hl⟩);have H:=(I.keep (S:=fun _=>False) (zkb D) (fun _ _ f=>f)).keep hk (fun g B e=>B.1.2.1 e);refine XRow.of hr (Ptw.mono H ?_);intro g B _;exact⟨B.1.1,fun e=>(hf g e).elim B.1.2.1 (fun e=>by have:=B.2;omega),B.1.2.2⟩
theorem ykh {N:Nat}(s:ByteArray)(w:World)(hs:s.size<=4294967280)(G:Gl Tryz.prog N w)(h0:Lib.hasPrefix (s.data.toList.drop 0) [110,105,108]=false)(h1:yeu s.data.toList 0 34=false)(h2:yeu s.data.toList 0 91=false)(x:Val)(hv:ygf s.data.toList 0= .ok x s.size)(hcl:checkL x=0):
  Calls Tryz.prog 128 #[s] w (yo7 w (x,0)):=by
 have hn:=G.n;have Z:TX ((w.alloc (.cells #[.int .i64 0,.int .i64 0,.string ⟨#[]⟩,.slice none 0 0] 38)).alloc (.cells #[s,.int .i64 0,.bool false] 246)) (w.heap.size+1) s 0 false:=yat;have Y:=zhd (show Calls Tryz.prog 151 #[.pointer (some ⟨w.heap.size+1,0,none⟩),.int .i64 0] _ _ from yl3 (w.heap.size+1) s 0 0 _ Z hs (znq _) ((G.alloc _).alloc _) (by omega) h0 h1 h2 _ hv);have H:=ykm hv;clear G Z h0 h1 h2 hv;go_in;go_wp2_with fail;refine Y.o.mono ?_;rintro e C ⟨c,R,u,I,H2⟩;have q:∀o,C.cell? ⟨w,o,none⟩=(#[.int .i64 0,.int .i64 0,.string ⟨#[]⟩,.slice none 0 0]:Array Value)[o]? :=fun o=>by
  rw[I.cell (p:=⟨w,o,none⟩) (by simp;omega) (show¬w.heap.size=w.heap.size+1 by omega),zch yaD]
 have W:∀o,C.frozen? ⟨w,o,none⟩=false:=fun o=>by
  rw[I.frozen (p:=⟨w,o,none⟩) (by simp;omega) (show¬w.heap.size=w.heap.size+1 by omega),zfr yaD]
 have Q:=q 0;have P:=q 1;have O:=q 2;have M:=q 3;simp only[zmc,zma,zmb]at Q P O M;have L:=I.size;simp at L;have E:w<C.heap.size:=by omega
 have g:w.heap.size+1<C.heap.size:=by omega
 have y:=zhd (show Below w w C from(((zal).alloc (by simp) _).trans (I.below (B:=w.heap.size) (by simp;omega) (fun k hk e=>by omega))));clear q Y I;obtain⟨rfl,T,X,J⟩:=H2;have c0:=J.c0;have c1:=J.c1;have c2:=J.c2;have U:¬R<s.size:=by omega
 clear T;have e1:¬(R:Int)<s.size:=by omega
 have e2:decide (R<s.size)=false:=by rw[znz];exact U
 have F:=(X.mono (G:=fun j=>w<j) (fun j h _=>by simp at h;omega)).keep (S:=fun _=>False) ((Keeps.refl _ _).alloc (.cells #[c.kind,c.n,c.s,.slice c.la c.ln c.lc] 38)) (fun _ _ f=>f);have CC:=zhd (ybi x c.kind c.n c.s c.la c.ln c.lc _ _ F H _ rfl);rw[hcl]at CC;have a:=zhd F;clear J X H F hcl;go_wp2_with fail;refine CC.o.mono ?_;rintro e D ⟨rfl,A⟩;have p0:D.cell? ⟨C,0,none⟩=some (.int .i64 c.kind):=by rw[A.cell (p:=⟨C,0,none⟩) (by simp),zch (znb _ _)];rfl
 have p1:D.cell? ⟨C,1,none⟩=some (.int .i64 c.n):=by rw[A.cell (p:=⟨C,1,none⟩) (by simp),zch (znb _ _)];rfl
 have p2:D.cell? ⟨C,2,none⟩=some (.string c.s):=by rw[A.cell (p:=⟨C,2,none⟩) (by simp),zch (znb _ _)];rfl
 have p3:D.cell? ⟨C,3,none⟩=some (.slice c.la c.ln c.lc):=by rw[A.cell (p:=⟨C,3,none⟩) (by simp),zch (znb _ _)];rfl
 have t:D.cell? ⟨w,0,none⟩=some (.int .i64 0):=by rw[A.cell (p:=⟨w,0,none⟩) (by simp;omega)];exact(znt (w:=C) (zne _ _ _ E)).trans Q
 have r:D.cell? ⟨w,1,none⟩=some (.int .i64 0):=by rw[A.cell (p:=⟨w,1,none⟩) (by simp;omega)];exact(znt (w:=C) (zne _ _ _ E)).trans P
 have m:D.cell? ⟨w,2,none⟩=some (.string ⟨#[]⟩):=by rw[A.cell (p:=⟨w,2,none⟩) (by simp;omega)];exact(znt (w:=C) (zne _ _ _ E)).trans O
 have l:D.cell? ⟨w,3,none⟩=some (.slice none 0 0):=by rw[A.cell (p:=⟨w,3,none⟩) (by simp;omega)];exact(znt (w:=C) (zne _ _ _ E)).trans M
 have i:∀o,D.frozen? ⟨w,o,none⟩=false:=fun o=>by rw[A.frozen (p:=⟨w,o,none⟩) (by simp;omega)];exact(znu (w:=C) (zne _ _ _ E)).trans (W o)
 have K:=A.size;simp at K;have d:w<D.heap.size:=by omega
 have b:C<D.heap.size:=by omega
 have z:=zhd (show Below w w D from(y.o.alloc (by omega) _).trans (A.mono (by simp;omega)));have V:=zhd (a.o.keep (zkb (S:=fun _=>False) A) (fun _ _ f=>f));clear A c0 c1 c2 Q P O M W CC a;go_wp2_with fail;exact zng (v:=.tuple #[.agg #[c.kind,c.n,c.s,.slice c.la c.ln c.lc],.int .i64 0]) (by simp only[results,Tryz.results128];go_simp) rfl ⟨c,rfl,(V.o.keep (ypD w.heap.size D _ _ _ _) (fun j h e=>by omega)).mono (fun j h _=>by omega),yiL z.o _ _ _ _⟩
theorem ylP {Z:Nat->Prop}(b:Nat)(v:RV)(st:RSt)(line:Int)(s:ByteArray)(W:World)(R:RX Z W b v st)(hZ:∀j,W.heap.size<=j->Z j)(hl:st.consts.length<=65536)(x:Val)(PA:Calls Tryz.prog 128 #[s] W (yo7 W (x,0)))(i0:Nat)(l':List Val)(hq:yfV x st.consts=(i0,l')):
  Calls Tryz.prog 93 #[.pointer (some ⟨b,0,none⟩),.int .i64 1,line,s] W (yo8 Z W b v ((i0:Int),0,{st with consts:=l'})):=by
 have PA:=zhd PA;have L:=zhd R;clear R;go_in;go_wp2_with fail;refine PA.o.mono ?_;rintro e N ⟨⟨K,J,I,E,C,D⟩,rfl,F,H⟩;have A:=zh2 F H;clear F H PA;have B:Below W W (N.alloc (.cells #[K,J,I,.slice E C D] 38)):=A.o.2.alloc A.o.2.size _;have RV:=zhd (yi4 b v st x K J I E C D _ (L.o.ext B) ((A.o.1.mono (G:=fun j=>¬Go.Va.RO v b j/\Z j) (fun j h _=>⟨fun e=>by have:=L.o.lt e;omega,hZ j h⟩)).keep (S:=fun _=>False) ((Keeps.refl _ _).alloc _) (fun _ _ f=>f)) (by omega) _ _ hq);have P:=zhd B;clear B hq;go_wp2_with fail;refine RV.o.mono ?_;rintro e Q ⟨O,rfl,M⟩;go_wp2_with fail;exact zng (v:=.tuple #[i0,.int .i64 0]) (by simp only[results,Tryz.results93];go_simp) rfl ⟨O,rfl,zhd ⟨M.o.1,(RK.ext P.o).trans M.o.2⟩⟩
theorem ylW {N:Nat}
  {Z:Nat->Prop}(b:Nat)(v:RV)(st:RSt)(n:Int)(s:ByteArray)(W:World)(R:RX Z W b v st)(hs:s.size<=65536)
  (G:Gl Tryz.prog N W)(hA:Lib.hasSuffix s.data.toList [58]=false)(hp:Lib.hasPrefix s.data.toList [32,32]=true)(op:Nat)(inf:Inf)(hf:yeT (ygU s)=some op)(ho:(ofL op).1=inf)(hm:ylk s=false)(hi:(inf.operand !=0)=false)(hc:st.code.length<=65536)(r:Int×RSt)(hr:r=(0,{st with code:=st.code++[⟨op,0⟩]})):
  Calls Tryz.prog 47 #[.pointer (some ⟨b,0,none⟩),n,s] W (ynX Z W b v r)
  :=by
 subst hr;have d:=yhG s;have L:=zhd (show Calls Tryz.prog 90 #[.string ⟨(Lib.trimPrefix s.data.toList [32,32]).toArray⟩,.string ⟨#[32]⟩] W (fun e w'=>e= .returned (.tuple #[.string (ygU s),.string (yda s),.bool (ylk s)])/\Below W W w')from by
  obtain⟨m,hm⟩:=G.m;have Y:(⟨(Lib.trimPrefix s.data.toList [32,32]).toArray⟩:ByteArray).size<4294967281:=by
   have e1:(⟨(Lib.trimPrefix s.data.toList [32,32]).toArray⟩:ByteArray).size=(Lib.trimPrefix s.data.toList [32,32]).length:=by show(Lib.trimPrefix s.data.toList [32,32]).toArray.size=_;simp
   rw[e1];omega
  exact(Any.strings_Cut Tryz.lays145 ⟨(Lib.trimPrefix s.data.toList [32,32]).toArray⟩ ⟨#[32]⟩ m W Y hm).mono fun e w' ⟨j1,n,j2⟩=>⟨by rw[j1];unfold ygU yda ylk;simp,by rw[j2];exact⟨rfl,rfl,rfl,znc _,fun _ _=>rfl⟩⟩)
 rw[hm]at L;have FI:=zhd (show∀w,Calls Tryz.prog 91 #[.string (ygU s)] w (fun e w'=>e= .returned (.tuple #[op,.bool true])/\Below w w w')from fun w=>(ykK (ygU s) w).mono fun e w' ⟨j1,j2⟩=>⟨by rw[j1,hf];rfl,j2⟩);have z:=zhd (show∀w,Calls Tryz.prog 92 #[op] w (fun e w'=>e= .returned (.tuple #[.agg #[inf.name,inf.operand,inf.i,inf.o,inf.blocks,inf.ends,inf.flow],.bool (ofL op).2])/\Below w w w')from fun w=>(yge op w).mono fun e w' ⟨j1,j2⟩=>⟨by rw[j1,ho];rfl,j2⟩);generalize(ofL op).2=ob at*;clear hf G d ho hm;have CP:=zhd (show∀W,Calls Tryz.prog 89 #[s,.string ⟨#[32,32]⟩] W (fun e w'=>e= .returned (.tuple #[.string ⟨(Lib.trimPrefix s.data.toList [32,32]).toArray⟩,.bool true])/\w'=W)from fun W=>(Any.strings_CutPrefix Tryz.lays103 s ⟨#[32,32]⟩ W).mono fun e w' ⟨j1,j2⟩=>⟨by rw[j1,show(⟨#[32,32]⟩:ByteArray).data.toList=[32,32]from rfl,hp],j2⟩)
 have l:=zhd (show∀W,Calls Tryz.prog 45 #[s,.string ⟨#[58]⟩] W (fun e w'=>e= .returned (.tuple #[.string (yjP s),.bool false])/\w'=W)from fun W=>(Any.strings_CutSuffix Tryz.lays104 s ⟨#[58]⟩ W (by omega)).mono fun e w' ⟨j1,j2⟩=>⟨by rw[j1,show(⟨#[58]⟩:ByteArray).data.toList=[58]from rfl,hA];rfl,j2⟩);clear hA hp;go_in;go_wp2_with fail;refine(l.o _).mono ?_;rintro e X ⟨rfl,O⟩;rw[O];clear O X;go_wp2_with fail;refine(CP.o _).mono ?_;rintro e X ⟨rfl,O⟩;rw[O];clear O X;go_wp2_with fail;refine L.o.mono ?_;rintro e w2 ⟨rfl,U⟩;have K:=zhd U;clear U;go_wp2_with fail;refine(FI.o _).mono ?_;rintro e D ⟨rfl,T⟩;have F:=zhd (K.o.trans (T.mono K.o.size));clear T K;go_wp2_with fail;refine(z.o _).mono ?_;rintro e H ⟨rfl,C⟩;have M:D<H.heap.size:=by have:=C.size;simp at this;omega
 have x:H.cell? ⟨D,0,none⟩=some (.int .i64 op):=by rw[C.cell (p:=⟨D,0,none⟩) (by simp),zch (znb _ _)];rfl
 have t:H.cell? ⟨D,1,none⟩=some (.int .i64 0):=by rw[C.cell (p:=⟨D,1,none⟩) (by simp),zch (znb _ _)];rfl
 have Ab:∀o,H.frozen? ⟨D,o,none⟩=false:=fun o=>by rw[C.frozen (p:=⟨D,o,none⟩) (by simp),zfr (znb _ _)]
 have V:=zhd ((F.o.alloc F.o.size (.cells #[op,.int .i64 0] 106)).trans (C.mono (by have:=F.o.size;simp;omega)));have s3:W<=D.heap.size:=F.o.size;clear C;obtain⟨w6,B⟩:∃w6,w6=H.alloc (.cells #[inf.name,inf.operand,inf.i,inf.o,inf.blocks,inf.ends,inf.flow] 169):=⟨_,rfl⟩;have q:Below W W w6:=by rw[B];exact V.o.alloc V.o.size _
 have A:=zh2 (R.ext q) (RK.ext (b:=b) (v:=v) q);go_wp2_with fail;rw[<-B];have x:w6.cell? ⟨D,0,none⟩=some (.int .i64 op):=by rw[B];exact(znt (w:=H) (zne _ _ _ M)).trans x
 have t:w6.cell? ⟨D,1,none⟩=some (.int .i64 0):=by rw[B];exact(znt (w:=H) (zne _ _ _ M)).trans t
 have Aa:D<w6.heap.size:=by rw[B];simp;omega
 clear B q L FI z;obtain⟨vc,vk,vn,vj,pl,mb⟩:=v;obtain⟨j,f,rfl⟩:∃a cap,vc= .slice a st.code.length cap:=A.o.1.code.slice;have b0:b<w6:=zlt A.o.1.h;have c0:=zca A.o.1.h 0 rfl;have f0:∀o,w6.frozen? ⟨b,o,none⟩=false:=fun o=>zfr A.o.1.h o;have NB:=zhd (show∀g,(Value.slice j st.code.length f).ownBlock=some g->g≠b from fun g hg=>(A.o.1.sep.c g hg).1);have J:=zhd (show(st.code.length+[(⟨op,0⟩:In)].length)*16<=140737488355328/\st.code.length+[(⟨op,0⟩:In)].length<=maxLen/\st.code.length+[(⟨op,0⟩:In)].length=st.code.length+1 from by unfold maxLen;simp;omega);go_region_law
  ((refine yaC (α:=In) (o:=⟨some 105,_,_,_,_,_⟩) ynG (by rfl) (.tmp 102) (.tmp 104) (by rfl) (v:=.slice j st.code.length f) (u:=.slice (some ⟨w6,0,none⟩) 1 1) (by rfl) (by rfl) (xs:=st.code) (ys:=[⟨op,0⟩]) ((A.o.1.code.drew).alloc _) (RowAt.lit (α:=In) (y:=⟨op,0⟩) (znb _ _)) J.o.1 J.o.2.1 (st.code.length+1) J.o.2.2 ?_;intro a1 cp w9 P I Q;have E:=(I.block b (by simp;omega) (fun e=>NB.o b e rfl)).trans ((zne w6.drew _ _ b0).trans A.o.1.h);have y1:w9.cell? ⟨b,0,none⟩=some (.slice j st.code.length f):=by{rw[zch E];rfl};have y3:∀o,w9.frozen? ⟨b,o,none⟩=false:=fun o=>zfr E o;have b1:b<w9:=zlt E;have k:=zh3 P I Q;clear P I Q E))
 all_goals
  have S:=(A.o.1.ext (((znv _ w6).drew).alloc (znc _) (.cells #[op,.int .i64 0] 106))).setCode k.o.1 k.o.2.1 k.o.2.2;have HS:=zhd S;clear S;go_wp2;go_ret;exact⟨_,rfl,zhd ⟨HS.o.1,A.o.2.trans ((RK.ext (((znv _ w6).drew).alloc (znc _) _)).trans HS.o.2)⟩⟩
theorem ylX {N:Nat}
  {Z:Nat->Prop}(b:Nat)(v:RV)(st:RSt)(n:Int)(s:ByteArray)(W:World)(R:RX Z W b v st)(hs:s.size<=65536)
  (G:Gl Tryz.prog N W)(hA:Lib.hasSuffix s.data.toList [58]=false)(hp:Lib.hasPrefix s.data.toList [32,32]=true)(op:Nat)(inf:Inf)(hf:yeT (ygU s)=some op)(ho:(ofL op).1=inf)(hm:ylk s=true)(hi:(inf.operand !=0)=true)(oa:Int)(st':RSt)
  (hZ:∀j,W.heap.size<=j->Z j)(OA:∀Z1 w6,(∀j,w6.heap.size<=j->Z1 j)->RX Z1 w6 b v st->Gl Tryz.prog N w6->Calls Tryz.prog 93 #[.pointer (some ⟨b,0,none⟩),inf.operand,n,.string (yda s)] w6 (yo8 Z1 w6 b v (oa,0,st')))(hc:st'.code.length<=65536)(r:Int×RSt)(hr:r=(0,{st' with code:=st'.code++[⟨op,oa⟩]})):
  Calls Tryz.prog 47 #[.pointer (some ⟨b,0,none⟩),n,s] W (ynX Z W b v r)
  :=by
 subst hr;have Ad:=yhG s;have X:=zhd (show Calls Tryz.prog 90 #[.string ⟨(Lib.trimPrefix s.data.toList [32,32]).toArray⟩,.string ⟨#[32]⟩] W (fun e w'=>e= .returned (.tuple #[.string (ygU s),.string (yda s),.bool (ylk s)])/\Below W W w')from by
  obtain⟨m,hm⟩:=G.m;have Ac:(⟨(Lib.trimPrefix s.data.toList [32,32]).toArray⟩:ByteArray).size<4294967281:=by
   have e1:(⟨(Lib.trimPrefix s.data.toList [32,32]).toArray⟩:ByteArray).size=(Lib.trimPrefix s.data.toList [32,32]).length:=by show(Lib.trimPrefix s.data.toList [32,32]).toArray.size=_;simp
   rw[e1];omega
  exact(Any.strings_Cut Tryz.lays145 ⟨(Lib.trimPrefix s.data.toList [32,32]).toArray⟩ ⟨#[32]⟩ m W Ac hm).mono fun e w' ⟨F,n,j2⟩=>⟨by rw[F];unfold ygU yda ylk;simp,by rw[j2];exact⟨rfl,rfl,rfl,znc _,fun _ _=>rfl⟩⟩)
 rw[hm]at X;have FI:=zhd (show∀w,Calls Tryz.prog 91 #[.string (ygU s)] w (fun e w'=>e= .returned (.tuple #[op,.bool true])/\Below w w w')from fun w=>(ykK (ygU s) w).mono fun e w' ⟨F,j2⟩=>⟨by rw[F,hf];rfl,j2⟩);have OF:=zhd (show∀w,Calls Tryz.prog 92 #[op] w (fun e w'=>e= .returned (.tuple #[.agg #[inf.name,inf.operand,inf.i,inf.o,inf.blocks,inf.ends,inf.flow],.bool (ofL op).2])/\Below w w w')from fun w=>(yge op w).mono fun e w' ⟨F,j2⟩=>⟨by rw[F,ho];rfl,j2⟩);generalize(ofL op).2=ob at*;have OA:=zhd OA;clear hf Ad ho hm;have CP:=zhd (show∀W,Calls Tryz.prog 89 #[s,.string ⟨#[32,32]⟩] W (fun e w'=>e= .returned (.tuple #[.string ⟨(Lib.trimPrefix s.data.toList [32,32]).toArray⟩,.bool true])/\w'=W)from fun W=>(Any.strings_CutPrefix Tryz.lays103 s ⟨#[32,32]⟩ W).mono fun e w' ⟨F,j2⟩=>⟨by rw[F,show(⟨#[32,32]⟩:ByteArray).data.toList=[32,32]from rfl,hp],j2⟩)
 have Af:=zhd (show∀W,Calls Tryz.prog 45 #[s,.string ⟨#[58]⟩] W (fun e w'=>e= .returned (.tuple #[.string (yjP s),.bool false])/\w'=W)from fun W=>(Any.strings_CutSuffix Tryz.lays104 s ⟨#[58]⟩ W (by omega)).mono fun e w' ⟨F,j2⟩=>⟨by rw[F,show(⟨#[58]⟩:ByteArray).data.toList=[58]from rfl,hA];rfl,j2⟩);clear hA hp;go_in;go_wp2_with fail;refine(Af.o _).mono ?_;rintro e w1 ⟨rfl,k⟩;rw[k];clear k w1;go_wp2_with fail;refine(CP.o _).mono ?_;rintro e w1 ⟨rfl,k⟩;rw[k];clear k w1;go_wp2_with fail;refine X.o.mono ?_;rintro e w2 ⟨rfl,x⟩;have U:=zhd x;clear x;go_wp2_with fail;refine(FI.o _).mono ?_;rintro e A ⟨rfl,t⟩;have K:=zhd (U.o.trans (t.mono U.o.size));clear t U;go_wp2_with fail;refine(OF.o _).mono ?_;rintro e L ⟨rfl,D⟩;have O:A<L.heap.size:=by have:=D.size;simp at this;omega
 have i0:L.cell? ⟨A,0,none⟩=some (.int .i64 op):=by rw[D.cell (p:=⟨A,0,none⟩) (by simp),zch (znb _ _)];rfl
 have i1:L.cell? ⟨A,1,none⟩=some (.int .i64 0):=by rw[D.cell (p:=⟨A,1,none⟩) (by simp),zch (znb _ _)];rfl
 have d:∀o,L.frozen? ⟨A,o,none⟩=false:=fun o=>by rw[D.frozen (p:=⟨A,o,none⟩) (by simp),zfr (znb _ _)]
 have Aa:=zhd ((K.o.alloc K.o.size (.cells #[op,.int .i64 0] 106)).trans (D.mono (by have:=K.o.size;simp;omega)));have s3:W<=A.heap.size:=K.o.size;clear D;obtain⟨w6,C⟩:∃w6,w6=L.alloc (.cells #[inf.name,inf.operand,inf.i,inf.o,inf.blocks,inf.ends,inf.flow] 169):=⟨_,rfl⟩;have Y:Below W W w6:=by rw[C];exact Aa.o.alloc Aa.o.size _
 have Ae:=zh2 (R.ext Y) (RK.ext (b:=b) (v:=v) Y);have i0:w6.cell? ⟨A,0,none⟩=some (.int .i64 op):=by rw[C];exact(znt (w:=L) (zne _ _ _ O)).trans i0
 have i1:w6.cell? ⟨A,1,none⟩=some (.int .i64 0):=by rw[C];exact(znt (w:=L) (zne _ _ _ O)).trans i1
 have f:∀o,w6.frozen? ⟨A,o,none⟩=false:=fun o=>by rw[C];exact(znu (w:=L) (zne _ _ _ O)).trans (d o)
 have I:A<w6.heap.size:=by rw[C];simp;omega
 have OC:=zhd (OA.o (fun j=>Z j/\j≠A) w6 (fun j hj=>⟨hZ j (by have:=Y.size;omega),by omega⟩) ((R.monoZ (fun j hj hl=>⟨hj,by omega⟩)).ext Y) (G.below Y));go_wp2_with fail;rw[<-C];refine OC.o.mono ?_;rintro e w7 ⟨v',rfl,V⟩;have E:¬Go.Va.RO v b A.heap.size:=fun h=>by have:=R.lt h;omega
 have j0:=(V.o.2.1.cell (p:=⟨A,0,none⟩) I E).trans i0;have F:=(V.o.2.1.cell (p:=⟨A,1,none⟩) I E).trans i1;have jf:∀o,w7.frozen? ⟨A,o,none⟩=false:=fun o=>(V.o.2.1.frozen (p:=⟨A,o,none⟩) I E).trans (f o);have Ab:A<w7.heap.size:=znj I V.o.2.1.size;have M:¬Go.Va.RO v' b A.heap.size:=fun h=>by
  rcases V.o.2.2.1 _ h with h|h
  .exact E h
  .omega
 have Q:=zh2 M (Ae.o.2.trans V.o.2);clear C Y X FI OF OC i0 i1 f d E M;obtain⟨w8,H⟩:∃w8,w8=w7.setCell ⟨A,1,none⟩ (.int .i64 oa):=⟨_,rfl⟩;have K8:Keeps (fun j=>j=A) w7 w8:=by rw[H];exact Keeps.setCell (S:=fun j=>j=A) (p:=⟨A,1,none⟩) (Keeps.refl _ _) (.inl rfl) _
 have R8:=(V.o.1.far K8 (fun j e h=>Q.o.1 (e▸h)) (fun j e h=>h.2 e)).monoZ (Z':=Z) (fun j h _=>h.1);have z:RK b v W v' w8:=⟨Q.o.2.1.trans K8 (fun j hj e=>by omega),Q.o.2.2⟩;have k0:w8.cell? ⟨A,0,none⟩=some (.int .i64 op):=by rw[H];go_simp
 have k1:w8.cell? ⟨A,1,none⟩=some (.int .i64 oa):=by rw[H];go_simp
 have Ag:A<w8.heap.size:=znj Ab K8.size;have B:=zh2 R8 z;go_wp2_with fail;rw[<-H];clear H K8 R8 z j0 F jf;obtain⟨vc,vk,vn,vj,pl,mb⟩:=v';obtain⟨ca,cc,rfl⟩:∃a cap,vc= .slice a st'.code.length cap:=B.o.1.code.slice;have b0:b<w8:=zlt B.o.1.h;have c0:=zca B.o.1.h 0 rfl;have f0:∀o,w8.frozen? ⟨b,o,none⟩=false:=fun o=>zfr B.o.1.h o;have NB:=zhd (show∀g,(Value.slice ca st'.code.length cc).ownBlock=some g->g≠b from fun g hg=>(B.o.1.sep.c g hg).1);have T:=zhd (show(st'.code.length+[(⟨op,oa⟩:In)].length)*16<=140737488355328/\st'.code.length+[(⟨op,oa⟩:In)].length<=maxLen/\st'.code.length+[(⟨op,oa⟩:In)].length=st'.code.length+1 from by unfold maxLen;simp;omega);go_region_law
  ((refine yaC (α:=In) (o:=⟨some 105,_,_,_,_,_⟩) ynG (by rfl) (.tmp 102) (.tmp 104) (by rfl) (v:=.slice ca st'.code.length cc) (u:=.slice (some ⟨w8,0,none⟩) 1 1) (by rfl) (by rfl) (xs:=st'.code) (ys:=[⟨op,oa⟩]) ((B.o.1.code.drew).alloc _) (RowAt.lit (α:=In) (y:=⟨op,oa⟩) (znb _ _)) T.o.1 T.o.2.1 (st'.code.length+1) T.o.2.2 ?_;intro a1 cp w9 l P q;have J:=(P.block b (by simp;omega) (fun e=>NB.o b e rfl)).trans ((zne w8.drew _ _ b0).trans B.o.1.h);have y1:w9.cell? ⟨b,0,none⟩=some (.slice ca st'.code.length cc):=by{rw[zch J];rfl};have y3:∀o,w9.frozen? ⟨b,o,none⟩=false:=fun o=>zfr J o;have b1:b<w9:=zlt J;have FF:=zh3 l P q;clear l P q J))
 all_goals
  have S:=(B.o.1.ext (((znv _ w8).drew).alloc (znc _) (.cells #[op,oa] 106))).setCode FF.o.1 FF.o.2.1 FF.o.2.2;have HS:=zhd S;clear S;go_wp2;go_ret;exact⟨_,rfl,zhd ⟨HS.o.1,B.o.2.trans ((RK.ext (((znv _ w8).drew).alloc (znc _) _)).trans HS.o.2)⟩⟩
def yfC (x:ByteArray):Bool:= !(Lib.hasSuffix x.data.toList [58])&&(Lib.hasPrefix x.data.toList [32,32]&&((yeT (ygU x)).any (fun op=>(ofL op).1.operand==0)&& !(ylk x)))
theorem yhr {N:Nat}{x:ByteArray}(hs:x.size<=65536)(hb:yfC x=true):LineLaw N x:=by
 unfold yfC at hb;rw[Bool.and_eq_true,Bool.and_eq_true,Bool.and_eq_true,Bool.not_eq_true',Bool.not_eq_true']at hb;obtain⟨F,D,B,hm⟩:=hb;cases hfo:yeT (ygU x)with
 |none=>rw[hfo]at B;cases B
 |some op=>
  rw[hfo]at B;have H:(ofL op).1.operand=0:=by simpa using B
  have E:((ofL op).1.operand !=0)=false:=by rw[H];rfl
  have I:ykC x=false:=by unfold ykC;rw[F];rfl
  have C:∀(n:Int) (A:RSt),lineL n x A=(0,{A with code:=A.code++[⟨op,0⟩]}):=by
   intro n A;unfold lineL;rw[if_neg (by rw[I];exact Bool.noConfusion),if_neg (by rw[D];exact Bool.noConfusion),hfo];dsimp only;rw[hm,E,if_neg (by simp),if_neg (by simp)]
  refine⟨fun b v A n W R G hZ m hm' h1 h2 h3 h4 h5=> ?_,fun line n A hn h=> ?_⟩
  .rw[C]
   exact ylW b v A n x W R hs G F D op _ hfo rfl hm E h4 _ rfl
  .rw[C]
   exact⟨by have:=h.code;dsimp only;rw[znk];exact Nat.add_le_add_right this 1,by have:=h.consts;dsimp only;omega,by have:=h.names;dsimp only;omega,by have:=h.jumps;dsimp only;omega,h.p0,h.p1,h.wf,h.at_⟩
structure PushB (x:ByteArray)(y:Val):Prop where
 a:Lib.hasSuffix x.data.toList [58]=false
 p:Lib.hasPrefix x.data.toList [32,32]=true
 f:yeT (ygU x)=some 1
 m:ylk x=true
 k:ygf (yda x).data.toList 0= .ok y (yda x).size
 z:checkL y=0
 n0:Lib.hasPrefix ((yda x).data.toList.drop 0) [110,105,108]=false
 n1:yeu (yda x).data.toList 0 34=false
 n2:yeu (yda x).data.toList 0 91=false
 v:ypq 8 (yda x).data.toList 0=ygf (yda x).data.toList 0
theorem ykf {N:Nat}{x:ByteArray}{k:Val}(hs:x.size<=65536)(P:PushB x k):LineLaw N x:=by
 have B:(yda x).data.toList.length=(yda x).size:=by simp
 have C:yc0 (yda x).data.toList=(k,0):=by
  unfold yc0;rw[P.v,P.k];dsimp only;rw[B,if_neg (Nat.lt_irrefl _),P.z,if_neg (fun h=>h rfl)]
 have E:((ofL ((1:Nat):Int)).1.operand !=0)=true:=by decide
 have I:ykC x=false:=by unfold ykC;rw[P.a];rfl
 have D:∀(n:Int) (A:RSt),lineL n x A=(0,{A with consts:=(yfV k A.consts).2,code:=A.code++[⟨((1:Nat):Int),((yfV k A.consts).1:Int)⟩]}):=by
  intro n A;unfold lineL;rw[if_neg (by rw[I];exact Bool.noConfusion),if_neg (by rw[P.p];exact Bool.noConfusion),P.f];dsimp only;rw[P.m,E,if_neg (by decide),if_pos rfl];have H:operL (ofL ((1:Nat):Int)).1.operand n (yda x) A=(((yfV k A.consts).1:Int),0,{A with consts:=(yfV k A.consts).2}):=by
   unfold operL;rw[if_pos (by decide),C,if_neg (fun h=>h rfl)]
  rw[H];dsimp only;rw[if_neg (fun h=>h rfl)]
 refine⟨fun b v A n W R G hZ m hm' h1 h2 h3 h4 h5=> ?_,fun line n A hn h=> ?_⟩
 .rw[D]
  exact ylX b v A n x W R hs G P.a P.p 1 _ P.f rfl P.m E ((yfV k A.consts).1:Int) {A with consts:=(yfV k A.consts).2} hZ (fun Z1 w6 hZ1 R6 G6=>ylP b v A n (yda x) w6 R6 hZ1 h1 k (ykh (yda x) w6 (by have:=yhG x;omega) G6 P.n0 P.n1 P.n2 k P.k P.z) _ _ rfl) h4 _ rfl
 .rw[D]
  obtain⟨J,F⟩:=ymo (x:=k) (l:=A.consts) (i:=(yfV k A.consts).1) (l':=(yfV k A.consts).2) rfl;exact⟨by have:=h.code;dsimp only;rw[znk];exact Nat.add_le_add_right this 1,by have:=h.consts;dsimp only;omega,by have:=h.names;dsimp only;omega,by have:=h.jumps;dsimp only;omega,h.p0,h.p1,fun y hy=>(F y hy).elim (h.wf y) (fun e=>e▸ykm P.k),h.at_⟩
theorem yla {N:Nat}(s:ByteArray)(w:World)(G:Gl Tryz.prog N w)(h:s.size<=65536)(hn:Lib.hasSuffix s.data.toList [10]=true)(hb:∀x∈textL s,yfC x=true\/∃k,PushB x k):Calls Tryz.prog 10 #[s] w (ypg w (ypV s)):=by
 unfold ypV;rw[znd (show¬65536<s.size from by omega),hn];simp only[znl,Bool.not_true];exact yk9 s w G h hn (fun x hx=>(hb x hx).elim (yhr (znf (ye0 x hx) h)) (fun⟨_,P⟩=>ykf (znf (ye0 x hx) h) P)) _ rfl _ rfl
end Go.Proofs.YtpagmlndgblhhaaGreatDoor
namespace Go.Va
open Go.Own Go.RowKit
open Go.Proofs.YtpagmlndgblhhaaGreatDoor
def ypj:ByteArray:=⟨#[32,32,112,117,115,104,32,53,10,32,32,116,105,109,101,114,10,32,32,119,97,105,116,10,32,32,114,101,116,117,114,110,10]⟩
def yjF:Img:=⟨[⟨1,0⟩,⟨17,0⟩,⟨18,0⟩,⟨25,0⟩],[ybD 5],[],0⟩
def yqV (k:Int):List Ev:=[⟨1,2,1,0,0,⟨#[]⟩,⟨#[]⟩,yag⟩,⟨2,2,2,0,0,⟨#[]⟩,⟨#[]⟩,yag⟩,⟨3,2,11,1,k,⟨#[]⟩,⟨#[]⟩,yag⟩]
theorem ynA:ypV ypj=(yjF,0,0):=by kernel_rfl
theorem yl4:textL ypj=[⟨#[32,32,112,117,115,104,32,53]⟩,⟨#[32,32,116,105,109,101,114]⟩,⟨#[32,32,119,97,105,116]⟩,⟨#[32,32,114,101,116,117,114,110]⟩]:=by kernel_rfl
theorem yl5:PushB ⟨#[32,32,112,117,115,104,32,53]⟩ (ybD 5):=⟨by kernel_rfl,by kernel_rfl,by kernel_rfl,by kernel_rfl,by kernel_rfl,by kernel_rfl,by kernel_rfl,by kernel_rfl,by kernel_rfl,by kernel_rfl⟩
theorem ykF:∀x∈textL ypj,yfC x=true\/∃k,PushB x k:=by
 rw[yl4];intro x A;simp only[List.mem_cons,List.not_mem_nil,or_false]at A;rcases A with rfl|rfl|rfl|rfl
 .exact .inr ⟨_,yl5⟩
 .exact .inl (by kernel_rfl)
 .exact .inl (by kernel_rfl)
 .exact .inl (by kernel_rfl)
theorem ynz:(yaN yjF).2.2=0:=by kernel_rfl
end Go.Va
namespace Go.Proofs.YtpagmlndgblhhaaGreatDoor
open Go.RowKit Go.Own Go.Own.MapTy Go.Va Go.Sort
open Go.Own.Cells (sz enc)
set_option linter.unusedVariables false
set_option linter.unusedSimpArgs false
theorem yez:∀x∈yjF.consts,x.wf:=by
 intro x A;rw[List.mem_singleton.1 A];simp[ybD,Val.wf_eq,Val.kind,Val.num,Val.txt,Val.list,Val.wf.wfL];decide
theorem ybO {k:Int}(h:1<=k/\k<=21):k=1\/k=2\/k=3\/k=4\/k=5\/k=6\/k=7\/k=8\/k=9\/k=10\/k=11\/k=12\/k=13\/k=14\/k=15\/k=16\/k=17\/k=18\/k=19\/k=20\/k=21:=by omega
theorem yoo (k:Int)(h:1<=k/\k<=21)(W:World)(r:Bool)(hr:hasF (evF k) 65=r):Calls Tryz.prog 73 #[k] W (fun e w'=>e= .returned (.bool r)/\w'=W):=by
 rcases ybO h with rfl|rfl|rfl|rfl|rfl|rfl|rfl|rfl|rfl|rfl|rfl|rfl|rfl|rfl|rfl|rfl|rfl|rfl|rfl|rfl|rfl
 all_goals
  have A:=zhd hr;clear hr h;go_in;go_wp2;go_ret;exact⟨by rw[<-A.o];exact congrArg (fun b=>Ending.returned (.bool b)) (by kernel_rfl),rfl⟩
theorem yon (k:Int)(h:1<=k/\k<=21)(W:World)(r:Bool)(hr:hasF (evF k) 66=r):Calls Tryz.prog 74 #[k] W (fun e w'=>e= .returned (.bool r)/\w'=W):=by
 rcases ybO h with rfl|rfl|rfl|rfl|rfl|rfl|rfl|rfl|rfl|rfl|rfl|rfl|rfl|rfl|rfl|rfl|rfl|rfl|rfl|rfl|rfl
 all_goals
  have A:=zhd hr;clear hr h;go_in;go_wp2;go_ret;exact⟨by rw[<-A.o];exact congrArg (fun b=>Ending.returned (.bool b)) (by kernel_rfl),rfl⟩
theorem yom (k:Int)(h:1<=k/\k<=21)(W:World)(r:Bool)(hr:hasF (evF k) 78=r):Calls Tryz.prog 75 #[k] W (fun e w'=>e= .returned (.bool r)/\w'=W):=by
 rcases ybO h with rfl|rfl|rfl|rfl|rfl|rfl|rfl|rfl|rfl|rfl|rfl|rfl|rfl|rfl|rfl|rfl|rfl|rfl|rfl|rfl|rfl
 all_goals
  have A:=zhd hr;clear hr h;go_in;go_wp2;go_ret;exact⟨by rw[<-A.o];exact congrArg (fun b=>Ending.returned (.bool b)) (by kernel_rfl),rfl⟩
theorem yol (k:Int)(h:1<=k/\k<=21)(W:World)(r:Bool)(hr:hasF (evF k) 84=r):Calls Tryz.prog 76 #[k] W (fun e w'=>e= .returned (.bool r)/\w'=W):=by
 rcases ybO h with rfl|rfl|rfl|rfl|rfl|rfl|rfl|rfl|rfl|rfl|rfl|rfl|rfl|rfl|rfl|rfl|rfl|rfl|rfl|rfl|rfl
 all_goals
  have A:=zhd hr;clear hr h;go_in;go_wp2;go_ret;exact⟨by rw[<-A.o];exact congrArg (fun b=>Ending.returned (.bool b)) (by kernel_rfl),rfl⟩
theorem yok (k:Int)(h:1<=k/\k<=21)(W:World)(r:Bool)(hr:hasF (evF k) 86=r):Calls Tryz.prog 77 #[k] W (fun e w'=>e= .returned (.bool r)/\w'=W):=by
 rcases ybO h with rfl|rfl|rfl|rfl|rfl|rfl|rfl|rfl|rfl|rfl|rfl|rfl|rfl|rfl|rfl|rfl|rfl|rfl|rfl|rfl|rfl
 all_goals
  have A:=zhd hr;clear hr h;go_in;go_wp2;go_ret;exact⟨by rw[<-A.o];exact congrArg (fun b=>Ending.returned (.bool b)) (by kernel_rfl),rfl⟩
theorem ylF (k:Int)(h:¬(1<=k/\k<=21))(W:World):Calls Tryz.prog 72 #[k] W (fun e w'=>e= .returned (.string ⟨#[]⟩)/\Below W W w'):=by
 by_cases h1:k<1
 .have B:decide (k<1)=true:=zno h1
  clear h;go_in;go_wp2;go_ret;exact⟨rfl,zal⟩
 .have A:21<k:=by omega
  have B:decide (k<1)=false:=znd h1;have C:decide (21<k)=true:=zno A;clear h;go_in;go_wp2;go_ret;exact⟨rfl,zal⟩
theorem yj9 (k:Int)(h:1<=k/\k<=21)(W:World):Calls Tryz.prog 72 #[k] W (fun e w'=>∃s:ByteArray,e= .returned (.string s)/\Hid (s.size≠0/\Below W W w')):=by
 rcases ybO h with rfl|rfl|rfl|rfl|rfl|rfl|rfl|rfl|rfl|rfl|rfl|rfl|rfl|rfl|rfl|rfl|rfl|rfl|rfl|rfl|rfl
 all_goals
  clear h;go_in;go_wp2;go_ret;exact⟨_,rfl,zhd ⟨by decide,zal⟩⟩
theorem yk6 (a b:Bool):a=true\/(a=false/\b=true)\/(a=false/\b=false):=by cases a<;>cases b<;>simp
theorem yhp (id t k a b:Int)(nm tx:ByteArray)(vk vn:Int)(vs:ByteArray)(la:Option Addr)(ln lc:Nat)(x:Val)(F:Nat->Prop)(w:World)(C:CF F w ⟨vk,vn,vs,la,ln,lc⟩ x)(hw:x.wf)(r:Int)(hr:yn3 k id t a b nm.size tx.size vk (checkL x)=r):
  Calls Tryz.prog 34 #[.agg #[id,t,k,a,b,nm,tx,vk,vn,vs,.slice la ln lc]] w (fun e w'=>e= .returned (.int .i64 r)/\Below w w w'):=by
 obtain⟨P,G⟩:∃P,P=w.alloc (.cells #[id,t,k,a,b,nm,tx,vk,vn,vs,.slice la ln lc] 40):=⟨_,rfl⟩;have B0:=zba G;have n:=zha G;have r2:=zca n 2 rfl;have lr:w.heap.size<P.heap.size:=zlt n;have i:=zhd (fun W (B:Below w w W)=>yja x vk vn vs la ln lc F W (C.keep (S:=fun _=>False) (zkb B) (fun _ _ f=>f)) hw);obtain⟨cl,Q⟩:∃cl,checkL x=cl:=⟨_,rfl⟩;rw[Q]at hr i;have j:=zh2 B0 n;clear B0 n C hw Q;unfold yn3 at hr;by_cases hk:1<=k/\k<=21
 .obtain⟨e1,e2,e3⟩:=yfg hk
  rw[e1]at hr;dsimp only at hr;have NY:=zhd (yj9 k hk P);have HA:=zhd (fun W=>yoo k hk W _ rfl);have Aa:=zhd (fun W=>yon k hk W _ rfl);have HN:=zhd (fun W=>yom k hk W _ rfl);have HT:=zhd (fun W=>yol k hk W _ rfl);have HV:=zhd (fun W=>yok k hk W _ rfl);generalize hasF (evF k) 65=hA at*;generalize hasF (evF k) 66=hBb at*;generalize hasF (evF k) 78=hN at*;generalize hasF (evF k) 84=hT at*;generalize hasF (evF k) 86=hV at*;have c:=zhd hr;clear e1 e2 e3 hk hr;go_in;go_wp2_with fail;rw[<-G];clear G;refine NY.o.mono ?_;rintro e s ⟨sn,rfl,H5⟩;have H:=H5.o.2;have Ac:sn.toList.isEmpty=false:=by rw[ybS];exact znd H5.o.1
  have A:=(H.block w lr).trans j.o.2;have E:=zhd (j.o.1.trans (H.mono j.o.1.size));have q0:=zca A 0 rfl;have q1:=zca A 1 rfl;have q3:=zca A 3 rfl;have q4:=zca A 4 rfl;have q5:=zca A 5 rfl;have q6:=zca A 6 rfl;have q7:=zca A 7 rfl;have q8:=zca A 8 rfl;have q9:=zca A 9 rfl;have Ab:=zca A 10 rfl;have l5:w<s.heap.size:=zlt A;clear A H r2 lr;by_cases hbad:id<1\/1048576<id\/t<0\/4611686018427387903<t\/a<0\/b<0
  .have D:=zhd (show(1:Int)=r from by
    have h:=c.o;by_cases g:id<1\/1048576<id\/t<0\/4611686018427387903<t
    .rw[if_pos g]at h;exact h
    .rw[if_neg g,if_pos (by omega)]at h;exact h)
   by_cases X:id<1
   .have d1:decide (id<1)=true:=zno X
    go_wp2_with fail
    all_goals
     go_ret;exact⟨by rw[<-D.o];rfl,E.o⟩
   .have d1:decide (id<1)=false:=znd X
    by_cases V:1048576<id
    .have d2:decide (1048576<id)=true:=zno V
     go_wp2_with fail
     all_goals
      go_ret;exact⟨by rw[<-D.o];rfl,E.o⟩
    .have d2:decide (1048576<id)=false:=znd V
     by_cases U:t<0
     .have y:decide (t<0)=true:=zno U
      go_wp2_with fail
      all_goals
       go_ret;exact⟨by rw[<-D.o];rfl,E.o⟩
     .have y:decide (t<0)=false:=znd U
      by_cases T:4611686018427387903<t
      .have v:decide (4611686018427387903<t)=true:=zno T
       go_wp2_with fail
       all_goals
        go_ret;exact⟨by rw[<-D.o];rfl,E.o⟩
      .have v:decide (4611686018427387903<t)=false:=znd T
       by_cases I:a<0
       .have N:decide (a<0)=true:=zno I
        go_wp2_with fail
        all_goals
         go_ret;exact⟨by rw[<-D.o];rfl,E.o⟩
       .have N:decide (a<0)=false:=znd I
        have J:b<0:=by omega
        have Y:decide (b<0)=true:=zno J;go_wp2_with fail
        all_goals
         go_ret;exact⟨by rw[<-D.o];rfl,E.o⟩
  .have X:¬id<1:=by omega
   have V:¬1048576<id:=by omega
   have U:¬t<0:=by omega
   have T:¬4611686018427387903<t:=by omega
   have I:¬a<0:=by omega
   have J:¬b<0:=by omega
   have d1:decide (id<1)=false:=znd X;have d2:decide (1048576<id)=false:=znd V;have y:decide (t<0)=false:=znd U;have v:decide (4611686018427387903<t)=false:=znd T;have N:decide (a<0)=false:=znd I;have Y:decide (b<0)=false:=znd J;have Z:=zhd (show(if(hA=false/\a≠0)\/(hBb=false/\b≠0)then 1 else if 64<nm.size\/128<tx.size then 2 else if(hN=false/\nm.size≠0)\/(hT=false/\tx.size≠0)then 8 else if hV=false/\vk≠0 then 8 else cl)=r from by
    have h:=c.o;rw[if_neg (by omega)]at h;by_cases g:(hA=false/\a≠0)\/(hBb=false/\b≠0)
    .rw[if_pos (.inr (.inr g))]at h;rw[if_pos g];exact h
    .rw[if_neg (fun e=>e.elim I (fun e=>e.elim J g))]at h;rw[if_neg g];exact h)
   clear hbad;go_upto_region 6 with(fail);clear X V U T I J d1 d2 y v N Y;go_cut [56] (fun v56 wx=>v56= .bool (decide ((hA=false/\a≠0)\/(hBb=false/\b≠0)))/\wx=s)
   case first=>
    have m:(a !=0)=decide (a≠0):=by by_cases h:a=0<;>simp[h]
    have l:(b !=0)=decide (b≠0):=by by_cases h:b=0<;>simp[h]
    have d:decide ((hA=false/\a≠0)\/(hBb=false/\b≠0))=((!hA&&(a !=0))||(!hBb&&(b !=0))):=by
     rw[m,l];cases hA<;>cases hBb<;>simp
    obtain⟨q,M⟩:∃z,(a !=0)=z:=⟨_,rfl⟩;obtain⟨p,L⟩:∃z,(b !=0)=z:=⟨_,rfl⟩;rw[M,L]at d;have O:=zhd d;clear d m l;rcases yk6 hA q with rfl|⟨rfl,rfl⟩|⟨rfl,rfl⟩
    rotate_left 1
    .go_wp2_with fail
     refine(HA.o _).mono ?_;rintro e K ⟨rfl,hw⟩;subst hw;go_wp2_with fail;go_meet
     case rel=>exact⟨by rw[O.o];rfl,rfl⟩
    all_goals
     rcases yk6 hBb p with rfl|⟨rfl,rfl⟩|⟨rfl,rfl⟩
     all_goals
      go_wp2_with fail;refine(HA.o _).mono ?_;rintro e K ⟨rfl,hw⟩;subst hw;go_wp2_with fail;refine(Aa.o _).mono ?_;rintro e K ⟨rfl,hw⟩;subst hw;go_wp2_with fail;go_meet
      case rel=>exact⟨by rw[O.o];rfl,rfl⟩
   case rest=>
    obtain⟨rfl,rfl⟩:=hcut;cases hd:decide ((hA=false/\a≠0)\/(hBb=false/\b≠0))with
    |true=>
     have D:=zhd (show(1:Int)=r from by
      have h:=Z.o;rw[if_pos (znx hd)]at h;exact h)
     go_wp2_with fail
     all_goals
      go_ret;exact⟨by rw[<-D.o];rfl,E.o⟩
    |false=>
     have D:=zhd (show(if 64<nm.size\/128<tx.size then 2 else if(hN=false/\nm.size≠0)\/(hT=false/\tx.size≠0)then 8 else if hV=false/\vk≠0 then 8 else cl)=r from by
      have h:=Z.o;rw[if_neg (zny hd)]at h;exact h)
     by_cases I:64<nm.size
     .have D:=zhd (show(2:Int)=r from by have h:=D.o;rw[if_pos (.inl I)]at h;exact h)
      have N:decide ((64:Int)<(nm.size:Int))=true:=zno (by omega);go_wp2_with fail
      all_goals
       go_ret;exact⟨by rw[<-D.o];rfl,E.o⟩
     .have N:decide ((64:Int)<(nm.size:Int))=false:=znd (by omega)
      by_cases J:128<tx.size
      .have D:=zhd (show(2:Int)=r from by have h:=D.o;rw[if_pos (.inr J)]at h;exact h)
       have Y:decide ((128:Int)<(tx.size:Int))=true:=zno (by omega);go_wp2_with fail
       all_goals
        go_ret;exact⟨by rw[<-D.o];rfl,E.o⟩
      .have Y:decide ((128:Int)<(tx.size:Int))=false:=znd (by omega)
       have D:=zhd (show(if(hN=false/\nm.size≠0)\/(hT=false/\tx.size≠0)\/(hV=false/\vk≠0)then 8 else cl)=r from by
        have h:=D.o;rw[if_neg (fun h=>h.elim I J)]at h;by_cases g:(hN=false/\nm.size≠0)\/(hT=false/\tx.size≠0)
        .rw[if_pos g]at h;rw[if_pos (g.elim .inl (fun g=>.inr (.inl g)))];exact h
        .rw[if_neg g]at h
         by_cases g2:hV=false/\vk≠0
         .rw[if_pos g2]at h;rw[if_pos (.inr (.inr g2))];exact h
         .rw[if_neg g2]at h;rw[if_neg (fun e=>e.elim (fun e=>g (.inl e)) (fun e=>e.elim (fun e=>g (.inr e)) g2))];exact h)
       go_upto_region 10 with(fail);clear N Y I J hd;go_cut [95] (fun v95 wx=>v95= .bool (decide ((hN=false/\nm.size≠0)\/(hT=false/\tx.size≠0)\/(hV=false/\vk≠0)))/\wx=wc)
       case first=>
        have d:decide ((hN=false/\nm.size≠0)\/(hT=false/\tx.size≠0)\/(hV=false/\vk≠0))=((!hN&& !nm.toList.isEmpty)||((!hT&& !tx.toList.isEmpty)||(!hV&&(vk !=0)))):=by
         rw[ybS,ybS];by_cases m:nm.size=0<;>by_cases l:tx.size=0<;>by_cases hc:vk=0<;>cases hN<;>cases hT<;>cases hV<;>simp[m,l,hc]
        obtain⟨q,M⟩:∃z,nm.toList.isEmpty=z:=⟨_,rfl⟩;obtain⟨p,L⟩:∃z,tx.toList.isEmpty=z:=⟨_,rfl⟩;obtain⟨zc,u⟩:∃z,(vk !=0)=z:=⟨_,rfl⟩;rw[M,L,u]at d;have O:=zhd d;clear d;rcases yk6 hN q with rfl|⟨rfl,rfl⟩|⟨rfl,rfl⟩
        rotate_left 2
        .go_wp2_with fail
         refine(HN.o _).mono ?_;rintro e K ⟨rfl,hw⟩;subst hw;go_wp2_with fail;go_meet
         case rel=>exact⟨by rw[O.o];rfl,rfl⟩
        all_goals
         rcases yk6 hT p with rfl|⟨rfl,rfl⟩|⟨rfl,rfl⟩
         rotate_left 2
         .go_wp2_with fail
          refine(HN.o _).mono ?_;rintro e K ⟨rfl,hw⟩;subst hw;go_wp2_with fail;refine(HT.o _).mono ?_;rintro e K ⟨rfl,hw⟩;subst hw;go_wp2_with fail;go_meet
          case rel=>exact⟨by rw[O.o];rfl,rfl⟩
         all_goals
          rcases yk6 hV zc with rfl|⟨rfl,rfl⟩|⟨rfl,rfl⟩
          all_goals
           go_wp2_with fail;refine(HN.o _).mono ?_;rintro e K ⟨rfl,hw⟩;subst hw;go_wp2_with fail;refine(HT.o _).mono ?_;rintro e K ⟨rfl,hw⟩;subst hw;go_wp2_with fail;refine(HV.o _).mono ?_;rintro e K ⟨rfl,hw⟩;subst hw;go_wp2_with fail;go_meet
           case rel=>exact⟨by rw[O.o];rfl,rfl⟩
       case rest=>
        obtain⟨rfl,rfl⟩:=hcut;cases hd2:decide ((hN=false/\nm.size≠0)\/(hT=false/\tx.size≠0)\/(hV=false/\vk≠0))with
        |true=>
         have D:=zhd (show(8:Int)=r from by
          have h:=D.o;rw[if_pos (znx hd2)]at h;exact h)
         go_wp2_with fail
         all_goals
          go_ret;exact⟨by rw[<-D.o];rfl,E.o⟩
        |false=>
         have D:=zhd (show cl=r from by
          have h:=D.o;rw[if_neg (zny hd2)]at h;exact h)
         have CH:=zhd (i.o _ E.o);go_wp2_with fail;refine CH.o.mono ?_;rintro e wv ⟨nv,rfl,R⟩;have E:=zhd (E.o.trans (R.mono E.o.size));clear R;go_wp2_with fail
         all_goals
          go_ret;exact⟨by rw[<-D.o];rfl,E.o⟩
 .have D:=zhd (show(9:Int)=r by rw[(ydk hk).1]at hr;exact hr)
  have NO:=zhd (ylF k hk P);clear hr hk;go_in;go_wp2_with fail;rw[<-G];clear G;refine NO.o.mono ?_;rintro e s ⟨rfl,H⟩;have E:=zhd (j.o.1.trans (H.mono j.o.1.size));clear H;go_wp2_with fail
  all_goals
   go_ret;exact⟨by rw[<-D.o];rfl,E.o⟩
end Go.Proofs.YtpagmlndgblhhaaGreatDoor
namespace Go.Va
open Go.Own Go.RowKit
def yfp (l:List Ev):Prop:=∀(i:Nat) (e:Ev),l[i]? =some e->yaf e=0/\yaH e.kind=true/\(e.kind=1↔i=0)
end Go.Va
namespace Go.Proofs.YtpagmlndgblhhaaGreatDoor
open Go.RowKit Go.Own Go.Own.MapTy Go.Va Go.Sort
open Go.Own.Cells (sz enc)
set_option linter.unusedVariables false
theorem yqi {W:World}(id t k a bb:Int)(nm tx:ByteArray)(x:Val)(vk vn:Int)(vs:ByteArray)(la:Option Addr)(ln lc:Nat)(F:Nat->Prop)(C:CF F W ⟨vk,vn,vs,la,ln,lc⟩ x)(hw:x.wf)(r:Int)(hr:yaf ⟨id,t,k,a,bb,nm,tx,x⟩=r):
  Calls Tryz.prog 34 #[.agg #[id,t,k,a,bb,nm,tx,vk,vn,vs,.slice la ln lc]] W (fun e w'=>e= .returned (.int .i64 r)/\Below W W w'):=by
 have A:vk=x.kind:=C.kind;rw[ybq]at hr;dsimp only at hr;rw[<-A]at hr;exact yhp id t k a bb nm tx vk vn vs la ln lc x F W C hw r hr
def yo6 (W:World)(l:List Ev)(e:Ending)(w':World):Prop:=∃r:Bool,e= .returned (.bool r)/\Hid ((r=true->yfp l/\l≠[])/\Below W W w')
end Go.Proofs.YtpagmlndgblhhaaGreatDoor
namespace Go.Proofs.YtpagmlndgblhhaaGreatDoor
open Go.ChangeShapes Go.WideShapes Go.Deep Go.RowKit Go.Own Go.Va
open Go.Own.Cells (sz enc)
section
variable{H:Type} {tok:TypeId×Value->H} {w:World} {base:Nat} {spare:Nat->Bool} {held:Bool}
theorem yiu {α β:Type}{R:α->β->Prop}:∀(ys:List α),(∀y∈ys,∃v,R y v)->∃l:List β,ys.length=l.length/\∀(i:Nat) (c:α) (x:β),ys[i]? =some c->l[i]? =some x->R c x
 |[],_=>⟨[],rfl,fun i c x h=>by simp at h⟩
 |y::r,h=>by
  obtain⟨v,hv⟩:=h y (zmf ..);obtain⟨l,B,A⟩:=yiu r (fun z hz=>h z (zme _ hz));refine⟨v::l,by simp[B],fun i c x hc hx=> ?_⟩;cases i with
  |zero=>
   simp at hc hx;subst hc hx;exact hv
  |succ i=>exact A i c x (by simpa using hc) (by simpa using hx)
theorem ymc {cs:List Value}(h:cs.length=11):∃a b c d e f g h i j k,cs=[a,b,c,d,e,f,g,h,i,j,k]:=by
 match cs,h with
 |[a,b,c,d,e,f,g,h,i,j,k],_=>exact⟨a,b,c,d,e,f,g,h,i,j,k,rfl⟩
theorem yqy:Tryz.prog.cellsOf 40=11:=by kernel_rfl
theorem yjf (fuel:Nat)(cs:List Value)(x:DataW H×List MemPlace)(hl:cs.length=11)(h:DataW.trod tok Tryz.prog w base spare held fuel 40 cs=some x):∃y:EC,cs=enc y/\∃e:Ev,EvF (fun j=>j<w) w y e/\e.v.all B64/\ -9223372036854775808<=e.time/\e.time<=9223372036854775807:=by
 obtain⟨l,n,rfl,rfl,_,C,A⟩:=DataW.trod_struct Tryz.underlying40 h;obtain⟨c0,c1,c2,c3,t,s,r,q,p,o,D,rfl⟩:=ymc hl
 match l,C with
 |[x0,x1,x2,x3,x4,x5,x6,x7],_=>
  have Z:=A 0 _ rfl;have Y:=A 1 _ rfl;have X:=A 2 _ rfl;have W:=A 3 _ rfl;have V:=A 4 _ rfl;have U:=A 5 _ rfl;have T:=A 6 _ rfl;have S:=A 7 _ rfl;simp[ykB,yox,ynn,ynm]at Z Y X W V U T S;obtain⟨R,i,_,_⟩:=DataW.trod_int Tryz.underlying3 Z;obtain⟨Q,g,_,k⟩:=DataW.trod_int Tryz.underlying2 Y;obtain⟨P,f,_,_⟩:=DataW.trod_int Tryz.underlying3 X;obtain⟨O,d,_,_⟩:=DataW.trod_int Tryz.underlying2 W;obtain⟨N,c,_,_⟩:=DataW.trod_int Tryz.underlying2 V;obtain⟨M,b,_,_⟩:=DataW.trod_string Tryz.underlying9 U;obtain⟨L,a,_,_⟩:=DataW.trod_string Tryz.underlying9 T;obtain⟨y,B,v,hv,m⟩:=yii n _ _ rfl S;simp at i g f d c b a;subst i g f d c b a;obtain⟨I,F,E,K,G,J⟩:=y;have B:[q,p,o,D]=[.int .i64 I,.int .i64 F,.string E,.slice K G J]:=B;simp only[List.cons.injEq,and_true]at B;obtain⟨rfl,rfl,rfl,rfl⟩:=B;exact⟨⟨R,Q,P,O,N,M,L,⟨I,F,E,K,G,J⟩⟩,rfl,⟨R,Q,P,O,N,M,L,v⟩,⟨rfl,rfl,rfl,rfl,rfl,rfl,rfl,hv⟩,m,(ykt k).1,(ykt k).2⟩
theorem yee {a:Option Addr}{len cap:Nat}{d:DataW H}{p:List MemPlace}(h:DataW.Trod tok Tryz.prog w base spare held 22 (.slice a len cap) d p):∃l:List Ev,XRd (fun j=>j<w) w (.slice a len cap) l/\∀e∈l,e.v.all B64/\ -9223372036854775808<=e.time/\e.time<=9223372036854775807:=by
 obtain⟨fuel,L⟩:=h;obtain⟨M,D,I,A,B,J,K⟩:=yed (α:=EC) (Q:=fun y=>∃e:Ev,EvF (fun j=>j<w) w y e/\e.v.all B64/\ -9223372036854775808<=e.time/\e.time<=9223372036854775807) Tryz.underlying22 yqy (by decide) ⟨0,0,0,0,0,.empty,.empty,⟨0,0,.empty,none,0,0⟩⟩ (fun m _ cs x hcl ht=>yjf m cs x hcl ht) L;simp[Value.cells]at A;obtain⟨rfl,rfl,rfl⟩:=A;obtain⟨l,G,F⟩:=yiu (R:=fun(y:EC) (e:Ev)=>EvF (fun j=>j<w) w y e/\e.v.all B64/\ -9223372036854775808<=e.time/\e.time<=9223372036854775807) B K;refine⟨l,⟨B,J,G,fun i c x hc hx=>(F i c x hc hx).1⟩,fun e A=> ?_⟩;obtain⟨i,E⟩:=List.mem_iff_getElem?.1 A;have C:i<B.length:=by rw[G];exact(zge E).1
 exact(F i _ e (List.getElem?_eq_getElem C) E).2
end
end Go.Proofs.YtpagmlndgblhhaaGreatDoor
namespace Go.Proofs.YtpagmlndgblhhaaGreatDoor
open Go.RowKit Go.Own Go.Own.MapTy Go.Va Go.Sort
open Go.Own.Cells (sz enc)
structure SmF (p:Img)(l:List Ev):Prop where
 code:p.code.length<=40
 len:l.length<=20
 consts:∀x∈p.consts,x.all (fun _ _ s=>s.size<=1100)
 evs:∀e∈l,e.v.all (fun _ _ s=>s.size<=1100)
def yo2 (p:Img)(l:List Ev)(w:World)(e:Ending)(w':World):Prop:=∃r:Bool,e= .returned (.bool r)/\Hid ((r=true->SmF p l)/\Below w w w')
theorem yh4 {α:Type}{P:α->Prop}{l:List α}{i:Nat}{x:α}(h:∀y∈l.take i,P y)(hx:l[i]? =some x)(hp:P x):∀y∈l.take (i+1),P y:=fun y A=>by
 rw[List.take_add_one,hx]at A;rcases List.mem_append.1 A with A|A
 .exact h y A
 .simp at A
  rw[A];exact hp
set_option linter.unusedVariables false
set_option linter.unusedSimpArgs false
theorem BoxI.all5 {w:World}{b:Nat}{i:IC}(h:BoxI w b i):w.cell? ⟨b,0,none⟩=some (.slice i.ca i.cn i.cc)/\w.cell? ⟨b,1,none⟩=some (.slice i.ka i.kn i.kc)/\w.cell? ⟨b,2,none⟩=some (.slice i.na i.nn i.nc)/\w.cell? ⟨b,3,none⟩=some (.int .i64 i.pl)/\b<w:=⟨h.c0,h.c1,h.c2,h.c3,h.lt⟩
structure LwR (p:Img)(fa:Fa)(N0 rb b mb:Nat)(v:MV)(r:RP)(w:World):Prop where
 rx:RPX TR (fun j=>N0<=j) w rb b mb v p r
 own:∀j,RO rb b mb v j->N0<=j
 st:St p fa r.m
 nx:r.next<=r.m.made.length
end Go.Proofs.YtpagmlndgblhhaaGreatDoor
namespace Go.Va
open Go.Own Go.RowKit
open Go.Proofs.YtpagmlndgblhhaaGreatDoor
def Rowy (l:List Ev):Prop:=l.length<=3000000/\∀e∈l,e.v.wf/\szV e.v<=1073741824
theorem yeE (P:Prop):∃r:Bool,r=true↔P:=by
 by_cases h:P
 .exact⟨true,⟨fun _=>h,fun _=>rfl⟩⟩
 .exact⟨false,⟨fun e=>(by cases e),fun e=>absurd e h⟩⟩
def BegP (a b:List Ev):Prop:=∃k,b.map yap=a.map yap++k
theorem BegP.ce {a b:List Ev}:BegP (a.map yam) (b.map yam)↔BegP a b:=by
 unfold BegP;rw[yir,yir]
theorem BegP.ce1 {a b:List Ev}:BegP (a.map yam) b↔BegP a b:=by
 unfold BegP;rw[yir]
end Go.Va
namespace Go.Proofs.YtpagmlndgblhhaaGreatDoor
open Go.RowKit Go.Own Go.Own.MapTy Go.Va Go.Sort
open Go.Own.Cells (sz enc)
set_option linter.unusedVariables false
set_option linter.unusedSimpArgs false
theorem ydE {W w:World}{v:Value}{l:List Ev}(H:XRow (fun g=>W<=g/\¬v.ownBlock=some g) w 40 v l/\(∀g,v.ownBlock=some g->W.heap.size<=g)/\Below W W w):∃a c,v= .slice a l.length c/\XRd (fun q=>q<w) w (.slice a l.length c) l:=by
 obtain⟨a,c,rfl⟩:=H.1.slice;exact⟨a,c,rfl,H.1.rd (fun q _ h=>h) (fun q hq=>H.1.lt hq)⟩
theorem ycD {N:Nat}(F:Nat->Prop)(W:World)(G:Gl Tryz.prog N W)(i:IC)(p:Img)(H:IAt F W i p)(hw:∀x∈p.consts,x.wf)(fa:Fa)(at_:Int)(hck:yaN p=(fa,at_,0))
  (ea:Option Addr)(en ec:Nat)(l:List Ev)(E:XRd (fun j=>j<W) W (.slice ea en ec) l)(hr:Rowy l)(ho:(yau l).length<=30)(q:Int)(hq0:yau l=[]->q=6)(hq1:yau l≠[]->BegP (yaT l) (yaw (yac p) ((yau l).map yam))->q=0)(hq2:yau l≠[]->¬BegP (yaT l) (yaw (yac p) ((yau l).map yam))->q=150):
  Calls Tryz.prog 41 #[.agg #[.slice i.ca i.cn i.cc,.slice i.ka i.kn i.kc,.slice i.na i.nn i.nc,i.pl],.slice ea en ec] W (fun e w'=>e= .returned (.int .i64 q)/\Below W W w'):=by
 obtain⟨V,I⟩:∃V,V=W.alloc (.cells #[.slice i.ca i.cn i.cc,.slice i.ka i.kn i.kc,.slice i.na i.nn i.nc,i.pl] 28):=⟨_,rfl⟩;have t:=zba I;have y:BoxI V W.heap.size i:=by rw[I];exact znb _ _
 have OU:=zhd (ycz V ea en ec l (E.below t) (fun e h=>(hr.2 e h).2) (by have:=hr.1;omega));have B:=zh8 t y E hr ho hq0 hq1 hq2;have Y:=zh4 G H hw hck;clear t y E hr ho hq0 hq1 hq2 G H hw hck;go_in;go_upto_region 1 with(fail);rw[<-I];clear I;go_wp2_with fail;refine OU.o.mono ?_;rintro e w1 ⟨v1,rfl,Z⟩;obtain⟨a1,c1,rfl,m⟩:=ydE Z.o;have P:((yau l).map yam).length=(yau l).length:=zmd ..;obtain⟨X,L⟩:∃n,(yau l).length=n:=⟨_,rfl⟩;rw[P,L]at m|-;have A:=zh4 (B.o.1.trans (Z.o.2.2.mono B.o.1.size)) (B.o.2.1.below Z.o.2.2) m L;clear OU Z m P L;obtain⟨q0,q1,q2,q3,ql⟩:=A.o.2.1.all5;by_cases hz:X=0
 .have u:((X:Int)==0)=true:=by rw[beq_iff_eq];omega
  have S:=zhd (B.o.2.2.2.2.2.1 (List.length_eq_zero_iff.1 (A.o.2.2.2.trans hz)));go_wp2;go_ret;exact⟨by rw[S.o];rfl,A.o.1⟩
 .have u:((X:Int)==0)=false:=by rw[zna];omega
  have z:=zhd (ye4 _ w1 (Y.o.1.below A.o.1) i p (Y.o.2.1.below A.o.1) Y.o.2.2.1 _ Y.o.2.2.2 a1 X c1 ((yau l).map yam) A.o.2.2.1 (fun e he=>by
   obtain⟨f,hf,rfl⟩:=List.mem_map.1 he;exact ya9 _ (B.o.2.2.2.1.2 f (List.mem_filter.1 hf).1).1) (by rw[zmd];exact B.o.2.2.2.2.1))
  go_wp2_with fail;refine z.o.mono ?_;rintro e b (⟨h,_⟩|⟨_,v2,rfl,g⟩)
  .exact absurd rfl h
  obtain⟨all,C⟩:∃all,yaw (yac p) ((yau l).map yam)=all:=⟨_,rfl⟩;have R:=g.o.1;rw[C]at R;obtain⟨d,O⟩:∃n,all.length=n:=⟨_,rfl⟩;obtain⟨v,c2,rfl⟩:∃a c,v2= .slice a d c:=by rw[<-O];exact R.slice
  have E2:XRd (fun q=>q<b) b (.slice v d c2) all:=R.rd (fun q _ h=>h) (fun q hq=>R.lt hq);have s:=A.o.1.trans (g.o.2.2.mono A.o.1.size);have MD:=zhd (ycA b ea en ec l (B.o.2.2.1.below s) (fun e h=>(B.o.2.2.2.1.2 e h).2) (by have:=B.o.2.2.2.1.1;omega));have D:=zh3 s E2 C;clear z g R E2 s C O q0 q1 q2 q3 ql u;go_wp2_with fail;refine MD.o.mono ?_;rintro e w3 ⟨v3,rfl,U⟩;obtain⟨a3,c3,rfl,k⟩:=ydE U.o;obtain⟨n3,M⟩:∃n,((yaT l).map yam).length=n:=⟨_,rfl⟩;rw[M]at k|-;obtain⟨r,hr⟩:=yeE (BegP ((yaT l).map yam) all);have BG:=zhd (ybP w3 a3 n3 c3 _ k v d c2 all ((D.o.2.1.below U.o.2.2).mono (fun q h _=>znj h U.o.2.2.size)) (by rw[zmd];have:=List.length_filter_le (fun e:Ev=>ybd e.kind) l;have:=B.o.2.2.2.1.1;exact znf ‹_› (by omega)) r hr);have K:=zh2 (D.o.1.trans (U.o.2.2.mono D.o.1.size)) hr;clear MD U k hr M;go_wp2_with fail;refine BG.o.mono ?_;rintro e w4 ⟨rfl,Q⟩;have T:=zhd (K.o.1.trans (Q.mono K.o.1.size));have J:yau l≠[]:=fun h=>hz (by rw[<-A.o.2.2.2,h];rfl);clear BG Q;cases r with
  |true=>
   have S:=zhd (B.o.2.2.2.2.2.2.1 J (by rw[D.o.2.2];exact BegP.ce1.1 (K.o.2.1 rfl)));clear J;go_wp2;go_ret;exact⟨by rw[S.o];rfl,T.o⟩
  |false=>
   have S:=zhd (B.o.2.2.2.2.2.2.2 J (fun h=>by
    rw[D.o.2.2]at h;have:=K.o.2.2 (BegP.ce1.2 h);cases this))
   clear J;go_wp2;go_ret;exact⟨by rw[S.o];rfl,T.o⟩
theorem yoS {x y:List Ev}(h:x.length=y.length):BegP x y↔x.map yap=y.map yap:=by
 constructor
 .rintro⟨k,hk⟩
  have A:=congrArg List.length hk;rw[znk,zmd,zmd]at A;rw[hk,List.length_eq_zero_iff.1 (show k.length=0 by omega),List.append_nil]
 .intro h
  exact⟨[],by rw[h,List.append_nil]⟩
theorem ycT (W:World)(aa:Option Addr)(an ac:Nat)(x:List Ev)(E:XRd (fun q=>q<W) W (.slice aa an ac) x)(ba:Option Addr)(bn bc:Nat)(y:List Ev)(E':XRd (fun q=>q<W) W (.slice ba bn bc) y)(hx:Rowy x)(hy:Rowy y)(s g:Bool)(hs:s=true↔(yau x).map yap=(yau y).map yap)(hg:g=true↔BegP (yaT x) (yaT y)\/BegP (yaT y) (yaT x)):
  Calls Tryz.prog 43 #[.slice aa an ac,.slice ba bn bc] W (fun e w'=>e= .returned (.tuple #[s,g])/\Below W W w'):=by
 have OA:=zhd (ycz W aa an ac x E (fun e h=>(hx.2 e h).2) (by have:=hx.1;omega));have A:=zh6 E E' hx hy hs hg;clear E E' hx hy hs hg;go_in;go_wp2_with fail;refine OA.o.mono ?_;rintro e w1 ⟨v1,rfl,H1⟩;obtain⟨a1,c1,rfl,E1⟩:=ydE H1.o;obtain⟨r,i⟩:∃n,((yau x).map yam).length=n:=⟨_,rfl⟩;rw[i]at E1|-;have OB:=zhd (ycz w1 ba bn bc y (A.o.2.1.below H1.o.2.2) (fun e h=>(A.o.2.2.2.1.2 e h).2) (by have:=A.o.2.2.2.1.1;omega));have R:=zh3 H1.o.2.2 E1 i;clear OA H1 E1 i;go_wp2_with fail;refine OB.o.mono ?_;rintro e w2 ⟨v2,rfl,H2⟩;obtain⟨a2,c2,rfl,E2⟩:=ydE H2.o;obtain⟨n2,f⟩:∃n,((yau y).map yam).length=n:=⟨_,rfl⟩;rw[f]at E2|-;have J:=zh4 (R.o.1.trans (H2.o.2.2.mono R.o.1.size)) ((R.o.2.1.below H2.o.2.2).mono (G:=fun q=>q<w2) (fun q h _=>znj h H2.o.2.2.size)) E2 f;clear OB H2 E2 f;by_cases hn:r=n2
 .subst hn
  have n0:((r:Int)==(r:Int))=true:=beq_self_eq_true _;have t:(yau x).length=(yau y).length:=by have Z:=R.o.2.2;have a:=J.o.2.2.2;rw[zmd]at Z a;omega
  have BG:=zhd (ybP w2 a1 r c1 _ J.o.2.1 a2 r c2 _ J.o.2.2.1 (by rw[zmd];have:=List.length_filter_le (fun e:Ev=>yaH e.kind) x;have:=A.o.2.2.1.1;exact znf ‹(List.filter _ x).length<=_› (by omega)) s (by
   rw[A.o.2.2.2.2.1];show _↔BegP _ _;rw[BegP.ce,yoS t]))
  clear t;go_wp2_with fail;refine BG.o.mono ?_;rintro e w3 ⟨rfl,u⟩;have k:=zhd (J.o.1.trans (u.mono J.o.1.size));have MA:=zhd (ycA w3 aa an ac x (A.o.1.below k.o) (fun e h=>(A.o.2.2.1.2 e h).2) (by have:=A.o.2.2.1.1;omega));clear BG u;go_wp2_with fail;refine MA.o.mono ?_;rintro e w4 ⟨v4,rfl,l⟩;obtain⟨a4,c4,rfl,m⟩:=ydE l.o;obtain⟨c,M⟩:∃n,((yaT x).map yam).length=n:=⟨_,rfl⟩;rw[M]at m|-;have p:=k.o.trans (l.o.2.2.mono k.o.size);have MB:=zhd (ycA w4 ba bn bc y (A.o.2.1.below p) (fun e h=>(A.o.2.2.2.1.2 e h).2) (by have:=A.o.2.2.2.1.1;omega));have I:=zh3 p m (show c<=3000000 by rw[<-M,zmd];exact znf (List.length_filter_le _ _) A.o.2.2.1.1);clear MA l m p M;go_wp2_with fail;refine MB.o.mono ?_;rintro e Y ⟨v5,rfl,S⟩;obtain⟨a5,z,rfl,T⟩:=ydE S.o;obtain⟨b,L⟩:∃n,((yaT y).map yam).length=n:=⟨_,rfl⟩;rw[L]at T|-;have K:=(I.o.2.1.below S.o.2.2).mono (G:=fun q=>q<Y) (fun q h _=>znj h S.o.2.2.size);obtain⟨N,D⟩:=yeE (BegP ((yaT x).map yam) ((yaT y).map yam));obtain⟨O,C⟩:=yeE (BegP ((yaT y).map yam) ((yaT x).map yam))
  have d:b<=3000000:=by rw[<-L,zmd];exact znf (List.length_filter_le _ _) A.o.2.2.2.1.1
  have B5:=I.o.1.trans (S.o.2.2.mono I.o.1.size);have V:=zhd (ybP Y a4 c c4 _ K a5 b z _ T (by obtain⟨_,_,h⟩:=K.slice;cases h;have:=I.o.2.2;omega) N D);have U:=zhd (fun X (B:Below Y Y X)=>ybP X a5 b z _ ((T.below B).mono (fun q h _=>znj h B.size)) a4 c c4 _ ((K.below B).mono (fun q h _=>znj h B.size)) (by obtain⟨_,_,h⟩:=T.slice;cases h;omega) O C);have HG:=zhd (show g=(N||O) by
   rw[BegP.ce]at D C;cases hg:g with
   |true=>
    rcases A.o.2.2.2.2.2.1 hg with h|h
    .rw[D.2 h];rfl
    .rw[C.2 h];cases N<;>rfl
   |false=>
    have Z:N=false:=by
     cases h:N with
     |false=>rfl
     |true=>have:=A.o.2.2.2.2.2.2 (.inl (D.1 h));rw[hg]at this;cases this
    have a:O=false:=by
     cases h:O with
     |false=>rfl
     |true=>have:=A.o.2.2.2.2.2.2 (.inr (C.1 h));rw[hg]at this;cases this
    rw[Z,a];rfl)
  have H:=zhd B5;clear MB S T K D C d B5 L;go_wp2_with fail;refine V.o.mono ?_;rintro e w6 ⟨rfl,Q⟩;have F:=zhd Q;clear V Q;cases N with
  |true=>
   go_wp2_with fail;exact zng (v:=.tuple #[s,.bool true]) (by simp only[results,Tryz.results43];go_simp) rfl ⟨by rw[HG.o,Bool.true_or],H.o.trans (F.o.mono H.o.size)⟩
  |false=>
   go_wp2_with fail;refine(U.o _ F.o).mono ?_;rintro e w7 ⟨rfl,P⟩;have j:=zhd (H.o.trans ((F.o.trans (P.mono F.o.size)).mono H.o.size));clear U P;go_wp2_with fail;exact zng (v:=.tuple #[s,O]) (by simp only[results,Tryz.results43];go_simp) rfl ⟨by rw[HG.o,Bool.false_or],j.o⟩
 .have n0:((r:Int)==(n2:Int))=false:=by rw[zna];omega
  have HS:=zhd (show s=false by
   cases hq:s with
   |false=>rfl
   |true=>
    have Z:=congrArg List.length (A.o.2.2.2.2.1.1 hq);have a:=R.o.2.2;have h3:=J.o.2.2.2;rw[zmd]at Z a h3;rw[zmd]at Z;exact absurd (a.symm.trans (Z.trans h3)) hn)
  have MA:=zhd (ycA w2 aa an ac x (A.o.1.below J.o.1) (fun e h=>(A.o.2.2.1.2 e h).2) (by have:=A.o.2.2.1.1;omega));go_wp2_with fail;refine MA.o.mono ?_;rintro e w4 ⟨v4,rfl,l⟩;obtain⟨a4,c4,rfl,m⟩:=ydE l.o;obtain⟨c,M⟩:∃n,((yaT x).map yam).length=n:=⟨_,rfl⟩;rw[M]at m|-;have p:=J.o.1.trans (l.o.2.2.mono J.o.1.size);have MB:=zhd (ycA w4 ba bn bc y (A.o.2.1.below p) (fun e h=>(A.o.2.2.2.1.2 e h).2) (by have:=A.o.2.2.2.1.1;omega));have I:=zh3 p m (show c<=3000000 by rw[<-M,zmd];exact znf (List.length_filter_le _ _) A.o.2.2.1.1);clear MA l m p M;go_wp2_with fail;refine MB.o.mono ?_;rintro e Y ⟨v5,rfl,S⟩;obtain⟨a5,z,rfl,T⟩:=ydE S.o;obtain⟨b,L⟩:∃n,((yaT y).map yam).length=n:=⟨_,rfl⟩;rw[L]at T|-;have K:=(I.o.2.1.below S.o.2.2).mono (G:=fun q=>q<Y) (fun q h _=>znj h S.o.2.2.size);obtain⟨N,D⟩:=yeE (BegP ((yaT x).map yam) ((yaT y).map yam));obtain⟨O,C⟩:=yeE (BegP ((yaT y).map yam) ((yaT x).map yam));have d:b<=3000000:=by rw[<-L,zmd];exact znf (List.length_filter_le _ _) A.o.2.2.2.1.1
  have B5:=I.o.1.trans (S.o.2.2.mono I.o.1.size);have V:=zhd (ybP Y a4 c c4 _ K a5 b z _ T (by obtain⟨_,_,h⟩:=K.slice;cases h;have:=I.o.2.2;omega) N D);have U:=zhd (fun X (B:Below Y Y X)=>ybP X a5 b z _ ((T.below B).mono (fun q h _=>znj h B.size)) a4 c c4 _ ((K.below B).mono (fun q h _=>znj h B.size)) (by obtain⟨_,_,h⟩:=T.slice;cases h;omega) O C);have HG:=zhd (show g=(N||O) by
   rw[BegP.ce]at D C;cases hg:g with
   |true=>
    rcases A.o.2.2.2.2.2.1 hg with h|h
    .rw[D.2 h];rfl
    .rw[C.2 h];cases N<;>rfl
   |false=>
    have Z:N=false:=by
     cases h:N with
     |false=>rfl
     |true=>have:=A.o.2.2.2.2.2.2 (.inl (D.1 h));rw[hg]at this;cases this
    have a:O=false:=by
     cases h:O with
     |false=>rfl
     |true=>have:=A.o.2.2.2.2.2.2 (.inr (C.1 h));rw[hg]at this;cases this
    rw[Z,a];rfl)
  have H:=zhd B5;clear MB S T K D C d B5 L;go_wp2_with fail;refine V.o.mono ?_;rintro e w6 ⟨rfl,Q⟩;have F:=zhd Q;clear V Q;cases N with
  |true=>
   go_wp2_with fail;exact zng (v:=.tuple #[.bool false,.bool true]) (by simp only[results,Tryz.results43];go_simp) rfl ⟨by rw[HG.o,Bool.true_or,HS.o],H.o.trans (F.o.mono H.o.size)⟩
  |false=>
   go_wp2_with fail;refine(U.o _ F.o).mono ?_;rintro e w7 ⟨rfl,P⟩;have j:=zhd (H.o.trans ((F.o.trans (P.mono F.o.size)).mono H.o.size));clear U P;go_wp2_with fail;exact zng (v:=.tuple #[.bool false,O]) (by simp only[results,Tryz.results43];go_simp) rfl ⟨by rw[HG.o,Bool.false_or,HS.o],j.o⟩
theorem ygY {N:Nat}(W:World)(G:Gl Tryz.prog N W)(i:IC)(p:Img)(H:IAt (fun j=>j<W) W i p)(hw:∀x∈p.consts,x.wf)(fa:Fa)(at_:Int)(hck:yaN p=(fa,at_,0))
  (ea:Option Addr)(en ec:Nat)(l:List Ev)(E:XRd (fun j=>j<W) W (.slice ea en ec) l)(hr:Rowy l)(ho:(yau l).length<=30)(q:Int)(hq0:yau l=[]->q=6)(hq1:yau l≠[]->BegP (yaT l) (yaw (yac p) ((yau l).map yam))->q=0)(hq2:yau l≠[]->¬BegP (yaT l) (yaw (yac p) ((yau l).map yam))->q=150)
  (r:Bool)(hrr:r=((q==0)&&decide ((yaT l).length=(yaw (yac p) ((yau l).map yam)).length))):
  Calls Tryz.prog 42 #[.agg #[.slice i.ca i.cn i.cc,.slice i.ka i.kn i.kc,.slice i.na i.nn i.nc,i.pl],.slice ea en ec] W (fun e w'=>e= .returned (.bool r)/\Below W W w'):=by
 obtain⟨A,D⟩:∃A,A=W.alloc (.cells #[.slice i.ca i.cn i.cc,.slice i.ka i.kn i.kc,.slice i.na i.nn i.nc,i.pl] 28):=⟨_,rfl⟩;have K:=zba D;have v:BoxI A W.heap.size i:=by rw[D];exact znb _ _
 obtain⟨all,J⟩:∃all,yaw (yac p) ((yau l).map yam)=all:=⟨_,rfl⟩;have OU:=zhd (fun X (B:Below A A X)=>ycz X ea en ec l (E.below (K.trans (B.mono K.size))) (fun e h=>(hr.2 e h).2) (by have:=hr.1;omega));have ST:=zhd (fun X (B:Below A A X) a c n (hn:(yau l).length=n) (Z:XRd (fun q=>q<X) X (.slice a n c) ((yau l).map yam))=>ye4 _ X (G.below (K.trans (B.mono K.size))) i p (H.below (K.trans (B.mono K.size))) hw _ hck a n c ((yau l).map yam) Z (fun e he=>by
   obtain⟨f,hf,rfl⟩:=List.mem_map.1 he;exact ya9 _ (hr.2 f (List.mem_filter.1 hf).1).1) (by rw[zmd];exact ho))
 have FT:=zhd (fun X (B:Below W W X)=>ycD _ X (G.below B) i p (H.below B) hw fa at_ hck ea en ec l ((E.below B).mono (fun q h _=>znj h B.size)) hr ho q hq0 hq1 hq2);have MD:=zhd (fun X (B:Below W W X)=>ycA X ea en ec l (E.below B) (fun e h=>(hr.2 e h).2) (by have:=hr.1;omega));have P:=zh4 K v hrr J;obtain⟨k,g,d,b,I⟩:=v.all5;have u:Below A A A.drew:=(znv _ _).drew;clear K v E hr ho hq0 hq1 hq2 G H hw hck hrr J;go_in;go_upto_region 1 with(fail);rw[<-D];clear D;go_cut [5,6] (fun v5 v6 wx=>∃(a:Option Addr) (n c:Nat),v5= .slice a n c/\v6= .int .i64 0/\n=(yaw (yac p) ((yau l).map yam)).length/\Below A A wx/\BoxI wx W.heap.size i)
 case first=>
  go_region_law (first
   |(go_simp;go_at_call 29;refine(ST.o _ Y.o.1 _ _ _ Y.o.2.1 Y.o.2.2).mono ?_;rintro e w2 (⟨h,_⟩|⟨_,v2,rfl,z⟩);exact absurd rfl h;obtain⟨a2,L,c2,rfl⟩:=yaL z.o.1)
   |(go_simp;go_at_call 27;refine(OU.o _ (by first|exact u|exact znv _ _)).mono ?_;rintro e w1 ⟨v1,rfl,m⟩;obtain⟨a1,c1,rfl,Z⟩:=ydE m.o;have Q:Below A A w1:=(by first|exact u.trans m.o.2.2|exact m.o.2.2);obtain⟨n1,O⟩:∃n,(yau l).length=n:=⟨_,rfl⟩;rw[zmd,O]at Z|-;have Y:=zh3 Q O Z;have r0:=(Q.cell (p:=⟨W,0,none⟩) I).trans k;have r1:=(Q.cell (p:=⟨W,1,none⟩) I).trans g;have r2:=(Q.cell (p:=⟨W,2,none⟩) I).trans d;have r3:=(Q.cell (p:=⟨W,3,none⟩) I).trans b;have rl:=znj I Q.size;clear Q m Z O))
  all_goals
   go_wp2_with fail;go_meet
   case rel=>
    have B2:=Y.o.1.trans (z.o.2.2.mono Y.o.1.size);exact⟨a2,L,c2,rfl,rfl,by obtain⟨_,_,h⟩:=z.o.1.slice;cases h;rfl,B2,P.o.2.1.below B2⟩
 case rest=>
  obtain⟨a2,L,c2,rfl,rfl,R,hB,S⟩:=hcut;have Bc:=P.o.1.trans (hB.mono P.o.1.size);have U:=zh3 Bc S (show L=all.length by rw[R,P.o.2.2.2]);clear k g d b I u hB S R Bc OU ST;obtain⟨k,g,d,b,I⟩:=U.o.2.1.all5;go_wp2_with fail;refine(FT.o _ U.o.1).mono ?_;rintro e w3 ⟨rfl,T⟩;have F:=zhd (U.o.1.trans (T.mono U.o.1.size));clear T FT k g d b I;by_cases hq:q=0
  .subst hq
   have HR:=zhd (show r=decide ((yaT l).length=L) by rw[P.o.2.2.1,P.o.2.2.2,U.o.2.2];rfl);go_wp2_with fail;refine(MD.o _ F.o).mono ?_;rintro e w4 ⟨v4,rfl,y⟩;obtain⟨a4,c4,rfl,_⟩:=ydE y.o;obtain⟨s,M⟩:∃n,(yaT l).length=n:=⟨_,rfl⟩;rw[zmd,M];have V:=zhd (F.o.trans (y.o.2.2.mono F.o.size));have HN:=zhd M;clear MD y M;by_cases hn:s=L
   .have t:((s:Int)==(L:Int))=true:=by rw[beq_iff_eq];omega
    have C:=zhd (show r=true by rw[HR.o,HN.o];exact zno hn);clear hn;go_wp2;go_ret;exact⟨by rw[C.o];rfl,V.o⟩
   .have t:((s:Int)==(L:Int))=false:=by rw[zna];omega
    have C:=zhd (show r=false by rw[HR.o,HN.o];exact znd hn);clear hn;go_wp2;go_ret;exact⟨by rw[C.o];rfl,V.o⟩
  .have t:(q==0)=false:=by rw[zna];exact hq
   have C:=zhd (show r=false by rw[P.o.2.2.1,t];rfl);clear hq;go_wp2;go_ret;exact⟨by rw[C.o];rfl,F.o⟩
end Go.Proofs.YtpagmlndgblhhaaGreatDoor
namespace Go.Va
open Go.Own Go.RowKit
open Go.Proofs.YtpagmlndgblhhaaGreatDoor
set_option linter.unusedVariables false
theorem ym4 (r:RM)(c:Cm):∃t,(rmC r c).o=r.o++t:=by
 unfold rmC;cases(r.over||((c.kind==2)&&decide (c.a∈r.fired)))with
 |true=>exact⟨[],(List.append_nil _).symm⟩
 |false=>exact⟨[evOfC c],rfl⟩
theorem yhb:∀(cs:List Cm) (r:RM),∃t,(cs.foldl rmC r).o=r.o++t
 |[],r=>⟨[],(List.append_nil _).symm⟩
 |c::cs,r=>by
  obtain⟨t,h⟩:=ym4 r c;obtain⟨u,g⟩:=yhb cs (rmC r c);exact⟨t++u,by rw[List.foldl_cons,g,h,List.append_assoc]⟩
theorem ym1 (p:Img)(r:RM)(x:Ev):∃t,(rmX p r x).2.o=r.o++t:=by
 unfold rmX;cases(r.over||((x.kind==12)&&decide (x.a∈r.gone)))with
 |true=>exact⟨[],(List.append_nil _).symm⟩
 |false=>
  rw[znl];cases((yah p r.m x).1 !=0)with
  |true=>exact⟨[],(List.append_nil _).symm⟩
  |false=>
   rw[znl];obtain⟨t,h⟩:=yhb ((yah p r.m x).2.made.drop (yah p r.m x).2.taken) ⟨{(yah p r.m x).2 with taken:=(yah p r.m x).2.made.length},r.o++[x],r.gone,if x.kind=12 then x.a::r.fired else r.fired,yaG x.kind⟩;exact⟨[x]++t,by dsimp only;rw[h,List.append_assoc]⟩
theorem ykb (p:Img):∀(l:List Ev) (r:RM),∃t,(rmL p r l).2.o=r.o++t
 |[],r=>⟨[],(List.append_nil _).symm⟩
 |x::l,r=>by
  rw[rmL];obtain⟨t,h⟩:=ym1 p r x;cases((rmX p r x).1 !=0)with
  |true=>exact⟨t,h⟩
  |false=>
   obtain⟨u,g⟩:=ykb p l (rmX p r x).2;exact⟨t++u,by rw[znl,g,h,List.append_assoc]⟩
theorem ylI (p:Img)(x:Ev)(l:List Ev)(he:(rmL p (rm0 p) (x::l)).1=0):∃t,(rmL p (rm0 p) (x::l)).2.o=x::t:=by
 have B:∃t,(rmX p (rm0 p) x).1=0->(rmX p (rm0 p) x).2.o=x::t:=by
  unfold rmX;rw[show((rm0 p).over||((x.kind==12)&&decide (x.a∈(rm0 p).gone)))=false by show(false||((x.kind==12)&&decide (x.a∈([]:List Int))))=false;simp,znl];cases hz:((yah p (rm0 p).m x).1 !=0)with
  |true=>
   refine⟨[],fun h=> ?_⟩;have h:(yah p (rm0 p).m x).1=0:=h;rw[h]at hz;cases hz
  |false=>
   rw[znl];obtain⟨t,h⟩:=yhb ((yah p (rm0 p).m x).2.made.drop (yah p (rm0 p).m x).2.taken) ⟨{(yah p (rm0 p).m x).2 with taken:=(yah p (rm0 p).m x).2.made.length},(rm0 p).o++[x],(rm0 p).gone,if x.kind=12 then x.a::(rm0 p).fired else(rm0 p).fired,yaG x.kind⟩;exact⟨t,fun _=>by dsimp only;rw[h];rfl⟩
 obtain⟨t,A⟩:=B;rw[rmL]at he|-;cases hz:((rmX p (rm0 p) x).1 !=0)with
 |true=>
  rw[hz,znm]at he;rw[he]at hz;cases hz
 |false=>
  rw[znl];obtain⟨u,g⟩:=ykb p l (rmX p (rm0 p) x).2;exact⟨t++u,by rw[g,A (by simpa using hz)];rfl⟩
theorem ypy (e:Ev):yap (yap e)=yap e:=by
 unfold yap;dsimp only;rw[yaY];split
 .rename_i h;simp
 .rfl
theorem ygn (l:List Ev):(l.map yap).map yap=l.map yap:=by
 rw[List.map_map];exact List.map_congr_left (fun e _=>ypy e)
theorem ym9 {l m:List Ev}(h:l.map yap=m.map yap):(yau l).length=(yau m).length:=by
 have:=congrArg List.length (show(yau l).map yap=(yau m).map yap by rw[yc1,yc1,h]);rw[zmd,zmd]at this;exact this
theorem ymw (L:List Ev)(k:Nat):(yau L).map yap=(yau (L.take k)).map yap↔(yau (L.take k)).length=(yau L).length:=by
 have A:yau L=yau (L.take k)++yau (L.drop k):=by rw[<-ybf,List.take_append_drop]
 constructor
 .intro h
  have:=congrArg List.length h;rw[zmd,zmd]at this;exact this.symm
 .intro h
  have B:(yau (L.drop k)).length=0:=by
   have:=congrArg List.length A;rw[znk]at this;omega
  rw[A,List.length_eq_zero_iff.1 B,List.append_nil]
theorem yit (L:List Ev)(k:Nat):BegP (yaT (L.take k)) (yaT L):=⟨(yaT (L.drop k)).map yap,by rw[<-List.map_append,<-ybK,List.take_append_drop]⟩
theorem ygk {p:Img}{fa:Fa}(K:Known p fa)(P:Pk p)(hsp:fa.span<=p.code.length+1)(S:St p fa (ms0 p)){l:List Ev}(hl:yfp l)(hw:∀e∈l,e.v.wf)(hne:l≠[])(hn:l.length<=30)(he:(rmL p (rm0 p) l).1=0){L:List Ev}(hL:L=yaP 0 (rmL p (rm0 p) l).2.o)(hlen:L.length<=1048576):
  (∀k,1<=k->yau (L.take k)≠[]/\(yau (L.take k)).length<=30/\BegP (yaT (L.take k)) (yaw p ((yau (L.take k)).map yam)))/\yaw p ((yau L).map yam)=(yaT L).map yap/\yau L≠[]/\(yau L).length<=30:=by
 obtain⟨b,n,R,F,N,O⟩:=yka K P hsp l (rm0 p) ⟨[],false⟩ 0 (ry0 S) rfl rfl (fun i e hi=>by
  obtain⟨E,I,G⟩:=hl i e hi;exact⟨E,I,⟨fun h=>⟨rfl,G.1 h⟩,fun h=>G.2 h.2⟩,hw e (zmg hi)⟩) (by omega) he
 have A:L.map yap=b.list.map yap:=by rw[hL,yfM,R.o]
 have D:∀e∈L,1<=e.id/\e.id<=1048576:=fun e h=>by
  have I:L.length=(rmL p (rm0 p) l).2.o.length:=by rw[hL,yes]
  rw[hL]at h;have E:=ymF _ _ _ h;omega
 have B:(yau L).length<=30:=by
  rw[ym9 A];have:=R.bk.o;omega
 have C:∀k,1<=k->yau (L.take k)≠[]:=fun k hk h=>by
  cases l with
  |nil=>exact hne rfl
  |cons x l=>
   obtain⟨t,M⟩:=ylI p x l he;have J:=(hl 0 x rfl).2.1;rw[hL,M,yaP]at h;obtain⟨j,rfl⟩:∃j,k=j+1:=⟨k - 1,by omega⟩;rw[List.take_succ_cons]at h;unfold yau at h;rw[List.filter_cons,if_pos (show yaH ({x with id:=(0:Nat)+1,v:=yaa x.v}:Ev).kind=true from J)]at h;cases h
 refine⟨fun k hk=>⟨C k hk,?_,?_⟩,?_,?_,B⟩
 .refine znf ?_ B
  have E:yau L=yau (L.take k)++yau (L.drop k):=by rw[<-ybf,List.take_append_drop]
  rw[E,znk];omega
 .obtain⟨q,H⟩:=R.pre k
  have h:=(ydZ H (fun e he=>(R.bk.evs e (List.mem_of_mem_take he)).1) (ykn A k) (fun e he=>D e (List.mem_of_mem_take he))).1;exact⟨((NL q.fired (q.m.made.drop q.next)).map evOfC).map yap,by rw[h,List.map_append,ygn]⟩
 .have h:=(ydZ R.bk.hi (fun e he=>(R.bk.evs e he).1) A D).1
  rw[h,F];exact List.append_nil _
 .have h:=C (L.length+1) (by omega)
  rw[zmj (by omega)]at h;exact h
end Go.Va
