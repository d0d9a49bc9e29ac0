/- Parts of the proof: what the functions and the plain laws give that later parts lean on. Conditions: none beyond those that each theorem names. -/
import Derived.Test.YtpagmlndgblhhaaGreatDoorT3
set_option maxRecDepth 100000
set_option maxHeartbeats 8000000
namespace Go.Va
open Go.Own Go.RowKit
def ymq:Val:=.mk 0 0 ⟨#[]⟩ []
def yoa (V:Nat->PR)(s:List UInt8):Nat->Nat->List Val->PR
 |0,_,_=>.bad
 |f+1,k,acc=>
  if yex s k 93=true then .ok (.mk 3 0 ⟨#[]⟩ acc) (k+1)else
  if acc.length≠0/\yex s k 32=false then .bad else
  match V (if acc.length=0 then k else k+1)with
  | .ok x k2=>yoa V s f k2 (acc++[x])
  | .deep=>.deep
  | .bad=>.bad
def yp4:Option (List UInt8×Nat)->PR
 |some (t,k2)=>.ok (.mk 2 0 ⟨t.toArray⟩ []) k2
 |none=>.bad
def yoi (L:Nat->PR)(s:List UInt8)(k:Nat):PR:=
 if Lib.hasPrefix (s.drop k) [110,105,108]=true then .ok ymq (k+3)else
 if yex s k 34=true then yp4 (yj1 [] (k+1) (s.drop (k+1)))else
 if yex s k 91=true then L (k+1)else yf1 s k
def yo7:Nat->List UInt8->Nat->PR
 |0,s,k=>yoi (fun _=>.deep) s k
 |n+1,s,k=>yoi (fun j=>yoa (yo7 n s) s (s.length+1) j []) s k
end Go.Va
namespace Go.Proofs.YtpagmlndgblhhaaGreatDoor
open Go.RowKit Go.Own Go.Own.MapTy Go.Va Go.Sort
open Go.Own.Cells (sz enc)
theorem ybg (n:Int)(w:World):Calls Tryz.prog 106 #[n] w fun e w'=>e= .returned (.agg #[.int .i64 1,n,.string ⟨#[]⟩,.slice none 0 0])/\Below w w w':=by
 go_in;go_wp2_with fail;exact zng (v:=.agg #[.int .i64 1,n,.string ⟨#[]⟩,.slice none 0 0]) (by simp only[results,Tryz.results106];go_simp) rfl ⟨rfl,zal⟩
theorem yoq {b:Nat}{s:ByteArray}{k:Nat}{deep:Bool}{c:UInt8}{w:World}(H:TX w b s k deep)(hs:s.size<=4294967280)(he:yex s.data.toList k c=false):
  Calls Tryz.prog 171 #[.pointer (some ⟨b,0,none⟩),.int .u8 c.toNat] w fun e w'=>e= .returned (.bool false)/\Hid (TX w' b s k deep/\Keeps (fun j=>j=b) w w'):=
 (ykS b s k deep c w H hs).mono fun e w' ⟨h1,h2⟩=>⟨by rw[h1,he],zhd (by have:=h2.o;rw[he]at this;exact this)⟩
def Z4 (W:World)(B:Nat):Prop:=W.heap[B]? =some (.cells #[.int .i64 0,.int .i64 0,.string .empty,.slice none 0 0] 38 (0,0))
theorem Z4.c0 {W:World}{B:Nat}(h:Z4 W B):W.cell? ⟨B,0,none⟩=some (.int .i64 0):=by rw[zch h];rfl
theorem Z4.c1 {W:World}{B:Nat}(h:Z4 W B):W.cell? ⟨B,1,none⟩=some (.int .i64 0):=by rw[zch h];rfl
theorem Z4.c2 {W:World}{B:Nat}(h:Z4 W B):W.cell? ⟨B,2,none⟩=some (.string .empty):=by rw[zch h];rfl
theorem Z4.c3 {W:World}{B:Nat}(h:Z4 W B):W.cell? ⟨B,3,none⟩=some (.slice none 0 0):=by rw[zch h];rfl
theorem Z4.fr {W:World}{B:Nat}(h:Z4 W B)(o:Nat):W.frozen? ⟨B,o,none⟩=false:=zfr h o
structure VS (w:World)(N b:Nat)(s:ByteArray)(k:Nat)(deep:Bool)(W:World):Prop where
 t:TX W b s k deep
 k:Keeps (fun j=>j=b) w W
 z:Z4 W w.heap.size
 g:Gl Tryz.prog N W
 lt:w<W.heap.size
theorem VS.step {w W W':World}{N b:Nat}{s:ByteArray}{k k':Nat}{deep deep':Bool}(h:VS w N b s k deep W)(b0:b<w)(hN:N<=b)(T:TX W' b s k' deep')(K:Keeps (fun j=>j=b) W W'):VS w N b s k' deep' W':=
 ⟨T,h.k.trans K (fun _ _ e=>e),(K.block _ h.lt (by omega)).trans h.z,h.g.keep K (fun j e=>by omega),znj h.lt K.size⟩
theorem VS.fin {w W:World}{N b:Nat}{s:ByteArray}{k:Nat}{deep:Bool}(h:VS w N b s k deep W)(b0:b<w)(x0 x1 x2 x3:Value):
  TX ((((W.setCell ⟨w,0,none⟩ x0).setCell ⟨w,1,none⟩ x1).setCell ⟨w,2,none⟩ x2).setCell ⟨w,3,none⟩ x3) b s k deep/\
  Keeps (fun j=>j=b) w ((((W.setCell ⟨w,0,none⟩ x0).setCell ⟨w,1,none⟩ x1).setCell ⟨w,2,none⟩ x2).setCell ⟨w,3,none⟩ x3)/\
  Keeps (fun j=>j=w) W ((((W.setCell ⟨w,0,none⟩ x0).setCell ⟨w,1,none⟩ x1).setCell ⟨w,2,none⟩ x2).setCell ⟨w,3,none⟩ x3):=by
 have K:=((((Keeps.refl (fun j=>j=w) W).setCell (p:=⟨w,0,none⟩) (.inl rfl) x0).setCell (p:=⟨w,1,none⟩) (.inl rfl) x1).setCell (p:=⟨w,2,none⟩) (.inl rfl) x2).setCell (p:=⟨w,3,none⟩) (.inl rfl) x3;exact⟨h.t.keep K (by omega),h.k.trans K (fun j hj e=>by omega),K⟩
theorem VS.below {w W W':World}{N b:Nat}{s:ByteArray}{k:Nat}{deep:Bool}(h:VS w N b s k deep W)(b0:b<w)(hN:N<=b)(K:Below W W W'):VS w N b s k deep W':=
 h.step b0 hN (h.t.keep (S:=fun _=>False) (zkb K) (fun f=>f)) ((zkb (S:=fun _=>False) K).mono (fun _ _ f=>f.elim))
def L8 (W:World)(B:Nat)(vl:Value):Prop:=W.heap[B]? =some (.cells #[.int .i64 3,.int .i64 0,.string ⟨#[]⟩,vl] 38 (0,0))
theorem yfD:ElemOf VC Tryz.prog 25 38 56:=yb5 Tryz.underlying25 (z:=.agg #[.int .i64 0,.int .i64 0,.string .empty,.slice none 0 0]) (n:=4) (by kernel_rfl) rfl rfl
def LF (w:World)(B:Nat)(vl:Value):Nat->Prop:=fun j=>w<j/\j≠B/\vl.ownBlock≠some j
def ypw (w:World)(b:Nat)(s:ByteArray)(r:PR)(e:Ending)(w':World):Prop:=
 ∃(c:VC) (k2:Nat),k2<=s.size/\Keeps (fun j=>j=b) w w'/\match r with
  | .ok x k3=>e= .returned (.tuple #[.agg #[c.kind,c.n,c.s,.slice c.la c.ln c.lc],.bool true])/\k2=k3/\CF (fun j=>w<=j) w' c x/\TX w' b s k2 false
  | .deep=>e= .returned (.tuple #[.agg #[c.kind,c.n,c.s,.slice c.la c.ln c.lc],.bool false])/\TX w' b s k2 true
  | .bad=>e= .returned (.tuple #[.agg #[c.kind,c.n,c.s,.slice c.la c.ln c.lc],.bool false])/\TX w' b s k2 false
theorem ylY {N:Nat}
  (b:Nat)(s:ByteArray)(k:Nat)(d:Nat)(w:World)(H:TX w b s k false)(hs:s.size<=4294967280)(ha:k<=s.size)(G:Gl Tryz.prog N w)(hN:N<=b)
  (hp:Lib.hasPrefix (s.data.toList.drop k) [110,105,108]=false)(h1:yex s.data.toList k 34=false)(h2:yex s.data.toList k 91=false)(r:PR)(hr:yf1 s.data.toList k=r):
  Calls Tryz.prog 151 #[.pointer (some ⟨b,0,none⟩),d] w
   (ypw w b s r):=by
 have p:=zhd hr;clear hr;have S:b<w:=H.lt;have c0:=H.c0;have c1:=H.c1;have Ae:(k:Int)<=s.size:=by omega
 have u:=zh2 H G;clear H G;have Z:=zhd (show∀W,Calls Tryz.prog 170 #[.string (s.extract k s.size),.string ⟨#[110,105,108]⟩] W (fun e w'=>e= .returned (.bool false)/\W=w')from fun W=>(Any.strings_HasPrefix Tryz.lays99 (s.extract k s.size) ⟨#[110,105,108]⟩ W).mono fun e w' ⟨h1,h2⟩=>⟨by rw[h1,show(s.extract k s.size).data.toList=s.data.toList.drop k from by simp[ByteArray.data_extract,zmj],hp],h2.symm⟩);have Ai:=zhd hp;clear hp;go_in;go_wp2_with fail;refine yaF (by kernel_rfl) (by kernel_rfl) ?_
 repeat(go_big_quiet_step ((go_at_call 170;exact yfA (Z.o _))))
 refine wpQuiet_nil ?_;intro w1 R;have E:VS w N b s k false w1:=by
  have Y:Keeps (fun _=>False) w w1:=((Keeps.refl (fun _=>False) w).alloc _).trans (zkb R) (fun _ _ f=>f);exact⟨u.o.1.keep Y (fun f=>f),Y.mono (fun _ _ f=>f.elim),(R.block _ (by simp)).trans (znb _ _),u.o.2.keep Y (fun _ f=>f.elim),by have:=R.size;simp at this;omega⟩
 clear c0 c1 R;have c0:=E.t.c0;have c1:=E.t.c1;have c2:=E.t.c2;have O:=E.z.c0;have M:=E.z.c1;have L:=E.z.c2;have K:=E.z.c3;have P:=E.t.fr;have J:=E.z.fr;have Ad:=E.lt;have m:=zhd E;clear E;go_wp2_with fail;refine(yoq (c:=34) m.o.t hs h1).mono ?_;rintro e w2 ⟨rfl,H2⟩;have D:=zhd (m.o.step S hN H2.o.1 H2.o.2);clear c0 c1 c2 O M L K P J;have c0:=D.o.t.c0;have c1:=D.o.t.c1;have c2:=D.o.t.c2;have O:=D.o.z.c0;have M:=D.o.z.c1;have L:=D.o.z.c2;have K:=D.o.z.c3;have P:=D.o.t.fr;have J:=D.o.z.fr;have Ac:=D.o.lt;have Ah:=D.o.t.lt;go_wp2_with fail;refine(yoq (c:=91) D.o.t hs h2).mono ?_;rintro e w3 ⟨rfl,y⟩;have B:=zhd (D.o.step S hN y.o.1 y.o.2);clear c0 c1 c2 O M L K P J;have c0:=B.o.t.c0;have c1:=B.o.t.c1;have c2:=B.o.t.c2;have O:=B.o.z.c0;have M:=B.o.z.c1;have L:=B.o.z.c2;have K:=B.o.z.c3;have P:=B.o.t.fr;have J:=B.o.z.fr;have Ab:=B.o.lt;have Ag:=B.o.t.lt;go_wp2_with fail;refine(yja b s k false w3 B.o.t hs ha B.o.g hN).mono ?_;rintro e w4 ⟨i,j,a⟩;have Q:=(yf2 (s:=s.data.toList) (k:=k) (by simpa using ha)).2
 have Q:yb7 s.data.toList k<=s.size:=by simpa using Q
 have q:=zhd Q;clear Q;have C:=zhd (B.o.step S hN i j);clear c0 c1 c2 O M L K P J;have c0:=C.o.t.c0;have c1:=C.o.t.c1;have c2:=C.o.t.c2;have O:=C.o.z.c0;have M:=C.o.z.c1;have L:=C.o.z.c2;have K:=C.o.z.c3;have P:=C.o.t.fr;have J:=C.o.z.fr;have Aa:=C.o.lt;have Af:=C.o.t.lt;clear i j;rw[p.o]at a;cases r with
 |ok x k2=>
  obtain⟨rfl,h,U⟩:=a;have l:=zh2 h U;clear h U;go_wp2_with fail;refine(ybg _ _).mono ?_;rintro e w5 ⟨rfl,I⟩;have A:=zhd (C.o.below S hN I);clear c0 c1 c2 O M L K P J;have c0:=A.o.t.c0;have c1:=A.o.t.c1;have c2:=A.o.t.c2;have O:=A.o.z.c0;have M:=A.o.z.c1;have L:=A.o.z.c2;have K:=A.o.z.c3;have P:=A.o.t.fr;have J:=A.o.z.fr;have V:=A.o.lt;have X:=A.o.t.lt;clear I;go_wp2_with fail;have F:=A.o.fin S (.int .i64 1) (.int .i64 x.num) (.string ⟨#[]⟩) (.slice none 0 0);exact zng (v:=.tuple #[.agg #[.int .i64 1,x.num,.string ⟨#[]⟩,.slice none 0 0],.bool true]) (by simp only[results,Tryz.results151];go_simp) rfl ⟨⟨1,x.num,⟨#[]⟩,none,0,0⟩,yb7 s.data.toList k,q.o,F.2.1,rfl,l.o.2.symm,by rw[l.o.1];exact⟨rfl,rfl,rfl,VF.nil _ _⟩,F.1⟩
 |deep=>
  exfalso;have T:=p.o;unfold yf1 at T;split at T
  .split at T<;>cases T
  .cases T
 |bad=>
  obtain⟨n,rfl⟩:=a;go_wp2_with fail;refine(ybg _ _).mono ?_;rintro e w5 ⟨rfl,I⟩;have A:=zhd (C.o.below S hN I);clear c0 c1 c2 O M L K P J;have c0:=A.o.t.c0;have c1:=A.o.t.c1;have c2:=A.o.t.c2;have O:=A.o.z.c0;have M:=A.o.z.c1;have L:=A.o.z.c2;have K:=A.o.z.c3;have P:=A.o.t.fr;have J:=A.o.z.fr;have V:=A.o.lt;have X:=A.o.t.lt;clear I;go_wp2_with fail;have F:=A.o.fin S (.int .i64 1) (.int .i64 n) (.string ⟨#[]⟩) (.slice none 0 0);exact zng (v:=.tuple #[.agg #[.int .i64 1,n,.string ⟨#[]⟩,.slice none 0 0],.bool false]) (by simp only[results,Tryz.results151];go_simp) rfl ⟨⟨1,n,⟨#[]⟩,none,0,0⟩,yb7 s.data.toList k,q.o,F.2.1,rfl,F.1⟩
end Go.Proofs.YtpagmlndgblhhaaGreatDoor
namespace Go.Va
open Go.Own Go.RowKit
def checkL (x:Val):Int:=bif (yal x 0 (0,0)).2 !=0 then(yal x 0 (0,0)).2 else bif decide (512<(yah x).length)then 2 else 0
mutual
theorem yhT:∀(x:Val) (d p:Nat),(yal x d (p,0)).2=0->(yah x).length+280*p<=280*(yal x d (p,0)).1
 | .mk k n s l,d,p,h=>by
   rw[yal]at h|-;rw[yah];simp only[bne_self_eq_false,znl]at h|-;cases h2:decide (256<=p)with
   |true=>rw[h2]at h;simp at h
   |false=>
    rw[h2]at h;simp only[znl]at h|-;have z1:=ybA (zigL n);have C:=ybA l.length;cases h3:(k==0||k==1)with
    |true=>
     rw[h3]at h;simp only[znm];have B:k=0\/k=1:=by simpa using h3
     rcases B with rfl|rfl<;>simp<;>omega
    |false=>
     rw[h3]at h;simp only[znl]at h|-;rw[Bool.or_eq_false_iff]at h3;rw[h3.2];cases h5:(k==2)with
     |true=>
      rw[h5]at h;simp only[znm,znl]at h|-;have D:¬256<s.size:=fun e=>by rw[show decide (256<s.size)=true from by simpa using e]at h;simp at h
      have A:=ybA s.data.toList.length;simp[Go.Va.textB];simp at A;omega
     |false=>
      rw[h5]at h;simp only[znl]at h|-;cases h6:(k==3)with
      |true=>
       rw[h6]at h;simp only[znm]at h|-;generalize he:(bif decide (8<=d)then(30:Int)else bif decide (64<l.length)then 2 else 0)=e at h|-;by_cases hz:e=0
       .subst hz
        have:=yhU l (d+1) (p+1) h;simp;omega
       .rw[ya5 _ _ _ (by simpa using hz)]at h
        exact absurd h hz
      |false=>rw[h6]at h;simp at h
theorem yhU:∀(l:List Val) (d p:Nat),(yal.walkL l d (p,0)).2=0->(yah.bytesL l).length+280*p<=280*(yal.walkL l d (p,0)).1
 |[],d,p,h=>by rw[ya4,ydp];simp
 |x::r,d,p,h=>by
  rw[yaO]at h|-;simp only[bne_self_eq_false,znl]at h|-;rw[ybm,znk];generalize hc:yal x d (p,0)=c at h|-;obtain⟨q,e⟩:=c;by_cases hz:e=0
  .subst hz
   have A:=yhT x d p (by rw[hc]);have B:=yhU r d q h;rw[hc]at A;dsimp only at A;omega
  .rw[ya5 _ _ _ (by simpa using hz)]at h
   exact absurd h hz
end
theorem yeD {x:Val}(h:(yal x 0 (0,0)).2=0):(yah x).length<=71680:=by
 have B:=yhT x 0 0 h;have A:=ycT x 0 (0,0) (fun _=>by decide) h;omega
theorem yeS {l:List UInt8}{v:Int}(h:Lib.parseIntB 64 l= .ok v): -9223372036854775808<=v/\v<=9223372036854775807:=by
 unfold Lib.parseIntB at h;cases l with
 |nil=>cases h
 |cons c r=>
  dsimp only at h;split at h
  .cases h
  .cases h
  .rename_i u C
   split at h
   .cases h
   .rename_i B
    split at h
    .cases h
    .rename_i A
     cases h;by_cases hn:c.toNat=45
     .simp[hn]at A|-
      omega
     .simp[hn]at B|-
      omega
theorem ykd {s:List UInt8}{k:Nat}{x:Val}{k2:Nat}(h:yf1 s k= .ok x k2):x.wf:=by
 unfold yf1 at h;split at h
 .rename_i v hv
  split at h
  .cases h
   have:=yeS hv;rw[Val.wf,Val.wf.wfL];exact⟨⟨by decide,by decide⟩,this,znq _,trivial⟩
  .cases h
 .cases h
def ycY (s:List UInt8):Val×Int:=
 match yo7 8 s 0 with
 | .deep=>(ymq,30)
 | .bad=>(ymq,8)
 | .ok x k=>if k<s.length then(ymq,8)else if checkL x≠0 then(ymq,checkL x)else(x,0)
end Go.Va
namespace Go.Proofs.YtpagmlndgblhhaaGreatDoor
open Go.RowKit Go.Own Go.Own.MapTy Go.Va Go.Sort
open Go.Own.Cells (sz enc)
theorem yaE (x:Val)(ck cn:Int)(cs:ByteArray)(la:Option Addr)(ln lc:Nat)(F:Nat->Prop)(w:World)(C:CF F w ⟨ck,cn,cs,la,ln,lc⟩ x)(hw:x.wf)(r:Int)(hr:checkL x=r):
  Calls Tryz.prog 55 #[.agg #[ck,cn,cs,.slice la ln lc]] w fun e w'=>e= .returned (.int .i64 r)/\Below w w w':=by
 have M:=C.mono (G:=fun j=>j<w) (fun j _ h=>h);have P:Keeps (fun _=>False) w ((w.alloc (.cells #[ck,cn,cs,.slice la ln lc] 38)).alloc (.cells #[.int .i64 0,.int .i64 0] 182)):=((Keeps.refl _ _).alloc _).alloc _;have R:=zhd (show Calls Tryz.prog 99 #[.pointer (some ⟨w.heap.size+1,0,none⟩),.agg #[ck,cn,cs,.slice la ln lc],.int .i64 0] _ (yhO _ (w.heap.size+1) (yal x 0 (0,0)))from yhS x.parts x (znc _) (w.heap.size+1) 0 0 0 ⟨ck,cn,cs,la,ln,lc⟩ _ _ (show CX _ (w.heap.size+1) (0,0)from yar) (M.keep P (fun _ _ f=>f)) (by omega) (by omega) (fun _=>by omega));have I:=zh3 M hw hr;clear C M hw hr P;go_in;go_wp2_with fail;refine R.o.mono ?_;rintro e A ⟨rfl,N,H⟩;have q:∀o,A.cell? ⟨w,o,none⟩=(#[.int .i64 ck,.int .i64 cn,.string cs,.slice la ln lc]:Array Value)[o]? :=fun o=>by
  rw[H.cell (p:=⟨w,o,none⟩) (by simp;omega) (show¬w.heap.size=w.heap.size+1 by omega),zch yaG]
 have a:=q 0;have Z:=q 1;have Y:=q 2;have X:=q 3;simp only[zmc,zma,zmb]at a Z Y X;have c1:=N.c1;have J:=H.size;simp at J;have W:w<A.heap.size:=by omega
 have K:=zhd (show Below w w A from(((zal).alloc (by simp) _).trans (H.below (B:=w.heap.size) (by simp;omega) (fun k hk e=>by omega))));clear q R N H;generalize hc:yal x 0 (0,0)=c at*;cases he:(c.2 !=0)with
 |true=>
  have hr:=I.o.2.2;unfold checkL at hr;rw[hc,he]at hr;simp only[znm]at hr;have D:=zhd hr;clear hr hc;go_wp2;go_ret;exact⟨by rw[<-D.o];rfl,K.o⟩
 |false=>
  have hr:=I.o.2.2;unfold checkL at hr;rw[hc,he]at hr;simp only[znl]at hr;have i:=yeD (x:=x) (by rw[hc];simpa using he);have U:=I.o.1.keep (zkb (S:=fun _=>False) K.o) (fun _ _ f=>f);have O:WB (A.alloc (.cells #[.slice none 0 0] 131)) A.heap.size []:=⟨none,0,znb _ _,RowAt.nil _ _,fun e=>by cases e⟩;have T:=U.keep (S:=fun _=>False) ((Keeps.refl _ _).alloc (.cells #[.slice none 0 0] 131)) (fun _ _ f=>f);have Q:=zhd (ydV x.parts x (znc _) A.heap.size [] ⟨ck,cn,cs,la,ln,lc⟩ _ _ O T (fun j h=>⟨by omega,fun⟨v,h1,h2⟩=>by
   rw[znb]at h1;cases h1;cases h2⟩) I.o.2.1 (by simp;omega))
  have D:=zhd hr;clear hr hc U T O;go_wp2_with fail;refine Q.o.mono ?_;rintro e V ⟨rfl,L⟩;rw[List.nil_append]at L;have E:=zhd (show Below w w V from(K.o.alloc (by omega) _).trans (L.o.2.1.below (B:=w.heap.size) (by simp;omega) (fun k hk e=>e.elim (fun e=>by omega) (fun⟨v,h1,h2⟩=>by
   rw[znb]at h1;cases h1;cases h2))))
  have d:=zhd (yna A.heap.size _ _ L.o.1);clear Q;go_wp2_with fail;refine d.o.mono ?_;rintro e g ⟨rfl,rfl⟩;generalize hn:(yah x).length=n at*;cases hg:decide (512<n)with
  |true=>
   rw[hg]at D;have b:(512:Int)<n:=by have:=znx hg;omega
   clear hn hg;go_wp2;go_ret;exact⟨by rw[<-D.o];rfl,E.o⟩
  |false=>
   rw[hg]at D;have b:¬(512:Int)<n:=by have:=zny hg;omega
   clear hn hg;go_wp2;go_ret;exact⟨by rw[<-D.o];rfl,E.o⟩
theorem yiz {w W:World}(h:Below w w W)(x0 x1 x2 x3:Value):Below w w ((((W.setCell ⟨w,0,none⟩ x0).setCell ⟨w,1,none⟩ x1).setCell ⟨w,2,none⟩ x2).setCell ⟨w,3,none⟩ x3):=
 (((h.setCell (znc _) _).setCell (znc _) _).setCell (znc _) _).setCell (znc _) _
theorem ypf (B:Nat)(W:World)(x0 x1 x2 x3:Value):Keeps (fun j=>j=B) W ((((W.setCell ⟨B,0,none⟩ x0).setCell ⟨B,1,none⟩ x1).setCell ⟨B,2,none⟩ x2).setCell ⟨B,3,none⟩ x3):=
 ((((Keeps.refl (fun j=>j=B) W).setCell (p:=⟨B,0,none⟩) (.inl rfl) x0).setCell (p:=⟨B,1,none⟩) (.inl rfl) x1).setCell (p:=⟨B,2,none⟩) (.inl rfl) x2).setCell (p:=⟨B,3,none⟩) (.inl rfl) x3
def yoL (w:World)(r:Val×Int)(e:Ending)(w':World):Prop:=
 ∃c:VC,e= .returned (.tuple #[.agg #[c.kind,c.n,c.s,.slice c.la c.ln c.lc],.int .i64 r.2])/\CF (fun j=>w<=j) w' c r.1/\Below w w w'
end Go.Proofs.YtpagmlndgblhhaaGreatDoor
namespace Go.Va
open Go.Own Go.RowKit
def ym5 (s:List UInt8):Option Nat:=
 match Lib.atoiAll s with
 | .ok v=>if 0<=v/\v<100/\Lib.decDigits v.toNat=s then some v.toNat else none
 |_=>none
def ymW (s:List UInt8):Option ByteArray:=if(ycY s).2=0/\(ycY s).1.kind=2 then some (ycY s).1.txt else none
structure In where
 op:Int
 a:Int
instance:Cells In where
 sz:=2
 enc:=fun c=>[.int .i64 c.op,.int .i64 c.a]
 len:=fun _=>rfl
 one:=by
  intro x v hv;simp at hv;rcases hv with rfl|rfl<;>rfl
instance:Cells ByteArray where
 sz:=1
 enc:=fun s=>[.string s]
 len:=fun _=>rfl
 one:=by
  intro x v hv;simp at hv;subst hv;rfl
structure Jp where
 at_:Int
 line:Int
 label:ByteArray
instance:Cells Jp where
 sz:=3
 enc:=fun j=>[.int .i64 j.at_,.int .i64 j.line,.string j.label]
 len:=fun _=>rfl
 one:=by
  intro x v hv;simp at hv;rcases hv with rfl|rfl|rfl<;>rfl
def SM:MapTy ByteArray Int:=⟨fun s=>.string s,fun n=>.int .i64 n,fun a b h=>by simpa using h⟩
structure RV where
 vc:Value
 vk:Value
 vn:Value
 vj:Value
 pl:Int
 mb:Option Nat
structure RSt where
 code:List In
 consts:List Val
 names:List ByteArray
 places:Int
 labels:List (ByteArray×Int)
 jumps:List Jp
def RO (v:RV)(b j:Nat):Prop:=j=b\/v.mb=some j\/v.vc.ownBlock=some j\/v.vk.ownBlock=some j\/v.vn.ownBlock=some j\/v.vj.ownBlock=some j
structure Sep (v:RV)(b:Nat):Prop where
 m:∀j,v.mb=some j->j≠b
 c:∀j,v.vc.ownBlock=some j->j≠b/\v.mb≠some j
 k:∀j,v.vk.ownBlock=some j->j≠b/\v.mb≠some j/\v.vc.ownBlock≠some j
 n:∀j,v.vn.ownBlock=some j->j≠b/\v.mb≠some j/\v.vc.ownBlock≠some j/\v.vk.ownBlock≠some j
 j:∀j,v.vj.ownBlock=some j->j≠b/\v.mb≠some j/\v.vc.ownBlock≠some j/\v.vk.ownBlock≠some j/\v.vn.ownBlock≠some j
structure RS (W:World)(tr ti tv ts tj:TypeId)(Z:Nat->Prop)(b:Nat)(v:RV)(st:RSt):Prop where
 h:W.heap[b]? =some (.cells #[v.vc,v.vk,v.vn,v.pl,.map v.mb,v.vj] tr (0,0))
 code:RowAt W ti v.vc st.code
 consts:VRow (fun j=>¬RO v b j/\Z j) W tv v.vk st.consts
 names:RowAt W ts v.vn st.names
 jumps:RowAt W tj v.vj st.jumps
 pl:v.pl=st.places
 labels:∀m,v.mb=some m->MapAt SM W m st.labels
 sep:Sep v b
def RK (b:Nat)(v:RV)(W:World)(v':RV)(W':World):Prop:=Keeps (RO v b) W W'/\(∀j,RO v' b j->RO v b j\/W.heap.size<=j)/\v'.mb=v.mb
theorem RK.refl (b:Nat)(v:RV)(W:World):RK b v W v W:=⟨Keeps.refl _ _,fun _ h=>.inl h,rfl⟩
theorem RK.trans {b:Nat}{v v' v'':RV}{W W' W'':World}(h:RK b v W v' W')(k:RK b v' W' v'' W''):RK b v W v'' W'':=by
 refine⟨h.1.trans k.1 (fun j hj e=>(h.2.1 j e).resolve_right (by omega)),fun j hj=> ?_,k.2.2.trans h.2.2⟩;rcases k.2.1 j hj with A|A
 .exact h.2.1 j A
 .exact .inr (znf h.1.size A)
theorem RK.ext {b:Nat}{v:RV}{W W':World}(K:Below W W W'):RK b v W v W':=⟨(zkb (S:=fun _=>False) K).mono (fun _ _ f=>f.elim),fun _ h=>.inl h,rfl⟩
section
variable{W W':World} {tr ti tv ts tj:TypeId} {Z Z':Nat->Prop} {b:Nat} {v:RV} {st:RSt}
theorem RS.lt (R:RS W tr ti tv ts tj Z b v st){j:Nat}(h:RO v b j):j<W:=by
 rcases h with rfl|h|h|h|h|h
 .exact zlt R.h
 .exact(R.labels j h).lt
 .exact R.code.lt h
 .obtain⟨B,A,_⟩:=R.consts
  exact A.lt h
 .exact R.names.lt h
 .exact R.jumps.lt h
theorem RS.far {S:Nat->Prop}(R:RS W tr ti tv ts tj Z b v st)(K:Keeps S W W')(h1:∀j,S j->¬RO v b j)(h2:∀j,S j->¬Z j):RS W' tr ti tv ts tj Z b v st:=
 ⟨(K.block b (zlt R.h) (fun s=>h1 b s (.inl rfl))).trans R.h,R.code.keep K (fun g hg s=>h1 g s (.inr (.inr (.inl hg)))),R.consts.keep K (fun g h s=>h2 g s h.2) (fun g hg s=>h1 g s (.inr (.inr (.inr (.inl hg))))),R.names.keep K (fun g hg s=>h1 g s (.inr (.inr (.inr (.inr (.inl hg)))))),R.jumps.keep K (fun g hg s=>h1 g s (.inr (.inr (.inr (.inr (.inr hg)))))),R.pl,fun m hm=>(R.labels m hm).keep K (fun s=>h1 m s (.inr (.inl hm))),R.sep⟩
theorem RS.monoZ (R:RS W tr ti tv ts tj Z b v st)(h:∀j,Z j->j<W.heap.size->Z' j):RS W tr ti tv ts tj Z' b v st:=
 ⟨R.h,R.code,R.consts.mono (fun j hj hl=>⟨hj.1,h j hj.2 hl⟩),R.names,R.jumps,R.pl,R.labels,R.sep⟩
theorem RS.ext (R:RS W tr ti tv ts tj Z b v st)(K:Below W W W'):RS W' tr ti tv ts tj Z b v st:=
 have A:Keeps (fun _=>False) W W':=zkb K
 ⟨(K.block b (zlt R.h)).trans R.h,R.code.keep A (fun _ _ f=>f),R.consts.keep A (fun _ _ f=>f) (fun _ _ f=>f),R.names.keep A (fun _ _ f=>f),R.jumps.keep A (fun _ _ f=>f),R.pl,fun m hm=>(R.labels m hm).keep A (fun f=>f),R.sep⟩
theorem RS.setCode (R:RS W tr ti tv ts tj Z b v st){w1:World}{v1:Value}{l1:List In}(hr:RowAt w1 ti v1 l1)(K:Keeps (fun j=>v.vc.ownBlock=some j) W w1)(hf:∀g,v1.ownBlock=some g->v.vc.ownBlock=some g\/W.heap.size<=g):
  RS (w1.setCell ⟨b,0,none⟩ v1) tr ti tv ts tj Z b {v with vc:=v1} {st with code:=l1}/\RK b v W {v with vc:=v1} (w1.setCell ⟨b,0,none⟩ v1):=by
 have D:v.vc.ownBlock≠some b:=fun e=>(R.sep.c b e).1 rfl;have H:w1.heap[b]? =some (.cells #[v.vc,v.vk,v.vn,v.pl,.map v.mb,v.vj] tr (0,0)):=(K.block b (zlt R.h) D).trans R.h;have E:Keeps (fun j=>j=b) w1 (w1.setCell ⟨b,0,none⟩ v1):=Keeps.setCell (S:=fun j=>j=b) (p:=⟨b,0,none⟩) (Keeps.refl _ _) (.inl rfl) _;have B:Keeps (fun j=>j=b\/v.vc.ownBlock=some j) W (w1.setCell ⟨b,0,none⟩ v1):=(K.mono (fun _ _ e=>.inr e)).trans E (fun _ _ e=>.inl e);have A:∀j,v1.ownBlock=some j->j≠b/\v.mb≠some j/\v.vk.ownBlock≠some j/\v.vn.ownBlock≠some j/\v.vj.ownBlock≠some j:=fun j hj=>by
  rcases hf j hj with h|h
  .exact⟨(R.sep.c j h).1,(R.sep.c j h).2,fun e=>(R.sep.k j e).2.2 h,fun e=>(R.sep.n j e).2.2.1 h,fun e=>(R.sep.j j e).2.2.1 h⟩
  .exact⟨(fun e=>by have:=R.lt (j:=j) (.inl e);omega),(fun e=>by have:=R.lt (j:=j) (.inr (.inl e));omega),(fun e=>by have:=R.lt (j:=j) (.inr (.inr (.inr (.inl e))));omega),(fun e=>by have:=R.lt (j:=j) (.inr (.inr (.inr (.inr (.inl e)))));omega),(fun e=>by have:=R.lt (j:=j) (.inr (.inr (.inr (.inr (.inr e)))));omega)⟩
 have F:∀j,RO v b j->j<W.heap.size:=fun j=>R.lt;have C:VRow (fun j=>¬RO {v with vc:=v1} b j/\Z j) (w1.setCell ⟨b,0,none⟩ v1) tv v.vk st.consts:=by
  refine((R.consts.mono (G:=fun j=>(¬RO v b j/\Z j)/\¬v1.ownBlock=some j) (fun j h l=>⟨h,fun e=>(hf j e).elim (fun h1=>h.1 (.inr (.inr (.inl h1)))) (fun h1=>by omega)⟩)).keep B (fun g h e=>h.1.1 (e.elim .inl (fun e=>.inr (.inr (.inl e))))) (fun g hg e=>e.elim (R.sep.k g hg).1 (fun e=>(R.sep.k g hg).2.2 e))).mono (fun j h _=>⟨fun e=> ?_,h.1.2⟩);rcases e with e|e|e|e|e|e
  .exact h.1.1 (.inl e)
  .exact h.1.1 (.inr (.inl e))
  .exact h.2 e
  .exact h.1.1 (.inr (.inr (.inr (.inl e))))
  .exact h.1.1 (.inr (.inr (.inr (.inr (.inl e)))))
  .exact h.1.1 (.inr (.inr (.inr (.inr (.inr e)))))
 refine⟨⟨by simp[World.setCell,zni,H],hr.keep E (fun g hg=>(A g hg).1),C,R.names.keep B (fun g hg e=>e.elim (R.sep.n g hg).1 (fun e=>(R.sep.n g hg).2.2.1 e)),R.jumps.keep B (fun g hg e=>e.elim (R.sep.j g hg).1 (fun e=>(R.sep.j g hg).2.2.1 e)),R.pl,fun m hm=>(R.labels m hm).keep B (fun e=>e.elim (R.sep.m m hm) (fun e=>(R.sep.c m e).2 hm)),⟨R.sep.m,fun j hj=>⟨(A j hj).1,(A j hj).2.1⟩,fun j hj=>⟨(R.sep.k j hj).1,(R.sep.k j hj).2.1,fun e=>(A j e).2.2.1 hj⟩,fun j hj=>⟨(R.sep.n j hj).1,(R.sep.n j hj).2.1,fun e=>(A j e).2.2.2.1 hj,(R.sep.n j hj).2.2.2⟩,fun j hj=>⟨(R.sep.j j hj).1,(R.sep.j j hj).2.1,fun e=>(A j e).2.2.2.2 hj,(R.sep.j j hj).2.2.2.1,(R.sep.j j hj).2.2.2.2⟩⟩⟩,B.mono (fun j _ e=>e.elim .inl (fun e=>.inr (.inr (.inl e)))),fun j hj=> ?_,rfl⟩;rcases hj with e|e|e|e|e|e
 .exact .inl (.inl e)
 .exact .inl (.inr (.inl e))
 .exact(hf j e).elim (fun h1=>.inl (.inr (.inr (.inl h1)))) .inr
 .exact .inl (.inr (.inr (.inr (.inl e))))
 .exact .inl (.inr (.inr (.inr (.inr (.inl e)))))
 .exact .inl (.inr (.inr (.inr (.inr (.inr e)))))
theorem RS.setConsts (R:RS W tr ti tv ts tj Z b v st){w1:World}{v1:Value}{l1:List Val}(hr:VRow (fun j=>(¬RO v b j/\Z j)/\¬v1.ownBlock=some j) w1 tv v1 l1)(K:Keeps (fun j=>v.vk.ownBlock=some j) W w1)(hf:∀g,v1.ownBlock=some g->v.vk.ownBlock=some g\/W.heap.size<=g):
  RS (w1.setCell ⟨b,1,none⟩ v1) tr ti tv ts tj Z b {v with vk:=v1} {st with consts:=l1}/\RK b v W {v with vk:=v1} (w1.setCell ⟨b,1,none⟩ v1):=by
 have D:v.vk.ownBlock≠some b:=fun e=>(R.sep.k b e).1 rfl;have G:w1.heap[b]? =some (.cells #[v.vc,v.vk,v.vn,v.pl,.map v.mb,v.vj] tr (0,0)):=(K.block b (zlt R.h) D).trans R.h;have E:Keeps (fun j=>j=b) w1 (w1.setCell ⟨b,1,none⟩ v1):=Keeps.setCell (S:=fun j=>j=b) (p:=⟨b,1,none⟩) (Keeps.refl _ _) (.inl rfl) _;have B:Keeps (fun j=>j=b\/v.vk.ownBlock=some j) W (w1.setCell ⟨b,1,none⟩ v1):=(K.mono (fun _ _ e=>.inr e)).trans E (fun _ _ e=>.inl e);have A:∀j,v1.ownBlock=some j->j≠b/\v.mb≠some j/\v.vc.ownBlock≠some j/\v.vn.ownBlock≠some j/\v.vj.ownBlock≠some j:=fun j hj=>by
  rcases hf j hj with h|h
  .exact⟨(R.sep.k j h).1,(R.sep.k j h).2.1,(R.sep.k j h).2.2,fun e=>(R.sep.n j e).2.2.2 h,fun e=>(R.sep.j j e).2.2.2.1 h⟩
  .exact⟨(fun e=>by have:=R.lt (j:=j) (.inl e);omega),(fun e=>by have:=R.lt (j:=j) (.inr (.inl e));omega),(fun e=>by have:=R.lt (j:=j) (.inr (.inr (.inl e)));omega),(fun e=>by have:=R.lt (j:=j) (.inr (.inr (.inr (.inr (.inl e)))));omega),(fun e=>by have:=R.lt (j:=j) (.inr (.inr (.inr (.inr (.inr e)))));omega)⟩
 have F:∀j,RO v b j->j<W.heap.size:=fun j=>R.lt;have C:VRow (fun j=>¬RO {v with vk:=v1} b j/\Z j) (w1.setCell ⟨b,1,none⟩ v1) tv v1 l1:=by
  refine(hr.keep E (fun g h e=>h.1.1 (.inl e)) (fun g hg=>(A g hg).1)).mono (fun j h _=>⟨fun e=> ?_,h.1.2⟩);rcases e with e|e|e|e|e|e
  .exact h.1.1 (.inl e)
  .exact h.1.1 (.inr (.inl e))
  .exact h.1.1 (.inr (.inr (.inl e)))
  .exact h.2 e
  .exact h.1.1 (.inr (.inr (.inr (.inr (.inl e)))))
  .exact h.1.1 (.inr (.inr (.inr (.inr (.inr e)))))
 refine⟨⟨by simp[World.setCell,zni,G],R.code.keep B (fun g hg e=>e.elim (R.sep.c g hg).1 (fun e=>(R.sep.k g e).2.2 hg)),C,R.names.keep B (fun g hg e=>e.elim (R.sep.n g hg).1 (fun e=>(R.sep.n g hg).2.2.2 e)),R.jumps.keep B (fun g hg e=>e.elim (R.sep.j g hg).1 (fun e=>(R.sep.j g hg).2.2.2.1 e)),R.pl,fun m hm=>(R.labels m hm).keep B (fun e=>e.elim (R.sep.m m hm) (fun e=>(R.sep.k m e).2.1 hm)),⟨R.sep.m,R.sep.c,fun j hj=>⟨(A j hj).1,(A j hj).2.1,(A j hj).2.2.1⟩,fun j hj=>⟨(R.sep.n j hj).1,(R.sep.n j hj).2.1,(R.sep.n j hj).2.2.1,fun e=>(A j e).2.2.2.1 hj⟩,fun j hj=>⟨(R.sep.j j hj).1,(R.sep.j j hj).2.1,(R.sep.j j hj).2.2.1,fun e=>(A j e).2.2.2.2 hj,(R.sep.j j hj).2.2.2.2⟩⟩⟩,B.mono (fun j _ e=>e.elim .inl (fun e=>.inr (.inr (.inr (.inl e))))),fun j hj=> ?_,rfl⟩;rcases hj with e|e|e|e|e|e
 .exact .inl (.inl e)
 .exact .inl (.inr (.inl e))
 .exact .inl (.inr (.inr (.inl e)))
 .exact(hf j e).elim (fun h1=>.inl (.inr (.inr (.inr (.inl h1))))) .inr
 .exact .inl (.inr (.inr (.inr (.inr (.inl e)))))
 .exact .inl (.inr (.inr (.inr (.inr (.inr e)))))
end
def ynW (s:ByteArray):List ByteArray->Nat->Option Nat
 |[],_=>none
 |x::r,i=>bif s.data.toList==x.data.toList then some i else ynW s r (i+1)
def yoz (s:ByteArray)(l:List ByteArray):Nat×List ByteArray:=
 match ynW s l 0 with
 |some i=>(i,l)
 |none=>(l.length,l++[s])
def yiM (x:Val):List Val->Nat->Option Nat
 |[],_=>none
 |y::r,i=>bif cmpV x y==0 then some i else yiM x r (i+1)
def yfK (x:Val)(l:List Val):Nat×List Val:=
 match yiM x l 0 with
 |some i=>(i,l)
 |none=>(l.length,l++[x])
end Go.Va
namespace Go.Proofs.YtpagmlndgblhhaaGreatDoor
open Go.RowKit Go.Own Go.Own.MapTy Go.Va Go.Sort
open Go.Own.Cells (sz enc)
abbrev RX (Z:Nat->Prop)(W:World)(b:Nat)(v:RV)(st:RSt):Prop:=RS W 97 106 38 9 103 Z b v st
def ypE (Z:Nat->Prop)(W:World)(b:Nat)(v:RV)(r:Value)(st:RSt)(e:Ending)(w':World):Prop:=∃v',e= .returned r/\Hid (RX Z w' b v' st/\RK b v W v' w')
theorem ypq:ElemOf ByteArray Tryz.prog 26 9 16:=yb5 Tryz.underlying26 (z:=.string .empty) (n:=1) (by kernel_rfl) rfl rfl
theorem ygD {wr w1:World}{X:Obj}{ks:List VC}{z:VC}{a a1:Option Addr}{cap q1 n b B:Nat}{T:TypeId}(hn:ks.length=n)(hr:RowAt w1 T (.slice a1 (n+1) q1) (ks++[z]))(hk:Keeps (fun j=>(Value.slice a n cap).ownBlock=some j) (wr.drew.alloc X) w1)(hf:∀g,(Value.slice a1 (n+1) q1).ownBlock=some g->(Value.slice a n cap).ownBlock=some g\/(wr.drew.alloc X).heap.size<=g)
  (hb:b<wr)(hB:B<wr.heap.size)(nb:∀g,(Value.slice a n cap).ownBlock=some g->g≠b/\g≠B):
  ∃g1 off1,a1=some ⟨g1,off1,none⟩/\(w1.cell? ⟨g1,off1+n*4,none⟩=some (.int .i64 z.kind)/\w1.cell? ⟨g1,off1+n*4+1,none⟩=some (.int .i64 z.n)/\w1.cell? ⟨g1,off1+n*4+2,none⟩=some (.string z.s)/\w1.cell? ⟨g1,off1+n*4+3,none⟩=some (.slice z.la z.ln z.lc))/\
   (∀o,w1.frozen? ⟨g1,o,none⟩=false)/\(∀o,w1.cell? ⟨b,o,none⟩=wr.cell? ⟨b,o,none⟩)/\(∀o,w1.frozen? ⟨b,o,none⟩=wr.frozen? ⟨b,o,none⟩)/\(∀o,w1.cell? ⟨B,o,none⟩=wr.cell? ⟨B,o,none⟩)/\(¬g1=b/\¬b=g1/\¬g1=B/\¬B=g1)/\g1<w1.heap.size/\b<w1/\B<w1.heap.size:=by
 have I:(ks++[z])[n]? =some z:=by rw[List.getElem?_append_right (by omega),hn];simp
 obtain⟨g1,off1,rfl,D⟩:=hr.addr I;have J:=hk.size;simp at J;have F:∀g,g<wr.heap.size->(∀g',(Value.slice a n cap).ownBlock=some g'->g'≠g)->g1≠g:=fun g hg E e=>by
  rcases hf g1 rfl with h|h
  .exact E _ h e
  .simp at h;omega
 have H:=F b hb (fun g' h=>(nb g' h).1);have G:=F B hB (fun g' h=>(nb g' h).2);have c:=fun(j:Nat) (hj:j<4)=>hr.cell I (j:=j) hj;have M:=c 0 (by decide);have E:=c 1 (by decide);have L:=c 2 (by decide);have K:=c 3 (by decide);have C:∀g o,g<wr.heap.size->(∀g',(Value.slice a n cap).ownBlock=some g'->g'≠g)->w1.cell? ⟨g,o,none⟩=wr.cell? ⟨g,o,none⟩:=fun g o hg h=>by
  rw[hk.cell (p:=⟨g,o,none⟩) (by simp;omega) (fun e=>h g e rfl)];exact znt (w:=wr) (zne _ _ _ hg)
 have A:∀g o,g<wr.heap.size->(∀g',(Value.slice a n cap).ownBlock=some g'->g'≠g)->w1.frozen? ⟨g,o,none⟩=wr.frozen? ⟨g,o,none⟩:=fun g o hg h=>by
  rw[hk.frozen (p:=⟨g,o,none⟩) (by simp;omega) (fun e=>h g e rfl)];exact znu (w:=wr) (zne _ _ _ hg)
 refine⟨g1,off1,rfl,⟨M,by rw[zmm];exact E,by rw[zmm];exact L,by rw[zmm];exact K⟩,fun o=>hr.frozen o,fun o=>C b o hb (fun g' h=>(nb g' h).1),fun o=>A b o hb (fun g' h=>(nb g' h).1),fun o=>C B o hB (fun g' h=>(nb g' h).2),⟨H,fun e=>H e.symm,G,fun e=>G e.symm⟩,D,by omega,by omega⟩
theorem yaP {W:World}{g b o p:Nat}{x y:Value}(h:¬g=b):(W.setCell ⟨b,o,none⟩ x).setCell ⟨g,p,none⟩ y=(W.setCell ⟨g,p,none⟩ y).setCell ⟨b,o,none⟩ x:=by
 simp only[World.setCell]
 congr 1
 refine Array.ext_getElem? fun i=> ?_;simp only[zni];by_cases h1:b=i
 .subst h1
  simp[h]
 .by_cases h2:g=i
  .subst h2
   simp[h1]
  .simp[h1,h2]
theorem yiS {Z:Nat->Prop}{wr w1:World}{b n a0 g1 off1 cp cap:Nat}{a:Option Addr}{v:RV}{st:RSt}{x:Val}{c z:VC}{ks:List VC}{X:Obj}(R:RX Z wr b v st)(hv:v.vk= .slice a n cap)(hn:ks.length=n)(hcl:ks.length=st.consts.length)(hce:∀(i:Nat) (c:VC) (x:Val),ks[i]? =some c->st.consts[i]? =some x->CF (fun j=>¬RO v b j/\Z j) wr c x)
  (C:CF (fun j=>¬RO v b j/\Z j) wr c x)(hr:RowAt w1 38 (.slice (some ⟨g1,off1,none⟩) (n+1) cp) (ks++[z]))(hk:Keeps (fun j=>(Value.slice a n cap).ownBlock=some j) (wr.drew.alloc X) w1)
  (hf:∀g,(Value.slice (some ⟨g1,off1,none⟩) (n+1) cp).ownBlock=some g->(Value.slice a n cap).ownBlock=some g\/(wr.drew.alloc X).heap.size<=g)(ha:a0=n):
  RX Z (((((w1.setCell ⟨g1,off1+a0*4,none⟩ (.int .i64 c.kind)).setCell ⟨g1,off1+a0*4+1,none⟩ (.int .i64 c.n)).setCell ⟨g1,off1+a0*4+2,none⟩ (.string c.s)).setCell ⟨g1,off1+a0*4+3,none⟩ (.slice c.la c.ln c.lc)).setCell ⟨b,1,none⟩ (.slice (some ⟨g1,off1,none⟩) (n+1) cp)) b {v with vk:=.slice (some ⟨g1,off1,none⟩) (n+1) cp} {st with consts:=st.consts++[x]}/\
  RK b v wr {v with vk:=.slice (some ⟨g1,off1,none⟩) (n+1) cp} (((((w1.setCell ⟨g1,off1+a0*4,none⟩ (.int .i64 c.kind)).setCell ⟨g1,off1+a0*4+1,none⟩ (.int .i64 c.n)).setCell ⟨g1,off1+a0*4+2,none⟩ (.string c.s)).setCell ⟨g1,off1+a0*4+3,none⟩ (.slice c.la c.ln c.lc)).setCell ⟨b,1,none⟩ (.slice (some ⟨g1,off1,none⟩) (n+1) cp)):=by
 subst ha;have G:Below wr wr (wr.drew.alloc X):=((znv _ _).drew).alloc (znc _) _;have J:Keeps (fun _=>False) wr (wr.drew.alloc X):=zkb G;have M:=R.ext G;have H:=hr.set (i:=a0) (by simp;omega) c;have L:(ks++[z]).set a0 c=ks++[c]:=by
  rw[List.set_append_right _ _ (by omega),show a0 - ks.length=0 from by omega];rfl
 rw[L]at H;have E:RowAt ((((w1.setCell ⟨g1,off1+a0*4,none⟩ (.int .i64 c.kind)).setCell ⟨g1,off1+a0*4+1,none⟩ (.int .i64 c.n)).setCell ⟨g1,off1+a0*4+2,none⟩ (.string c.s)).setCell ⟨g1,off1+a0*4+3,none⟩ (.slice c.la c.ln c.lc)) 38 (.slice (some ⟨g1,off1,none⟩) (a0+1) cp) (ks++[c]):=H;have K:(fun j=>(Value.slice a a0 cap).ownBlock=some j)=(fun j=>v.vk.ownBlock=some j):=by rw[hv]
 have A:∀g,(Value.slice (some ⟨g1,off1,none⟩) (a0+1) cp).ownBlock=some g->v.vk.ownBlock=some g\/(wr.drew.alloc X).heap.size<=g:=by rw[hv];exact hf
 have D:(Value.slice a a0 cap).ownBlock=some g1\/(wr.drew.alloc X).heap.size<=g1:=hf g1 rfl;have I:Keeps (fun j=>v.vk.ownBlock=some j) (wr.drew.alloc X) ((((w1.setCell ⟨g1,off1+a0*4,none⟩ (.int .i64 c.kind)).setCell ⟨g1,off1+a0*4+1,none⟩ (.int .i64 c.n)).setCell ⟨g1,off1+a0*4+2,none⟩ (.string c.s)).setCell ⟨g1,off1+a0*4+3,none⟩ (.slice c.la c.ln c.lc)):=by
  rw[K]at hk;rw[hv]at hk|-;exact(((hk.setCell (p:=⟨g1,off1+a0*4,none⟩) D _).setCell (p:=⟨g1,off1+a0*4+1,none⟩) D _).setCell (p:=⟨g1,off1+a0*4+2,none⟩) D _).setCell (p:=⟨g1,off1+a0*4+3,none⟩) D _
 have V:VRow (fun j=>(¬RO v b j/\Z j)/\¬(Value.slice (some ⟨g1,off1,none⟩) (a0+1) cp).ownBlock=some j) ((((w1.setCell ⟨g1,off1+a0*4,none⟩ (.int .i64 c.kind)).setCell ⟨g1,off1+a0*4+1,none⟩ (.int .i64 c.n)).setCell ⟨g1,off1+a0*4+2,none⟩ (.string c.s)).setCell ⟨g1,off1+a0*4+3,none⟩ (.slice c.la c.ln c.lc)) 38 (.slice (some ⟨g1,off1,none⟩) (a0+1) cp) (st.consts++[x]):=by
  refine VRow.app (F:=fun j=>(¬RO v b j/\Z j)/\j<wr) (w:=wr.drew.alloc X) (v:=v.vk) hcl (fun i c x B h2=>((hce i c x B h2).mono (fun g h l=>⟨h,l⟩)).keep J (fun _ _ f=>f)) ((C.mono (fun g h l=>⟨h,l⟩)).keep J (fun _ _ f=>f)) E I (fun g h e=>h.1.1 (.inr (.inr (.inr (.inl e))))) (fun g h _=>⟨h.1,fun e=> ?_⟩);rcases A g e with B|B
  .exact h.1.1 (.inr (.inr (.inr (.inl B))))
  .have:=h.2;simp at B;omega
 have S:=M.setConsts V I A;exact⟨S.1,(RK.ext G).trans S.2⟩
def yqi (W:World)(x:Val)(l:List Val)(gk:Nat)(v12:Value)(wr:World):Prop:=
 ∃i:Nat,v12= .int .i64 i/\i<=l.length/\gk=l.length - i/\yiM x (l.drop i) i=yiM x l 0/\Below W W wr
theorem yiT {Z:Nat->Prop}(b:Nat)(v:RV)(st:RSt)(x:Val)(ck cn:Int)(cs:ByteArray)(la:Option Addr)(ln lc:Nat)(W:World)(R:RX Z W b v st)(C:CF (fun j=>¬RO v b j/\Z j) W ⟨ck,cn,cs,la,ln,lc⟩ x)(hl:st.consts.length<=4294967296)(i0:Nat)(l':List Val)(hr:yfK x st.consts=(i0,l')):
  Calls Tryz.prog 129 #[.pointer (some ⟨b,0,none⟩),.agg #[ck,cn,cs,.slice la ln lc]] W (ypE Z W b v (.int .i64 i0) {st with consts:=l'}):=by
 obtain⟨vc,vk,vn,vj,pl,mb⟩:=v;obtain⟨a,cap,rfl⟩:∃a cap,vk= .slice a st.consts.length cap:=R.consts.slice;have b0:=zlt R.h;have c1:=zca R.h 1 rfl;have f0:∀o,W.frozen? ⟨b,o,none⟩=false:=fun o=>zfr R.h o;have el:=(R.consts.vf (G:=fun _=>True) (fun _ _=>trivial) (fun _ _=>trivial)).elems.2.2;unfold yfK at hr;have L:=zh4 R hr el C;clear R hr el C;go_in;go_wp2_with fail;obtain⟨H,E⟩:∃H,H=W.alloc (.cells #[ck,cn,cs,.slice la ln lc] 38):=⟨_,rfl⟩;have B0:=zba E;have q:∀o,H.cell? ⟨W,o,none⟩=(#[.int .i64 ck,.int .i64 cn,.string cs,.slice la ln lc]:Array Value)[o]? :=fun o=>by rw[E,zch (znb _ _)]
 have Y:H.heap.size=W.heap.size+1:=by rw[E];simp
 rw[<-E];have F:=zh3 B0 q Y;clear E B0 q Y c1 f0;go_loopg [12] (st.consts.length) (fun gk v12 wr=>yqi H x st.consts gk v12 wr)
 case atStart=>exact⟨0,rfl,znq _,rfl,rfl,znv _ _⟩
 case round=>
  obtain⟨i,rfl,hi,Q,M,K⟩:=hrel;have q0:=(K.cell (p:=⟨W,0,none⟩) (show W<H.heap.size by have:=F.o.2.2;omega)).trans (F.o.2.1 0);have q1:=(K.cell (p:=⟨W,1,none⟩) (show W<H.heap.size by have:=F.o.2.2;omega)).trans (F.o.2.1 1);have q2:=(K.cell (p:=⟨W,2,none⟩) (show W<H.heap.size by have:=F.o.2.2;omega)).trans (F.o.2.1 2);have q3:=(K.cell (p:=⟨W,3,none⟩) (show W<H.heap.size by have:=F.o.2.2;omega)).trans (F.o.2.1 3);simp only[zmc,zma,zmb]at q0 q1 q2 q3;have Ad:=K.size;have lr:W<wr.heap.size:=by have:=F.o.2.2;omega
  have N:=F.o.1.trans (K.mono (show W<=H.heap.size by have:=F.o.2.2;omega));by_cases hin:i<st.consts.length
  .obtain⟨y,hy⟩:=yac hin
   have z:st.consts.drop i=y::st.consts.drop (i+1):=by
    rw[znr (zge hy).1,(zge hy).2]
   rw[z,yiM]at M;obtain⟨g,Ag,ha,_,V,t⟩:=L.o.2.2.1.resolve_left (fun e=>by rw[e]at hin;simp at hin);obtain⟨d,hD,m0,m1,m2,m3⟩:=t i y hy;subst ha;have Aj:g<wr:=by omega
   rw[<-N.cell (p:=⟨g,_,none⟩) V]at m0 m1 m2 m3;have Af:(i:Int)<st.consts.length:=by omega
   have K1:Keeps (fun _=>False) W (wr.alloc (.cells #[d.kind,d.n,d.s,.slice d.la d.ln d.lc] 38)):=(zkb N).alloc _;have SA:=zhd (fun bb hb=>ydJ x y ⟨ck,cn,cs,la,ln,lc⟩ d _ _ _ (L.o.2.2.2.keep K1 (fun _ _ f=>f)) (hD.keep K1 (fun _ _ f=>f)) bb hb);cases hq:(cmpV x y==0)
   all_goals
    rw[hq]at M;simp only[znm,znl]at M;have D:=zh4 M Q K N;have SB:=zhd (SA.o _ hq);clear M Q hq z hy K N t hD K1 SA;go_wp2_with fail;refine SB.o.mono ?_;rintro e w5 ⟨rfl,Ac⟩;have H5:=zhd (show Below wr wr w5 from(zal).trans (Ac.mono (by simp)));clear Ac SB;go_wp2_with fail
   .go_roundg (st.consts.length - (i+1))
    case measure=>have:=D.o.2.1;omega
    case rel=>exact⟨i+1,by simp,by omega,rfl,D.o.1,D.o.2.2.1.trans (H5.o.mono Ad)⟩
   .have hr:=L.o.2.1
    rw[<-D.o.1]at hr;cases hr;have BE:=D.o.2.2.2.trans (H5.o.mono (zmn lr));go_ret;exact⟨_,rfl,zhd ⟨L.o.1.ext BE,RK.ext BE⟩⟩
  .obtain rfl:i=st.consts.length:=by omega
   rw[zns (znc _),yiM]at M;have hr:=L.o.2.1;rw[<-M]at hr;cases hr;have D:=zh3 (L.o.1.ext N) N (L.o.2.2.2.keep (zkb (S:=fun _=>False) N) (fun _ _ f=>f));have c1:=zca D.o.1.h 1 rfl;have f0:∀o,wr.frozen? ⟨b,o,none⟩=false:=fun o=>zfr D.o.1.h o;have b1:b<wr:=zlt D.o.1.h;have Ae:=zhd (show∀g,(Value.slice a st.consts.length cap).ownBlock=some g->g<W.heap.size from fun g V=>L.o.1.lt (.inr (.inr (.inr (.inl V)))));clear L M Q K N;obtain⟨ks,hR,Aa,Ab⟩:=D.o.1.consts;have X:=zh3 hR Aa Ab;clear hR Aa Ab;have nb:∀g,(Value.slice a st.consts.length cap).ownBlock=some g->g≠b/\g≠W.heap.size:=fun g V=>⟨(D.o.1.sep.k g V).1,fun e=>by have:=Ae.o g V;omega⟩;have Ah:(st.consts.length:Int)<(st.consts.length:Int)+1:=by omega
   have Ai:(0:Int)<=(st.consts.length:Int):=by omega
   have NB:=zhd nb;have n6:¬W.heap.size=b:=by have:=zlt D.o.1.h;have:=D.o.2.1.size;omega
   have U:=zhd (show(ks.length+[(⟨0,0,⟨#[]⟩,none,0,0⟩:VC)].length)*56<=140737488355328/\ks.length+[(⟨0,0,⟨#[]⟩,none,0,0⟩:VC)].length<=maxLen/\ks.length+[(⟨0,0,⟨#[]⟩,none,0,0⟩:VC)].length=st.consts.length+1 from by have:=X.o.2.1;unfold maxLen;simp;omega);clear nb;go_wp2_with fail;go_region_law ((refine yay (α:=VC) (o:=⟨some 29,_,_,_,_,_⟩) yfD (by rfl) (.tmp 25) (.tmp 28) (by rfl) (v:=.slice a st.consts.length cap) (u:=.slice (some ⟨wr,0,none⟩) 1 1) (by rfl) (by rfl) (xs:=ks) (ys:=[⟨0,0,⟨#[]⟩,none,0,0⟩]) ((X.o.1.drew).alloc _) (RowAt.lit (α:=VC) (y:=⟨0,0,⟨#[]⟩,none,0,0⟩) (znb _ _)) U.o.1 U.o.2.1 (st.consts.length+1) U.o.2.2 ?_;intro a1 cp w1 O P T;obtain⟨I,A,rfl,⟨m0,m1,m2,m3⟩,fm,ob,l,m,⟨n1,n2,n3,n4⟩,l1,l2,l3⟩:=ygD (b:=b) (B:=W.heap.size) X.o.2.1 O P T b1 lr NB.o;have y1:=(ob 1).trans c1;have y2:=(m 0).trans q0;have y3:=(m 1).trans q1;have y4:=(m 2).trans q2;have y5:=(m 3).trans q3;have y6:=fun o=>(l o).trans (f0 o);have FF:=zh3 O P T;clear O P T ob l m))
   all_goals
    obtain⟨w4,J⟩:∃w4,w4=((((w1.setCell ⟨I,A+st.consts.length*4,none⟩ (.int .i64 ck)).setCell ⟨I,A+st.consts.length*4+1,none⟩ (.int .i64 cn)).setCell ⟨I,A+st.consts.length*4+2,none⟩ (.string cs)).setCell ⟨I,A+st.consts.length*4+3,none⟩ (.slice la ln lc)).setCell ⟨b,1,none⟩ (.slice (some ⟨I,A,none⟩) (st.consts.length+1) cp):=⟨_,rfl⟩;have r:w4=((((w1.setCell ⟨b,1,none⟩ (.slice (some ⟨I,A,none⟩) (st.consts.length+1) cp)).setCell ⟨I,A+st.consts.length*4,none⟩ (.int .i64 ck)).setCell ⟨I,A+st.consts.length*4+1,none⟩ (.int .i64 cn)).setCell ⟨I,A+st.consts.length*4+2,none⟩ (.string cs)).setCell ⟨I,A+st.consts.length*4+3,none⟩ (.slice la ln lc):=by rw[J,yaP n1,yaP n1,yaP n1,yaP n1]
    first
    |rw[<-J]
    |rw[<-r]
    have S:=yiS (c:=⟨ck,cn,cs,la,ln,lc⟩) (x:=x) D.o.1 rfl X.o.2.1 X.o.2.1 X.o.2.2 D.o.2.2 FF.o.1 FF.o.2.1 FF.o.2.2 rfl;rw[<-J]at S;have HS:=zhd S;have d1:=zca S.1.h 1 rfl;have Ak:b<w4:=zlt S.1.h;clear S J r y1 y2 y3 y4 y5 y6 m0 m1 m2 m3 fm c1 f0 q0 q1 q2 q3;go_wp2;go_ret;exact⟨_,rfl,zhd ⟨HS.o.1,(RK.ext D.o.2.1).trans HS.o.2⟩⟩
def operL (kind line:Int)(s:ByteArray)(st:RSt):Int×Int×RSt:=
 if kind=1 then(if(ycY s.data.toList).2≠0 then(0,(ycY s.data.toList).2,st)else((yfK (ycY s.data.toList).1 st.consts).1,0,{st with consts:=(yfK (ycY s.data.toList).1 st.consts).2}))else
 if kind=2 then(match ymW s.data.toList with
  |none=>(0,8,st)
  |some n=>((yoz n st.names).1,0,{st with names:=(yoz n st.names).2}))else
 if kind=4 then(if ypT s.data.toList=true then(0,0,{st with jumps:=st.jumps++[⟨st.code.length,line,s⟩]})else(0,8,st))else
 match ym5 s.data.toList with
 |none=>(0,8,st)
 |some n=>(n,0,if kind=3 then{st with places:=max st.places (n+1)}else st)
def yoM (Z:Nat->Prop)(W:World)(b:Nat)(v:RV)(r:Int×Int×RSt)(e:Ending)(w':World):Prop:=∃v',e= .returned (.tuple #[.int .i64 r.1,.int .i64 r.2.1])/\Hid (RX Z w' b v' r.2.2/\RK b v W v' w')
end Go.Proofs.YtpagmlndgblhhaaGreatDoor
namespace Go.Va
open Go.Own Go.RowKit Go.Own.MapTy
def yjH (s:ByteArray):ByteArray:=⟨(Lib.trimSuffix s.data.toList [58]).toArray⟩
def ykv (s:ByteArray):Bool:=Lib.hasSuffix s.data.toList [58]&&ypT (yjH s).data.toList
def ygG (s:ByteArray):ByteArray:=⟨(Lib.cut (Lib.trimPrefix s.data.toList [32,32]) [32]).1.toArray⟩
def yc7 (s:ByteArray):ByteArray:=⟨(Lib.cut (Lib.trimPrefix s.data.toList [32,32]) [32]).2.1.toArray⟩
def ylg (s:ByteArray):Bool:=(Lib.cut (Lib.trimPrefix s.data.toList [32,32]) [32]).2.2
end Go.Va
namespace Go.Proofs.YtpagmlndgblhhaaGreatDoor
open Go.RowKit Go.Own Go.Own.MapTy Go.Va Go.Sort
open Go.Own.Cells (sz enc)
def lineL (n:Int)(s:ByteArray)(st:RSt):Int×RSt:=
 if ykv s=true then(if(MapTy.get st.labels (yjH s)).isSome=true then(5,st)else(0,{st with labels:=upd st.labels (yjH s) st.code.length}))else
 if Lib.hasPrefix s.data.toList [32,32]=false then(8,st)else
 match yeU (ygG s)with
 |none=>(110,st)
 |some op=>
  if ylg s≠((ofL op).1.operand !=0)then(8,st)else
  if ylg s=true then(if(operL (ofL op).1.operand n (yc7 s) st).2.1≠0 then((operL (ofL op).1.operand n (yc7 s) st).2.1,(operL (ofL op).1.operand n (yc7 s) st).2.2)else
   (0,{(operL (ofL op).1.operand n (yc7 s) st).2.2 with code:=(operL (ofL op).1.operand n (yc7 s) st).2.2.code++[⟨op,(operL (ofL op).1.operand n (yc7 s) st).1⟩]}))else
  (0,{st with code:=st.code++[⟨op,0⟩]})
theorem ypY (x y:ByteArray):(x==y)=decide (x=y):=by
 show(x.data==y.data)=decide (x=y);rw[Bool.eq_iff_iff];simp[ByteArray.ext_iff]
theorem yos (n:Nat)(em:Bool)(W:World)(x:ByteArray):(Instr.checkKey em (n+1) 9 (.string x)).run Tryz.prog W= .ok () W:=by simp[Instr.checkKey,go_sem]
theorem yp2:KLaw SM Tryz.prog 9:=KLaw.of_now Tryz.underlying9 (fun W em x=>yos 9999 em W x) (fun x y=>by simp[SM,Instr.sameNow];exact ypY x y) (fun x=>by simp[SM,Instr.sameBits];exact(ypY x x).trans (by simp))
theorem ylS {w:World}{b:Nat}{m:List (ByteArray×Int)}(h:MapAt SM w b m)(x:ByteArray):∀W:World,ydU w b W->(Instr.lookup 94 (.map (some b)) (.string x) true).run Tryz.prog W= .ok (.tuple #[.int .i64 ((MapTy.get m x).getD 0),(MapTy.get m x).isSome]) W:=by
 intro W A;have:=h.lookS yp2 Tryz.underlying94 (z:=.int .i64 0) (fun W=>by kernel_rfl) x true W A;cases hg:MapTy.get m x with
 |none=>rw[hg]at this;exact this
 |some n=>rw[hg]at this;exact this
def ynH (Z:Nat->Prop)(W:World)(b:Nat)(v:RV)(r:Int×RSt)(e:Ending)(w':World):Prop:=∃v',e= .returned (.int .i64 r.1)/\Hid (RX Z w' b v' r.2/\RK b v W v' w')
theorem ynt:ElemOf In Tryz.prog 24 106 16:=yb5 Tryz.underlying24 (z:=.agg #[.int .i64 0,.int .i64 0]) (n:=2) (by kernel_rfl) rfl rfl
theorem yhv (s:ByteArray):(yc7 s).size<=s.size/\(ygG s).size<=s.size/\(Lib.trimPrefix s.data.toList [32,32]).length<=s.size:=by
 have C:(Lib.trimPrefix s.data.toList [32,32]).length<=s.size:=by
  unfold Lib.trimPrefix;split
  .simp
  .simp
 have B:(yc7 s).size=(Lib.cut (Lib.trimPrefix s.data.toList [32,32]) [32]).2.1.length:=by show(Lib.cut (Lib.trimPrefix s.data.toList [32,32]) [32]).2.1.toArray.size=_;simp
 have A:(ygG s).size=(Lib.cut (Lib.trimPrefix s.data.toList [32,32]) [32]).1.length:=by show(Lib.cut (Lib.trimPrefix s.data.toList [32,32]) [32]).1.toArray.size=_;simp
 rw[B,A];unfold Lib.cut;split
 .simp;omega
 .simp;omega
theorem yi4 (kind line:Int)(s:ByteArray)(st:RSt):(operL kind line s st).2.2.code=st.code:=by
 unfold operL;split
 .split<;>rfl
 .split
  .split<;>rfl
  .split
   .split<;>rfl
   .split
    .rfl
    .dsimp only
     split<;>rfl
end Go.Proofs.YtpagmlndgblhhaaGreatDoor
