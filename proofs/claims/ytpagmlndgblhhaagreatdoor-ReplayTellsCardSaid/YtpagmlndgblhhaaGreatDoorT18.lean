/- Parts of the proof: what the functions and the plain laws give that later parts lean on. Conditions: none beyond those that each theorem names. -/
import Derived.Test.YtpagmlndgblhhaaGreatDoorT17
set_option maxRecDepth 100000
set_option maxHeartbeats 8000000
namespace Go.Proofs.YtpagmlndgblhhaaGreatDoor
open Go.RowKit Go.Own Go.Own.MapTy Go.Va Go.Sort
open Go.Own.Cells (sz enc)
theorem ybr
  {Z:Nat->Prop}(b:Nat)(v:MV)(p:Img)(s:MS)(W:World)(M:MX TT Z W b v p s)
  (op a:Int)(hc:p.code[s.at_]? =some ⟨op,a⟩)(nm:ByteArray)(od ii oo:Int)(en fl:Bool)(hof:ofL op=(⟨nm,od,ii,oo,true,en,fl⟩,true))(r:Bool)(s':MS)
  (WT:∀(W':World) (v':MV),MX TT Z W' b v' p s->W<=W'.heap.size->Calls Tryz.prog 156 #[.pointer (some ⟨b,0,none⟩),.agg #[op,a]] W' (MP Z W' b v' p (.bool r) s')):
  Calls Tryz.prog 139 #[.pointer (some ⟨b,0,none⟩)] W (MP Z W b v p (.bool r) s'):=by
 have c:=zhd (ybb op _ _ hof);have L:=zhd WT;clear WT hof;obtain⟨g,V,H,_,n,_,l,j⟩:=M.img.code_at (znv _ _) hc;have G:=M.img.lens.1;have c1:W.cell? ⟨b,1,none⟩=some (.slice v.ic.ca v.ic.cn v.ic.cc):=M.cell (k:=1) rfl;rw[H,G]at c1;have y:W.cell? ⟨b,6,none⟩=some (.int .i64 (s.at_:Int)):=M.cell (k:=6) rfl;have z:=zlt M.h;have X:(s.at_:Int)<(p.code.length:Int):=by have:=(zge hc).1;omega
 have d:=zhd M;clear M H G hc;go_in;go_upto_region 1 with(fail);go_region
 all_goals
  go_upto_region 2 with(fail);refine yaa ?_;intro w1 E;have T:Below W W w1:=by rw[E];exact(zal).drew
  have D:w1.heap[W.heap.size]? =some (.cells #[op,a] 106 (0,0)):=by rw[E];exact znb _ _
  have Q:=zca D 0 rfl;have K:=zlt D;have O:=zh2 T D;clear E T D;go_wp2_with fail;refine(c.o _).mono ?_;rintro e i ⟨rfl,F⟩;have I:=(F.block W K).trans O.o.2;have J:=zh2 (O.o.1.trans (F.mono O.o.1.size)) I;clear F I Q K;go_upto_region 3 with(fail);refine yaa ?_;intro w3 C;have P:Below W W w3:=by rw[C];exact J.o.1.alloc J.o.1.size _
  have A:=zha C;have B:w3.heap[W.heap.size]? =some (.cells #[op,a] 106 (0,0)):=by rw[C];exact(zne _ _ _ (zlt J.o.2)).trans J.o.2
  have u:=zca A 4 rfl;have t:=zca A 5 rfl;have q:=zca A 6 rfl;have Q:=zca B 0 rfl;have x:=zca B 1 rfl;have m:=zlt A;have K:=zlt B;have R:=d.o.ext P;have N:=zh3 P R B;clear C P A B R;have Y:=zhd (L.o w3 v N.o.2.1 N.o.1.size);go_wp2_with fail;refine Y.o.mono ?_;rintro e f ⟨U,rfl,S⟩;go_wp2;go_ret;exact⟨U,rfl,zhd ⟨S.o.1,(MK.ext N.o.1).trans S.o.2⟩⟩
theorem yfk
  {Z:Nat->Prop}(b:Nat)(v:MV)(p:Img)(s:MS)(W:World)(M:MX TT Z W b v p s)
  (op a:Int)(hc:p.code[s.at_]? =some ⟨op,a⟩)(nm:ByteArray)(od ii oo:Int)(fl:Bool)(hof:ofL op=(⟨nm,od,ii,oo,false,true,fl⟩,true))(s':MS)
  (WT:∀(W':World) (v':MV),MX TT Z W' b v' p s->W<=W'.heap.size->Calls Tryz.prog 157 #[.pointer (some ⟨b,0,none⟩),.agg #[op,a]] W' (MP Z W' b v' p (.tuple #[]) s')):
  Calls Tryz.prog 139 #[.pointer (some ⟨b,0,none⟩)] W (MP Z W b v p (.bool true) s'):=by
 have c:=zhd (ybb op _ _ hof);have L:=zhd WT;clear WT hof;obtain⟨g,V,H,_,n,_,l,j⟩:=M.img.code_at (znv _ _) hc;have G:=M.img.lens.1;have c1:W.cell? ⟨b,1,none⟩=some (.slice v.ic.ca v.ic.cn v.ic.cc):=M.cell (k:=1) rfl;rw[H,G]at c1;have x:W.cell? ⟨b,6,none⟩=some (.int .i64 (s.at_:Int)):=M.cell (k:=6) rfl;have y:=zlt M.h;have X:(s.at_:Int)<(p.code.length:Int):=by have:=(zge hc).1;omega
 have d:=zhd M;clear M H G hc;go_in;go_upto_region 1 with(fail);go_region
 all_goals
  go_upto_region 2 with(fail);refine yaa ?_;intro w1 E;have T:Below W W w1:=by rw[E];exact(zal).drew
  have D:w1.heap[W.heap.size]? =some (.cells #[op,a] 106 (0,0)):=by rw[E];exact znb _ _
  have Q:=zca D 0 rfl;have K:=zlt D;have O:=zh2 T D;clear E T D;go_wp2_with fail;refine(c.o _).mono ?_;rintro e i ⟨rfl,F⟩;have I:=(F.block W K).trans O.o.2;have J:=zh2 (O.o.1.trans (F.mono O.o.1.size)) I;clear F I Q K;go_upto_region 3 with(fail);refine yaa ?_;intro w3 C;have P:Below W W w3:=by rw[C];exact J.o.1.alloc J.o.1.size _
  have A:=zha C;have B:w3.heap[W.heap.size]? =some (.cells #[op,a] 106 (0,0)):=by rw[C];exact(zne _ _ _ (zlt J.o.2)).trans J.o.2
  have t:=zca A 4 rfl;have r:=zca A 5 rfl;have q:=zca A 6 rfl;have Q:=zca B 0 rfl;have u:=zca B 1 rfl;have m:=zlt A;have K:=zlt B;have R:=d.o.ext P;have N:=zh3 P R B;clear C P A B R;have Y:=zhd (L.o w3 v N.o.2.1 N.o.1.size);go_wp2_with fail;refine Y.o.mono ?_;rintro e f ⟨U,rfl,S⟩;go_wp2;go_ret;exact⟨U,rfl,zhd ⟨S.o.1,(MK.ext N.o.1).trans S.o.2⟩⟩
theorem yhZ
  {Z:Nat->Prop}(b:Nat)(v:MV)(p:Img)(s:MS)(W:World)(M:MX TT Z W b v p s)
  (op a:Int)(hc:p.code[s.at_]? =some ⟨op,a⟩)(nm:ByteArray)(od ii oo:Int)(hof:ofL op=(⟨nm,od,ii,oo,false,false,false⟩,true))(hat:s.at_<=4294967296)(hk:s.stk.length<=4294967296)(s':MS)
  (hd:(op=16/\s'=s.nxt.push (ybw s.now))\/(op=2/\s'=s.nxt.pop)\/(op=0/\s'=s.nxt)\/(op=24/\s'=s.nxt.push (yaK s.asked))):
  Calls Tryz.prog 139 #[.pointer (some ⟨b,0,none⟩)] W (MP Z W b v p (.bool true) s')
  :=by
 have HD:=zhd hd;have Ac:wrap64 ((s.at_:Int)+1)=(s.at_:Int)+1:=by unfold wrap64;omega
 have OF:=zhd (ybb op _ _ hof);clear hof hd;obtain⟨g,Aa,Y,_,gl,_,m0,m1⟩:=M.img.code_at (znv _ _) hc;have X:=M.img.lens.1;have c1:W.cell? ⟨b,1,none⟩=some (.slice v.ic.ca v.ic.cn v.ic.cc):=M.cell (k:=1) rfl;rw[Y,X]at c1;have y:W.cell? ⟨b,6,none⟩=some (.int .i64 (s.at_:Int)):=M.cell (k:=6) rfl;have b0:=zlt M.h;have j:(s.at_:Int)<(p.code.length:Int):=by have:=(zge hc).1;omega
 have HX:=zhd M;clear M Y X hc;go_in;go_upto_region 1 with(fail);go_region
 all_goals
  go_upto_region 2 with(fail);refine yaa ?_;intro w1 Q;have B1:Below W W w1:=by rw[Q];exact(zal).drew
  have K:w1.heap[W.heap.size]? =some (.cells #[op,a] 106 (0,0)):=by rw[Q];exact znb _ _
  have l:=zca K 0 rfl;have f:=zlt K;have n:=zh2 B1 K;clear Q B1 K;go_wp2_with fail;refine(OF.o _).mono ?_;rintro e w2 ⟨rfl,R⟩;have c:=(R.block W f).trans n.o.2;have i:=zh2 (n.o.1.trans (R.mono n.o.1.size)) c;clear R c l f;go_upto_region 3 with(fail);refine yaa ?_;intro w3 J;have t:Below W W w3:=by rw[J];exact i.o.1.alloc i.o.1.size _
  have F:=zha J;have H:w3.heap[W.heap.size]? =some (.cells #[op,a] 106 (0,0)):=by rw[J];exact(zne _ _ _ (zlt i.o.2)).trans i.o.2
  have f4:=zca F 4 rfl;have f5:=zca F 5 rfl;have f6:=zca F 6 rfl;have l:=zca H 0 rfl;have e1:=zca H 1 rfl;have il:=zlt F;have f:=zlt H;have z:=HX.o.ext t;have T:=zh3 t z H;clear J t F H z;have y:w3.cell? ⟨b,6,none⟩=some (.int .i64 (s.at_:Int)):=T.o.2.1.cell (k:=6) rfl;have f0:∀o,w3.frozen? ⟨b,o,none⟩=false:=fun o=>T.o.2.1.frozen o;have b3:=zlt T.o.2.1.h;go_upto_region 14 with(fail);refine yaa ?_;intro I P;have d:=T.o.2.1.scalar 6 (.int .i64 ((s.at_:Int)+1)) s.nxt rfl rfl rfl rfl rfl rfl rfl rfl;rw[<-P]at d;have G:I.heap[W.heap.size]? =some (.cells #[op,a] 106 (0,0)):=by
   rw[P,znn _ _ _ _ (fun e=>by have e:W.heap.size=b:=e;omega)];exact T.o.2.2
  have g0:=zca G 0 rfl;have g1:=zca G 1 rfl;have gl:=zlt G;have C:=zh3 d.1 ((MK.ext T.o.1).trans d.2) G;have b4:=zlt d.1.h;have E:s.nxt.stk.length<=4294967296:=hk;clear d P G f4 f5 f6 l e1 y f0 b3 il f c1 m0 m1 j;rcases HD.o with⟨B,D⟩|⟨B,D⟩|⟨B,D⟩|⟨B,D⟩
  .skip
   have L:=zhd D;clear D;subst B;have Ab:I.cell? ⟨b,11,none⟩=some (.int .i64 s.now):=C.o.1.cell (k:=11) rfl;go_upto_region 33 with(fail);go_region_law (first
    |(go_simp;go_at_call 106;refine(ybg _ _).mono ?_;rintro e U ⟨rfl,A⟩;have O:=zhd (znw ((znv I.heap.size I).drew) A);clear A)
    |(go_simp;go_at_call 119;refine(yaj b v p _ U (C.o.1.ext O.o) (ybw s.now) 1 _ ⟨#[]⟩ none 0 0 (ycJ _ _ _) E).mono ?_;rintro e u ⟨V,rfl,N⟩))
   all_goals
    go_wp2;go_ret;exact⟨V,rfl,zhd ⟨by rw[L.o];exact N.o.1,C.o.2.1.trans ((MK.ext O.o).trans N.o.2)⟩⟩
  .skip
   have L:=zhd D;clear D;subst B;have PO:=zhd (yai b v p _ I C.o.1);go_wp2_with fail;refine PO.o.mono ?_;rintro e w5 ⟨v5,⟨ck,cn,cs,la,ln,lc⟩,rfl,H5⟩;go_wp2;go_ret;exact⟨v5,rfl,zhd ⟨by rw[L.o];exact H5.o.1,C.o.2.1.trans H5.o.2.1⟩⟩
  .skip
   have L:=zhd D;clear D;subst B;go_wp2;go_ret;exact⟨v,rfl,zhd ⟨by rw[L.o];exact C.o.1,C.o.2.1⟩⟩
  .skip
   have L:=zhd D;clear D;subst B;have m:I.cell? ⟨b,17,none⟩=some (.bool s.asked):=C.o.1.cell (k:=17) rfl;have r:=zhd (fun W=>ybq s.asked W);have S:=zhd (show s'=s.nxt.push (yaK s.asked)from L.o);clear L;obtain⟨q,x⟩:∃q,s.asked=q:=⟨_,rfl⟩;rw[x]at m r S;go_upto_region 35 with(fail);clear x;cases q
   .
    go_region_law (first
     |(go_simp;go_at_call 63;refine(r.o _).mono ?_;rintro e U ⟨rfl,A⟩;have O:=zhd (znw ((znv I.heap.size I).drew) A);clear A)
     |(go_simp;go_at_call 119;refine(yaj b v p _ U (C.o.1.ext O.o) (yaK false) 1 _ ⟨#[]⟩ none 0 0 (ybf _ _ _) E).mono ?_;rintro e u ⟨V,rfl,N⟩))
    all_goals
     go_wp2;go_ret;exact⟨V,rfl,zhd ⟨by rw[S.o];exact N.o.1,C.o.2.1.trans ((MK.ext O.o).trans N.o.2)⟩⟩
   .
    go_region_law (first
     |(go_simp;go_at_call 63;refine(r.o _).mono ?_;rintro e U ⟨rfl,A⟩;have O:=zhd (znw ((znv I.heap.size I).drew) A);clear A)
     |(go_simp;go_at_call 119;refine(yaj b v p _ U (C.o.1.ext O.o) (yaK true) 1 _ ⟨#[]⟩ none 0 0 (ybf _ _ _) E).mono ?_;rintro e u ⟨V,rfl,N⟩))
    all_goals
     go_wp2;go_ret;exact⟨V,rfl,zhd ⟨by rw[S.o];exact N.o.1,C.o.2.1.trans ((MK.ext O.o).trans N.o.2)⟩⟩
theorem yhY
  {Z:Nat->Prop}(b:Nat)(v:MV)(p:Img)(s:MS)(W:World)(M:MX TT Z W b v p s)
  (op a:Int)(hc:p.code[s.at_]? =some ⟨op,a⟩)(nm:ByteArray)(od ii oo:Int)(hof:ofL op=(⟨nm,od,ii,oo,false,false,false⟩,true))(hat:s.at_<=4294967296)(hk:s.stk.length<=4294967296)(s':MS)
  (hZ:(∀j,W.heap.size<=j->Z j))
  (hd:(op=3/\szV s.top<=1073741824/\s'=s.nxt.push (yab s.top))\/(op=15/\szV s.input<=1073741824/\s'=s.nxt.push (yab s.input))\/(op=1/\∃(k:Nat) (x:Val),a=k/\p.consts[k]? =some x/\szV x<=1073741824/\s'=s.nxt.push (yab x))\/(op=13/\∃(k:Nat) (x:Val),a=k/\s.places[k]? =some x/\szV x<=1073741824/\s'=s.nxt.push (yab x))):
  Calls Tryz.prog 139 #[.pointer (some ⟨b,0,none⟩)] W (MP Z W b v p (.bool true) s')
  :=by
 have HD:=zhd hd;have Al:wrap64 ((s.at_:Int)+1)=(s.at_:Int)+1:=by unfold wrap64;omega
 have OF:=zhd (ybb op _ _ hof);clear hof hd;obtain⟨g,Aj,Ae,_,gl,_,m0,m1⟩:=M.img.code_at (znv _ _) hc;have Ad:=M.img.lens.1;have c1:W.cell? ⟨b,1,none⟩=some (.slice v.ic.ca v.ic.cn v.ic.cc):=M.cell (k:=1) rfl;rw[Ae,Ad]at c1;have c6:W.cell? ⟨b,6,none⟩=some (.int .i64 (s.at_:Int)):=M.cell (k:=6) rfl;have b0:=zlt M.h;have Ai:(s.at_:Int)<(p.code.length:Int):=by have:=(zge hc).1;omega
 have HX:=zhd M;clear M Ae Ad hc;go_in;go_upto_region 1 with(fail);go_region
 all_goals
  go_upto_region 2 with(fail);refine yaa ?_;intro w1 u;have B1:Below W W w1:=by rw[u];exact(zal).drew
  have X:w1.heap[W.heap.size]? =some (.cells #[op,a] 106 (0,0)):=by rw[u];exact znb _ _
  have e0:=zca X 0 rfl;have el:=zlt X;have H1:=zh2 B1 X;clear u B1 X;go_wp2_with fail;refine(OF.o _).mono ?_;rintro e w2 ⟨rfl,Aa⟩;have Af:=(Aa.block W el).trans H1.o.2;have H2:=zh2 (H1.o.1.trans (Aa.mono H1.o.1.size)) Af;clear Aa Af e0 el;go_upto_region 3 with(fail);refine yaa ?_;intro w3 U;have B3:Below W W w3:=by rw[U];exact H2.o.1.alloc H2.o.1.size _
  have N:=zha U;have Q:w3.heap[W.heap.size]? =some (.cells #[op,a] 106 (0,0)):=by rw[U];exact(zne _ _ _ (zlt H2.o.2)).trans H2.o.2
  have f4:=zca N 4 rfl;have f5:=zca N 5 rfl;have f6:=zca N 6 rfl;have e0:=zca Q 0 rfl;have e1:=zca Q 1 rfl;have il:=zlt N;have el:=zlt Q;have M3:=HX.o.ext B3;have H3:=zh3 B3 M3 Q;clear U B3 N Q M3;have c6:w3.cell? ⟨b,6,none⟩=some (.int .i64 (s.at_:Int)):=H3.o.2.1.cell (k:=6) rfl;have f0:∀o,w3.frozen? ⟨b,o,none⟩=false:=fun o=>H3.o.2.1.frozen o;have b3:=zlt H3.o.2.1.h;go_upto_region 14 with(fail);refine yaa ?_;intro A t;have S4:=H3.o.2.1.scalar 6 (.int .i64 ((s.at_:Int)+1)) s.nxt rfl rfl rfl rfl rfl rfl rfl rfl;rw[<-t]at S4;have P:A.heap[W.heap.size]? =some (.cells #[op,a] 106 (0,0)):=by
   rw[t,znn _ _ _ _ (fun e=>by have e:W.heap.size=b:=e;omega)];exact H3.o.2.2
  have g0:=zca P 0 rfl;have g1:=zca P 1 rfl;have gl:=zlt P;have B:=zh3 S4.1 ((MK.ext H3.o.1).trans S4.2) P;have b4:=zlt S4.1.h;have K:s.nxt.stk.length<=4294967296:=hk;clear S4 t P f4 f5 f6 e0 e1 c6 f0 b3 il el c1 m0 m1 Ai;rcases HD.o with⟨I,q,L⟩|⟨I,q,L⟩|⟨I,k,x,z,r,q,L⟩|⟨I,k,x,z,r,q,L⟩
  .skip
   have hE:=zhd L;clear L;subst I;have TP:=zhd (ybI b v p _ A.drew (B.o.1.ext (znv _ _).drew));go_upto_region 21 with(fail);go_region_law (first
    |(go_simp;go_at_call 160;refine TP.o.mono ?_;rintro e w5 ⟨v5,⟨ck,cn,cs,la,ln,lc⟩,rfl,H5⟩)
    |(go_simp;go_at_call 58;refine(yax s.top ck cn cs la ln lc _ w5 H5.o.2.2 q).mono ?_;rintro e w7 ⟨⟨m,l,i,H,F,G⟩,rfl,J⟩)
    |(go_simp;go_at_call 119;refine(yaj b v5 p _ w7 (H5.o.1.ext J.o.2) (yab s.top) m l i H F G (J.o.1.mono (fun g D _=>⟨fun e=>by have:=H5.o.1.lt e;have D:w5<=g:=D;omega,hZ g (by have D:w5<=g:=D;have:=H5.o.2.1.keeps.size;have h4:W<=A.heap.size:=B.o.2.1.keeps.size;have h5:A.drew.heap.size=A.heap.size:=rfl;omega)⟩)) K).mono ?_;rintro e w9 ⟨d,rfl,T⟩))
   all_goals
    go_wp2;go_ret;exact⟨d,rfl,zhd ⟨by rw[hE.o];exact T.o.1,B.o.2.1.trans ((MK.ext ((znv A.heap.size A).drew)).trans (H5.o.2.1.trans ((MK.ext J.o.2).trans T.o.2)))⟩⟩
  .skip
   have hE:=zhd L;clear L;subst I;have c7:A.cell? ⟨b,7,none⟩=some (.int .i64 v.inp.kind):=B.o.1.cell (k:=7) rfl;have c8:A.cell? ⟨b,8,none⟩=some (.int .i64 v.inp.n):=B.o.1.cell (k:=8) rfl;have c9:A.cell? ⟨b,9,none⟩=some (.string v.inp.s):=B.o.1.cell (k:=9) rfl;have Ak:A.cell? ⟨b,10,none⟩=some (.slice v.inp.la v.inp.ln v.inp.lc):=B.o.1.cell (k:=10) rfl;have CL:=zhd (yax s.input v.inp.kind v.inp.n v.inp.s v.inp.la v.inp.ln v.inp.lc _ A.drew (B.o.1.inp.keep (S:=fun _=>False) (zkb ((znv _ _).drew)) (fun _ _ f=>f)) q);go_upto_region 31 with(fail);go_region_law (first
    |(go_simp;go_at_call 58;refine CL.o.mono ?_;rintro e w7 ⟨⟨m,l,i,H,F,G⟩,rfl,C⟩;have c:Below A A w7:=znw ((znv A.heap.size A).drew) C.o.2;have J:=zh2 C.o.1 c;clear C c)
    |(go_simp;go_at_call 119;refine(yaj b v p _ w7 (B.o.1.ext J.o.2) (yab s.input) m l i H F G (J.o.1.mono (fun g D _=>⟨fun e=>by have:=B.o.1.lt e;have D:A<=g:=D;omega,hZ g (by have D:A<=g:=D;have h4:W<=A.heap.size:=B.o.2.1.keeps.size;omega)⟩)) K).mono ?_;rintro e w9 ⟨d,rfl,T⟩))
   all_goals
    go_wp2;go_ret;exact⟨d,rfl,zhd ⟨by rw[hE.o];exact T.o.1,B.o.2.1.trans ((MK.ext J.o.2).trans T.o.2)⟩⟩
  .skip
   have hE:=zhd L;clear L;have Ah:(k:Int)<(p.consts.length:Int):=by have:=(zge r).1;omega
   have Ab:=zhd r;clear r;subst I;subst z;obtain⟨kg,E,kc,V,_,Ag,_,R,k0,k1,k2,k3⟩:=B.o.1.img.const_at (znv _ _) Ab.o;have Ac:=B.o.1.img.lens.2.1;have c2:A.cell? ⟨b,2,none⟩=some (.slice v.ic.ka v.ic.kn v.ic.kc):=B.o.1.cell (k:=2) rfl;rw[V,Ac]at c2;have CL:=zhd (yax x kc.kind kc.n kc.s kc.la kc.ln kc.lc _ A.drew (R.keep (S:=fun _=>False) (zkb ((znv _ _).drew)) (fun _ _ f=>f)) q);clear V Ac R;go_upto_region 17 with(fail);go_region_law (first
    |(go_simp;go_at_call 58;refine CL.o.mono ?_;rintro e w7 ⟨⟨m,l,i,H,F,G⟩,rfl,C⟩;have c:Below A A w7:=znw ((znv A.heap.size A).drew) C.o.2;have J:=zh2 C.o.1 c;clear C c)
    |(go_simp;go_at_call 119;refine(yaj b v p _ w7 (B.o.1.ext J.o.2) (yab x) m l i H F G (J.o.1.mono (fun g D _=>⟨fun e=>by have:=B.o.1.lt e;have D:A<=g:=D;omega,hZ g (by have D:A<=g:=D;have h4:W<=A.heap.size:=B.o.2.1.keeps.size;omega)⟩)) K).mono ?_;rintro e w9 ⟨d,rfl,T⟩))
   all_goals
    go_wp2;go_ret;exact⟨d,rfl,zhd ⟨by rw[hE.o];exact T.o.1,B.o.2.1.trans ((MK.ext J.o.2).trans T.o.2)⟩⟩
  .skip
   have hE:=zhd L;clear L;have Ah:(k:Int)<(s.places.length:Int):=by have:=(zge r).1;omega
   have Ab:=zhd r;clear r;subst I;subst z;obtain⟨pa,pc,y⟩:∃a cap,v.ps= .slice a s.places.length cap:=B.o.1.pls.slice;have c5:A.cell? ⟨b,5,none⟩=some (.slice pa s.places.length pc):=by rw[<-y];exact B.o.1.cell (k:=5) rfl
   obtain⟨kg,E,kc,V,Ag,R,_,O⟩:=(show XRow _ A 38 (.slice pa s.places.length pc) s.places from y▸B.o.1.pls).at_ Ab.o;have k0:A.cell? ⟨kg,E+k*4,none⟩=some (.int .i64 kc.kind):=O 0 _ rfl;have k1:A.cell? ⟨kg,E+k*4+1,none⟩=some (.int .i64 kc.n):=O 1 _ rfl;have k2:A.cell? ⟨kg,E+k*4+2,none⟩=some (.string kc.s):=O 2 _ rfl;have k3:A.cell? ⟨kg,E+k*4+3,none⟩=some (.slice kc.la kc.ln kc.lc):=O 3 _ rfl;subst V;have Y:CF _ A kc x:=R;have CL:=zhd (yax x kc.kind kc.n kc.s kc.la kc.ln kc.lc _ A.drew (Y.keep (S:=fun _=>False) (zkb ((znv _ _).drew)) (fun _ _ f=>f)) q);clear y R O Y;go_upto_region 27 with(fail);go_region_law (first
    |(go_simp;go_at_call 58;refine CL.o.mono ?_;rintro e w7 ⟨⟨m,l,i,H,F,G⟩,rfl,C⟩;have c:Below A A w7:=znw ((znv A.heap.size A).drew) C.o.2;have J:=zh2 C.o.1 c;clear C c)
    |(go_simp;go_at_call 119;refine(yaj b v p _ w7 (B.o.1.ext J.o.2) (yab x) m l i H F G (J.o.1.mono (fun g D _=>⟨fun e=>by have:=B.o.1.lt e;have D:A<=g:=D;omega,hZ g (by have D:A<=g:=D;have h4:W<=A.heap.size:=B.o.2.1.keeps.size;omega)⟩)) K).mono ?_;rintro e w9 ⟨d,rfl,T⟩))
   all_goals
    go_wp2;go_ret;exact⟨d,rfl,zhd ⟨by rw[hE.o];exact T.o.1,B.o.2.1.trans ((MK.ext J.o.2).trans T.o.2)⟩⟩
theorem yjP
  {Z:Nat->Prop}(b:Nat)(v:MV)(p:Img)(s:MS)(W:World)(M:MX TT Z W b v p s)
  (a:Nat)(hc:p.code[s.at_]? =some ⟨11,a⟩)(nm:ByteArray)(od ii oo:Int)(hof:ofL 11=(⟨nm,od,ii,oo,false,false,true⟩,true))(s':MS)(hs':s'={s with at_:=a}):
  Calls Tryz.prog 139 #[.pointer (some ⟨b,0,none⟩)] W (MP Z W b v p (.bool true) s')
  :=by
 have Y:=zhd (ybb 11 _ _ hof);have E:=zhd hs';clear hof hs';obtain⟨g,U,I,_,l,_,i,f⟩:=M.img.code_at (znv _ _) hc;have H:=M.img.lens.1;have c1:W.cell? ⟨b,1,none⟩=some (.slice v.ic.ca v.ic.cn v.ic.cc):=M.cell (k:=1) rfl;rw[I,H]at c1;have X:W.cell? ⟨b,6,none⟩=some (.int .i64 (s.at_:Int)):=M.cell (k:=6) rfl;have x:=zlt M.h;have V:(s.at_:Int)<(p.code.length:Int):=by have:=(zge hc).1;omega
 have c:=zhd M;clear M I H hc;go_in;go_upto_region 1 with(fail);go_region
 all_goals
  go_upto_region 2 with(fail);refine yaa ?_;intro w1 F;have T:Below W W w1:=by rw[F];exact(zal).drew
  have D:w1.heap[W.heap.size]? =some (.cells #[.int .i64 11,(a:Int)] 106 (0,0)):=by rw[F];exact znb _ _
  have Q:=zca D 0 rfl;have N:=zlt D;have O:=zh2 T D;clear F T D;go_wp2_with fail;refine(Y.o _).mono ?_;rintro e d ⟨rfl,G⟩;have J:=(G.block W N).trans O.o.2;have L:=zh2 (O.o.1.trans (G.mono O.o.1.size)) J;clear G J Q N;go_upto_region 3 with(fail);refine yaa ?_;intro w3 C;have P:Below W W w3:=by rw[C];exact L.o.1.alloc L.o.1.size _
  have A:=zha C;have B:w3.heap[W.heap.size]? =some (.cells #[.int .i64 11,(a:Int)] 106 (0,0)):=by rw[C];exact(zne _ _ _ (zlt L.o.2)).trans L.o.2
  have q:=zca A 4 rfl;have n:=zca A 5 rfl;have m:=zca A 6 rfl;have Q:=zca B 0 rfl;have t:=zca B 1 rfl;have j:=zlt A;have N:=zlt B;have S:=c.o.ext P;have K:=zh3 P S B;clear C P A B S;have X:w3.cell? ⟨b,6,none⟩=some (.int .i64 (s.at_:Int)):=K.o.2.1.cell (k:=6) rfl;have r:∀o,w3.frozen? ⟨b,o,none⟩=false:=fun o=>K.o.2.1.frozen o;have u:=zlt K.o.2.1.h;have R:=zhd (K.o.2.1.scalar 6 (.int .i64 (a:Int)) s' (by rw[E.o];rfl) (by rw[E.o]) (by rw[E.o]) (by rw[E.o]) (by rw[E.o]) (by rw[E.o]) (by rw[E.o]) (by rw[E.o]));go_wp2;go_ret;exact⟨v,rfl,zhd ⟨R.o.1,(MK.ext K.o.1).trans R.o.2⟩⟩
theorem ybh
  {Z:Nat->Prop}(b:Nat)(v:MV)(p:Img)(s:MS)(W:World)(M:MX TT Z W b v p s)
  (op a:Int)(hc:p.code[s.at_]? =some ⟨op,a⟩)(nm:ByteArray)(od ii oo:Int)(hof:ofL op=(⟨nm,od,ii,oo,false,false,false⟩,true))(hat:s.at_<=4294967296)(hk:s.stk.length<=4294967296)(s':MS)(fn:Nat)
  (hd:(fn=163/\(op=17\/op=19\/op=20))\/(fn=164/\(op=5\/op=6\/op=7\/op=8\/op=9\/op=10\/op=29\/op=30\/op=31\/op=32)))
  (WT:∀(W':World) (v':MV),MX TT Z W' b v' p s.nxt->W<=W'.heap.size->Calls Tryz.prog fn #[.pointer (some ⟨b,0,none⟩),.agg #[op,a]] W' (MP Z W' b v' p (.bool true) s')):
  Calls Tryz.prog 139 #[.pointer (some ⟨b,0,none⟩)] W (MP Z W b v p (.bool true) s')
  :=by
 have Y:=zhd WT;clear WT;have HD:=zhd hd;have Aa:wrap64 ((s.at_:Int)+1)=(s.at_:Int)+1:=by unfold wrap64;omega
 have OF:=zhd (ybb op _ _ hof);clear hof hd;obtain⟨g,r,L,_,y,_,u,t⟩:=M.img.code_at (znv _ _) hc;have K:=M.img.lens.1;have c1:W.cell? ⟨b,1,none⟩=some (.slice v.ic.ca v.ic.cn v.ic.cc):=M.cell (k:=1) rfl;rw[L,K]at c1;have j:W.cell? ⟨b,6,none⟩=some (.int .i64 (s.at_:Int)):=M.cell (k:=6) rfl;have b0:=zlt M.h;have U:(s.at_:Int)<(p.code.length:Int):=by have:=(zge hc).1;omega
 have HX:=zhd M;clear M L K hc;go_in;go_upto_region 1 with(fail);go_region
 all_goals
  go_upto_region 2 with(fail);refine yaa ?_;intro w1 H;have n:Below W W w1:=by rw[H];exact(zal).drew
  have F:w1.heap[W.heap.size]? =some (.cells #[op,a] 106 (0,0)):=by rw[H];exact znb _ _
  have X:=zca F 0 rfl;have Q:=zlt F;have c:=zh2 n F;clear H n F;go_wp2_with fail;refine(OF.o _).mono ?_;rintro e w2 ⟨rfl,I⟩;have N:=(I.block W Q).trans c.o.2;have S:=zh2 (c.o.1.trans (I.mono c.o.1.size)) N;clear I N X Q;go_upto_region 3 with(fail);refine yaa ?_;intro w3 E;have d:Below W W w3:=by rw[E];exact S.o.1.alloc S.o.1.size _
  have B:=zha E;have D:w3.heap[W.heap.size]? =some (.cells #[op,a] 106 (0,0)):=by rw[E];exact(zne _ _ _ (zlt S.o.2)).trans S.o.2
  have f4:=zca B 4 rfl;have f5:=zca B 5 rfl;have z:=zca B 6 rfl;have X:=zca D 0 rfl;have e1:=zca D 1 rfl;have x:=zlt B;have Q:=zlt D;have m:=HX.o.ext d;have J:=zh3 d m D;clear E d B D m;have j:w3.cell? ⟨b,6,none⟩=some (.int .i64 (s.at_:Int)):=J.o.2.1.cell (k:=6) rfl;have f0:∀o,w3.frozen? ⟨b,o,none⟩=false:=fun o=>J.o.2.1.frozen o;have b3:=zlt J.o.2.1.h;go_upto_region 14 with(fail);refine yaa ?_;intro f G;have O:=J.o.2.1.scalar 6 (.int .i64 ((s.at_:Int)+1)) s.nxt rfl rfl rfl rfl rfl rfl rfl rfl;rw[<-G]at O;have C:f.heap[W.heap.size]? =some (.cells #[op,a] 106 (0,0)):=by
   rw[G,znn _ _ _ _ (fun e=>by have e:W.heap.size=b:=e;omega)];exact J.o.2.2
  have g0:=zca C 0 rfl;have g1:=zca C 1 rfl;have y:=zlt C;have R:=zh3 O.1 ((MK.ext J.o.1).trans O.2) C;have b4:=zlt O.1.h;have i:s.nxt.stk.length<=4294967296:=hk;clear O G C f4 f5 z X e1 j f0 b3 x Q c1 u t U;have l:=zhd (Y.o f v R.o.1 R.o.2.1.keeps.size);rcases HD.o with⟨V,A⟩|⟨V,A⟩
  .subst V
   rcases A with A|A|A
   all_goals
    subst A;go_wp2_with fail;refine l.o.mono ?_;rintro e q ⟨T,rfl,P⟩;go_wp2;go_ret;exact⟨T,rfl,zhd ⟨P.o.1,R.o.2.1.trans P.o.2⟩⟩
  .subst V
   rcases A with A|A|A|A|A|A|A|A|A|A
   all_goals
    subst A;go_wp2_with fail;refine l.o.mono ?_;rintro e q ⟨T,rfl,P⟩;go_wp2;go_ret;exact⟨T,rfl,zhd ⟨P.o.1,R.o.2.1.trans P.o.2⟩⟩
theorem ygQ
  {Z:Nat->Prop}(b:Nat)(v:MV)(p:Img)(s:MS)(W:World)(M:MX TT Z W b v p s)
  (op:Int)(h11:(op==11)=false)(a:Nat)(hc:p.code[s.at_]? =some ⟨op,a⟩)(nm:ByteArray)(od ii oo:Int)(hof:ofL op=(⟨nm,od,ii,oo,false,false,true⟩,true))(hat:s.at_<=4294967296)(s':MS)(hs':s'=bif ycE s.top then s.pop.nxt else{s.pop with at_:=a}):
  Calls Tryz.prog 139 #[.pointer (some ⟨b,0,none⟩)] W (MP Z W b v p (.bool true) s')
  :=by
 have Aa:wrap64 ((s.at_:Int)+1)=(s.at_:Int)+1:=by unfold wrap64;omega
 have OF:=zhd (ybb op _ _ hof);have A:=zhd hs';clear hof hs';obtain⟨g,m,L,_,gl,_,m0,m1⟩:=M.img.code_at (znv _ _) hc;have K:=M.img.lens.1;have c1:W.cell? ⟨b,1,none⟩=some (.slice v.ic.ca v.ic.cn v.ic.cc):=M.cell (k:=1) rfl;rw[L,K]at c1;have z:W.cell? ⟨b,6,none⟩=some (.int .i64 (s.at_:Int)):=M.cell (k:=6) rfl;have b0:=zlt M.h;have t:(s.at_:Int)<(p.code.length:Int):=by have:=(zge hc).1;omega
 have i:=zhd M;clear M L K hc;go_in;go_upto_region 1 with(fail);go_region
 all_goals
  go_upto_region 2 with(fail);refine yaa ?_;intro w1 G;have j:Below W W w1:=by rw[G];exact(zal).drew
  have E:w1.heap[W.heap.size]? =some (.cells #[op,(a:Int)] 106 (0,0)):=by rw[G];exact znb _ _
  have d:=zca E 0 rfl;have Q:=zlt E;have V:=zh2 j E;clear G j E;go_wp2_with fail;refine(OF.o _).mono ?_;rintro e w2 ⟨rfl,J⟩;have N:=(J.block W Q).trans V.o.2;have U:=zh2 (V.o.1.trans (J.mono V.o.1.size)) N;clear J N d Q;go_upto_region 3 with(fail);refine yaa ?_;intro w3 D;have X:Below W W w3:=by rw[D];exact U.o.1.alloc U.o.1.size _
  have B:=zha D;have C:w3.heap[W.heap.size]? =some (.cells #[op,(a:Int)] 106 (0,0)):=by rw[D];exact(zne _ _ _ (zlt U.o.2)).trans U.o.2
  have f4:=zca B 4 rfl;have f5:=zca B 5 rfl;have f6:=zca B 6 rfl;have d:=zca C 0 rfl;have u:=zca C 1 rfl;have il:=zlt B;have Q:=zlt C;have f:=i.o.ext X;have T:=zh3 X f C;clear D X B C f;have PO:=zhd (yai b v p s w3 T.o.2.1);cases hr:ycE s.top
  all_goals
   go_wp2_with fail;refine PO.o.mono ?_;rintro e l ⟨c,⟨y,cn,x,r,n,q⟩,rfl,S⟩;have I:=(S.o.2.1.keeps.block W Q (fun e=>by have:=i.o.lt e;omega)).trans T.o.2.2;have TR:=zhd (yhW s.top y cn x r n q _ l S.o.2.2 _ hr);go_wp2_with fail;refine TR.o.mono ?_;rintro e Y ⟨rfl,F⟩;have P:=S.o.1.ext F;have H:=(F.block W (zlt I)).trans I;have u:=zca H 1 rfl;have z:Y.cell? ⟨b,6,none⟩=some (.int .i64 (s.at_:Int)):=P.cell (k:=6) rfl;have f0:∀o,Y.frozen? ⟨b,o,none⟩=false:=fun o=>P.frozen o;have b6:=zlt P.h;have l6:=zlt H;have R:=zh2 P (S.o.2.1.trans (MK.ext F));clear I H F P
  .have A:=zhd (show s'={s.pop with at_:=a} by rw[A.o,hr];rfl)
   have O:=zhd (R.o.1.scalar 6 (.int .i64 (a:Int)) s' (by rw[A.o];rfl) (by rw[A.o]) (by rw[A.o]) (by rw[A.o]) (by rw[A.o]) (by rw[A.o]) (by rw[A.o]) (by rw[A.o]));clear hr;go_wp2;go_ret;exact⟨c,rfl,zhd ⟨O.o.1,(MK.ext T.o.1).trans (R.o.2.trans O.o.2)⟩⟩
  .have A:=zhd (show s'=s.pop.nxt by rw[A.o,hr];rfl)
   have O:=zhd (R.o.1.scalar 6 (.int .i64 ((s.at_:Int)+1)) s' (by rw[A.o];rfl) (by rw[A.o];rfl) (by rw[A.o];rfl) (by rw[A.o];rfl) (by rw[A.o];rfl) (by rw[A.o];rfl) (by rw[A.o];rfl) (by rw[A.o];rfl));clear hr;go_wp2;go_ret;exact⟨c,rfl,zhd ⟨O.o.1,(MK.ext T.o.1).trans (R.o.2.trans O.o.2)⟩⟩
def MPS (Z:Nat->Prop)(W:World)(b:Nat)(v:MV)(p:Img)(x:Val)(s':MS)(e:Ending)(w':World):Prop:=∃(ss:Value) (c:VC),e= .returned (.agg #[c.kind,c.n,c.s,.slice c.la c.ln c.lc])/\Hid (MX TT Z w' b {v with ss:=ss} p s'/\MK b v W {v with ss:=ss} w'/\CF (MZ Z {v with ss:=ss} b) w' c x)
theorem yi2
  {Z:Nat->Prop}(b:Nat)(v:MV)(p:Img)(s:MS)(W:World)(M:MX TT Z W b v p s)
  :Calls Tryz.prog 159 #[.pointer (some ⟨b,0,none⟩)] W (MPS Z W b v p s.top s.pop):=by
 obtain⟨Y,ic,r,c,q,m,ls,u⟩:=v;obtain⟨a,cap,rfl⟩:∃a cap,Y= .slice a s.stk.length cap:=M.stk.slice;obtain⟨ks,C,E⟩:=M.stk.cells;have b1:=zlt M.h;have c1:W.cell? ⟨b,0,none⟩=some (.slice a s.stk.length cap):=M.cell (k:=0) rfl;have f0:∀o,W.frozen? ⟨b,o,none⟩=false:=fun o=>M.frozen o;have I:=zh3 M C E;by_cases h0:s.stk.length=0
 .have J:s.stk=[]:=List.length_eq_zero_iff.1 h0
  have F:s.top=yag:=by unfold MS.top;rw[J];rfl
  have V:s.pop=s:=by unfold MS.pop;rw[J];simp only[List.dropLast_nil];rw[<-J]
  have D:=zh2 F V;have R:((s.stk.length:Int)==0)=true:=by rw[beq_iff_eq];omega
  clear J F V C E M h0;go_in;go_wp2_with fail;exact zng (v:=.agg #[.int .i64 0,.int .i64 0,.string ⟨#[]⟩,.slice none 0 0]) (by simp only[results,Tryz.results159];go_simp) rfl ⟨.slice a s.stk.length cap,⟨0,0,⟨#[]⟩,none,0,0⟩,rfl,zhd (by
   have B:Below W W _:=(znv W.heap.size W).alloc (znc _) (.cells #[.int .i64 0,.int .i64 0,.string ⟨#[]⟩,.slice none 0 0] 38);rw[D.o.1,D.o.2];exact⟨I.o.1.ext B,MK.ext B,yaH _ _⟩)⟩
 .obtain⟨n,K⟩:∃n,s.stk.length=n+1:=⟨s.stk.length - 1,by omega⟩
  obtain⟨x,P⟩:=yac (l:=s.stk) (k:=n) (by omega);obtain⟨⟨U,T,S,O,L,N⟩,Q,X⟩:=E.get P;obtain⟨g,A,rfl,hg⟩:=C.addr Q;have H:=fun(j:Nat) (hj:j<4)=>C.cell Q (j:=j) hj;have m0:W.cell? ⟨g,A+n*4,none⟩=some (.int .i64 U):=H 0 (by decide);have m1:W.cell? ⟨g,A+n*4+1,none⟩=some (.int .i64 T):=by rw[zmm];exact H 1 (by decide)
  have z:W.cell? ⟨g,A+n*4+2,none⟩=some (.string S):=by rw[zmm];exact H 2 (by decide)
  have y:W.cell? ⟨g,A+n*4+3,none⟩=some (.slice O L N):=by rw[zmm];exact H 3 (by decide)
  have F:s.top=x:=by
   unfold MS.top;rw[List.getLast?_eq_getElem?,show s.stk.length - 1=n from by omega,P];rfl
  have D:=zh3 F X K;have t:¬g=b:=fun e=>absurd (I.o.1.sep 1 0 g rfl (by rw[e];rfl)) (by decide);rw[K]at c1;have R:(((n+1:Nat):Int)==0)=false:=by rw[zna];omega
  have G:(n:Int)<9223372036854775807:=by
   have i:=C.length_le;have:=E.1;unfold maxLen at i;omega
  have d:wrap64 (n:Int)=(n:Int):=by unfold wrap64;omega
  clear G;obtain⟨f,_⟩:=ykV yfD (K▸C) (k:=n) (by have:=E.1;omega);clear X F Q P H C E M K;go_in;go_wp2_with fail;exact zng (v:=.agg #[U,T,S,.slice O L N]) (by simp only[results,Tryz.results159];go_simp) rfl ⟨.slice (some ⟨g,A,none⟩) n n,⟨U,T,S,O,L,N⟩,rfl,zhd (by
   have C:=I.o.2.1;rw[D.o.2.2]at C;rw[D.o.1];exact yj4 (n:=n+1) (x:=x) (wx:=W) I.o.1 (by rw[D.o.2.2]) D.o.2.2 C I.o.2.2 D.o.2.1 (znv _ _) ((((Keeps.refl (fun j=>W<=j) _).alloc _).alloc _)))⟩
theorem MX.box {T:MT}{Z:Nat->Prop}{W:World}{b X o:Nat}{u:Value}{v:MV}{p:Img}{s:MS}(M:MX T Z W b v p s)(h1:¬MO v b X)(h2:¬Z X):MX T Z (W.setCell ⟨X,o,none⟩ u) b v p s:=
 M.far (S:=fun j=>j=X) (Keeps.setCell (S:=fun j=>j=X) (p:=⟨X,o,none⟩) (Keeps.refl _ _) (.inl rfl) _) (fun _ e=>e▸h1) (fun _ e=>e▸h2)
theorem MX.allo {T:MT}{Z:Nat->Prop}{W:World}{b:Nat}{v:MV}{p:Img}{s:MS}(M:MX T Z W b v p s)(o:Obj):MX T Z (W.alloc o) b v p s:=M.ext (zal)
theorem MK.box {b X o:Nat}{u:Value}{v v':MV}{W w1:World}(K:MK b v W v' w1)(h:W<=X):MK b v W v' (w1.setCell ⟨X,o,none⟩ u):=K.late (Keeps.setCell (S:=fun j=>W<=j) (p:=⟨X,o,none⟩) (Keeps.refl _ _) (.inl h) _)
theorem MK.allo {b:Nat}{v v':MV}{W w1:World}(K:MK b v W v' w1)(o:Obj):MK b v W v' (w1.alloc o):=K.late ((Keeps.refl _ _).alloc _)
theorem MK.drw {b:Nat}{v v':MV}{W w1:World}(K:MK b v W v' w1):MK b v W v' w1.drew:=K.late ((zkb (S:=fun _=>False) (znv _ _).drew).mono (fun _ _ f=>f.elim))
theorem ymF {F:Nat->Prop}{w:World}{X o:Nat}{u:Value}{c:VC}{x:Val}(C:CF F w c x)(h:¬F X):CF F (w.setCell ⟨X,o,none⟩ u) c x:=C.keep (Keeps.setCell (S:=fun j=>j=X) (p:=⟨X,o,none⟩) (Keeps.refl _ _) (.inl rfl) _) (fun _ hg e=>h (e▸hg))
theorem yhz {F:Nat->Prop}{w:World}{c:VC}{x:Val}(C:CF F w c x)(o:Obj):CF F (w.alloc o) c x:=C.keep (S:=fun _=>False) ((Keeps.refl _ _).alloc _) (fun _ _ f=>f)
theorem yh7
  {Z:Nat->Prop}(b:Nat)(v:MV)(p:Img)(s:MS)(W:World)(M:MX TT Z W b v p s)
  :Calls Tryz.prog 159 #[.pointer (some ⟨b,0,none⟩)] W (fun e w'=>∃(v':MV) (ck cn:Int) (cs:ByteArray) (la:Option Addr) (ln lc:Nat),e= .returned (.agg #[ck,cn,cs,.slice la ln lc])/\Hid (MX TT Z w' b v' p s.pop/\MK b v W v' w'/\CF (MZ Z v' b) w' ⟨ck,cn,cs,la,ln,lc⟩ s.top)/\
   (∀X,X<W.heap.size->¬MO v b X->∀o,w'.cell? ⟨X,o,none⟩=W.cell? ⟨X,o,none⟩)/\(∀X,X<W.heap.size->¬MO v b X->∀o,w'.frozen? ⟨X,o,none⟩=W.frozen? ⟨X,o,none⟩)/\(∀X,X<W.heap.size->X<w'.heap.size)):=
 (yai b v p s W M).mono fun _ _ ⟨v',⟨ck,cn,cs,la,ln,lc⟩,he,H⟩=>⟨v',ck,cn,cs,la,ln,lc,he,H,fun X h1 h2 o=>H.o.2.1.keeps.cell (p:=⟨X,o,none⟩) h1 h2,fun X h1 h2 o=>H.o.2.1.keeps.frozen (p:=⟨X,o,none⟩) h1 h2,fun _ h=>znj h H.o.2.1.keeps.size⟩
def ypy (Z:Nat->Prop)(b:Nat)(v:MV)(p:Img)(s:MS)(w4:World)(v6 v7:Value)(wx:World):Prop:=
 ∃(B6 B7:Nat) (vv:MV) (c d:VC),v6= .pointer (some ⟨B6,0,none⟩)/\v7= .pointer (some ⟨B7,0,none⟩)/\Hid ((wx.cell? ⟨B6,0,none⟩=some (.int .i64 c.kind)/\wx.cell? ⟨B6,1,none⟩=some (.int .i64 c.n)/\wx.cell? ⟨B6,2,none⟩=some (.string c.s)/\wx.cell? ⟨B6,3,none⟩=some (.slice c.la c.ln c.lc)/\B6<wx.heap.size)/\
  (wx.cell? ⟨B7,0,none⟩=some (.int .i64 d.kind)/\wx.cell? ⟨B7,1,none⟩=some (.int .i64 d.n)/\wx.cell? ⟨B7,2,none⟩=some (.string d.s)/\wx.cell? ⟨B7,3,none⟩=some (.slice d.la d.ln d.lc)/\B7<wx.heap.size)/\
  ¬MO vv b B7/\MX TT Z wx b vv p s.pop.pop/\MK b v w4 vv wx/\CF (MZ Z vv b) wx c s.top/\CF (MZ Z vv b) wx d s.pop.top)
theorem yjN
  {Z:Nat->Prop}(b:Nat)(v:MV)(p:Img)(s:MS)(W:World)(M:MX TT Z W b v p s)
  (op a:Int)(hop:op=4)(hc:p.code[s.at_]? =some ⟨op,a⟩)(nm:ByteArray)(od ii oo:Int)(hof:ofL op=(⟨nm,od,ii,oo,false,false,false⟩,true))(hat:s.at_<=4294967296)(hk:s.stk.length<=4294967296)(s':MS)
  (hs':s'=(s.nxt.pop.pop.push s.nxt.top).push s.nxt.pop.top)(h2:2<=s.stk.length):
  Calls Tryz.prog 139 #[.pointer (some ⟨b,0,none⟩)] W (MP Z W b v p (.bool true) s')
  :=by
 have Ab:s.nxt.pop.pop.stk.length<=4294967296:=by
  show(s.stk.dropLast).dropLast.length<=_;simp;omega
 have Aa:(s.nxt.pop.pop.push s.nxt.top).stk.length<=4294967296:=by
  show((s.stk.dropLast).dropLast++[_]).length<=_;rw[znk,zmh,zmi,zmi];omega
 have Ae:=zhd hop;have hE:=zhd hs';clear hop hs';have A2:wrap64 ((s.at_:Int)+1)=(s.at_:Int)+1:=by unfold wrap64;omega
 have OF:=zhd (ybb op _ _ hof);clear hof;obtain⟨g,Ah,y,_,gl,_,m0,m1⟩:=M.img.code_at (znv _ _) hc;have u:=M.img.lens.1;have c1:W.cell? ⟨b,1,none⟩=some (.slice v.ic.ca v.ic.cn v.ic.cc):=M.cell (k:=1) rfl;rw[y,u]at c1;have c6:W.cell? ⟨b,6,none⟩=some (.int .i64 (s.at_:Int)):=M.cell (k:=6) rfl;have b0:=zlt M.h;have Ac:(s.at_:Int)<(p.code.length:Int):=by have:=(zge hc).1;omega
 have HX:=zhd M;clear M y u hc;go_in;go_upto_region 1 with(fail);go_region
 all_goals
  go_upto_region 2 with(fail);refine yaa ?_;intro w1 T;have B1:Below W W w1:=by rw[T];exact(zal).drew
  have N:w1.heap[W.heap.size]? =some (.cells #[op,a] 106 (0,0)):=by rw[T];exact znb _ _
  have e0:=zca N 0 rfl;have el:=zlt N;have H1:=zh2 B1 N;clear T B1 N;go_wp2_with fail;refine(OF.o _).mono ?_;rintro e w2 ⟨rfl,i⟩;have z:=(i.block W el).trans H1.o.2;have H2:=zh2 (H1.o.1.trans (i.mono H1.o.1.size)) z;clear i z e0 el;go_upto_region 3 with(fail);refine yaa ?_;intro w3 L;have B3:Below W W w3:=by rw[L];exact H2.o.1.alloc H2.o.1.size _
  have D:=zha L;have H:w3.heap[W.heap.size]? =some (.cells #[op,a] 106 (0,0)):=by rw[L];exact(zne _ _ _ (zlt H2.o.2)).trans H2.o.2
  have f4:=zca D 4 rfl;have f5:=zca D 5 rfl;have f6:=zca D 6 rfl;have e0:=zca H 0 rfl;have e1:=zca H 1 rfl;have il:=zlt D;have el:=zlt H;have M3:=HX.o.ext B3;have r:=zh3 B3 M3 H;clear L B3 D H M3;have c6:w3.cell? ⟨b,6,none⟩=some (.int .i64 (s.at_:Int)):=r.o.2.1.cell (k:=6) rfl;have f0:∀o,w3.frozen? ⟨b,o,none⟩=false:=fun o=>r.o.2.1.frozen o;have b3:=zlt r.o.2.1.h;go_upto_region 14 with(fail);refine yaa ?_;intro w4 R;have S4:=r.o.2.1.scalar 6 (.int .i64 ((s.at_:Int)+1)) s.nxt rfl rfl rfl rfl rfl rfl rfl rfl;rw[<-R]at S4;have G:w4.heap[W.heap.size]? =some (.cells #[op,a] 106 (0,0)):=by
   rw[R,znn _ _ _ _ (fun e=>by have e:W.heap.size=b:=e;omega)];exact r.o.2.2
  have g0:=zca G 0 rfl;have g1:=zca G 1 rfl;have gl:=zlt G;have H4:=zh3 S4.1 ((MK.ext r.o.1).trans S4.2) G;have b4:=zlt S4.1.h;have Ag:s.nxt.stk.length<=4294967296:=hk;clear S4 R G f4 f5 f6 e0 e1 c6 f0 b3 il el c1 m0 m1 Ac;have hop:=Ae.o;subst hop;obtain⟨P,O⟩:∃P:Nat->Prop,P=fun j=>Z j/\j<w4:=⟨_,rfl⟩;have M4:MX TT P w4 b v p s.nxt:=by rw[O];exact H4.o.1.cut
  have t:∀X,w4.heap.size<=X->¬P X:=fun X h e=>by rw[O]at e;have:=e.2;omega
  have l:=zh3 M4 O t;have B:∀X,w4.heap.size<=X->¬MO v b X:=fun X h e=>by have:=M4.lt e;omega
  clear M4 t O;go_upto_region 23 with(fail);go_cut [6,7] (fun I v7 wx=>ypy P b v p s.nxt w4 I v7 wx)
  case first=>
   go_region_law (first
    |(go_simp;go_at_call 159;refine(yh7 (Z:=P) b n p s.nxt.pop _ ?_).mono ?_;(repeat(first|exact m.o.1|refine MX.allo ?_ _|refine MX.box ?_ (by first|exact A _ (by omega)|exact x0|exact x1) (l.o.2.2 _ (by omega))));rintro e w6 ⟨I,dk,dn,ds,ma,mn,mc,rfl,K,F,E,C⟩;(try(refine have k0:w4<w6.heap.size:= ?_; ?_;(focus (refine C _ ?_;(first|assumption|(simp;done)|(simp;omega))))));(try(refine have p0:=F w4.heap.size ?_ ?_; ?_;(focus (first|assumption|(simp;done)|(simp;omega)));(focus (exact x0))));(try(refine have q0:=E w4.heap.size ?_ ?_; ?_;(focus (first|assumption|(simp;done)|(simp;omega)));(focus (exact x0))));(try(refine have f0:¬MO I b w4.heap.size:= ?_; ?_;(focus (intro e;rcases K.o.2.1.own _ e with h|h;(focus (exact x0 h));(focus (first|omega|(simp at h;done)|(simp at h;omega)))))));(try(refine have e0:¬w4.heap.size=w6.heap.size:= ?_; ?_;(focus (omega))));(try(refine have Au:¬w6.heap.size=w4.heap.size:= ?_; ?_;(focus (omega))));(try(refine have At:¬w4.heap.size=w6.heap.size+1:= ?_; ?_;(focus (omega))));(try(refine have As:¬w6.heap.size+1=w4.heap.size:= ?_; ?_;(focus (omega))));(try(refine have k1:(w4.heap.size+1)<w6.heap.size:= ?_; ?_;(focus (refine C _ ?_;(first|assumption|(simp;done)|(simp;omega))))));(try(refine have p1:=F (w4.heap.size+1) ?_ ?_; ?_;(focus (first|assumption|(simp;done)|(simp;omega)));(focus (exact x1))));(try(refine have q1:=E (w4.heap.size+1) ?_ ?_; ?_;(focus (first|assumption|(simp;done)|(simp;omega)));(focus (exact x1))));(try(refine have f1:¬MO I b (w4.heap.size+1):= ?_; ?_;(focus (intro e;rcases K.o.2.1.own _ e with h|h;(focus (exact x1 h));(focus (first|omega|(simp at h;done)|(simp at h;omega)))))));(try(refine have e1:¬(w4.heap.size+1)=w6.heap.size:= ?_; ?_;(focus (omega))));(try(refine have Ar:¬w6.heap.size=(w4.heap.size+1):= ?_; ?_;(focus (omega))));(try(refine have Aq:¬(w4.heap.size+1)=w6.heap.size+1:= ?_; ?_;(focus (omega))));(try(refine have Ap:¬w6.heap.size+1=(w4.heap.size+1):= ?_; ?_;(focus (omega))));(try(refine have k2:w5<w6.heap.size:= ?_; ?_;(focus (refine C _ ?_;(first|assumption|(simp;done)|(simp;omega))))));(try(refine have p2:=F w5.heap.size ?_ ?_; ?_;(focus (first|assumption|(simp;done)|(simp;omega)));(focus (exact(A _ (znc _))))));(try(refine have q2:=E w5.heap.size ?_ ?_; ?_;(focus (first|assumption|(simp;done)|(simp;omega)));(focus (exact(A _ (znc _))))));(try(refine have f2:¬MO I b w5.heap.size:= ?_; ?_;(focus (intro e;rcases K.o.2.1.own _ e with h|h;(focus (exact(A _ (znc _)) h));(focus (first|omega|(simp at h;done)|(simp at h;omega)))))));(try(refine have e2:¬w5.heap.size=w6.heap.size:= ?_; ?_;(focus (omega))));(try(refine have Ao:¬w6.heap.size=w5.heap.size:= ?_; ?_;(focus (omega))));(try(refine have An:¬w5.heap.size=w6.heap.size+1:= ?_; ?_;(focus (omega))));(try(refine have Am:¬w6.heap.size+1=w5.heap.size:= ?_; ?_;(focus (omega))));(try(refine have k3:(w5.heap.size+1)<w6.heap.size:= ?_; ?_;(focus (refine C _ ?_;(first|assumption|(simp;done)|(simp;omega))))));(try(refine have p3:=F (w5.heap.size+1) ?_ ?_; ?_;(focus (first|assumption|(simp;done)|(simp;omega)));(focus (exact(A _ (Nat.le_succ _))))));(try(refine have q3:=E (w5.heap.size+1) ?_ ?_; ?_;(focus (first|assumption|(simp;done)|(simp;omega)));(focus (exact(A _ (Nat.le_succ _))))));(try(refine have f3:¬MO I b (w5.heap.size+1):= ?_; ?_;(focus (intro e;rcases K.o.2.1.own _ e with h|h;(focus (exact(A _ (Nat.le_succ _)) h));(focus (first|omega|(simp at h;done)|(simp at h;omega)))))));(try(refine have e3:¬(w5.heap.size+1)=w6.heap.size:= ?_; ?_;(focus (omega))));(try(refine have Al:¬w6.heap.size=(w5.heap.size+1):= ?_; ?_;(focus (omega))));(try(refine have Ak:¬(w5.heap.size+1)=w6.heap.size+1:= ?_; ?_;(focus (omega))));(try(refine have Aj:¬w6.heap.size+1=(w5.heap.size+1):= ?_; ?_;(focus (omega))));clear F E C)
    |(go_simp;go_at_call 159;refine(yh7 (Z:=P) b v p s.nxt _ ?_).mono ?_;(repeat(first|exact l.o.1|refine MX.allo ?_ _|refine MX.ext ?_ (znv _ _).drew));rintro e w5 ⟨n,ck,cn,cs,la,ln,lc,rfl,m,d,Y,V⟩;have A:∀X,w5.heap.size<=X->¬MO n b X:=(fun X h e=>by have:=m.o.1.lt e;omega);have U:w4<=w5.heap.size:=(by have:=m.o.2.1.keeps.size;simp at this;omega);(try(refine have g0:w4<w5.heap.size:= ?_; ?_;(focus (refine V _ ?_;(first|(simp;done)|(simp;omega))))));(try(refine have z0:=d w4.heap.size ?_ ?_; ?_;(focus (first|(simp;done)|(simp;omega)));(focus (refine B _ ?_;omega))));(try(refine have y0:=Y w4.heap.size ?_ ?_; ?_;(focus (first|(simp;done)|(simp;omega)));(focus (refine B _ ?_;omega))));(try(refine have x0:¬MO n b w4.heap.size:= ?_; ?_;(focus (intro e;rcases m.o.2.1.own _ e with h|h;(focus (exact B _ (znc _) h));(focus (first|omega|(simp at h;done)|(simp at h;omega)))))));(try(refine have d0:¬w4.heap.size=w5.heap.size:= ?_; ?_;(focus (omega))));(try(refine have A1:¬w5.heap.size=w4.heap.size:= ?_; ?_;(focus (omega))));(try(refine have A0:¬w4.heap.size=w5.heap.size+1:= ?_; ?_;(focus (omega))));(try(refine have Az:¬w5.heap.size+1=w4.heap.size:= ?_; ?_;(focus (omega))));(try(refine have g1:(w4.heap.size+1)<w5.heap.size:= ?_; ?_;(focus (refine V _ ?_;(first|(simp;done)|(simp;omega))))));(try(refine have z1:=d (w4.heap.size+1) ?_ ?_; ?_;(focus (first|(simp;done)|(simp;omega)));(focus (refine B _ ?_;omega))));(try(refine have y1:=Y (w4.heap.size+1) ?_ ?_; ?_;(focus (first|(simp;done)|(simp;omega)));(focus (refine B _ ?_;omega))));(try(refine have x1:¬MO n b (w4.heap.size+1):= ?_; ?_;(focus (intro e;rcases m.o.2.1.own _ e with h|h;(focus (exact B _ (Nat.le_add_right _ _) h));(focus (first|omega|(simp at h;done)|(simp at h;omega)))))));(try(refine have d1:¬(w4.heap.size+1)=w5.heap.size:= ?_; ?_;(focus (omega))));(try(refine have Ay:¬w5.heap.size=(w4.heap.size+1):= ?_; ?_;(focus (omega))));(try(refine have Ax:¬(w4.heap.size+1)=w5.heap.size+1:= ?_; ?_;(focus (omega))));(try(refine have Av:¬w5.heap.size+1=(w4.heap.size+1):= ?_; ?_;(focus (omega))));clear d Y V))
   all_goals
    go_wp2_with fail;go_meet
    case rel=>
     have K5:MK b v w4 n w5:=by
      refine MK.trans ?_ m.o.2.1
      repeat(with_reducible first|exact MK.refl _ _ _|refine MK.allo ?_ _|refine MK.drw ?_)
     have K6:MK b v w4 I w6:=by
      refine MK.trans (v':=n) ?_ K.o.2.1
      repeat(with_reducible first|exact K5|refine MK.allo ?_ _)
     have C6:=CF.step K.o.2.1 (c:=⟨ck,cn,cs,la,ln,lc⟩) (x:=s.nxt.top) (by repeat(with_reducible first|exact m.o.2.2|refine yhz ?_ _));have Ai:=K6.keeps.size;have f6:¬MO I b w6.heap.size:=fun e=>Nat.lt_irrefl _ (K.o.1.lt e);have f7:¬MO I b (w6.heap.size+1):=fun e=>by have:=K.o.1.lt e;omega
     have c0:=l.o.2.2 w4.heap.size (znc _);have c1:=l.o.2.2 (w4.heap.size+1) (Nat.le_succ _);have c2:=l.o.2.2 w5.heap.size U;have c3:=l.o.2.2 (w5.heap.size+1) (Nat.le_succ_of_le U);have u0:w4<=w4.heap.size:=znc _;have u1:w4<=w4.heap.size+1:=Nat.le_succ _;have u3:w4<=w5.heap.size+1:=Nat.le_succ_of_le U;refine⟨_,_,I,⟨ck,cn,cs,la,ln,lc⟩,⟨dk,dn,ds,ma,mn,mc⟩,rfl,rfl,zhd ⟨⟨(by first|(go_simp;done)|(simp;done)|(simp;omega)),(by first|(go_simp;done)|(simp;done)|(simp;omega)),(by first|(go_simp;done)|(simp;done)|(simp;omega)),(by first|(go_simp;done)|(simp;done)|(simp;omega)),(by first|(go_simp;done)|(simp;done)|(simp;omega))⟩,⟨(by first|(go_simp;done)|(simp;done)|(simp;omega)),(by first|(go_simp;done)|(simp;done)|(simp;omega)),(by first|(go_simp;done)|(simp;done)|(simp;omega)),(by first|(go_simp;done)|(simp;done)|(simp;omega)),(by first|(go_simp;done)|(simp;done)|(simp;omega))⟩,(by first|assumption|(simp;assumption)),?_,?_,?_,?_⟩⟩
     .repeat(first|with_reducible exact K.o.1|with_reducible refine MX.allo ?_ _|((with_reducible refine MX.box ?_ ?_ ?_);rotate_left;(focus assumption);(focus assumption)))
     .repeat(first|with_reducible exact K6|with_reducible refine MK.allo ?_ _|((with_reducible refine MK.box ?_ ?_);rotate_left;(focus assumption)))
     .repeat(first|with_reducible exact C6|with_reducible refine yhz ?_ _|((with_reducible refine ymF ?_ ?_);rotate_left;(focus (intro h;first|exact c0 h.2|exact c1 h.2|exact c2 h.2|exact c3 h.2))))
     .repeat(first|with_reducible exact K.o.2.2|with_reducible refine yhz ?_ _|((with_reducible refine ymF ?_ ?_);rotate_left;(focus (intro h;first|exact c0 h.2|exact c1 h.2|exact c2 h.2|exact c3 h.2))))
  case rest=>
   obtain⟨B6,B7,vv,⟨ck,cn,cs,la,ln,lc⟩,⟨dk,dn,ds,ma,mn,mc⟩,rfl,rfl,J⟩:=hcut;obtain⟨q0,q1,q2,q3,ql⟩:=J.o.1;dsimp only at q0 q1 q2 q3;have PU:=zhd (yaj b vv p s.nxt.pop.pop wc.drew (J.o.2.2.2.1.ext (znv _ _).drew) s.nxt.top ck cn cs la ln lc (J.o.2.2.2.2.2.1.keep (S:=fun _=>False) (zkb (znv _ _).drew) (fun _ _ f=>f)) Ab);go_upto_region 24 with(fail);go_region_law ((go_simp;go_at_call 119;refine PU.o.mono ?_;rintro e w8 ⟨v8,rfl,H8⟩))
   all_goals
    have Q:MK b vv wc v8 w8:=(MK.ext (znv wc.heap.size wc).drew).trans H8.o.2;obtain⟨r0,r1,r2,r3,q⟩:=J.o.2.1;dsimp only at r0 r1 r2 r3;have y0:=(Q.keeps.cell (p:=⟨B7,0,none⟩) q J.o.2.2.1).trans r0;have y1:=(Q.keeps.cell (p:=⟨B7,1,none⟩) q J.o.2.2.1).trans r1;have y2:=(Q.keeps.cell (p:=⟨B7,2,none⟩) q J.o.2.2.1).trans r2;have y3:=(Q.keeps.cell (p:=⟨B7,3,none⟩) q J.o.2.2.1).trans r3;have yl:B7<w8.heap.size:=znj q Q.keeps.size;have C8:=CF.step Q J.o.2.2.2.2.2.2;have Ad:=zhd (yaj b v8 p (s.nxt.pop.pop.push s.nxt.top) w8.drew (H8.o.1.ext (znv _ _).drew) s.nxt.pop.top dk dn ds ma mn mc (C8.keep (S:=fun _=>False) (zkb (znv _ _).drew) (fun _ _ f=>f)) Aa);have Af:=zhd Q;clear r0 r1 r2 r3 q Q C8 q0 q1 q2 q3 ql;go_upto_region 25 with(fail);go_region_law ((go_simp;go_at_call 119;refine Ad.o.mono ?_;rintro e w9 ⟨v9,rfl,H9⟩))
    all_goals
     go_wp2;go_ret;refine⟨v9,rfl,zhd ⟨?_,H4.o.2.1.trans (J.o.2.2.2.2.1.trans (Af.o.trans ((MK.ext (znv w8.heap.size w8).drew).trans H9.o.2)))⟩⟩;rw[hE.o];exact H9.o.1.monoZ (fun j h _=>by have h:P j:=h;rw[l.o.2.1]at h;exact h.1)
theorem yiK
  {Z:Nat->Prop}(b:Nat)(v:MV)(p:Img)(s:MS)(W:World)(M:MX TT Z W b v p s)
  (op a:Int)(hop:op=14)(hc:p.code[s.at_]? =some ⟨op,a⟩)(nm:ByteArray)(od ii oo:Int)(hof:ofL op=(⟨nm,od,ii,oo,false,false,false⟩,true))(hat:s.at_<=4294967296)(hk:s.stk.length<=4294967296)(s':MS)
  (k:Nat)(x:Val)(hak:a=k)(hx:s.places[k]? =some x)(hs':s'={s.nxt.pop with places:=s.places.set k s.top}):
  Calls Tryz.prog 139 #[.pointer (some ⟨b,0,none⟩)] W (MP Z W b v p (.bool true) s')
  :=by
 have Ah:=zhd hak;clear hak;have Ak:(k:Int)<(s.places.length:Int):=by have:=(zge hx).1;omega
 have d:=zhd hx;clear hx;have Ag:=zhd hop;have hE:=zhd hs';clear hop hs';have Al:wrap64 ((s.at_:Int)+1)=(s.at_:Int)+1:=by unfold wrap64;omega
 have OF:=zhd (ybb op _ _ hof);clear hof;obtain⟨g,Aj,Aa,_,gl,_,m0,m1⟩:=M.img.code_at (znv _ _) hc;have z:=M.img.lens.1;have c1:W.cell? ⟨b,1,none⟩=some (.slice v.ic.ca v.ic.cn v.ic.cc):=M.cell (k:=1) rfl;rw[Aa,z]at c1;have c6:W.cell? ⟨b,6,none⟩=some (.int .i64 (s.at_:Int)):=M.cell (k:=6) rfl;have b0:=zlt M.h;have Af:(s.at_:Int)<(p.code.length:Int):=by have:=(zge hc).1;omega
 have HX:=zhd M;clear M Aa z hc;go_in;go_upto_region 1 with(fail);go_region
 all_goals
  go_upto_region 2 with(fail);refine yaa ?_;intro w1 V;have B1:Below W W w1:=by rw[V];exact(zal).drew
  have L:w1.heap[W.heap.size]? =some (.cells #[op,a] 106 (0,0)):=by rw[V];exact znb _ _
  have e0:=zca L 0 rfl;have el:=zlt L;have H1:=zh2 B1 L;clear V B1 L;go_wp2_with fail;refine(OF.o _).mono ?_;rintro e w2 ⟨rfl,c⟩;have Ab:=(c.block W el).trans H1.o.2;have H2:=zh2 (H1.o.1.trans (c.mono H1.o.1.size)) Ab;clear c Ab e0 el;go_upto_region 3 with(fail);refine yaa ?_;intro w3 J;have B3:Below W W w3:=by rw[J];exact H2.o.1.alloc H2.o.1.size _
  have F:=zha J;have H:w3.heap[W.heap.size]? =some (.cells #[op,a] 106 (0,0)):=by rw[J];exact(zne _ _ _ (zlt H2.o.2)).trans H2.o.2
  have f4:=zca F 4 rfl;have f5:=zca F 5 rfl;have f6:=zca F 6 rfl;have e0:=zca H 0 rfl;have e1:=zca H 1 rfl;have il:=zlt F;have el:=zlt H;have M3:=HX.o.ext B3;have t:=zh3 B3 M3 H;clear J B3 F H M3;have c6:w3.cell? ⟨b,6,none⟩=some (.int .i64 (s.at_:Int)):=t.o.2.1.cell (k:=6) rfl;have f0:∀o,w3.frozen? ⟨b,o,none⟩=false:=fun o=>t.o.2.1.frozen o;have b3:=zlt t.o.2.1.h;go_upto_region 14 with(fail);refine yaa ?_;intro r U;have S4:=t.o.2.1.scalar 6 (.int .i64 ((s.at_:Int)+1)) s.nxt rfl rfl rfl rfl rfl rfl rfl rfl;rw[<-U]at S4;have G:r.heap[W.heap.size]? =some (.cells #[op,a] 106 (0,0)):=by
   rw[U,znn _ _ _ _ (fun e=>by have e:W.heap.size=b:=e;omega)];exact t.o.2.2
  have g0:=zca G 0 rfl;have g1:=zca G 1 rfl;have gl:=zlt G;have q:=zh3 S4.1 ((MK.ext t.o.1).trans S4.2) G;have b4:=zlt S4.1.h;have Ai:s.nxt.stk.length<=4294967296:=hk;clear S4 U G f4 f5 f6 e0 e1 c6 f0 b3 il el c1 m0 m1 Af;have hop:=Ag.o;subst hop;have hak:=Ah.o;subst hak;obtain⟨pa,T,K⟩:∃a cap,v.ps= .slice a s.places.length cap:=q.o.1.pls.slice;have c5:r.cell? ⟨b,5,none⟩=some (.slice pa s.places.length T):=by rw[<-K];exact q.o.1.cell (k:=5) rfl
  obtain⟨pg,A,kc,Ae,Ac,_,_,_⟩:=(show XRow _ r 38 (.slice pa s.places.length T) s.places from K▸q.o.1.pls).at_ d.o;subst Ae;have PO:=zhd (yi2 b v p _ r.drew (q.o.1.ext (znv _ _).drew));have m:=zhd K;clear K;go_upto_region 29 with(fail)
  go_region_law ((go_simp;go_at_call 159;refine PO.o.mono ?_;rintro e D ⟨y,⟨ck,cn,cs,la,ln,lc⟩,rfl,O⟩;have X:=(O.o.2.1.keeps.block W (by exact zlt q.o.2.2) (fun e=>Nat.lt_irrefl _ (HX.o.lt e))).trans q.o.2.2;have y1:D.cell? ⟨W,1,none⟩=some (.int .i64 (k:Int)):=(by rw[zch X];rfl);have y0:=zlt X;have z5:D.cell? ⟨b,5,none⟩=some (.slice (some ⟨pg,A,none⟩) s.places.length T):=(by rw[<-m.o];exact O.o.1.cell (k:=5) rfl);have zb:=zlt O.o.1.h;have zp:pg<D.heap.size:=znj Ac (O.o.2.1.keeps.size);obtain⟨ks5,R,Y⟩:=O.o.1.pls.cells;have N:RowAt D 38 (.slice (some ⟨pg,A,none⟩) s.places.length T) ks5:=(by have h:RowAt D 38 v.ps ks5:=R;rw[m.o]at h;exact h);obtain⟨C,Q⟩:=yac (l:=ks5) (k:=k) (by rw[Y.1];exact(zge d.o).1);have u:=fun(j:Nat) (hj:j<4)=>N.cell Q (j:=j) hj;have zc0:D.cell? ⟨pg,A+k*4,none⟩=some (.int .i64 C.kind):=u 0 (by decide);have zc1:D.cell? ⟨pg,A+k*4+1,none⟩=some (.int .i64 C.n):=(by rw[zmm];exact u 1 (by decide));have zc2:D.cell? ⟨pg,A+k*4+2,none⟩=some (.string C.s):=(by rw[zmm];exact u 2 (by decide));have zc3:D.cell? ⟨pg,A+k*4+3,none⟩=some (.slice C.la C.ln C.lc):=(by rw[zmm];exact u 3 (by decide));have zpf:∀o,D.frozen? ⟨pg,o,none⟩=false:=(fun o=>N.frozen o);have f:=zh2 N Y;clear X u Q N R Y))
  all_goals
   obtain⟨w6,I⟩:∃w6,w6=((((D.setCell ⟨pg,A+k*4,none⟩ (.int .i64 ck)).setCell ⟨pg,A+k*4+1,none⟩ (.int .i64 cn)).setCell ⟨pg,A+k*4+2,none⟩ (.string cs)).setCell ⟨pg,A+k*4+3,none⟩ (.slice la ln lc)):=⟨_,rfl⟩;rw[<-I];have P:=f.o.1.set (i:=k) (by rw[f.o.2.1];exact(zge d.o).1) ⟨ck,cn,cs,la,ln,lc⟩;have E:RowAt w6 38 (.slice (some ⟨pg,A,none⟩) s.places.length T) (ks5.set k ⟨ck,cn,cs,la,ln,lc⟩):=by rw[I];exact P
   have B:({v with ss:=y}:MV).ps.ownBlock=some pg:=by show v.ps.ownBlock=_;rw[m.o];rfl
   have K4:Keeps (fun j=>({v with ss:=y}:MV).ps.ownBlock=some j) D w6:=by
    rw[I];exact((((Keeps.refl _ _).setCell (p:=⟨pg,A+k*4,none⟩) (.inl B) _).setCell (p:=⟨pg,A+k*4+1,none⟩) (.inl B) _).setCell (p:=⟨pg,A+k*4+2,none⟩) (.inl B) _).setCell (p:=⟨pg,A+k*4+3,none⟩) (.inl B) _
   have S:=O.o.1.putPls (v1:=.slice (some ⟨pg,A,none⟩) s.places.length T) s' E (f.o.2.set k O.o.2.2) K4 (fun g hg=>.inl (by rw[B];exact hg)) hE.o;have Ad:¬b=pg:=fun e=>absurd (O.o.1.sep 2 0 pg B (by rw[e];rfl)) (by decide);have z6:w6.cell? ⟨b,5,none⟩=some (.slice (some ⟨pg,A,none⟩) s.places.length T):=(K4.cell (p:=⟨b,5,none⟩) zb (fun e=>by rw[B]at e;exact Ad (Option.some.inj e).symm)).trans z5;rw[yco z6]at S;have HS:=zhd S;clear S K4 P E I z5 z6 y0 y1 zb zp zc0 zc1 zc2 zc3 zpf;go_wp2;go_ret;exact⟨_,rfl,zhd ⟨HS.o.1,q.o.2.1.trans ((MK.ext (znv r.heap.size r).drew).trans (O.o.2.1.trans HS.o.2))⟩⟩
theorem yeN
  {Z:Nat->Prop}(b:Nat)(v:MV)(p:Img)(s:MS)(W:World)(M:MX TT Z W b v p s)
  (op a:Int)(hop:op=23)(hc:p.code[s.at_]? =some ⟨op,a⟩)(nm:ByteArray)(od ii oo:Int)(hof:ofL op=(⟨nm,od,ii,oo,false,false,false⟩,true))(hat:s.at_<=4294967296)(hk:s.stk.length<=4294967296)(s':MS)
  (k:Nat)(lnm:ByteArray)(hak:a=k)(hnm:p.names[k]? =some lnm)(hf:yap lnm s.letters=none)(hk2:s.stk.length<=4294967295)(hs':s'=(s.nxt.push yag).push (yaK false)):
  Calls Tryz.prog 139 #[.pointer (some ⟨b,0,none⟩)] W (MP Z W b v p (.bool true) s')
  :=by
 have m:=zhd hak;have Ab:(k:Int)<(p.names.length:Int):=by have:=(zge hnm).1;omega
 have l:=zhd hnm;have HF:=zhd hf;have H:(s.nxt.push yag).stk.length<=4294967296:=by
  show(s.stk++[_]).length<=_;rw[znk,zmh];omega
 clear hak hnm hf hk2;have j:=zhd hop;have hE:=zhd hs';clear hop hs';have Ac:wrap64 ((s.at_:Int)+1)=(s.at_:Int)+1:=by unfold wrap64;omega
 have OF:=zhd (ybb op _ _ hof);clear hof;obtain⟨g,Aa,R,_,x,_,m0,m1⟩:=M.img.code_at (znv _ _) hc;have Q:=M.img.lens.1;have c1:W.cell? ⟨b,1,none⟩=some (.slice v.ic.ca v.ic.cn v.ic.cc):=M.cell (k:=1) rfl;rw[R,Q]at c1;have y:W.cell? ⟨b,6,none⟩=some (.int .i64 (s.at_:Int)):=M.cell (k:=6) rfl;have b0:=zlt M.h;have d:(s.at_:Int)<(p.code.length:Int):=by have:=(zge hc).1;omega
 have HX:=zhd M;clear M R Q hc;go_in;go_upto_region 1 with(fail);go_region
 all_goals
  go_upto_region 2 with(fail);refine yaa ?_;intro w1 G;have B1:Below W W w1:=by rw[G];exact(zal).drew
  have E:w1.heap[W.heap.size]? =some (.cells #[op,a] 106 (0,0)):=by rw[G];exact znb _ _
  have f:=zca E 0 rfl;have X:=zlt E;have n:=zh2 B1 E;clear G B1 E;go_wp2_with fail;refine(OF.o _).mono ?_;rintro e w2 ⟨rfl,I⟩;have S:=(I.block W X).trans n.o.2;have Y:=zh2 (n.o.1.trans (I.mono n.o.1.size)) S;clear I S f X;go_upto_region 3 with(fail);refine yaa ?_;intro w3 D;have r:Below W W w3:=by rw[D];exact Y.o.1.alloc Y.o.1.size _
  have A:=zha D;have C:w3.heap[W.heap.size]? =some (.cells #[op,a] 106 (0,0)):=by rw[D];exact(zne _ _ _ (zlt Y.o.2)).trans Y.o.2
  have f4:=zca A 4 rfl;have f5:=zca A 5 rfl;have f6:=zca A 6 rfl;have f:=zca C 0 rfl;have e1:=zca C 1 rfl;have il:=zlt A;have X:=zlt C;have M3:=HX.o.ext r;have K:=zh3 r M3 C;clear D r A C M3;have y:w3.cell? ⟨b,6,none⟩=some (.int .i64 (s.at_:Int)):=K.o.2.1.cell (k:=6) rfl;have f0:∀o,w3.frozen? ⟨b,o,none⟩=false:=fun o=>K.o.2.1.frozen o;have b3:=zlt K.o.2.1.h;go_upto_region 14 with(fail);refine yaa ?_;intro L F;have V:=K.o.2.1.scalar 6 (.int .i64 ((s.at_:Int)+1)) s.nxt rfl rfl rfl rfl rfl rfl rfl rfl;rw[<-F]at V;have B:L.heap[W.heap.size]? =some (.cells #[op,a] 106 (0,0)):=by
   rw[F,znn _ _ _ _ (fun e=>by have e:W.heap.size=b:=e;omega)];exact K.o.2.2
  have g0:=zca B 0 rfl;have g1:=zca B 1 rfl;have x:=zlt B;have J:=zh3 V.1 ((MK.ext K.o.1).trans V.2) B;have b4:=zlt V.1.h;have P:s.nxt.stk.length<=4294967296:=hk;clear V F B f4 f5 f6 f e1 y f0 b3 il X c1 m0 m1 d;have hop:=j.o;subst hop;have hak:=m.o;subst hak;obtain⟨ng,u,O,_,_,c,nm0⟩:=J.o.1.img.name_at (znv _ _) l.o;have N:=J.o.1.img.lens.2.2;have c3:L.cell? ⟨b,3,none⟩=some (.slice v.ic.na v.ic.nn v.ic.nc):=J.o.1.cell (k:=3) rfl;rw[O,N]at c3;have LT:=zhd (ybk b v p s.nxt L.drew (J.o.1.ext (znv _ _).drew) lnm (-1) (by unfold ltI;show(match yap lnm s.letters with|none=>(-1:Int)|some i=>(i:Int))=_;rw[HF.o]));clear O N;go_upto_region 37 with(fail)
  go_still_tail 10,(by kernel_rfl)
  go_wp2_with fail;refine LT.o.mono ?_;rintro e w5 ⟨rfl,U⟩;have q:Below L L w5:=znw ((znv _ _).drew) U;have z:=J.o.1.ext q;have H5:=zh2 q z;clear U q z nm0 c3 g0 g1 x c b4;have PU:=zhd (yaj b v p s.nxt w5 H5.o.2 yag 0 0 ⟨#[]⟩ none 0 0 (yaH _ _) P);go_wp2_with fail;refine PU.o.mono ?_;rintro e t ⟨v6,rfl,H6⟩;go_upto_region 42 with(fail);go_region_law (first
   |(go_simp;go_at_call 63;refine(ybq false _).mono ?_;rintro e w8 ⟨rfl,T⟩;have H8:=zhd (znw ((znv t.heap.size t).drew) T);clear T)
   |(go_simp;go_at_call 119;refine(yaj b v6 p _ w8 (H6.o.1.ext H8.o) (yaK false) 1 _ ⟨#[]⟩ none 0 0 (ybf _ _ _) H).mono ?_;rintro e w9 ⟨v9,rfl,H9⟩))
  all_goals
   go_wp2;go_ret;exact⟨v9,rfl,zhd ⟨by rw[hE.o];exact H9.o.1,J.o.2.1.trans ((MK.ext H5.o.1).trans (H6.o.2.trans ((MK.ext H8.o).trans H9.o.2)))⟩⟩
theorem yjO
  {Z:Nat->Prop}(b:Nat)(v:MV)(p:Img)(s:MS)(W:World)(M:MX TT Z W b v p s)
  (op a:Int)(hop:op=23)(hc:p.code[s.at_]? =some ⟨op,a⟩)(nm:ByteArray)(od ii oo:Int)(hof:ofL op=(⟨nm,od,ii,oo,false,false,false⟩,true))(hat:s.at_<=4294967296)(hk:s.stk.length<=4294967296)(hZ:∀j,W.heap.size<=j->Z j)(s':MS)
  (k:Nat)(lnm:ByteArray)(hak:a=k)(hnm:p.names[k]? =some lnm)(i:Nat)(hf:yap lnm s.letters=some i)(hll:s.letters.length<=4294967296)(hk2:s.stk.length<=4294967295)(hs':s'=((s.nxt.openL i).push (s.letV i)).push (yaK true)):
  Calls Tryz.prog 139 #[.pointer (some ⟨b,0,none⟩)] W (MP Z W b v p (.bool true) s')
  :=by
 have q:=zhd hak;have Ac:(k:Int)<(p.names.length:Int):=by have:=(zge hnm).1;omega
 have n:=zhd hnm;have HF:=zhd hf;obtain⟨x,hx⟩:=Go.Proofs.YtpagmlndgblhhaaGreatDoor.findLt_some hf;have J:=zh3 hx hll hZ;have n8:decide ((0:Int)<=(i:Int))=true:=zno (by omega);have n9:(0:Int)<=(i:Int):=by omega
 have H:((s.nxt.openL i).push (s.letV i)).stk.length<=4294967296:=by
  show(s.stk++[_]).length<=_;rw[znk,zmh];omega
 clear hak hnm hf hk2 hx hll;have m:=zhd hop;have hE:=zhd hs';clear hop hs';have Ad:wrap64 ((s.at_:Int)+1)=(s.at_:Int)+1:=by unfold wrap64;omega
 have OF:=zhd (ybb op _ _ hof);clear hof;obtain⟨g,Ab,S,_,gl,_,m0,m1⟩:=M.img.code_at (znv _ _) hc;have R:=M.img.lens.1;have c1:W.cell? ⟨b,1,none⟩=some (.slice v.ic.ca v.ic.cn v.ic.cc):=M.cell (k:=1) rfl;rw[S,R]at c1;have c6:W.cell? ⟨b,6,none⟩=some (.int .i64 (s.at_:Int)):=M.cell (k:=6) rfl;have b0:=zlt M.h;have f:(s.at_:Int)<(p.code.length:Int):=by have:=(zge hc).1;omega
 have HX:=zhd M;clear M S R hc;go_in;go_upto_region 1 with(fail);go_region
 all_goals
  go_upto_region 2 with(fail);refine yaa ?_;intro w1 G;have B1:Below W W w1:=by rw[G];exact(zal).drew
  have E:w1.heap[W.heap.size]? =some (.cells #[op,a] 106 (0,0)):=by rw[G];exact znb _ _
  have l:=zca E 0 rfl;have Y:=zlt E;have u:=zh2 B1 E;clear G B1 E;go_wp2_with fail;refine(OF.o _).mono ?_;rintro e w2 ⟨rfl,I⟩;have T:=(I.block W Y).trans u.o.2;have c:=zh2 (u.o.1.trans (I.mono u.o.1.size)) T;clear I T l Y;go_upto_region 3 with(fail);refine yaa ?_;intro w3 D;have z:Below W W w3:=by rw[D];exact c.o.1.alloc c.o.1.size _
  have A:=zha D;have C:w3.heap[W.heap.size]? =some (.cells #[op,a] 106 (0,0)):=by rw[D];exact(zne _ _ _ (zlt c.o.2)).trans c.o.2
  have f4:=zca A 4 rfl;have f5:=zca A 5 rfl;have f6:=zca A 6 rfl;have l:=zca C 0 rfl;have e1:=zca C 1 rfl;have il:=zlt A;have Y:=zlt C;have M3:=HX.o.ext z;have L:=zh3 z M3 C;clear D z A C M3;have c6:w3.cell? ⟨b,6,none⟩=some (.int .i64 (s.at_:Int)):=L.o.2.1.cell (k:=6) rfl;have f0:∀o,w3.frozen? ⟨b,o,none⟩=false:=fun o=>L.o.2.1.frozen o;have b3:=zlt L.o.2.1.h;go_upto_region 14 with(fail);refine yaa ?_;intro N F;have X:=L.o.2.1.scalar 6 (.int .i64 ((s.at_:Int)+1)) s.nxt rfl rfl rfl rfl rfl rfl rfl rfl;rw[<-F]at X;have B:N.heap[W.heap.size]? =some (.cells #[op,a] 106 (0,0)):=by
   rw[F,znn _ _ _ _ (fun e=>by have e:W.heap.size=b:=e;omega)];exact L.o.2.2
  have g0:=zca B 0 rfl;have g1:=zca B 1 rfl;have gl:=zlt B;have K:=zh3 X.1 ((MK.ext L.o.1).trans X.2) B;have b4:=zlt X.1.h;have Q:s.nxt.stk.length<=4294967296:=hk;clear X F B f4 f5 f6 l e1 c6 f0 b3 il Y c1 m0 m1 f;have hop:=m.o;subst hop;have hak:=q.o;subst hak;obtain⟨ng,Aa,P,_,_,d,nm0⟩:=K.o.1.img.name_at (znv _ _) n.o;have O:=K.o.1.img.lens.2.2;have c3:N.cell? ⟨b,3,none⟩=some (.slice v.ic.na v.ic.nn v.ic.nc):=K.o.1.cell (k:=3) rfl;rw[P,O]at c3;have LT:=zhd (ybk b v p s.nxt N.drew (K.o.1.ext (znv _ _).drew) lnm (i:Int) (by unfold ltI;show(match yap lnm s.letters with|none=>(-1:Int)|some i=>(i:Int))=_;rw[HF.o]));clear P O;go_upto_region 37 with(fail)
  go_still_tail 10,(by kernel_rfl)
  go_wp2_with fail;refine LT.o.mono ?_;rintro e w5 ⟨rfl,V⟩;have y:Below N N w5:=znw ((znv _ _).drew) V;have M5:=K.o.1.ext y;have t:=zh2 y M5;clear V y M5 nm0 c3 g0 g1 gl d b4;have OP:=zhd (yfq b v p s.nxt w5.drew (t.o.2.ext (znv _ _).drew) i x J.o.1 J.o.2.1 (yad J.o.2.2 (znf K.o.2.1.keeps.size t.o.1.size)));go_upto_region 39 with(fail);go_region_law (first
   |(go_simp;go_at_call 162;refine OP.o.mono ?_;rintro e w7 ⟨v7,⟨ck,cn,cs,la,ln,lc⟩,rfl,r⟩)
   |(go_simp;go_at_call 119;refine(yaj b v7 p (s.nxt.openL i) w7 r.o.1 (s.letV i) ck cn cs la ln lc r.o.2.2 Q).mono ?_;rintro e w6 ⟨v6,rfl,H6⟩))
  all_goals
   go_upto_region 40 with(fail);go_region_law (first
    |(go_simp;go_at_call 63;refine(ybq true _).mono ?_;rintro e w8 ⟨rfl,U⟩;have H8:=zhd (znw ((znv w6.heap.size w6).drew) U);clear U)
    |(go_simp;go_at_call 119;refine(yaj b v6 p _ w8 (H6.o.1.ext H8.o) (yaK true) 1 _ ⟨#[]⟩ none 0 0 (ybf _ _ _) H).mono ?_;rintro e w9 ⟨v9,rfl,H9⟩))
   all_goals
    go_wp2;go_ret;exact⟨v9,rfl,zhd ⟨by rw[hE.o];exact H9.o.1,K.o.2.1.trans ((MK.ext t.o.1).trans ((MK.ext (znv w5.heap.size w5).drew).trans (r.o.2.1.trans (H6.o.2.trans ((MK.ext H8.o).trans H9.o.2)))))⟩⟩
end Go.Proofs.YtpagmlndgblhhaaGreatDoor
