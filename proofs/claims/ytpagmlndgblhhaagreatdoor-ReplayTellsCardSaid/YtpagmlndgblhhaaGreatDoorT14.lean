/- Parts of the proof: what the functions and the plain laws give that later parts lean on. Conditions: none beyond those that each theorem names. -/
import Derived.Test.YtpagmlndgblhhaaGreatDoorT13
set_option maxRecDepth 100000
set_option maxHeartbeats 8000000
namespace Go.Proofs.YtpagmlndgblhhaaGreatDoor
open Go.RowKit Go.Own Go.Own.MapTy Go.Va Go.Sort
open Go.Own.Cells (sz enc)
theorem yaa {P:Program}{c:Code}{Q:Exit->Act->World->Prop}{a:Act}{W:World}(h:∀w,w=W->c.wp P Q a w):c.wp P Q a W:=h W rfl
theorem pop_len (s:MS):s.pop.stk.length<=s.stk.length:=by unfold MS.pop;simp
theorem yiW
  {Z:Nat->Prop}(b:Nat)(v:MV)(p:Img)(s:MS)(W:World)(M:MX TT Z W b v p s)
  (k:Int)(hk:s.stk.length<=4294967296)(hl:s.made.length<=4294967296)(hZ:∀j,W.heap.size<=j->Z j)(s':MS)
  (hs':s'=s.pop.push (yaK (!ycE s.top))):
  Calls Tryz.prog 164 #[.pointer (some ⟨b,0,none⟩),.agg #[.int .i64 10,k]] W (MP Z W b v p (.bool true) s')
  :=by
 obtain⟨T,E⟩:∃T,T=W.alloc (.cells #[.int .i64 10,k] 106):=⟨_,rfl⟩;have Y:=zba E;have c:=zha E;have r:=zhd (yai b v p s T (M.ext Y));have I:=zh7 M Y c hs' hk hl hZ;clear M Y c hs' hk hl hZ;go_in;go_wp2_with fail;rw[<-E];clear E;refine r.o.mono ?_;rintro e u ⟨a,⟨q,n,m,l,h,i⟩,rfl,O⟩;have A:=(O.o.2.1.keeps.block W (zlt I.o.2.2.1) (fun e=>by have:=I.o.1.lt e;omega)).trans I.o.2.2.1;have d0:=zca A 0 rfl;have d1:=zca A 1 rfl;have dl:=zlt A;have HB:=zhd A;clear A;go_upto_region 11 with(fail);refine yaa ?_;intro D G;have Q:=zba G;have H:=zha G;obtain⟨q0,z,y,x,l2⟩:=zq4 H;have t:=zhd H;have J:=zh3 Q (O.o.1.ext Q) (O.o.2.2.keep (S:=fun _=>False) (zkb Q) (fun _ _ f=>f));clear H Q G;have V:=I.o.2.2.2.1;have F:s.pop.stk.length<=4294967296:=znf (pop_len s) I.o.2.2.2.2.1;cases hr:ycE s.top
 all_goals
  rw[hr]at V;have TR:=zhd (yhW s.top q n m l h i _ D.drew (J.o.2.2.keep (S:=fun _=>False) (zkb ((znv _ _).drew)) (fun _ _ f=>f)) _ hr);have X:=zhd (ybq (!(ycE s.top)));rw[hr]at X;have d:=zhd V;clear V hr
 .
  go_region_law (first
   |(go_simp;go_at_call 158;refine TR.o.mono ?_;rintro e w3 ⟨rfl,C⟩;have P:Below D D w3:=znw ((znv D.heap.size D).drew) C;have N:=zhd P;clear C P)
   |(go_simp;go_at_call 63;refine(X.o w3).mono ?_;rintro e R ⟨rfl,B⟩;have L:=zhd (N.o.trans (B.mono N.o.size));clear B)
   |(go_simp;go_at_call 119;refine(yaj b a p s.pop R (J.o.2.1.ext L.o) (yaK true) 1 _ ⟨#[]⟩ none 0 0 (ybf _ _ _) F).mono ?_;rintro e g ⟨U,rfl,K⟩))
  all_goals
   go_wp2;go_ret;exact⟨U,rfl,zhd ⟨by rw[d.o];exact K.o.1,(MK.ext I.o.2.1).trans (O.o.2.1.trans ((MK.ext (J.o.1.trans (L.o.mono J.o.1.size))).trans K.o.2))⟩⟩
 .
  go_region_law (first
   |(go_simp;go_at_call 158;refine TR.o.mono ?_;rintro e w3 ⟨rfl,C⟩;have P:Below D D w3:=znw ((znv D.heap.size D).drew) C;have N:=zhd P;clear C P)
   |(go_simp;go_at_call 63;refine(X.o w3).mono ?_;rintro e R ⟨rfl,B⟩;have L:=zhd (N.o.trans (B.mono N.o.size));clear B)
   |(go_simp;go_at_call 119;refine(yaj b a p s.pop R (J.o.2.1.ext L.o) (yaK false) 1 _ ⟨#[]⟩ none 0 0 (ybf _ _ _) F).mono ?_;rintro e g ⟨U,rfl,K⟩))
  all_goals
   go_wp2;go_ret;exact⟨U,rfl,zhd ⟨by rw[d.o];exact K.o.1,(MK.ext I.o.2.1).trans (O.o.2.1.trans ((MK.ext (J.o.1.trans (L.o.mono J.o.1.size))).trans K.o.2))⟩⟩
theorem ydD
  {Z:Nat->Prop}(b:Nat)(v:MV)(p:Img)(s:MS)(W:World)(M:MX TT Z W b v p s)
  (k:Int)(hk:s.stk.length<=4294967296)(hl:s.made.length<=4294967296)(hZ:∀j,W.heap.size<=j->Z j)(s':MS)
  (hx:s.top.kind=3)(hs':s'=s.pop.push (ybw s.top.list.length)):
  Calls Tryz.prog 164 #[.pointer (some ⟨b,0,none⟩),.agg #[.int .i64 31,k]] W (MP Z W b v p (.bool true) s')
  :=by
 obtain⟨J,B⟩:∃J,J=W.alloc (.cells #[.int .i64 31,k] 106):=⟨_,rfl⟩;have O:=zba B;have Q:=zha B;have c:=zhd (yai b v p s J (M.ext O));have E:=zh7 M O Q hs' hk hl hZ;clear M O Q hs' hk hl hZ;go_in;go_wp2_with fail;rw[<-B];clear B;refine c.o.mono ?_;rintro e i ⟨X,⟨a,cn,cs,u,K,t⟩,rfl,F⟩;have A:=(F.o.2.1.keeps.block W (zlt E.o.2.2.1) (fun e=>by have:=E.o.1.lt e;omega)).trans E.o.2.2.1;have d0:=zca A 0 rfl;have z:=zca A 1 rfl;have y:=zlt A;have HB:=zhd A;clear A;have G:s.pop.stk.length<=4294967296:=znf (pop_len s) E.o.2.2.2.2.1;have Y:(a==3)=true:=by rw[beq_iff_eq];exact F.o.2.2.kind.trans hx
 have L:=zhd (show K=s.top.list.length from F.o.2.2.l.elem.1);go_upto_region 17 with(fail);refine yaa ?_;intro P C;have I:=zba C;have D:=zha C;obtain⟨r,q,n,m,x⟩:=zq4 D;have g:=zhd D;have N:=zh3 I (F.o.1.ext I) (F.o.2.2.keep (S:=fun _=>False) (zkb I) (fun _ _ f=>f));clear D I C;have d:=zhd (show s'=s.pop.push (ybw K) by rw[L.o];exact E.o.2.2.2.1);clear hx;go_region_law (first
  |(go_simp;go_at_call 106;refine(ybg _ _).mono ?_;rintro e U ⟨rfl,H⟩;have T:=zhd (znw ((znv P.heap.size P).drew) H);clear H)
  |(go_simp;go_at_call 119;refine(yaj b X p s.pop U (N.o.2.1.ext T.o) (ybw K) 1 _ ⟨#[]⟩ none 0 0 (ycJ _ _ _) G).mono ?_;rintro e h ⟨V,rfl,R⟩))
 all_goals
  go_wp2;go_ret;exact⟨V,rfl,zhd ⟨by rw[d.o];exact R.o.1,(MK.ext E.o.2.1).trans (F.o.2.1.trans ((MK.ext (N.o.1.trans (T.o.mono N.o.1.size))).trans R.o.2))⟩⟩
theorem ydC
  {Z:Nat->Prop}(b:Nat)(v:MV)(p:Img)(s:MS)(W:World)(M:MX TT Z W b v p s)
  (k:Int)(hk:s.stk.length<=4294967296)(hl:s.made.length<=4294967296)(hZ:∀j,W.heap.size<=j->Z j)(s':MS)
  (hx:s.top.kind=2)(hs':s'=s.pop.push (ybw s.top.txt.size)):
  Calls Tryz.prog 164 #[.pointer (some ⟨b,0,none⟩),.agg #[.int .i64 31,k]] W (MP Z W b v p (.bool true) s')
  :=by
 obtain⟨J,B⟩:∃J,J=W.alloc (.cells #[.int .i64 31,k] 106):=⟨_,rfl⟩;have P:=zba B;have R:=zha B;have d:=zhd (yai b v p s J (M.ext P));have F:=zh7 M P R hs' hk hl hZ;clear M P R hs' hk hl hZ;go_in;go_wp2_with fail;rw[<-B];clear B;refine d.o.mono ?_;rintro e l ⟨Y,⟨L,cn,K,x,t,u⟩,rfl,E⟩;have A:=(E.o.2.1.keeps.block W (zlt F.o.2.2.1) (fun e=>by have:=F.o.1.lt e;omega)).trans F.o.2.2.1;have d0:=zca A 0 rfl;have d1:=zca A 1 rfl;have z:=zlt A;have HB:=zhd A;clear A;have G:s.pop.stk.length<=4294967296:=znf (pop_len s) F.o.2.2.2.2.1;have c:(L==2)=true:=by rw[beq_iff_eq];exact E.o.2.2.kind.trans hx
 have a:(L==3)=false:=by rw[zna];have:L=2:=E.o.2.2.kind.trans hx;omega
 have N:=zhd (show K=s.top.txt from E.o.2.2.s);go_upto_region 19 with(fail);refine yaa ?_;intro Q C;have I:=zba C;have D:=zha C;obtain⟨r,q,n,m,y⟩:=zq4 D;have h:=zhd D;have O:=zh3 I (E.o.1.ext I) (E.o.2.2.keep (S:=fun _=>False) (zkb I) (fun _ _ f=>f));clear D I C;have g:=zhd (show s'=s.pop.push (ybw K.size) by rw[N.o];exact F.o.2.2.2.1);clear hx;go_region_law (first
  |(go_simp;go_at_call 106;refine(ybg _ _).mono ?_;rintro e V ⟨rfl,H⟩;have U:=zhd (znw ((znv Q.heap.size Q).drew) H);clear H)
  |(go_simp;go_at_call 119;refine(yaj b Y p s.pop V (O.o.2.1.ext U.o) (ybw K.size) 1 _ ⟨#[]⟩ none 0 0 (ycJ _ _ _) G).mono ?_;rintro e i ⟨X,rfl,T⟩))
 all_goals
  go_wp2;go_ret;exact⟨X,rfl,zhd ⟨by rw[g.o];exact T.o.1,(MK.ext F.o.2.1).trans (E.o.2.1.trans ((MK.ext (O.o.1.trans (U.o.mono O.o.1.size))).trans T.o.2))⟩⟩
theorem ydE
  {Z:Nat->Prop}(b:Nat)(v:MV)(p:Img)(s:MS)(W:World)(M:MX TT Z W b v p s)
  (k:Int)(hk:s.stk.length<=4294967296)(hl:s.made.length<=4294967296)(hZ:∀j,W.heap.size<=j->Z j)(s':MS)
  (hx3:¬s.top.kind=3)(hx2:¬s.top.kind=2)(hs':s'=s.pop.tType):
  Calls Tryz.prog 164 #[.pointer (some ⟨b,0,none⟩),.agg #[.int .i64 31,k]] W (MP Z W b v p (.bool true) s')
  :=by
 obtain⟨H,B⟩:∃H,H=W.alloc (.cells #[.int .i64 31,k] 106):=⟨_,rfl⟩;have K:=zba B;have L:=zha B;have R:=zhd (yai b v p s H (M.ext K));have C:=zh7 M K L hs' hk hl hZ;clear M K L hs' hk hl hZ;go_in;go_wp2_with fail;rw[<-B];clear B;refine R.o.mono ?_;rintro e X ⟨Q,⟨I,x,u,m,i,l⟩,rfl,F⟩;have A:=(F.o.2.1.keeps.block W (zlt C.o.2.2.1) (fun e=>by have:=C.o.1.lt e;omega)).trans C.o.2.2.1;have t:=zca A 0 rfl;have r:=zca A 1 rfl;have q:=zlt A;have y:=zhd A;clear A;have hk:I=s.top.kind:=F.o.2.2.kind;have g:(I==3)=false:=by rw[zna,hk];exact hx3
 have h:(I==2)=false:=by rw[zna,hk];exact hx2
 clear hk hx3 hx2;go_upto_region 15 with(fail);refine yaa ?_;intro O D;have G:=zba D;have E:=zha D;obtain⟨d,c,a,Y,n⟩:=zq4 E;have T:=zhd E;have J:=zh3 G (F.o.1.ext G) (F.o.2.2.keep (S:=fun _=>False) (zkb G) (fun _ _ f=>f));clear E G D;have U:=zhd (yau b Q p s.pop O J.o.2.1 ⟨#[116,121,112,101]⟩ (by decide) C.o.2.2.2.2.2.1 (yad C.o.2.2.2.2.2.2 (znf C.o.2.1.size (znf F.o.2.1.keeps.size J.o.1.size))) s' (C.o.2.2.2.1.symm));go_wp2_with fail;refine U.o.mono ?_;rintro e V ⟨P,rfl,N⟩;go_wp2;go_ret;exact⟨P,rfl,zhd ⟨N.o.1,(MK.ext C.o.2.1).trans (F.o.2.1.trans ((MK.ext J.o.1).trans N.o.2))⟩⟩
theorem yaW (s:MS):s.pop.pop.stk.length<=s.stk.length:=znf (pop_len _) (pop_len _)
theorem ygU
  {Z:Nat->Prop}(b:Nat)(v:MV)(p:Img)(s:MS)(W:World)(M:MX TT Z W b v p s)
  (k:Int)(hk:s.stk.length<=4294967296)(hl:s.made.length<=4294967296)(hZ:∀j,W.heap.size<=j->Z j)(s':MS)
  (hs':s'=s.pop.pop.push (yaK (cmpV s.pop.top s.top==0))):
  Calls Tryz.prog 164 #[.pointer (some ⟨b,0,none⟩),.agg #[.int .i64 8,k]] W (MP Z W b v p (.bool true) s')
  :=by
 obtain⟨n,J⟩:∃n,n=W.alloc (.cells #[.int .i64 8,k] 106):=⟨_,rfl⟩;have z:=zba J;have hB:=zha J;have PO:=zhd (yai b v p s n (M.ext z));have L:=zh7 M z hB hs' hk hl hZ;clear M z hB hs' hk hl hZ;go_in;go_wp2_with fail;rw[<-J];clear J;refine PO.o.mono ?_;rintro e m ⟨v1,⟨ck,cn,cs,la,ln,lc⟩,rfl,U⟩;have F:=(U.o.2.1.keeps.block W (zlt L.o.2.2.1) (fun e=>by have:=L.o.1.lt e;omega)).trans L.o.2.2.1;have u:=zca F 0 rfl;have d1:=zca F 1 rfl;have g:=zlt F;have HB:=zhd F;clear F;have x:=zhd (fun(X:World) (M2:MX TT Z X b v1 p s.pop)=>yai b v1 p s.pop X M2);go_wp2_with fail;obtain⟨X,I⟩:∃X,X=m.alloc (.cells #[ck,cn,cs,.slice la ln lc] 38):=⟨_,rfl⟩;have d:=zba I;have Y:=zha I;rw[<-I];have P:=zh5 d (U.o.1.ext d) (U.o.2.2.keep (S:=fun _=>False) (zkb d) (fun _ _ f=>f)) Y (d.block W g|>.trans HB.o);clear I d Y u d1 g;refine(x.o _ P.o.2.1).mono ?_;rintro e w3 ⟨r,⟨dk,dn,ds,ma,mn,mc⟩,rfl,T⟩;have B:=(T.o.2.1.keeps.block m (zlt P.o.2.2.2.1) (fun e=>by have:=U.o.1.lt e;omega)).trans P.o.2.2.2.1
 have E:=(T.o.2.1.keeps.block W (zlt P.o.2.2.2.2) (fun e=>by
  rcases U.o.2.1.own _ e with h|h
  .have:=L.o.1.lt h;omega
  .have:=zlt L.o.2.2.1;omega)).trans P.o.2.2.2.2
 obtain⟨w4,H⟩:∃w4,w4=w3.alloc (.cells #[dk,dn,ds,.slice ma mn mc] 38):=⟨_,rfl⟩;have Q:=zba H;have D:=zha H;have C:=(Q.block m (zlt B)).trans B;have N:=(Q.block W (zlt E)).trans E;have q0:=zca C 0 rfl;have q1:=zca C 1 rfl;have q2:=zca C 2 rfl;have q3:=zca C 3 rfl;have r0:=zca D 0 rfl;have r1:=zca D 1 rfl;have r2:=zca D 2 rfl;have r3:=zca D 3 rfl;have c0:=zca N 0 rfl;have u:=zca E 0 rfl;have x0:=zca B 0 rfl;have x1:=zca B 1 rfl;have x2:=zca B 2 rfl;have x3:=zca B 3 rfl;have xl:=zlt B;have g:=zlt E;have l4:=zlt D;have xl4:=zlt C;have Aa:=zlt N;have K4:MK b v W r w4:=(MK.ext L.o.2.1).trans (U.o.2.1.trans ((MK.ext P.o.1).trans (T.o.2.1.trans (MK.ext Q))));have R:=zh4 (T.o.1.ext Q) K4 ((CF.step T.o.2.1 P.o.2.2.1).step (MK.ext Q)) (T.o.2.2.step (MK.ext Q));have K:s.pop.pop.stk.length<=4294967296:=znf (yaW s) L.o.2.2.2.2.1;have t:=L.o.2.2.2.1;clear B E D C N Q K4;go_upto_region 22 with(fail);rw[<-H];clear H u x0 x1 x2 x3 xl g;go_upto_region 24 with(fail);cases hr:(cmpV s.pop.top s.top==0)
 all_goals
  rw[hr]at t;have i:=zhd (ydJ s.pop.top s.top ⟨dk,dn,ds,ma,mn,mc⟩ ⟨ck,cn,cs,la,ln,lc⟩ _ _ w4.drew (R.o.2.2.2.keep (S:=fun _=>False) (zkb ((znv _ _).drew)) (fun _ _ f=>f)) (R.o.2.2.1.keep (S:=fun _=>False) (zkb ((znv _ _).drew)) (fun _ _ f=>f)) _ hr);have y:=zhd (ybq (cmpV s.pop.top s.top==0));rw[hr]at y;have HE:=zhd t;clear t hr
 .
  go_region_law (first
   |(go_simp;go_at_call 33;refine i.o.mono ?_;rintro e V ⟨rfl,A⟩;have O:=zhd (znw ((znv w4.heap.size w4).drew) A);clear A)
   |(go_simp;go_at_call 71;refine i.o.mono ?_;rintro e V ⟨rfl,A⟩;have O:=zhd (znw ((znv w4.heap.size w4).drew) A);clear A)
   |(go_simp;go_at_call 63;refine(y.o V).mono ?_;rintro e l ⟨rfl,G⟩;have c:=zhd (O.o.trans (G.mono O.o.size));clear G)
   |(go_simp;go_at_call 119;refine(yaj b r p s.pop.pop l (R.o.1.ext c.o) (yaK false) 1 _ ⟨#[]⟩ none 0 0 (ybf _ _ _) K).mono ?_;rintro e w7 ⟨q,rfl,a⟩))
  all_goals
   go_wp2;go_ret;exact⟨q,rfl,zhd ⟨by rw[HE.o];exact a.o.1,R.o.2.1.trans ((MK.ext c.o).trans a.o.2)⟩⟩
 .
  go_region_law (first
   |(go_simp;go_at_call 33;refine i.o.mono ?_;rintro e V ⟨rfl,A⟩;have O:=zhd (znw ((znv w4.heap.size w4).drew) A);clear A)
   |(go_simp;go_at_call 71;refine i.o.mono ?_;rintro e V ⟨rfl,A⟩;have O:=zhd (znw ((znv w4.heap.size w4).drew) A);clear A)
   |(go_simp;go_at_call 63;refine(y.o V).mono ?_;rintro e l ⟨rfl,G⟩;have c:=zhd (O.o.trans (G.mono O.o.size));clear G)
   |(go_simp;go_at_call 119;refine(yaj b r p s.pop.pop l (R.o.1.ext c.o) (yaK true) 1 _ ⟨#[]⟩ none 0 0 (ybf _ _ _) K).mono ?_;rintro e w7 ⟨q,rfl,a⟩))
  all_goals
   go_wp2;go_ret;exact⟨q,rfl,zhd ⟨by rw[HE.o];exact a.o.1,R.o.2.1.trans ((MK.ext c.o).trans a.o.2)⟩⟩
theorem ygW
  {Z:Nat->Prop}(b:Nat)(v:MV)(p:Img)(s:MS)(W:World)(M:MX TT Z W b v p s)
  (k:Int)(hk:s.stk.length<=4294967296)(hl:s.made.length<=4294967296)(hZ:∀j,W.heap.size<=j->Z j)(s':MS)
  (hs':s'=s.pop.pop.push (yaK (decide (cmpV s.pop.top s.top<0)))):
  Calls Tryz.prog 164 #[.pointer (some ⟨b,0,none⟩),.agg #[.int .i64 9,k]] W (MP Z W b v p (.bool true) s')
  :=by
 obtain⟨n,J⟩:∃n,n=W.alloc (.cells #[.int .i64 9,k] 106):=⟨_,rfl⟩;have B0:=zba J;have hB:=zha J;have PO:=zhd (yai b v p s n (M.ext B0));have L:=zh7 M B0 hB hs' hk hl hZ;clear M B0 hB hs' hk hl hZ;go_in;go_wp2_with fail;rw[<-J];clear J;refine PO.o.mono ?_;rintro e m ⟨v1,⟨ck,cn,cs,la,ln,lc⟩,rfl,U⟩;have F:=(U.o.2.1.keeps.block W (zlt L.o.2.2.1) (fun e=>by have:=L.o.1.lt e;omega)).trans L.o.2.2.1;have u:=zca F 0 rfl;have d1:=zca F 1 rfl;have g:=zlt F;have HB:=zhd F;clear F;have x:=zhd (fun(X:World) (M2:MX TT Z X b v1 p s.pop)=>yai b v1 p s.pop X M2);go_wp2_with fail;obtain⟨X,I⟩:∃X,X=m.alloc (.cells #[ck,cn,cs,.slice la ln lc] 38):=⟨_,rfl⟩;have d:=zba I;have Y:=zha I;rw[<-I];have P:=zh5 d (U.o.1.ext d) (U.o.2.2.keep (S:=fun _=>False) (zkb d) (fun _ _ f=>f)) Y (d.block W g|>.trans HB.o);clear I d Y u d1 g;refine(x.o _ P.o.2.1).mono ?_;rintro e w3 ⟨r,⟨dk,dn,ds,ma,mn,mc⟩,rfl,T⟩;have B:=(T.o.2.1.keeps.block m (zlt P.o.2.2.2.1) (fun e=>by have:=U.o.1.lt e;omega)).trans P.o.2.2.2.1
 have E:=(T.o.2.1.keeps.block W (zlt P.o.2.2.2.2) (fun e=>by
  rcases U.o.2.1.own _ e with h|h
  .have:=L.o.1.lt h;omega
  .have:=zlt L.o.2.2.1;omega)).trans P.o.2.2.2.2
 obtain⟨w4,H⟩:∃w4,w4=w3.alloc (.cells #[dk,dn,ds,.slice ma mn mc] 38):=⟨_,rfl⟩;have Q:=zba H;have D:=zha H;have C:=(Q.block m (zlt B)).trans B;have N:=(Q.block W (zlt E)).trans E;have q0:=zca C 0 rfl;have q1:=zca C 1 rfl;have q2:=zca C 2 rfl;have q3:=zca C 3 rfl;have r0:=zca D 0 rfl;have r1:=zca D 1 rfl;have r2:=zca D 2 rfl;have r3:=zca D 3 rfl;have c0:=zca N 0 rfl;have u:=zca E 0 rfl;have x0:=zca B 0 rfl;have x1:=zca B 1 rfl;have x2:=zca B 2 rfl;have x3:=zca B 3 rfl;have xl:=zlt B;have g:=zlt E;have l4:=zlt D;have xl4:=zlt C;have Aa:=zlt N;have K4:MK b v W r w4:=(MK.ext L.o.2.1).trans (U.o.2.1.trans ((MK.ext P.o.1).trans (T.o.2.1.trans (MK.ext Q))));have R:=zh4 (T.o.1.ext Q) K4 ((CF.step T.o.2.1 P.o.2.2.1).step (MK.ext Q)) (T.o.2.2.step (MK.ext Q));have K:s.pop.pop.stk.length<=4294967296:=znf (yaW s) L.o.2.2.2.2.1;have t:=L.o.2.2.2.1;clear B E D C N Q K4;go_upto_region 22 with(fail);rw[<-H];clear H u x0 x1 x2 x3 xl g;go_upto_region 27 with(fail)
 have i:=zhd (ycP (s.pop.top).parts s.pop.top (znc _) s.top ⟨dk,dn,ds,ma,mn,mc⟩ ⟨ck,cn,cs,la,ln,lc⟩ _ _ w4.drew (R.o.2.2.2.keep (S:=fun _=>False) (zkb ((znv _ _).drew)) (fun _ _ f=>f)) (R.o.2.2.1.keep (S:=fun _=>False) (zkb ((znv _ _).drew)) (fun _ _ f=>f)));generalize cmpV s.pop.top s.top=z at*;have y:=zhd (ybq (decide (z<0)));cases hr:decide (z<0)
 all_goals
  rw[hr]at t y;have HE:=zhd t;clear t
 .
  go_region_law (first
   |(go_simp;go_at_call 33;refine i.o.mono ?_;rintro e V ⟨rfl,A⟩;have O:=zhd (znw ((znv w4.heap.size w4).drew) A);clear A)
   |(go_simp;go_at_call 71;refine i.o.mono ?_;rintro e V ⟨rfl,A⟩;have O:=zhd (znw ((znv w4.heap.size w4).drew) A);clear A)
   |(go_simp;go_at_call 63;refine(y.o V).mono ?_;rintro e l ⟨rfl,G⟩;have c:=zhd (O.o.trans (G.mono O.o.size));clear G)
   |(go_simp;go_at_call 119;refine(yaj b r p s.pop.pop l (R.o.1.ext c.o) (yaK false) 1 _ ⟨#[]⟩ none 0 0 (ybf _ _ _) K).mono ?_;rintro e w7 ⟨q,rfl,a⟩))
  all_goals
   go_wp2;go_ret;exact⟨q,rfl,zhd ⟨by rw[HE.o];exact a.o.1,R.o.2.1.trans ((MK.ext c.o).trans a.o.2)⟩⟩
 .
  go_region_law (first
   |(go_simp;go_at_call 33;refine i.o.mono ?_;rintro e V ⟨rfl,A⟩;have O:=zhd (znw ((znv w4.heap.size w4).drew) A);clear A)
   |(go_simp;go_at_call 71;refine i.o.mono ?_;rintro e V ⟨rfl,A⟩;have O:=zhd (znw ((znv w4.heap.size w4).drew) A);clear A)
   |(go_simp;go_at_call 63;refine(y.o V).mono ?_;rintro e l ⟨rfl,G⟩;have c:=zhd (O.o.trans (G.mono O.o.size));clear G)
   |(go_simp;go_at_call 119;refine(yaj b r p s.pop.pop l (R.o.1.ext c.o) (yaK true) 1 _ ⟨#[]⟩ none 0 0 (ybf _ _ _) K).mono ?_;rintro e w7 ⟨q,rfl,a⟩))
  all_goals
   go_wp2;go_ret;exact⟨q,rfl,zhd ⟨by rw[HE.o];exact a.o.1,R.o.2.1.trans ((MK.ext c.o).trans a.o.2)⟩⟩
theorem ygZ
  {Z:Nat->Prop}(b:Nat)(v:MV)(p:Img)(s:MS)(W:World)(M:MX TT Z W b v p s)
  (k:Int)(hk:s.stk.length<=4294967296)(hl:s.made.length<=4294967296)(hZ:∀j,W.heap.size<=j->Z j)(s':MS)
  (hx:¬s.pop.top.kind=1\/¬s.top.kind=1)(hs':s'=s.pop.pop.tType):
  Calls Tryz.prog 164 #[.pointer (some ⟨b,0,none⟩),.agg #[.int .i64 5,k]] W (MP Z W b v p (.bool true) s')
  :=by
 obtain⟨g,I⟩:∃g,g=W.alloc (.cells #[.int .i64 5,k] 106):=⟨_,rfl⟩;have t:=zba I;have z:=zha I;have PO:=zhd (yai b v p s g (M.ext t));have D:=zh7 M t z hs' hk hl hZ;clear M t z hs' hk hl hZ;go_in;go_wp2_with fail;rw[<-I];clear I;refine PO.o.mono ?_;rintro e d ⟨u,⟨c,cn,cs,la,ln,lc⟩,rfl,T⟩;have F:=(T.o.2.1.keeps.block W (zlt D.o.2.2.1) (fun e=>by have:=D.o.1.lt e;omega)).trans D.o.2.2.1;have n:=zca F 0 rfl;have d1:=zca F 1 rfl;have a:=zlt F;have HB:=zhd F;clear F;have q:=zhd (fun(U:World) (M2:MX TT Z U b u p s.pop)=>yai b u p s.pop U M2);go_wp2_with fail;obtain⟨U,H⟩:∃U,U=d.alloc (.cells #[c,cn,cs,.slice la ln lc] 38):=⟨_,rfl⟩;have Y:=zba H;have V:=zha H;rw[<-H];have O:=zh5 Y (T.o.1.ext Y) (T.o.2.2.keep (S:=fun _=>False) (zkb Y) (fun _ _ f=>f)) V (Y.block W a|>.trans HB.o);clear H Y V n d1 a;refine(q.o _ O.o.2.1).mono ?_;rintro e w3 ⟨l,⟨Q,dn,ds,ma,mn,mc⟩,rfl,R⟩;have A:=(R.o.2.1.keeps.block d (zlt O.o.2.2.2.1) (fun e=>by have:=T.o.1.lt e;omega)).trans O.o.2.2.2.1
 have E:=(R.o.2.1.keeps.block W (zlt O.o.2.2.2.2) (fun e=>by
  rcases T.o.2.1.own _ e with h|h
  .have:=D.o.1.lt h;omega
  .have:=zlt D.o.2.2.1;omega)).trans O.o.2.2.2.2
 obtain⟨w4,G⟩:∃w4,w4=w3.alloc (.cells #[Q,dn,ds,.slice ma mn mc] 38):=⟨_,rfl⟩;have P:=zba G;have C:=zha G;have B:=(P.block d (zlt A)).trans A;have N:=(P.block W (zlt E)).trans E;have q0:=zca B 0 rfl;have q1:=zca B 1 rfl;have q2:=zca B 2 rfl;have q3:=zca B 3 rfl;have r0:=zca C 0 rfl;have r1:=zca C 1 rfl;have r2:=zca C 2 rfl;have r3:=zca C 3 rfl;have c0:=zca N 0 rfl;have n:=zca E 0 rfl;have x0:=zca A 0 rfl;have x1:=zca A 1 rfl;have x2:=zca A 2 rfl;have x3:=zca A 3 rfl;have xl:=zlt A;have a:=zlt E;have l4:=zlt C;have xl4:=zlt B;have Aa:=zlt N;have K4:MK b v W l w4:=(MK.ext D.o.2.1).trans (T.o.2.1.trans ((MK.ext O.o.1).trans (R.o.2.1.trans (MK.ext P))));have K:=zh4 (R.o.1.ext P) K4 ((CF.step R.o.2.1 O.o.2.2.1).step (MK.ext P)) (R.o.2.2.step (MK.ext P));have x:s.pop.pop.stk.length<=4294967296:=znf (yaW s) D.o.2.2.2.2.1;have y:=D.o.2.2.2.1;clear A E C B N P K4;go_upto_region 22 with(fail);rw[<-G];clear G n x0 x1 x2 x3 xl a;have J:Q=s.pop.top.kind:=K.o.2.2.2.kind;have L:c=s.top.kind:=K.o.2.2.1.kind
 by_cases h1:s.pop.top.kind=1
 .have m:(Q==1)=true:=by rw[beq_iff_eq,J];exact h1
  have n2:(c==1)=false:=by rw[zna,L];exact hx.resolve_left (fun h=>h h1)
  have n3:(Q !=1)=false:=by rw[bne,m];rfl
  have n4:(c !=1)=true:=by rw[bne,n2];rfl
  clear J L h1 hx;have r:=zhd (yau b l p s.pop.pop w4 K.o.1 ⟨#[116,121,112,101]⟩ (by decide) D.o.2.2.2.2.2.1 (yad D.o.2.2.2.2.2.2 K.o.2.1.keeps.size) s' (y.symm));go_wp2_with fail;refine r.o.mono ?_;rintro e w5 ⟨i,rfl,X⟩;go_wp2;go_ret;exact⟨i,rfl,zhd ⟨X.o.1,K.o.2.1.trans X.o.2⟩⟩
 .have m:(Q==1)=false:=by rw[zna,J];exact h1
  have n3:(Q !=1)=true:=by rw[bne,m];rfl
  clear J L h1 hx;have r:=zhd (yau b l p s.pop.pop w4 K.o.1 ⟨#[116,121,112,101]⟩ (by decide) D.o.2.2.2.2.2.1 (yad D.o.2.2.2.2.2.2 K.o.2.1.keeps.size) s' (y.symm));go_wp2_with fail;refine r.o.mono ?_;rintro e w5 ⟨i,rfl,X⟩;go_wp2;go_ret;exact⟨i,rfl,zhd ⟨X.o.1,K.o.2.1.trans X.o.2⟩⟩
theorem yiZ
  {Z:Nat->Prop}(b:Nat)(v:MV)(p:Img)(s:MS)(W:World)(M:MX TT Z W b v p s)
  (k:Int)(hk:s.stk.length<=4294967296)(hl:s.made.length<=4294967296)(hZ:∀j,W.heap.size<=j->Z j)(s':MS)
  (ha:s.pop.top.kind=1)(hb:s.top.kind=1)(hs':s'=s.pop.pop.push (ybw (wrap64 (s.pop.top.num+s.top.num)))):
  Calls Tryz.prog 164 #[.pointer (some ⟨b,0,none⟩),.agg #[.int .i64 5,k]] W (MP Z W b v p (.bool true) s')
  :=by
 obtain⟨i,H⟩:∃i,i=W.alloc (.cells #[.int .i64 5,k] 106):=⟨_,rfl⟩;have r:=zba H;have x:=zha H;have PO:=zhd (yai b v p s i (M.ext r));have I:=zh7 M r x hs' hk hl hZ;clear M r x hs' hk hl hZ;go_in;go_wp2_with fail;rw[<-H];clear H;refine PO.o.mono ?_;rintro e g ⟨u,⟨z,d,cs,la,ln,lc⟩,rfl,P⟩;have E:=(P.o.2.1.keeps.block W (zlt I.o.2.2.1) (fun e=>by have:=I.o.1.lt e;omega)).trans I.o.2.2.1;have m:=zca E 0 rfl;have d1:=zca E 1 rfl;have c:=zlt E;have HB:=zhd E;clear E;have q:=zhd (fun(Q:World) (M2:MX TT Z Q b u p s.pop)=>yai b u p s.pop Q M2);go_wp2_with fail;obtain⟨Q,G⟩:∃Q,Q=g.alloc (.cells #[z,d,cs,.slice la ln lc] 38):=⟨_,rfl⟩;have Y:=zba G;have V:=zha G;rw[<-G];have K:=zh5 Y (P.o.1.ext Y) (P.o.2.2.keep (S:=fun _=>False) (zkb Y) (fun _ _ f=>f)) V (Y.block W c|>.trans HB.o);clear G Y V m d1 c;refine(q.o _ K.o.2.1).mono ?_;rintro e w3 ⟨t,⟨y,a,ds,ma,mn,mc⟩,rfl,O⟩;have A:=(O.o.2.1.keeps.block g (zlt K.o.2.2.2.1) (fun e=>by have:=P.o.1.lt e;omega)).trans K.o.2.2.2.1
 have D:=(O.o.2.1.keeps.block W (zlt K.o.2.2.2.2) (fun e=>by
  rcases P.o.2.1.own _ e with h|h
  .have:=I.o.1.lt h;omega
  .have:=zlt I.o.2.2.1;omega)).trans K.o.2.2.2.2
 obtain⟨w4,F⟩:∃w4,w4=w3.alloc (.cells #[y,a,ds,.slice ma mn mc] 38):=⟨_,rfl⟩;have L:=zba F;have C:=zha F;have B:=(L.block g (zlt A)).trans A;have J:=(L.block W (zlt D)).trans D;have q0:=zca B 0 rfl;have q1:=zca B 1 rfl;have q2:=zca B 2 rfl;have q3:=zca B 3 rfl;have r0:=zca C 0 rfl;have r1:=zca C 1 rfl;have r2:=zca C 2 rfl;have r3:=zca C 3 rfl;have c0:=zca J 0 rfl;have m:=zca D 0 rfl;have x0:=zca A 0 rfl;have x1:=zca A 1 rfl;have x2:=zca A 2 rfl;have x3:=zca A 3 rfl;have xl:=zlt A;have c:=zlt D;have l4:=zlt C;have xl4:=zlt B;have Aa:=zlt J;have K4:MK b v W t w4:=(MK.ext I.o.2.1).trans (P.o.2.1.trans ((MK.ext K.o.1).trans (O.o.2.1.trans (MK.ext L))));have N:=zh4 (O.o.1.ext L) K4 ((CF.step O.o.2.1 K.o.2.2.1).step (MK.ext L)) (O.o.2.2.step (MK.ext L));have U:s.pop.pop.stk.length<=4294967296:=znf (yaW s) I.o.2.2.2.2.1;have l:=I.o.2.2.2.1;clear A D C B J L K4;go_upto_region 22 with(fail);rw[<-F];clear F m x0 x1 x2 x3 xl c;obtain rfl:y=1:=N.o.2.2.2.kind.trans ha;obtain rfl:z=1:=N.o.2.2.1.kind.trans hb
 have R:a=s.pop.top.num:=N.o.2.2.2.n;have T:d=s.top.num:=N.o.2.2.1.n;rw[<-R,<-T]at l;have HE:=zhd (show s'=s.pop.pop.push (ybw (IntKind.i64.wrap (a+d))) by rw[l,IntKind.wrap_i64];unfold wrap64;rfl);clear R T ha hb l;go_upto_region 48 with(fail);go_region_law (first
  |(go_simp;go_at_call 106;refine(ybg _ _).mono ?_;rintro e w6 ⟨rfl,X⟩;have H6:=zhd (znw ((znv w4.heap.size w4).drew) X);clear X)
  |(go_simp;go_at_call 119;refine(yaj b t p s.pop.pop w6 (N.o.1.ext H6.o) (ybw (IntKind.i64.wrap (a+d))) 1 _ ⟨#[]⟩ none 0 0 (ycJ _ _ _) U).mono ?_;rintro e w7 ⟨v7,rfl,H7⟩))
 all_goals
  go_wp2;go_ret;exact⟨v7,rfl,zhd ⟨by rw[HE.o];exact H7.o.1,N.o.2.1.trans ((MK.ext H6.o).trans H7.o.2)⟩⟩
theorem ygY
  {Z:Nat->Prop}(b:Nat)(v:MV)(p:Img)(s:MS)(W:World)(M:MX TT Z W b v p s)
  (k:Int)(hk:s.stk.length<=4294967296)(hl:s.made.length<=4294967296)(hZ:∀j,W.heap.size<=j->Z j)(s':MS)
  (hx:¬s.pop.top.kind=1\/¬s.top.kind=1)(hs':s'=s.pop.pop.tType):
  Calls Tryz.prog 164 #[.pointer (some ⟨b,0,none⟩),.agg #[.int .i64 6,k]] W (MP Z W b v p (.bool true) s')
  :=by
 obtain⟨g,I⟩:∃g,g=W.alloc (.cells #[.int .i64 6,k] 106):=⟨_,rfl⟩;have t:=zba I;have z:=zha I;have PO:=zhd (yai b v p s g (M.ext t));have D:=zh7 M t z hs' hk hl hZ;clear M t z hs' hk hl hZ;go_in;go_wp2_with fail;rw[<-I];clear I;refine PO.o.mono ?_;rintro e d ⟨u,⟨c,cn,cs,la,ln,lc⟩,rfl,T⟩;have F:=(T.o.2.1.keeps.block W (zlt D.o.2.2.1) (fun e=>by have:=D.o.1.lt e;omega)).trans D.o.2.2.1;have n:=zca F 0 rfl;have d1:=zca F 1 rfl;have a:=zlt F;have HB:=zhd F;clear F;have q:=zhd (fun(U:World) (M2:MX TT Z U b u p s.pop)=>yai b u p s.pop U M2);go_wp2_with fail;obtain⟨U,H⟩:∃U,U=d.alloc (.cells #[c,cn,cs,.slice la ln lc] 38):=⟨_,rfl⟩;have Y:=zba H;have V:=zha H;rw[<-H];have O:=zh5 Y (T.o.1.ext Y) (T.o.2.2.keep (S:=fun _=>False) (zkb Y) (fun _ _ f=>f)) V (Y.block W a|>.trans HB.o);clear H Y V n d1 a;refine(q.o _ O.o.2.1).mono ?_;rintro e w3 ⟨l,⟨Q,dn,ds,ma,mn,mc⟩,rfl,R⟩;have A:=(R.o.2.1.keeps.block d (zlt O.o.2.2.2.1) (fun e=>by have:=T.o.1.lt e;omega)).trans O.o.2.2.2.1
 have E:=(R.o.2.1.keeps.block W (zlt O.o.2.2.2.2) (fun e=>by
  rcases T.o.2.1.own _ e with h|h
  .have:=D.o.1.lt h;omega
  .have:=zlt D.o.2.2.1;omega)).trans O.o.2.2.2.2
 obtain⟨w4,G⟩:∃w4,w4=w3.alloc (.cells #[Q,dn,ds,.slice ma mn mc] 38):=⟨_,rfl⟩;have P:=zba G;have C:=zha G;have B:=(P.block d (zlt A)).trans A;have N:=(P.block W (zlt E)).trans E;have q0:=zca B 0 rfl;have q1:=zca B 1 rfl;have q2:=zca B 2 rfl;have q3:=zca B 3 rfl;have r0:=zca C 0 rfl;have r1:=zca C 1 rfl;have r2:=zca C 2 rfl;have r3:=zca C 3 rfl;have c0:=zca N 0 rfl;have n:=zca E 0 rfl;have x0:=zca A 0 rfl;have x1:=zca A 1 rfl;have x2:=zca A 2 rfl;have x3:=zca A 3 rfl;have xl:=zlt A;have a:=zlt E;have l4:=zlt C;have xl4:=zlt B;have Aa:=zlt N;have K4:MK b v W l w4:=(MK.ext D.o.2.1).trans (T.o.2.1.trans ((MK.ext O.o.1).trans (R.o.2.1.trans (MK.ext P))));have K:=zh4 (R.o.1.ext P) K4 ((CF.step R.o.2.1 O.o.2.2.1).step (MK.ext P)) (R.o.2.2.step (MK.ext P));have x:s.pop.pop.stk.length<=4294967296:=znf (yaW s) D.o.2.2.2.2.1;have y:=D.o.2.2.2.1;clear A E C B N P K4;go_upto_region 22 with(fail);rw[<-G];clear G n x0 x1 x2 x3 xl a;have J:Q=s.pop.top.kind:=K.o.2.2.2.kind;have L:c=s.top.kind:=K.o.2.2.1.kind
 by_cases h1:s.pop.top.kind=1
 .have m:(Q==1)=true:=by rw[beq_iff_eq,J];exact h1
  have n2:(c==1)=false:=by rw[zna,L];exact hx.resolve_left (fun h=>h h1)
  have n3:(Q !=1)=false:=by rw[bne,m];rfl
  have n4:(c !=1)=true:=by rw[bne,n2];rfl
  clear J L h1 hx;have r:=zhd (yau b l p s.pop.pop w4 K.o.1 ⟨#[116,121,112,101]⟩ (by decide) D.o.2.2.2.2.2.1 (yad D.o.2.2.2.2.2.2 K.o.2.1.keeps.size) s' (y.symm));go_wp2_with fail;refine r.o.mono ?_;rintro e w5 ⟨i,rfl,X⟩;go_wp2;go_ret;exact⟨i,rfl,zhd ⟨X.o.1,K.o.2.1.trans X.o.2⟩⟩
 .have m:(Q==1)=false:=by rw[zna,J];exact h1
  have n3:(Q !=1)=true:=by rw[bne,m];rfl
  clear J L h1 hx;have r:=zhd (yau b l p s.pop.pop w4 K.o.1 ⟨#[116,121,112,101]⟩ (by decide) D.o.2.2.2.2.2.1 (yad D.o.2.2.2.2.2.2 K.o.2.1.keeps.size) s' (y.symm));go_wp2_with fail;refine r.o.mono ?_;rintro e w5 ⟨i,rfl,X⟩;go_wp2;go_ret;exact⟨i,rfl,zhd ⟨X.o.1,K.o.2.1.trans X.o.2⟩⟩
theorem yiY
  {Z:Nat->Prop}(b:Nat)(v:MV)(p:Img)(s:MS)(W:World)(M:MX TT Z W b v p s)
  (k:Int)(hk:s.stk.length<=4294967296)(hl:s.made.length<=4294967296)(hZ:∀j,W.heap.size<=j->Z j)(s':MS)
  (ha:s.pop.top.kind=1)(hb:s.top.kind=1)(hs':s'=s.pop.pop.push (ybw (wrap64 (s.pop.top.num - s.top.num)))):
  Calls Tryz.prog 164 #[.pointer (some ⟨b,0,none⟩),.agg #[.int .i64 6,k]] W (MP Z W b v p (.bool true) s')
  :=by
 obtain⟨i,H⟩:∃i,i=W.alloc (.cells #[.int .i64 6,k] 106):=⟨_,rfl⟩;have r:=zba H;have x:=zha H;have PO:=zhd (yai b v p s i (M.ext r));have I:=zh7 M r x hs' hk hl hZ;clear M r x hs' hk hl hZ;go_in;go_wp2_with fail;rw[<-H];clear H;refine PO.o.mono ?_;rintro e g ⟨u,⟨z,d,cs,la,ln,lc⟩,rfl,P⟩;have E:=(P.o.2.1.keeps.block W (zlt I.o.2.2.1) (fun e=>by have:=I.o.1.lt e;omega)).trans I.o.2.2.1;have m:=zca E 0 rfl;have d1:=zca E 1 rfl;have c:=zlt E;have HB:=zhd E;clear E;have q:=zhd (fun(Q:World) (M2:MX TT Z Q b u p s.pop)=>yai b u p s.pop Q M2);go_wp2_with fail;obtain⟨Q,G⟩:∃Q,Q=g.alloc (.cells #[z,d,cs,.slice la ln lc] 38):=⟨_,rfl⟩;have Y:=zba G;have V:=zha G;rw[<-G];have K:=zh5 Y (P.o.1.ext Y) (P.o.2.2.keep (S:=fun _=>False) (zkb Y) (fun _ _ f=>f)) V (Y.block W c|>.trans HB.o);clear G Y V m d1 c;refine(q.o _ K.o.2.1).mono ?_;rintro e w3 ⟨t,⟨y,a,ds,ma,mn,mc⟩,rfl,O⟩;have A:=(O.o.2.1.keeps.block g (zlt K.o.2.2.2.1) (fun e=>by have:=P.o.1.lt e;omega)).trans K.o.2.2.2.1
 have D:=(O.o.2.1.keeps.block W (zlt K.o.2.2.2.2) (fun e=>by
  rcases P.o.2.1.own _ e with h|h
  .have:=I.o.1.lt h;omega
  .have:=zlt I.o.2.2.1;omega)).trans K.o.2.2.2.2
 obtain⟨w4,F⟩:∃w4,w4=w3.alloc (.cells #[y,a,ds,.slice ma mn mc] 38):=⟨_,rfl⟩;have L:=zba F;have C:=zha F;have B:=(L.block g (zlt A)).trans A;have J:=(L.block W (zlt D)).trans D;have q0:=zca B 0 rfl;have q1:=zca B 1 rfl;have q2:=zca B 2 rfl;have q3:=zca B 3 rfl;have r0:=zca C 0 rfl;have r1:=zca C 1 rfl;have r2:=zca C 2 rfl;have r3:=zca C 3 rfl;have c0:=zca J 0 rfl;have m:=zca D 0 rfl;have x0:=zca A 0 rfl;have x1:=zca A 1 rfl;have x2:=zca A 2 rfl;have x3:=zca A 3 rfl;have xl:=zlt A;have c:=zlt D;have l4:=zlt C;have xl4:=zlt B;have Aa:=zlt J;have K4:MK b v W t w4:=(MK.ext I.o.2.1).trans (P.o.2.1.trans ((MK.ext K.o.1).trans (O.o.2.1.trans (MK.ext L))));have N:=zh4 (O.o.1.ext L) K4 ((CF.step O.o.2.1 K.o.2.2.1).step (MK.ext L)) (O.o.2.2.step (MK.ext L));have U:s.pop.pop.stk.length<=4294967296:=znf (yaW s) I.o.2.2.2.2.1;have l:=I.o.2.2.2.1;clear A D C B J L K4;go_upto_region 22 with(fail);rw[<-F];clear F m x0 x1 x2 x3 xl c;obtain rfl:y=1:=N.o.2.2.2.kind.trans ha;obtain rfl:z=1:=N.o.2.2.1.kind.trans hb
 have R:a=s.pop.top.num:=N.o.2.2.2.n;have T:d=s.top.num:=N.o.2.2.1.n;rw[<-R,<-T]at l;have HE:=zhd (show s'=s.pop.pop.push (ybw (IntKind.i64.wrap (a - d))) by rw[l,IntKind.wrap_i64];unfold wrap64;rfl);clear R T ha hb l;go_upto_region 50 with(fail);go_region_law (first
  |(go_simp;go_at_call 106;refine(ybg _ _).mono ?_;rintro e w6 ⟨rfl,X⟩;have H6:=zhd (znw ((znv w4.heap.size w4).drew) X);clear X)
  |(go_simp;go_at_call 119;refine(yaj b t p s.pop.pop w6 (N.o.1.ext H6.o) (ybw (IntKind.i64.wrap (a - d))) 1 _ ⟨#[]⟩ none 0 0 (ycJ _ _ _) U).mono ?_;rintro e w7 ⟨v7,rfl,H7⟩))
 all_goals
  go_wp2;go_ret;exact⟨v7,rfl,zhd ⟨by rw[HE.o];exact H7.o.1,N.o.2.1.trans ((MK.ext H6.o).trans H7.o.2)⟩⟩
theorem ygX
  {Z:Nat->Prop}(b:Nat)(v:MV)(p:Img)(s:MS)(W:World)(M:MX TT Z W b v p s)
  (k:Int)(hk:s.stk.length<=4294967296)(hl:s.made.length<=4294967296)(hZ:∀j,W.heap.size<=j->Z j)(s':MS)
  (hx:¬s.pop.top.kind=1\/¬s.top.kind=1)(hs':s'=s.pop.pop.tType):
  Calls Tryz.prog 164 #[.pointer (some ⟨b,0,none⟩),.agg #[.int .i64 7,k]] W (MP Z W b v p (.bool true) s')
  :=by
 obtain⟨g,I⟩:∃g,g=W.alloc (.cells #[.int .i64 7,k] 106):=⟨_,rfl⟩;have t:=zba I;have z:=zha I;have PO:=zhd (yai b v p s g (M.ext t));have D:=zh7 M t z hs' hk hl hZ;clear M t z hs' hk hl hZ;go_in;go_wp2_with fail;rw[<-I];clear I;refine PO.o.mono ?_;rintro e d ⟨u,⟨c,cn,cs,la,ln,lc⟩,rfl,T⟩;have F:=(T.o.2.1.keeps.block W (zlt D.o.2.2.1) (fun e=>by have:=D.o.1.lt e;omega)).trans D.o.2.2.1;have n:=zca F 0 rfl;have d1:=zca F 1 rfl;have a:=zlt F;have HB:=zhd F;clear F;have q:=zhd (fun(U:World) (M2:MX TT Z U b u p s.pop)=>yai b u p s.pop U M2);go_wp2_with fail;obtain⟨U,H⟩:∃U,U=d.alloc (.cells #[c,cn,cs,.slice la ln lc] 38):=⟨_,rfl⟩;have Y:=zba H;have V:=zha H;rw[<-H];have O:=zh5 Y (T.o.1.ext Y) (T.o.2.2.keep (S:=fun _=>False) (zkb Y) (fun _ _ f=>f)) V (Y.block W a|>.trans HB.o);clear H Y V n d1 a;refine(q.o _ O.o.2.1).mono ?_;rintro e w3 ⟨l,⟨Q,dn,ds,ma,mn,mc⟩,rfl,R⟩;have A:=(R.o.2.1.keeps.block d (zlt O.o.2.2.2.1) (fun e=>by have:=T.o.1.lt e;omega)).trans O.o.2.2.2.1
 have E:=(R.o.2.1.keeps.block W (zlt O.o.2.2.2.2) (fun e=>by
  rcases T.o.2.1.own _ e with h|h
  .have:=D.o.1.lt h;omega
  .have:=zlt D.o.2.2.1;omega)).trans O.o.2.2.2.2
 obtain⟨w4,G⟩:∃w4,w4=w3.alloc (.cells #[Q,dn,ds,.slice ma mn mc] 38):=⟨_,rfl⟩;have P:=zba G;have C:=zha G;have B:=(P.block d (zlt A)).trans A;have N:=(P.block W (zlt E)).trans E;have q0:=zca B 0 rfl;have q1:=zca B 1 rfl;have q2:=zca B 2 rfl;have q3:=zca B 3 rfl;have r0:=zca C 0 rfl;have r1:=zca C 1 rfl;have r2:=zca C 2 rfl;have r3:=zca C 3 rfl;have c0:=zca N 0 rfl;have n:=zca E 0 rfl;have x0:=zca A 0 rfl;have x1:=zca A 1 rfl;have x2:=zca A 2 rfl;have x3:=zca A 3 rfl;have xl:=zlt A;have a:=zlt E;have l4:=zlt C;have xl4:=zlt B;have Aa:=zlt N;have K4:MK b v W l w4:=(MK.ext D.o.2.1).trans (T.o.2.1.trans ((MK.ext O.o.1).trans (R.o.2.1.trans (MK.ext P))));have K:=zh4 (R.o.1.ext P) K4 ((CF.step R.o.2.1 O.o.2.2.1).step (MK.ext P)) (R.o.2.2.step (MK.ext P));have x:s.pop.pop.stk.length<=4294967296:=znf (yaW s) D.o.2.2.2.2.1;have y:=D.o.2.2.2.1;clear A E C B N P K4;go_upto_region 22 with(fail);rw[<-G];clear G n x0 x1 x2 x3 xl a;have J:Q=s.pop.top.kind:=K.o.2.2.2.kind;have L:c=s.top.kind:=K.o.2.2.1.kind
 by_cases h1:s.pop.top.kind=1
 .have m:(Q==1)=true:=by rw[beq_iff_eq,J];exact h1
  have n2:(c==1)=false:=by rw[zna,L];exact hx.resolve_left (fun h=>h h1)
  have n3:(Q !=1)=false:=by rw[bne,m];rfl
  have n4:(c !=1)=true:=by rw[bne,n2];rfl
  clear J L h1 hx;have r:=zhd (yau b l p s.pop.pop w4 K.o.1 ⟨#[116,121,112,101]⟩ (by decide) D.o.2.2.2.2.2.1 (yad D.o.2.2.2.2.2.2 K.o.2.1.keeps.size) s' (y.symm));go_wp2_with fail;refine r.o.mono ?_;rintro e w5 ⟨i,rfl,X⟩;go_wp2;go_ret;exact⟨i,rfl,zhd ⟨X.o.1,K.o.2.1.trans X.o.2⟩⟩
 .have m:(Q==1)=false:=by rw[zna,J];exact h1
  have n3:(Q !=1)=true:=by rw[bne,m];rfl
  clear J L h1 hx;have r:=zhd (yau b l p s.pop.pop w4 K.o.1 ⟨#[116,121,112,101]⟩ (by decide) D.o.2.2.2.2.2.1 (yad D.o.2.2.2.2.2.2 K.o.2.1.keeps.size) s' (y.symm));go_wp2_with fail;refine r.o.mono ?_;rintro e w5 ⟨i,rfl,X⟩;go_wp2;go_ret;exact⟨i,rfl,zhd ⟨X.o.1,K.o.2.1.trans X.o.2⟩⟩
theorem yiX
  {Z:Nat->Prop}(b:Nat)(v:MV)(p:Img)(s:MS)(W:World)(M:MX TT Z W b v p s)
  (k:Int)(hk:s.stk.length<=4294967296)(hl:s.made.length<=4294967296)(hZ:∀j,W.heap.size<=j->Z j)(s':MS)
  (ha:s.pop.top.kind=1)(hb:s.top.kind=1)(hs':s'=s.pop.pop.push (ybw (wrap64 (s.pop.top.num*s.top.num)))):
  Calls Tryz.prog 164 #[.pointer (some ⟨b,0,none⟩),.agg #[.int .i64 7,k]] W (MP Z W b v p (.bool true) s')
  :=by
 obtain⟨i,H⟩:∃i,i=W.alloc (.cells #[.int .i64 7,k] 106):=⟨_,rfl⟩;have r:=zba H;have x:=zha H;have PO:=zhd (yai b v p s i (M.ext r));have I:=zh7 M r x hs' hk hl hZ;clear M r x hs' hk hl hZ;go_in;go_wp2_with fail;rw[<-H];clear H;refine PO.o.mono ?_;rintro e g ⟨u,⟨z,d,cs,la,ln,lc⟩,rfl,P⟩;have E:=(P.o.2.1.keeps.block W (zlt I.o.2.2.1) (fun e=>by have:=I.o.1.lt e;omega)).trans I.o.2.2.1;have m:=zca E 0 rfl;have d1:=zca E 1 rfl;have c:=zlt E;have HB:=zhd E;clear E;have q:=zhd (fun(Q:World) (M2:MX TT Z Q b u p s.pop)=>yai b u p s.pop Q M2);go_wp2_with fail;obtain⟨Q,G⟩:∃Q,Q=g.alloc (.cells #[z,d,cs,.slice la ln lc] 38):=⟨_,rfl⟩;have Y:=zba G;have V:=zha G;rw[<-G];have K:=zh5 Y (P.o.1.ext Y) (P.o.2.2.keep (S:=fun _=>False) (zkb Y) (fun _ _ f=>f)) V (Y.block W c|>.trans HB.o);clear G Y V m d1 c;refine(q.o _ K.o.2.1).mono ?_;rintro e w3 ⟨t,⟨y,a,ds,ma,mn,mc⟩,rfl,O⟩;have A:=(O.o.2.1.keeps.block g (zlt K.o.2.2.2.1) (fun e=>by have:=P.o.1.lt e;omega)).trans K.o.2.2.2.1
 have D:=(O.o.2.1.keeps.block W (zlt K.o.2.2.2.2) (fun e=>by
  rcases P.o.2.1.own _ e with h|h
  .have:=I.o.1.lt h;omega
  .have:=zlt I.o.2.2.1;omega)).trans K.o.2.2.2.2
 obtain⟨w4,F⟩:∃w4,w4=w3.alloc (.cells #[y,a,ds,.slice ma mn mc] 38):=⟨_,rfl⟩;have L:=zba F;have C:=zha F;have B:=(L.block g (zlt A)).trans A;have J:=(L.block W (zlt D)).trans D;have q0:=zca B 0 rfl;have q1:=zca B 1 rfl;have q2:=zca B 2 rfl;have q3:=zca B 3 rfl;have r0:=zca C 0 rfl;have r1:=zca C 1 rfl;have r2:=zca C 2 rfl;have r3:=zca C 3 rfl;have c0:=zca J 0 rfl;have m:=zca D 0 rfl;have x0:=zca A 0 rfl;have x1:=zca A 1 rfl;have x2:=zca A 2 rfl;have x3:=zca A 3 rfl;have xl:=zlt A;have c:=zlt D;have l4:=zlt C;have xl4:=zlt B;have Aa:=zlt J;have K4:MK b v W t w4:=(MK.ext I.o.2.1).trans (P.o.2.1.trans ((MK.ext K.o.1).trans (O.o.2.1.trans (MK.ext L))));have N:=zh4 (O.o.1.ext L) K4 ((CF.step O.o.2.1 K.o.2.2.1).step (MK.ext L)) (O.o.2.2.step (MK.ext L));have U:s.pop.pop.stk.length<=4294967296:=znf (yaW s) I.o.2.2.2.2.1;have l:=I.o.2.2.2.1;clear A D C B J L K4;go_upto_region 22 with(fail);rw[<-F];clear F m x0 x1 x2 x3 xl c;obtain rfl:y=1:=N.o.2.2.2.kind.trans ha;obtain rfl:z=1:=N.o.2.2.1.kind.trans hb
 have R:a=s.pop.top.num:=N.o.2.2.2.n;have T:d=s.top.num:=N.o.2.2.1.n;rw[<-R,<-T]at l;have HE:=zhd (show s'=s.pop.pop.push (ybw (IntKind.i64.wrap (a*d))) by rw[l,IntKind.wrap_i64];unfold wrap64;rfl);clear R T ha hb l;go_upto_region 46 with(fail);go_region_law (first
  |(go_simp;go_at_call 106;refine(ybg _ _).mono ?_;rintro e w6 ⟨rfl,X⟩;have H6:=zhd (znw ((znv w4.heap.size w4).drew) X);clear X)
  |(go_simp;go_at_call 119;refine(yaj b t p s.pop.pop w6 (N.o.1.ext H6.o) (ybw (IntKind.i64.wrap (a*d))) 1 _ ⟨#[]⟩ none 0 0 (ycJ _ _ _) U).mono ?_;rintro e w7 ⟨v7,rfl,H7⟩))
 all_goals
  go_wp2;go_ret;exact⟨v7,rfl,zhd ⟨by rw[HE.o];exact H7.o.1,N.o.2.1.trans ((MK.ext H6.o).trans H7.o.2)⟩⟩
def yaD (c:Cm):Cm:={c with v:=yab c.v}
def yiA (W:World)(l:List Cm)(e:Ending)(w':World):Prop:=∃r:Value,e= .returned r/\Hid (XRow (fun g=>W<=g) w' 52 r l/\(∀g,r.ownBlock=some g->W.heap.size<=g)/\Below W W w')
theorem ya9 {α β:Type}[Cells α][Elt α β]{F:Nat->Prop}{w:World}{e:TypeId}{v:Value}{l:List β}(h:XRow F w e v l):∃a n c,v= .slice a n c:=by
 obtain⟨a,c,h⟩:=h.slice;exact⟨_,_,_,h⟩
def ypK (W:World)(l:List Cm)(gk:Nat)(v3 v11:Value)(wr:World):Prop:=
 ∃i:Nat,v11= .int .i64 i/\i<=l.length/\gk=l.length - i/\XRow (fun g=>W<=g/\¬v3.ownBlock=some g) wr 52 v3 ((l.take i).map yaD)/\(∀g,v3.ownBlock=some g->W.heap.size<=g)/\Below W W wr
theorem yfu
  {Z:Nat->Prop}(b:Nat)(v:MV)(p:Img)(s:MS)(W:World)(M:MX TT Z W b v p s)
  (hz:∀c∈s.made,szV c.v<=1073741824)(hl:s.made.length<=4294967296):
  Calls Tryz.prog 49 #[.pointer (some ⟨b,0,none⟩)] W (yiA W (s.made.map yaD)):=by
 obtain⟨am,cap,r⟩:∃a cap,v.ms= .slice a s.made.length cap:=M.mds.slice;have Ak:W.cell? ⟨b,21,none⟩=some (.slice am s.made.length cap):=by rw[<-r];exact M.cell (k:=21) rfl
 have hR:XRow (MZ Z v b) W 52 (.slice am s.made.length cap) s.made:=r▸M.mds;have b0:=zlt M.h;have HX:=zh3 hR hz hl;clear M r hR hz hl;go_in;go_wp2_with fail;obtain⟨n,hn⟩:∃n,s.made.length=n:=⟨_,rfl⟩;have O:=zhd hn;rw[hn];clear hn Ak;go_loopg [3,11] n (fun gk v3 v11 wr=>ypK W s.made gk v3 v11 wr)
 case atStart=>exact⟨0,rfl,znq _,by rw[O.o];rfl,XRow.nil _ _ _,(fun g h=>by cases h),znv _ _⟩
 case round=>
  obtain⟨i,rfl,hi,P,hX,hO,hB⟩:=hrel;rw[O.o]at hi P;by_cases hin:i<n
  .obtain⟨c,hc⟩:=yac (l:=s.made) (k:=i) (by rw[O.o];exact hin)
   obtain⟨g,E,cc,rfl,B,hrel,_,C⟩:=HX.o.1.at_ hc;have Am:(i:Int)<(n:Int):=by omega
   have Ag:wrap64 ((i:Int)+1)=(i:Int)+1:=by have:=HX.o.2.2;have:=O.o;unfold wrap64;omega
   obtain⟨T,Q,V,U,R,⟨vk,vn,vs,la,ln,lc⟩⟩:=cc;have m0:W.cell? ⟨g,E+i*9,none⟩=some (.int .i64 T):=C 0 _ rfl;have m1:W.cell? ⟨g,E+i*9+1,none⟩=some (.int .i64 Q):=C 1 _ rfl;have m2:W.cell? ⟨g,E+i*9+2,none⟩=some (.int .i64 V):=C 2 _ rfl;have m3:W.cell? ⟨g,E+i*9+3,none⟩=some (.int .i64 U):=C 3 _ rfl;have m4:W.cell? ⟨g,E+i*9+4,none⟩=some (.string R):=C 4 _ rfl;have m5:W.cell? ⟨g,E+i*9+5,none⟩=some (.int .i64 vk):=C 5 _ rfl;have m6:W.cell? ⟨g,E+i*9+6,none⟩=some (.int .i64 vn):=C 6 _ rfl;have m7:W.cell? ⟨g,E+i*9+7,none⟩=some (.string vs):=C 7 _ rfl;have m8:W.cell? ⟨g,E+i*9+8,none⟩=some (.slice la ln lc):=C 8 _ rfl;rw[<-hB.cell (p:=⟨g,_,none⟩) B]at m0 m1 m2 m3 m4 m5 m6 m7 m8;have As:g<wr:=znj B hB.size;have N:CmF (MZ Z v b) W ⟨T,Q,V,U,R,⟨vk,vn,vs,la,ln,lc⟩⟩ c:=hrel;have Aa:=HX.o.2.1 c (zmg hc);have D:=zh7 hX hO hB N hc P Aa;clear C hrel N hX hO hB hc P hi Aa;go_upto_region 5 with(fail);refine yaa ?_;intro w1 m;have B1:=zba m;have K:=zha m;have q5:=zca K 5 rfl;have q6:=zca K 6 rfl;have q7:=zca K 7 rfl;have q8:=zca K 8 rfl;have Aj:=zlt K
   have CL:=zhd (yax c.v vk vn vs la ln lc _ w1 ((D.o.2.2.2.1.v.keep (S:=fun _=>False) (zkb D.o.2.2.1) (fun _ _ f=>f)).keep (S:=fun _=>False) (zkb B1) (fun _ _ f=>f)) D.o.2.2.2.2.2.2);have H1:=zh2 B1 K;clear m B1 K m0 m1 m2 m3 m4 m5 m6 m7 m8;go_wp2_with fail;refine CL.o.mono ?_;rintro e w2 ⟨⟨d,Y,X,I,F,H⟩,rfl,H2⟩;have J:=(H2.o.2.block wr Aj).trans H1.o.2;have At:∀o,w2.frozen? ⟨wr,o,none⟩=false:=fun o=>zfr J o;have Ar:=zlt J;have q5:=zca J 5 rfl;have q6:=zca J 6 rfl;have q7:=zca J 7 rfl;have q8:=zca J 8 rfl;have Al:=zhd J;clear J;go_upto_region 6 with(fail);refine yaa ?_;intro w3 L;have A:w3.heap[wr.heap.size]? =some (.cells #[T,Q,V,U,R,d,Y,X,.slice I F H] 52 (0,0)):=by
    rw[L];have:=Al.o;simp[World.setCell,zni,this]
   have K3:Keeps (fun j=>j=wr) w2 w3:=by rw[L];exact yct w2 wr.heap.size 5 6 7 8 _ _ _ _
   have q0:=zca A 0 rfl;have q1:=zca A 1 rfl;have q2:=zca A 2 rfl;have q3:=zca A 3 rfl;have q4:=zca A 4 rfl;have q5:=zca A 5 rfl;have q6:=zca A 6 rfl;have q7:=zca A 7 rfl;have q8:=zca A 8 rfl;have Aq:=zlt A;have z:Below wr wr w2:=H1.o.1.trans (H2.o.2.mono H1.o.1.size);have y:Below wr wr w3:=z.trans (K3.below z.size (fun jz hj e=>Nat.ne_of_lt hj e));have C3:CF (fun g=>wr<=g/\g≠wr) w3 ⟨d,Y,X,I,F,H⟩ (yab c.v):=(H2.o.1.mono (G:=fun g=>wr<=g/\g≠wr) (fun g B _=>by have B:w1<=g:=B;omega)).keep K3 (fun g B e=>B.2 e);obtain⟨va,vl,vc,Ah⟩:=ya9 D.o.1;subst Ah;obtain⟨ks,Ae,u⟩:=(D.o.1.below y).cells;have t:ks.length=i:=by
    rw[u.1,zmd,List.length_take];have:=O.o;omega
   have RA:=zhd (Ae.below ((znv w3.heap.size w3).alloc (znc _) (.cells #[T,Q,V,U,R,d,Y,X,.slice I F H] 52)));have Af:=zhd (show(ks.length+1)*104<=140737488355328/\ks.length+1<=maxLen from by have:=HX.o.2.2;have:=O.o;rw[t];unfold maxLen;omega);have H3:=zh4 u C3 y t;clear L A K3 z y C3 Ae u t;go_wp2_with (at_builtin;refine ybG (α:=CC) ymc rfl (.tmp 19) (.tmp 21) rfl RA.o (⟨T,Q,V,U,R,⟨d,Y,X,I,F,H⟩⟩:CC) rfl rfl (znb _ _) Af.o.1 Af.o.2 ?_;intro a1 c1 w4 Ab Ac Ad;have HF:=zh3 Ab Ac Ad;clear Ab Ac Ad);go_roundg (n - (i+1))
   case measure=>have h1:=D.o.2.2.2.2.2.1;have h2:=O.o;omega
   case rel=>
    have A4:Below w3 w3 (w3.alloc (.cells (enc (⟨T,Q,V,U,R,⟨d,Y,X,I,F,H⟩⟩:CC)).toArray 52)):=zal;have L:W<=w3.heap.size:=znf D.o.2.2.1.size H3.o.2.2.1.size;have An:wr<=w3.heap.size:=H3.o.2.2.1.size;have Ao:(w3.alloc (.cells (enc (⟨T,Q,V,U,R,⟨d,Y,X,I,F,H⟩⟩:CC)).toArray 52)).heap.size=w3.heap.size+1:=by simp
    have q:∀g,(Value.slice va vl vc).ownBlock=some g->W.heap.size<=g/\g<wr.heap.size:=fun g B=>⟨D.o.2.1 g B,D.o.1.lt B⟩;have Ai:s.made.take (i+1)=s.made.take i++[c]:=by rw[List.take_add_one,D.o.2.2.2.2.1];rfl
    refine⟨i+1,by simp[Ag],by rw[O.o];omega,by rw[O.o],?_,?_,?_⟩
    .rw[Ai,List.map_append,List.map_singleton]
     have P1:Ptw (fun g=>W<=g/\¬(Value.slice va vl vc).ownBlock=some g) w3 (ks++[⟨T,Q,V,U,R,⟨d,Y,X,I,F,H⟩⟩]) ((s.made.take i).map yaD++[yaD c]):=H3.o.1.app (Ptw.one (x:=yaD c) ⟨D.o.2.2.2.1.kind,D.o.2.2.2.1.time,D.o.2.2.2.1.a,D.o.2.2.2.1.b,D.o.2.2.2.1.name,H3.o.2.1.mono (fun g B _=>⟨znf D.o.2.2.1.size B.1,fun e=>by have:=(q g e).2;omega⟩)⟩);have P2:Ptw (fun g=>(W<=g/\¬(Value.slice va vl vc).ownBlock=some g)/\g<w3) w3 (ks++[⟨T,Q,V,U,R,⟨d,Y,X,I,F,H⟩⟩]) ((s.made.take i).map yaD++[yaD c]):=P1.mono (fun g B hl=>⟨B,hl⟩);have P3:=(P2.keep (S:=fun _=>False) (zkb A4) (fun _ _ f=>f)).keep HF.o.2.1 (fun g B e=>B.1.2 e);refine XRow.of HF.o.1 (Ptw.mono P3 ?_);intro g B _;refine⟨B.1.1,fun e=> ?_⟩;rcases HF.o.2.2 g e with h|h
     .exact B.1.2 h
     .have h:w3.heap.size+1<=g:=by simpa using h
      have:=B.2;omega
    .intro g B
     rcases HF.o.2.2 g B with h|h
     .exact(q g h).1
     .have h:w3.heap.size+1<=g:=by simpa using h
      omega
    .have K34:=((zkb (S:=fun _=>False) A4).mono (fun _ _ f=>f.elim)).trans HF.o.2.1 (fun _ _ e=>e)
     exact(D.o.2.2.1.trans (H3.o.2.2.1.mono D.o.2.2.1.size)).trans (K34.below L (fun j hj e=>by have:=q j e;omega))
  .obtain rfl:i=n:=by omega
   have Ap:¬(i:Int)<i:=by omega
   have hT:s.made.take i=s.made:=zmj (by rw[O.o];exact znc _);rw[hT]at hX;have D:=zh3 (hX.mono (G:=fun g=>W<=g) (fun g h _=>h.1)) hO hB;clear hX hO hB P hT hi;go_wp2;go_ret;exact⟨_,rfl,zhd D.o⟩
end Go.Proofs.YtpagmlndgblhhaaGreatDoor
