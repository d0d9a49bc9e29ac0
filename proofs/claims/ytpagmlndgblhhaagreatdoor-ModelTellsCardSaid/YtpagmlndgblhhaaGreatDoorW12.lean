/- Parts of the proof: what the functions and the plain laws give that later parts lean on. Conditions: none beyond those that each theorem names. -/
import Derived.Test.YtpagmlndgblhhaaGreatDoorW11
set_option maxRecDepth 100000
set_option maxHeartbeats 8000000
namespace Go.Va
open Go.Own Go.RowKit
open Cells (sz enc)
theorem RdF.flat {α:Type}[Cells α]{F:Nat->Prop}{w:World}{a:Option Addr}{n cap:Nat}{xs:List α}(h:RdF F w (.slice a n cap) xs)(hne:xs≠[]):∃g off,a=some ⟨g,off,none⟩/\F g/\∀j u,(xs.flatMap enc)[j]? =some u->w.cell? ⟨g,off+j,none⟩=some u:=by
 obtain⟨N,I,hv,_,_,H⟩:=h;cases hv;obtain⟨C,r,rfl⟩:∃x r,xs=x::r:=by cases xs with
  |nil=>exact absurd rfl hne
  |cons x r=>exact⟨x,r,rfl⟩
 obtain⟨g,off,rfl,L,_,_⟩:=H 0 C rfl;refine⟨g,off,rfl,L,fun j u hu=> ?_⟩;have A:=(zge hu).1;rw[Go.Own.ybu]at A;have G:0<sz α:=Nat.pos_of_ne_zero (fun e=>by rw[e]at A;simp at A);have J:j/sz α<(C::r).length:=(Nat.div_lt_iff_lt_mul G).2 A;obtain⟨x,E⟩:=yae J;obtain⟨M,D,B,_,_,K⟩:=H _ x E;cases B;have hm:j%sz α<sz α:=Nat.mod_lt _ G;have e:j=j/sz α*sz α+j%sz α:=by rw[Nat.mul_comm];exact(Nat.div_add_mod j (sz α)).symm
 have:=ybg _ _ _ x E hm;rw[<-e]at this;rw[e];exact K _ u (this▸hu)
theorem yf5 {α:Type}[Cells α]{P:Program}{t e:TypeId}{bytes:Nat}(E:ElemOf α P t e bytes){F:Nat->Prop}{W:World}{v u:Value}{xs ys:List α}(h:RowAt W e v xs)(hu:RdF F W u ys)
  (hl:(xs.length+ys.length)*bytes<=140737488355328)(h63:xs.length+ys.length<=maxLen)(ty:TypeId):
  ∃a1 q1 w1,(Builtin.append_ #[t,t] ty #[v,u]).run P W= .ok (.slice a1 (xs.length+ys.length) q1) w1/\RowAt w1 e (.slice a1 (xs.length+ys.length) q1) (xs++ys)/\Keeps (fun j=>v.ownBlock=some j) W w1/\
   ∀g,(Value.slice a1 (xs.length+ys.length) q1).ownBlock=some g->v.ownBlock=some g\/W.heap.size<=g:=by
 obtain⟨i,z,hi,R,Q,O,N⟩:=E.hi;obtain⟨C,J,rfl⟩:=hu.slice;by_cases hy:ys=[]
 .subst hy
  have D:(Builtin.append_ #[t,t] ty #[v,.slice C ([]:List α).length J]).run P W= .ok v W:=by
   rcases h with⟨rfl,rfl⟩|⟨g,A,T,S,rfl,V,M,_⟩
   .cases C<;>simp[Builtin.append_,run_underlying E.ht,sizeOf,typeInfo,hi,Builtin.lenOf,Builtin.firstCells,loadCells,loadCellsFrom]
   .cases C<;>simp[Builtin.append_,run_underlying E.ht,sizeOf,typeInfo,hi,Builtin.lenOf,Builtin.firstCells,loadCells,loadCellsFrom,M,storeCells,Addr.add_lit]
  obtain⟨L,K,rfl⟩:=h.slice;exact⟨L,K,W,D,by simpa using h,Keeps.refl _ _,fun g hg=>.inl hg⟩
 .obtain⟨g,A,rfl,_,I⟩:=hu.flat hy
  obtain⟨U,w1,D,B,G,H⟩:=yde (P:=P) t ty e i z bytes E.ht hi R Q O N h ⟨g,A,none⟩ ys.length J ys rfl (fun j u hu=>by rw[Addr.add_lit];exact I j u hu) hl h63;obtain⟨a1,q1,rfl⟩:=B.slice;rw[znk]at*;exact⟨a1,q1,w1,D,B,Keeps.of_grown G (fun k h=>h),fun g h=>(H g h).imp id (fun h=>h.1)⟩
theorem ye2 {α:Type}[Cells α]{P:Program}{t e:TypeId}{bytes:Nat}(E:ElemOf α P t e bytes){F:Nat->Prop}{W:World}{ops:Array Oper}{o:Oper}{a:Act}{K:Act->World->Prop}{Q:Exit->Act->World->Prop}{N:Prop}
  (hg:o.guard=none)(s x:Operand)(hop:o.op=Op.call {callee:=Callee.builtin Builtin.append,args:=#[s,x],argTypes:=#[t,t]})
  {v u:Value}(hs:a.eval s=v)(hx:a.eval x=u){xs ys:List α}(h:RowAt W e v xs)(hu:RdF F W u ys)
  (hl:(xs.length+ys.length)*bytes<=140737488355328)(h63:xs.length+ys.length<=maxLen)
  (n:Nat)(hn:xs.length+ys.length=n)
  (hK:∀a1 q1 w1,RowAt w1 e (.slice a1 n q1) (xs++ys)->Keeps (fun j=>v.ownBlock=some j) W w1->(∀g,(Value.slice a1 n q1).ownBlock=some g->v.ownBlock=some g\/W.heap.size<=g)->K (a.put o.dst (.slice a1 n q1)) w1):
  if Region.wanted o (yielded ops a.tmps)=true then Oper.wp P o a W K Q else N:=by
 subst hn;have D:Region.wanted o (yielded ops a.tmps)=true:=by simp[Region.wanted,hg]
 rw[if_pos D];obtain⟨a1,q1,w1,G,A,B,C⟩:=yf5 E h hu hl h63 o.type;unfold Oper.wp execOp;simp only[hop,resolve,invoke,builtin,Sem.run_bind,Sem.run_pure,Result.andThen_ok,List.map_toArray,List.map_cons,List.map_nil,hs,hx,G];exact hK a1 q1 w1 A B C
theorem VF.rd {F:Nat->Prop}{w:World}{v:Value}{l:List Val}(h:VF F w v l):∃cs:List VC,RdF F w v cs/\Ptw F w cs l:=by
 cases h with
 |mk _ cs _ hr hl h0 hv=>exact⟨cs,hr,hl,fun i c x hc hx=>⟨(h0 i c x hc hx).1,(h0 i c x hc hx).2.1,(h0 i c x hc hx).2.2,hv i c x hc hx⟩⟩
theorem VF.of {F:Nat->Prop}{w:World}{v:Value}{l:List Val}{cs:List VC}(hr:RdF F w v cs)(hp:Ptw F w cs l):VF F w v l:=
 .mk v cs l hr hp.1 (fun i c x hc hx=>⟨(hp.2 i c x hc hx).kind,(hp.2 i c x hc hx).n,(hp.2 i c x hc hx).s⟩) (fun i c x hc hx=>(hp.2 i c x hc hx).l)
end Go.Va
namespace Go.Proofs.YtpagmlndgblhhaaGreatDoor
open Go.RowKit Go.Own Go.Own.MapTy Go.Va Go.Sort
open Go.Own.Cells (sz enc)
theorem yeI (w:World)(o:Obj):(w.alloc o).heap.size=w.heap.size+1:=by simp
theorem yl8 (w':World)(b:Nat)(v1 v2 v3 v4:Value):Keeps (fun j=>j=b) w' ((((w'.setCell ⟨b,0,none⟩ v1).setCell ⟨b,1,none⟩ v2).setCell ⟨b,2,none⟩ v3).setCell ⟨b,3,none⟩ v4):=by
 have D:Keeps (fun j=>j=b) w' w':=Keeps.refl _ _;have C:=Keeps.setCell (p:=⟨b,0,none⟩) D (.inl rfl) v1;have B:=Keeps.setCell (p:=⟨b,1,none⟩) C (.inl rfl) v2;have A:=Keeps.setCell (p:=⟨b,2,none⟩) B (.inl rfl) v3;exact Keeps.setCell (p:=⟨b,3,none⟩) A (.inl rfl) v4
theorem ydD
  {Z:Nat->Prop}(b:Nat)(v:MV)(p:Img)(s:MS)(W:World)(M:MX TT Z W b v p s)
  (k:Int)(hk:s.stk.length<=4294967296)(hl:s.made.length<=4294967296)(hZ:∀j,W.heap.size<=j->Z j)(s':MS)
  (hx:¬s.pop.top.kind=3\/¬s.top.kind=1)(hs':s'=s.pop.pop.tType):
  Calls Tryz.prog 164 #[.pointer (some ⟨b,0,none⟩),.agg #[.int .i64 30,k]] W (MP Z W b v p (.bool true) s')
  :=by
 obtain⟨g,I⟩:∃g,g=W.alloc (.cells #[.int .i64 30,k] 106):=⟨_,rfl⟩;have t:=zba I;have z:=zha I;have PO:=zhd (yaj b v p s g (M.ext t));have D:=zh7 M t z hs' hk hl hZ;clear M t z hs' hk hl hZ;go_in;go_wp2_with fail;rw[<-I];clear I;refine PO.o.mono ?_;rintro e d ⟨u,⟨c,cn,cs,la,ln,lc⟩,rfl,T⟩;have F:=(T.o.2.1.keeps.block W (zlt D.o.2.2.1) (fun e=>by have:=D.o.1.lt e;omega)).trans D.o.2.2.1;have n:=zca F 0 rfl;have d1:=zca F 1 rfl;have a:=zlt F;have HB:=zhd F;clear F;have q:=zhd (fun(U:World) (M2:MX TT Z U b u p s.pop)=>yaj b u p s.pop U M2);go_wp2_with fail;obtain⟨U,H⟩:∃U,U=d.alloc (.cells #[c,cn,cs,.slice la ln lc] 38):=⟨_,rfl⟩;have Y:=zba H;have V:=zha H;rw[<-H];have O:=zh5 Y (T.o.1.ext Y) (T.o.2.2.keep (S:=fun _=>False) (zkb Y) (fun _ _ f=>f)) V (Y.block W a|>.trans HB.o);clear H Y V n d1 a;refine(q.o _ O.o.2.1).mono ?_;rintro e w3 ⟨l,⟨Q,dn,ds,ma,mn,mc⟩,rfl,R⟩;have A:=(R.o.2.1.keeps.block d (zlt O.o.2.2.2.1) (fun e=>by have:=T.o.1.lt e;omega)).trans O.o.2.2.2.1
 have E:=(R.o.2.1.keeps.block W (zlt O.o.2.2.2.2) (fun e=>by
  rcases T.o.2.1.own _ e with h|h
  .have:=D.o.1.lt h;omega
  .have:=zlt D.o.2.2.1;omega)).trans O.o.2.2.2.2
 obtain⟨w4,G⟩:∃w4,w4=w3.alloc (.cells #[Q,dn,ds,.slice ma mn mc] 38):=⟨_,rfl⟩;have P:=zba G;have C:=zha G;have B:=(P.block d (zlt A)).trans A;have N:=(P.block W (zlt E)).trans E;have q0:=zca B 0 rfl;have q1:=zca B 1 rfl;have q2:=zca B 2 rfl;have q3:=zca B 3 rfl;have r0:=zca C 0 rfl;have r1:=zca C 1 rfl;have r2:=zca C 2 rfl;have r3:=zca C 3 rfl;have c0:=zca N 0 rfl;have n:=zca E 0 rfl;have x0:=zca A 0 rfl;have x1:=zca A 1 rfl;have x2:=zca A 2 rfl;have x3:=zca A 3 rfl;have xl:=zlt A;have a:=zlt E;have l4:=zlt C;have xl4:=zlt B;have Aa:=zlt N;have K4:MK b v W l w4:=(MK.ext D.o.2.1).trans (T.o.2.1.trans ((MK.ext O.o.1).trans (R.o.2.1.trans (MK.ext P))));have K:=zh4 (R.o.1.ext P) K4 ((CF.step R.o.2.1 O.o.2.2.1).step (MK.ext P)) (R.o.2.2.step (MK.ext P));have x:s.pop.pop.stk.length<=4294967296:=znf (yaV s) D.o.2.2.2.2.1;have y:=D.o.2.2.2.1;clear A E C B N P K4;go_upto_region 22 with(fail);rw[<-G];clear G n x0 x1 x2 x3 xl a;have J:Q=s.pop.top.kind:=K.o.2.2.2.kind;have L:c=s.top.kind:=K.o.2.2.1.kind
 by_cases h1:s.pop.top.kind=3
 .have m:(Q==3)=true:=by rw[beq_iff_eq,J];exact h1
  have n2:(c==1)=false:=by rw[zna,L];exact hx.resolve_left (fun h=>h h1)
  have n3:(Q !=3)=false:=by rw[bne,m];rfl
  have n4:(c !=1)=true:=by rw[bne,n2];rfl
  clear J L h1 hx;have r:=zhd (yav b l p s.pop.pop w4 K.o.1 ⟨#[116,121,112,101]⟩ (by decide) D.o.2.2.2.2.2.1 (yad D.o.2.2.2.2.2.2 K.o.2.1.keeps.size) s' (y.symm));go_wp2_with fail;refine r.o.mono ?_;rintro e w5 ⟨i,rfl,X⟩;go_wp2;go_ret;exact⟨i,rfl,zhd ⟨X.o.1,K.o.2.1.trans X.o.2⟩⟩
 .have m:(Q==3)=false:=by rw[zna,J];exact h1
  have n3:(Q !=3)=true:=by rw[bne,m];rfl
  clear J L h1 hx;have r:=zhd (yav b l p s.pop.pop w4 K.o.1 ⟨#[116,121,112,101]⟩ (by decide) D.o.2.2.2.2.2.1 (yad D.o.2.2.2.2.2.2 K.o.2.1.keeps.size) s' (y.symm));go_wp2_with fail;refine r.o.mono ?_;rintro e w5 ⟨i,rfl,X⟩;go_wp2;go_ret;exact⟨i,rfl,zhd ⟨X.o.1,K.o.2.1.trans X.o.2⟩⟩
theorem yd6
  {Z:Nat->Prop}(b:Nat)(v:MV)(p:Img)(s:MS)(W:World)(M:MX TT Z W b v p s)
  (k:Int)(hk:s.stk.length<=4294967296)(hl:s.made.length<=4294967296)(hZ:∀j,W.heap.size<=j->Z j)(s':MS)
  (ha:s.pop.top.kind=3)(hb:s.top.kind=1)(hr:¬(0<=s.top.num/\s.top.num<s.pop.top.list.length))(hs':s'=s.pop.pop.push (yaa yag)):
  Calls Tryz.prog 164 #[.pointer (some ⟨b,0,none⟩),.agg #[.int .i64 30,k]] W (MP Z W b v p (.bool true) s')
  :=by
 obtain⟨w0,N⟩:∃w0,w0=W.alloc (.cells #[.int .i64 30,k] 106):=⟨_,rfl⟩;have B0:=zba N;have hB:=zha N;have PO:=zhd (yaj b v p s w0 (M.ext B0));have G:=zh7 M B0 hB hs' hk hl hZ;clear M B0 hB hs' hk hl hZ;go_in;go_wp2_with fail;rw[<-N];clear N;refine PO.o.mono ?_;rintro e w1 ⟨v1,⟨ck,X,cs,la,ln,lc⟩,rfl,i⟩;have I:=(i.o.2.1.keeps.block W (zlt G.o.2.2.1) (fun e=>by have:=G.o.1.lt e;omega)).trans G.o.2.2.1;have d0:=zca I 0 rfl;have d1:=zca I 1 rfl;have dl:=zlt I;have HB:=zhd I;clear I;have Aa:=zhd (fun(m:World) (M2:MX TT Z m b v1 p s.pop)=>yaj b v1 p s.pop m M2);go_wp2_with fail;obtain⟨m,L⟩:∃m,m=w1.alloc (.cells #[ck,X,cs,.slice la ln lc] 38):=⟨_,rfl⟩;have B2:=zba L;have u:=zha L;rw[<-L];have a:=zh5 B2 (i.o.1.ext B2) (i.o.2.2.keep (S:=fun _=>False) (zkb B2) (fun _ _ f=>f)) u (B2.block W dl|>.trans HB.o);clear L B2 u d0 d1 dl;refine(Aa.o _ a.o.2.1).mono ?_;rintro e w3 ⟨v2,⟨dk,dn,ds,ma,mn,mc⟩,rfl,d⟩;have A:=(d.o.2.1.keeps.block w1 (zlt a.o.2.2.2.1) (fun e=>by have:=i.o.1.lt e;omega)).trans a.o.2.2.2.1
 have H:=(d.o.2.1.keeps.block W (zlt a.o.2.2.2.2) (fun e=>by
  rcases i.o.2.1.own _ e with h|h
  .have:=G.o.1.lt h;omega
  .have:=zlt G.o.2.2.1;omega)).trans a.o.2.2.2.2
 obtain⟨w4,K⟩:∃w4,w4=w3.alloc (.cells #[dk,dn,ds,.slice ma mn mc] 38):=⟨_,rfl⟩;have c:=zba K;have F:=zha K;have E:=(c.block w1 (zlt A)).trans A;have V:=(c.block W (zlt H)).trans H;have q0:=zca E 0 rfl;have q1:=zca E 1 rfl;have q2:=zca E 2 rfl;have q3:=zca E 3 rfl;have r0:=zca F 0 rfl;have r1:=zca F 1 rfl;have r2:=zca F 2 rfl;have r3:=zca F 3 rfl;have c0:=zca V 0 rfl;have d0:=zca H 0 rfl;have x0:=zca A 0 rfl;have x1:=zca A 1 rfl;have x2:=zca A 2 rfl;have x3:=zca A 3 rfl;have xl:=zlt A;have dl:=zlt H;have l4:=zlt F;have xl4:=zlt E;have Ac:=zlt V;have K4:MK b v W v2 w4:=(MK.ext G.o.2.1).trans (i.o.2.1.trans ((MK.ext a.o.1).trans (d.o.2.1.trans (MK.ext c))));have P:=zh4 (d.o.1.ext c) K4 ((CF.step d.o.2.1 a.o.2.2.1).step (MK.ext c)) (d.o.2.2.step (MK.ext c));have Q:s.pop.pop.stk.length<=4294967296:=znf (yaV s) G.o.2.2.2.2.1;have hE:=G.o.2.2.2.1;clear A H F E V c K4;go_upto_region 22 with(fail);rw[<-K];clear K d0 x0 x1 x2 x3 xl dl;obtain rfl:dk=3:=P.o.2.2.2.kind.trans ha;obtain rfl:ck=1:=P.o.2.2.1.kind.trans hb
 have r:X=s.top.num:=P.o.2.2.1.n;have q:mn=s.pop.top.list.length:=P.o.2.2.2.l.elem.1;rw[<-r,<-q]at hr;have HE:=zhd hE;have n5:0<=X->decide (X<(mn:Int))=false:=fun h=>znd (fun h2=>hr ⟨h,h2⟩);obtain⟨B,D⟩:∃B,B=w4.alloc (.cells #[.int .i64 0,.int .i64 0,.string ⟨#[]⟩,.slice none 0 0] 38):=⟨_,rfl⟩;have B5:=zba D;have t:=zha D;obtain⟨t0,t1,t2,t3,Ab⟩:=zq4 t;have J:=zh2 B5 (P.o.1.ext B5);obtain⟨y,hy⟩:∃y,y=yag:=⟨_,rfl⟩;have CL:=zhd (yay y 0 0 ⟨#[]⟩ none 0 0 (fun _=>True) B.drew (by rw[hy];exact yaI _ _) (by rw[hy];exact ydU));rw[<-hy]at HE;clear r q ha hb hE B5 t hy;by_cases h0:0<=X
 .have n6:decide (0<=X)=true:=zno h0
  have n7:=n5 h0;clear n5 h0 hr;go_upto_region 35 with(fail);rw[<-D];clear D;go_region_law (first
   |(go_simp;go_at_call 58;refine CL.o.mono ?_;rintro e w7 ⟨⟨k8,n8,s8,U,R,T⟩,rfl,C⟩;have z:Below B B w7:=znw ((znv B.heap.size B).drew) C.o.2;have Y:=zh2 C.o.1 z;clear C z)
   |(go_simp;go_at_call 119;refine(yak b v2 p s.pop.pop w7 (J.o.2.ext Y.o.2) (yaa y) k8 n8 s8 U R T (Y.o.1.mono (fun g O _=>⟨fun e=>by have:=J.o.2.lt e;have O:B<=g:=O;omega,G.o.2.2.2.2.2.2 g (by have O:B<=g:=O;have:=G.o.2.1.size;have:=P.o.2.1.keeps.size;have:=J.o.1.size;omega)⟩)) Q).mono ?_;rintro e w9 ⟨v9,rfl,x⟩))
  all_goals
   go_wp2;go_ret;exact⟨v9,rfl,zhd ⟨by rw[HE.o];exact x.o.1,P.o.2.1.trans ((MK.ext (J.o.1.trans (Y.o.2.mono J.o.1.size))).trans x.o.2)⟩⟩
 .have n6:decide (0<=X)=false:=znd h0
  clear n5 h0 hr;go_upto_region 35 with(fail);rw[<-D];clear D;go_region_law (first
   |(go_simp;go_at_call 58;refine CL.o.mono ?_;rintro e w7 ⟨⟨k8,n8,s8,U,R,T⟩,rfl,C⟩;have z:Below B B w7:=znw ((znv B.heap.size B).drew) C.o.2;have Y:=zh2 C.o.1 z;clear C z)
   |(go_simp;go_at_call 119;refine(yak b v2 p s.pop.pop w7 (J.o.2.ext Y.o.2) (yaa y) k8 n8 s8 U R T (Y.o.1.mono (fun g O _=>⟨fun e=>by have:=J.o.2.lt e;have O:B<=g:=O;omega,G.o.2.2.2.2.2.2 g (by have O:B<=g:=O;have:=G.o.2.1.size;have:=P.o.2.1.keeps.size;have:=J.o.1.size;omega)⟩)) Q).mono ?_;rintro e w9 ⟨v9,rfl,x⟩))
  all_goals
   go_wp2;go_ret;exact⟨v9,rfl,zhd ⟨by rw[HE.o];exact x.o.1,P.o.2.1.trans ((MK.ext (J.o.1.trans (Y.o.2.mono J.o.1.size))).trans x.o.2)⟩⟩
theorem yeO
  {Z:Nat->Prop}(b:Nat)(v:MV)(p:Img)(s:MS)(W:World)(M:MX TT Z W b v p s)
  (k:Int)(hk:s.stk.length<=4294967296)(hl:s.made.length<=4294967296)(hZ:∀j,W.heap.size<=j->Z j)(s':MS)
  (ha:s.pop.top.kind=3)(hb:s.top.kind=1)(i:Nat)(y:Val)(hi:s.top.num=i)(hy:s.pop.top.list[i]? =some y)(hz:szV y<=1073741824)(hs':s'=s.pop.pop.push (yaa y)):
  Calls Tryz.prog 164 #[.pointer (some ⟨b,0,none⟩),.agg #[.int .i64 30,k]] W (MP Z W b v p (.bool true) s')
  :=by
 obtain⟨x,K⟩:∃x,x=W.alloc (.cells #[.int .i64 30,k] 106):=⟨_,rfl⟩;have B0:=zba K;have hB:=zha K;have PO:=zhd (yaj b v p s x (M.ext B0));have F:=zh7 M B0 hB hs' hk hl hZ;clear M B0 hB hs' hk hl hZ;go_in;go_wp2_with fail;rw[<-K];clear K;refine PO.o.mono ?_;rintro e u ⟨v1,⟨ck,cn,cs,la,ln,lc⟩,rfl,T⟩;have E:=(T.o.2.1.keeps.block W (zlt F.o.2.2.1) (fun e=>by have:=F.o.1.lt e;omega)).trans F.o.2.2.1;have d0:=zca E 0 rfl;have d1:=zca E 1 rfl;have r:=zlt E;have HB:=zhd E;clear E;have Ad:=zhd (fun(U:World) (M2:MX TT Z U b v1 p s.pop)=>yaj b v1 p s.pop U M2);go_wp2_with fail;obtain⟨U,J⟩:∃U,U=u.alloc (.cells #[ck,cn,cs,.slice la ln lc] 38):=⟨_,rfl⟩;have q:=zba J;have d:=zha J;rw[<-J];have P:=zh5 q (T.o.1.ext q) (T.o.2.2.keep (S:=fun _=>False) (zkb q) (fun _ _ f=>f)) d (q.block W r|>.trans HB.o);clear J q d d0 d1 r;refine(Ad.o _ P.o.2.1).mono ?_;rintro e w3 ⟨v2,⟨dk,dn,ds,ma,mn,mc⟩,rfl,R⟩;have A:=(R.o.2.1.keeps.block u (zlt P.o.2.2.2.1) (fun e=>by have:=T.o.1.lt e;omega)).trans P.o.2.2.2.1
 have D:=(R.o.2.1.keeps.block W (zlt P.o.2.2.2.2) (fun e=>by
  rcases T.o.2.1.own _ e with h|h
  .have:=F.o.1.lt h;omega
  .have:=zlt F.o.2.2.1;omega)).trans P.o.2.2.2.2
 obtain⟨w4,I⟩:∃w4,w4=w3.alloc (.cells #[dk,dn,ds,.slice ma mn mc] 38):=⟨_,rfl⟩;have Q:=zba I;have C:=zha I;have B:=(Q.block u (zlt A)).trans A;have N:=(Q.block W (zlt D)).trans D;have q0:=zca B 0 rfl;have q1:=zca B 1 rfl;have q2:=zca B 2 rfl;have q3:=zca B 3 rfl;have r0:=zca C 0 rfl;have r1:=zca C 1 rfl;have r2:=zca C 2 rfl;have r3:=zca C 3 rfl;have c0:=zca N 0 rfl;have d0:=zca D 0 rfl;have x0:=zca A 0 rfl;have x1:=zca A 1 rfl;have x2:=zca A 2 rfl;have x3:=zca A 3 rfl;have xl:=zlt A;have r:=zlt D;have l4:=zlt C;have xl4:=zlt B;have Ag:=zlt N;have K4:MK b v W v2 w4:=(MK.ext F.o.2.1).trans (T.o.2.1.trans ((MK.ext P.o.1).trans (R.o.2.1.trans (MK.ext Q))));have L:=zh4 (R.o.1.ext Q) K4 ((CF.step R.o.2.1 P.o.2.2.1).step (MK.ext Q)) (R.o.2.2.step (MK.ext Q));have X:s.pop.pop.stk.length<=4294967296:=znf (yaV s) F.o.2.2.2.2.1;have hE:=F.o.2.2.2.1;clear A D C B N Q K4;go_upto_region 22 with(fail);rw[<-I];clear I d0 x0 x1 x2 x3 xl r;obtain rfl:dk=3:=L.o.2.2.2.kind.trans ha;obtain rfl:ck=1:=L.o.2.2.1.kind.trans hb
 obtain rfl:cn=i:=L.o.2.2.1.n.trans hi;have V:mn=s.pop.top.list.length:=L.o.2.2.2.l.elem.1;have Ac:i<mn:=by rw[V];exact(zge hy).1
 obtain⟨⟨ek,en,es,ea,el,ec⟩,g,Ae,a,rfl,hF,Y,m0,m1,m2,m3⟩:=L.o.2.2.2.l.elem.2 i y hy;have HE:=zhd hE;have n7:(i:Int)<(mn:Int):=by omega
 have n8:(0:Int)<=(i:Int):=by omega
 obtain⟨G,H⟩:∃G,G=w4.alloc (.cells #[ek,en,es,.slice ea el ec] 38):=⟨_,rfl⟩;have t:=zba H;have c:=zha H;obtain⟨t0,t1,t2,t3,Af⟩:=zq4 c;have m:=zh2 t (L.o.1.ext t);have CL:=zhd (yay y ek en es ea el ec _ G.drew (a.keep (S:=fun _=>False) (zkb (t.drew)) (fun _ _ f=>f)) hz);clear V ha hb hE t c hy hi Ac a hF;go_upto_region 35 with(fail);rw[<-H];clear H;go_region_law (first
  |(go_simp;go_at_call 58;refine CL.o.mono ?_;rintro e w7 ⟨⟨k8,n8,s8,Ab,z,Aa⟩,rfl,O⟩;have B7:Below G G w7:=znw ((znv G.heap.size G).drew) O.o.2;have H7:=zh2 O.o.1 B7;clear O B7)
  |(go_simp;go_at_call 119;refine(yak b v2 p s.pop.pop w7 (m.o.2.ext H7.o.2) (yaa y) k8 n8 s8 Ab z Aa (H7.o.1.mono (fun g Y _=>⟨fun e=>by have:=m.o.2.lt e;have Y:G<=g:=Y;omega,F.o.2.2.2.2.2.2 g (by have Y:G<=g:=Y;have:=F.o.2.1.size;have:=L.o.2.1.keeps.size;have:=m.o.1.size;omega)⟩)) X).mono ?_;rintro e w9 ⟨v9,rfl,H9⟩))
 all_goals
  go_wp2;go_ret;exact⟨v9,rfl,zhd ⟨by rw[HE.o];exact H9.o.1,L.o.2.1.trans ((MK.ext (m.o.1.trans (H7.o.2.mono m.o.1.size))).trans H9.o.2)⟩⟩
theorem yjO (l:List Val)(la:Option Addr)(ln lc:Nat)(F:Nat->Prop)(w:World)(C:VF F w (.slice la ln lc) l)(hz:szV (.mk 3 0 ⟨#[]⟩ l)<=1073741824):
  Calls Tryz.prog 182 #[.slice la ln lc] w (ygT w (.mk 3 0 ⟨#[]⟩ l)):=by
 have Q:=zhd (yay (.mk 3 0 ⟨#[]⟩ l) 3 0 ⟨#[]⟩ la ln lc F (w.alloc (.cells #[.int .i64 0,.int .i64 0,.string ⟨#[]⟩,.slice none 0 0] 38)) ⟨rfl,rfl,rfl,C.keep (S:=fun _=>False) ((Keeps.refl _ _).alloc _) (fun _ _ f=>f)⟩ hz);clear C;go_in;go_wp2_with fail;refine Q.o.mono ?_;rintro e I ⟨⟨L,K,J,E,B,D⟩,rfl,H⟩;have G:=(H.o.2.block w (by simp)).trans (znb w _);have U:=fun o=>zfr G o;have T:=zlt G;have q:∀o,I.cell? ⟨w,o,none⟩=(#[.int .i64 0,.int .i64 0,.string ⟨#[]⟩,.slice none 0 0]:Array Value)[o]? :=fun o=>zch G _;have P:=q 0;have O:=q 1;have N:=q 2;have M:=q 3;simp only[zmc,zma,zmb]at P O N M;have R:=zhd (((znv w.heap.size w).alloc (znc _) (.cells #[.int .i64 0,.int .i64 0,.string ⟨#[]⟩,.slice none 0 0] 38)).trans (H.o.2.mono (by simp)));clear q G;go_wp2_with fail;exact zng (v:=.agg #[L,K,J,.slice E B D]) (by simp only[results,Tryz.results182];go_simp) rfl ⟨⟨L,K,J,E,B,D⟩,rfl,zhd ⟨(H.o.1.keep (yl8 I w.heap.size _ _ _ _) (fun g A e=>by
  have A:(w.alloc _).heap.size<=g:=A;rw[yeI]at A;have e:g=w:=e;omega)).mono (fun g A _=>by
   have A:(w.alloc _).heap.size<=g:=A;rw[yeI]at A;show w<=g;omega),yiL R.o _ _ _ _⟩⟩
theorem yd7
  {Z:Nat->Prop}(b:Nat)(v:MV)(p:Img)(s:MS)(W:World)(M:MX TT Z W b v p s)
  (k:Int)(hk:s.stk.length<=4294967296)(hl:s.made.length<=4294967296)(hZ:∀j,W.heap.size<=j->Z j)(s':MS)
  (ha:s.pop.top.kind=2)(hb:s.top.kind=2)(hz1:s.pop.top.txt.size<=1000)(hz2:s.top.txt.size<=1000)(hw:(ybZ (s.pop.top.txt++s.top.txt)).wf)(hs':s'=s.pop.pop.put (ybZ (s.pop.top.txt++s.top.txt))):
  Calls Tryz.prog 164 #[.pointer (some ⟨b,0,none⟩),.agg #[.int .i64 32,k]] W (MP Z W b v p (.bool true) s')
  :=by
 obtain⟨d,I⟩:∃d,d=W.alloc (.cells #[.int .i64 32,k] 106):=⟨_,rfl⟩;have q:=zba I;have u:=zha I;have PO:=zhd (yaj b v p s d (M.ext q));have F:=zh7 M q u hs' hk hl hZ;clear M q u hs' hk hl hZ;go_in;go_wp2_with fail;rw[<-I];clear I;refine PO.o.mono ?_;rintro e c ⟨t,⟨y,cn,a,la,ln,lc⟩,rfl,Q⟩;have E:=(Q.o.2.1.keeps.block W (zlt F.o.2.2.1) (fun e=>by have:=F.o.1.lt e;omega)).trans F.o.2.2.1;have m:=zca E 0 rfl;have d1:=zca E 1 rfl;have Y:=zlt E;have HB:=zhd E;clear E;have n:=zhd (fun(R:World) (M2:MX TT Z R b t p s.pop)=>yaj b t p s.pop R M2);go_wp2_with fail;obtain⟨R,H⟩:∃R,R=c.alloc (.cells #[y,cn,a,.slice la ln lc] 38):=⟨_,rfl⟩;have V:=zba H;have U:=zha H;rw[<-H];have N:=zh5 V (Q.o.1.ext V) (Q.o.2.2.keep (S:=fun _=>False) (zkb V) (fun _ _ f=>f)) U (V.block W Y|>.trans HB.o);clear H V U m d1 Y;refine(n.o _ N.o.2.1).mono ?_;rintro e w3 ⟨r,⟨x,dn,X,ma,mn,mc⟩,rfl,P⟩;have A:=(P.o.2.1.keeps.block c (zlt N.o.2.2.2.1) (fun e=>by have:=Q.o.1.lt e;omega)).trans N.o.2.2.2.1
 have D:=(P.o.2.1.keeps.block W (zlt N.o.2.2.2.2) (fun e=>by
  rcases Q.o.2.1.own _ e with h|h
  .have:=F.o.1.lt h;omega
  .have:=zlt F.o.2.2.1;omega)).trans N.o.2.2.2.2
 obtain⟨w4,G⟩:∃w4,w4=w3.alloc (.cells #[x,dn,X,.slice ma mn mc] 38):=⟨_,rfl⟩;have O:=zba G;have C:=zha G;have B:=(O.block c (zlt A)).trans A;have K:=(O.block W (zlt D)).trans D;have q0:=zca B 0 rfl;have q1:=zca B 1 rfl;have q2:=zca B 2 rfl;have q3:=zca B 3 rfl;have r0:=zca C 0 rfl;have r1:=zca C 1 rfl;have r2:=zca C 2 rfl;have r3:=zca C 3 rfl;have c0:=zca K 0 rfl;have m:=zca D 0 rfl;have x0:=zca A 0 rfl;have x1:=zca A 1 rfl;have x2:=zca A 2 rfl;have x3:=zca A 3 rfl;have xl:=zlt A;have Y:=zlt D;have l4:=zlt C;have xl4:=zlt B;have Aa:=zlt K;have z:MK b v W r w4:=(MK.ext F.o.2.1).trans (Q.o.2.1.trans ((MK.ext N.o.1).trans (P.o.2.1.trans (MK.ext O))));have L:=zh4 (P.o.1.ext O) z ((CF.step P.o.2.1 N.o.2.2.1).step (MK.ext O)) (P.o.2.2.step (MK.ext O));have T:s.pop.pop.stk.length<=4294967296:=znf (yaV s) F.o.2.2.2.2.1;have g:=F.o.2.2.2.1;clear A D C B K O z;go_upto_region 22 with(fail);rw[<-G];clear G m x0 x1 x2 x3 xl Y;obtain rfl:x=2:=L.o.2.2.2.kind.trans ha;obtain rfl:y=2:=L.o.2.2.1.kind.trans hb
 have l:X=s.pop.top.txt:=L.o.2.2.2.s;have i:a=s.top.txt:=L.o.2.2.1.s;rw[<-l,<-i]at hw g;rw[<-l]at hz1;rw[<-i]at hz2;have HE:=zh2 hw g;clear l i ha hb hw g;go_wp2_with fail;refine(yfY _ _).mono ?_;rintro e w5 ⟨rfl,J⟩;have PU:=zhd (yhq b r p s.pop.pop w5 (L.o.1.ext J) (ybZ (X++a)) 2 0 (X++a) none 0 0 (yk5 _ _ _) HE.o.1 T F.o.2.2.2.2.2.1 (yad F.o.2.2.2.2.2.2 (znf L.o.2.1.keeps.size J.size)) s' HE.o.2.symm);have H5:=zhd J;clear J;go_wp2_with fail;refine PU.o.mono ?_;rintro e w7 ⟨v7,rfl,H7⟩;go_wp2;go_ret;exact⟨v7,rfl,zhd ⟨H7.o.1,L.o.2.1.trans ((MK.ext H5.o).trans H7.o.2)⟩⟩
theorem yd9
  {Z:Nat->Prop}(b:Nat)(v:MV)(p:Img)(s:MS)(W:World)(M:MX TT Z W b v p s)
  (k:Int)(hk:s.stk.length<=4294967296)(hl:s.made.length<=4294967296)(hZ:∀j,W.heap.size<=j->Z j)(s':MS)
  (h2:¬(s.pop.top.kind=2/\s.top.kind=2))(h3:¬(s.pop.top.kind=3/\s.top.kind=3))(hs':s'=s.pop.pop.tType):
  Calls Tryz.prog 164 #[.pointer (some ⟨b,0,none⟩),.agg #[.int .i64 32,k]] W (MP Z W b v p (.bool true) s')
  :=by
 obtain⟨m,J⟩:∃m,m=W.alloc (.cells #[.int .i64 32,k] 106):=⟨_,rfl⟩;have t:=zba J;have z:=zha J;have PO:=zhd (yaj b v p s m (M.ext t));have B:=zh7 M t z hs' hk hl hZ;clear M t z hs' hk hl hZ;go_in;go_wp2_with fail;rw[<-J];clear J;refine PO.o.mono ?_;rintro e l ⟨x,⟨i,cn,cs,la,ln,lc⟩,rfl,R⟩;have F:=(R.o.2.1.keeps.block W (zlt B.o.2.2.1) (fun e=>by have:=B.o.1.lt e;omega)).trans B.o.2.2.1;have q:=zca F 0 rfl;have d1:=zca F 1 rfl;have g:=zlt F;have HB:=zhd F;clear F;have r:=zhd (fun(T:World) (M2:MX TT Z T b x p s.pop)=>yaj b x p s.pop T M2);go_wp2_with fail;obtain⟨T,I⟩:∃T,T=l.alloc (.cells #[i,cn,cs,.slice la ln lc] 38):=⟨_,rfl⟩;have c:=zba I;have Y:=zha I;rw[<-I];have N:=zh5 c (R.o.1.ext c) (R.o.2.2.keep (S:=fun _=>False) (zkb c) (fun _ _ f=>f)) Y (c.block W g|>.trans HB.o);clear I c Y q d1 g;refine(r.o _ N.o.2.1).mono ?_;rintro e w3 ⟨d,⟨P,dn,ds,ma,mn,mc⟩,rfl,Q⟩;have A:=(Q.o.2.1.keeps.block l (zlt N.o.2.2.2.1) (fun e=>by have:=R.o.1.lt e;omega)).trans N.o.2.2.2.1
 have E:=(Q.o.2.1.keeps.block W (zlt N.o.2.2.2.2) (fun e=>by
  rcases R.o.2.1.own _ e with h|h
  .have:=B.o.1.lt h;omega
  .have:=zlt B.o.2.2.1;omega)).trans N.o.2.2.2.2
 obtain⟨w4,H⟩:∃w4,w4=w3.alloc (.cells #[P,dn,ds,.slice ma mn mc] 38):=⟨_,rfl⟩;have O:=zba H;have D:=zha H;have C:=(O.block l (zlt A)).trans A;have L:=(O.block W (zlt E)).trans E;have q0:=zca C 0 rfl;have q1:=zca C 1 rfl;have q2:=zca C 2 rfl;have q3:=zca C 3 rfl;have r0:=zca D 0 rfl;have r1:=zca D 1 rfl;have r2:=zca D 2 rfl;have r3:=zca D 3 rfl;have c0:=zca L 0 rfl;have q:=zca E 0 rfl;have x0:=zca A 0 rfl;have x1:=zca A 1 rfl;have x2:=zca A 2 rfl;have x3:=zca A 3 rfl;have xl:=zlt A;have g:=zlt E;have l4:=zlt D;have xl4:=zlt C;have Aa:=zlt L;have K4:MK b v W d w4:=(MK.ext B.o.2.1).trans (R.o.2.1.trans ((MK.ext N.o.1).trans (Q.o.2.1.trans (MK.ext O))));have G:=zh4 (Q.o.1.ext O) K4 ((CF.step Q.o.2.1 N.o.2.2.1).step (MK.ext O)) (Q.o.2.2.step (MK.ext O));have y:s.pop.pop.stk.length<=4294967296:=znf (yaV s) B.o.2.2.2.2.1;have n:=B.o.2.2.2.1;clear A E D C L O K4;go_upto_region 22 with(fail);rw[<-H];clear H q x0 x1 x2 x3 xl g;have V:P=s.pop.top.kind:=G.o.2.2.2.kind;have X:i=s.top.kind:=G.o.2.2.1.kind
 rw[<-V,<-X]at h2 h3;clear V X;by_cases d2:P=2
 .have c2:(i==2)=false:=by rw[zna];exact fun e=>h2 ⟨d2,e⟩
  subst d2;clear h2 h3;have a:=zhd (yav b d p s.pop.pop w4 G.o.1 ⟨#[116,121,112,101]⟩ (by decide) B.o.2.2.2.2.2.1 (yad B.o.2.2.2.2.2.2 G.o.2.1.keeps.size) s' (n.symm));go_wp2_with fail;refine a.o.mono ?_;rintro e u ⟨U,rfl,K⟩;go_wp2;go_ret;exact⟨U,rfl,zhd ⟨K.o.1,G.o.2.1.trans K.o.2⟩⟩
 .have n2:(P==2)=false:=by rw[zna];exact d2
  by_cases d3:P=3
  .have c3:(i==3)=false:=by rw[zna];exact fun e=>h3 ⟨d3,e⟩
   subst d3;clear h2 h3 d2 n2;have a:=zhd (yav b d p s.pop.pop w4 G.o.1 ⟨#[116,121,112,101]⟩ (by decide) B.o.2.2.2.2.2.1 (yad B.o.2.2.2.2.2.2 G.o.2.1.keeps.size) s' (n.symm));go_wp2_with fail;refine a.o.mono ?_;rintro e u ⟨U,rfl,K⟩;go_wp2;go_ret;exact⟨U,rfl,zhd ⟨K.o.1,G.o.2.1.trans K.o.2⟩⟩
  .have n3:(P==3)=false:=by rw[zna];exact d3
   clear h2 h3 d2 d3;have a:=zhd (yav b d p s.pop.pop w4 G.o.1 ⟨#[116,121,112,101]⟩ (by decide) B.o.2.2.2.2.2.1 (yad B.o.2.2.2.2.2.2 G.o.2.1.keeps.size) s' (n.symm));go_wp2_with fail;refine a.o.mono ?_;rintro e u ⟨U,rfl,K⟩;go_wp2;go_ret;exact⟨U,rfl,zhd ⟨K.o.1,G.o.2.1.trans K.o.2⟩⟩
theorem yd8
  {Z:Nat->Prop}(b:Nat)(v:MV)(p:Img)(s:MS)(W:World)(M:MX TT Z W b v p s)
  (k:Int)(hk:s.stk.length<=4294967296)(hl:s.made.length<=4294967296)(hZ:∀j,W.heap.size<=j->Z j)(s':MS)
  (ha:s.pop.top.kind=3)(hb:s.top.kind=3)(hz:szV (.mk 3 0 ⟨#[]⟩ (s.pop.top.list++s.top.list))<=1073741824)(hw:(yaa (.mk 3 0 ⟨#[]⟩ (s.pop.top.list++s.top.list))).wf)(hs':s'=s.pop.pop.put (yaa (.mk 3 0 ⟨#[]⟩ (s.pop.top.list++s.top.list)))):
  Calls Tryz.prog 164 #[.pointer (some ⟨b,0,none⟩),.agg #[.int .i64 32,k]] W (MP Z W b v p (.bool true) s')
  :=by
 obtain⟨w0,J⟩:∃w0,w0=W.alloc (.cells #[.int .i64 32,k] 106):=⟨_,rfl⟩;have B0:=zba J;have hB:=zha J;have PO:=zhd (yaj b v p s w0 (M.ext B0));have F:=zh7 M B0 hB hs' hk hl hZ;clear M B0 hB hs' hk hl hZ;go_in;go_wp2_with fail;rw[<-J];clear J;refine PO.o.mono ?_;rintro e i ⟨v1,⟨ck,cn,cs,la,ln,lc⟩,rfl,c⟩;have E:=(c.o.2.1.keeps.block W (zlt F.o.2.2.1) (fun e=>by have:=F.o.1.lt e;omega)).trans F.o.2.2.1;have d0:=zca E 0 rfl;have d1:=zca E 1 rfl;have dl:=zlt E;have HB:=zhd E;clear E;have Ag:=zhd (fun(d:World) (M2:MX TT Z d b v1 p s.pop)=>yaj b v1 p s.pop d M2);go_wp2_with fail;obtain⟨d,I⟩:∃d,d=i.alloc (.cells #[ck,cn,cs,.slice la ln lc] 38):=⟨_,rfl⟩;have B2:=zba I;have y:=zha I;rw[<-I];have U:=zh5 B2 (c.o.1.ext B2) (c.o.2.2.keep (S:=fun _=>False) (zkb B2) (fun _ _ f=>f)) y (B2.block W dl|>.trans HB.o);clear I B2 y d0 d1 dl;refine(Ag.o _ U.o.2.1).mono ?_;rintro e w3 ⟨v2,⟨dk,dn,ds,ma,mn,mc⟩,rfl,a⟩;have A:=(a.o.2.1.keeps.block i (zlt U.o.2.2.2.1) (fun e=>by have:=c.o.1.lt e;omega)).trans U.o.2.2.2.1
 have D:=(a.o.2.1.keeps.block W (zlt U.o.2.2.2.2) (fun e=>by
  rcases c.o.2.1.own _ e with h|h
  .have:=F.o.1.lt h;omega
  .have:=zlt F.o.2.2.1;omega)).trans U.o.2.2.2.2
 obtain⟨w4,H⟩:∃w4,w4=w3.alloc (.cells #[dk,dn,ds,.slice ma mn mc] 38):=⟨_,rfl⟩;have V:=zba H;have C:=zha H;have B:=(V.block i (zlt A)).trans A;have P:=(V.block W (zlt D)).trans D;have q0:=zca B 0 rfl;have q1:=zca B 1 rfl;have q2:=zca B 2 rfl;have q3:=zca B 3 rfl;have r0:=zca C 0 rfl;have r1:=zca C 1 rfl;have r2:=zca C 2 rfl;have r3:=zca C 3 rfl;have c0:=zca P 0 rfl;have d0:=zca D 0 rfl;have x0:=zca A 0 rfl;have x1:=zca A 1 rfl;have x2:=zca A 2 rfl;have x3:=zca A 3 rfl;have xl:=zlt A;have dl:=zlt D;have l4:=zlt C;have xl4:=zlt B;have Ah:=zlt P;have K4:MK b v W v2 w4:=(MK.ext F.o.2.1).trans (c.o.2.1.trans ((MK.ext U.o.1).trans (a.o.2.1.trans (MK.ext V))));have G:=zh4 (a.o.1.ext V) K4 ((CF.step a.o.2.1 U.o.2.2.1).step (MK.ext V)) (a.o.2.2.step (MK.ext V));have n:s.pop.pop.stk.length<=4294967296:=znf (yaV s) F.o.2.2.2.2.1;have hE:=F.o.2.2.2.1;clear A D C B P V K4;go_upto_region 22 with(fail);rw[<-H];clear H d0 x0 x1 x2 x3 xl dl;obtain rfl:dk=3:=G.o.2.2.2.kind.trans ha;obtain rfl:ck=3:=G.o.2.2.1.kind.trans hb
 obtain⟨N,Aa,L⟩:=G.o.2.2.2.l.rd;obtain⟨ys,z,K⟩:=G.o.2.2.1.l.rd;have q:(s.pop.top.list++s.top.list).length<=1073741824:=by
  have:=yjV (s.pop.top.list++s.top.list);rw[ycX]at hz;have hz:szV.szL (s.pop.top.list++s.top.list)+30<=1073741824:=hz;omega
 rw[znk]at q;have Af:N.length=mn:=by have h1:mn=s.pop.top.list.length:=G.o.2.2.2.l.elem.1;have h2:=L.1;omega
 have Ae:ys.length=ln:=by have h1:ln=s.top.list.length:=G.o.2.2.1.l.elem.1;have h2:=K.1;omega
 have Y:=zhd (show(([]:List VC).length+N.length)*56<=140737488355328/\([]:List VC).length+N.length<=maxLen/\([]:List VC).length+N.length=mn/\(N.length+ys.length)*56<=140737488355328/\N.length+ys.length<=maxLen/\N.length+ys.length=mn+ln from by have h1:=L.1;have h2:=K.1;unfold maxLen;simp;omega);have R:=zh7 hw hE hz Aa L z K;clear ha hb hw hE hz Aa L z K q Af Ae;go_upto_region 41 with(fail);go_region_law (first
  |(refine ye2 (α:=VC) (o:=⟨some 167,_,_,_,_,_⟩) yfO (by rfl) (.tmp 164) (.tmp 166) (by rfl) (by rfl) (by rfl) (RowAt.none_ (znb _ _)) ((R.o.2.2.2.1.keep (S:=fun _=>False) (zkb (((znv w4.heap.size w4).drew).alloc (znc _) _)) (fun _ _ f=>f))) Y.o.1 Y.o.2.1 mn Y.o.2.2.1 ?_;intro a5 q5 w5 O t x;rw[List.nil_append]at O;have P5:=ybC (((Keeps.refl (fun _=>False) w4).drew).alloc _) t (ycN (znc _)) x;have H5:=zh2 O P5;have u3:w5.cell? ⟨i,3,none⟩=some (.slice la ln lc):=(P5.1.cell (p:=⟨i,3,none⟩) xl4 (fun f=>f)).trans q3;clear O t x P5)
  |(refine ye2 (α:=VC) (o:=⟨some 170,_,_,_,_,_⟩) yfO (by rfl) (.tmp 167) (.tmp 169) (by rfl) (by rfl) (by rfl) H5.o.1 (R.o.2.2.2.2.2.1.keep H5.o.2.1 (fun _ _ f=>f)) Y.o.2.2.2.1 Y.o.2.2.2.2.1 (mn+ln) Y.o.2.2.2.2.2 ?_;intro a6 q6 w6 m r u;have P6:=ybC H5.o.2.1 r H5.o.2.2 u;have T:=zh2 m P6;clear m r u P6)
  |(go_simp;go_at_call 182;refine(yjO (s.pop.top.list++s.top.list) a6 (mn+ln) q6 (fun g=>MZ Z v2 b g\/w4<=g) w6 (VF.of (RdF.of_row T.o.1 (fun g X=>.inr (T.o.2.2 g X))) (((R.o.2.2.2.2.1.app R.o.2.2.2.2.2.2).mono (fun g h _=>.inl h)).keep T.o.2.1 (fun _ _ f=>f))) R.o.2.2.1).mono ?_;rintro e w7 ⟨⟨k8,n8,s8,Ad,Ab,Ac⟩,rfl,Q⟩;have B7:Below w4 w4 w7:=T.o.2.1.below_of.trans (Q.o.2.mono T.o.2.1.size);have H7:=zh2 Q.o.1 B7;clear Q B7)
  |(go_simp;go_at_call 181;refine(yhq b v2 p s.pop.pop w7 (G.o.1.ext H7.o.2) (yaa (.mk 3 0 ⟨#[]⟩ (s.pop.top.list++s.top.list))) k8 n8 s8 Ad Ab Ac (H7.o.1.mono (fun g X _=>⟨fun e=>by have:=G.o.1.lt e;have X:w6<=g:=X;have:=T.o.2.1.size;omega,F.o.2.2.2.2.2.2 g (by have X:w6<=g:=X;have:=T.o.2.1.size;have:=G.o.2.1.keeps.size;omega)⟩)) R.o.1 n F.o.2.2.2.2.2.1 (yad F.o.2.2.2.2.2.2 (znf G.o.2.1.keeps.size H7.o.2.size)) s' R.o.2.1.symm).mono ?_;rintro e w9 ⟨v9,rfl,H9⟩))
 all_goals
  go_wp2;go_ret;exact⟨v9,rfl,zhd ⟨H9.o.1,G.o.2.1.trans ((MK.ext H7.o.2).trans H9.o.2)⟩⟩
def spk (s:MS)(i:Nat):MS:={s with stk:=s.stk.take (s.stk.length - i)}
theorem ylx (s:MS):spk s 0=s:=by unfold spk;rw[Nat.sub_zero,List.take_length]
theorem ymU {s:MS}{i:Nat}(h:i<s.stk.length):(spk s i).pop=spk s (i+1)/\s.stk.drop (s.stk.length - (i+1))=(spk s i).top::s.stk.drop (s.stk.length - i):=by
 obtain⟨x,A⟩:=yae (l:=s.stk) (k:=s.stk.length - (i+1)) (by omega);constructor
 .unfold spk MS.pop
  simp only;rw[List.dropLast_eq_take,List.take_take,List.length_take]
  congr 1
  congr 1
  omega
 .rw[yc9 A,show s.stk.length - (i+1)+1=s.stk.length - i from by omega]
  congr 1
  unfold spk MS.top;simp only;rw[List.getLast?_eq_getElem?,List.length_take,List.getElem?_take,if_pos (by omega),show min (s.stk.length - i) s.stk.length - 1=s.stk.length - (i+1)from by omega,A];rfl
theorem ylN {Z:Nat->Prop}{W w':World}{b:Nat}{v v':MV}{cs:List VC}{l:List Val}(K:MK b v W v' w')(h:Ptw (MZ Z v b) W cs l):Ptw (MZ Z v' b) w' cs l:=
 ((h.mono (G:=fun g=>MZ Z v b g/\MZ Z v' b g) (fun _ hg hl=>⟨hg,MZ.step K hg hl⟩)).keep K.keeps (fun _ hg e=>hg.1.1 e)).mono (fun _ hg _=>hg.2)
structure PkR (Z:Nat->Prop)(W:World)(b:Nat)(v:MV)(p:Img)(s:MS)(B i:Nat)(v':MV)(a:Option Addr)(cap:Nat)(cs:List VC)(wr:World):Prop where
 m:MX TT (fun j=>Z j/\j≠B) wr b v' p (spk s i)
 k:MK b v W v' wr
 box:wr.heap[B]? =some (.cells #[.int .i64 3,.int .i64 0,.string ⟨#[]⟩,.slice a i cap] 38 (0,0))
 nb:¬MO v' b B
 row:RowAt wr 38 (.slice a i cap) cs
 p:Ptw (MZ (fun j=>Z j/\j≠B) v' b) wr cs (s.stk.drop (s.stk.length - i))
 own:∀g,(Value.slice a i cap).ownBlock=some g->W.heap.size<=g/\¬MO v' b g/\g≠B
 sz:W<=wr.heap.size
def yp7 (Z:Nat->Prop)(W:World)(b:Nat)(v:MV)(p:Img)(s:MS)(B k:Nat)(gk:Nat)(v15:Value)(wr:World):Prop:=
 ∃(i:Nat) (v':MV) (a:Option Addr) (cap:Nat) (cs:List VC),v15= .int .i64 i/\i<=k/\gk=k - i/\PkR Z W b v p s B i v' a cap cs wr
theorem yhd
  {Z:Nat->Prop}(b:Nat)(v:MV)(p:Img)(s:MS)(W:World)(M:MX TT Z W b v p s)
  (k:Nat)(hks:k<=s.stk.length)(hk:s.stk.length<=4294967296)(hl:s.made.length<=4294967296)(hZ:∀j,W.heap.size<=j->Z j)(s':MS)(hw:(Val.mk 3 0 ⟨#[]⟩ (s.stk.drop (s.stk.length - k))).wf)
  (hs':s'=(spk s k).put (.mk 3 0 ⟨#[]⟩ (s.stk.drop (s.stk.length - k)))):
  Calls Tryz.prog 164 #[.pointer (some ⟨b,0,none⟩),.agg #[.int .i64 29,k]] W (MP Z W b v p (.bool true) s'):=by
 obtain⟨H,B⟩:∃H,H=W.alloc (.cells #[.int .i64 29,k] 106):=⟨_,rfl⟩;have B0:=zba B;have L:H.heap.size=W.heap.size+1:=by rw[B];simp
 have X:W.heap.size<H.heap.size:=by rw[L];omega
 have c0:H.cell? ⟨W,0,none⟩=some (.int .i64 29):=by rw[B,zch (znb _ _)];rfl
 have c1:H.cell? ⟨W,1,none⟩=some (.int .i64 k):=by rw[B,zch (znb _ _)];rfl
 obtain⟨w1,A⟩:∃w1,w1=H.alloc (.cells #[.int .i64 3,.int .i64 0,.string ⟨#[]⟩,.slice none 0 0] 38):=⟨_,rfl⟩;have B1:Below W W w1:=by rw[A];exact B0.alloc B0.size _
 have q:w1.heap[W.heap.size+1]? =some (.cells #[.int .i64 3,.int .i64 0,.string ⟨#[]⟩,.slice none 0 0] 38 (0,0)):=by rw[A,<-L];exact znb _ _
 have d1:w1.cell? ⟨W,1,none⟩=some (.int .i64 k):=by rw[A,znt (w:=H) (zne _ _ _ X)];exact c1
 have l1:W<w1.heap.size:=by rw[A,yeI];omega
 have P0:PkR Z W b v p s (W.heap.size+1) 0 v none 0 [] w1:=⟨by rw[ylx];exact(M.monoZ (fun j h l=>⟨h,by omega⟩)).ext B1,MK.ext B1,q,fun e=>by have:=M.lt e;omega,RowAt.nil _ _,by rw[Nat.sub_zero,List.drop_length];exact Ptw.nil,(fun g hg=>by cases hg),B1.size⟩;have r:W<=H.heap.size:=by omega
 have J:=zh8 P0 hw hs' hk hl hZ hks r;clear M P0 hw hs' hk hl hZ L q B0 B1;go_in;go_wp2_with fail;rw[<-B,<-A];clear B A c0 c1 d1 r X l1;go_loopg [15] k (fun gk v15 wr=>yp7 Z W b v p s (W.heap.size+1) k gk v15 wr)
 case atStart=>exact⟨0,v,none,0,[],rfl,znq _,rfl,J.o.1⟩
 case round=>
  obtain⟨i,v',a,F,P,rfl,hi,Y,R⟩:=hrel;have hks:=J.o.2.2.2.2.2.2.1;have hk:=J.o.2.2.2.1;obtain⟨q0,q1,q2,q3,_⟩:=zq4 R.box;have qf:∀o,wr.frozen? ⟨W.heap.size+1,o,none⟩=false:=fun o=>zfr R.box o;have lb:=zlt R.box;by_cases hin:i<k
  .have Ag:(i:Int)<k:=by omega
   have Ac:=zhd (show k - (i+1)<gk from by omega);have Ad:=zhd (show wrap64 ((i:Int)+1)=(i:Int)+1 from by unfold wrap64;omega);have Ab:i+1<=k:=by omega
   obtain⟨U,T⟩:=ymU (s:=s) (i:=i) (by omega);have PO:=zhd (yaj b v' p (spk s i) wr.drew (R.m.ext (znv _ _).drew));have n:P.length=i:=by rw[R.p.1,List.length_drop];omega
   have C:=zh4 R U T n;have O:=zhd (show∀c:VC,([c].length+P.length)*56<=140737488355328/\[c].length+P.length<=maxLen/\[c].length+P.length=i+1 from fun c=>by unfold maxLen;simp;omega);clear R U T n Y hks hk;go_wp2_with fail;go_region_law (first
    |(go_simp;go_at_call 159;refine PO.o.mono ?_;rintro e w5 ⟨K,⟨ck,cn,ct,la,ln,lc⟩,rfl,G⟩;have E:=(G.o.2.1.keeps.block (W.heap.size+1) lb (fun e=>C.o.1.nb e)).trans C.o.1.box;have e3:w5.cell? ⟨W.heap.size+1,3,none⟩=some (.slice a i F):=(by rw[zch E];rfl);have ef:∀o,w5.frozen? ⟨W.heap.size+1,o,none⟩=false:=(fun o=>zfr E o);have el:=zlt E;have Ae:=zhd E;clear E)
    |(refine yaC (α:=VC) (o:=⟨some 24,_,_,_,_,_⟩) yfO (by rfl) (.tmp 21) (.tmp 23) (by rfl) (v:=.slice (some ⟨w5,0,none⟩) 1 1) (u:=.slice a i F) (by rfl) (by rfl) (xs:=[⟨ck,cn,ct,la,ln,lc⟩]) (ys:=P) (RowAt.lit (α:=VC) (y:=⟨ck,cn,ct,la,ln,lc⟩) (znb _ _)) ((C.o.1.row.drew.keep G.o.2.1.keeps (fun g hg e=>(C.o.1.own g hg).2.1 e)).alloc _) (O.o _).1 (O.o _).2.1 (i+1) (O.o _).2.2 ?_;intro z t w7 Q N d;have D:=(N.block (W.heap.size+1) (by simp;omega) (fun e=>by simp[Value.ownBlock]at e;omega)).trans ((zne _ _ _ el).trans Ae.o);have g3:w7.cell? ⟨W.heap.size+1,3,none⟩=some (.slice a i F):=(by rw[zch D];rfl);have gf:∀o,w7.frozen? ⟨W.heap.size+1,o,none⟩=false:=(fun o=>zfr D o);have gl:=zlt D;have H7:=zh4 Q N d D;clear Q N d D))
   all_goals
    go_wp2_with fail;go_roundg (k - (i+1))
    case measure=>exact Ac.o
    case rel=>
     have Aa:=G.o.2.1.keeps.size;have KA:Keeps (fun _=>False) w5 w7:=((Keeps.refl (fun _=>False) w5).alloc _).trans H7.o.2.1 (fun j hj e=>by simp[Value.ownBlock]at e;omega);have KB:Keeps (fun j=>j=W+1) w7 (w7.setCell ⟨W.heap.size+1,3,none⟩ (.slice z (i+1) t)):=Keeps.setCell (S:=fun j=>j=W+1) (p:=⟨W.heap.size+1,3,none⟩) (Keeps.refl _ _) (.inl rfl) _;have V:¬MO K b (W.heap.size+1):=fun e=>(G.o.2.1.own _ e).elim C.o.1.nb (fun h=>by have h:wr<=W.heap.size+1:=h;omega);have I:∀g,(Value.slice z (i+1) t).ownBlock=some g->w5.heap.size<=g:=fun g hg=>by
      rcases H7.o.2.2.1 g hg with h|h
      .simp[Value.ownBlock]at h;omega
      .simp at h;omega
     have KAB:Keeps (fun j=>j=W+1) w5 (w7.setCell ⟨W.heap.size+1,3,none⟩ (.slice z (i+1) t)):=(KA.mono (fun _ _ f=>f.elim)).trans KB (fun _ _ e=>e);have K5:MK b v' wr K w5:=(MK.ext ((znv wr.heap.size wr).drew)).trans G.o.2.1;have KM:MK b v W K (w7.setCell ⟨W.heap.size+1,3,none⟩ (.slice z (i+1) t)):=(C.o.1.k.trans K5).late (KAB.mono (fun j _ e=>by omega));have Af:W.heap.size+1<w5.heap.size:=znj lb Aa;have M5:MX TT (fun j=>Z j/\j≠W+1) w5 b K p (spk s (i+1)):=by rw[<-C.o.2.1];exact G.o.1
     refine⟨i+1,K,z,t,[⟨ck,cn,ct,la,ln,lc⟩]++P,by first|rfl|(rw[Ad.o];rfl)|simp,Ab,rfl,⟨?_,KM,?_,V,?_,?_,?_,?_⟩⟩
     .exact M5.far KAB (fun j e h=>V (e▸h)) (fun j e h=>h.2 e)
     .have h7:=H7.o.2.2.2
      simp[World.setCell,zni,h7]
     .exact H7.o.1.keep KB (fun g hg e=>by have:=I g hg;have e:g=W+1:=e;omega)
     .rw[C.o.2.2.1]
      exact((Ptw.one (x:=(spk s i).top) G.o.2.2).app (ylN K5 C.o.1.p)).keep KAB (fun g h e=>h.2.2 e)
     .exact fun g hg=>⟨by have:=I g hg;omega,fun e=>by have:=M5.lt e;have:=I g hg;omega,by have:=I g hg;omega⟩
     .have:=KAB.size
      have:=C.o.1.sz;omega
  .obtain rfl:i=k:=by omega
   have CV:CF (MZ Z v' b) wr ⟨3,0,⟨#[]⟩,a,i,F⟩ (.mk 3 0 ⟨#[]⟩ (s.stk.drop (s.stk.length - i))):=⟨rfl,rfl,rfl,VF.of (RdF.of_row R.row (fun g hg=>⟨(R.own g hg).2.1,J.o.2.2.2.2.2.1 g (R.own g hg).1⟩)) (R.p.mono (fun g h _=>⟨h.1,h.2.1⟩))⟩;have PU:=zhd (yhq b v' p (spk s i) wr (R.m.monoZ (fun j h _=>h.1)) (.mk 3 0 ⟨#[]⟩ (s.stk.drop (s.stk.length - i))) 3 0 ⟨#[]⟩ a i F CV J.o.2.1 (by unfold spk;simp only[List.length_take];omega) (by exact J.o.2.2.2.2.1) (yad J.o.2.2.2.2.2.1 R.sz) s' J.o.2.2.1.symm);have C:=zhd R;clear CV R hks hk Y;go_wp2_with fail;refine PU.o.mono ?_;rintro e w5 ⟨K,rfl,G⟩;go_wp2;go_ret;exact⟨K,rfl,zhd ⟨G.o.1,C.o.k.trans G.o.2⟩⟩
theorem yco {w:World}{b o:Nat}{u:Value}(h:w.cell? ⟨b,o,none⟩=some u):w.setCell ⟨b,o,none⟩ u=w:=by
 simp only[World.setCell]
 congr 1
 refine Array.ext_getElem? fun i=> ?_;simp only[zni];by_cases e:b=i
 .subst e
  rw[if_pos rfl];unfold World.cell? at h;cases hb:w.heap[b]? with
  |none=>rfl
  |some ob=>
   rw[hb]at h;cases ob with
   |cells cs t fr=>
    simp at h;simp;refine Array.ext_getElem? fun j=> ?_;rw[Array.getElem?_setIfInBounds];split
    .rename_i A
     subst A;split
     .exact h.symm
     .rename_i B;rw[Array.getElem?_eq_none (by omega)]
    .rfl
   |_=>simp at h
 .rw[if_neg e]
theorem RowAt.again {α:Type}[Cells α]{w:World}{e:TypeId}{xs:List α}{g off n cap:Nat}{i:Nat}{x y:α}(h:RowAt w e (.slice (some ⟨g,off,none⟩) n cap) (xs.set i x))(hi:i<xs.length){j:Nat}{u:Value}(hj:j<sz α)(hy:enc y=(enc x).set j u):
  RowAt (w.setCell ⟨g,off+i*sz α+j,none⟩ u) e (.slice (some ⟨g,off,none⟩) n cap) (xs.set i y):=by
 have:=RowAt.setOne h (i:=i) (x:=x) (y:=y) (by rw[List.getElem?_set_self hi]) hj hy;rw[List.set_set,<-zmm]at this;exact this
theorem yeZ {w:World}{e:TypeId}{xs:List TC}{g off n cap:Nat}{i:Nat}{x:TC}(h:RowAt w e (.slice (some ⟨g,off,none⟩) n cap) xs)(hx:xs[i]? =some x)(how:Int)(c:VC):
  RowAt ((((((w.setCell ⟨g,off+i*7+1,none⟩ (.bool true)).setCell ⟨g,off+i*7+6,none⟩ (.int .i64 how)).setCell ⟨g,off+i*7+2,none⟩ (.int .i64 c.kind)).setCell ⟨g,off+i*7+3,none⟩ (.int .i64 c.n)).setCell ⟨g,off+i*7+4,none⟩ (.string c.s)).setCell ⟨g,off+i*7+5,none⟩ (.slice c.la c.ln c.lc)) e (.slice (some ⟨g,off,none⟩) n cap) (xs.set i ⟨x.id,true,c,how⟩):=by
 have A:=(zge hx).1;have G:xs.set i x=xs:=by
  have:=(zge hx).2;rw[<-this,List.set_getElem_self]
 rw[<-G]at h;have F:=RowAt.again h A (j:=1) (u:=.bool true) (y:=⟨x.id,true,x.v,x.how⟩) (by decide) rfl;have E:=RowAt.again F A (j:=6) (u:=.int .i64 how) (y:=⟨x.id,true,x.v,how⟩) (by decide) rfl;have D:=RowAt.again E A (j:=2) (u:=.int .i64 c.kind) (y:=⟨x.id,true,⟨c.kind,x.v.n,x.v.s,x.v.la,x.v.ln,x.v.lc⟩,how⟩) (by decide) rfl;have C:=RowAt.again D A (j:=3) (u:=.int .i64 c.n) (y:=⟨x.id,true,⟨c.kind,c.n,x.v.s,x.v.la,x.v.ln,x.v.lc⟩,how⟩) (by decide) rfl;have B:=RowAt.again C A (j:=4) (u:=.string c.s) (y:=⟨x.id,true,⟨c.kind,c.n,c.s,x.v.la,x.v.ln,x.v.lc⟩,how⟩) (by decide) rfl;exact RowAt.again B A (j:=5) (u:=.slice c.la c.ln c.lc) (y:=⟨x.id,true,c,how⟩) (by decide) rfl
theorem yfw (w':World)(g o1 o2 o3 o4 o5 o6:Nat)(v1 v2 v3 v4 v5 v6:Value):
  Keeps (fun j=>j=g) w' ((((((w'.setCell ⟨g,o1,none⟩ v1).setCell ⟨g,o2,none⟩ v2).setCell ⟨g,o3,none⟩ v3).setCell ⟨g,o4,none⟩ v4).setCell ⟨g,o5,none⟩ v5).setCell ⟨g,o6,none⟩ v6):=by
 have F:Keeps (fun j=>j=g) w' w':=Keeps.refl _ _;have E:=Keeps.setCell (p:=⟨g,o1,none⟩) F (.inl rfl) v1;have D:=Keeps.setCell (p:=⟨g,o2,none⟩) E (.inl rfl) v2;have C:=Keeps.setCell (p:=⟨g,o3,none⟩) D (.inl rfl) v3;have B:=Keeps.setCell (p:=⟨g,o4,none⟩) C (.inl rfl) v4;have A:=Keeps.setCell (p:=⟨g,o5,none⟩) B (.inl rfl) v5;exact Keeps.setCell (p:=⟨g,o6,none⟩) A (.inl rfl) v6
theorem yet {id how:Int}{v:Val}:∀{l:List Th},yax id l=none->ycw id how v l=l
 |[],_=>rfl
 |x::r,h=>by
  rw[yax]at h;split at h
  .cases h
  .rename_i hne
   rw[ycw,if_neg hne];cases hf:yax id r with
   |none=>rw[yet hf]
   |some j=>rw[hf]at h;cases h
theorem yhF {id how:Int}{v:Val}:∀{l:List Th} {i:Nat} {x:Th},yax id l=some i->l[i]? =some x->ycw id how v l=bif x.over then l else l.set i ⟨x.id,true,yaa v,how⟩
 |[],i,x,h,_=>by cases h
 |y::r,i,x,h,hx=>by
  rw[yax]at h;split at h
  .rename_i he
   cases h;simp at hx;subst hx;rw[ycw,if_pos he];rfl
  .rename_i hne
   rw[ycw,if_neg hne];cases hf:yax id r with
   |none=>rw[hf]at h;cases h
   |some j=>
    rw[hf]at h;cases h;rw[yhF hf (by simpa using hx)];cases x.over<;>rfl
def yqc (W:World)(nm:ByteArray)(l:List Lt)(gk:Nat)(v12:Value)(wr:World):Prop:=
 ∃i:Nat,v12= .int .i64 i/\i<=l.length/\gk=l.length - i/\yao nm l=(yao nm (l.drop i)).map (· +i)/\Below W W wr
theorem ybo
  {Z:Nat->Prop}(b:Nat)(v:MV)(p:Img)(s:MS)(W:World)(M:MX TT Z W b v p s)
  (nm:ByteArray)(r:Int)(hr:ltI nm s.letters=r):
  Calls Tryz.prog 161 #[.pointer (some ⟨b,0,none⟩),nm] W (fun e w'=>e= .returned (.int .i64 r)/\Below W W w'):=by
 obtain⟨t,ic,u,V,q,j,U,y⟩:=v;obtain⟨a,cap,rfl⟩:∃a cap,U= .slice a s.letters.length cap:=M.lts.slice;have hb:=zlt M.h;have c1:W.cell? ⟨b,16,none⟩=some (.slice a s.letters.length cap):=M.cell (k:=16) rfl;have I:s.letters.length<=maxLen:=by
  obtain⟨c,Y,X⟩:=M.lts.cells;rw[<-X.1];exact Y.length_le
 have N:=zh2 M.lts hr;clear M hr;go_in;go_wp2_with fail;go_loopg [12] (s.letters.length) (fun gk v12 wr=>yqc W nm s.letters gk v12 wr)
 case atStart=>exact⟨0,rfl,znq _,rfl,yiq,znv _ _⟩
 case round=>
  obtain⟨i,rfl,hi,B,D,F⟩:=hrel;by_cases hin:i<s.letters.length
  .obtain⟨x,H⟩:=yae hin
   obtain⟨g,P,⟨f,⟨ck,d,c,la,z,lc⟩⟩,rfl,hg,L,_,A⟩:=(N.o.1.below F).at_ H;have O:=A 0 _ rfl;have T:=A 1 _ rfl;have S:=A 2 _ rfl;have R:=A 3 _ rfl;have Q:=A 4 _ rfl;have C:f=x.name:=L.name;rw[C]at O;simp only[sz,Nat.add_zero]at O T S R Q;have E:(i:Int)<s.letters.length:=by omega
   have m:=zhd (show s.letters.length - (i+1)<gk from by omega);have l:=zhd (show wrap64 ((i:Int)+1)=(i:Int)+1 from by unfold maxLen at I;unfold wrap64;omega);have J:i+1<=s.letters.length:=by omega
   have G:=zhd F;by_cases he:x.name=nm
   .have K:(x.name.toList==nm.toList)=true:=by rw[he];simp
    have hr:=N.o.2;unfold ltI at hr;rw[yhD H he D]at hr;have hr:(i:Int)=r:=hr;subst hr;clear D A L C B he F;go_wp2;go_ret;exact⟨rfl,G.o.alloc G.o.size _⟩
   .have K:(x.name.toList==nm.toList)=false:=by
     rw[zna,zml,zml];exact fun e=>he (ByteArray.ext (Array.toList_inj.1 e))
    have n:=zhd (yhC H he D);clear D A L C B he F;go_wp2_with fail;go_roundg (s.letters.length - (i+1))
    case measure=>exact m.o
    case rel=>exact⟨i+1,by rw[l.o];simp,J,rfl,n.o,G.o.alloc G.o.size _⟩
  .have E:¬(i:Int)<s.letters.length:=by omega
   have hr:=N.o.2;unfold ltI at hr;rw[D,zns (by omega)]at hr;have hr:(-1:Int)=r:=hr;subst hr;clear D B;go_wp2;go_ret;exact⟨rfl,F⟩
theorem yfF {T:MT}{Z S:Nat->Prop}{W W':World}{b N:Nat}{v:MV}{p:Img}{s:MS}(M:MX T (fun j=>Z j/\j<N) W b v p s)(hS:∀j,S j->N<=j)(hO:∀j,S j->¬MO v b j)(K:Keeps S W W'):MX T Z W' b v p s:=
 (M.far K hO (fun j h e=>by have:=hS j h;have:=e.2;omega)).monoZ (fun _ h _=>h.1)
theorem ycu (w':World)(b o1 o2 o3 o4:Nat)(v1 v2 v3 v4:Value):Keeps (fun j=>j=b) w' ((((w'.setCell ⟨b,o1,none⟩ v1).setCell ⟨b,o2,none⟩ v2).setCell ⟨b,o3,none⟩ v3).setCell ⟨b,o4,none⟩ v4):=by
 have D:Keeps (fun j=>j=b) w' w':=Keeps.refl _ _;have C:=Keeps.setCell (p:=⟨b,o1,none⟩) D (.inl rfl) v1;have B:=Keeps.setCell (p:=⟨b,o2,none⟩) C (.inl rfl) v2;have A:=Keeps.setCell (p:=⟨b,o3,none⟩) B (.inl rfl) v3;exact Keeps.setCell (p:=⟨b,o4,none⟩) A (.inl rfl) v4
theorem yfD
  {Z:Nat->Prop}(b:Nat)(v:MV)(p:Img)(s:MS)(W:World)(M:MX TT Z W b v p s)
  (i:Nat)(l:Lt)(hi:s.letters[i]? =some l)(hl:s.letters.length<=4294967296)(hZ:∀j,W.heap.size<=j->Z j):
  Calls Tryz.prog 162 #[.pointer (some ⟨b,0,none⟩),i] W (MPV Z W b v p (s.letV i) (s.openL i)):=by
 obtain⟨ss,ic,ps,Ab,ts,Ac,ls,ms⟩:=v;obtain⟨a,cap,rfl⟩:∃a cap,ls= .slice a s.letters.length cap:=M.lts.slice;obtain⟨G,U,y⟩:=M.lts.cells;obtain⟨⟨cn,⟨R,D,Q,L,J,K⟩⟩,hc,hC⟩:=y.get hi;obtain⟨g,A,rfl,x⟩:=U.addr hc;have b0:=zlt M.h;have t:=fun(j:Nat) (hj:j<5)=>U.cell hc (j:=j) hj;have m1:W.cell? ⟨g,A+i*5+1,none⟩=some (.int .i64 R):=by rw[zmm];exact t 1 (by decide)
 have m2:W.cell? ⟨g,A+i*5+2,none⟩=some (.int .i64 D):=by rw[zmm];exact t 2 (by decide)
 have m3:W.cell? ⟨g,A+i*5+3,none⟩=some (.string Q):=by rw[zmm];exact t 3 (by decide)
 have m4:W.cell? ⟨g,A+i*5+4,none⟩=some (.slice L J K):=by rw[zmm];exact t 4 (by decide)
 have Ah:i<s.letters.length:=(zge hi).1;have d:G.length=s.letters.length:=y.1;have Af:IntKind.i64.wrap ((i:Int)+1)=(i:Int)+1:=zmk _ (by omega);have Ae:wrap64 ((i:Int)+1)=(i:Int)+1:=by unfold wrap64;omega
 have Ag:(i:Int)<s.letters.length:=by omega
 obtain⟨Ad,r1⟩:=yiC ykU U (k:=i) (by omega);obtain⟨Ai,Aa,r2⟩:=yfQ ykU U (k:=i+1) (by omega);rw[show((i+1:Nat):Int)=(i:Int)+1 from by omega]at Aa;have c1:W.cell? ⟨b,16,none⟩=some (.slice (some ⟨g,A,none⟩) s.letters.length cap):=M.cell (k:=16) rfl;have f0:∀o,W.frozen? ⟨b,o,none⟩=false:=fun o=>M.frozen o;obtain⟨wr,F⟩:∃wr,wr=(W.alloc (.cells #[.int .i64 0,.int .i64 0,.string ⟨#[]⟩,.slice none 0 0] 38)).alloc (.cells #[R,D,Q,.slice L J K] 38):=⟨_,rfl⟩;have hv:s.letV i=l.v:=by unfold MS.letV;rw[hi];rfl
 have I:=zh8 M U y hC.v hZ r1 r2 (zai hv d);clear M U y hC hZ r1 r2 t hc hi hv d;go_in;go_wp2_with fail;rw[<-F];have u:Below W W wr:=by rw[F];exact((znv W.heap.size W).alloc (znc _) _).alloc (by simp) _
 have P:wr.heap[W.heap.size]? =some (.cells #[.int .i64 0,.int .i64 0,.string ⟨#[]⟩,.slice none 0 0] 38 (0,0)):=by rw[F];exact yaD
 have O:wr.heap[W.heap.size+1]? =some (.cells #[R,D,Q,.slice L J K] 38 (0,0)):=by rw[F];exact yat
 have X:=zh4 u P O (u.block b b0);have l1:W<wr.heap.size:=zlt P;have l2:W.heap.size+1<wr.heap.size:=zlt O;have z:b<wr:=by omega
 have d1:wr.cell? ⟨b,16,none⟩=some (.slice (some ⟨g,A,none⟩) s.letters.length cap):=(u.cell (p:=⟨b,16,none⟩) b0).trans c1;have df:∀o,wr.frozen? ⟨b,o,none⟩=false:=fun o=>(u.frozen (p:=⟨b,o,none⟩) b0).trans (f0 o);have V:=zhd (show(([]:List LC).length+(G.take i).length)*72<=140737488355328/\([]:List LC).length+(G.take i).length<=maxLen/\([]:List LC).length+(G.take i).length=i/\((G.take i).length+(G.drop (i+1)).length)*72<=140737488355328/\(G.take i).length+(G.drop (i+1)).length<=maxLen/\(G.take i).length+(G.drop (i+1)).length=s.letters.length - 1 from by have:=I.o.2.2.2.2.2.2.2.2;unfold maxLen;simp;omega);clear F c1 f0 u P O m1 m2 m3 m4;go_region_law (first
  |(refine yaC (α:=LC) (o:=⟨some 22,_,_,_,_,_⟩) ykU (by rfl) (.tmp 15) (.tmp 21) (by rfl) (by rfl) (by rfl) (RowAt.none_ (znb _ _)) (((I.o.2.2.2.2.2.1.below X.o.1).drew).alloc _) V.o.1 V.o.2.1 i V.o.2.2.1 ?_;intro a5 q5 w5 N n r;rw[List.nil_append]at N;have P5:=ybC (((Keeps.refl (fun _=>False) wr).drew).alloc _) n (ycN (znc _)) r;have C:=P5.1.block b z (fun f=>f);have e1:w5.cell? ⟨b,16,none⟩=some (.slice (some ⟨g,A,none⟩) s.letters.length cap):=(znt (w:=wr) C).trans d1;have H5:=zh2 N P5;have ef:∀o,w5.frozen? ⟨b,o,none⟩=false:=(fun o=>(znu (w:=wr) C).trans (df o));have eb:b<w5:=znj z P5.1.size;clear N n r P5 C)
  |(refine yaC (α:=LC) (o:=⟨some 30,_,_,_,_,_⟩) ykU (by rfl) (.tmp 22) (.tmp 29) (by rfl) (by rfl) (by rfl) H5.o.1 ((I.o.2.2.2.2.2.2.1.below X.o.1).keep H5.o.2.1 (fun _ _ f=>f)) V.o.2.2.2.1 V.o.2.2.2.2.1 (s.letters.length - 1) V.o.2.2.2.2.2 ?_;intro a6 q6 w6 c m q;have P6:=ybC H5.o.2.1 m H5.o.2.2 q;have C:=P6.1.block b z (fun f=>f);have g1:w6.cell? ⟨b,16,none⟩=some (.slice (some ⟨g,A,none⟩) s.letters.length cap):=(znt (w:=wr) C).trans d1;have Y:=zh2 c P6;have gf:∀o,w6.frozen? ⟨b,o,none⟩=false:=(fun o=>(znu (w:=wr) C).trans (df o));have gb:b<w6:=znj z P6.1.size;clear c m q P6 C))
 all_goals
  obtain⟨T,H⟩:∃T,T=w6.setCell ⟨b,16,none⟩ (.slice a6 (s.letters.length - 1) q6):=⟨_,rfl⟩;have S:=I.o.1.cut.putLts (v1:=.slice a6 (s.letters.length - 1) q6) (s.openL i) Y.o.1 ((I.o.2.2.1.erase i).mono (fun g h l=>⟨h.1,h.2,l⟩)) (((zkb (S:=fun _=>False) X.o.1).trans Y.o.2.1 (fun _ _ f=>f)).mono (fun _ _ f=>f.elim)) (fun g x=>.inr (znf X.o.1.size (Y.o.2.2 g x))) rfl;have B:T.heap[W.heap.size]? =some (.cells #[.int .i64 0,.int .i64 0,.string ⟨#[]⟩,.slice none 0 0] 38 (0,0)):=by
   rw[H,znn _ _ _ _ (fun e=>by have e:W.heap.size=b:=e;omega)];exact(Y.o.2.1.block _ l1 (fun f=>f)).trans X.o.2.1
  have E:T.heap[W.heap.size+1]? =some (.cells #[R,D,Q,.slice L J K] 38 (0,0)):=by
   rw[H,znn _ _ _ _ (fun e=>by have e:W.heap.size+1=b:=e;omega)];exact(Y.o.2.1.block _ l2 (fun f=>f)).trans X.o.2.2.1
  rw[<-H]at S|-;have HS:=zh2 S (fun g (x:(Value.slice a6 (s.letters.length - 1) q6).ownBlock=some g)=>Y.o.2.2 g x);have q0:=zca B 0 rfl;have q1:=zca B 1 rfl;have q2:=zca B 2 rfl;have q3:=zca B 3 rfl;have r0:=zca E 0 rfl;have r1:=zca E 1 rfl;have r2:=zca E 2 rfl;have r3:=zca E 3 rfl;have qf:∀o,T.frozen? ⟨W,o,none⟩=false:=fun o=>zfr B o;have z1:=zlt B;have z2:=zlt E;clear S H B E e1 ef eb g1 gf gb d1 df;go_wp2_with fail;exact zng (v:=.agg #[R,D,Q,.slice L J K]) (by simp only[results,Tryz.results162];go_simp) rfl ⟨_,⟨R,D,Q,L,J,K⟩,rfl,zhd (by
   have K4:=ycu T W.heap.size 0 1 2 3 (.int .i64 R) (.int .i64 D) (.string Q) (.slice L J K);have KM:=HS.o.1.2.late (K4.mono (fun j _ e=>Nat.le_of_eq e.symm));have MM:=yfF HS.o.1.1 (S:=fun j=>j=W) (fun j e=>Nat.le_of_eq e.symm) (fun j e h=>by
    rcases MO.turned (v:=⟨ss,ic,ps,Ab,ts,Ac,.slice (some ⟨g,A,none⟩) s.letters.length cap,ms⟩) (i0:=5) (fun i hi=>by
     match i with
     |0=>rfl
     |1=>rfl
     |2=>rfl
     |3=>rfl
     |4=>rfl
     |5=>exact absurd rfl hi
     |6=>rfl
     |_+7=>rfl) h with h|h
    .have:=I.o.1.lt h;have e:j=W:=e;omega
    .have:=HS.o.2 j h;have e:j=W:=e;omega) K4
   rw[I.o.2.2.2.2.2.2.2.1];exact⟨MM,KM,CF.step KM I.o.2.2.2.1⟩)⟩
theorem ye3 (w':World)(b o1 o2 o3 o4 o5 o6 o7:Nat)(v1 v2 v3 v4 v5 v6 v7:Value):Keeps (fun j=>j=b) w' (((((((w'.setCell ⟨b,o1,none⟩ v1).setCell ⟨b,o2,none⟩ v2).setCell ⟨b,o3,none⟩ v3).setCell ⟨b,o4,none⟩ v4).setCell ⟨b,o5,none⟩ v5).setCell ⟨b,o6,none⟩ v6).setCell ⟨b,o7,none⟩ v7):=Keeps.setCell (p:=⟨b,o7,none⟩) (yfw w' b o1 o2 o3 o4 o5 o6 v1 v2 v3 v4 v5 v6) (.inl rfl) v7
theorem TF.step {Z:Nat->Prop}{W w':World}{b:Nat}{v v':MV}{c:TC}{x:Th}(K:MK b v W v' w')(h:TF (MZ Z v b) W c x):TF (MZ Z v' b) w' c x:=⟨h.id,h.over,CF.step K h.v,h.how⟩
def MPT (Z:Nat->Prop)(W:World)(b:Nat)(v:MV)(p:Img)(x:Th)(s':MS)(e:Ending)(w':World):Prop:=∃(v':MV) (c:TC),e= .returned (.agg #[c.id,c.over,c.v.kind,c.v.n,c.v.s,.slice c.v.la c.v.ln c.v.lc,c.how])/\Hid (MX TT Z w' b v' p s'/\MK b v W v' w'/\TF (MZ Z v' b) w' c x)
theorem ycd
  {Z:Nat->Prop}(b:Nat)(v:MV)(p:Img)(s:MS)(W:World)(M:MX TT Z W b v p s)
  (i:Nat)(l:Th)(hi:s.timers.list[i]? =some l)(hl:s.timers.list.length<=4294967296)(s':MS)(hs':s'={s with timers:=⟨s.timers.list.eraseIdx i,s.timers.next⟩})(hZ:∀j,W.heap.size<=j->Z j):
  Calls Tryz.prog 178 #[.pointer (some ⟨b,12,none⟩),i] W (MPT Z W b v p l s'):=by
 obtain⟨ss,ic,ps,Ab,ts,Ac,ls,ms⟩:=v;obtain⟨a,cap,rfl⟩:∃a cap,ts= .slice a s.timers.list.length cap:=M.tms.slice;obtain⟨J,c,hP⟩:=M.tms.cells;obtain⟨⟨F,E,⟨X,H,V,Q,O,P⟩,B⟩,hc,hC⟩:=hP.get hi;obtain⟨g,A,rfl,hg⟩:=c.addr hc;have b0:=zlt M.h;have L:=fun(j:Nat) (hj:j<7)=>c.cell hc (j:=j) hj;have m0:W.cell? ⟨g,A+i*7,none⟩=some (.int .i64 F):=L 0 (by decide);have m1:W.cell? ⟨g,A+i*7+1,none⟩=some (.bool E):=by rw[zmm];exact L 1 (by decide)
 have m2:W.cell? ⟨g,A+i*7+2,none⟩=some (.int .i64 X):=by rw[zmm];exact L 2 (by decide)
 have m3:W.cell? ⟨g,A+i*7+3,none⟩=some (.int .i64 H):=by rw[zmm];exact L 3 (by decide)
 have m4:W.cell? ⟨g,A+i*7+4,none⟩=some (.string V):=by rw[zmm];exact L 4 (by decide)
 have m5:W.cell? ⟨g,A+i*7+5,none⟩=some (.slice Q O P):=by rw[zmm];exact L 5 (by decide)
 have m6:W.cell? ⟨g,A+i*7+6,none⟩=some (.int .i64 B):=by rw[zmm];exact L 6 (by decide)
 have Ah:i<s.timers.list.length:=(zge hi).1;have r:J.length=s.timers.list.length:=hP.1;have Af:IntKind.i64.wrap ((i:Int)+1)=(i:Int)+1:=zmk _ (by omega);have Ae:wrap64 ((i:Int)+1)=(i:Int)+1:=by unfold wrap64;omega
 have Ag:(i:Int)<s.timers.list.length:=by omega
 obtain⟨Ad,r1⟩:=yiC yeU c (k:=i) (by omega);obtain⟨Ai,Aa,r2⟩:=yfQ yeU c (k:=i+1) (by omega);rw[show((i+1:Nat):Int)=(i:Int)+1 from by omega]at Aa;have c1:W.cell? ⟨b,12,none⟩=some (.slice (some ⟨g,A,none⟩) s.timers.list.length cap):=M.cell (k:=12) rfl;have f0:∀o,W.frozen? ⟨b,o,none⟩=false:=fun o=>M.frozen o;obtain⟨wr,I⟩:∃wr,wr=(W.alloc (.cells #[.int .i64 0,.bool false,.int .i64 0,.int .i64 0,.string ⟨#[]⟩,.slice none 0 0,.int .i64 0] 193)).alloc (.cells #[F,E,X,H,V,.slice Q O P,B] 193):=⟨_,rfl⟩;have hv:=hs';have N:=zh8 M c hP hC hZ r1 r2 (zai hv r);clear hs' M c hP hC hZ r1 r2 L hc hi hv r;go_in;go_wp2_with fail;rw[<-I];have z:Below W W wr:=by rw[I];exact((znv W.heap.size W).alloc (znc _) _).alloc (by simp) _
 have U:wr.heap[W.heap.size]? =some (.cells #[.int .i64 0,.bool false,.int .i64 0,.int .i64 0,.string ⟨#[]⟩,.slice none 0 0,.int .i64 0] 193 (0,0)):=by rw[I];exact yaD
 have T:wr.heap[W.heap.size+1]? =some (.cells #[F,E,X,H,V,.slice Q O P,B] 193 (0,0)):=by rw[I];exact yat
 have m:=zh4 z U T (z.block b b0);have l1:W<wr.heap.size:=zlt U;have l2:W.heap.size+1<wr.heap.size:=zlt T;have b1:b<wr:=by omega
 have d1:wr.cell? ⟨b,12,none⟩=some (.slice (some ⟨g,A,none⟩) s.timers.list.length cap):=(z.cell (p:=⟨b,12,none⟩) b0).trans c1;have df:∀o,wr.frozen? ⟨b,o,none⟩=false:=fun o=>(z.frozen (p:=⟨b,o,none⟩) b0).trans (f0 o);have d:=zhd (show(([]:List TC).length+(J.take i).length)*80<=140737488355328/\([]:List TC).length+(J.take i).length<=maxLen/\([]:List TC).length+(J.take i).length=i/\((J.take i).length+(J.drop (i+1)).length)*80<=140737488355328/\(J.take i).length+(J.drop (i+1)).length<=maxLen/\(J.take i).length+(J.drop (i+1)).length=s.timers.list.length - 1 from by have:=N.o.2.2.2.2.2.2.2.2;unfold maxLen;simp;omega);clear I c1 f0 z U T m0 m1 m2 m3 m4 m5 m6;go_region_law (first
  |(refine yaC (α:=TC) (o:=⟨some 21,_,_,_,_,_⟩) yeU (by rfl) (.tmp 14) (.tmp 20) (by rfl) (by rfl) (by rfl) (RowAt.none_ (znb _ _)) (((N.o.2.2.2.2.2.1.below m.o.1).drew).alloc _) d.o.1 d.o.2.1 i d.o.2.2.1 ?_;intro a5 q5 w5 R u y;rw[List.nil_append]at R;have P5:=ybC (((Keeps.refl (fun _=>False) wr).drew).alloc _) u (ycN (znc _)) y;have G:=P5.1.block b b1 (fun f=>f);have e1:w5.cell? ⟨b,12,none⟩=some (.slice (some ⟨g,A,none⟩) s.timers.list.length cap):=(znt (w:=wr) G).trans d1;have H5:=zh2 R P5;have ef:∀o,w5.frozen? ⟨b,o,none⟩=false:=(fun o=>(znu (w:=wr) G).trans (df o));have eb:b<w5:=znj b1 P5.1.size;clear R u y P5 G)
  |(refine yaC (α:=TC) (o:=⟨some 29,_,_,_,_,_⟩) yeU (by rfl) (.tmp 21) (.tmp 28) (by rfl) (by rfl) (by rfl) H5.o.1 ((N.o.2.2.2.2.2.2.1.below m.o.1).keep H5.o.2.1 (fun _ _ f=>f)) d.o.2.2.2.1 d.o.2.2.2.2.1 (s.timers.list.length - 1) d.o.2.2.2.2.2 ?_;intro a6 q6 w6 q t x;have P6:=ybC H5.o.2.1 t H5.o.2.2 x;have G:=P6.1.block b b1 (fun f=>f);have g1:w6.cell? ⟨b,12,none⟩=some (.slice (some ⟨g,A,none⟩) s.timers.list.length cap):=(znt (w:=wr) G).trans d1;have n:=zh2 q P6;have gf:∀o,w6.frozen? ⟨b,o,none⟩=false:=(fun o=>(znu (w:=wr) G).trans (df o));have gb:b<w6:=znj b1 P6.1.size;clear q t x P6 G))
 all_goals
  obtain⟨Y,K⟩:∃Y,Y=w6.setCell ⟨b,12,none⟩ (.slice a6 (s.timers.list.length - 1) q6):=⟨_,rfl⟩;have S:=N.o.1.cut.putTms (v1:=.slice a6 (s.timers.list.length - 1) q6) s' n.o.1 ((N.o.2.2.1.erase i).mono (fun g h l=>⟨h.1,h.2,l⟩)) (((zkb (S:=fun _=>False) m.o.1).trans n.o.2.1 (fun _ _ f=>f)).mono (fun _ _ f=>f.elim)) (fun g hg=>.inr (znf m.o.1.size (n.o.2.2 g hg))) N.o.2.2.2.2.2.2.2.1;have C:Y.heap[W.heap.size]? =some (.cells #[.int .i64 0,.bool false,.int .i64 0,.int .i64 0,.string ⟨#[]⟩,.slice none 0 0,.int .i64 0] 193 (0,0)):=by
   rw[K,znn _ _ _ _ (fun e=>by have e:W.heap.size=b:=e;omega)];exact(n.o.2.1.block _ l1 (fun f=>f)).trans m.o.2.1
  have D:Y.heap[W.heap.size+1]? =some (.cells #[F,E,X,H,V,.slice Q O P,B] 193 (0,0)):=by
   rw[K,znn _ _ _ _ (fun e=>by have e:W.heap.size+1=b:=e;omega)];exact(n.o.2.1.block _ l2 (fun f=>f)).trans m.o.2.2.1
  rw[<-K]at S|-;have HS:=zh2 S (fun g (hg:(Value.slice a6 (s.timers.list.length - 1) q6).ownBlock=some g)=>n.o.2.2 g hg);have q0:=zca C 0 rfl;have q1:=zca C 1 rfl;have q2:=zca C 2 rfl;have q3:=zca C 3 rfl;have q4:=zca C 4 rfl;have q5:=zca C 5 rfl;have q6:=zca C 6 rfl;have r0:=zca D 0 rfl;have r1:=zca D 1 rfl;have r2:=zca D 2 rfl;have r3:=zca D 3 rfl;have r4:=zca D 4 rfl;have r5:=zca D 5 rfl;have r6:=zca D 6 rfl;have qf:∀o,Y.frozen? ⟨W,o,none⟩=false:=fun o=>zfr C o;have z1:=zlt C;have z2:=zlt D;clear S K C D e1 ef eb g1 gf gb d1 df;go_wp2_with fail;exact zng (v:=.agg #[F,E,X,H,V,.slice Q O P,B]) (by simp only[results,Tryz.results178];go_simp) rfl ⟨_,⟨F,E,⟨X,H,V,Q,O,P⟩,B⟩,rfl,zhd (by
   have K4:=ye3 Y W.heap.size 0 1 2 3 4 5 6 (.int .i64 F) (.bool E) (.int .i64 X) (.int .i64 H) (.string V) (.slice Q O P) (.int .i64 B);have KM:=HS.o.1.2.late (K4.mono (fun j _ e=>Nat.le_of_eq e.symm));have MM:=yfF HS.o.1.1 (S:=fun j=>j=W) (fun j e=>Nat.le_of_eq e.symm) (fun j e h=>by
    rcases MO.turned (v:=⟨ss,ic,ps,Ab,.slice (some ⟨g,A,none⟩) s.timers.list.length cap,Ac,ls,ms⟩) (i0:=3) (fun i hi=>by
     match i with
     |0=>rfl
     |1=>rfl
     |2=>rfl
     |3=>first|rfl|exact absurd rfl hi
     |4=>first|rfl|exact absurd rfl hi
     |5=>rfl
     |6=>rfl
     |_+7=>rfl) h with h|h
    .have:=N.o.1.lt h;have e:j=W:=e;omega
    .have:=HS.o.2 j h;have e:j=W:=e;omega) K4
   exact⟨MM,KM,TF.step KM N.o.2.2.2.1⟩)⟩
theorem yg6
  {Z:Nat->Prop}(b:Nat)(v:MV)(p:Img)(s:MS)(W:World)(M:MX TT Z W b v p s)
  (i:Nat)(l:Th)(hi:s.acts.list[i]? =some l)(hl:s.acts.list.length<=4294967296)(s':MS)(hs':s'={s with acts:=⟨s.acts.list.eraseIdx i,s.acts.next⟩})(hZ:∀j,W.heap.size<=j->Z j):
  Calls Tryz.prog 178 #[.pointer (some ⟨b,14,none⟩),i] W (MPT Z W b v p l s'):=by
 obtain⟨ss,ic,ps,Ab,ts,Ac,ls,ms⟩:=v;obtain⟨a,cap,rfl⟩:∃a cap,Ac= .slice a s.acts.list.length cap:=M.acs.slice;obtain⟨J,c,hP⟩:=M.acs.cells;obtain⟨⟨F,E,⟨X,H,V,Q,O,P⟩,B⟩,hc,hC⟩:=hP.get hi;obtain⟨g,A,rfl,hg⟩:=c.addr hc;have b0:=zlt M.h;have L:=fun(j:Nat) (hj:j<7)=>c.cell hc (j:=j) hj;have m0:W.cell? ⟨g,A+i*7,none⟩=some (.int .i64 F):=L 0 (by decide);have m1:W.cell? ⟨g,A+i*7+1,none⟩=some (.bool E):=by rw[zmm];exact L 1 (by decide)
 have m2:W.cell? ⟨g,A+i*7+2,none⟩=some (.int .i64 X):=by rw[zmm];exact L 2 (by decide)
 have m3:W.cell? ⟨g,A+i*7+3,none⟩=some (.int .i64 H):=by rw[zmm];exact L 3 (by decide)
 have m4:W.cell? ⟨g,A+i*7+4,none⟩=some (.string V):=by rw[zmm];exact L 4 (by decide)
 have m5:W.cell? ⟨g,A+i*7+5,none⟩=some (.slice Q O P):=by rw[zmm];exact L 5 (by decide)
 have m6:W.cell? ⟨g,A+i*7+6,none⟩=some (.int .i64 B):=by rw[zmm];exact L 6 (by decide)
 have Ah:i<s.acts.list.length:=(zge hi).1;have r:J.length=s.acts.list.length:=hP.1;have Af:IntKind.i64.wrap ((i:Int)+1)=(i:Int)+1:=zmk _ (by omega);have Ae:wrap64 ((i:Int)+1)=(i:Int)+1:=by unfold wrap64;omega
 have Ag:(i:Int)<s.acts.list.length:=by omega
 obtain⟨Ad,r1⟩:=yiC yeU c (k:=i) (by omega);obtain⟨Ai,Aa,r2⟩:=yfQ yeU c (k:=i+1) (by omega);rw[show((i+1:Nat):Int)=(i:Int)+1 from by omega]at Aa;have c1:W.cell? ⟨b,14,none⟩=some (.slice (some ⟨g,A,none⟩) s.acts.list.length cap):=M.cell (k:=14) rfl;have f0:∀o,W.frozen? ⟨b,o,none⟩=false:=fun o=>M.frozen o;obtain⟨wr,I⟩:∃wr,wr=(W.alloc (.cells #[.int .i64 0,.bool false,.int .i64 0,.int .i64 0,.string ⟨#[]⟩,.slice none 0 0,.int .i64 0] 193)).alloc (.cells #[F,E,X,H,V,.slice Q O P,B] 193):=⟨_,rfl⟩;have hv:=hs';have N:=zh8 M c hP hC hZ r1 r2 (zai hv r);clear hs' M c hP hC hZ r1 r2 L hc hi hv r;go_in;go_wp2_with fail;rw[<-I];have z:Below W W wr:=by rw[I];exact((znv W.heap.size W).alloc (znc _) _).alloc (by simp) _
 have U:wr.heap[W.heap.size]? =some (.cells #[.int .i64 0,.bool false,.int .i64 0,.int .i64 0,.string ⟨#[]⟩,.slice none 0 0,.int .i64 0] 193 (0,0)):=by rw[I];exact yaD
 have T:wr.heap[W.heap.size+1]? =some (.cells #[F,E,X,H,V,.slice Q O P,B] 193 (0,0)):=by rw[I];exact yat
 have m:=zh4 z U T (z.block b b0);have l1:W<wr.heap.size:=zlt U;have l2:W.heap.size+1<wr.heap.size:=zlt T;have b1:b<wr:=by omega
 have d1:wr.cell? ⟨b,14,none⟩=some (.slice (some ⟨g,A,none⟩) s.acts.list.length cap):=(z.cell (p:=⟨b,14,none⟩) b0).trans c1;have df:∀o,wr.frozen? ⟨b,o,none⟩=false:=fun o=>(z.frozen (p:=⟨b,o,none⟩) b0).trans (f0 o);have d:=zhd (show(([]:List TC).length+(J.take i).length)*80<=140737488355328/\([]:List TC).length+(J.take i).length<=maxLen/\([]:List TC).length+(J.take i).length=i/\((J.take i).length+(J.drop (i+1)).length)*80<=140737488355328/\(J.take i).length+(J.drop (i+1)).length<=maxLen/\(J.take i).length+(J.drop (i+1)).length=s.acts.list.length - 1 from by have:=N.o.2.2.2.2.2.2.2.2;unfold maxLen;simp;omega);clear I c1 f0 z U T m0 m1 m2 m3 m4 m5 m6;go_region_law (first
  |(refine yaC (α:=TC) (o:=⟨some 21,_,_,_,_,_⟩) yeU (by rfl) (.tmp 14) (.tmp 20) (by rfl) (by rfl) (by rfl) (RowAt.none_ (znb _ _)) (((N.o.2.2.2.2.2.1.below m.o.1).drew).alloc _) d.o.1 d.o.2.1 i d.o.2.2.1 ?_;intro a5 q5 w5 R u y;rw[List.nil_append]at R;have P5:=ybC (((Keeps.refl (fun _=>False) wr).drew).alloc _) u (ycN (znc _)) y;have G:=P5.1.block b b1 (fun f=>f);have e1:w5.cell? ⟨b,14,none⟩=some (.slice (some ⟨g,A,none⟩) s.acts.list.length cap):=(znt (w:=wr) G).trans d1;have H5:=zh2 R P5;have ef:∀o,w5.frozen? ⟨b,o,none⟩=false:=(fun o=>(znu (w:=wr) G).trans (df o));have eb:b<w5:=znj b1 P5.1.size;clear R u y P5 G)
  |(refine yaC (α:=TC) (o:=⟨some 29,_,_,_,_,_⟩) yeU (by rfl) (.tmp 21) (.tmp 28) (by rfl) (by rfl) (by rfl) H5.o.1 ((N.o.2.2.2.2.2.2.1.below m.o.1).keep H5.o.2.1 (fun _ _ f=>f)) d.o.2.2.2.1 d.o.2.2.2.2.1 (s.acts.list.length - 1) d.o.2.2.2.2.2 ?_;intro a6 q6 w6 q t x;have P6:=ybC H5.o.2.1 t H5.o.2.2 x;have G:=P6.1.block b b1 (fun f=>f);have g1:w6.cell? ⟨b,14,none⟩=some (.slice (some ⟨g,A,none⟩) s.acts.list.length cap):=(znt (w:=wr) G).trans d1;have n:=zh2 q P6;have gf:∀o,w6.frozen? ⟨b,o,none⟩=false:=(fun o=>(znu (w:=wr) G).trans (df o));have gb:b<w6:=znj b1 P6.1.size;clear q t x P6 G))
 all_goals
  obtain⟨Y,K⟩:∃Y,Y=w6.setCell ⟨b,14,none⟩ (.slice a6 (s.acts.list.length - 1) q6):=⟨_,rfl⟩;have S:=N.o.1.cut.putAcs (v1:=.slice a6 (s.acts.list.length - 1) q6) s' n.o.1 ((N.o.2.2.1.erase i).mono (fun g h l=>⟨h.1,h.2,l⟩)) (((zkb (S:=fun _=>False) m.o.1).trans n.o.2.1 (fun _ _ f=>f)).mono (fun _ _ f=>f.elim)) (fun g hg=>.inr (znf m.o.1.size (n.o.2.2 g hg))) N.o.2.2.2.2.2.2.2.1;have C:Y.heap[W.heap.size]? =some (.cells #[.int .i64 0,.bool false,.int .i64 0,.int .i64 0,.string ⟨#[]⟩,.slice none 0 0,.int .i64 0] 193 (0,0)):=by
   rw[K,znn _ _ _ _ (fun e=>by have e:W.heap.size=b:=e;omega)];exact(n.o.2.1.block _ l1 (fun f=>f)).trans m.o.2.1
  have D:Y.heap[W.heap.size+1]? =some (.cells #[F,E,X,H,V,.slice Q O P,B] 193 (0,0)):=by
   rw[K,znn _ _ _ _ (fun e=>by have e:W.heap.size+1=b:=e;omega)];exact(n.o.2.1.block _ l2 (fun f=>f)).trans m.o.2.2.1
  rw[<-K]at S|-;have HS:=zh2 S (fun g (hg:(Value.slice a6 (s.acts.list.length - 1) q6).ownBlock=some g)=>n.o.2.2 g hg);have q0:=zca C 0 rfl;have q1:=zca C 1 rfl;have q2:=zca C 2 rfl;have q3:=zca C 3 rfl;have q4:=zca C 4 rfl;have q5:=zca C 5 rfl;have q6:=zca C 6 rfl;have r0:=zca D 0 rfl;have r1:=zca D 1 rfl;have r2:=zca D 2 rfl;have r3:=zca D 3 rfl;have r4:=zca D 4 rfl;have r5:=zca D 5 rfl;have r6:=zca D 6 rfl;have qf:∀o,Y.frozen? ⟨W,o,none⟩=false:=fun o=>zfr C o;have z1:=zlt C;have z2:=zlt D;clear S K C D e1 ef eb g1 gf gb d1 df;go_wp2_with fail;exact zng (v:=.agg #[F,E,X,H,V,.slice Q O P,B]) (by simp only[results,Tryz.results178];go_simp) rfl ⟨_,⟨F,E,⟨X,H,V,Q,O,P⟩,B⟩,rfl,zhd (by
   have K4:=ye3 Y W.heap.size 0 1 2 3 4 5 6 (.int .i64 F) (.bool E) (.int .i64 X) (.int .i64 H) (.string V) (.slice Q O P) (.int .i64 B);have KM:=HS.o.1.2.late (K4.mono (fun j _ e=>Nat.le_of_eq e.symm));have MM:=yfF HS.o.1.1 (S:=fun j=>j=W) (fun j e=>Nat.le_of_eq e.symm) (fun j e h=>by
    rcases MO.turned (v:=⟨ss,ic,ps,Ab,ts,.slice (some ⟨g,A,none⟩) s.acts.list.length cap,ls,ms⟩) (i0:=4) (fun i hi=>by
     match i with
     |0=>rfl
     |1=>rfl
     |2=>rfl
     |3=>first|rfl|exact absurd rfl hi
     |4=>first|rfl|exact absurd rfl hi
     |5=>rfl
     |6=>rfl
     |_+7=>rfl) h with h|h
    .have:=N.o.1.lt h;have e:j=W:=e;omega
    .have:=HS.o.2 j h;have e:j=W:=e;omega) K4
   exact⟨MM,KM,TF.step KM N.o.2.2.2.1⟩)⟩
end Go.Proofs.YtpagmlndgblhhaaGreatDoor
