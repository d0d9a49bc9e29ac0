/- Parts of the proof: what the functions and the plain laws give that later parts lean on. Conditions: none beyond those that each theorem names. -/
import Derived.Test.YtpagmlndgblhhaaGreatDoorR15
set_option maxRecDepth 100000
set_option maxHeartbeats 8000000
namespace Go.Va
open Go.Own Go.RowKit
open Cells (sz enc)
theorem RdF.flat {α:Type}[Cells α]{F:Nat→Prop}{w:World}{a:Option Addr}{n cap:Nat}{xs:List α}(h:RdF F w (.slice a n cap) xs)(hne:xs≠[]):∃g off,a=some ⟨g,off,none⟩∧F g∧∀j u,(xs.flatMap enc)[j]? =some u→w.cell? ⟨g,off+j,none⟩=some u:=by
 obtain⟨a',cap',hv,_,_,h3⟩:=h;cases hv;obtain⟨x0,r,rfl⟩:∃x r,xs=x::r:=by cases xs with
  |nil=>exact absurd rfl hne
  |cons x r=>exact⟨x,r,rfl⟩
 obtain⟨g,off,rfl,hF,_,_⟩:=h3 0 x0 rfl;refine⟨g,off,rfl,hF,fun j u hu=> ?_⟩;have hj:=(zge hu).1;rw[Go.Own.ybe]at hj;have hp:0<sz α:=Nat.pos_of_ne_zero (fun e=>by rw[e]at hj;simp at hj);have hi:j/sz α<(x0::r).length:=(Nat.div_lt_iff_lt_mul hp).2 hj;obtain⟨x,hx⟩:=yad hi;obtain⟨g',off',hg',_,_,hc⟩:=h3 _ x hx;cases hg';have hm:j%sz α<sz α:=Nat.mod_lt _ hp;have e:j=j/sz α*sz α+j%sz α:=by rw[Nat.mul_comm];exact(Nat.div_add_mod j (sz α)).symm
 have:=ya4 _ _ _ x hx hm;rw[←e]at this;rw[e];exact hc _ u (this▸hu)
theorem yfp {α:Type}[Cells α]{P:Program}{t e:TypeId}{bytes:Nat}(E:ElemOf α P t e bytes){F:Nat→Prop}{W:World}{v u:Value}{xs ys:List α}(h:RowAt W e v xs)(hu:RdF F W u ys)
  (hl:(xs.length+ys.length)*bytes≤140737488355328)(h63:xs.length+ys.length≤maxLen)(ty:TypeId):
  ∃a1 q1 w1,(Builtin.append_ #[t,t] ty #[v,u]).run P W= .ok (.slice a1 (xs.length+ys.length) q1) w1∧RowAt w1 e (.slice a1 (xs.length+ys.length) q1) (xs++ys)∧Keeps (fun j=>v.ownBlock=some j) W w1∧
   ∀g,(Value.slice a1 (xs.length+ys.length) q1).ownBlock=some g→v.ownBlock=some g∨W.heap.size≤g:=by
 obtain⟨i,z,hi,h1,h2,h3,h4⟩:=E.hi;obtain⟨ua,uc,rfl⟩:=hu.slice;by_cases hy:ys=[]
 ·subst hy
  have hr:(Builtin.append_ #[t,t] ty #[v,.slice ua ([]:List α).length uc]).run P W= .ok v W:=by
   rcases h with⟨rfl,rfl⟩|⟨g,off,cap,cur,rfl,hh,hc,_⟩
   ·cases ua<;>simp[Builtin.append_,run_underlying E.ht,sizeOf,typeInfo,hi,Builtin.lenOf,Builtin.firstCells,loadCells,loadCellsFrom]
   ·cases ua<;>simp[Builtin.append_,run_underlying E.ht,sizeOf,typeInfo,hi,Builtin.lenOf,Builtin.firstCells,loadCells,loadCellsFrom,hc,storeCells,Addr.add_lit]
  obtain⟨va,vc,rfl⟩:=h.slice;exact⟨va,vc,W,hr,by simpa using h,Keeps.refl _ _,fun g hg=>.inl hg⟩
 ·obtain⟨g,off,rfl,_,hcs⟩:=hu.flat hy
  obtain⟨v1,w1,hr,hr1,hg1,hf1⟩:=ycQ (P:=P) t ty e i z bytes E.ht hi h1 h2 h3 h4 h ⟨g,off,none⟩ ys.length uc ys rfl (fun j u hu=>by rw[Addr.add_lit];exact hcs j u hu) hl h63;obtain⟨a1,q1,rfl⟩:=hr1.slice;rw[znk]at*;exact⟨a1,q1,w1,hr,hr1,Keeps.of_grown hg1 (fun k h=>h),fun g h=>(hf1 g h).imp id (fun h=>h.1)⟩
theorem yeB {α:Type}[Cells α]{P:Program}{t e:TypeId}{bytes:Nat}(E:ElemOf α P t e bytes){F:Nat→Prop}{W:World}{ops:Array Oper}{o:Oper}{a:Act}{K:Act→World→Prop}{Q:Exit→Act→World→Prop}{N:Prop}
  (hg:o.guard=none)(s x:Operand)(hop:o.op=Op.call {callee:=Callee.builtin Builtin.append,args:=#[s,x],argTypes:=#[t,t]})
  {v u:Value}(hs:a.eval s=v)(hx:a.eval x=u){xs ys:List α}(h:RowAt W e v xs)(hu:RdF F W u ys)
  (hl:(xs.length+ys.length)*bytes≤140737488355328)(h63:xs.length+ys.length≤maxLen)
  (n:Nat)(hn:xs.length+ys.length=n)
  (hK:∀a1 q1 w1,RowAt w1 e (.slice a1 n q1) (xs++ys)→Keeps (fun j=>v.ownBlock=some j) W w1→(∀g,(Value.slice a1 n q1).ownBlock=some g→v.ownBlock=some g∨W.heap.size≤g)→K (a.put o.dst (.slice a1 n q1)) w1):
  if Region.wanted o (yielded ops a.tmps)=true then Oper.wp P o a W K Q else N:=by
 subst hn;have hw:Region.wanted o (yielded ops a.tmps)=true:=by simp[Region.wanted,hg]
 rw[if_pos hw];obtain⟨a1,q1,w1,hr,hr1,hk1,hf1⟩:=yfp E h hu hl h63 o.type;unfold Oper.wp execOp;simp only[hop,resolve,invoke,builtin,Sem.run_bind,Sem.run_pure,Result.andThen_ok,List.map_toArray,List.map_cons,List.map_nil,hs,hx,hr];exact hK a1 q1 w1 hr1 hk1 hf1
theorem VF.rd {F:Nat→Prop}{w:World}{v:Value}{l:List Val}(h:VF F w v l):∃cs:List VC,RdF F w v cs∧Ptw F w cs l:=by
 cases h with
 |mk _ cs _ hr hl h0 hv=>exact⟨cs,hr,hl,fun i c x hc hx=>⟨(h0 i c x hc hx).1,(h0 i c x hc hx).2.1,(h0 i c x hc hx).2.2,hv i c x hc hx⟩⟩
theorem VF.of {F:Nat→Prop}{w:World}{v:Value}{l:List Val}{cs:List VC}(hr:RdF F w v cs)(hp:Ptw F w cs l):VF F w v l:=
 .mk v cs l hr hp.1 (fun i c x hc hx=>⟨(hp.2 i c x hc hx).kind,(hp.2 i c x hc hx).n,(hp.2 i c x hc hx).s⟩) (fun i c x hc hx=>(hp.2 i c x hc hx).l)
end Go.Va
namespace Go.Proofs.YtpagmlndgblhhaaGreatDoor
open Go.RowKit Go.Own Go.Own.MapTy Go.Va Go.Sort
open Go.Own.Cells (sz enc)
theorem yeh (w:World)(o:Obj):(w.alloc o).heap.size=w.heap.size+1:=by simp
theorem yld (w':World)(b:Nat)(v1 v2 v3 v4:Value):Keeps (fun j=>j=b) w' ((((w'.setCell ⟨b,0,none⟩ v1).setCell ⟨b,1,none⟩ v2).setCell ⟨b,2,none⟩ v3).setCell ⟨b,3,none⟩ v4):=by
 have k0:Keeps (fun j=>j=b) w' w':=Keeps.refl _ _;have k1:=Keeps.setCell (p:=⟨b,0,none⟩) k0 (.inl rfl) v1;have k2:=Keeps.setCell (p:=⟨b,1,none⟩) k1 (.inl rfl) v2;have k3:=Keeps.setCell (p:=⟨b,2,none⟩) k2 (.inl rfl) v3;exact Keeps.setCell (p:=⟨b,3,none⟩) k3 (.inl rfl) v4
theorem ydh
  {Z:Nat→Prop}(b:Nat)(v:MV)(p:Img)(s:MS)(W:World)(M:MX TT Z W b v p s)
  (k:Int)(hk:s.stk.length≤4294967296)(hl:s.made.length≤4294967296)(hZ:∀j,W.heap.size≤j→Z j)(s':MS)
  (hx:¬s.pop.top.kind=3∨¬s.top.kind=1)(hs':s'=s.pop.pop.tType):
  Calls Tryz.prog 164 #[.pointer (some ⟨b,0,none⟩),.agg #[.int .i64 30,.int .i64 k]] W (MP Z W b v p (.bool true) s')
  :=by
 obtain⟨w0,hw0⟩:∃w0,w0=W.alloc (.cells #[.int .i64 30,.int .i64 k] 106):=⟨_,rfl⟩;have B0:=zba hw0;have hB:=zha hw0;have PO:=zhd (yag b v p s w0 (M.ext B0));have HX:=zh7 M B0 hB hs' hk hl hZ;clear M B0 hB hs' hk hl hZ;go_enter Tryz.func164,Tryz.ntmps164;go_wp2_with fail;rw[←hw0];clear hw0;refine PO.o.mono ?_;rintro e w1 ⟨v1,⟨ck,cn,cs,la,ln,lc⟩,rfl,H1⟩;have hb1:=(H1.o.2.1.keeps.block W.heap.size (zlt HX.o.2.2.1) (fun e=>by have:=HX.o.1.lt e;omega)).trans HX.o.2.2.1;have d0:=zca hb1 0 rfl;have d1:=zca hb1 1 rfl;have dl:=zlt hb1;have HB:=zhd hb1;clear hb1;have PO2:=zhd (fun(w2:World) (M2:MX TT Z w2 b v1 p s.pop)=>yag b v1 p s.pop w2 M2);go_wp2_with fail;obtain⟨w2,hw2⟩:∃w2,w2=w1.alloc (.cells #[.int .i64 ck,.int .i64 cn,.string cs,.slice la ln lc] 38):=⟨_,rfl⟩;have B2:=zba hw2;have hb2:=zha hw2;rw[←hw2];have H2:=zh5 B2 (H1.o.1.ext B2) (H1.o.2.2.keep (S:=fun _=>False) (zkb B2) (fun _ _ f=>f)) hb2 (B2.block W.heap.size dl|>.trans HB.o);clear hw2 B2 hb2 d0 d1 dl;refine(PO2.o _ H2.o.2.1).mono ?_;rintro e w3 ⟨v2,⟨dk,dn,ds,ma,mn,mc⟩,rfl,H3⟩;have hb3:=(H3.o.2.1.keeps.block w1.heap.size (zlt H2.o.2.2.2.1) (fun e=>by have:=H1.o.1.lt e;omega)).trans H2.o.2.2.2.1
 have hi3:=(H3.o.2.1.keeps.block W.heap.size (zlt H2.o.2.2.2.2) (fun e=>by
  rcases H1.o.2.1.own _ e with h|h
  ·have:=HX.o.1.lt h;omega
  ·have:=zlt HX.o.2.2.1;omega)).trans H2.o.2.2.2.2
 obtain⟨w4,hw4⟩:∃w4,w4=w3.alloc (.cells #[.int .i64 dk,.int .i64 dn,.string ds,.slice ma mn mc] 38):=⟨_,rfl⟩;have B4:=zba hw4;have hb4:=zha hw4;have hc4:=(B4.block w1.heap.size (zlt hb3)).trans hb3;have hi4:=(B4.block W.heap.size (zlt hi3)).trans hi3;have q0:=zca hc4 0 rfl;have q1:=zca hc4 1 rfl;have q2:=zca hc4 2 rfl;have q3:=zca hc4 3 rfl;have r0:=zca hb4 0 rfl;have r1:=zca hb4 1 rfl;have r2:=zca hb4 2 rfl;have r3:=zca hb4 3 rfl;have c0:=zca hi4 0 rfl;have d0:=zca hi3 0 rfl;have x0:=zca hb3 0 rfl;have x1:=zca hb3 1 rfl;have x2:=zca hb3 2 rfl;have x3:=zca hb3 3 rfl;have xl:=zlt hb3;have dl:=zlt hi3;have l4:=zlt hb4;have xl4:=zlt hc4;have dl4:=zlt hi4;have K4:MK b v W v2 w4:=(MK.ext HX.o.2.1).trans (H1.o.2.1.trans ((MK.ext H2.o.1).trans (H3.o.2.1.trans (MK.ext B4))));have H4:=zh4 (H3.o.1.ext B4) K4 ((CF.step H3.o.2.1 H2.o.2.2.1).step (MK.ext B4)) (H3.o.2.2.step (MK.ext B4));have hlen:s.pop.pop.stk.length≤4294967296:=znf (yaQ s) HX.o.2.2.2.2.1;have hE:=HX.o.2.2.2.1;clear hb3 hi3 hb4 hc4 hi4 B4 K4;go_upto_region 22 with(fail);rw[←hw4];clear hw4 d0 x0 x1 x2 x3 xl dl;have hkd:dk=s.pop.top.kind:=H4.o.2.2.2.kind;have hkc:ck=s.top.kind:=H4.o.2.2.1.kind
 by_cases h1:s.pop.top.kind=3
 ·have n1:(dk==3)=true:=by rw[beq_iff_eq,hkd];exact h1
  have n2:(ck==1)=false:=by rw[zna,hkc];exact hx.resolve_left (fun h=>h h1)
  have n3:(dk !=3)=false:=by rw[bne,n1];rfl
  have n4:(ck !=1)=true:=by rw[bne,n2];rfl
  clear hkd hkc h1 hx;have FL:=zhd (yas b v2 p s.pop.pop w4 H4.o.1 ⟨#[116,121,112,101]⟩ (by decide) HX.o.2.2.2.2.2.1 (yac HX.o.2.2.2.2.2.2 H4.o.2.1.keeps.size) s' (hE.symm));go_wp2_with fail;refine FL.o.mono ?_;rintro e w5 ⟨v5,rfl,H5⟩;go_wp2_with fail;go_ret;exact⟨v5,rfl,zhd ⟨H5.o.1,H4.o.2.1.trans H5.o.2⟩⟩
 ·have n1:(dk==3)=false:=by rw[zna,hkd];exact h1
  have n3:(dk !=3)=true:=by rw[bne,n1];rfl
  clear hkd hkc h1 hx;have FL:=zhd (yas b v2 p s.pop.pop w4 H4.o.1 ⟨#[116,121,112,101]⟩ (by decide) HX.o.2.2.2.2.2.1 (yac HX.o.2.2.2.2.2.2 H4.o.2.1.keeps.size) s' (hE.symm));go_wp2_with fail;refine FL.o.mono ?_;rintro e w5 ⟨v5,rfl,H5⟩;go_wp2_with fail;go_ret;exact⟨v5,rfl,zhd ⟨H5.o.1,H4.o.2.1.trans H5.o.2⟩⟩
theorem ydJ
  {Z:Nat→Prop}(b:Nat)(v:MV)(p:Img)(s:MS)(W:World)(M:MX TT Z W b v p s)
  (k:Int)(hk:s.stk.length≤4294967296)(hl:s.made.length≤4294967296)(hZ:∀j,W.heap.size≤j→Z j)(s':MS)
  (ha:s.pop.top.kind=3)(hb:s.top.kind=1)(hr:¬(0≤s.top.num∧s.top.num<s.pop.top.list.length))(hs':s'=s.pop.pop.push (yab yai)):
  Calls Tryz.prog 164 #[.pointer (some ⟨b,0,none⟩),.agg #[.int .i64 30,.int .i64 k]] W (MP Z W b v p (.bool true) s')
  :=by
 obtain⟨w0,hw0⟩:∃w0,w0=W.alloc (.cells #[.int .i64 30,.int .i64 k] 106):=⟨_,rfl⟩;have B0:=zba hw0;have hB:=zha hw0;have PO:=zhd (yag b v p s w0 (M.ext B0));have HX:=zh7 M B0 hB hs' hk hl hZ;clear M B0 hB hs' hk hl hZ;go_enter Tryz.func164,Tryz.ntmps164;go_wp2_with fail;rw[←hw0];clear hw0;refine PO.o.mono ?_;rintro e w1 ⟨v1,⟨ck,cn,cs,la,ln,lc⟩,rfl,H1⟩;have hb1:=(H1.o.2.1.keeps.block W.heap.size (zlt HX.o.2.2.1) (fun e=>by have:=HX.o.1.lt e;omega)).trans HX.o.2.2.1;have d0:=zca hb1 0 rfl;have d1:=zca hb1 1 rfl;have dl:=zlt hb1;have HB:=zhd hb1;clear hb1;have PO2:=zhd (fun(w2:World) (M2:MX TT Z w2 b v1 p s.pop)=>yag b v1 p s.pop w2 M2);go_wp2_with fail;obtain⟨w2,hw2⟩:∃w2,w2=w1.alloc (.cells #[.int .i64 ck,.int .i64 cn,.string cs,.slice la ln lc] 38):=⟨_,rfl⟩;have B2:=zba hw2;have hb2:=zha hw2;rw[←hw2];have H2:=zh5 B2 (H1.o.1.ext B2) (H1.o.2.2.keep (S:=fun _=>False) (zkb B2) (fun _ _ f=>f)) hb2 (B2.block W.heap.size dl|>.trans HB.o);clear hw2 B2 hb2 d0 d1 dl;refine(PO2.o _ H2.o.2.1).mono ?_;rintro e w3 ⟨v2,⟨dk,dn,ds,ma,mn,mc⟩,rfl,H3⟩;have hb3:=(H3.o.2.1.keeps.block w1.heap.size (zlt H2.o.2.2.2.1) (fun e=>by have:=H1.o.1.lt e;omega)).trans H2.o.2.2.2.1
 have hi3:=(H3.o.2.1.keeps.block W.heap.size (zlt H2.o.2.2.2.2) (fun e=>by
  rcases H1.o.2.1.own _ e with h|h
  ·have:=HX.o.1.lt h;omega
  ·have:=zlt HX.o.2.2.1;omega)).trans H2.o.2.2.2.2
 obtain⟨w4,hw4⟩:∃w4,w4=w3.alloc (.cells #[.int .i64 dk,.int .i64 dn,.string ds,.slice ma mn mc] 38):=⟨_,rfl⟩;have B4:=zba hw4;have hb4:=zha hw4;have hc4:=(B4.block w1.heap.size (zlt hb3)).trans hb3;have hi4:=(B4.block W.heap.size (zlt hi3)).trans hi3;have q0:=zca hc4 0 rfl;have q1:=zca hc4 1 rfl;have q2:=zca hc4 2 rfl;have q3:=zca hc4 3 rfl;have r0:=zca hb4 0 rfl;have r1:=zca hb4 1 rfl;have r2:=zca hb4 2 rfl;have r3:=zca hb4 3 rfl;have c0:=zca hi4 0 rfl;have d0:=zca hi3 0 rfl;have x0:=zca hb3 0 rfl;have x1:=zca hb3 1 rfl;have x2:=zca hb3 2 rfl;have x3:=zca hb3 3 rfl;have xl:=zlt hb3;have dl:=zlt hi3;have l4:=zlt hb4;have xl4:=zlt hc4;have dl4:=zlt hi4;have K4:MK b v W v2 w4:=(MK.ext HX.o.2.1).trans (H1.o.2.1.trans ((MK.ext H2.o.1).trans (H3.o.2.1.trans (MK.ext B4))));have H4:=zh4 (H3.o.1.ext B4) K4 ((CF.step H3.o.2.1 H2.o.2.2.1).step (MK.ext B4)) (H3.o.2.2.step (MK.ext B4));have hlen:s.pop.pop.stk.length≤4294967296:=znf (yaQ s) HX.o.2.2.2.2.1;have hE:=HX.o.2.2.2.1;clear hb3 hi3 hb4 hc4 hi4 B4 K4;go_upto_region 22 with(fail);rw[←hw4];clear hw4 d0 x0 x1 x2 x3 xl dl;obtain rfl:dk=3:=H4.o.2.2.2.kind.trans ha;obtain rfl:ck=1:=H4.o.2.2.1.kind.trans hb
 have hcn:cn=s.top.num:=H4.o.2.2.1.n;have hmn:mn=s.pop.top.list.length:=H4.o.2.2.2.l.elem.1;rw[←hcn,←hmn]at hr;have HE:=zhd hE;have n5:0≤cn→decide (cn<(mn:Int))=false:=fun h=>znd (fun h2=>hr ⟨h,h2⟩);obtain⟨w5,hw5⟩:∃w5,w5=w4.alloc (.cells #[.int .i64 0,.int .i64 0,.string ⟨#[]⟩,.slice none 0 0] 38):=⟨_,rfl⟩;have B5:=zba hw5;have hb5:=zha hw5;have t0:=zca hb5 0 rfl;have t1:=zca hb5 1 rfl;have t2:=zca hb5 2 rfl;have t3:=zca hb5 3 rfl;have lt5:=zlt hb5;have H5:=zh2 B5 (H4.o.1.ext B5);obtain⟨y,hy⟩:∃y,y=yai:=⟨_,rfl⟩;have CL:=zhd (yav y 0 0 ⟨#[]⟩ none 0 0 (fun _=>True) w5.drew (by rw[hy];exact yaD _ _) (by rw[hy];exact ydz));rw[←hy]at HE;clear hcn hmn ha hb hE B5 hb5 hy;by_cases h0:0≤cn
 ·have n6:decide (0≤cn)=true:=zno h0
  have n7:=n5 h0;clear n5 h0 hr;go_upto_region 35 with(fail);rw[←hw5];clear hw5;go_region_law (first
   |(go_simp;go_at_call 58;refine CL.o.mono ?_;rintro e w7 ⟨⟨k8,n8,s8,la8,ln8,lc8⟩,rfl,hC8⟩;have B7:Below w5.heap.size w5 w7:=znw ((znv w5.heap.size w5).drew) hC8.o.2;have H7:=zh2 hC8.o.1 B7;clear hC8 B7)
   |(go_simp;go_at_call 119;refine(yah b v2 p s.pop.pop w7 (H5.o.2.ext H7.o.2) (yab y) k8 n8 s8 la8 ln8 lc8 (H7.o.1.mono (fun g hg _=>⟨fun e=>by have:=H5.o.2.lt e;have hg:w5.heap.size≤g:=hg;omega,HX.o.2.2.2.2.2.2 g (by have hg:w5.heap.size≤g:=hg;have:=HX.o.2.1.size;have:=H4.o.2.1.keeps.size;have:=H5.o.1.size;omega)⟩)) hlen).mono ?_;rintro e w9 ⟨v9,rfl,H9⟩))
  all_goals
   go_wp2_with fail;go_ret;exact⟨v9,rfl,zhd ⟨by rw[HE.o];exact H9.o.1,H4.o.2.1.trans ((MK.ext (H5.o.1.trans (H7.o.2.mono H5.o.1.size))).trans H9.o.2)⟩⟩
 ·have n6:decide (0≤cn)=false:=znd h0
  clear n5 h0 hr;go_upto_region 35 with(fail);rw[←hw5];clear hw5;go_region_law (first
   |(go_simp;go_at_call 58;refine CL.o.mono ?_;rintro e w7 ⟨⟨k8,n8,s8,la8,ln8,lc8⟩,rfl,hC8⟩;have B7:Below w5.heap.size w5 w7:=znw ((znv w5.heap.size w5).drew) hC8.o.2;have H7:=zh2 hC8.o.1 B7;clear hC8 B7)
   |(go_simp;go_at_call 119;refine(yah b v2 p s.pop.pop w7 (H5.o.2.ext H7.o.2) (yab y) k8 n8 s8 la8 ln8 lc8 (H7.o.1.mono (fun g hg _=>⟨fun e=>by have:=H5.o.2.lt e;have hg:w5.heap.size≤g:=hg;omega,HX.o.2.2.2.2.2.2 g (by have hg:w5.heap.size≤g:=hg;have:=HX.o.2.1.size;have:=H4.o.2.1.keeps.size;have:=H5.o.1.size;omega)⟩)) hlen).mono ?_;rintro e w9 ⟨v9,rfl,H9⟩))
  all_goals
   go_wp2_with fail;go_ret;exact⟨v9,rfl,zhd ⟨by rw[HE.o];exact H9.o.1,H4.o.2.1.trans ((MK.ext (H5.o.1.trans (H7.o.2.mono H5.o.1.size))).trans H9.o.2)⟩⟩
theorem yep
  {Z:Nat→Prop}(b:Nat)(v:MV)(p:Img)(s:MS)(W:World)(M:MX TT Z W b v p s)
  (k:Int)(hk:s.stk.length≤4294967296)(hl:s.made.length≤4294967296)(hZ:∀j,W.heap.size≤j→Z j)(s':MS)
  (ha:s.pop.top.kind=3)(hb:s.top.kind=1)(i:Nat)(y:Val)(hi:s.top.num=i)(hy:s.pop.top.list[i]? =some y)(hz:szV y≤1073741824)(hs':s'=s.pop.pop.push (yab y)):
  Calls Tryz.prog 164 #[.pointer (some ⟨b,0,none⟩),.agg #[.int .i64 30,.int .i64 k]] W (MP Z W b v p (.bool true) s')
  :=by
 obtain⟨w0,hw0⟩:∃w0,w0=W.alloc (.cells #[.int .i64 30,.int .i64 k] 106):=⟨_,rfl⟩;have B0:=zba hw0;have hB:=zha hw0;have PO:=zhd (yag b v p s w0 (M.ext B0));have HX:=zh7 M B0 hB hs' hk hl hZ;clear M B0 hB hs' hk hl hZ;go_enter Tryz.func164,Tryz.ntmps164;go_wp2_with fail;rw[←hw0];clear hw0;refine PO.o.mono ?_;rintro e w1 ⟨v1,⟨ck,cn,cs,la,ln,lc⟩,rfl,H1⟩;have hb1:=(H1.o.2.1.keeps.block W.heap.size (zlt HX.o.2.2.1) (fun e=>by have:=HX.o.1.lt e;omega)).trans HX.o.2.2.1;have d0:=zca hb1 0 rfl;have d1:=zca hb1 1 rfl;have dl:=zlt hb1;have HB:=zhd hb1;clear hb1;have PO2:=zhd (fun(w2:World) (M2:MX TT Z w2 b v1 p s.pop)=>yag b v1 p s.pop w2 M2);go_wp2_with fail;obtain⟨w2,hw2⟩:∃w2,w2=w1.alloc (.cells #[.int .i64 ck,.int .i64 cn,.string cs,.slice la ln lc] 38):=⟨_,rfl⟩;have B2:=zba hw2;have hb2:=zha hw2;rw[←hw2];have H2:=zh5 B2 (H1.o.1.ext B2) (H1.o.2.2.keep (S:=fun _=>False) (zkb B2) (fun _ _ f=>f)) hb2 (B2.block W.heap.size dl|>.trans HB.o);clear hw2 B2 hb2 d0 d1 dl;refine(PO2.o _ H2.o.2.1).mono ?_;rintro e w3 ⟨v2,⟨dk,dn,ds,ma,mn,mc⟩,rfl,H3⟩;have hb3:=(H3.o.2.1.keeps.block w1.heap.size (zlt H2.o.2.2.2.1) (fun e=>by have:=H1.o.1.lt e;omega)).trans H2.o.2.2.2.1
 have hi3:=(H3.o.2.1.keeps.block W.heap.size (zlt H2.o.2.2.2.2) (fun e=>by
  rcases H1.o.2.1.own _ e with h|h
  ·have:=HX.o.1.lt h;omega
  ·have:=zlt HX.o.2.2.1;omega)).trans H2.o.2.2.2.2
 obtain⟨w4,hw4⟩:∃w4,w4=w3.alloc (.cells #[.int .i64 dk,.int .i64 dn,.string ds,.slice ma mn mc] 38):=⟨_,rfl⟩;have B4:=zba hw4;have hb4:=zha hw4;have hc4:=(B4.block w1.heap.size (zlt hb3)).trans hb3;have hi4:=(B4.block W.heap.size (zlt hi3)).trans hi3;have q0:=zca hc4 0 rfl;have q1:=zca hc4 1 rfl;have q2:=zca hc4 2 rfl;have q3:=zca hc4 3 rfl;have r0:=zca hb4 0 rfl;have r1:=zca hb4 1 rfl;have r2:=zca hb4 2 rfl;have r3:=zca hb4 3 rfl;have c0:=zca hi4 0 rfl;have d0:=zca hi3 0 rfl;have x0:=zca hb3 0 rfl;have x1:=zca hb3 1 rfl;have x2:=zca hb3 2 rfl;have x3:=zca hb3 3 rfl;have xl:=zlt hb3;have dl:=zlt hi3;have l4:=zlt hb4;have xl4:=zlt hc4;have dl4:=zlt hi4;have K4:MK b v W v2 w4:=(MK.ext HX.o.2.1).trans (H1.o.2.1.trans ((MK.ext H2.o.1).trans (H3.o.2.1.trans (MK.ext B4))));have H4:=zh4 (H3.o.1.ext B4) K4 ((CF.step H3.o.2.1 H2.o.2.2.1).step (MK.ext B4)) (H3.o.2.2.step (MK.ext B4));have hlen:s.pop.pop.stk.length≤4294967296:=znf (yaQ s) HX.o.2.2.2.2.1;have hE:=HX.o.2.2.2.1;clear hb3 hi3 hb4 hc4 hi4 B4 K4;go_upto_region 22 with(fail);rw[←hw4];clear hw4 d0 x0 x1 x2 x3 xl dl;obtain rfl:dk=3:=H4.o.2.2.2.kind.trans ha;obtain rfl:ck=1:=H4.o.2.2.1.kind.trans hb
 obtain rfl:cn=i:=H4.o.2.2.1.n.trans hi;have hmn:mn=s.pop.top.list.length:=H4.o.2.2.2.l.elem.1;have him:i<mn:=by rw[hmn];exact(zge hy).1
 obtain⟨⟨ek,en,es,ea,el,ec⟩,g,off,hce,rfl,hF,hg,m0,m1,m2,m3⟩:=H4.o.2.2.2.l.elem.2 i y hy;have HE:=zhd hE;have n7:(i:Int)<(mn:Int):=by omega
 have n8:(0:Int)≤(i:Int):=by omega
 obtain⟨w5,hw5⟩:∃w5,w5=w4.alloc (.cells #[.int .i64 ek,.int .i64 en,.string es,.slice ea el ec] 38):=⟨_,rfl⟩;have B5:=zba hw5;have hb5:=zha hw5;have t0:=zca hb5 0 rfl;have t1:=zca hb5 1 rfl;have t2:=zca hb5 2 rfl;have t3:=zca hb5 3 rfl;have lt5:=zlt hb5;have H5:=zh2 B5 (H4.o.1.ext B5);have CL:=zhd (yav y ek en es ea el ec _ w5.drew (hce.keep (S:=fun _=>False) (zkb (B5.drew)) (fun _ _ f=>f)) hz);clear hmn ha hb hE B5 hb5 hy hi him hce hF;go_upto_region 35 with(fail);rw[←hw5];clear hw5;go_region_law (first
  |(go_simp;go_at_call 58;refine CL.o.mono ?_;rintro e w7 ⟨⟨k8,n8,s8,la8,ln8,lc8⟩,rfl,hC8⟩;have B7:Below w5.heap.size w5 w7:=znw ((znv w5.heap.size w5).drew) hC8.o.2;have H7:=zh2 hC8.o.1 B7;clear hC8 B7)
  |(go_simp;go_at_call 119;refine(yah b v2 p s.pop.pop w7 (H5.o.2.ext H7.o.2) (yab y) k8 n8 s8 la8 ln8 lc8 (H7.o.1.mono (fun g hg _=>⟨fun e=>by have:=H5.o.2.lt e;have hg:w5.heap.size≤g:=hg;omega,HX.o.2.2.2.2.2.2 g (by have hg:w5.heap.size≤g:=hg;have:=HX.o.2.1.size;have:=H4.o.2.1.keeps.size;have:=H5.o.1.size;omega)⟩)) hlen).mono ?_;rintro e w9 ⟨v9,rfl,H9⟩))
 all_goals
  go_wp2_with fail;go_ret;exact⟨v9,rfl,zhd ⟨by rw[HE.o];exact H9.o.1,H4.o.2.1.trans ((MK.ext (H5.o.1.trans (H7.o.2.mono H5.o.1.size))).trans H9.o.2)⟩⟩
theorem yi0 (l:List Val)(la:Option Addr)(ln lc:Nat)(F:Nat→Prop)(w:World)(C:VF F w (.slice la ln lc) l)(hz:szV (.mk 3 0 ⟨#[]⟩ l)≤1073741824):
  Calls Tryz.prog 182 #[.slice la ln lc] w (yf7 w (.mk 3 0 ⟨#[]⟩ l)):=by
 have CL:=zhd (yav (.mk 3 0 ⟨#[]⟩ l) 3 0 ⟨#[]⟩ la ln lc F (w.alloc (.cells #[.int .i64 0,.int .i64 0,.string ⟨#[]⟩,.slice none 0 0] 38)) ⟨rfl,rfl,rfl,C.keep (S:=fun _=>False) ((Keeps.refl _ _).alloc _) (fun _ _ f=>f)⟩ hz);clear C;go_enter Tryz.func182,Tryz.ntmps182;go_wp2_with fail;refine CL.o.mono ?_;rintro e w5 ⟨⟨k8,n8,s8,la8,ln8,lc8⟩,rfl,H5⟩;have b5:=(H5.o.2.block w.heap.size (by simp)).trans (znb w _);have f0:=fun o=>zfr b5 o;have l5:=zlt b5;have q:∀o,w5.cell? ⟨w.heap.size,o,none⟩=(#[.int .i64 0,.int .i64 0,.string ⟨#[]⟩,.slice none 0 0]:Array Value)[o]? :=fun o=>zch b5 _;have q0:=q 0;have q1:=q 1;have q2:=q 2;have q3:=q 3;simp only[zmc,zma,zmb]at q0 q1 q2 q3;have B5:=zhd (((znv w.heap.size w).alloc (znc _) (.cells #[.int .i64 0,.int .i64 0,.string ⟨#[]⟩,.slice none 0 0] 38)).trans (H5.o.2.mono (by simp)));clear q b5;go_wp2_with fail;exact zng (v:=.agg #[.int .i64 k8,.int .i64 n8,.string s8,.slice la8 ln8 lc8]) (by simp only[results,Tryz.results182];go_simp) rfl ⟨⟨k8,n8,s8,la8,ln8,lc8⟩,rfl,zhd ⟨(H5.o.1.keep (yld w5 w.heap.size _ _ _ _) (fun g hg e=>by
  have hg:(w.alloc _).heap.size≤g:=hg;rw[yeh]at hg;have e:g=w.heap.size:=e;omega)).mono (fun g hg _=>by
   have hg:(w.alloc _).heap.size≤g:=hg;rw[yeh]at hg;show w.heap.size≤g;omega),yhS B5.o _ _ _ _⟩⟩
theorem ydK
  {Z:Nat→Prop}(b:Nat)(v:MV)(p:Img)(s:MS)(W:World)(M:MX TT Z W b v p s)
  (k:Int)(hk:s.stk.length≤4294967296)(hl:s.made.length≤4294967296)(hZ:∀j,W.heap.size≤j→Z j)(s':MS)
  (ha:s.pop.top.kind=2)(hb:s.top.kind=2)(hz1:s.pop.top.txt.size≤1000)(hz2:s.top.txt.size≤1000)(hw:(ybH (s.pop.top.txt++s.top.txt)).wf)(hs':s'=s.pop.pop.put (ybH (s.pop.top.txt++s.top.txt))):
  Calls Tryz.prog 164 #[.pointer (some ⟨b,0,none⟩),.agg #[.int .i64 32,.int .i64 k]] W (MP Z W b v p (.bool true) s')
  :=by
 obtain⟨w0,hw0⟩:∃w0,w0=W.alloc (.cells #[.int .i64 32,.int .i64 k] 106):=⟨_,rfl⟩;have B0:=zba hw0;have hB:=zha hw0;have PO:=zhd (yag b v p s w0 (M.ext B0));have HX:=zh7 M B0 hB hs' hk hl hZ;clear M B0 hB hs' hk hl hZ;go_enter Tryz.func164,Tryz.ntmps164;go_wp2_with fail;rw[←hw0];clear hw0;refine PO.o.mono ?_;rintro e w1 ⟨v1,⟨ck,cn,cs,la,ln,lc⟩,rfl,H1⟩;have hb1:=(H1.o.2.1.keeps.block W.heap.size (zlt HX.o.2.2.1) (fun e=>by have:=HX.o.1.lt e;omega)).trans HX.o.2.2.1;have d0:=zca hb1 0 rfl;have d1:=zca hb1 1 rfl;have dl:=zlt hb1;have HB:=zhd hb1;clear hb1;have PO2:=zhd (fun(w2:World) (M2:MX TT Z w2 b v1 p s.pop)=>yag b v1 p s.pop w2 M2);go_wp2_with fail;obtain⟨w2,hw2⟩:∃w2,w2=w1.alloc (.cells #[.int .i64 ck,.int .i64 cn,.string cs,.slice la ln lc] 38):=⟨_,rfl⟩;have B2:=zba hw2;have hb2:=zha hw2;rw[←hw2];have H2:=zh5 B2 (H1.o.1.ext B2) (H1.o.2.2.keep (S:=fun _=>False) (zkb B2) (fun _ _ f=>f)) hb2 (B2.block W.heap.size dl|>.trans HB.o);clear hw2 B2 hb2 d0 d1 dl;refine(PO2.o _ H2.o.2.1).mono ?_;rintro e w3 ⟨v2,⟨dk,dn,ds,ma,mn,mc⟩,rfl,H3⟩;have hb3:=(H3.o.2.1.keeps.block w1.heap.size (zlt H2.o.2.2.2.1) (fun e=>by have:=H1.o.1.lt e;omega)).trans H2.o.2.2.2.1
 have hi3:=(H3.o.2.1.keeps.block W.heap.size (zlt H2.o.2.2.2.2) (fun e=>by
  rcases H1.o.2.1.own _ e with h|h
  ·have:=HX.o.1.lt h;omega
  ·have:=zlt HX.o.2.2.1;omega)).trans H2.o.2.2.2.2
 obtain⟨w4,hw4⟩:∃w4,w4=w3.alloc (.cells #[.int .i64 dk,.int .i64 dn,.string ds,.slice ma mn mc] 38):=⟨_,rfl⟩;have B4:=zba hw4;have hb4:=zha hw4;have hc4:=(B4.block w1.heap.size (zlt hb3)).trans hb3;have hi4:=(B4.block W.heap.size (zlt hi3)).trans hi3;have q0:=zca hc4 0 rfl;have q1:=zca hc4 1 rfl;have q2:=zca hc4 2 rfl;have q3:=zca hc4 3 rfl;have r0:=zca hb4 0 rfl;have r1:=zca hb4 1 rfl;have r2:=zca hb4 2 rfl;have r3:=zca hb4 3 rfl;have c0:=zca hi4 0 rfl;have d0:=zca hi3 0 rfl;have x0:=zca hb3 0 rfl;have x1:=zca hb3 1 rfl;have x2:=zca hb3 2 rfl;have x3:=zca hb3 3 rfl;have xl:=zlt hb3;have dl:=zlt hi3;have l4:=zlt hb4;have xl4:=zlt hc4;have dl4:=zlt hi4;have K4:MK b v W v2 w4:=(MK.ext HX.o.2.1).trans (H1.o.2.1.trans ((MK.ext H2.o.1).trans (H3.o.2.1.trans (MK.ext B4))));have H4:=zh4 (H3.o.1.ext B4) K4 ((CF.step H3.o.2.1 H2.o.2.2.1).step (MK.ext B4)) (H3.o.2.2.step (MK.ext B4));have hlen:s.pop.pop.stk.length≤4294967296:=znf (yaQ s) HX.o.2.2.2.2.1;have hE:=HX.o.2.2.2.1;clear hb3 hi3 hb4 hc4 hi4 B4 K4;go_upto_region 22 with(fail);rw[←hw4];clear hw4 d0 x0 x1 x2 x3 xl dl;obtain rfl:dk=2:=H4.o.2.2.2.kind.trans ha;obtain rfl:ck=2:=H4.o.2.2.1.kind.trans hb
 have h1:ds=s.pop.top.txt:=H4.o.2.2.2.s;have h2:cs=s.top.txt:=H4.o.2.2.1.s;rw[←h1,←h2]at hw hE;rw[←h1]at hz1;rw[←h2]at hz2;have HE:=zh2 hw hE;clear h1 h2 ha hb hw hE;go_wp2_with fail;refine(yfj _ _).mono ?_;rintro e w5 ⟨rfl,hB5⟩;have PU:=zhd (ygz b v2 p s.pop.pop w5 (H4.o.1.ext hB5) (ybH (ds++cs)) 2 0 (ds++cs) none 0 0 (yke _ _ _) HE.o.1 hlen HX.o.2.2.2.2.2.1 (yac HX.o.2.2.2.2.2.2 (znf H4.o.2.1.keeps.size hB5.size)) s' HE.o.2.symm);have H5:=zhd hB5;clear hB5;go_wp2_with fail;refine PU.o.mono ?_;rintro e w7 ⟨v7,rfl,H7⟩;go_wp2_with fail;go_ret;exact⟨v7,rfl,zhd ⟨H7.o.1,H4.o.2.1.trans ((MK.ext H5.o).trans H7.o.2)⟩⟩
theorem ydM
  {Z:Nat→Prop}(b:Nat)(v:MV)(p:Img)(s:MS)(W:World)(M:MX TT Z W b v p s)
  (k:Int)(hk:s.stk.length≤4294967296)(hl:s.made.length≤4294967296)(hZ:∀j,W.heap.size≤j→Z j)(s':MS)
  (h2:¬(s.pop.top.kind=2∧s.top.kind=2))(h3:¬(s.pop.top.kind=3∧s.top.kind=3))(hs':s'=s.pop.pop.tType):
  Calls Tryz.prog 164 #[.pointer (some ⟨b,0,none⟩),.agg #[.int .i64 32,.int .i64 k]] W (MP Z W b v p (.bool true) s')
  :=by
 obtain⟨w0,hw0⟩:∃w0,w0=W.alloc (.cells #[.int .i64 32,.int .i64 k] 106):=⟨_,rfl⟩;have B0:=zba hw0;have hB:=zha hw0;have PO:=zhd (yag b v p s w0 (M.ext B0));have HX:=zh7 M B0 hB hs' hk hl hZ;clear M B0 hB hs' hk hl hZ;go_enter Tryz.func164,Tryz.ntmps164;go_wp2_with fail;rw[←hw0];clear hw0;refine PO.o.mono ?_;rintro e w1 ⟨v1,⟨ck,cn,cs,la,ln,lc⟩,rfl,H1⟩;have hb1:=(H1.o.2.1.keeps.block W.heap.size (zlt HX.o.2.2.1) (fun e=>by have:=HX.o.1.lt e;omega)).trans HX.o.2.2.1;have d0:=zca hb1 0 rfl;have d1:=zca hb1 1 rfl;have dl:=zlt hb1;have HB:=zhd hb1;clear hb1;have PO2:=zhd (fun(w2:World) (M2:MX TT Z w2 b v1 p s.pop)=>yag b v1 p s.pop w2 M2);go_wp2_with fail;obtain⟨w2,hw2⟩:∃w2,w2=w1.alloc (.cells #[.int .i64 ck,.int .i64 cn,.string cs,.slice la ln lc] 38):=⟨_,rfl⟩;have B2:=zba hw2;have hb2:=zha hw2;rw[←hw2];have H2:=zh5 B2 (H1.o.1.ext B2) (H1.o.2.2.keep (S:=fun _=>False) (zkb B2) (fun _ _ f=>f)) hb2 (B2.block W.heap.size dl|>.trans HB.o);clear hw2 B2 hb2 d0 d1 dl;refine(PO2.o _ H2.o.2.1).mono ?_;rintro e w3 ⟨v2,⟨dk,dn,ds,ma,mn,mc⟩,rfl,H3⟩;have hb3:=(H3.o.2.1.keeps.block w1.heap.size (zlt H2.o.2.2.2.1) (fun e=>by have:=H1.o.1.lt e;omega)).trans H2.o.2.2.2.1
 have hi3:=(H3.o.2.1.keeps.block W.heap.size (zlt H2.o.2.2.2.2) (fun e=>by
  rcases H1.o.2.1.own _ e with h|h
  ·have:=HX.o.1.lt h;omega
  ·have:=zlt HX.o.2.2.1;omega)).trans H2.o.2.2.2.2
 obtain⟨w4,hw4⟩:∃w4,w4=w3.alloc (.cells #[.int .i64 dk,.int .i64 dn,.string ds,.slice ma mn mc] 38):=⟨_,rfl⟩;have B4:=zba hw4;have hb4:=zha hw4;have hc4:=(B4.block w1.heap.size (zlt hb3)).trans hb3;have hi4:=(B4.block W.heap.size (zlt hi3)).trans hi3;have q0:=zca hc4 0 rfl;have q1:=zca hc4 1 rfl;have q2:=zca hc4 2 rfl;have q3:=zca hc4 3 rfl;have r0:=zca hb4 0 rfl;have r1:=zca hb4 1 rfl;have r2:=zca hb4 2 rfl;have r3:=zca hb4 3 rfl;have c0:=zca hi4 0 rfl;have d0:=zca hi3 0 rfl;have x0:=zca hb3 0 rfl;have x1:=zca hb3 1 rfl;have x2:=zca hb3 2 rfl;have x3:=zca hb3 3 rfl;have xl:=zlt hb3;have dl:=zlt hi3;have l4:=zlt hb4;have xl4:=zlt hc4;have dl4:=zlt hi4;have K4:MK b v W v2 w4:=(MK.ext HX.o.2.1).trans (H1.o.2.1.trans ((MK.ext H2.o.1).trans (H3.o.2.1.trans (MK.ext B4))));have H4:=zh4 (H3.o.1.ext B4) K4 ((CF.step H3.o.2.1 H2.o.2.2.1).step (MK.ext B4)) (H3.o.2.2.step (MK.ext B4));have hlen:s.pop.pop.stk.length≤4294967296:=znf (yaQ s) HX.o.2.2.2.2.1;have hE:=HX.o.2.2.2.1;clear hb3 hi3 hb4 hc4 hi4 B4 K4;go_upto_region 22 with(fail);rw[←hw4];clear hw4 d0 x0 x1 x2 x3 xl dl;have hkd:dk=s.pop.top.kind:=H4.o.2.2.2.kind;have hkc:ck=s.top.kind:=H4.o.2.2.1.kind
 rw[←hkd,←hkc]at h2 h3;clear hkd hkc;by_cases d2:dk=2
 ·have c2:(ck==2)=false:=by rw[zna];exact fun e=>h2 ⟨d2,e⟩
  subst d2;clear h2 h3;have FL:=zhd (yas b v2 p s.pop.pop w4 H4.o.1 ⟨#[116,121,112,101]⟩ (by decide) HX.o.2.2.2.2.2.1 (yac HX.o.2.2.2.2.2.2 H4.o.2.1.keeps.size) s' (hE.symm));go_wp2_with fail;refine FL.o.mono ?_;rintro e w5 ⟨v5,rfl,H5⟩;go_wp2_with fail;go_ret;exact⟨v5,rfl,zhd ⟨H5.o.1,H4.o.2.1.trans H5.o.2⟩⟩
 ·have n2:(dk==2)=false:=by rw[zna];exact d2
  by_cases d3:dk=3
  ·have c3:(ck==3)=false:=by rw[zna];exact fun e=>h3 ⟨d3,e⟩
   subst d3;clear h2 h3 d2 n2;have FL:=zhd (yas b v2 p s.pop.pop w4 H4.o.1 ⟨#[116,121,112,101]⟩ (by decide) HX.o.2.2.2.2.2.1 (yac HX.o.2.2.2.2.2.2 H4.o.2.1.keeps.size) s' (hE.symm));go_wp2_with fail;refine FL.o.mono ?_;rintro e w5 ⟨v5,rfl,H5⟩;go_wp2_with fail;go_ret;exact⟨v5,rfl,zhd ⟨H5.o.1,H4.o.2.1.trans H5.o.2⟩⟩
  ·have n3:(dk==3)=false:=by rw[zna];exact d3
   clear h2 h3 d2 d3;have FL:=zhd (yas b v2 p s.pop.pop w4 H4.o.1 ⟨#[116,121,112,101]⟩ (by decide) HX.o.2.2.2.2.2.1 (yac HX.o.2.2.2.2.2.2 H4.o.2.1.keeps.size) s' (hE.symm));go_wp2_with fail;refine FL.o.mono ?_;rintro e w5 ⟨v5,rfl,H5⟩;go_wp2_with fail;go_ret;exact⟨v5,rfl,zhd ⟨H5.o.1,H4.o.2.1.trans H5.o.2⟩⟩
theorem ydL
  {Z:Nat→Prop}(b:Nat)(v:MV)(p:Img)(s:MS)(W:World)(M:MX TT Z W b v p s)
  (k:Int)(hk:s.stk.length≤4294967296)(hl:s.made.length≤4294967296)(hZ:∀j,W.heap.size≤j→Z j)(s':MS)
  (ha:s.pop.top.kind=3)(hb:s.top.kind=3)(hz:szV (.mk 3 0 ⟨#[]⟩ (s.pop.top.list++s.top.list))≤1073741824)(hw:(yab (.mk 3 0 ⟨#[]⟩ (s.pop.top.list++s.top.list))).wf)(hs':s'=s.pop.pop.put (yab (.mk 3 0 ⟨#[]⟩ (s.pop.top.list++s.top.list)))):
  Calls Tryz.prog 164 #[.pointer (some ⟨b,0,none⟩),.agg #[.int .i64 32,.int .i64 k]] W (MP Z W b v p (.bool true) s')
  :=by
 obtain⟨w0,hw0⟩:∃w0,w0=W.alloc (.cells #[.int .i64 32,.int .i64 k] 106):=⟨_,rfl⟩;have B0:=zba hw0;have hB:=zha hw0;have PO:=zhd (yag b v p s w0 (M.ext B0));have HX:=zh7 M B0 hB hs' hk hl hZ;clear M B0 hB hs' hk hl hZ;go_enter Tryz.func164,Tryz.ntmps164;go_wp2_with fail;rw[←hw0];clear hw0;refine PO.o.mono ?_;rintro e w1 ⟨v1,⟨ck,cn,cs,la,ln,lc⟩,rfl,H1⟩;have hb1:=(H1.o.2.1.keeps.block W.heap.size (zlt HX.o.2.2.1) (fun e=>by have:=HX.o.1.lt e;omega)).trans HX.o.2.2.1;have d0:=zca hb1 0 rfl;have d1:=zca hb1 1 rfl;have dl:=zlt hb1;have HB:=zhd hb1;clear hb1;have PO2:=zhd (fun(w2:World) (M2:MX TT Z w2 b v1 p s.pop)=>yag b v1 p s.pop w2 M2);go_wp2_with fail;obtain⟨w2,hw2⟩:∃w2,w2=w1.alloc (.cells #[.int .i64 ck,.int .i64 cn,.string cs,.slice la ln lc] 38):=⟨_,rfl⟩;have B2:=zba hw2;have hb2:=zha hw2;rw[←hw2];have H2:=zh5 B2 (H1.o.1.ext B2) (H1.o.2.2.keep (S:=fun _=>False) (zkb B2) (fun _ _ f=>f)) hb2 (B2.block W.heap.size dl|>.trans HB.o);clear hw2 B2 hb2 d0 d1 dl;refine(PO2.o _ H2.o.2.1).mono ?_;rintro e w3 ⟨v2,⟨dk,dn,ds,ma,mn,mc⟩,rfl,H3⟩;have hb3:=(H3.o.2.1.keeps.block w1.heap.size (zlt H2.o.2.2.2.1) (fun e=>by have:=H1.o.1.lt e;omega)).trans H2.o.2.2.2.1
 have hi3:=(H3.o.2.1.keeps.block W.heap.size (zlt H2.o.2.2.2.2) (fun e=>by
  rcases H1.o.2.1.own _ e with h|h
  ·have:=HX.o.1.lt h;omega
  ·have:=zlt HX.o.2.2.1;omega)).trans H2.o.2.2.2.2
 obtain⟨w4,hw4⟩:∃w4,w4=w3.alloc (.cells #[.int .i64 dk,.int .i64 dn,.string ds,.slice ma mn mc] 38):=⟨_,rfl⟩;have B4:=zba hw4;have hb4:=zha hw4;have hc4:=(B4.block w1.heap.size (zlt hb3)).trans hb3;have hi4:=(B4.block W.heap.size (zlt hi3)).trans hi3;have q0:=zca hc4 0 rfl;have q1:=zca hc4 1 rfl;have q2:=zca hc4 2 rfl;have q3:=zca hc4 3 rfl;have r0:=zca hb4 0 rfl;have r1:=zca hb4 1 rfl;have r2:=zca hb4 2 rfl;have r3:=zca hb4 3 rfl;have c0:=zca hi4 0 rfl;have d0:=zca hi3 0 rfl;have x0:=zca hb3 0 rfl;have x1:=zca hb3 1 rfl;have x2:=zca hb3 2 rfl;have x3:=zca hb3 3 rfl;have xl:=zlt hb3;have dl:=zlt hi3;have l4:=zlt hb4;have xl4:=zlt hc4;have dl4:=zlt hi4;have K4:MK b v W v2 w4:=(MK.ext HX.o.2.1).trans (H1.o.2.1.trans ((MK.ext H2.o.1).trans (H3.o.2.1.trans (MK.ext B4))));have H4:=zh4 (H3.o.1.ext B4) K4 ((CF.step H3.o.2.1 H2.o.2.2.1).step (MK.ext B4)) (H3.o.2.2.step (MK.ext B4));have hlen:s.pop.pop.stk.length≤4294967296:=znf (yaQ s) HX.o.2.2.2.2.1;have hE:=HX.o.2.2.2.1;clear hb3 hi3 hb4 hc4 hi4 B4 K4;go_upto_region 22 with(fail);rw[←hw4];clear hw4 d0 x0 x1 x2 x3 xl dl;obtain rfl:dk=3:=H4.o.2.2.2.kind.trans ha;obtain rfl:ck=3:=H4.o.2.2.1.kind.trans hb
 obtain⟨xs,hR1,hP1⟩:=H4.o.2.2.2.l.rd;obtain⟨ys,hR2,hP2⟩:=H4.o.2.2.1.l.rd;have hl0:(s.pop.top.list++s.top.list).length≤1073741824:=by
  have:=yi5 (s.pop.top.list++s.top.list);rw[yc5]at hz;have hz:szV.szL (s.pop.top.list++s.top.list)+30≤1073741824:=hz;omega
 rw[znk]at hl0;have hxl:xs.length=mn:=by have h1:mn=s.pop.top.list.length:=H4.o.2.2.2.l.elem.1;have h2:=hP1.1;omega
 have hyl:ys.length=ln:=by have h1:ln=s.top.list.length:=H4.o.2.2.1.l.elem.1;have h2:=hP2.1;omega
 have HL:=zhd (show(([]:List VC).length+xs.length)*56≤140737488355328∧([]:List VC).length+xs.length≤maxLen∧([]:List VC).length+xs.length=mn∧(xs.length+ys.length)*56≤140737488355328∧xs.length+ys.length≤maxLen∧xs.length+ys.length=mn+ln from by have h1:=hP1.1;have h2:=hP2.1;unfold maxLen;simp;omega);have HE:=zh7 hw hE hz hR1 hP1 hR2 hP2;clear ha hb hw hE hz hR1 hP1 hR2 hP2 hl0 hxl hyl;go_upto_region 41 with(fail);go_region_law (first
  |(refine yeB (α:=VC) (o:=⟨some 167,_,_,_,_,_⟩) yfc (by rfl) (.tmp 164) (.tmp 166) (by rfl) (by rfl) (by rfl) (RowAt.none_ (znb _ _)) ((HE.o.2.2.2.1.keep (S:=fun _=>False) (zkb (((znv w4.heap.size w4).drew).alloc (znc _) _)) (fun _ _ f=>f))) HL.o.1 HL.o.2.1 mn HL.o.2.2.1 ?_;intro a5 q5 w5 hr5 hk5 hf5;rw[List.nil_append]at hr5;have P5:=ybm (((Keeps.refl (fun _=>False) w4).drew).alloc _) hk5 (yct (znc _)) hf5;have H5:=zh2 hr5 P5;have u3:w5.cell? ⟨w1.heap.size,3,none⟩=some (.slice la ln lc):=(P5.1.cell (p:=⟨w1.heap.size,3,none⟩) xl4 (fun f=>f)).trans q3;clear hr5 hk5 hf5 P5)
  |(refine yeB (α:=VC) (o:=⟨some 170,_,_,_,_,_⟩) yfc (by rfl) (.tmp 167) (.tmp 169) (by rfl) (by rfl) (by rfl) H5.o.1 (HE.o.2.2.2.2.2.1.keep H5.o.2.1 (fun _ _ f=>f)) HL.o.2.2.2.1 HL.o.2.2.2.2.1 (mn+ln) HL.o.2.2.2.2.2 ?_;intro a6 q6 w6 hr6 hk6 hf6;have P6:=ybm H5.o.2.1 hk6 H5.o.2.2 hf6;have H6:=zh2 hr6 P6;clear hr6 hk6 hf6 P6)
  |(go_simp;go_at_call 182;refine(yi0 (s.pop.top.list++s.top.list) a6 (mn+ln) q6 (fun g=>MZ Z v2 b g∨w4.heap.size≤g) w6 (VF.of (RdF.of_row H6.o.1 (fun g hg=>.inr (H6.o.2.2 g hg))) (((HE.o.2.2.2.2.1.app HE.o.2.2.2.2.2.2).mono (fun g h _=>.inl h)).keep H6.o.2.1 (fun _ _ f=>f))) HE.o.2.2.1).mono ?_;rintro e w7 ⟨⟨k8,n8,s8,la8,ln8,lc8⟩,rfl,hC8⟩;have B7:Below w4.heap.size w4 w7:=H6.o.2.1.below_of.trans (hC8.o.2.mono H6.o.2.1.size);have H7:=zh2 hC8.o.1 B7;clear hC8 B7)
  |(go_simp;go_at_call 181;refine(ygz b v2 p s.pop.pop w7 (H4.o.1.ext H7.o.2) (yab (.mk 3 0 ⟨#[]⟩ (s.pop.top.list++s.top.list))) k8 n8 s8 la8 ln8 lc8 (H7.o.1.mono (fun g hg _=>⟨fun e=>by have:=H4.o.1.lt e;have hg:w6.heap.size≤g:=hg;have:=H6.o.2.1.size;omega,HX.o.2.2.2.2.2.2 g (by have hg:w6.heap.size≤g:=hg;have:=H6.o.2.1.size;have:=H4.o.2.1.keeps.size;omega)⟩)) HE.o.1 hlen HX.o.2.2.2.2.2.1 (yac HX.o.2.2.2.2.2.2 (znf H4.o.2.1.keeps.size H7.o.2.size)) s' HE.o.2.1.symm).mono ?_;rintro e w9 ⟨v9,rfl,H9⟩))
 all_goals
  go_wp2_with fail;go_ret;exact⟨v9,rfl,zhd ⟨H9.o.1,H4.o.2.1.trans ((MK.ext H7.o.2).trans H9.o.2)⟩⟩
end Go.Proofs.YtpagmlndgblhhaaGreatDoor
