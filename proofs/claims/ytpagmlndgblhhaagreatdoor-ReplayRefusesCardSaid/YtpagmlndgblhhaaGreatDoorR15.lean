/- Parts of the proof: what the functions and the plain laws give that later parts lean on. Conditions: none beyond those that each theorem names. -/
import Derived.Test.YtpagmlndgblhhaaGreatDoorR14
set_option maxRecDepth 100000
set_option maxHeartbeats 8000000
namespace Go.Proofs.YtpagmlndgblhhaaGreatDoor
open Go.RowKit Go.Own Go.Own.MapTy Go.Va Go.Sort
open Go.Own.Cells (sz enc)
theorem yaa {P:Program}{c:Code}{Q:Exit→Act→World→Prop}{a:Act}{W:World}(h:∀w,w=W→c.wp P Q a w):c.wp P Q a W:=h W rfl
theorem pop_len (s:MS):s.pop.stk.length≤s.stk.length:=by unfold MS.pop;simp
theorem yif
  {Z:Nat→Prop}(b:Nat)(v:MV)(p:Img)(s:MS)(W:World)(M:MX TT Z W b v p s)
  (k:Int)(hk:s.stk.length≤4294967296)(hl:s.made.length≤4294967296)(hZ:∀j,W.heap.size≤j→Z j)(s':MS)
  (hs':s'=s.pop.push (yaH (!ycp s.top))):
  Calls Tryz.prog 164 #[.pointer (some ⟨b,0,none⟩),.agg #[.int .i64 10,.int .i64 k]] W (MP Z W b v p (.bool true) s')
  :=by
 obtain⟨w0,hw0⟩:∃w0,w0=W.alloc (.cells #[.int .i64 10,.int .i64 k] 106):=⟨_,rfl⟩;have B0:=zba hw0;have hB:=zha hw0;have PO:=zhd (yag b v p s w0 (M.ext B0));have HX:=zh7 M B0 hB hs' hk hl hZ;clear M B0 hB hs' hk hl hZ;go_enter Tryz.func164,Tryz.ntmps164;go_wp2_with fail;rw[←hw0];clear hw0;refine PO.o.mono ?_;rintro e w1 ⟨v1,⟨ck,cn,cs,la,ln,lc⟩,rfl,H1⟩;have hb1:=(H1.o.2.1.keeps.block W.heap.size (zlt HX.o.2.2.1) (fun e=>by have:=HX.o.1.lt e;omega)).trans HX.o.2.2.1;have d0:=zca hb1 0 rfl;have d1:=zca hb1 1 rfl;have dl:=zlt hb1;have HB:=zhd hb1;clear hb1;go_upto_region 11 with(fail);refine yaa ?_;intro w2 hw2;have B2:=zba hw2;have hb2:=zha hw2;have q0:=zca hb2 0 rfl;have q1:=zca hb2 1 rfl;have q2:=zca hb2 2 rfl;have q3:=zca hb2 3 rfl;have l2:=zlt hb2;have HB2:=zhd hb2;have H2:=zh3 B2 (H1.o.1.ext B2) (H1.o.2.2.keep (S:=fun _=>False) (zkb B2) (fun _ _ f=>f));clear hb2 B2 hw2;have hE:=HX.o.2.2.2.1;have hlen:s.pop.stk.length≤4294967296:=znf (pop_len s) HX.o.2.2.2.2.1;cases hr:ycp s.top
 all_goals
  rw[hr]at hE;have TR:=zhd (yhd s.top ck cn cs la ln lc _ w2.drew (H2.o.2.2.keep (S:=fun _=>False) (zkb ((znv _ _).drew)) (fun _ _ f=>f)) _ hr);have BO:=zhd (ybg (!(ycp s.top)));rw[hr]at BO;have HE:=zhd hE;clear hE hr
 ·
  go_region_law (first
   |(go_simp;go_at_call 158;refine TR.o.mono ?_;rintro e w3 ⟨rfl,hB3⟩;have B3:Below w2.heap.size w2 w3:=znw ((znv w2.heap.size w2).drew) hB3;have H3:=zhd B3;clear hB3 B3)
   |(go_simp;go_at_call 63;refine(BO.o w3).mono ?_;rintro e w4 ⟨rfl,hB4⟩;have H4:=zhd (H3.o.trans (hB4.mono H3.o.size));clear hB4)
   |(go_simp;go_at_call 119;refine(yah b v1 p s.pop w4 (H2.o.2.1.ext H4.o) (yaH true) 1 _ ⟨#[]⟩ none 0 0 (ya5 _ _ _) hlen).mono ?_;rintro e w5 ⟨v5,rfl,H5⟩))
  all_goals
   go_wp2_with fail;go_ret;exact⟨v5,rfl,zhd ⟨by rw[HE.o];exact H5.o.1,(MK.ext HX.o.2.1).trans (H1.o.2.1.trans ((MK.ext (H2.o.1.trans (H4.o.mono H2.o.1.size))).trans H5.o.2))⟩⟩
 ·
  go_region_law (first
   |(go_simp;go_at_call 158;refine TR.o.mono ?_;rintro e w3 ⟨rfl,hB3⟩;have B3:Below w2.heap.size w2 w3:=znw ((znv w2.heap.size w2).drew) hB3;have H3:=zhd B3;clear hB3 B3)
   |(go_simp;go_at_call 63;refine(BO.o w3).mono ?_;rintro e w4 ⟨rfl,hB4⟩;have H4:=zhd (H3.o.trans (hB4.mono H3.o.size));clear hB4)
   |(go_simp;go_at_call 119;refine(yah b v1 p s.pop w4 (H2.o.2.1.ext H4.o) (yaH false) 1 _ ⟨#[]⟩ none 0 0 (ya5 _ _ _) hlen).mono ?_;rintro e w5 ⟨v5,rfl,H5⟩))
  all_goals
   go_wp2_with fail;go_ret;exact⟨v5,rfl,zhd ⟨by rw[HE.o];exact H5.o.1,(MK.ext HX.o.2.1).trans (H1.o.2.1.trans ((MK.ext (H2.o.1.trans (H4.o.mono H2.o.1.size))).trans H5.o.2))⟩⟩
theorem ydf
  {Z:Nat→Prop}(b:Nat)(v:MV)(p:Img)(s:MS)(W:World)(M:MX TT Z W b v p s)
  (k:Int)(hk:s.stk.length≤4294967296)(hl:s.made.length≤4294967296)(hZ:∀j,W.heap.size≤j→Z j)(s':MS)
  (hx:s.top.kind=3)(hs':s'=s.pop.push (ybn s.top.list.length)):
  Calls Tryz.prog 164 #[.pointer (some ⟨b,0,none⟩),.agg #[.int .i64 31,.int .i64 k]] W (MP Z W b v p (.bool true) s')
  :=by
 obtain⟨w0,hw0⟩:∃w0,w0=W.alloc (.cells #[.int .i64 31,.int .i64 k] 106):=⟨_,rfl⟩;have B0:=zba hw0;have hB:=zha hw0;have PO:=zhd (yag b v p s w0 (M.ext B0));have HX:=zh7 M B0 hB hs' hk hl hZ;clear M B0 hB hs' hk hl hZ;go_enter Tryz.func164,Tryz.ntmps164;go_wp2_with fail;rw[←hw0];clear hw0;refine PO.o.mono ?_;rintro e w1 ⟨v1,⟨ck,cn,cs,la,ln,lc⟩,rfl,H1⟩;have hb1:=(H1.o.2.1.keeps.block W.heap.size (zlt HX.o.2.2.1) (fun e=>by have:=HX.o.1.lt e;omega)).trans HX.o.2.2.1;have d0:=zca hb1 0 rfl;have d1:=zca hb1 1 rfl;have dl:=zlt hb1;have HB:=zhd hb1;clear hb1;have hlen:s.pop.stk.length≤4294967296:=znf (pop_len s) HX.o.2.2.2.2.1;have hk3:(ck==3)=true:=by rw[beq_iff_eq];exact H1.o.2.2.kind.trans hx
 have HLN:=zhd (show ln=s.top.list.length from H1.o.2.2.l.elem.1);go_upto_region 17 with(fail);refine yaa ?_;intro w2 hw2;have B2:=zba hw2;have hb2:=zha hw2;have q0:=zca hb2 0 rfl;have q1:=zca hb2 1 rfl;have q2:=zca hb2 2 rfl;have q3:=zca hb2 3 rfl;have l2:=zlt hb2;have HB2:=zhd hb2;have H2:=zh3 B2 (H1.o.1.ext B2) (H1.o.2.2.keep (S:=fun _=>False) (zkb B2) (fun _ _ f=>f));clear hb2 B2 hw2;have HE:=zhd (show s'=s.pop.push (ybn ln) by rw[HLN.o];exact HX.o.2.2.2.1);clear hx;go_region_law (first
  |(go_simp;go_at_call 106;refine(ya6 _ _).mono ?_;rintro e w4 ⟨rfl,hB4⟩;have H4:=zhd (znw ((znv w2.heap.size w2).drew) hB4);clear hB4)
  |(go_simp;go_at_call 119;refine(yah b v1 p s.pop w4 (H2.o.2.1.ext H4.o) (ybn ln) 1 _ ⟨#[]⟩ none 0 0 (yco _ _ _) hlen).mono ?_;rintro e w5 ⟨v5,rfl,H5⟩))
 all_goals
  go_wp2_with fail;go_ret;exact⟨v5,rfl,zhd ⟨by rw[HE.o];exact H5.o.1,(MK.ext HX.o.2.1).trans (H1.o.2.1.trans ((MK.ext (H2.o.1.trans (H4.o.mono H2.o.1.size))).trans H5.o.2))⟩⟩
theorem yde
  {Z:Nat→Prop}(b:Nat)(v:MV)(p:Img)(s:MS)(W:World)(M:MX TT Z W b v p s)
  (k:Int)(hk:s.stk.length≤4294967296)(hl:s.made.length≤4294967296)(hZ:∀j,W.heap.size≤j→Z j)(s':MS)
  (hx:s.top.kind=2)(hs':s'=s.pop.push (ybn s.top.txt.size)):
  Calls Tryz.prog 164 #[.pointer (some ⟨b,0,none⟩),.agg #[.int .i64 31,.int .i64 k]] W (MP Z W b v p (.bool true) s')
  :=by
 obtain⟨w0,hw0⟩:∃w0,w0=W.alloc (.cells #[.int .i64 31,.int .i64 k] 106):=⟨_,rfl⟩;have B0:=zba hw0;have hB:=zha hw0;have PO:=zhd (yag b v p s w0 (M.ext B0));have HX:=zh7 M B0 hB hs' hk hl hZ;clear M B0 hB hs' hk hl hZ;go_enter Tryz.func164,Tryz.ntmps164;go_wp2_with fail;rw[←hw0];clear hw0;refine PO.o.mono ?_;rintro e w1 ⟨v1,⟨ck,cn,cs,la,ln,lc⟩,rfl,H1⟩;have hb1:=(H1.o.2.1.keeps.block W.heap.size (zlt HX.o.2.2.1) (fun e=>by have:=HX.o.1.lt e;omega)).trans HX.o.2.2.1;have d0:=zca hb1 0 rfl;have d1:=zca hb1 1 rfl;have dl:=zlt hb1;have HB:=zhd hb1;clear hb1;have hlen:s.pop.stk.length≤4294967296:=znf (pop_len s) HX.o.2.2.2.2.1;have hk3:(ck==2)=true:=by rw[beq_iff_eq];exact H1.o.2.2.kind.trans hx
 have hk4:(ck==3)=false:=by rw[zna];have:ck=2:=H1.o.2.2.kind.trans hx;omega
 have HLN:=zhd (show cs=s.top.txt from H1.o.2.2.s);go_upto_region 19 with(fail);refine yaa ?_;intro w2 hw2;have B2:=zba hw2;have hb2:=zha hw2;have q0:=zca hb2 0 rfl;have q1:=zca hb2 1 rfl;have q2:=zca hb2 2 rfl;have q3:=zca hb2 3 rfl;have l2:=zlt hb2;have HB2:=zhd hb2;have H2:=zh3 B2 (H1.o.1.ext B2) (H1.o.2.2.keep (S:=fun _=>False) (zkb B2) (fun _ _ f=>f));clear hb2 B2 hw2;have HE:=zhd (show s'=s.pop.push (ybn cs.size) by rw[HLN.o];exact HX.o.2.2.2.1);clear hx;go_region_law (first
  |(go_simp;go_at_call 106;refine(ya6 _ _).mono ?_;rintro e w4 ⟨rfl,hB4⟩;have H4:=zhd (znw ((znv w2.heap.size w2).drew) hB4);clear hB4)
  |(go_simp;go_at_call 119;refine(yah b v1 p s.pop w4 (H2.o.2.1.ext H4.o) (ybn cs.size) 1 _ ⟨#[]⟩ none 0 0 (yco _ _ _) hlen).mono ?_;rintro e w5 ⟨v5,rfl,H5⟩))
 all_goals
  go_wp2_with fail;go_ret;exact⟨v5,rfl,zhd ⟨by rw[HE.o];exact H5.o.1,(MK.ext HX.o.2.1).trans (H1.o.2.1.trans ((MK.ext (H2.o.1.trans (H4.o.mono H2.o.1.size))).trans H5.o.2))⟩⟩
theorem ydg
  {Z:Nat→Prop}(b:Nat)(v:MV)(p:Img)(s:MS)(W:World)(M:MX TT Z W b v p s)
  (k:Int)(hk:s.stk.length≤4294967296)(hl:s.made.length≤4294967296)(hZ:∀j,W.heap.size≤j→Z j)(s':MS)
  (hx3:¬s.top.kind=3)(hx2:¬s.top.kind=2)(hs':s'=s.pop.tType):
  Calls Tryz.prog 164 #[.pointer (some ⟨b,0,none⟩),.agg #[.int .i64 31,.int .i64 k]] W (MP Z W b v p (.bool true) s')
  :=by
 obtain⟨w0,hw0⟩:∃w0,w0=W.alloc (.cells #[.int .i64 31,.int .i64 k] 106):=⟨_,rfl⟩;have B0:=zba hw0;have hB:=zha hw0;have PO:=zhd (yag b v p s w0 (M.ext B0));have HX:=zh7 M B0 hB hs' hk hl hZ;clear M B0 hB hs' hk hl hZ;go_enter Tryz.func164,Tryz.ntmps164;go_wp2_with fail;rw[←hw0];clear hw0;refine PO.o.mono ?_;rintro e w1 ⟨v1,⟨ck,cn,cs,la,ln,lc⟩,rfl,H1⟩;have hb1:=(H1.o.2.1.keeps.block W.heap.size (zlt HX.o.2.2.1) (fun e=>by have:=HX.o.1.lt e;omega)).trans HX.o.2.2.1;have d0:=zca hb1 0 rfl;have d1:=zca hb1 1 rfl;have dl:=zlt hb1;have HB:=zhd hb1;clear hb1;have hk:ck=s.top.kind:=H1.o.2.2.kind;have n3:(ck==3)=false:=by rw[zna,hk];exact hx3
 have n2:(ck==2)=false:=by rw[zna,hk];exact hx2
 clear hk hx3 hx2;go_upto_region 15 with(fail);refine yaa ?_;intro w2 hw2;have B2:=zba hw2;have hb2:=zha hw2;have q0:=zca hb2 0 rfl;have q1:=zca hb2 1 rfl;have q2:=zca hb2 2 rfl;have q3:=zca hb2 3 rfl;have l2:=zlt hb2;have HB2:=zhd hb2;have H2:=zh3 B2 (H1.o.1.ext B2) (H1.o.2.2.keep (S:=fun _=>False) (zkb B2) (fun _ _ f=>f));clear hb2 B2 hw2;have FL:=zhd (yas b v1 p s.pop w2 H2.o.2.1 ⟨#[116,121,112,101]⟩ (by decide) HX.o.2.2.2.2.2.1 (yac HX.o.2.2.2.2.2.2 (znf HX.o.2.1.size (znf H1.o.2.1.keeps.size H2.o.1.size))) s' (HX.o.2.2.2.1.symm));go_wp2_with fail;refine FL.o.mono ?_;rintro e w5 ⟨v5,rfl,H5⟩;go_wp2_with fail;go_ret;exact⟨v5,rfl,zhd ⟨H5.o.1,(MK.ext HX.o.2.1).trans (H1.o.2.1.trans ((MK.ext H2.o.1).trans H5.o.2))⟩⟩
theorem yaQ (s:MS):s.pop.pop.stk.length≤s.stk.length:=znf (pop_len _) (pop_len _)
theorem ygl
  {Z:Nat→Prop}(b:Nat)(v:MV)(p:Img)(s:MS)(W:World)(M:MX TT Z W b v p s)
  (k:Int)(hk:s.stk.length≤4294967296)(hl:s.made.length≤4294967296)(hZ:∀j,W.heap.size≤j→Z j)(s':MS)
  (hs':s'=s.pop.pop.push (yaH (cmpV s.pop.top s.top==0))):
  Calls Tryz.prog 164 #[.pointer (some ⟨b,0,none⟩),.agg #[.int .i64 8,.int .i64 k]] W (MP Z W b v p (.bool true) s')
  :=by
 obtain⟨w0,hw0⟩:∃w0,w0=W.alloc (.cells #[.int .i64 8,.int .i64 k] 106):=⟨_,rfl⟩;have B0:=zba hw0;have hB:=zha hw0;have PO:=zhd (yag b v p s w0 (M.ext B0));have HX:=zh7 M B0 hB hs' hk hl hZ;clear M B0 hB hs' hk hl hZ;go_enter Tryz.func164,Tryz.ntmps164;go_wp2_with fail;rw[←hw0];clear hw0;refine PO.o.mono ?_;rintro e w1 ⟨v1,⟨ck,cn,cs,la,ln,lc⟩,rfl,H1⟩;have hb1:=(H1.o.2.1.keeps.block W.heap.size (zlt HX.o.2.2.1) (fun e=>by have:=HX.o.1.lt e;omega)).trans HX.o.2.2.1;have d0:=zca hb1 0 rfl;have d1:=zca hb1 1 rfl;have dl:=zlt hb1;have HB:=zhd hb1;clear hb1;have PO2:=zhd (fun(w2:World) (M2:MX TT Z w2 b v1 p s.pop)=>yag b v1 p s.pop w2 M2);go_wp2_with fail;obtain⟨w2,hw2⟩:∃w2,w2=w1.alloc (.cells #[.int .i64 ck,.int .i64 cn,.string cs,.slice la ln lc] 38):=⟨_,rfl⟩;have B2:=zba hw2;have hb2:=zha hw2;rw[←hw2];have H2:=zh5 B2 (H1.o.1.ext B2) (H1.o.2.2.keep (S:=fun _=>False) (zkb B2) (fun _ _ f=>f)) hb2 (B2.block W.heap.size dl|>.trans HB.o);clear hw2 B2 hb2 d0 d1 dl;refine(PO2.o _ H2.o.2.1).mono ?_;rintro e w3 ⟨v2,⟨dk,dn,ds,ma,mn,mc⟩,rfl,H3⟩;have hb3:=(H3.o.2.1.keeps.block w1.heap.size (zlt H2.o.2.2.2.1) (fun e=>by have:=H1.o.1.lt e;omega)).trans H2.o.2.2.2.1
 have hi3:=(H3.o.2.1.keeps.block W.heap.size (zlt H2.o.2.2.2.2) (fun e=>by
  rcases H1.o.2.1.own _ e with h|h
  ·have:=HX.o.1.lt h;omega
  ·have:=zlt HX.o.2.2.1;omega)).trans H2.o.2.2.2.2
 obtain⟨w4,hw4⟩:∃w4,w4=w3.alloc (.cells #[.int .i64 dk,.int .i64 dn,.string ds,.slice ma mn mc] 38):=⟨_,rfl⟩;have B4:=zba hw4;have hb4:=zha hw4;have hc4:=(B4.block w1.heap.size (zlt hb3)).trans hb3;have hi4:=(B4.block W.heap.size (zlt hi3)).trans hi3;have q0:=zca hc4 0 rfl;have q1:=zca hc4 1 rfl;have q2:=zca hc4 2 rfl;have q3:=zca hc4 3 rfl;have r0:=zca hb4 0 rfl;have r1:=zca hb4 1 rfl;have r2:=zca hb4 2 rfl;have r3:=zca hb4 3 rfl;have c0:=zca hi4 0 rfl;have d0:=zca hi3 0 rfl;have x0:=zca hb3 0 rfl;have x1:=zca hb3 1 rfl;have x2:=zca hb3 2 rfl;have x3:=zca hb3 3 rfl;have xl:=zlt hb3;have dl:=zlt hi3;have l4:=zlt hb4;have xl4:=zlt hc4;have dl4:=zlt hi4;have K4:MK b v W v2 w4:=(MK.ext HX.o.2.1).trans (H1.o.2.1.trans ((MK.ext H2.o.1).trans (H3.o.2.1.trans (MK.ext B4))));have H4:=zh4 (H3.o.1.ext B4) K4 ((CF.step H3.o.2.1 H2.o.2.2.1).step (MK.ext B4)) (H3.o.2.2.step (MK.ext B4));have hlen:s.pop.pop.stk.length≤4294967296:=znf (yaQ s) HX.o.2.2.2.2.1;have hE:=HX.o.2.2.2.1;clear hb3 hi3 hb4 hc4 hi4 B4 K4;go_upto_region 22 with(fail);rw[←hw4];clear hw4 d0 x0 x1 x2 x3 xl dl;go_upto_region 24 with(fail);cases hr:(cmpV s.pop.top s.top==0)
 all_goals
  rw[hr]at hE;have SA:=zhd (yeW s.pop.top s.top ⟨dk,dn,ds,ma,mn,mc⟩ ⟨ck,cn,cs,la,ln,lc⟩ _ _ w4.drew (H4.o.2.2.2.keep (S:=fun _=>False) (zkb ((znv _ _).drew)) (fun _ _ f=>f)) (H4.o.2.2.1.keep (S:=fun _=>False) (zkb ((znv _ _).drew)) (fun _ _ f=>f)) _ hr);have BO:=zhd (ybg (cmpV s.pop.top s.top==0));rw[hr]at BO;have HE:=zhd hE;clear hE hr
 ·
  go_region_law (first
   |(go_simp;go_at_call 33;refine SA.o.mono ?_;rintro e w5 ⟨rfl,hB5⟩;have H5:=zhd (znw ((znv w4.heap.size w4).drew) hB5);clear hB5)
   |(go_simp;go_at_call 71;refine SA.o.mono ?_;rintro e w5 ⟨rfl,hB5⟩;have H5:=zhd (znw ((znv w4.heap.size w4).drew) hB5);clear hB5)
   |(go_simp;go_at_call 63;refine(BO.o w5).mono ?_;rintro e w6 ⟨rfl,hB6⟩;have H6:=zhd (H5.o.trans (hB6.mono H5.o.size));clear hB6)
   |(go_simp;go_at_call 119;refine(yah b v2 p s.pop.pop w6 (H4.o.1.ext H6.o) (yaH false) 1 _ ⟨#[]⟩ none 0 0 (ya5 _ _ _) hlen).mono ?_;rintro e w7 ⟨v7,rfl,H7⟩))
  all_goals
   go_wp2_with fail;go_ret;exact⟨v7,rfl,zhd ⟨by rw[HE.o];exact H7.o.1,H4.o.2.1.trans ((MK.ext H6.o).trans H7.o.2)⟩⟩
 ·
  go_region_law (first
   |(go_simp;go_at_call 33;refine SA.o.mono ?_;rintro e w5 ⟨rfl,hB5⟩;have H5:=zhd (znw ((znv w4.heap.size w4).drew) hB5);clear hB5)
   |(go_simp;go_at_call 71;refine SA.o.mono ?_;rintro e w5 ⟨rfl,hB5⟩;have H5:=zhd (znw ((znv w4.heap.size w4).drew) hB5);clear hB5)
   |(go_simp;go_at_call 63;refine(BO.o w5).mono ?_;rintro e w6 ⟨rfl,hB6⟩;have H6:=zhd (H5.o.trans (hB6.mono H5.o.size));clear hB6)
   |(go_simp;go_at_call 119;refine(yah b v2 p s.pop.pop w6 (H4.o.1.ext H6.o) (yaH true) 1 _ ⟨#[]⟩ none 0 0 (ya5 _ _ _) hlen).mono ?_;rintro e w7 ⟨v7,rfl,H7⟩))
  all_goals
   go_wp2_with fail;go_ret;exact⟨v7,rfl,zhd ⟨by rw[HE.o];exact H7.o.1,H4.o.2.1.trans ((MK.ext H6.o).trans H7.o.2)⟩⟩
theorem ygn
  {Z:Nat→Prop}(b:Nat)(v:MV)(p:Img)(s:MS)(W:World)(M:MX TT Z W b v p s)
  (k:Int)(hk:s.stk.length≤4294967296)(hl:s.made.length≤4294967296)(hZ:∀j,W.heap.size≤j→Z j)(s':MS)
  (hs':s'=s.pop.pop.push (yaH (decide (cmpV s.pop.top s.top<0)))):
  Calls Tryz.prog 164 #[.pointer (some ⟨b,0,none⟩),.agg #[.int .i64 9,.int .i64 k]] W (MP Z W b v p (.bool true) s')
  :=by
 obtain⟨w0,hw0⟩:∃w0,w0=W.alloc (.cells #[.int .i64 9,.int .i64 k] 106):=⟨_,rfl⟩;have B0:=zba hw0;have hB:=zha hw0;have PO:=zhd (yag b v p s w0 (M.ext B0));have HX:=zh7 M B0 hB hs' hk hl hZ;clear M B0 hB hs' hk hl hZ;go_enter Tryz.func164,Tryz.ntmps164;go_wp2_with fail;rw[←hw0];clear hw0;refine PO.o.mono ?_;rintro e w1 ⟨v1,⟨ck,cn,cs,la,ln,lc⟩,rfl,H1⟩;have hb1:=(H1.o.2.1.keeps.block W.heap.size (zlt HX.o.2.2.1) (fun e=>by have:=HX.o.1.lt e;omega)).trans HX.o.2.2.1;have d0:=zca hb1 0 rfl;have d1:=zca hb1 1 rfl;have dl:=zlt hb1;have HB:=zhd hb1;clear hb1;have PO2:=zhd (fun(w2:World) (M2:MX TT Z w2 b v1 p s.pop)=>yag b v1 p s.pop w2 M2);go_wp2_with fail;obtain⟨w2,hw2⟩:∃w2,w2=w1.alloc (.cells #[.int .i64 ck,.int .i64 cn,.string cs,.slice la ln lc] 38):=⟨_,rfl⟩;have B2:=zba hw2;have hb2:=zha hw2;rw[←hw2];have H2:=zh5 B2 (H1.o.1.ext B2) (H1.o.2.2.keep (S:=fun _=>False) (zkb B2) (fun _ _ f=>f)) hb2 (B2.block W.heap.size dl|>.trans HB.o);clear hw2 B2 hb2 d0 d1 dl;refine(PO2.o _ H2.o.2.1).mono ?_;rintro e w3 ⟨v2,⟨dk,dn,ds,ma,mn,mc⟩,rfl,H3⟩;have hb3:=(H3.o.2.1.keeps.block w1.heap.size (zlt H2.o.2.2.2.1) (fun e=>by have:=H1.o.1.lt e;omega)).trans H2.o.2.2.2.1
 have hi3:=(H3.o.2.1.keeps.block W.heap.size (zlt H2.o.2.2.2.2) (fun e=>by
  rcases H1.o.2.1.own _ e with h|h
  ·have:=HX.o.1.lt h;omega
  ·have:=zlt HX.o.2.2.1;omega)).trans H2.o.2.2.2.2
 obtain⟨w4,hw4⟩:∃w4,w4=w3.alloc (.cells #[.int .i64 dk,.int .i64 dn,.string ds,.slice ma mn mc] 38):=⟨_,rfl⟩;have B4:=zba hw4;have hb4:=zha hw4;have hc4:=(B4.block w1.heap.size (zlt hb3)).trans hb3;have hi4:=(B4.block W.heap.size (zlt hi3)).trans hi3;have q0:=zca hc4 0 rfl;have q1:=zca hc4 1 rfl;have q2:=zca hc4 2 rfl;have q3:=zca hc4 3 rfl;have r0:=zca hb4 0 rfl;have r1:=zca hb4 1 rfl;have r2:=zca hb4 2 rfl;have r3:=zca hb4 3 rfl;have c0:=zca hi4 0 rfl;have d0:=zca hi3 0 rfl;have x0:=zca hb3 0 rfl;have x1:=zca hb3 1 rfl;have x2:=zca hb3 2 rfl;have x3:=zca hb3 3 rfl;have xl:=zlt hb3;have dl:=zlt hi3;have l4:=zlt hb4;have xl4:=zlt hc4;have dl4:=zlt hi4;have K4:MK b v W v2 w4:=(MK.ext HX.o.2.1).trans (H1.o.2.1.trans ((MK.ext H2.o.1).trans (H3.o.2.1.trans (MK.ext B4))));have H4:=zh4 (H3.o.1.ext B4) K4 ((CF.step H3.o.2.1 H2.o.2.2.1).step (MK.ext B4)) (H3.o.2.2.step (MK.ext B4));have hlen:s.pop.pop.stk.length≤4294967296:=znf (yaQ s) HX.o.2.2.2.2.1;have hE:=HX.o.2.2.2.1;clear hb3 hi3 hb4 hc4 hi4 B4 K4;go_upto_region 22 with(fail);rw[←hw4];clear hw4 d0 x0 x1 x2 x3 xl dl;go_upto_region 27 with(fail)
 have SA:=zhd (ycx (s.pop.top).parts s.pop.top (znc _) s.top ⟨dk,dn,ds,ma,mn,mc⟩ ⟨ck,cn,cs,la,ln,lc⟩ _ _ w4.drew (H4.o.2.2.2.keep (S:=fun _=>False) (zkb ((znv _ _).drew)) (fun _ _ f=>f)) (H4.o.2.2.1.keep (S:=fun _=>False) (zkb ((znv _ _).drew)) (fun _ _ f=>f)));generalize cmpV s.pop.top s.top=z at*;have BO:=zhd (ybg (decide (z<0)));cases hr:decide (z<0)
 all_goals
  rw[hr]at hE BO;have HE:=zhd hE;clear hE
 ·
  go_region_law (first
   |(go_simp;go_at_call 33;refine SA.o.mono ?_;rintro e w5 ⟨rfl,hB5⟩;have H5:=zhd (znw ((znv w4.heap.size w4).drew) hB5);clear hB5)
   |(go_simp;go_at_call 71;refine SA.o.mono ?_;rintro e w5 ⟨rfl,hB5⟩;have H5:=zhd (znw ((znv w4.heap.size w4).drew) hB5);clear hB5)
   |(go_simp;go_at_call 63;refine(BO.o w5).mono ?_;rintro e w6 ⟨rfl,hB6⟩;have H6:=zhd (H5.o.trans (hB6.mono H5.o.size));clear hB6)
   |(go_simp;go_at_call 119;refine(yah b v2 p s.pop.pop w6 (H4.o.1.ext H6.o) (yaH false) 1 _ ⟨#[]⟩ none 0 0 (ya5 _ _ _) hlen).mono ?_;rintro e w7 ⟨v7,rfl,H7⟩))
  all_goals
   go_wp2_with fail;go_ret;exact⟨v7,rfl,zhd ⟨by rw[HE.o];exact H7.o.1,H4.o.2.1.trans ((MK.ext H6.o).trans H7.o.2)⟩⟩
 ·
  go_region_law (first
   |(go_simp;go_at_call 33;refine SA.o.mono ?_;rintro e w5 ⟨rfl,hB5⟩;have H5:=zhd (znw ((znv w4.heap.size w4).drew) hB5);clear hB5)
   |(go_simp;go_at_call 71;refine SA.o.mono ?_;rintro e w5 ⟨rfl,hB5⟩;have H5:=zhd (znw ((znv w4.heap.size w4).drew) hB5);clear hB5)
   |(go_simp;go_at_call 63;refine(BO.o w5).mono ?_;rintro e w6 ⟨rfl,hB6⟩;have H6:=zhd (H5.o.trans (hB6.mono H5.o.size));clear hB6)
   |(go_simp;go_at_call 119;refine(yah b v2 p s.pop.pop w6 (H4.o.1.ext H6.o) (yaH true) 1 _ ⟨#[]⟩ none 0 0 (ya5 _ _ _) hlen).mono ?_;rintro e w7 ⟨v7,rfl,H7⟩))
  all_goals
   go_wp2_with fail;go_ret;exact⟨v7,rfl,zhd ⟨by rw[HE.o];exact H7.o.1,H4.o.2.1.trans ((MK.ext H6.o).trans H7.o.2)⟩⟩
theorem ygq
  {Z:Nat→Prop}(b:Nat)(v:MV)(p:Img)(s:MS)(W:World)(M:MX TT Z W b v p s)
  (k:Int)(hk:s.stk.length≤4294967296)(hl:s.made.length≤4294967296)(hZ:∀j,W.heap.size≤j→Z j)(s':MS)
  (hx:¬s.pop.top.kind=1∨¬s.top.kind=1)(hs':s'=s.pop.pop.tType):
  Calls Tryz.prog 164 #[.pointer (some ⟨b,0,none⟩),.agg #[.int .i64 5,.int .i64 k]] W (MP Z W b v p (.bool true) s')
  :=by
 obtain⟨w0,hw0⟩:∃w0,w0=W.alloc (.cells #[.int .i64 5,.int .i64 k] 106):=⟨_,rfl⟩;have B0:=zba hw0;have hB:=zha hw0;have PO:=zhd (yag b v p s w0 (M.ext B0));have HX:=zh7 M B0 hB hs' hk hl hZ;clear M B0 hB hs' hk hl hZ;go_enter Tryz.func164,Tryz.ntmps164;go_wp2_with fail;rw[←hw0];clear hw0;refine PO.o.mono ?_;rintro e w1 ⟨v1,⟨ck,cn,cs,la,ln,lc⟩,rfl,H1⟩;have hb1:=(H1.o.2.1.keeps.block W.heap.size (zlt HX.o.2.2.1) (fun e=>by have:=HX.o.1.lt e;omega)).trans HX.o.2.2.1;have d0:=zca hb1 0 rfl;have d1:=zca hb1 1 rfl;have dl:=zlt hb1;have HB:=zhd hb1;clear hb1;have PO2:=zhd (fun(w2:World) (M2:MX TT Z w2 b v1 p s.pop)=>yag b v1 p s.pop w2 M2);go_wp2_with fail;obtain⟨w2,hw2⟩:∃w2,w2=w1.alloc (.cells #[.int .i64 ck,.int .i64 cn,.string cs,.slice la ln lc] 38):=⟨_,rfl⟩;have B2:=zba hw2;have hb2:=zha hw2;rw[←hw2];have H2:=zh5 B2 (H1.o.1.ext B2) (H1.o.2.2.keep (S:=fun _=>False) (zkb B2) (fun _ _ f=>f)) hb2 (B2.block W.heap.size dl|>.trans HB.o);clear hw2 B2 hb2 d0 d1 dl;refine(PO2.o _ H2.o.2.1).mono ?_;rintro e w3 ⟨v2,⟨dk,dn,ds,ma,mn,mc⟩,rfl,H3⟩;have hb3:=(H3.o.2.1.keeps.block w1.heap.size (zlt H2.o.2.2.2.1) (fun e=>by have:=H1.o.1.lt e;omega)).trans H2.o.2.2.2.1
 have hi3:=(H3.o.2.1.keeps.block W.heap.size (zlt H2.o.2.2.2.2) (fun e=>by
  rcases H1.o.2.1.own _ e with h|h
  ·have:=HX.o.1.lt h;omega
  ·have:=zlt HX.o.2.2.1;omega)).trans H2.o.2.2.2.2
 obtain⟨w4,hw4⟩:∃w4,w4=w3.alloc (.cells #[.int .i64 dk,.int .i64 dn,.string ds,.slice ma mn mc] 38):=⟨_,rfl⟩;have B4:=zba hw4;have hb4:=zha hw4;have hc4:=(B4.block w1.heap.size (zlt hb3)).trans hb3;have hi4:=(B4.block W.heap.size (zlt hi3)).trans hi3;have q0:=zca hc4 0 rfl;have q1:=zca hc4 1 rfl;have q2:=zca hc4 2 rfl;have q3:=zca hc4 3 rfl;have r0:=zca hb4 0 rfl;have r1:=zca hb4 1 rfl;have r2:=zca hb4 2 rfl;have r3:=zca hb4 3 rfl;have c0:=zca hi4 0 rfl;have d0:=zca hi3 0 rfl;have x0:=zca hb3 0 rfl;have x1:=zca hb3 1 rfl;have x2:=zca hb3 2 rfl;have x3:=zca hb3 3 rfl;have xl:=zlt hb3;have dl:=zlt hi3;have l4:=zlt hb4;have xl4:=zlt hc4;have dl4:=zlt hi4;have K4:MK b v W v2 w4:=(MK.ext HX.o.2.1).trans (H1.o.2.1.trans ((MK.ext H2.o.1).trans (H3.o.2.1.trans (MK.ext B4))));have H4:=zh4 (H3.o.1.ext B4) K4 ((CF.step H3.o.2.1 H2.o.2.2.1).step (MK.ext B4)) (H3.o.2.2.step (MK.ext B4));have hlen:s.pop.pop.stk.length≤4294967296:=znf (yaQ s) HX.o.2.2.2.2.1;have hE:=HX.o.2.2.2.1;clear hb3 hi3 hb4 hc4 hi4 B4 K4;go_upto_region 22 with(fail);rw[←hw4];clear hw4 d0 x0 x1 x2 x3 xl dl;have hkd:dk=s.pop.top.kind:=H4.o.2.2.2.kind;have hkc:ck=s.top.kind:=H4.o.2.2.1.kind
 by_cases h1:s.pop.top.kind=1
 ·have n1:(dk==1)=true:=by rw[beq_iff_eq,hkd];exact h1
  have n2:(ck==1)=false:=by rw[zna,hkc];exact hx.resolve_left (fun h=>h h1)
  have n3:(dk !=1)=false:=by rw[bne,n1];rfl
  have n4:(ck !=1)=true:=by rw[bne,n2];rfl
  clear hkd hkc h1 hx;have FL:=zhd (yas b v2 p s.pop.pop w4 H4.o.1 ⟨#[116,121,112,101]⟩ (by decide) HX.o.2.2.2.2.2.1 (yac HX.o.2.2.2.2.2.2 H4.o.2.1.keeps.size) s' (hE.symm));go_wp2_with fail;refine FL.o.mono ?_;rintro e w5 ⟨v5,rfl,H5⟩;go_wp2_with fail;go_ret;exact⟨v5,rfl,zhd ⟨H5.o.1,H4.o.2.1.trans H5.o.2⟩⟩
 ·have n1:(dk==1)=false:=by rw[zna,hkd];exact h1
  have n3:(dk !=1)=true:=by rw[bne,n1];rfl
  clear hkd hkc h1 hx;have FL:=zhd (yas b v2 p s.pop.pop w4 H4.o.1 ⟨#[116,121,112,101]⟩ (by decide) HX.o.2.2.2.2.2.1 (yac HX.o.2.2.2.2.2.2 H4.o.2.1.keeps.size) s' (hE.symm));go_wp2_with fail;refine FL.o.mono ?_;rintro e w5 ⟨v5,rfl,H5⟩;go_wp2_with fail;go_ret;exact⟨v5,rfl,zhd ⟨H5.o.1,H4.o.2.1.trans H5.o.2⟩⟩
theorem yii
  {Z:Nat→Prop}(b:Nat)(v:MV)(p:Img)(s:MS)(W:World)(M:MX TT Z W b v p s)
  (k:Int)(hk:s.stk.length≤4294967296)(hl:s.made.length≤4294967296)(hZ:∀j,W.heap.size≤j→Z j)(s':MS)
  (ha:s.pop.top.kind=1)(hb:s.top.kind=1)(hs':s'=s.pop.pop.push (ybn (wrap64 (s.pop.top.num+s.top.num)))):
  Calls Tryz.prog 164 #[.pointer (some ⟨b,0,none⟩),.agg #[.int .i64 5,.int .i64 k]] W (MP Z W b v p (.bool true) s')
  :=by
 obtain⟨w0,hw0⟩:∃w0,w0=W.alloc (.cells #[.int .i64 5,.int .i64 k] 106):=⟨_,rfl⟩;have B0:=zba hw0;have hB:=zha hw0;have PO:=zhd (yag b v p s w0 (M.ext B0));have HX:=zh7 M B0 hB hs' hk hl hZ;clear M B0 hB hs' hk hl hZ;go_enter Tryz.func164,Tryz.ntmps164;go_wp2_with fail;rw[←hw0];clear hw0;refine PO.o.mono ?_;rintro e w1 ⟨v1,⟨ck,cn,cs,la,ln,lc⟩,rfl,H1⟩;have hb1:=(H1.o.2.1.keeps.block W.heap.size (zlt HX.o.2.2.1) (fun e=>by have:=HX.o.1.lt e;omega)).trans HX.o.2.2.1;have d0:=zca hb1 0 rfl;have d1:=zca hb1 1 rfl;have dl:=zlt hb1;have HB:=zhd hb1;clear hb1;have PO2:=zhd (fun(w2:World) (M2:MX TT Z w2 b v1 p s.pop)=>yag b v1 p s.pop w2 M2);go_wp2_with fail;obtain⟨w2,hw2⟩:∃w2,w2=w1.alloc (.cells #[.int .i64 ck,.int .i64 cn,.string cs,.slice la ln lc] 38):=⟨_,rfl⟩;have B2:=zba hw2;have hb2:=zha hw2;rw[←hw2];have H2:=zh5 B2 (H1.o.1.ext B2) (H1.o.2.2.keep (S:=fun _=>False) (zkb B2) (fun _ _ f=>f)) hb2 (B2.block W.heap.size dl|>.trans HB.o);clear hw2 B2 hb2 d0 d1 dl;refine(PO2.o _ H2.o.2.1).mono ?_;rintro e w3 ⟨v2,⟨dk,dn,ds,ma,mn,mc⟩,rfl,H3⟩;have hb3:=(H3.o.2.1.keeps.block w1.heap.size (zlt H2.o.2.2.2.1) (fun e=>by have:=H1.o.1.lt e;omega)).trans H2.o.2.2.2.1
 have hi3:=(H3.o.2.1.keeps.block W.heap.size (zlt H2.o.2.2.2.2) (fun e=>by
  rcases H1.o.2.1.own _ e with h|h
  ·have:=HX.o.1.lt h;omega
  ·have:=zlt HX.o.2.2.1;omega)).trans H2.o.2.2.2.2
 obtain⟨w4,hw4⟩:∃w4,w4=w3.alloc (.cells #[.int .i64 dk,.int .i64 dn,.string ds,.slice ma mn mc] 38):=⟨_,rfl⟩;have B4:=zba hw4;have hb4:=zha hw4;have hc4:=(B4.block w1.heap.size (zlt hb3)).trans hb3;have hi4:=(B4.block W.heap.size (zlt hi3)).trans hi3;have q0:=zca hc4 0 rfl;have q1:=zca hc4 1 rfl;have q2:=zca hc4 2 rfl;have q3:=zca hc4 3 rfl;have r0:=zca hb4 0 rfl;have r1:=zca hb4 1 rfl;have r2:=zca hb4 2 rfl;have r3:=zca hb4 3 rfl;have c0:=zca hi4 0 rfl;have d0:=zca hi3 0 rfl;have x0:=zca hb3 0 rfl;have x1:=zca hb3 1 rfl;have x2:=zca hb3 2 rfl;have x3:=zca hb3 3 rfl;have xl:=zlt hb3;have dl:=zlt hi3;have l4:=zlt hb4;have xl4:=zlt hc4;have dl4:=zlt hi4;have K4:MK b v W v2 w4:=(MK.ext HX.o.2.1).trans (H1.o.2.1.trans ((MK.ext H2.o.1).trans (H3.o.2.1.trans (MK.ext B4))));have H4:=zh4 (H3.o.1.ext B4) K4 ((CF.step H3.o.2.1 H2.o.2.2.1).step (MK.ext B4)) (H3.o.2.2.step (MK.ext B4));have hlen:s.pop.pop.stk.length≤4294967296:=znf (yaQ s) HX.o.2.2.2.2.1;have hE:=HX.o.2.2.2.1;clear hb3 hi3 hb4 hc4 hi4 B4 K4;go_upto_region 22 with(fail);rw[←hw4];clear hw4 d0 x0 x1 x2 x3 xl dl;obtain rfl:dk=1:=H4.o.2.2.2.kind.trans ha;obtain rfl:ck=1:=H4.o.2.2.1.kind.trans hb
 have hnd:dn=s.pop.top.num:=H4.o.2.2.2.n;have hnc:cn=s.top.num:=H4.o.2.2.1.n;rw[←hnd,←hnc]at hE;have HE:=zhd (show s'=s.pop.pop.push (ybn (IntKind.i64.wrap (dn+cn))) by rw[hE,IntKind.wrap_i64];unfold wrap64;rfl);clear hnd hnc ha hb hE;go_upto_region 48 with(fail);go_region_law (first
  |(go_simp;go_at_call 106;refine(ya6 _ _).mono ?_;rintro e w6 ⟨rfl,hB6⟩;have H6:=zhd (znw ((znv w4.heap.size w4).drew) hB6);clear hB6)
  |(go_simp;go_at_call 119;refine(yah b v2 p s.pop.pop w6 (H4.o.1.ext H6.o) (ybn (IntKind.i64.wrap (dn+cn))) 1 _ ⟨#[]⟩ none 0 0 (yco _ _ _) hlen).mono ?_;rintro e w7 ⟨v7,rfl,H7⟩))
 all_goals
  go_wp2_with fail;go_ret;exact⟨v7,rfl,zhd ⟨by rw[HE.o];exact H7.o.1,H4.o.2.1.trans ((MK.ext H6.o).trans H7.o.2)⟩⟩
theorem ygp
  {Z:Nat→Prop}(b:Nat)(v:MV)(p:Img)(s:MS)(W:World)(M:MX TT Z W b v p s)
  (k:Int)(hk:s.stk.length≤4294967296)(hl:s.made.length≤4294967296)(hZ:∀j,W.heap.size≤j→Z j)(s':MS)
  (hx:¬s.pop.top.kind=1∨¬s.top.kind=1)(hs':s'=s.pop.pop.tType):
  Calls Tryz.prog 164 #[.pointer (some ⟨b,0,none⟩),.agg #[.int .i64 6,.int .i64 k]] W (MP Z W b v p (.bool true) s')
  :=by
 obtain⟨w0,hw0⟩:∃w0,w0=W.alloc (.cells #[.int .i64 6,.int .i64 k] 106):=⟨_,rfl⟩;have B0:=zba hw0;have hB:=zha hw0;have PO:=zhd (yag b v p s w0 (M.ext B0));have HX:=zh7 M B0 hB hs' hk hl hZ;clear M B0 hB hs' hk hl hZ;go_enter Tryz.func164,Tryz.ntmps164;go_wp2_with fail;rw[←hw0];clear hw0;refine PO.o.mono ?_;rintro e w1 ⟨v1,⟨ck,cn,cs,la,ln,lc⟩,rfl,H1⟩;have hb1:=(H1.o.2.1.keeps.block W.heap.size (zlt HX.o.2.2.1) (fun e=>by have:=HX.o.1.lt e;omega)).trans HX.o.2.2.1;have d0:=zca hb1 0 rfl;have d1:=zca hb1 1 rfl;have dl:=zlt hb1;have HB:=zhd hb1;clear hb1;have PO2:=zhd (fun(w2:World) (M2:MX TT Z w2 b v1 p s.pop)=>yag b v1 p s.pop w2 M2);go_wp2_with fail;obtain⟨w2,hw2⟩:∃w2,w2=w1.alloc (.cells #[.int .i64 ck,.int .i64 cn,.string cs,.slice la ln lc] 38):=⟨_,rfl⟩;have B2:=zba hw2;have hb2:=zha hw2;rw[←hw2];have H2:=zh5 B2 (H1.o.1.ext B2) (H1.o.2.2.keep (S:=fun _=>False) (zkb B2) (fun _ _ f=>f)) hb2 (B2.block W.heap.size dl|>.trans HB.o);clear hw2 B2 hb2 d0 d1 dl;refine(PO2.o _ H2.o.2.1).mono ?_;rintro e w3 ⟨v2,⟨dk,dn,ds,ma,mn,mc⟩,rfl,H3⟩;have hb3:=(H3.o.2.1.keeps.block w1.heap.size (zlt H2.o.2.2.2.1) (fun e=>by have:=H1.o.1.lt e;omega)).trans H2.o.2.2.2.1
 have hi3:=(H3.o.2.1.keeps.block W.heap.size (zlt H2.o.2.2.2.2) (fun e=>by
  rcases H1.o.2.1.own _ e with h|h
  ·have:=HX.o.1.lt h;omega
  ·have:=zlt HX.o.2.2.1;omega)).trans H2.o.2.2.2.2
 obtain⟨w4,hw4⟩:∃w4,w4=w3.alloc (.cells #[.int .i64 dk,.int .i64 dn,.string ds,.slice ma mn mc] 38):=⟨_,rfl⟩;have B4:=zba hw4;have hb4:=zha hw4;have hc4:=(B4.block w1.heap.size (zlt hb3)).trans hb3;have hi4:=(B4.block W.heap.size (zlt hi3)).trans hi3;have q0:=zca hc4 0 rfl;have q1:=zca hc4 1 rfl;have q2:=zca hc4 2 rfl;have q3:=zca hc4 3 rfl;have r0:=zca hb4 0 rfl;have r1:=zca hb4 1 rfl;have r2:=zca hb4 2 rfl;have r3:=zca hb4 3 rfl;have c0:=zca hi4 0 rfl;have d0:=zca hi3 0 rfl;have x0:=zca hb3 0 rfl;have x1:=zca hb3 1 rfl;have x2:=zca hb3 2 rfl;have x3:=zca hb3 3 rfl;have xl:=zlt hb3;have dl:=zlt hi3;have l4:=zlt hb4;have xl4:=zlt hc4;have dl4:=zlt hi4;have K4:MK b v W v2 w4:=(MK.ext HX.o.2.1).trans (H1.o.2.1.trans ((MK.ext H2.o.1).trans (H3.o.2.1.trans (MK.ext B4))));have H4:=zh4 (H3.o.1.ext B4) K4 ((CF.step H3.o.2.1 H2.o.2.2.1).step (MK.ext B4)) (H3.o.2.2.step (MK.ext B4));have hlen:s.pop.pop.stk.length≤4294967296:=znf (yaQ s) HX.o.2.2.2.2.1;have hE:=HX.o.2.2.2.1;clear hb3 hi3 hb4 hc4 hi4 B4 K4;go_upto_region 22 with(fail);rw[←hw4];clear hw4 d0 x0 x1 x2 x3 xl dl;have hkd:dk=s.pop.top.kind:=H4.o.2.2.2.kind;have hkc:ck=s.top.kind:=H4.o.2.2.1.kind
 by_cases h1:s.pop.top.kind=1
 ·have n1:(dk==1)=true:=by rw[beq_iff_eq,hkd];exact h1
  have n2:(ck==1)=false:=by rw[zna,hkc];exact hx.resolve_left (fun h=>h h1)
  have n3:(dk !=1)=false:=by rw[bne,n1];rfl
  have n4:(ck !=1)=true:=by rw[bne,n2];rfl
  clear hkd hkc h1 hx;have FL:=zhd (yas b v2 p s.pop.pop w4 H4.o.1 ⟨#[116,121,112,101]⟩ (by decide) HX.o.2.2.2.2.2.1 (yac HX.o.2.2.2.2.2.2 H4.o.2.1.keeps.size) s' (hE.symm));go_wp2_with fail;refine FL.o.mono ?_;rintro e w5 ⟨v5,rfl,H5⟩;go_wp2_with fail;go_ret;exact⟨v5,rfl,zhd ⟨H5.o.1,H4.o.2.1.trans H5.o.2⟩⟩
 ·have n1:(dk==1)=false:=by rw[zna,hkd];exact h1
  have n3:(dk !=1)=true:=by rw[bne,n1];rfl
  clear hkd hkc h1 hx;have FL:=zhd (yas b v2 p s.pop.pop w4 H4.o.1 ⟨#[116,121,112,101]⟩ (by decide) HX.o.2.2.2.2.2.1 (yac HX.o.2.2.2.2.2.2 H4.o.2.1.keeps.size) s' (hE.symm));go_wp2_with fail;refine FL.o.mono ?_;rintro e w5 ⟨v5,rfl,H5⟩;go_wp2_with fail;go_ret;exact⟨v5,rfl,zhd ⟨H5.o.1,H4.o.2.1.trans H5.o.2⟩⟩
theorem yih
  {Z:Nat→Prop}(b:Nat)(v:MV)(p:Img)(s:MS)(W:World)(M:MX TT Z W b v p s)
  (k:Int)(hk:s.stk.length≤4294967296)(hl:s.made.length≤4294967296)(hZ:∀j,W.heap.size≤j→Z j)(s':MS)
  (ha:s.pop.top.kind=1)(hb:s.top.kind=1)(hs':s'=s.pop.pop.push (ybn (wrap64 (s.pop.top.num - s.top.num)))):
  Calls Tryz.prog 164 #[.pointer (some ⟨b,0,none⟩),.agg #[.int .i64 6,.int .i64 k]] W (MP Z W b v p (.bool true) s')
  :=by
 obtain⟨w0,hw0⟩:∃w0,w0=W.alloc (.cells #[.int .i64 6,.int .i64 k] 106):=⟨_,rfl⟩;have B0:=zba hw0;have hB:=zha hw0;have PO:=zhd (yag b v p s w0 (M.ext B0));have HX:=zh7 M B0 hB hs' hk hl hZ;clear M B0 hB hs' hk hl hZ;go_enter Tryz.func164,Tryz.ntmps164;go_wp2_with fail;rw[←hw0];clear hw0;refine PO.o.mono ?_;rintro e w1 ⟨v1,⟨ck,cn,cs,la,ln,lc⟩,rfl,H1⟩;have hb1:=(H1.o.2.1.keeps.block W.heap.size (zlt HX.o.2.2.1) (fun e=>by have:=HX.o.1.lt e;omega)).trans HX.o.2.2.1;have d0:=zca hb1 0 rfl;have d1:=zca hb1 1 rfl;have dl:=zlt hb1;have HB:=zhd hb1;clear hb1;have PO2:=zhd (fun(w2:World) (M2:MX TT Z w2 b v1 p s.pop)=>yag b v1 p s.pop w2 M2);go_wp2_with fail;obtain⟨w2,hw2⟩:∃w2,w2=w1.alloc (.cells #[.int .i64 ck,.int .i64 cn,.string cs,.slice la ln lc] 38):=⟨_,rfl⟩;have B2:=zba hw2;have hb2:=zha hw2;rw[←hw2];have H2:=zh5 B2 (H1.o.1.ext B2) (H1.o.2.2.keep (S:=fun _=>False) (zkb B2) (fun _ _ f=>f)) hb2 (B2.block W.heap.size dl|>.trans HB.o);clear hw2 B2 hb2 d0 d1 dl;refine(PO2.o _ H2.o.2.1).mono ?_;rintro e w3 ⟨v2,⟨dk,dn,ds,ma,mn,mc⟩,rfl,H3⟩;have hb3:=(H3.o.2.1.keeps.block w1.heap.size (zlt H2.o.2.2.2.1) (fun e=>by have:=H1.o.1.lt e;omega)).trans H2.o.2.2.2.1
 have hi3:=(H3.o.2.1.keeps.block W.heap.size (zlt H2.o.2.2.2.2) (fun e=>by
  rcases H1.o.2.1.own _ e with h|h
  ·have:=HX.o.1.lt h;omega
  ·have:=zlt HX.o.2.2.1;omega)).trans H2.o.2.2.2.2
 obtain⟨w4,hw4⟩:∃w4,w4=w3.alloc (.cells #[.int .i64 dk,.int .i64 dn,.string ds,.slice ma mn mc] 38):=⟨_,rfl⟩;have B4:=zba hw4;have hb4:=zha hw4;have hc4:=(B4.block w1.heap.size (zlt hb3)).trans hb3;have hi4:=(B4.block W.heap.size (zlt hi3)).trans hi3;have q0:=zca hc4 0 rfl;have q1:=zca hc4 1 rfl;have q2:=zca hc4 2 rfl;have q3:=zca hc4 3 rfl;have r0:=zca hb4 0 rfl;have r1:=zca hb4 1 rfl;have r2:=zca hb4 2 rfl;have r3:=zca hb4 3 rfl;have c0:=zca hi4 0 rfl;have d0:=zca hi3 0 rfl;have x0:=zca hb3 0 rfl;have x1:=zca hb3 1 rfl;have x2:=zca hb3 2 rfl;have x3:=zca hb3 3 rfl;have xl:=zlt hb3;have dl:=zlt hi3;have l4:=zlt hb4;have xl4:=zlt hc4;have dl4:=zlt hi4;have K4:MK b v W v2 w4:=(MK.ext HX.o.2.1).trans (H1.o.2.1.trans ((MK.ext H2.o.1).trans (H3.o.2.1.trans (MK.ext B4))));have H4:=zh4 (H3.o.1.ext B4) K4 ((CF.step H3.o.2.1 H2.o.2.2.1).step (MK.ext B4)) (H3.o.2.2.step (MK.ext B4));have hlen:s.pop.pop.stk.length≤4294967296:=znf (yaQ s) HX.o.2.2.2.2.1;have hE:=HX.o.2.2.2.1;clear hb3 hi3 hb4 hc4 hi4 B4 K4;go_upto_region 22 with(fail);rw[←hw4];clear hw4 d0 x0 x1 x2 x3 xl dl;obtain rfl:dk=1:=H4.o.2.2.2.kind.trans ha;obtain rfl:ck=1:=H4.o.2.2.1.kind.trans hb
 have hnd:dn=s.pop.top.num:=H4.o.2.2.2.n;have hnc:cn=s.top.num:=H4.o.2.2.1.n;rw[←hnd,←hnc]at hE;have HE:=zhd (show s'=s.pop.pop.push (ybn (IntKind.i64.wrap (dn - cn))) by rw[hE,IntKind.wrap_i64];unfold wrap64;rfl);clear hnd hnc ha hb hE;go_upto_region 50 with(fail);go_region_law (first
  |(go_simp;go_at_call 106;refine(ya6 _ _).mono ?_;rintro e w6 ⟨rfl,hB6⟩;have H6:=zhd (znw ((znv w4.heap.size w4).drew) hB6);clear hB6)
  |(go_simp;go_at_call 119;refine(yah b v2 p s.pop.pop w6 (H4.o.1.ext H6.o) (ybn (IntKind.i64.wrap (dn - cn))) 1 _ ⟨#[]⟩ none 0 0 (yco _ _ _) hlen).mono ?_;rintro e w7 ⟨v7,rfl,H7⟩))
 all_goals
  go_wp2_with fail;go_ret;exact⟨v7,rfl,zhd ⟨by rw[HE.o];exact H7.o.1,H4.o.2.1.trans ((MK.ext H6.o).trans H7.o.2)⟩⟩
theorem ygo
  {Z:Nat→Prop}(b:Nat)(v:MV)(p:Img)(s:MS)(W:World)(M:MX TT Z W b v p s)
  (k:Int)(hk:s.stk.length≤4294967296)(hl:s.made.length≤4294967296)(hZ:∀j,W.heap.size≤j→Z j)(s':MS)
  (hx:¬s.pop.top.kind=1∨¬s.top.kind=1)(hs':s'=s.pop.pop.tType):
  Calls Tryz.prog 164 #[.pointer (some ⟨b,0,none⟩),.agg #[.int .i64 7,.int .i64 k]] W (MP Z W b v p (.bool true) s')
  :=by
 obtain⟨w0,hw0⟩:∃w0,w0=W.alloc (.cells #[.int .i64 7,.int .i64 k] 106):=⟨_,rfl⟩;have B0:=zba hw0;have hB:=zha hw0;have PO:=zhd (yag b v p s w0 (M.ext B0));have HX:=zh7 M B0 hB hs' hk hl hZ;clear M B0 hB hs' hk hl hZ;go_enter Tryz.func164,Tryz.ntmps164;go_wp2_with fail;rw[←hw0];clear hw0;refine PO.o.mono ?_;rintro e w1 ⟨v1,⟨ck,cn,cs,la,ln,lc⟩,rfl,H1⟩;have hb1:=(H1.o.2.1.keeps.block W.heap.size (zlt HX.o.2.2.1) (fun e=>by have:=HX.o.1.lt e;omega)).trans HX.o.2.2.1;have d0:=zca hb1 0 rfl;have d1:=zca hb1 1 rfl;have dl:=zlt hb1;have HB:=zhd hb1;clear hb1;have PO2:=zhd (fun(w2:World) (M2:MX TT Z w2 b v1 p s.pop)=>yag b v1 p s.pop w2 M2);go_wp2_with fail;obtain⟨w2,hw2⟩:∃w2,w2=w1.alloc (.cells #[.int .i64 ck,.int .i64 cn,.string cs,.slice la ln lc] 38):=⟨_,rfl⟩;have B2:=zba hw2;have hb2:=zha hw2;rw[←hw2];have H2:=zh5 B2 (H1.o.1.ext B2) (H1.o.2.2.keep (S:=fun _=>False) (zkb B2) (fun _ _ f=>f)) hb2 (B2.block W.heap.size dl|>.trans HB.o);clear hw2 B2 hb2 d0 d1 dl;refine(PO2.o _ H2.o.2.1).mono ?_;rintro e w3 ⟨v2,⟨dk,dn,ds,ma,mn,mc⟩,rfl,H3⟩;have hb3:=(H3.o.2.1.keeps.block w1.heap.size (zlt H2.o.2.2.2.1) (fun e=>by have:=H1.o.1.lt e;omega)).trans H2.o.2.2.2.1
 have hi3:=(H3.o.2.1.keeps.block W.heap.size (zlt H2.o.2.2.2.2) (fun e=>by
  rcases H1.o.2.1.own _ e with h|h
  ·have:=HX.o.1.lt h;omega
  ·have:=zlt HX.o.2.2.1;omega)).trans H2.o.2.2.2.2
 obtain⟨w4,hw4⟩:∃w4,w4=w3.alloc (.cells #[.int .i64 dk,.int .i64 dn,.string ds,.slice ma mn mc] 38):=⟨_,rfl⟩;have B4:=zba hw4;have hb4:=zha hw4;have hc4:=(B4.block w1.heap.size (zlt hb3)).trans hb3;have hi4:=(B4.block W.heap.size (zlt hi3)).trans hi3;have q0:=zca hc4 0 rfl;have q1:=zca hc4 1 rfl;have q2:=zca hc4 2 rfl;have q3:=zca hc4 3 rfl;have r0:=zca hb4 0 rfl;have r1:=zca hb4 1 rfl;have r2:=zca hb4 2 rfl;have r3:=zca hb4 3 rfl;have c0:=zca hi4 0 rfl;have d0:=zca hi3 0 rfl;have x0:=zca hb3 0 rfl;have x1:=zca hb3 1 rfl;have x2:=zca hb3 2 rfl;have x3:=zca hb3 3 rfl;have xl:=zlt hb3;have dl:=zlt hi3;have l4:=zlt hb4;have xl4:=zlt hc4;have dl4:=zlt hi4;have K4:MK b v W v2 w4:=(MK.ext HX.o.2.1).trans (H1.o.2.1.trans ((MK.ext H2.o.1).trans (H3.o.2.1.trans (MK.ext B4))));have H4:=zh4 (H3.o.1.ext B4) K4 ((CF.step H3.o.2.1 H2.o.2.2.1).step (MK.ext B4)) (H3.o.2.2.step (MK.ext B4));have hlen:s.pop.pop.stk.length≤4294967296:=znf (yaQ s) HX.o.2.2.2.2.1;have hE:=HX.o.2.2.2.1;clear hb3 hi3 hb4 hc4 hi4 B4 K4;go_upto_region 22 with(fail);rw[←hw4];clear hw4 d0 x0 x1 x2 x3 xl dl;have hkd:dk=s.pop.top.kind:=H4.o.2.2.2.kind;have hkc:ck=s.top.kind:=H4.o.2.2.1.kind
 by_cases h1:s.pop.top.kind=1
 ·have n1:(dk==1)=true:=by rw[beq_iff_eq,hkd];exact h1
  have n2:(ck==1)=false:=by rw[zna,hkc];exact hx.resolve_left (fun h=>h h1)
  have n3:(dk !=1)=false:=by rw[bne,n1];rfl
  have n4:(ck !=1)=true:=by rw[bne,n2];rfl
  clear hkd hkc h1 hx;have FL:=zhd (yas b v2 p s.pop.pop w4 H4.o.1 ⟨#[116,121,112,101]⟩ (by decide) HX.o.2.2.2.2.2.1 (yac HX.o.2.2.2.2.2.2 H4.o.2.1.keeps.size) s' (hE.symm));go_wp2_with fail;refine FL.o.mono ?_;rintro e w5 ⟨v5,rfl,H5⟩;go_wp2_with fail;go_ret;exact⟨v5,rfl,zhd ⟨H5.o.1,H4.o.2.1.trans H5.o.2⟩⟩
 ·have n1:(dk==1)=false:=by rw[zna,hkd];exact h1
  have n3:(dk !=1)=true:=by rw[bne,n1];rfl
  clear hkd hkc h1 hx;have FL:=zhd (yas b v2 p s.pop.pop w4 H4.o.1 ⟨#[116,121,112,101]⟩ (by decide) HX.o.2.2.2.2.2.1 (yac HX.o.2.2.2.2.2.2 H4.o.2.1.keeps.size) s' (hE.symm));go_wp2_with fail;refine FL.o.mono ?_;rintro e w5 ⟨v5,rfl,H5⟩;go_wp2_with fail;go_ret;exact⟨v5,rfl,zhd ⟨H5.o.1,H4.o.2.1.trans H5.o.2⟩⟩
theorem yig
  {Z:Nat→Prop}(b:Nat)(v:MV)(p:Img)(s:MS)(W:World)(M:MX TT Z W b v p s)
  (k:Int)(hk:s.stk.length≤4294967296)(hl:s.made.length≤4294967296)(hZ:∀j,W.heap.size≤j→Z j)(s':MS)
  (ha:s.pop.top.kind=1)(hb:s.top.kind=1)(hs':s'=s.pop.pop.push (ybn (wrap64 (s.pop.top.num*s.top.num)))):
  Calls Tryz.prog 164 #[.pointer (some ⟨b,0,none⟩),.agg #[.int .i64 7,.int .i64 k]] W (MP Z W b v p (.bool true) s')
  :=by
 obtain⟨w0,hw0⟩:∃w0,w0=W.alloc (.cells #[.int .i64 7,.int .i64 k] 106):=⟨_,rfl⟩;have B0:=zba hw0;have hB:=zha hw0;have PO:=zhd (yag b v p s w0 (M.ext B0));have HX:=zh7 M B0 hB hs' hk hl hZ;clear M B0 hB hs' hk hl hZ;go_enter Tryz.func164,Tryz.ntmps164;go_wp2_with fail;rw[←hw0];clear hw0;refine PO.o.mono ?_;rintro e w1 ⟨v1,⟨ck,cn,cs,la,ln,lc⟩,rfl,H1⟩;have hb1:=(H1.o.2.1.keeps.block W.heap.size (zlt HX.o.2.2.1) (fun e=>by have:=HX.o.1.lt e;omega)).trans HX.o.2.2.1;have d0:=zca hb1 0 rfl;have d1:=zca hb1 1 rfl;have dl:=zlt hb1;have HB:=zhd hb1;clear hb1;have PO2:=zhd (fun(w2:World) (M2:MX TT Z w2 b v1 p s.pop)=>yag b v1 p s.pop w2 M2);go_wp2_with fail;obtain⟨w2,hw2⟩:∃w2,w2=w1.alloc (.cells #[.int .i64 ck,.int .i64 cn,.string cs,.slice la ln lc] 38):=⟨_,rfl⟩;have B2:=zba hw2;have hb2:=zha hw2;rw[←hw2];have H2:=zh5 B2 (H1.o.1.ext B2) (H1.o.2.2.keep (S:=fun _=>False) (zkb B2) (fun _ _ f=>f)) hb2 (B2.block W.heap.size dl|>.trans HB.o);clear hw2 B2 hb2 d0 d1 dl;refine(PO2.o _ H2.o.2.1).mono ?_;rintro e w3 ⟨v2,⟨dk,dn,ds,ma,mn,mc⟩,rfl,H3⟩;have hb3:=(H3.o.2.1.keeps.block w1.heap.size (zlt H2.o.2.2.2.1) (fun e=>by have:=H1.o.1.lt e;omega)).trans H2.o.2.2.2.1
 have hi3:=(H3.o.2.1.keeps.block W.heap.size (zlt H2.o.2.2.2.2) (fun e=>by
  rcases H1.o.2.1.own _ e with h|h
  ·have:=HX.o.1.lt h;omega
  ·have:=zlt HX.o.2.2.1;omega)).trans H2.o.2.2.2.2
 obtain⟨w4,hw4⟩:∃w4,w4=w3.alloc (.cells #[.int .i64 dk,.int .i64 dn,.string ds,.slice ma mn mc] 38):=⟨_,rfl⟩;have B4:=zba hw4;have hb4:=zha hw4;have hc4:=(B4.block w1.heap.size (zlt hb3)).trans hb3;have hi4:=(B4.block W.heap.size (zlt hi3)).trans hi3;have q0:=zca hc4 0 rfl;have q1:=zca hc4 1 rfl;have q2:=zca hc4 2 rfl;have q3:=zca hc4 3 rfl;have r0:=zca hb4 0 rfl;have r1:=zca hb4 1 rfl;have r2:=zca hb4 2 rfl;have r3:=zca hb4 3 rfl;have c0:=zca hi4 0 rfl;have d0:=zca hi3 0 rfl;have x0:=zca hb3 0 rfl;have x1:=zca hb3 1 rfl;have x2:=zca hb3 2 rfl;have x3:=zca hb3 3 rfl;have xl:=zlt hb3;have dl:=zlt hi3;have l4:=zlt hb4;have xl4:=zlt hc4;have dl4:=zlt hi4;have K4:MK b v W v2 w4:=(MK.ext HX.o.2.1).trans (H1.o.2.1.trans ((MK.ext H2.o.1).trans (H3.o.2.1.trans (MK.ext B4))));have H4:=zh4 (H3.o.1.ext B4) K4 ((CF.step H3.o.2.1 H2.o.2.2.1).step (MK.ext B4)) (H3.o.2.2.step (MK.ext B4));have hlen:s.pop.pop.stk.length≤4294967296:=znf (yaQ s) HX.o.2.2.2.2.1;have hE:=HX.o.2.2.2.1;clear hb3 hi3 hb4 hc4 hi4 B4 K4;go_upto_region 22 with(fail);rw[←hw4];clear hw4 d0 x0 x1 x2 x3 xl dl;obtain rfl:dk=1:=H4.o.2.2.2.kind.trans ha;obtain rfl:ck=1:=H4.o.2.2.1.kind.trans hb
 have hnd:dn=s.pop.top.num:=H4.o.2.2.2.n;have hnc:cn=s.top.num:=H4.o.2.2.1.n;rw[←hnd,←hnc]at hE;have HE:=zhd (show s'=s.pop.pop.push (ybn (IntKind.i64.wrap (dn*cn))) by rw[hE,IntKind.wrap_i64];unfold wrap64;rfl);clear hnd hnc ha hb hE;go_upto_region 46 with(fail);go_region_law (first
  |(go_simp;go_at_call 106;refine(ya6 _ _).mono ?_;rintro e w6 ⟨rfl,hB6⟩;have H6:=zhd (znw ((znv w4.heap.size w4).drew) hB6);clear hB6)
  |(go_simp;go_at_call 119;refine(yah b v2 p s.pop.pop w6 (H4.o.1.ext H6.o) (ybn (IntKind.i64.wrap (dn*cn))) 1 _ ⟨#[]⟩ none 0 0 (yco _ _ _) hlen).mono ?_;rintro e w7 ⟨v7,rfl,H7⟩))
 all_goals
  go_wp2_with fail;go_ret;exact⟨v7,rfl,zhd ⟨by rw[HE.o];exact H7.o.1,H4.o.2.1.trans ((MK.ext H6.o).trans H7.o.2)⟩⟩
end Go.Proofs.YtpagmlndgblhhaaGreatDoor
