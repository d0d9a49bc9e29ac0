/- Parts of the proof: what the functions and the plain laws give that later parts lean on. Conditions: none beyond those that each theorem names. -/
import Derived.StillTailTactics
import Derived.Test.YtpagmlndgblhhaaGreatDoorR17
set_option maxRecDepth 100000
set_option maxHeartbeats 8000000
namespace Go.Proofs.YtpagmlndgblhhaaGreatDoor
open Go.RowKit Go.Own Go.Own.MapTy Go.Va Go.Sort
open Go.Own.Cells (sz enc)
theorem findT_some {id:Int}:∀{l:List Th} {i:Nat},yat id l=some i→∃x,l[i]? =some x
 |[],i,h=>by cases h
 |y::r,i,h=>by
  rw[yat]at h;split at h
  ·cases h;exact⟨y,rfl⟩
  ·cases h2:yat id r with
   |none=>rw[h2]at h;cases h
   |some j=>rw[h2]at h;cases h;obtain⟨x,hx⟩:=findT_some h2;exact⟨x,by simpa using hx⟩
theorem yeP
  {Z:Nat→Prop}(b:Nat)(v:MV)(p:Img)(s:MS)(W:World)(M:MX TT Z W b v p s)
  (k:Int)(hk:s.stk.length≤4294967296)(hl:s.made.length≤4294967296)(hZ:∀j,W.heap.size≤j→Z j)(s':MS)
  (hx:¬s.top.kind=1∨yat s.top.num s.timers.list=none)(hs':s'=s.pop.tGone):
  Calls Tryz.prog 163 #[.pointer (some ⟨b,0,none⟩),.agg #[.int .i64 19,.int .i64 k]] W (MP Z W b v p (.bool true) s')
  :=by
 obtain⟨w0,hw0⟩:∃w0,w0=W.alloc (.cells #[.int .i64 19,.int .i64 k] 106):=⟨_,rfl⟩;have B0:=zba hw0;have hB:=zha hw0;have PO:=zhd (yag b v p s w0 (M.ext B0));have HX:=zh7 M B0 hB hs' hk hl hZ;clear M B0 hB hs' hk hl hZ;go_enter Tryz.func163,Tryz.ntmps163;go_wp2_with fail;rw[←hw0];clear hw0;refine PO.o.mono ?_;rintro e w1 ⟨v1,⟨ck,cn,cs,la,ln,lc⟩,rfl,H1⟩;have hb1:=(H1.o.2.1.keeps.block W.heap.size (zlt HX.o.2.2.1) (fun e=>by have:=HX.o.1.lt e;omega)).trans HX.o.2.2.1;have d0:=zca hb1 0 rfl;have d1:=zca hb1 1 rfl;have dl:=zlt hb1;have HB:=zhd hb1;clear hb1;go_upto_region 6 with(fail);refine yaa ?_;intro w2 hw2;have B2:=zba hw2;have hb2:=zha hw2;have q0:=zca hb2 0 rfl;have q1:=zca hb2 1 rfl;have q2:=zca hb2 2 rfl;have q3:=zca hb2 3 rfl;have l2:=zlt hb2;have HB2:=zhd hb2;have H2:=zh3 B2 (H1.o.1.ext B2) (H1.o.2.2.keep (S:=fun _=>False) (zkb B2) (fun _ _ f=>f));clear hb2 B2 hw2;have b2:b<w2.heap.size:=zlt H2.o.2.1.h;have hts:∃a cap,v1.ts= .slice a s.timers.list.length cap:=H2.o.2.1.tms.slice;obtain⟨ta,tc,hts⟩:=hts;have c12:w2.cell? ⟨b,12,none⟩=some (.slice ta s.timers.list.length tc):=by rw[←hts];exact H2.o.2.1.cell (k:=12) rfl
 have FI:=zhd (fun r hr=>yaN b 12 cn s.timers.list ta tc _ w2.drew c12 (hts▸(H2.o.2.1.ext (znv _ _).drew).tms) b2 r hr);have hi2:=(H2.o.1.block W.heap.size dl).trans HB.o;clear c12 hts d0 d1 dl;have hkc:ck=s.top.kind:=H1.o.2.2.kind;have hcn:cn=s.top.num:=H1.o.2.2.n;rw[←hkc,←hcn]at hx;clear hkc hcn;obtain⟨r,hr⟩:∃r,ybv cn s.timers.list=r:=⟨_,rfl⟩;have FI:=zhd (FI.o r hr);go_region_law ((go_simp;go_at_call 138;refine FI.o.mono ?_;rintro e w3 ⟨rfl,hw⟩;subst hw))
 all_goals
  go_upto_region 7 with(fail);refine yaa ?_;intro w3 hw3;have B3:Below w2.heap.size w2 w3:=by rw[hw3];exact(znv _ _).drew
  have u0:=(B3.cell (p:=⟨w1.heap.size,0,none⟩) l2).trans q0;have l3:=znj l2 B3.size;clear hw3;by_cases h1:ck=1
  ·subst h1
   have hn:=hx.resolve_left (fun h=>h rfl);have hr1:r= -1:=by rw[←hr];unfold ybv;rw[hn]
   subst hr1;clear hn hr hx;have FL:=zhd (yas b v1 p s.pop w3 (H2.o.2.1.ext B3) ⟨#[103,111,110,101]⟩ (by decide) HX.o.2.2.2.2.2.1 (yac HX.o.2.2.2.2.2.2 (znf HX.o.2.1.size (znf H1.o.2.1.keeps.size (znf H2.o.1.size B3.size)))) s' (HX.o.2.2.2.1.symm));have H3:=zhd B3;clear B3;go_wp2_with fail;refine FL.o.mono ?_;rintro e w5 ⟨v5,rfl,H5⟩;go_wp2_with fail;go_ret;exact⟨v5,rfl,zhd ⟨H5.o.1,(MK.ext HX.o.2.1).trans (H1.o.2.1.trans ((MK.ext (H2.o.1.trans (H3.o.mono H2.o.1.size))).trans H5.o.2))⟩⟩
  ·have n1:(ck==1)=false:=by rw[zna];exact h1
   have n2:(ck !=1)=true:=by rw[bne,n1];rfl
   clear hx h1 hr;have FL:=zhd (yas b v1 p s.pop w3 (H2.o.2.1.ext B3) ⟨#[103,111,110,101]⟩ (by decide) HX.o.2.2.2.2.2.1 (yac HX.o.2.2.2.2.2.2 (znf HX.o.2.1.size (znf H1.o.2.1.keeps.size (znf H2.o.1.size B3.size)))) s' (HX.o.2.2.2.1.symm));have H3:=zhd B3;clear B3;go_wp2_with fail;refine FL.o.mono ?_;rintro e w5 ⟨v5,rfl,H5⟩;go_wp2_with fail;go_ret;exact⟨v5,rfl,zhd ⟨H5.o.1,(MK.ext HX.o.2.1).trans (H1.o.2.1.trans ((MK.ext (H2.o.1.trans (H3.o.mono H2.o.1.size))).trans H5.o.2))⟩⟩
theorem yc4
  {Z:Nat→Prop}(b:Nat)(v:MV)(p:Img)(s:MS)(W:World)(M:MX TT Z W b v p s)
  (k:Int)(hk:s.stk.length≤4294967296)(hl:s.made.length≤4294967296)(hZ:∀j,W.heap.size≤j→Z j)(s':MS)
  (i:Nat)(x:Th)(hx:s.top.kind=1)(hf:yat s.top.num s.timers.list=some i)(hxi:s.timers.list[i]? =some x)(hov:x.over=true)(htl:s.timers.list.length≤4294967296)
  (hs':s'=({s.pop with timers:=⟨s.timers.list.eraseIdx i,s.timers.next⟩}:MS).push (yaH false)):
  Calls Tryz.prog 163 #[.pointer (some ⟨b,0,none⟩),.agg #[.int .i64 19,.int .i64 k]] W (MP Z W b v p (.bool true) s')
  :=by
 obtain⟨w0,hw0⟩:∃w0,w0=W.alloc (.cells #[.int .i64 19,.int .i64 k] 106):=⟨_,rfl⟩;have B0:=zba hw0;have hB:=zha hw0;have PO:=zhd (yag b v p s w0 (M.ext B0));have HX:=zh7 M B0 hB hs' hk hl hZ;clear M B0 hB hs' hk hl hZ;go_enter Tryz.func163,Tryz.ntmps163;go_wp2_with fail;rw[←hw0];clear hw0;refine PO.o.mono ?_;rintro e w1 ⟨v1,⟨ck,cn,cs,la,ln,lc⟩,rfl,H1⟩;have hb1:=(H1.o.2.1.keeps.block W.heap.size (zlt HX.o.2.2.1) (fun e=>by have:=HX.o.1.lt e;omega)).trans HX.o.2.2.1;have d0:=zca hb1 0 rfl;have d1:=zca hb1 1 rfl;have dl:=zlt hb1;have HB:=zhd hb1;clear hb1;have hlen:s.pop.stk.length≤4294967296:=znf (Go.Proofs.YtpagmlndgblhhaaGreatDoor.pop_len s) HX.o.2.2.2.2.1;go_upto_region 6 with(fail);refine yaa ?_;intro w2 hw2;have B2:=zba hw2;have hb2:=zha hw2;have q0:=zca hb2 0 rfl;have q1:=zca hb2 1 rfl;have q2:=zca hb2 2 rfl;have q3:=zca hb2 3 rfl;have l2:=zlt hb2;have HB2:=zhd hb2;have H2:=zh3 B2 (H1.o.1.ext B2) (H1.o.2.2.keep (S:=fun _=>False) (zkb B2) (fun _ _ f=>f));clear hb2 B2 hw2;have b2:b<w2.heap.size:=zlt H2.o.2.1.h;have hts:∃a cap,v1.ts= .slice a s.timers.list.length cap:=H2.o.2.1.tms.slice;obtain⟨ta,tc,hts⟩:=hts
 have c12:w2.cell? ⟨b,12,none⟩=some (.slice ta s.timers.list.length tc):=by rw[←hts];exact H2.o.2.1.cell (k:=12) rfl
 have FI:=zhd (fun r hr=>yaN b 12 cn s.timers.list ta tc _ w2.drew c12 (hts▸(H2.o.2.1.ext (znv _ _).drew).tms) b2 r hr);have hi2:=(H2.o.1.block W.heap.size dl).trans HB.o;clear c12 hts d0 d1 dl;obtain rfl:ck=1:=H1.o.2.2.kind.trans hx;have hcn:cn=s.top.num:=H1.o.2.2.n;rw[←hcn]at hf;have FI:=zhd (FI.o (i:Int) (by unfold ybv;rw[hf]));have HF:=zh4 hxi hov htl hcn;clear hx hf hxi hov htl hcn;go_region_law ((go_simp;go_at_call 138;refine FI.o.mono ?_;rintro e w3 ⟨rfl,hw⟩;subst hw))
 all_goals
  go_upto_region 7 with(fail);refine yaa ?_;intro w3 hw3;have B3:Below w2.heap.size w2 w3:=by rw[hw3];exact(znv _ _).drew
  have u0:=(B3.cell (p:=⟨w1.heap.size,0,none⟩) l2).trans q0;have u1:=(B3.cell (p:=⟨w1.heap.size,1,none⟩) l2).trans q1;have hb3:=(B3.block w1.heap.size l2).trans HB2.o;have l3:=znj l2 B3.size;have n8:decide ((i:Int)<0)=false:=znd (by omega);have TK:=zhd (ybU b v1 p s.pop w3 (H2.o.2.1.ext B3) i x HF.o.1 HF.o.2.2.1 {s.pop with timers:=⟨s.pop.timers.list.eraseIdx i,s.pop.timers.next⟩} rfl (yac HX.o.2.2.2.2.2.2 (znf HX.o.2.1.size (znf H1.o.2.1.keeps.size (znf H2.o.1.size B3.size)))));have H3:=zh2 B3 hb3;clear hw3 B3 hb3 q0 q1 q2 q3 l2 hi2;go_wp2_with fail;refine TK.o.mono ?_;rintro e w4 ⟨v4,⟨tid,tov,⟨zk,zn,zs,za,zl,zc⟩,thow⟩,rfl,H4⟩;have hb4:=(H4.o.2.1.keeps.block w1.heap.size l3 (fun e=>by
   rcases H1.o.2.1.own _ e with h|h
   ·have:=HX.o.1.lt h;have:=H1.o.2.1.keeps.size;have:=HX.o.2.1.size;omega
   ·have:=H1.o.1.lt e;omega)).trans H3.o.2
  have y1:=zca hb4 1 rfl;have l4:=zlt hb4;obtain rfl:tov=true:=H4.o.2.2.over.trans HF.o.2.1;have K4:MK b v W v4 w4:=(MK.ext HX.o.2.1).trans (H1.o.2.1.trans ((MK.ext (H2.o.1.trans (H3.o.1.mono H2.o.1.size))).trans H4.o.2.1));have HK:=zh2 K4 hb4;have hE:=zhd HX.o.2.2.2.1;clear K4 hb4 u0 u1 n8 l3;go_upto_region 10 with(fail);refine yaa ?_;intro w5 hw5;have B5:=zba hw5;have z1:w5.cell? ⟨w4.heap.size,1,none⟩=some (.bool true):=by rw[hw5,zch (znb _ _)];rfl
  have z2:=(B5.cell (p:=⟨w1.heap.size,1,none⟩) l4).trans y1;have l5:w4.heap.size<w5.heap.size:=by rw[hw5];simp
  have l6:w1.heap.size<w5.heap.size:=Nat.lt_trans l4 l5;have M5:=H4.o.1.ext B5;have H5:=zh2 B5 M5;clear hw5 B5 M5 y1 l4;go_upto_region 12 with(fail);go_region_law (first
   |(go_simp;go_at_call 63;refine(ybg false _).mono ?_;rintro e w6 ⟨rfl,hB6⟩;have H6:=zhd (znw ((znv w5.heap.size w5).drew) hB6);clear hB6)
   |(go_simp;go_at_call 119;refine(yah b v4 p _ w6 (H5.o.2.ext H6.o) (yaH false) 1 _ ⟨#[]⟩ none 0 0 (ya5 _ _ _) hlen).mono ?_;rintro e w7 ⟨v7,rfl,H7⟩))
  all_goals
   go_wp2_with fail;go_ret;exact⟨v7,rfl,zhd ⟨by rw[hE.o];exact H7.o.1,HK.o.1.trans ((MK.ext (H5.o.1.trans (H6.o.mono H5.o.1.size))).trans H7.o.2)⟩⟩
theorem yfZ
  {Z:Nat→Prop}(b:Nat)(v:MV)(p:Img)(s:MS)(W:World)(M:MX TT Z W b v p s)
  (k:Int)(hk:s.stk.length≤4294967296)(hl:s.made.length≤4294967296)(hZ:∀j,W.heap.size≤j→Z j)(s':MS)
  (i:Nat)(x:Th)(hx:s.top.kind=1)(hf:yat s.top.num s.timers.list=some i)(hxi:s.timers.list[i]? =some x)(hov:x.over=false)(htl:s.timers.list.length≤4294967296)
  (hs':s'=(({s.pop with timers:=⟨s.timers.list.eraseIdx i,s.timers.next⟩}:MS).want ⟨2,0,s.top.num,0,⟨#[]⟩,yai⟩).push (yaH true)):
  Calls Tryz.prog 163 #[.pointer (some ⟨b,0,none⟩),.agg #[.int .i64 19,.int .i64 k]] W (MP Z W b v p (.bool true) s')
  :=by
 obtain⟨w0,hw0⟩:∃w0,w0=W.alloc (.cells #[.int .i64 19,.int .i64 k] 106):=⟨_,rfl⟩;have B0:=zba hw0;have hB:=zha hw0;have PO:=zhd (yag b v p s w0 (M.ext B0));have HX:=zh7 M B0 hB hs' hk hl hZ;clear M B0 hB hs' hk hl hZ;go_enter Tryz.func163,Tryz.ntmps163;go_wp2_with fail;rw[←hw0];clear hw0;refine PO.o.mono ?_;rintro e w1 ⟨v1,⟨ck,cn,cs,la,ln,lc⟩,rfl,H1⟩;have hb1:=(H1.o.2.1.keeps.block W.heap.size (zlt HX.o.2.2.1) (fun e=>by have:=HX.o.1.lt e;omega)).trans HX.o.2.2.1;have d0:=zca hb1 0 rfl;have d1:=zca hb1 1 rfl;have dl:=zlt hb1;have HB:=zhd hb1;clear hb1;have hlen:s.pop.stk.length≤4294967296:=znf (Go.Proofs.YtpagmlndgblhhaaGreatDoor.pop_len s) HX.o.2.2.2.2.1;go_upto_region 6 with(fail);refine yaa ?_;intro w2 hw2;have B2:=zba hw2;have hb2:=zha hw2;have q0:=zca hb2 0 rfl;have q1:=zca hb2 1 rfl;have q2:=zca hb2 2 rfl;have q3:=zca hb2 3 rfl;have l2:=zlt hb2;have HB2:=zhd hb2;have H2:=zh3 B2 (H1.o.1.ext B2) (H1.o.2.2.keep (S:=fun _=>False) (zkb B2) (fun _ _ f=>f));clear hb2 B2 hw2;have b2:b<w2.heap.size:=zlt H2.o.2.1.h;have hts:∃a cap,v1.ts= .slice a s.timers.list.length cap:=H2.o.2.1.tms.slice;obtain⟨ta,tc,hts⟩:=hts
 have c12:w2.cell? ⟨b,12,none⟩=some (.slice ta s.timers.list.length tc):=by rw[←hts];exact H2.o.2.1.cell (k:=12) rfl
 have FI:=zhd (fun r hr=>yaN b 12 cn s.timers.list ta tc _ w2.drew c12 (hts▸(H2.o.2.1.ext (znv _ _).drew).tms) b2 r hr);have hi2:=(H2.o.1.block W.heap.size dl).trans HB.o;clear c12 hts d0 d1 dl;obtain rfl:ck=1:=H1.o.2.2.kind.trans hx;have hcn:cn=s.top.num:=H1.o.2.2.n;rw[←hcn]at hf;have FI:=zhd (FI.o (i:Int) (by unfold ybv;rw[hf]));have HF:=zh4 hxi hov htl hcn;clear hx hf hxi hov htl hcn;go_region_law ((go_simp;go_at_call 138;refine FI.o.mono ?_;rintro e w3 ⟨rfl,hw⟩;subst hw))
 all_goals
  go_upto_region 7 with(fail);refine yaa ?_;intro w3 hw3;have B3:Below w2.heap.size w2 w3:=by rw[hw3];exact(znv _ _).drew
  have u0:=(B3.cell (p:=⟨w1.heap.size,0,none⟩) l2).trans q0;have u1:=(B3.cell (p:=⟨w1.heap.size,1,none⟩) l2).trans q1;have hb3:=(B3.block w1.heap.size l2).trans HB2.o;have l3:=znj l2 B3.size;have n8:decide ((i:Int)<0)=false:=znd (by omega);have TK:=zhd (ybU b v1 p s.pop w3 (H2.o.2.1.ext B3) i x HF.o.1 HF.o.2.2.1 {s.pop with timers:=⟨s.pop.timers.list.eraseIdx i,s.pop.timers.next⟩} rfl (yac HX.o.2.2.2.2.2.2 (znf HX.o.2.1.size (znf H1.o.2.1.keeps.size (znf H2.o.1.size B3.size)))));have H3:=zh2 B3 hb3;clear hw3 B3 hb3 q0 q1 q2 q3 l2 hi2;go_wp2_with fail;refine TK.o.mono ?_;rintro e w4 ⟨v4,⟨tid,tov,⟨zk,zn,zs,za,zl,zc⟩,thow⟩,rfl,H4⟩;have hb4:=(H4.o.2.1.keeps.block w1.heap.size l3 (fun e=>by
   rcases H1.o.2.1.own _ e with h|h
   ·have:=HX.o.1.lt h;have:=H1.o.2.1.keeps.size;have:=HX.o.2.1.size;omega
   ·have:=H1.o.1.lt e;omega)).trans H3.o.2
  have y1:=zca hb4 1 rfl;have l4:=zlt hb4;obtain rfl:tov=false:=H4.o.2.2.over.trans HF.o.2.1;have K4:MK b v W v4 w4:=(MK.ext HX.o.2.1).trans (H1.o.2.1.trans ((MK.ext (H2.o.1.trans (H3.o.1.mono H2.o.1.size))).trans H4.o.2.1));have HK:=zh2 K4 hb4;have hE:=zhd HX.o.2.2.2.1;clear K4 hb4 u0 u1 n8 l3;go_upto_region 10 with(fail);refine yaa ?_;intro w5 hw5;have B5:=zba hw5;have z1:w5.cell? ⟨w4.heap.size,1,none⟩=some (.bool false):=by rw[hw5,zch (znb _ _)];rfl
  have z2:=(B5.cell (p:=⟨w1.heap.size,1,none⟩) l4).trans y1;have l5:w4.heap.size<w5.heap.size:=by rw[hw5];simp
  have l6:w1.heap.size<w5.heap.size:=Nat.lt_trans l4 l5;have M5:=H4.o.1.ext B5;have H5:=zh2 B5 M5;clear hw5 B5 M5 y1 l4;have WA:=zhd (ybS b v4 p _ w5 H5.o.2 2 0 cn 0 ⟨#[]⟩ yai 0 0 ⟨#[]⟩ none 0 0 (fun _=>True) (yaD _ _) ydz HX.o.2.2.2.2.2.1 (yac HX.o.2.2.2.2.2.2 (znf HK.o.1.keeps.size H5.o.1.size)) _ rfl);go_wp2_with fail;refine WA.o.mono ?_;rintro e w6 ⟨v6,rfl,H6⟩;have hb6:w6.cell? ⟨w4.heap.size,1,none⟩=some (.bool false):=(H6.o.2.keeps.cell (p:=⟨w4.heap.size,1,none⟩) l5 (fun e=>by have:=H4.o.1.lt e;exact Nat.lt_irrefl _ this)).trans z1;have l7:w4.heap.size<w6.heap.size:=znj l5 H6.o.2.keeps.size;go_upto_region 12 with(fail);go_region_law (first
   |(go_simp;go_at_call 63;refine(ybg true _).mono ?_;rintro e w8 ⟨rfl,hB8⟩;have H8:=zhd (znw ((znv w6.heap.size w6).drew) hB8);clear hB8)
   |(go_simp;go_at_call 119;refine(yah b v6 p _ w8 (H6.o.1.ext H8.o) (yaH true) 1 _ ⟨#[]⟩ none 0 0 (ya5 _ _ _) (by unfold MS.want;exact hlen)).mono ?_;rintro e w9 ⟨v9,rfl,H9⟩))
  all_goals
   go_wp2_with fail;go_ret;exact⟨v9,rfl,zhd ⟨by rw[hE.o,←HF.o.2.2.2];exact H9.o.1,HK.o.1.trans ((MK.ext H5.o.1).trans (H6.o.2.trans ((MK.ext H8.o).trans H9.o.2)))⟩⟩
theorem yfg
  {Z:Nat→Prop}(b:Nat)(v:MV)(p:Img)(s:MS)(W:World)(M:MX TT Z W b v p s)
  (k:Int)(hk:s.stk.length≤4294967296)(hl:s.made.length≤4294967296)(hZ:∀j,W.heap.size≤j→Z j)(s':MS)
  (hx:¬s.top.kind=1∨s.top.num<0)(hs':s'=s.pop.tRange):
  Calls Tryz.prog 163 #[.pointer (some ⟨b,0,none⟩),.agg #[.int .i64 17,.int .i64 k]] W (MP Z W b v p (.bool true) s')
  :=by
 obtain⟨w0,hw0⟩:∃w0,w0=W.alloc (.cells #[.int .i64 17,.int .i64 k] 106):=⟨_,rfl⟩;have B0:=zba hw0;have hB:=zha hw0;have PO:=zhd (yag b v p s w0 (M.ext B0));have HX:=zh7 M B0 hB hs' hk hl hZ;clear M B0 hB hs' hk hl hZ;go_enter Tryz.func163,Tryz.ntmps163;go_wp2_with fail;rw[←hw0];clear hw0;refine PO.o.mono ?_;rintro e w1 ⟨v1,⟨ck,cn,cs,la,ln,lc⟩,rfl,H1⟩;have hb1:=(H1.o.2.1.keeps.block W.heap.size (zlt HX.o.2.2.1) (fun e=>by have:=HX.o.1.lt e;omega)).trans HX.o.2.2.1;have d0:=zca hb1 0 rfl;have d1:=zca hb1 1 rfl;have dl:=zlt hb1;have HB:=zhd hb1;clear hb1;go_upto_region 3 with(fail);refine yaa ?_;intro w2 hw2;have B2:=zba hw2;have hb2:=zha hw2;have q0:=zca hb2 0 rfl;have q1:=zca hb2 1 rfl;have q2:=zca hb2 2 rfl;have q3:=zca hb2 3 rfl;have l2:=zlt hb2;have HB2:=zhd hb2;have H2:=zh3 B2 (H1.o.1.ext B2) (H1.o.2.2.keep (S:=fun _=>False) (zkb B2) (fun _ _ f=>f));clear hb2 B2 hw2;have hkc:ck=s.top.kind:=H1.o.2.2.kind;have hcn:cn=s.top.num:=H1.o.2.2.n;rw[←hkc,←hcn]at hx;clear hkc hcn d0 d1 dl;by_cases h1:ck=1
 ·subst h1
  by_cases h2:cn<0
  ·have n2:decide (cn<0)=true:=zno h2
   clear hx h2;have H3:=zhd (znv w2.heap.size w2);have FL:=zhd (yas b v1 p s.pop w2 H2.o.2.1 ⟨#[114,97,110,103,101]⟩ (by decide) HX.o.2.2.2.2.2.1 (yac HX.o.2.2.2.2.2.2 (znf HX.o.2.1.size (znf H1.o.2.1.keeps.size H2.o.1.size))) s' (HX.o.2.2.2.1.symm));go_wp2_with fail;refine FL.o.mono ?_;rintro e w5 ⟨v5,rfl,H5⟩;go_wp2_with fail;go_ret;exact⟨v5,rfl,zhd ⟨H5.o.1,(MK.ext HX.o.2.1).trans (H1.o.2.1.trans ((MK.ext H2.o.1).trans H5.o.2))⟩⟩
  ·have n2:decide (cn<0)=false:=znd h2
   exact absurd (hx.resolve_left (fun h=>h rfl)) h2
 ·have n1:(ck==1)=false:=by rw[zna];exact h1
  have n2:(ck !=1)=true:=by rw[bne,n1];rfl
  clear hx h1;have H3:=zhd (znv w2.heap.size w2);have FL:=zhd (yas b v1 p s.pop w2 H2.o.2.1 ⟨#[114,97,110,103,101]⟩ (by decide) HX.o.2.2.2.2.2.1 (yac HX.o.2.2.2.2.2.2 (znf HX.o.2.1.size (znf H1.o.2.1.keeps.size H2.o.1.size))) s' (HX.o.2.2.2.1.symm));go_wp2_with fail;refine FL.o.mono ?_;rintro e w5 ⟨v5,rfl,H5⟩;go_wp2_with fail;go_ret;exact⟨v5,rfl,zhd ⟨H5.o.1,(MK.ext HX.o.2.1).trans (H1.o.2.1.trans ((MK.ext H2.o.1).trans H5.o.2))⟩⟩
theorem yff
  {Z:Nat→Prop}(b:Nat)(v:MV)(p:Img)(s:MS)(W:World)(M:MX TT Z W b v p s)
  (k:Int)(hk:s.stk.length≤4294967296)(hl:s.made.length≤4294967296)(hZ:∀j,W.heap.size≤j→Z j)(s':MS)
  (hx:¬s.top.kind=1∨s.top.num<0∨1073741824<s.top.num)(hs':s'=s.pop.tRange):
  Calls Tryz.prog 163 #[.pointer (some ⟨b,0,none⟩),.agg #[.int .i64 20,.int .i64 k]] W (MP Z W b v p (.bool true) s')
  :=by
 obtain⟨w0,hw0⟩:∃w0,w0=W.alloc (.cells #[.int .i64 20,.int .i64 k] 106):=⟨_,rfl⟩;have B0:=zba hw0;have hB:=zha hw0;have PO:=zhd (yag b v p s w0 (M.ext B0));have HX:=zh7 M B0 hB hs' hk hl hZ;clear M B0 hB hs' hk hl hZ;go_enter Tryz.func163,Tryz.ntmps163;go_wp2_with fail;rw[←hw0];clear hw0;refine PO.o.mono ?_;rintro e w1 ⟨v1,⟨ck,cn,cs,la,ln,lc⟩,rfl,H1⟩;have hb1:=(H1.o.2.1.keeps.block W.heap.size (zlt HX.o.2.2.1) (fun e=>by have:=HX.o.1.lt e;omega)).trans HX.o.2.2.1;have d0:=zca hb1 0 rfl;have d1:=zca hb1 1 rfl;have dl:=zlt hb1;have HB:=zhd hb1;clear hb1;go_upto_region 15 with(fail);refine yaa ?_;intro w2 hw2;have B2:=zba hw2;have hb2:=zha hw2;have q0:=zca hb2 0 rfl;have q1:=zca hb2 1 rfl;have q2:=zca hb2 2 rfl;have q3:=zca hb2 3 rfl;have l2:=zlt hb2;have HB2:=zhd hb2;have H2:=zh3 B2 (H1.o.1.ext B2) (H1.o.2.2.keep (S:=fun _=>False) (zkb B2) (fun _ _ f=>f));clear hb2 B2 hw2;have hkc:ck=s.top.kind:=H1.o.2.2.kind;have hcn:cn=s.top.num:=H1.o.2.2.n;rw[←hkc,←hcn]at hx;clear hkc hcn d0 d1 dl;by_cases h1:ck=1
 ·subst h1
  by_cases h2:cn<0
  ·have n2:decide (cn<0)=true:=zno h2
   clear hx h2;have H3:=zhd (znv w2.heap.size w2);have FL:=zhd (yas b v1 p s.pop w2 H2.o.2.1 ⟨#[114,97,110,103,101]⟩ (by decide) HX.o.2.2.2.2.2.1 (yac HX.o.2.2.2.2.2.2 (znf HX.o.2.1.size (znf H1.o.2.1.keeps.size H2.o.1.size))) s' (HX.o.2.2.2.1.symm));go_wp2_with fail;refine FL.o.mono ?_;rintro e w5 ⟨v5,rfl,H5⟩;go_wp2_with fail;go_ret;exact⟨v5,rfl,zhd ⟨H5.o.1,(MK.ext HX.o.2.1).trans (H1.o.2.1.trans ((MK.ext H2.o.1).trans H5.o.2))⟩⟩
  ·have n2:decide (cn<0)=false:=znd h2
   have hx:=(hx.resolve_left (fun h=>h rfl)).resolve_left h2;have n3:decide (1073741824<cn)=true:=zno hx;clear hx h2;have H3:=zhd (znv w2.heap.size w2);have FL:=zhd (yas b v1 p s.pop w2 H2.o.2.1 ⟨#[114,97,110,103,101]⟩ (by decide) HX.o.2.2.2.2.2.1 (yac HX.o.2.2.2.2.2.2 (znf HX.o.2.1.size (znf H1.o.2.1.keeps.size H2.o.1.size))) s' (HX.o.2.2.2.1.symm));go_wp2_with fail;refine FL.o.mono ?_;rintro e w5 ⟨v5,rfl,H5⟩;go_wp2_with fail;go_ret;exact⟨v5,rfl,zhd ⟨H5.o.1,(MK.ext HX.o.2.1).trans (H1.o.2.1.trans ((MK.ext H2.o.1).trans H5.o.2))⟩⟩
 ·have n1:(ck==1)=false:=by rw[zna];exact h1
  have n2:(ck !=1)=true:=by rw[bne,n1];rfl
  clear hx h1;have H3:=zhd (znv w2.heap.size w2);have FL:=zhd (yas b v1 p s.pop w2 H2.o.2.1 ⟨#[114,97,110,103,101]⟩ (by decide) HX.o.2.2.2.2.2.1 (yac HX.o.2.2.2.2.2.2 (znf HX.o.2.1.size (znf H1.o.2.1.keeps.size H2.o.1.size))) s' (HX.o.2.2.2.1.symm));go_wp2_with fail;refine FL.o.mono ?_;rintro e w5 ⟨v5,rfl,H5⟩;go_wp2_with fail;go_ret;exact⟨v5,rfl,zhd ⟨H5.o.1,(MK.ext HX.o.2.1).trans (H1.o.2.1.trans ((MK.ext H2.o.1).trans H5.o.2))⟩⟩
theorem yfY
  {Z:Nat→Prop}(b:Nat)(v:MV)(p:Img)(s:MS)(W:World)(M:MX TT Z W b v p s)
  (k:Int)(hk:s.stk.length≤4294967296)(hl:s.made.length≤4294967296)(hZ:∀j,W.heap.size≤j→Z j)(s':MS)
  (hx:s.top.kind=1)(hn0:0≤s.top.num∧s.top.num≤9223372036854775807)(hll:s.timers.list.length≤4294967296∧s.acts.list.length≤4294967296)(hm:64≤s.timers.list.length+s.acts.list.length)(hs':s'=s.pop.tMany):
  Calls Tryz.prog 163 #[.pointer (some ⟨b,0,none⟩),.agg #[.int .i64 17,.int .i64 k]] W (MP Z W b v p (.bool true) s')
  :=by
 obtain⟨w0,hw0⟩:∃w0,w0=W.alloc (.cells #[.int .i64 17,.int .i64 k] 106):=⟨_,rfl⟩;have B0:=zba hw0;have hB:=zha hw0;have PO:=zhd (yag b v p s w0 (M.ext B0));have HX:=zh7 M B0 hB hs' hk hl hZ;clear M B0 hB hs' hk hl hZ;go_enter Tryz.func163,Tryz.ntmps163;go_wp2_with fail;rw[←hw0];clear hw0;refine PO.o.mono ?_;rintro e w1 ⟨v1,⟨ck,cn,cs,la,ln,lc⟩,rfl,H1⟩;have hb1:=(H1.o.2.1.keeps.block W.heap.size (zlt HX.o.2.2.1) (fun e=>by have:=HX.o.1.lt e;omega)).trans HX.o.2.2.1;have d0:=zca hb1 0 rfl;have d1:=zca hb1 1 rfl;have dl:=zlt hb1;have HB:=zhd hb1;clear hb1;have hlen:s.pop.stk.length≤4294967296:=znf (Go.Proofs.YtpagmlndgblhhaaGreatDoor.pop_len s) HX.o.2.2.2.2.1;go_upto_region 3 with(fail);refine yaa ?_;intro w2 hw2;have B2:=zba hw2;have hb2:=zha hw2;have q0:=zca hb2 0 rfl;have q1:=zca hb2 1 rfl;have q2:=zca hb2 2 rfl;have q3:=zca hb2 3 rfl;have l2:=zlt hb2;have HB2:=zhd hb2;have H2:=zh3 B2 (H1.o.1.ext B2) (H1.o.2.2.keep (S:=fun _=>False) (zkb B2) (fun _ _ f=>f));clear hb2 B2 hw2;obtain rfl:ck=1:=H1.o.2.2.kind.trans hx;have hcn:cn=s.top.num:=H1.o.2.2.n;rw[←hcn]at hn0;have n2:decide (cn<0)=false:=znd (by omega)
 first
  |(have n3:decide (1073741824<cn)=false:=znd (by omega))
  |skip
 have hb2:=HB2.o;have hi2:=(H2.o.1.block W.heap.size dl).trans HB.o;have b2:b<w2.heap.size:=zlt H2.o.2.1.h;obtain⟨ta,tc,hts⟩:=(show∃a cap,v1.ts= .slice a s.timers.list.length cap from H2.o.2.1.tms.slice);obtain⟨aa,ac,has⟩:=(show∃a cap,v1.as_= .slice a s.acts.list.length cap from H2.o.2.1.acs.slice);have c12:w2.cell? ⟨b,12,none⟩=some (.slice ta s.timers.list.length tc):=by rw[←hts];exact H2.o.2.1.cell (k:=12) rfl
 have c14:w2.cell? ⟨b,14,none⟩=some (.slice aa s.acts.list.length ac):=by rw[←has];exact H2.o.2.1.cell (k:=14) rfl
 have e0:=zca hi2 0 rfl;have e1:=zca hi2 1 rfl;have el:=zlt hi2;have hsum:IntKind.i64.wrap ((s.timers.list.length:Int)+(s.acts.list.length:Int))=(s.timers.list.length:Int)+(s.acts.list.length:Int):=zmk _ (by omega);have HI2:=zh4 hi2 hb2 hcn hn0;clear hts has hi2 hb2 d0 d1 dl hn0 hcn hx;have n6:decide ((64:Int)≤(s.timers.list.length:Int)+(s.acts.list.length:Int))=true:=zno (by omega);clear hm hll;go_upto_region 17 with(fail);go_region
 all_goals
  have FL:=zhd (yas b v1 p s.pop w2.drew (H2.o.2.1.ext (znv _ _).drew) ⟨#[109,97,110,121]⟩ (by decide) HX.o.2.2.2.2.2.1 (yac HX.o.2.2.2.2.2.2 (znf HX.o.2.1.size (znf H1.o.2.1.keeps.size H2.o.1.size))) s' (HX.o.2.2.2.1.symm));go_wp2_with fail;refine FL.o.mono ?_;rintro e w5 ⟨v5,rfl,H5⟩;go_wp2_with fail;go_ret;exact⟨v5,rfl,zhd ⟨H5.o.1,(MK.ext HX.o.2.1).trans (H1.o.2.1.trans ((MK.ext H2.o.1.drew).trans H5.o.2))⟩⟩
theorem yfX
  {Z:Nat→Prop}(b:Nat)(v:MV)(p:Img)(s:MS)(W:World)(M:MX TT Z W b v p s)
  (k:Int)(hk:s.stk.length≤4294967296)(hl:s.made.length≤4294967296)(hZ:∀j,W.heap.size≤j→Z j)(s':MS)
  (hx:s.top.kind=1)(hn0:0≤s.top.num∧s.top.num≤1073741824)(hll:s.timers.list.length≤4294967296∧s.acts.list.length≤4294967296)(hm:64≤s.timers.list.length+s.acts.list.length)(hs':s'=s.pop.tMany):
  Calls Tryz.prog 163 #[.pointer (some ⟨b,0,none⟩),.agg #[.int .i64 20,.int .i64 k]] W (MP Z W b v p (.bool true) s')
  :=by
 obtain⟨w0,hw0⟩:∃w0,w0=W.alloc (.cells #[.int .i64 20,.int .i64 k] 106):=⟨_,rfl⟩;have B0:=zba hw0;have hB:=zha hw0;have PO:=zhd (yag b v p s w0 (M.ext B0));have HX:=zh7 M B0 hB hs' hk hl hZ;clear M B0 hB hs' hk hl hZ;go_enter Tryz.func163,Tryz.ntmps163;go_wp2_with fail;rw[←hw0];clear hw0;refine PO.o.mono ?_;rintro e w1 ⟨v1,⟨ck,cn,cs,la,ln,lc⟩,rfl,H1⟩;have hb1:=(H1.o.2.1.keeps.block W.heap.size (zlt HX.o.2.2.1) (fun e=>by have:=HX.o.1.lt e;omega)).trans HX.o.2.2.1;have d0:=zca hb1 0 rfl;have d1:=zca hb1 1 rfl;have dl:=zlt hb1;have HB:=zhd hb1;clear hb1;have hlen:s.pop.stk.length≤4294967296:=znf (Go.Proofs.YtpagmlndgblhhaaGreatDoor.pop_len s) HX.o.2.2.2.2.1;go_upto_region 15 with(fail);refine yaa ?_;intro w2 hw2;have B2:=zba hw2;have hb2:=zha hw2;have q0:=zca hb2 0 rfl;have q1:=zca hb2 1 rfl;have q2:=zca hb2 2 rfl;have q3:=zca hb2 3 rfl;have l2:=zlt hb2;have HB2:=zhd hb2;have H2:=zh3 B2 (H1.o.1.ext B2) (H1.o.2.2.keep (S:=fun _=>False) (zkb B2) (fun _ _ f=>f));clear hb2 B2 hw2;obtain rfl:ck=1:=H1.o.2.2.kind.trans hx;have hcn:cn=s.top.num:=H1.o.2.2.n;rw[←hcn]at hn0;have n2:decide (cn<0)=false:=znd (by omega)
 first
  |(have n3:decide (1073741824<cn)=false:=znd (by omega))
  |skip
 have hb2:=HB2.o;have hi2:=(H2.o.1.block W.heap.size dl).trans HB.o;have b2:b<w2.heap.size:=zlt H2.o.2.1.h;obtain⟨ta,tc,hts⟩:=(show∃a cap,v1.ts= .slice a s.timers.list.length cap from H2.o.2.1.tms.slice);obtain⟨aa,ac,has⟩:=(show∃a cap,v1.as_= .slice a s.acts.list.length cap from H2.o.2.1.acs.slice);have c12:w2.cell? ⟨b,12,none⟩=some (.slice ta s.timers.list.length tc):=by rw[←hts];exact H2.o.2.1.cell (k:=12) rfl
 have c14:w2.cell? ⟨b,14,none⟩=some (.slice aa s.acts.list.length ac):=by rw[←has];exact H2.o.2.1.cell (k:=14) rfl
 have e0:=zca hi2 0 rfl;have e1:=zca hi2 1 rfl;have el:=zlt hi2;have hsum:IntKind.i64.wrap ((s.timers.list.length:Int)+(s.acts.list.length:Int))=(s.timers.list.length:Int)+(s.acts.list.length:Int):=zmk _ (by omega);have HI2:=zh4 hi2 hb2 hcn hn0;clear hts has hi2 hb2 d0 d1 dl hn0 hcn hx;have n6:decide ((64:Int)≤(s.timers.list.length:Int)+(s.acts.list.length:Int))=true:=zno (by omega);clear hm hll;go_upto_region 17 with(fail);go_region
 all_goals
  have FL:=zhd (yas b v1 p s.pop w2.drew (H2.o.2.1.ext (znv _ _).drew) ⟨#[109,97,110,121]⟩ (by decide) HX.o.2.2.2.2.2.1 (yac HX.o.2.2.2.2.2.2 (znf HX.o.2.1.size (znf H1.o.2.1.keeps.size H2.o.1.size))) s' (HX.o.2.2.2.1.symm));go_wp2_with fail;refine FL.o.mono ?_;rintro e w5 ⟨v5,rfl,H5⟩;go_wp2_with fail;go_ret;exact⟨v5,rfl,zhd ⟨H5.o.1,(MK.ext HX.o.2.1).trans (H1.o.2.1.trans ((MK.ext H2.o.1.drew).trans H5.o.2))⟩⟩
theorem ygU
  {Z:Nat→Prop}(b:Nat)(v:MV)(p:Img)(s:MS)(W:World)(M:MX TT Z W b v p s)
  (k:Int)(hk:s.stk.length≤4294967296)(hl:s.made.length≤4294967296)(hZ:∀j,W.heap.size≤j→Z j)(s':MS)
  (hx:s.top.kind=1)(hn0:0≤s.top.num∧s.top.num≤9223372036854775807)(hll:s.timers.list.length≤4294967296∧s.acts.list.length≤4294967296)(hm:¬64≤s.timers.list.length+s.acts.list.length)(hnx:0≤s.timers.next∧s.timers.next≤4611686018427387904)
  (hs':s'=(({s.pop with timers:=yb2 s.timers}:MS).want ⟨1,0,s.timers.next+1,s.top.num,⟨#[]⟩,yai⟩).push (ybn (s.timers.next+1))):
  Calls Tryz.prog 163 #[.pointer (some ⟨b,0,none⟩),.agg #[.int .i64 17,.int .i64 k]] W (MP Z W b v p (.bool true) s')
  :=by
 obtain⟨w0,hw0⟩:∃w0,w0=W.alloc (.cells #[.int .i64 17,.int .i64 k] 106):=⟨_,rfl⟩;have B0:=zba hw0;have hB:=zha hw0;have PO:=zhd (yag b v p s w0 (M.ext B0));have HX:=zh7 M B0 hB hs' hk hl hZ;clear M B0 hB hs' hk hl hZ;go_enter Tryz.func163,Tryz.ntmps163;go_wp2_with fail;rw[←hw0];clear hw0;refine PO.o.mono ?_;rintro e w1 ⟨v1,⟨ck,cn,cs,la,ln,lc⟩,rfl,H1⟩;have hb1:=(H1.o.2.1.keeps.block W.heap.size (zlt HX.o.2.2.1) (fun e=>by have:=HX.o.1.lt e;omega)).trans HX.o.2.2.1;have d0:=zca hb1 0 rfl;have d1:=zca hb1 1 rfl;have dl:=zlt hb1;have HB:=zhd hb1;clear hb1;have hlen:s.pop.stk.length≤4294967296:=znf (Go.Proofs.YtpagmlndgblhhaaGreatDoor.pop_len s) HX.o.2.2.2.2.1;go_upto_region 3 with(fail);refine yaa ?_;intro w2 hw2;have B2:=zba hw2;have hb2:=zha hw2;have q0:=zca hb2 0 rfl;have q1:=zca hb2 1 rfl;have q2:=zca hb2 2 rfl;have q3:=zca hb2 3 rfl;have l2:=zlt hb2;have HB2:=zhd hb2;have H2:=zh3 B2 (H1.o.1.ext B2) (H1.o.2.2.keep (S:=fun _=>False) (zkb B2) (fun _ _ f=>f));clear hb2 B2 hw2;obtain rfl:ck=1:=H1.o.2.2.kind.trans hx;have hcn:cn=s.top.num:=H1.o.2.2.n;rw[←hcn]at hn0;have n2:decide (cn<0)=false:=znd (by omega)
 first
  |(have n3:decide (1073741824<cn)=false:=znd (by omega))
  |skip
 have hb2:=HB2.o;have hi2:=(H2.o.1.block W.heap.size dl).trans HB.o;have b2:b<w2.heap.size:=zlt H2.o.2.1.h;obtain⟨ta,tc,hts⟩:=(show∃a cap,v1.ts= .slice a s.timers.list.length cap from H2.o.2.1.tms.slice);obtain⟨aa,ac,has⟩:=(show∃a cap,v1.as_= .slice a s.acts.list.length cap from H2.o.2.1.acs.slice);have c12:w2.cell? ⟨b,12,none⟩=some (.slice ta s.timers.list.length tc):=by rw[←hts];exact H2.o.2.1.cell (k:=12) rfl
 have c14:w2.cell? ⟨b,14,none⟩=some (.slice aa s.acts.list.length ac):=by rw[←has];exact H2.o.2.1.cell (k:=14) rfl
 have e0:=zca hi2 0 rfl;have e1:=zca hi2 1 rfl;have el:=zlt hi2;have hsum:IntKind.i64.wrap ((s.timers.list.length:Int)+(s.acts.list.length:Int))=(s.timers.list.length:Int)+(s.acts.list.length:Int):=zmk _ (by omega);have HI2:=zh4 hi2 hb2 hcn hn0;clear hts has hi2 hb2 d0 d1 dl hn0 hcn hx;have n6:decide ((64:Int)≤(s.timers.list.length:Int)+(s.acts.list.length:Int))=false:=znd (by omega);have hl1:=hll.1;clear hm hll;go_upto_region 17 with(fail);go_region
 all_goals
  have BG:=zhd (yf0 b v1 p s.pop w2.drew (H2.o.2.1.ext (znv _ _).drew) hnx hl1 _ rfl);have z1:w2.drew.cell? ⟨w1.heap.size,1,none⟩=some (.int .i64 cn):=q1;have zl:w1.heap.size<w2.drew.heap.size:=l2;have HN:=zhd hnx;clear q0 q1 q2 q3 hnx hl1;go_wp2_with fail;refine BG.o.mono ?_;rintro e w4 ⟨v4,rfl,H4⟩;have y1:w4.cell? ⟨w1.heap.size,1,none⟩=some (.int .i64 cn):=(H4.o.2.keeps.cell (p:=⟨w1.heap.size,1,none⟩) zl (fun e=>by have:=H1.o.1.lt e;exact Nat.lt_irrefl _ this)).trans z1;have l4:w1.heap.size<w4.heap.size:=znj zl H4.o.2.keeps.size;have K4:MK b v W v4 w4:=(MK.ext HX.o.2.1).trans (H1.o.2.1.trans ((MK.ext H2.o.1.drew).trans H4.o.2));have WA:=zhd (ybS b v4 p _ w4 H4.o.1 1 0 (s.timers.next+1) cn ⟨#[]⟩ yai 0 0 ⟨#[]⟩ none 0 0 (fun _=>True) (yaD _ _) ydz HX.o.2.2.2.2.2.1 (yac HX.o.2.2.2.2.2.2 K4.keeps.size) _ rfl);have HK:=zhd K4;clear K4 z1 zl;go_wp2_with fail;refine WA.o.mono ?_;rintro e w6 ⟨v6,rfl,H6⟩;have hE:=zhd HX.o.2.2.2.1;go_upto_region 27 with(fail);go_region_law (first
   |(go_simp;go_at_call 106;refine(ya6 _ _).mono ?_;rintro e w8 ⟨rfl,hB8⟩;have H8:=zhd (znw ((znv w6.heap.size w6).drew) hB8);clear hB8)
   |(go_simp;go_at_call 119;refine(yah b v6 p _ w8 (H6.o.1.ext H8.o) (ybn (s.timers.next+1)) 1 _ ⟨#[]⟩ none 0 0 (yco _ _ _) (by unfold MS.want;exact hlen)).mono ?_;rintro e w9 ⟨v9,rfl,H9⟩))
  all_goals
   go_wp2_with fail;go_ret;exact⟨v9,rfl,zhd ⟨by rw[hE.o,←HI2.o.2.2.1];exact H9.o.1,HK.o.trans (H6.o.2.trans ((MK.ext H8.o).trans H9.o.2))⟩⟩
theorem yiL
  {Z:Nat→Prop}(b:Nat)(v:MV)(p:Img)(s:MS)(W:World)(M:MX TT Z W b v p s)
  (k:Nat)(hk:s.stk.length≤4294967296)(hl:s.made.length≤4294967296)(hZ:∀j,W.heap.size≤j→Z j)(s':MS)
  (nm:ByteArray)(hnm:p.names[k]? =some nm)(hx:s.top.kind=1)(hn0:0≤s.top.num∧s.top.num≤1073741824)(hll:s.timers.list.length≤4294967296∧s.acts.list.length≤4294967296)(hm:¬64≤s.timers.list.length+s.acts.list.length)(hnx:0≤s.acts.next∧s.acts.next≤4611686018427387904)(hz:szV s.pop.top≤1073741824)
  (hs':s'=(({s.pop.pop with acts:=yb2 s.acts}:MS).want ⟨3,0,s.acts.next+1,s.top.num,nm,s.pop.top⟩).push (ybn (s.acts.next+1))):
  Calls Tryz.prog 163 #[.pointer (some ⟨b,0,none⟩),.agg #[.int .i64 20,.int .i64 k]] W (MP Z W b v p (.bool true) s')
  :=by
 obtain⟨w0,hw0⟩:∃w0,w0=W.alloc (.cells #[.int .i64 20,.int .i64 k] 106):=⟨_,rfl⟩;have B0:=zba hw0;have hB:=zha hw0;have PO:=zhd (yag b v p s w0 (M.ext B0));have HX:=zh7 M B0 hB hs' hk hl hZ;clear M B0 hB hs' hk hl hZ;go_enter Tryz.func163,Tryz.ntmps163;go_wp2_with fail;rw[←hw0];clear hw0;refine PO.o.mono ?_;rintro e w1 ⟨v1,⟨ck,cn,cs,la,ln,lc⟩,rfl,H1⟩;have hb1:=(H1.o.2.1.keeps.block W.heap.size (zlt HX.o.2.2.1) (fun e=>by have:=HX.o.1.lt e;omega)).trans HX.o.2.2.1;have d0:=zca hb1 0 rfl;have d1:=zca hb1 1 rfl;have dl:=zlt hb1;have HB:=zhd hb1;clear hb1;have hlen:s.pop.stk.length≤4294967296:=znf (Go.Proofs.YtpagmlndgblhhaaGreatDoor.pop_len s) HX.o.2.2.2.2.1;go_upto_region 15 with(fail);refine yaa ?_;intro w2 hw2;have B2:=zba hw2;have hb2:=zha hw2;have q0:=zca hb2 0 rfl;have q1:=zca hb2 1 rfl;have q2:=zca hb2 2 rfl;have q3:=zca hb2 3 rfl;have l2:=zlt hb2;have HB2:=zhd hb2;have H2:=zh3 B2 (H1.o.1.ext B2) (H1.o.2.2.keep (S:=fun _=>False) (zkb B2) (fun _ _ f=>f));clear hb2 B2 hw2;obtain rfl:ck=1:=H1.o.2.2.kind.trans hx;have hcn:cn=s.top.num:=H1.o.2.2.n;rw[←hcn]at hn0;have n2:decide (cn<0)=false:=znd (by omega)
 first
  |(have n3:decide (1073741824<cn)=false:=znd (by omega))
  |skip
 have hb2:=HB2.o;have hi2:=(H2.o.1.block W.heap.size dl).trans HB.o;have b2:b<w2.heap.size:=zlt H2.o.2.1.h;obtain⟨ta,tc,hts⟩:=(show∃a cap,v1.ts= .slice a s.timers.list.length cap from H2.o.2.1.tms.slice);obtain⟨aa,ac,has⟩:=(show∃a cap,v1.as_= .slice a s.acts.list.length cap from H2.o.2.1.acs.slice);have c12:w2.cell? ⟨b,12,none⟩=some (.slice ta s.timers.list.length tc):=by rw[←hts];exact H2.o.2.1.cell (k:=12) rfl
 have c14:w2.cell? ⟨b,14,none⟩=some (.slice aa s.acts.list.length ac):=by rw[←has];exact H2.o.2.1.cell (k:=14) rfl
 have e0:=zca hi2 0 rfl;have e1:=zca hi2 1 rfl;have el:=zlt hi2;have hsum:IntKind.i64.wrap ((s.timers.list.length:Int)+(s.acts.list.length:Int))=(s.timers.list.length:Int)+(s.acts.list.length:Int):=zmk _ (by omega);have HI2:=zh4 hi2 hb2 hcn hn0;clear hts has hi2 hb2 d0 d1 dl hn0 hcn hx;have n6:decide ((64:Int)≤(s.timers.list.length:Int)+(s.acts.list.length:Int))=false:=znd (by omega);have hl1:=hll.2;have hlen2:s.pop.pop.stk.length≤4294967296:=znf (Go.Proofs.YtpagmlndgblhhaaGreatDoor.pop_len _) hlen;clear hm hll;go_upto_region 17 with(fail);go_region
 all_goals
  have PO:=zhd (yag b v1 p s.pop w2.drew (H2.o.2.1.ext (znv _ _).drew));have z1:w2.drew.cell? ⟨w1.heap.size,1,none⟩=some (.int .i64 cn):=q1;have zl:w1.heap.size<w2.drew.heap.size:=l2;have z2:w2.drew.heap[W.heap.size]? =some (.cells #[.int .i64 20,.int .i64 k] 106 (0,0)):=HI2.o.1;have HN:=zh3 hnx z1 z2;clear q0 q1 q2 q3 hnx c12 c14 e1 z1 z2;have e0:w2.drew.cell? ⟨W.heap.size,0,none⟩=some (.int .i64 20):=e0;go_wp2_with fail;refine PO.o.mono ?_;rintro e w4 ⟨v4,⟨dk,dn,ds,ma,mn,mc⟩,rfl,H4⟩;have y1:w4.cell? ⟨w1.heap.size,1,none⟩=some (.int .i64 cn):=(H4.o.2.1.keeps.cell (p:=⟨w1.heap.size,1,none⟩) zl (fun e=>by have:=H1.o.1.lt e;exact Nat.lt_irrefl _ this)).trans HN.o.2.1;have hw4:=(H4.o.2.1.keeps.block W.heap.size (zlt HN.o.2.2) (fun e=>by
   rcases H1.o.2.1.own _ e with h|h
   ·have:=HX.o.1.lt h;omega
   ·have:=zlt HX.o.2.2.1;omega)).trans HN.o.2.2
  have l4:w1.heap.size<w4.heap.size:=znj zl H4.o.2.1.keeps.size;have K4:MK b v W v4 w4:=(MK.ext HX.o.2.1).trans (H1.o.2.1.trans ((MK.ext H2.o.1.drew).trans H4.o.2.1));have HK:=zh2 K4 hw4;clear K4 hw4 zl e0 el;go_upto_region 21 with(fail);refine yaa ?_;intro w5 hw5;have B5:=zba hw5;have hb5:=zha hw5;have y2:=(B5.cell (p:=⟨w1.heap.size,1,none⟩) l4).trans y1;have hi5:=(B5.block W.heap.size (zlt HK.o.2)).trans HK.o.2;have l6:=znj l4 B5.size;have BG:=zhd (yf1 b v4 p s.pop.pop w5 (H4.o.1.ext B5) HN.o.1 hl1 _ rfl);have H5:=zh4 B5 hb5 hi5 y2;clear hw5 B5 hb5 hi5 y1 y2 l4;go_wp2_with fail;refine BG.o.mono ?_;rintro e w6 ⟨v6,rfl,H6⟩;have no4:∀j,w4.heap.size≤j→¬MO v4 b j:=fun j hj e=>by have:=H4.o.1.lt e;omega
  have no1:¬MO v4 b w1.heap.size:=fun e=>by
   rcases H4.o.2.1.own _ e with h|h
   ·have:=H1.o.1.lt h;omega
   ·have h:w2.heap.size≤w1.heap.size:=h;omega
  have noW:¬MO v4 b W.heap.size:=fun e=>by
   rcases H4.o.2.1.own _ e with h|h
   ·rcases H1.o.2.1.own _ h with h|h
    ·have:=HX.o.1.lt h;omega
    ·have:=zlt HX.o.2.2.1;omega
   ·have h:w2.heap.size≤W.heap.size:=h
    have:=HX.o.2.1.size;have:=H1.o.2.1.keeps.size;omega
  have hb6:=(H6.o.2.keeps.block w4.heap.size (zlt H5.o.2.1) (no4 _ (znc _))).trans H5.o.2.1;have hi6:=(H6.o.2.keeps.block W.heap.size (zlt H5.o.2.2.1) noW).trans H5.o.2.2.1;have y3:w6.cell? ⟨w1.heap.size,1,none⟩=some (.int .i64 cn):=(H6.o.2.keeps.cell (p:=⟨w1.heap.size,1,none⟩) l6 no1).trans H5.o.2.2.2;have l7:w1.heap.size<w6.heap.size:=znj l6 H6.o.2.keeps.size;have e1:=zca hi6 1 rfl;have e0:=zca hi6 0 rfl;have el:=zlt hi6;have r0:=zca hb6 0 rfl;have r1:=zca hb6 1 rfl;have r2:=zca hb6 2 rfl;have r3:=zca hb6 3 rfl;have rl:=zlt hb6;obtain⟨ng,noff,hna,_,_,ngl,nm0⟩:=H6.o.1.img.name_at (znv _ _) hnm;have hnn:=H6.o.1.img.lens.2.2;have c3:w6.cell? ⟨b,3,none⟩=some (.slice v6.ic.na v6.ic.nn v6.ic.nc):=H6.o.1.cell (k:=3) rfl;rw[hna,hnn]at c3;have hkn:(k:Int)<(p.names.length:Int):=by have:=(zge hnm).1;omega
  have b6:b<w6.heap.size:=zlt H6.o.1.h;have K6:MK b v W v6 w6:=HK.o.1.trans ((MK.ext H5.o.1).trans H6.o.2);have CA:CF (MZ Z v6 b) w6.drew ⟨dk,dn,ds,ma,mn,mc⟩ s.pop.top:=((CF.step H6.o.2 (CF.step (MK.ext H5.o.1) H4.o.2.2))).keep (S:=fun _=>False) (zkb ((znv _ _).drew)) (fun _ _ f=>f);have WA:=zhd (ybS b v6 p _ w6.drew (H6.o.1.ext (znv _ _).drew) 3 0 (s.acts.next+1) cn nm s.pop.top dk dn ds ma mn mc _ CA hz HX.o.2.2.2.2.2.1 (yac HX.o.2.2.2.2.2.2 K6.keeps.size) _ rfl);have HK6:=zhd K6;have hE:=zhd HX.o.2.2.2.1;clear hb6 hi6 hna hnn CA K6 no4 no1 noW l6 hnm;go_upto_region 22 with(fail)
  go_still_tail 15,(by kernel_rfl)
  go_wp2_with fail;refine WA.o.mono ?_;rintro e w7 ⟨v7,rfl,H7⟩
  ·clear r0 r1 r2 r3 c3 nm0 e1 e0 y3
   go_upto_region 23 with(fail);go_region_law (first
    |(go_simp;go_at_call 106;refine(ya6 _ _).mono ?_;rintro e w8 ⟨rfl,hB8⟩;have H8:=zhd (znw ((znv w7.heap.size w7).drew) hB8);clear hB8)
    |(go_simp;go_at_call 119;refine(yah b v7 p _ w8 (H7.o.1.ext H8.o) (ybn (s.acts.next+1)) 1 _ ⟨#[]⟩ none 0 0 (yco _ _ _) (by unfold MS.want;exact hlen2)).mono ?_;rintro e w9 ⟨v9,rfl,H9⟩))
   all_goals
    go_wp2_with fail;go_ret;exact⟨v9,rfl,zhd ⟨by rw[hE.o,←HI2.o.2.2.1];exact H9.o.1,HK6.o.trans ((MK.ext ((znv w6.heap.size w6).drew)).trans (H7.o.2.trans ((MK.ext H8.o).trans H9.o.2)))⟩⟩
end Go.Proofs.YtpagmlndgblhhaaGreatDoor
