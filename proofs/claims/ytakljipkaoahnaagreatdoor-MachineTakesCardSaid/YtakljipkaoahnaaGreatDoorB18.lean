/- Parts of the proof: what the functions and the plain laws give that later parts lean on. Conditions: none beyond those that each theorem names. -/
import Derived.StillTailTactics
import Derived.Test.YtakljipkaoahnaaGreatDoorB17
set_option maxRecDepth 100000
set_option maxHeartbeats 8000000
namespace Go.Proofs.YtakljipkaoahnaaGreatDoor
open Go.RowKit Go.Own Go.Own.MapTy Go.Va Go.Sort
open Go.Own.Cells (sz enc)
theorem findLt_some {nm:ByteArray}:∀{l:List Lt} {i:Nat},findLt nm l=some i→∃x,l[i]? =some x
 |[],i,h=>by cases h
 |y::r,i,h=>by
  rw[findLt]at h
  split at h
  ·cases h;exact⟨y,rfl⟩
  ·cases h2:findLt nm r with
   |none=>rw[h2]at h;cases h
   |some j=>rw[h2]at h;cases h;obtain⟨x,hx⟩:=findLt_some h2;exact⟨x,by simpa using hx⟩
theorem wait_sig_none
  {Z:Nat→Prop}(b:Nat)(v:MV)(p:Img)(s:MS)(W:World)(M:MX TT Z W b v p s)
  (k:Nat)(nm:ByteArray)(hnm:p.names[k]? =some nm)(hf:findLt nm s.letters=none):
  Calls Tryz.prog 133 #[.pointer (some ⟨b,0,none⟩),.agg #[.int .i64 22,.int .i64 k]] W (MP Z W b v p (.bool false) s):=by
 obtain⟨w0,hw0⟩:∃w0,w0=W.alloc (.cells #[.int .i64 22,.int .i64 k] 43):=⟨_,rfl⟩
 have B0:=zba hw0
 have hB:=zha hw0
 have c0:=zca hB 0 rfl
 have c1:=zca hB 1 rfl
 have l0:=zlt hB
 have M0:=M.ext B0
 have hbW:=zlt M.h
 have b0:b<w0.heap.size:=zlt M0.h
 obtain⟨ng,noff,hna,_,_,ngl,nm0⟩:=M0.img.name_at (Below.refl _ _) hnm
 have hnn:=M0.img.lens.2.2
 have c3:w0.cell? ⟨b,3,none⟩=some (.slice v.ic.na v.ic.nn v.ic.nc):=M0.cell (k:=3) rfl
 rw[hna,hnn]at c3
 have hkn:(k:Int)<(p.names.length:Int):=by have:=(zge hnm).1;omega
 clear hna hnn
 have LT:=zhd (letter_any b v p s w0.drew (M0.ext (Below.refl _ _).drew) nm (-1) (by unfold ltI;rw[hf]))
 have HX:=zh2 M B0
 clear M M0 B0 hB hnm hf
 go_enter Tryz.func133,Tryz.ntmps133
 go_wp2_with fail
 rw[←hw0]
 clear hw0
 go_still_tail 10,(by kernel_rfl)
 go_wp2_with fail
 refine LT.out.mono ?_
 rintro e w2 ⟨rfl,hB2⟩
 have HB:=zhd (HX.out.2.trans (Below.trans ((Below.refl w0.heap.size w0).drew) hB2|>.mono HX.out.2.size))
 clear hB2
 go_wp2_with fail
 go_ret
 exact⟨v,rfl,zhd ⟨HX.out.1.ext HB.out,MK.ext HB.out⟩⟩
theorem wait_sig
  {Z:Nat→Prop}(b:Nat)(v:MV)(p:Img)(s:MS)(W:World)(M:MX TT Z W b v p s)
  (k:Nat)(nm:ByteArray)(hnm:p.names[k]? =some nm)(i:Nat)(hf:findLt nm s.letters=some i)(hk:s.stk.length≤4294967296)(hll:s.letters.length≤4294967296)(hat:s.at_≤4294967296)(hZ:∀j,W.heap.size≤j→Z j)(s':MS)(hs':s'=((s.openL i).push (s.letV i)).nxt):
  Calls Tryz.prog 133 #[.pointer (some ⟨b,0,none⟩),.agg #[.int .i64 22,.int .i64 k]] W (MP Z W b v p (.bool true) s'):=by
 have atw:wrap64 ((s.at_:Int)+1)=(s.at_:Int)+1:=by unfold wrap64;omega
 obtain⟨w0,hw0⟩:∃w0,w0=W.alloc (.cells #[.int .i64 22,.int .i64 k] 43):=⟨_,rfl⟩
 have B0:=zba hw0
 have hB:=zha hw0
 have c0:=zca hB 0 rfl
 have c1:=zca hB 1 rfl
 have l0:=zlt hB
 have M0:=M.ext B0
 have hbW:=zlt M.h
 have b0:b<w0.heap.size:=zlt M0.h
 obtain⟨ng,noff,hna,_,_,ngl,nm0⟩:=M0.img.name_at (Below.refl _ _) hnm
 have hnn:=M0.img.lens.2.2
 have c3:w0.cell? ⟨b,3,none⟩=some (.slice v.ic.na v.ic.nn v.ic.nc):=M0.cell (k:=3) rfl
 rw[hna,hnn]at c3
 have hkn:(k:Int)<(p.names.length:Int):=by have:=(zge hnm).1;omega
 clear hna hnn
 have LT:=zhd (letter_any b v p s w0.drew (M0.ext (Below.refl _ _).drew) nm (i:Int) (by unfold ltI;rw[hf]))
 obtain⟨x,hx⟩:=findLt_some hf
 have HX:=zh5 M B0 hx hll hZ
 have hE:=zhd hs'
 have n8:decide ((i:Int)<0)=false:=decide_eq_false (by omega)
 clear M M0 B0 hB hnm hf hx hll hZ hs'
 go_enter Tryz.func133,Tryz.ntmps133
 go_wp2_with fail
 rw[←hw0]
 clear hw0
 go_still_tail 10,(by kernel_rfl)
 go_wp2_with fail
 refine LT.out.mono ?_
 rintro e w2 ⟨rfl,hB2⟩
 have B2:Below W.heap.size W w2:=HX.out.2.1.trans (Below.trans ((Below.refl w0.heap.size w0).drew) hB2|>.mono HX.out.2.1.size)
 have OP:=zhd (open_any b v p s w2.drew (HX.out.1.ext B2.drew) i x HX.out.2.2.1 HX.out.2.2.2.1 (hZ_step HX.out.2.2.2.2 B2.size))
 have HB:=zhd B2
 clear hB2 B2 nm0 c3 c0 c1
 go_upto_region 5 with(fail)
 go_region_law (first
  |(go_simp;go_at_call 140;refine OP.out.mono ?_;rintro e w4 ⟨v4,⟨ck,cn,cs,la,ln,lc⟩,rfl,H4⟩)
  |(go_simp;go_at_call 137;refine(push_any b v4 p (s.openL i) w4 H4.out.1 (s.letV i) ck cn cs la ln lc H4.out.2.2 hk).mono ?_;rintro e w6 ⟨v6,rfl,H6⟩))
 all_goals
  have at0:w6.cell? ⟨b,6,none⟩=some (.int .i64 (s.at_:Int)):=H6.out.1.cell (k:=6) rfl
  have atf:∀o,w6.frozen? ⟨b,o,none⟩=false:=fun o=>H6.out.1.frozen o
  have atb:=zlt H6.out.1.h
  have SN:=zhd (H6.out.1.scalar 6 (.int .i64 ((s.at_:Int)+1)) s' (by rw[hE.out];rfl) (by rw[hE.out];rfl) (by rw[hE.out];rfl) (by rw[hE.out];rfl) (by rw[hE.out];rfl) (by rw[hE.out];rfl) (by rw[hE.out];rfl) (by rw[hE.out];rfl))
  go_wp2_with fail
  go_ret
  exact⟨v6,rfl,zhd ⟨SN.out.1,(MK.ext HB.out.drew).trans (H4.out.2.1.trans (H6.out.2.trans SN.out.2))⟩⟩
theorem wait_gone18
  {Z:Nat→Prop}(b:Nat)(v:MV)(p:Img)(s:MS)(W:World)(M:MX TT Z W b v p s)
  (k:Nat)(hx:¬s.top.kind=1∨findT s.top.num s.timers.list=none)(hl:s.made.length≤4294967296)(hZ:∀j,W.heap.size≤j→Z j)(s':MS)(hs':s'=s.tGone):
  Calls Tryz.prog 133 #[.pointer (some ⟨b,0,none⟩),.agg #[.int .i64 18,.int .i64 k]] W (MP Z W b v p (.bool true) s'):=by
 obtain⟨w0,hw0⟩:∃w0,w0=W.alloc (.cells #[.int .i64 18,.int .i64 k] 43):=⟨_,rfl⟩
 have B0:=zba hw0
 have hB:=zha hw0
 have c0:=zca hB 0 rfl
 have c1:=zca hB 1 rfl
 have l0:=zlt hB
 have M0:=M.ext B0
 have hbW:=zlt M.h
 have b0:b<w0.heap.size:=zlt M0.h
 have TP:=zhd (top_any b v p s w0 M0)
 have HX:=zh3 M B0 hB
 clear M M0 B0 hB
 go_enter Tryz.func133,Tryz.ntmps133
 go_wp2_with fail
 rw[←hw0]
 clear hw0
 refine TP.out.mono ?_
 rintro e w1 ⟨v1,⟨ck,cn,cs,la,ln,lc⟩,rfl,H1⟩
 have hb1:=(H1.out.2.1.keeps.block W.heap.size l0 (fun e=>by have:=HX.out.1.lt e;omega)).trans HX.out.2.2
 go_upto_region 12 with(fail)
 refine wp_named ?_
 intro w2 hw2
 have B2:=zba hw2
 have hb2:=zha hw2
 have q0:=zca hb2 0 rfl
 have q1:=zca hb2 1 rfl
 have q2:=zca hb2 2 rfl
 have q3:=zca hb2 3 rfl
 have l2:=zlt hb2
 have HB2:=zhd hb2
 have H2:=zh3 B2 (H1.out.1.ext B2) (H1.out.2.2.keep (S:=fun _=>False) (zkb B2) (fun _ _ f=>f))
 clear hb2 B2 hw2
 have hi2:=(H2.out.1.block W.heap.size (zlt hb1)).trans hb1
 have i0:=zca hi2 0 rfl
 have i1:=zca hi2 1 rfl
 have il:=zlt hi2
 have b2:b<w2.heap.size:=zlt H2.out.2.1.h
 have hts:∃a cap,v1.ts= .slice a s.timers.list.length cap:=H2.out.2.1.tms.slice
 obtain⟨ta,tc,hts⟩:=hts
 have c12:w2.cell? ⟨b,12,none⟩=some (.slice ta s.timers.list.length tc):=by rw[←hts];exact H2.out.2.1.cell (k:=12) rfl
 have FI:=zhd (fun r hr=>find_any b 12 cn s.timers.list ta tc _ w2 c12 (hts▸H2.out.2.1.tms) b2 r hr)
 have K2:MK b v W v1 w2:=(MK.ext HX.out.2.1).trans (H1.out.2.1.trans (MK.ext H2.out.1))
 have HK:=zh2 K2 hi2
 clear hb1 hi2 K2 c0 c1 l0 hbW b0
 clear hts c12
 have hkc:ck=s.top.kind:=H1.out.2.2.kind
 have hcn:cn=s.top.num:=H1.out.2.2.n
 rw[←hkc,←hcn]at hx
 clear hkc hcn
 obtain⟨r,hr⟩:∃r,findI cn s.timers.list=r:=⟨_,rfl⟩
 have FI:=zhd (FI.out r hr)
 have FL:=zhd (fall_any b v1 p s w2 H2.out.2.1 ⟨#[103,111,110,101]⟩ (by decide) hl (hZ_step hZ HK.out.1.keeps.size) s' (hs'.symm))
 go_wp2_with fail
 refine FI.out.mono ?_
 rintro e w3 ⟨rfl,hw⟩
 rw[hw]
 clear hw w3
 by_cases h1:ck=1
 ·subst h1
  have hn:=hx.resolve_left (fun h=>h rfl)
  have hr1:r= -1:=by rw[←hr];unfold findI;rw[hn]
  subst hr1
  clear hn hr hx
  go_wp2_with fail
  refine FL.out.mono ?_
  rintro e w5 ⟨v5,rfl,H5⟩
  go_wp2_with fail
  go_ret
  exact⟨v5,rfl,zhd ⟨H5.out.1,HK.out.1.trans H5.out.2⟩⟩
 ·have n1:(ck==1)=false:=by rw[beq_eq_false_iff_ne];exact h1
  have n2:(ck !=1)=true:=by rw[bne,n1];rfl
  clear hx h1 hr
  go_wp2_with fail
  refine FL.out.mono ?_
  rintro e w5 ⟨v5,rfl,H5⟩
  go_wp2_with fail
  go_ret
  exact⟨v5,rfl,zhd ⟨H5.out.1,HK.out.1.trans H5.out.2⟩⟩
theorem wait_gone28
  {Z:Nat→Prop}(b:Nat)(v:MV)(p:Img)(s:MS)(W:World)(M:MX TT Z W b v p s)
  (k:Nat)(hx:¬s.top.kind=1∨findT s.top.num s.timers.list=none)(hl:s.made.length≤4294967296)(hZ:∀j,W.heap.size≤j→Z j)(s':MS)(hs':s'=s.tGone):
  Calls Tryz.prog 133 #[.pointer (some ⟨b,0,none⟩),.agg #[.int .i64 28,.int .i64 k]] W (MP Z W b v p (.bool true) s'):=by
 obtain⟨w0,hw0⟩:∃w0,w0=W.alloc (.cells #[.int .i64 28,.int .i64 k] 43):=⟨_,rfl⟩
 have B0:=zba hw0
 have hB:=zha hw0
 have c0:=zca hB 0 rfl
 have c1:=zca hB 1 rfl
 have l0:=zlt hB
 have M0:=M.ext B0
 have hbW:=zlt M.h
 have b0:b<w0.heap.size:=zlt M0.h
 have TP:=zhd (top_any b v p s w0 M0)
 have HX:=zh3 M B0 hB
 clear M M0 B0 hB
 go_enter Tryz.func133,Tryz.ntmps133
 go_wp2_with fail
 rw[←hw0]
 clear hw0
 refine TP.out.mono ?_
 rintro e w1 ⟨v1,⟨ck,cn,cs,la,ln,lc⟩,rfl,H1⟩
 have hb1:=(H1.out.2.1.keeps.block W.heap.size l0 (fun e=>by have:=HX.out.1.lt e;omega)).trans HX.out.2.2
 go_upto_region 12 with(fail)
 refine wp_named ?_
 intro w2 hw2
 have B2:=zba hw2
 have hb2:=zha hw2
 have q0:=zca hb2 0 rfl
 have q1:=zca hb2 1 rfl
 have q2:=zca hb2 2 rfl
 have q3:=zca hb2 3 rfl
 have l2:=zlt hb2
 have HB2:=zhd hb2
 have H2:=zh3 B2 (H1.out.1.ext B2) (H1.out.2.2.keep (S:=fun _=>False) (zkb B2) (fun _ _ f=>f))
 clear hb2 B2 hw2
 have hi2:=(H2.out.1.block W.heap.size (zlt hb1)).trans hb1
 have i0:=zca hi2 0 rfl
 have i1:=zca hi2 1 rfl
 have il:=zlt hi2
 have b2:b<w2.heap.size:=zlt H2.out.2.1.h
 have hts:∃a cap,v1.ts= .slice a s.timers.list.length cap:=H2.out.2.1.tms.slice
 obtain⟨ta,tc,hts⟩:=hts
 have c12:w2.cell? ⟨b,12,none⟩=some (.slice ta s.timers.list.length tc):=by rw[←hts];exact H2.out.2.1.cell (k:=12) rfl
 have FI:=zhd (fun r hr=>find_any b 12 cn s.timers.list ta tc _ w2 c12 (hts▸H2.out.2.1.tms) b2 r hr)
 have K2:MK b v W v1 w2:=(MK.ext HX.out.2.1).trans (H1.out.2.1.trans (MK.ext H2.out.1))
 have HK:=zh2 K2 hi2
 clear hb1 hi2 K2 c0 c1 l0 hbW b0
 clear hts c12
 have hkc:ck=s.top.kind:=H1.out.2.2.kind
 have hcn:cn=s.top.num:=H1.out.2.2.n
 rw[←hkc,←hcn]at hx
 clear hkc hcn
 obtain⟨r,hr⟩:∃r,findI cn s.timers.list=r:=⟨_,rfl⟩
 have FI:=zhd (FI.out r hr)
 have FL:=zhd (fall_any b v1 p s w2 H2.out.2.1 ⟨#[103,111,110,101]⟩ (by decide) hl (hZ_step hZ HK.out.1.keeps.size) s' (hs'.symm))
 go_wp2_with fail
 refine FI.out.mono ?_
 rintro e w3 ⟨rfl,hw⟩
 rw[hw]
 clear hw w3
 by_cases h1:ck=1
 ·subst h1
  have hn:=hx.resolve_left (fun h=>h rfl)
  have hr1:r= -1:=by rw[←hr];unfold findI;rw[hn]
  subst hr1
  clear hn hr hx
  go_wp2_with fail
  refine FL.out.mono ?_
  rintro e w5 ⟨v5,rfl,H5⟩
  go_wp2_with fail
  go_ret
  exact⟨v5,rfl,zhd ⟨H5.out.1,HK.out.1.trans H5.out.2⟩⟩
 ·have n1:(ck==1)=false:=by rw[beq_eq_false_iff_ne];exact h1
  have n2:(ck !=1)=true:=by rw[bne,n1];rfl
  clear hx h1 hr
  go_wp2_with fail
  refine FL.out.mono ?_
  rintro e w5 ⟨v5,rfl,H5⟩
  go_wp2_with fail
  go_ret
  exact⟨v5,rfl,zhd ⟨H5.out.1,HK.out.1.trans H5.out.2⟩⟩
theorem wait_gone21
  {Z:Nat→Prop}(b:Nat)(v:MV)(p:Img)(s:MS)(W:World)(M:MX TT Z W b v p s)
  (k:Nat)(hx:¬s.top.kind=1∨findT s.top.num s.acts.list=none)(hl:s.made.length≤4294967296)(hZ:∀j,W.heap.size≤j→Z j)(s':MS)(hs':s'=s.tGone):
  Calls Tryz.prog 133 #[.pointer (some ⟨b,0,none⟩),.agg #[.int .i64 21,.int .i64 k]] W (MP Z W b v p (.bool true) s'):=by
 obtain⟨w0,hw0⟩:∃w0,w0=W.alloc (.cells #[.int .i64 21,.int .i64 k] 43):=⟨_,rfl⟩
 have B0:=zba hw0
 have hB:=zha hw0
 have c0:=zca hB 0 rfl
 have c1:=zca hB 1 rfl
 have l0:=zlt hB
 have M0:=M.ext B0
 have hbW:=zlt M.h
 have b0:b<w0.heap.size:=zlt M0.h
 have TP:=zhd (top_any b v p s w0 M0)
 have HX:=zh3 M B0 hB
 clear M M0 B0 hB
 go_enter Tryz.func133,Tryz.ntmps133
 go_wp2_with fail
 rw[←hw0]
 clear hw0
 refine TP.out.mono ?_
 rintro e w1 ⟨v1,⟨ck,cn,cs,la,ln,lc⟩,rfl,H1⟩
 have hb1:=(H1.out.2.1.keeps.block W.heap.size l0 (fun e=>by have:=HX.out.1.lt e;omega)).trans HX.out.2.2
 go_upto_region 12 with(fail)
 refine wp_named ?_
 intro w2 hw2
 have B2:=zba hw2
 have hb2:=zha hw2
 have q0:=zca hb2 0 rfl
 have q1:=zca hb2 1 rfl
 have q2:=zca hb2 2 rfl
 have q3:=zca hb2 3 rfl
 have l2:=zlt hb2
 have HB2:=zhd hb2
 have H2:=zh3 B2 (H1.out.1.ext B2) (H1.out.2.2.keep (S:=fun _=>False) (zkb B2) (fun _ _ f=>f))
 clear hb2 B2 hw2
 have hi2:=(H2.out.1.block W.heap.size (zlt hb1)).trans hb1
 have i0:=zca hi2 0 rfl
 have i1:=zca hi2 1 rfl
 have il:=zlt hi2
 have b2:b<w2.heap.size:=zlt H2.out.2.1.h
 have hts:∃a cap,v1.as_= .slice a s.acts.list.length cap:=H2.out.2.1.acs.slice
 obtain⟨ta,tc,hts⟩:=hts
 have c12:w2.cell? ⟨b,14,none⟩=some (.slice ta s.acts.list.length tc):=by rw[←hts];exact H2.out.2.1.cell (k:=14) rfl
 have FI:=zhd (fun r hr=>find_any b 14 cn s.acts.list ta tc _ w2 c12 (hts▸H2.out.2.1.acs) b2 r hr)
 have K2:MK b v W v1 w2:=(MK.ext HX.out.2.1).trans (H1.out.2.1.trans (MK.ext H2.out.1))
 have HK:=zh2 K2 hi2
 clear hb1 hi2 K2 c0 c1 l0 hbW b0
 clear hts c12
 have hkc:ck=s.top.kind:=H1.out.2.2.kind
 have hcn:cn=s.top.num:=H1.out.2.2.n
 rw[←hkc,←hcn]at hx
 clear hkc hcn
 obtain⟨r,hr⟩:∃r,findI cn s.acts.list=r:=⟨_,rfl⟩
 have FI:=zhd (FI.out r hr)
 have FL:=zhd (fall_any b v1 p s w2 H2.out.2.1 ⟨#[103,111,110,101]⟩ (by decide) hl (hZ_step hZ HK.out.1.keeps.size) s' (hs'.symm))
 go_wp2_with fail
 refine FI.out.mono ?_
 rintro e w3 ⟨rfl,hw⟩
 rw[hw]
 clear hw w3
 by_cases h1:ck=1
 ·subst h1
  have hn:=hx.resolve_left (fun h=>h rfl)
  have hr1:r= -1:=by rw[←hr];unfold findI;rw[hn]
  subst hr1
  clear hn hr hx
  go_wp2_with fail
  refine FL.out.mono ?_
  rintro e w5 ⟨v5,rfl,H5⟩
  go_wp2_with fail
  go_ret
  exact⟨v5,rfl,zhd ⟨H5.out.1,HK.out.1.trans H5.out.2⟩⟩
 ·have n1:(ck==1)=false:=by rw[beq_eq_false_iff_ne];exact h1
  have n2:(ck !=1)=true:=by rw[bne,n1];rfl
  clear hx h1 hr
  go_wp2_with fail
  refine FL.out.mono ?_
  rintro e w5 ⟨v5,rfl,H5⟩
  go_wp2_with fail
  go_ret
  exact⟨v5,rfl,zhd ⟨H5.out.1,HK.out.1.trans H5.out.2⟩⟩
theorem wait_stay18
  {Z:Nat→Prop}(b:Nat)(v:MV)(p:Img)(s:MS)(W:World)(M:MX TT Z W b v p s)
  (k i:Nat)(x:Th)(hx:s.top.kind=1)(hf:findT s.top.num s.timers.list=some i)(hxi:s.timers.list[i]? =some x)(hov:x.over=false):
  Calls Tryz.prog 133 #[.pointer (some ⟨b,0,none⟩),.agg #[.int .i64 18,.int .i64 k]] W (MP Z W b v p (.bool false) s):=by
 obtain⟨w0,hw0⟩:∃w0,w0=W.alloc (.cells #[.int .i64 18,.int .i64 k] 43):=⟨_,rfl⟩
 have B0:=zba hw0
 have hB:=zha hw0
 have c0:=zca hB 0 rfl
 have c1:=zca hB 1 rfl
 have l0:=zlt hB
 have M0:=M.ext B0
 have hbW:=zlt M.h
 have b0:b<w0.heap.size:=zlt M0.h
 have TP:=zhd (top_any b v p s w0 M0)
 have HX:=zh3 M B0 hB
 clear M M0 B0 hB
 go_enter Tryz.func133,Tryz.ntmps133
 go_wp2_with fail
 rw[←hw0]
 clear hw0
 refine TP.out.mono ?_
 rintro e w1 ⟨v1,⟨ck,cn,cs,la,ln,lc⟩,rfl,H1⟩
 have hb1:=(H1.out.2.1.keeps.block W.heap.size l0 (fun e=>by have:=HX.out.1.lt e;omega)).trans HX.out.2.2
 go_upto_region 12 with(fail)
 refine wp_named ?_
 intro w2 hw2
 have B2:=zba hw2
 have hb2:=zha hw2
 have q0:=zca hb2 0 rfl
 have q1:=zca hb2 1 rfl
 have q2:=zca hb2 2 rfl
 have q3:=zca hb2 3 rfl
 have l2:=zlt hb2
 have HB2:=zhd hb2
 have H2:=zh3 B2 (H1.out.1.ext B2) (H1.out.2.2.keep (S:=fun _=>False) (zkb B2) (fun _ _ f=>f))
 clear hb2 B2 hw2
 have hi2:=(H2.out.1.block W.heap.size (zlt hb1)).trans hb1
 have i0:=zca hi2 0 rfl
 have i1:=zca hi2 1 rfl
 have il:=zlt hi2
 have b2:b<w2.heap.size:=zlt H2.out.2.1.h
 have hts:∃a cap,v1.ts= .slice a s.timers.list.length cap:=H2.out.2.1.tms.slice
 obtain⟨ta,tc,hts⟩:=hts
 have c12:w2.cell? ⟨b,12,none⟩=some (.slice ta s.timers.list.length tc):=by rw[←hts];exact H2.out.2.1.cell (k:=12) rfl
 have FI:=zhd (fun r hr=>find_any b 12 cn s.timers.list ta tc _ w2 c12 (hts▸H2.out.2.1.tms) b2 r hr)
 have K2:MK b v W v1 w2:=(MK.ext HX.out.2.1).trans (H1.out.2.1.trans (MK.ext H2.out.1))
 have HK:=zh2 K2 hi2
 clear hb1 hi2 K2 c0 c1 l0 hbW b0
 obtain rfl:ck=1:=H1.out.2.2.kind.trans hx
 have hcn:cn=s.top.num:=H1.out.2.2.n
 rw[←hcn]at hf
 have FI:=zhd (FI.out (i:Int) (by unfold findI;rw[hf]))
 have n8:decide ((i:Int)<0)=false:=decide_eq_false (by omega)
 obtain⟨x0,hx0⟩:=Go.Proofs.YtakljipkaoahnaaGreatDoor.findT_some hf
 obtain⟨g,off,c,hta,hg,hc,_,hcs⟩:=(show XRow _ w2 180 (.slice ta s.timers.list.length tc) s.timers.list from hts▸H2.out.2.1.tms).at_ hxi
 have m1:w2.cell? ⟨g,off+i*7+1,none⟩=some (.bool x.over):=by rw[←hc.over];exact hcs 1 _ rfl
 have hix:(i:Int)<s.timers.list.length:=by have:=(zge hxi).1;omega
 subst hta
 rw[hov]at m1
 clear hts hf hxi hx hx0 hcs hc hcn hov
 go_wp2_with fail
 refine FI.out.mono ?_
 rintro e w3 ⟨rfl,hw⟩
 rw[hw]
 clear hw w3
 go_wp2_with fail
 go_ret
 exact⟨v1,rfl,zhd ⟨H2.out.2.1,HK.out.1⟩⟩
theorem wait_stay21
  {Z:Nat→Prop}(b:Nat)(v:MV)(p:Img)(s:MS)(W:World)(M:MX TT Z W b v p s)
  (k i:Nat)(x:Th)(hx:s.top.kind=1)(hf:findT s.top.num s.acts.list=some i)(hxi:s.acts.list[i]? =some x)(hov:x.over=false):
  Calls Tryz.prog 133 #[.pointer (some ⟨b,0,none⟩),.agg #[.int .i64 21,.int .i64 k]] W (MP Z W b v p (.bool false) s):=by
 obtain⟨w0,hw0⟩:∃w0,w0=W.alloc (.cells #[.int .i64 21,.int .i64 k] 43):=⟨_,rfl⟩
 have B0:=zba hw0
 have hB:=zha hw0
 have c0:=zca hB 0 rfl
 have c1:=zca hB 1 rfl
 have l0:=zlt hB
 have M0:=M.ext B0
 have hbW:=zlt M.h
 have b0:b<w0.heap.size:=zlt M0.h
 have TP:=zhd (top_any b v p s w0 M0)
 have HX:=zh3 M B0 hB
 clear M M0 B0 hB
 go_enter Tryz.func133,Tryz.ntmps133
 go_wp2_with fail
 rw[←hw0]
 clear hw0
 refine TP.out.mono ?_
 rintro e w1 ⟨v1,⟨ck,cn,cs,la,ln,lc⟩,rfl,H1⟩
 have hb1:=(H1.out.2.1.keeps.block W.heap.size l0 (fun e=>by have:=HX.out.1.lt e;omega)).trans HX.out.2.2
 go_upto_region 12 with(fail)
 refine wp_named ?_
 intro w2 hw2
 have B2:=zba hw2
 have hb2:=zha hw2
 have q0:=zca hb2 0 rfl
 have q1:=zca hb2 1 rfl
 have q2:=zca hb2 2 rfl
 have q3:=zca hb2 3 rfl
 have l2:=zlt hb2
 have HB2:=zhd hb2
 have H2:=zh3 B2 (H1.out.1.ext B2) (H1.out.2.2.keep (S:=fun _=>False) (zkb B2) (fun _ _ f=>f))
 clear hb2 B2 hw2
 have hi2:=(H2.out.1.block W.heap.size (zlt hb1)).trans hb1
 have i0:=zca hi2 0 rfl
 have i1:=zca hi2 1 rfl
 have il:=zlt hi2
 have b2:b<w2.heap.size:=zlt H2.out.2.1.h
 have hts:∃a cap,v1.as_= .slice a s.acts.list.length cap:=H2.out.2.1.acs.slice
 obtain⟨ta,tc,hts⟩:=hts
 have c12:w2.cell? ⟨b,14,none⟩=some (.slice ta s.acts.list.length tc):=by rw[←hts];exact H2.out.2.1.cell (k:=14) rfl
 have FI:=zhd (fun r hr=>find_any b 14 cn s.acts.list ta tc _ w2 c12 (hts▸H2.out.2.1.acs) b2 r hr)
 have K2:MK b v W v1 w2:=(MK.ext HX.out.2.1).trans (H1.out.2.1.trans (MK.ext H2.out.1))
 have HK:=zh2 K2 hi2
 clear hb1 hi2 K2 c0 c1 l0 hbW b0
 obtain rfl:ck=1:=H1.out.2.2.kind.trans hx
 have hcn:cn=s.top.num:=H1.out.2.2.n
 rw[←hcn]at hf
 have FI:=zhd (FI.out (i:Int) (by unfold findI;rw[hf]))
 have n8:decide ((i:Int)<0)=false:=decide_eq_false (by omega)
 obtain⟨x0,hx0⟩:=Go.Proofs.YtakljipkaoahnaaGreatDoor.findT_some hf
 obtain⟨g,off,c,hta,hg,hc,_,hcs⟩:=(show XRow _ w2 180 (.slice ta s.acts.list.length tc) s.acts.list from hts▸H2.out.2.1.acs).at_ hxi
 have m1:w2.cell? ⟨g,off+i*7+1,none⟩=some (.bool x.over):=by rw[←hc.over];exact hcs 1 _ rfl
 have hix:(i:Int)<s.acts.list.length:=by have:=(zge hxi).1;omega
 subst hta
 rw[hov]at m1
 clear hts hf hxi hx hx0 hcs hc hcn hov
 go_wp2_with fail
 refine FI.out.mono ?_
 rintro e w3 ⟨rfl,hw⟩
 rw[hw]
 clear hw w3
 go_wp2_with fail
 go_ret
 exact⟨v1,rfl,zhd ⟨H2.out.2.1,HK.out.1⟩⟩
theorem wait_timer
  {Z:Nat→Prop}(b:Nat)(v:MV)(p:Img)(s:MS)(W:World)(M:MX TT Z W b v p s)
  (k i:Nat)(x:Th)(hx:s.top.kind=1)(hf:findT s.top.num s.timers.list=some i)(hxi:s.timers.list[i]? =some x)(hov:x.over=true)(hk:s.stk.length≤4294967295)(htl:s.timers.list.length≤4294967296)(hat:s.at_≤4294967296)(hZ:∀j,W.heap.size≤j→Z j)(s':MS)
  (hs':s'=(({s.pop with timers:=⟨s.timers.list.eraseIdx i,s.timers.next⟩}:MS).push (vInt s.now)).nxt):
  Calls Tryz.prog 133 #[.pointer (some ⟨b,0,none⟩),.agg #[.int .i64 18,.int .i64 k]] W (MP Z W b v p (.bool true) s'):=by
 have atw:wrap64 ((s.at_:Int)+1)=(s.at_:Int)+1:=by unfold wrap64;omega
 have hk:s.stk.length≤4294967296:=by omega
 obtain⟨w0,hw0⟩:∃w0,w0=W.alloc (.cells #[.int .i64 18,.int .i64 k] 43):=⟨_,rfl⟩
 have B0:=zba hw0
 have hB:=zha hw0
 have c0:=zca hB 0 rfl
 have c1:=zca hB 1 rfl
 have l0:=zlt hB
 have M0:=M.ext B0
 have hbW:=zlt M.h
 have b0:b<w0.heap.size:=zlt M0.h
 have TP:=zhd (top_any b v p s w0 M0)
 have HX:=zh3 M B0 hB
 clear M M0 B0 hB
 go_enter Tryz.func133,Tryz.ntmps133
 go_wp2_with fail
 rw[←hw0]
 clear hw0
 refine TP.out.mono ?_
 rintro e w1 ⟨v1,⟨ck,cn,cs,la,ln,lc⟩,rfl,H1⟩
 have hb1:=(H1.out.2.1.keeps.block W.heap.size l0 (fun e=>by have:=HX.out.1.lt e;omega)).trans HX.out.2.2
 go_upto_region 12 with(fail)
 refine wp_named ?_
 intro w2 hw2
 have B2:=zba hw2
 have hb2:=zha hw2
 have q0:=zca hb2 0 rfl
 have q1:=zca hb2 1 rfl
 have q2:=zca hb2 2 rfl
 have q3:=zca hb2 3 rfl
 have l2:=zlt hb2
 have HB2:=zhd hb2
 have H2:=zh3 B2 (H1.out.1.ext B2) (H1.out.2.2.keep (S:=fun _=>False) (zkb B2) (fun _ _ f=>f))
 clear hb2 B2 hw2
 have hi2:=(H2.out.1.block W.heap.size (zlt hb1)).trans hb1
 have i0:=zca hi2 0 rfl
 have i1:=zca hi2 1 rfl
 have il:=zlt hi2
 have b2:b<w2.heap.size:=zlt H2.out.2.1.h
 have hts:∃a cap,v1.ts= .slice a s.timers.list.length cap:=H2.out.2.1.tms.slice
 obtain⟨ta,tc,hts⟩:=hts
 have c12:w2.cell? ⟨b,12,none⟩=some (.slice ta s.timers.list.length tc):=by rw[←hts];exact H2.out.2.1.cell (k:=12) rfl
 have FI:=zhd (fun r hr=>find_any b 12 cn s.timers.list ta tc _ w2 c12 (hts▸H2.out.2.1.tms) b2 r hr)
 have K2:MK b v W v1 w2:=(MK.ext HX.out.2.1).trans (H1.out.2.1.trans (MK.ext H2.out.1))
 have HK:=zh2 K2 hi2
 clear hb1 hi2 K2 c0 c1 l0 hbW b0
 obtain rfl:ck=1:=H1.out.2.2.kind.trans hx
 have hcn:cn=s.top.num:=H1.out.2.2.n
 rw[←hcn]at hf
 have FI:=zhd (FI.out (i:Int) (by unfold findI;rw[hf]))
 have n8:decide ((i:Int)<0)=false:=decide_eq_false (by omega)
 obtain⟨x0,hx0⟩:=Go.Proofs.YtakljipkaoahnaaGreatDoor.findT_some hf
 obtain⟨g,off,c,hta,hg,hc,_,hcs⟩:=(show XRow _ w2 180 (.slice ta s.timers.list.length tc) s.timers.list from hts▸H2.out.2.1.tms).at_ hxi
 have m1:w2.cell? ⟨g,off+i*7+1,none⟩=some (.bool x.over):=by rw[←hc.over];exact hcs 1 _ rfl
 have hix:(i:Int)<s.timers.list.length:=by have:=(zge hxi).1;omega
 subst hta
 rw[hov]at m1
 have hE:=zhd hs'
 clear hts hf hx hx0 hcs hc hcn hov hs'
 go_wp2_with fail
 refine FI.out.mono ?_
 rintro e w3 ⟨rfl,hw⟩
 rw[hw]
 clear hw w3
 have PO:=zhd (pop_any b v1 p s w2 H2.out.2.1)
 go_wp2_with fail
 refine PO.out.mono ?_
 rintro e w4 ⟨v4,⟨dk,dn,ds,ma,mn,mc⟩,rfl,H4⟩
 have hW0:¬MO v1 b W.heap.size:=fun e=>by
  rcases H1.out.2.1.own _ e with h|h
  ·have:=HX.out.1.lt h;omega
  ·have h:w0.heap.size≤W.heap.size:=h
   have:=zlt HX.out.2.2
   omega
 have hi4:=(H4.out.2.1.keeps.block W.heap.size (zlt HK.out.2) hW0).trans HK.out.2
 have TK:=zhd (takeTms_any b v4 p s.pop w4 H4.out.1 i x hxi htl {s.pop with timers:=⟨s.timers.list.eraseIdx i,s.timers.next⟩} rfl (hZ_step hZ (Nat.le_trans HK.out.1.keeps.size (Nat.le_trans (Nat.le_refl _) H4.out.2.1.keeps.size))))
 have hlen:s.pop.stk.length≤4294967296:=Nat.le_trans (Go.Proofs.YtakljipkaoahnaaGreatDoor.pop_len s) hk
 go_wp2_with fail
 refine TK.out.mono ?_
 rintro e w5 ⟨v5,⟨tid,tov,⟨zk,zn,zs,za,zl,zc⟩,thow⟩,rfl,H5⟩
 have hW4:¬MO v4 b W.heap.size:=fun e=>by
  rcases H4.out.2.1.own _ e with h|h
  ·exact hW0 h
  ·have:=zlt HK.out.2;omega
 have hi5:=(H5.out.2.1.keeps.block W.heap.size (zlt hi4) hW4).trans hi4
 go_upto_region 27 with(fail)
 refine wp_named ?_
 intro w6 hw6
 have B6:=zba hw6
 have hb6:=zha hw6
 have hi6:=(B6.block W.heap.size (zlt hi5)).trans hi5
 have u2:=zca hb6 2 rfl
 have u3:=zca hb6 3 rfl
 have u4:=zca hb6 4 rfl
 have u5:=zca hb6 5 rfl
 have u6:=zca hb6 6 rfl
 have ul:=zlt hb6
 have k0:=zca hi6 0 rfl
 have kl:=zlt hi6
 have M6:=H5.out.1.ext B6
 have c11:w6.cell? ⟨b,11,none⟩=some (.int .i64 s.now):=M6.cell (k:=11) rfl
 have b6:=zlt M6.h
 have K6:MK b v W v5 w6:=HK.out.1.trans ((MK.refl b v1 w2).trans (H4.out.2.1.trans (H5.out.2.1.trans (MK.ext B6))))
 have C6:=CF.step (MK.ext B6) H5.out.2.2.v
 have H6:=zh5 M6 K6 C6 H5.out.2.2.how hb6
 clear hi4 hi5 hi6 hb6 hw6 B6 M6 K6 C6 hW0 hW4
 go_upto_region 31 with(fail)
 go_region_law (first
  |(go_simp;go_at_call 48;refine(vof_any _ _).mono ?_;rintro e w8 ⟨rfl,hB8⟩;have H8:=zhd (Below.trans ((Below.refl w6.heap.size w6).drew) hB8);clear hB8)
  |(go_simp;go_at_call 137;refine(push_any b v5 p _ w8 (H6.out.1.ext H8.out) (vInt s.now) 1 _ ⟨#[]⟩ none 0 0 (cf_int _ _ _) hlen).mono ?_;rintro e w9 ⟨v9,rfl,H9⟩))
 all_goals
  have at0:w9.cell? ⟨b,6,none⟩=some (.int .i64 (s.at_:Int)):=H9.out.1.cell (k:=6) rfl
  have atf:∀o,w9.frozen? ⟨b,o,none⟩=false:=fun o=>H9.out.1.frozen o
  have atb:=zlt H9.out.1.h
  have SN:=zhd (H9.out.1.scalar 6 (.int .i64 ((s.at_:Int)+1)) s' (by rw[hE.out];rfl) (by rw[hE.out];rfl) (by rw[hE.out];rfl) (by rw[hE.out];rfl) (by rw[hE.out];rfl) (by rw[hE.out];rfl) (by rw[hE.out];rfl) (by rw[hE.out];rfl))
  go_wp2_with fail
  go_ret
  exact⟨v9,rfl,zhd ⟨SN.out.1,H6.out.2.1.trans ((MK.ext H8.out).trans (H9.out.2.trans SN.out.2))⟩⟩
theorem wait_act
  {Z:Nat→Prop}(b:Nat)(v:MV)(p:Img)(s:MS)(W:World)(M:MX TT Z W b v p s)
  (k i:Nat)(x:Th)(hx:s.top.kind=1)(hf:findT s.top.num s.acts.list=some i)(hxi:s.acts.list[i]? =some x)(hov:x.over=true)(hk:s.stk.length≤4294967295)(htl:s.acts.list.length≤4294967296)(hat:s.at_≤4294967296)(hZ:∀j,W.heap.size≤j→Z j)(s':MS)
  (hs':s'=((({s.pop with acts:=⟨s.acts.list.eraseIdx i,s.acts.next⟩}:MS).push x.result).push (vInt x.how)).nxt):
  Calls Tryz.prog 133 #[.pointer (some ⟨b,0,none⟩),.agg #[.int .i64 21,.int .i64 k]] W (MP Z W b v p (.bool true) s'):=by
 have atw:wrap64 ((s.at_:Int)+1)=(s.at_:Int)+1:=by unfold wrap64;omega
 have hk2:=hk
 have hk:s.stk.length≤4294967296:=by omega
 obtain⟨w0,hw0⟩:∃w0,w0=W.alloc (.cells #[.int .i64 21,.int .i64 k] 43):=⟨_,rfl⟩
 have B0:=zba hw0
 have hB:=zha hw0
 have c0:=zca hB 0 rfl
 have c1:=zca hB 1 rfl
 have l0:=zlt hB
 have M0:=M.ext B0
 have hbW:=zlt M.h
 have b0:b<w0.heap.size:=zlt M0.h
 have TP:=zhd (top_any b v p s w0 M0)
 have HX:=zh3 M B0 hB
 clear M M0 B0 hB
 go_enter Tryz.func133,Tryz.ntmps133
 go_wp2_with fail
 rw[←hw0]
 clear hw0
 refine TP.out.mono ?_
 rintro e w1 ⟨v1,⟨ck,cn,cs,la,ln,lc⟩,rfl,H1⟩
 have hb1:=(H1.out.2.1.keeps.block W.heap.size l0 (fun e=>by have:=HX.out.1.lt e;omega)).trans HX.out.2.2
 go_upto_region 12 with(fail)
 refine wp_named ?_
 intro w2 hw2
 have B2:=zba hw2
 have hb2:=zha hw2
 have q0:=zca hb2 0 rfl
 have q1:=zca hb2 1 rfl
 have q2:=zca hb2 2 rfl
 have q3:=zca hb2 3 rfl
 have l2:=zlt hb2
 have HB2:=zhd hb2
 have H2:=zh3 B2 (H1.out.1.ext B2) (H1.out.2.2.keep (S:=fun _=>False) (zkb B2) (fun _ _ f=>f))
 clear hb2 B2 hw2
 have hi2:=(H2.out.1.block W.heap.size (zlt hb1)).trans hb1
 have i0:=zca hi2 0 rfl
 have i1:=zca hi2 1 rfl
 have il:=zlt hi2
 have b2:b<w2.heap.size:=zlt H2.out.2.1.h
 have hts:∃a cap,v1.as_= .slice a s.acts.list.length cap:=H2.out.2.1.acs.slice
 obtain⟨ta,tc,hts⟩:=hts
 have c12:w2.cell? ⟨b,14,none⟩=some (.slice ta s.acts.list.length tc):=by rw[←hts];exact H2.out.2.1.cell (k:=14) rfl
 have FI:=zhd (fun r hr=>find_any b 14 cn s.acts.list ta tc _ w2 c12 (hts▸H2.out.2.1.acs) b2 r hr)
 have K2:MK b v W v1 w2:=(MK.ext HX.out.2.1).trans (H1.out.2.1.trans (MK.ext H2.out.1))
 have HK:=zh2 K2 hi2
 clear hb1 hi2 K2 c0 c1 l0 hbW b0
 obtain rfl:ck=1:=H1.out.2.2.kind.trans hx
 have hcn:cn=s.top.num:=H1.out.2.2.n
 rw[←hcn]at hf
 have FI:=zhd (FI.out (i:Int) (by unfold findI;rw[hf]))
 have n8:decide ((i:Int)<0)=false:=decide_eq_false (by omega)
 obtain⟨x0,hx0⟩:=Go.Proofs.YtakljipkaoahnaaGreatDoor.findT_some hf
 obtain⟨g,off,c,hta,hg,hc,_,hcs⟩:=(show XRow _ w2 180 (.slice ta s.acts.list.length tc) s.acts.list from hts▸H2.out.2.1.acs).at_ hxi
 have m1:w2.cell? ⟨g,off+i*7+1,none⟩=some (.bool x.over):=by rw[←hc.over];exact hcs 1 _ rfl
 have hix:(i:Int)<s.acts.list.length:=by have:=(zge hxi).1;omega
 subst hta
 rw[hov]at m1
 have hE:=zhd hs'
 clear hts hf hx hx0 hcs hc hcn hov hs'
 go_wp2_with fail
 refine FI.out.mono ?_
 rintro e w3 ⟨rfl,hw⟩
 rw[hw]
 clear hw w3
 have PO:=zhd (pop_any b v1 p s w2 H2.out.2.1)
 go_wp2_with fail
 refine PO.out.mono ?_
 rintro e w4 ⟨v4,⟨dk,dn,ds,ma,mn,mc⟩,rfl,H4⟩
 have hW0:¬MO v1 b W.heap.size:=fun e=>by
  rcases H1.out.2.1.own _ e with h|h
  ·have:=HX.out.1.lt h;omega
  ·have h:w0.heap.size≤W.heap.size:=h
   have:=zlt HX.out.2.2
   omega
 have hi4:=(H4.out.2.1.keeps.block W.heap.size (zlt HK.out.2) hW0).trans HK.out.2
 have TK:=zhd (takeAcs_any b v4 p s.pop w4 H4.out.1 i x hxi htl {s.pop with acts:=⟨s.acts.list.eraseIdx i,s.acts.next⟩} rfl (hZ_step hZ (Nat.le_trans HK.out.1.keeps.size (Nat.le_trans (Nat.le_refl _) H4.out.2.1.keeps.size))))
 have hlen:s.pop.stk.length≤4294967296:=Nat.le_trans (Go.Proofs.YtakljipkaoahnaaGreatDoor.pop_len s) hk
 go_wp2_with fail
 refine TK.out.mono ?_
 rintro e w5 ⟨v5,⟨tid,tov,⟨zk,zn,zs,za,zl,zc⟩,thow⟩,rfl,H5⟩
 have hW4:¬MO v4 b W.heap.size:=fun e=>by
  rcases H4.out.2.1.own _ e with h|h
  ·exact hW0 h
  ·have:=zlt HK.out.2;omega
 have hi5:=(H5.out.2.1.keeps.block W.heap.size (zlt hi4) hW4).trans hi4
 go_upto_region 27 with(fail)
 refine wp_named ?_
 intro w6 hw6
 have B6:=zba hw6
 have hb6:=zha hw6
 have hi6:=(B6.block W.heap.size (zlt hi5)).trans hi5
 have u2:=zca hb6 2 rfl
 have u3:=zca hb6 3 rfl
 have u4:=zca hb6 4 rfl
 have u5:=zca hb6 5 rfl
 have u6:=zca hb6 6 rfl
 have ul:=zlt hb6
 have k0:=zca hi6 0 rfl
 have kl:=zlt hi6
 have M6:=H5.out.1.ext B6
 have c11:w6.cell? ⟨b,11,none⟩=some (.int .i64 s.now):=M6.cell (k:=11) rfl
 have b6:=zlt M6.h
 have K6:MK b v W v5 w6:=HK.out.1.trans ((MK.refl b v1 w2).trans (H4.out.2.1.trans (H5.out.2.1.trans (MK.ext B6))))
 have C6:=CF.step (MK.ext B6) H5.out.2.2.v
 have H6:=zh5 M6 K6 C6 H5.out.2.2.how hb6
 clear hi4 hi5 hi6 hb6 hw6 B6 M6 K6 C6 hW0 hW4
 have hlen3:(({s.pop with acts:=⟨s.acts.list.eraseIdx i,s.acts.next⟩}:MS).push x.result).stk.length≤4294967296:=by
  show(s.pop.stk++[x.result]).length≤_
  rw[List.length_append,List.length_singleton]
  have:=Go.Proofs.YtakljipkaoahnaaGreatDoor.pop_len s
  omega
 obtain rfl:thow=x.how:=H6.out.2.2.2.1
 go_upto_region 33 with(fail)
 go_region_law ((go_simp;go_at_call 137;refine(push_any b v5 p _ w6.drew (H6.out.1.ext (Below.refl _ _).drew) x.result zk zn zs za zl zc (H6.out.2.2.1.keep (S:=fun _=>False) (zkb ((Below.refl _ _).drew)) (fun _ _ f=>f)) hlen).mono ?_;rintro e w8 ⟨v8,rfl,H8⟩))
 all_goals
  have hb8:=(H8.out.2.keeps.block w5.heap.size ul (fun e=>by have:=H5.out.1.lt e;omega)).trans H6.out.2.2.2.2
  have g6:=zca hb8 6 rfl
  have gl:=zlt hb8
  clear hb8
  go_upto_region 34 with(fail)
  go_region_law (first
   |(go_simp;go_at_call 48;refine(vof_any _ _).mono ?_;rintro e w9 ⟨rfl,hB9⟩;have H9:=zhd (Below.trans ((Below.refl w8.heap.size w8).drew) hB9);clear hB9)
   |(go_simp;go_at_call 137;refine(push_any b v8 p _ w9 (H8.out.1.ext H9.out) (vInt x.how) 1 _ ⟨#[]⟩ none 0 0 (cf_int _ _ _) hlen3).mono ?_;rintro e w10 ⟨v10,rfl,H10⟩))
  all_goals
   have at0:w10.cell? ⟨b,6,none⟩=some (.int .i64 (s.at_:Int)):=H10.out.1.cell (k:=6) rfl
   have atf:∀o,w10.frozen? ⟨b,o,none⟩=false:=fun o=>H10.out.1.frozen o
   have atb:=zlt H10.out.1.h
   have SN:=zhd (H10.out.1.scalar 6 (.int .i64 ((s.at_:Int)+1)) s' (by rw[hE.out];rfl) (by rw[hE.out];rfl) (by rw[hE.out];rfl) (by rw[hE.out];rfl) (by rw[hE.out];rfl) (by rw[hE.out];rfl) (by rw[hE.out];rfl) (by rw[hE.out];rfl))
   go_wp2_with fail
   go_ret
   exact⟨v10,rfl,zhd ⟨SN.out.1,H6.out.2.1.trans ((MK.ext ((Below.refl w6.heap.size w6).drew)).trans (H8.out.2.trans ((MK.ext H9.out).trans (H10.out.2.trans SN.out.2))))⟩⟩
theorem wait_stay28
  {Z:Nat→Prop}(b:Nat)(v:MV)(p:Img)(s:MS)(W:World)(M:MX TT Z W b v p s)
  (k i:Nat)(x:Th)(nm:ByteArray)(hnm:p.names[k]? =some nm)(hlt:findLt nm s.letters=none)(hx:s.top.kind=1)(hf:findT s.top.num s.timers.list=some i)(hxi:s.timers.list[i]? =some x)(hov:x.over=false):
  Calls Tryz.prog 133 #[.pointer (some ⟨b,0,none⟩),.agg #[.int .i64 28,.int .i64 k]] W (MP Z W b v p (.bool false) s):=by
 obtain⟨w0,hw0⟩:∃w0,w0=W.alloc (.cells #[.int .i64 28,.int .i64 k] 43):=⟨_,rfl⟩
 have B0:=zba hw0
 have hB:=zha hw0
 have c0:=zca hB 0 rfl
 have c1:=zca hB 1 rfl
 have l0:=zlt hB
 have M0:=M.ext B0
 have hbW:=zlt M.h
 have b0:b<w0.heap.size:=zlt M0.h
 have TP:=zhd (top_any b v p s w0 M0)
 have HX:=zh3 M B0 hB
 clear M M0 B0 hB
 go_enter Tryz.func133,Tryz.ntmps133
 go_wp2_with fail
 rw[←hw0]
 clear hw0
 refine TP.out.mono ?_
 rintro e w1 ⟨v1,⟨ck,cn,cs,la,ln,lc⟩,rfl,H1⟩
 have hb1:=(H1.out.2.1.keeps.block W.heap.size l0 (fun e=>by have:=HX.out.1.lt e;omega)).trans HX.out.2.2
 go_upto_region 12 with(fail)
 refine wp_named ?_
 intro w2 hw2
 have B2:=zba hw2
 have hb2:=zha hw2
 have q0:=zca hb2 0 rfl
 have q1:=zca hb2 1 rfl
 have q2:=zca hb2 2 rfl
 have q3:=zca hb2 3 rfl
 have l2:=zlt hb2
 have HB2:=zhd hb2
 have H2:=zh3 B2 (H1.out.1.ext B2) (H1.out.2.2.keep (S:=fun _=>False) (zkb B2) (fun _ _ f=>f))
 clear hb2 B2 hw2
 have hi2:=(H2.out.1.block W.heap.size (zlt hb1)).trans hb1
 have i0:=zca hi2 0 rfl
 have i1:=zca hi2 1 rfl
 have il:=zlt hi2
 have b2:b<w2.heap.size:=zlt H2.out.2.1.h
 have hts:∃a cap,v1.ts= .slice a s.timers.list.length cap:=H2.out.2.1.tms.slice
 obtain⟨ta,tc,hts⟩:=hts
 have c12:w2.cell? ⟨b,12,none⟩=some (.slice ta s.timers.list.length tc):=by rw[←hts];exact H2.out.2.1.cell (k:=12) rfl
 have FI:=zhd (fun r hr=>find_any b 12 cn s.timers.list ta tc _ w2 c12 (hts▸H2.out.2.1.tms) b2 r hr)
 have K2:MK b v W v1 w2:=(MK.ext HX.out.2.1).trans (H1.out.2.1.trans (MK.ext H2.out.1))
 have HK:=zh2 K2 hi2
 clear hb1 hi2 K2 c0 c1 l0 hbW b0
 obtain rfl:ck=1:=H1.out.2.2.kind.trans hx
 have hcn:cn=s.top.num:=H1.out.2.2.n
 rw[←hcn]at hf
 have FI:=zhd (FI.out (i:Int) (by unfold findI;rw[hf]))
 have n8:decide ((i:Int)<0)=false:=decide_eq_false (by omega)
 obtain⟨x0,hx0⟩:=Go.Proofs.YtakljipkaoahnaaGreatDoor.findT_some hf
 obtain⟨g,off,c,hta,hg,hc,_,hcs⟩:=(show XRow _ w2 180 (.slice ta s.timers.list.length tc) s.timers.list from hts▸H2.out.2.1.tms).at_ hxi
 have m1:w2.cell? ⟨g,off+i*7+1,none⟩=some (.bool x.over):=by rw[←hc.over];exact hcs 1 _ rfl
 have hix:(i:Int)<s.timers.list.length:=by have:=(zge hxi).1;omega
 subst hta
 rw[hov]at m1
 obtain⟨ng,noff,hna,_,_,ngl,nm0⟩:=H2.out.2.1.img.name_at (Below.refl _ _) hnm
 have hnn:=H2.out.2.1.img.lens.2.2
 have c3:w2.cell? ⟨b,3,none⟩=some (.slice v1.ic.na v1.ic.nn v1.ic.nc):=H2.out.2.1.cell (k:=3) rfl
 rw[hna,hnn]at c3
 have hkn:(k:Int)<(p.names.length:Int):=by have:=(zge hnm).1;omega
 have LT:=zhd (letter_any b v1 p s w2.drew (H2.out.2.1.ext (Below.refl _ _).drew) nm (-1) (by unfold ltI;rw[hlt]))
 have gW:g<w2.heap.size:=hg
 clear hna hnn hnm hts hf hx hx0 hcs hc hcn hg
 go_wp2_with fail
 refine FI.out.mono ?_
 rintro e w3 ⟨rfl,hw⟩
 rw[hw]
 clear hw w3
 go_upto_region 16 with(fail)
 go_still_tail 10,(by kernel_rfl)
 go_wp2_with fail
 refine LT.out.mono ?_
 rintro e w3 ⟨rfl,hB3⟩
 have B3:Below w2.heap.size w2 w3:=Below.trans ((Below.refl w2.heap.size w2).drew) hB3
 have m2:=(B3.cell (p:=⟨g,off+i*7+1,none⟩) gW).trans m1
 have c13:=(B3.cell (p:=⟨b,12,none⟩) b2).trans c12
 have b3:=Nat.lt_of_lt_of_le b2 B3.size
 have g3:=Nat.lt_of_lt_of_le gW B3.size
 have hi3:=(B3.block W.heap.size il).trans HK.out.2
 have j0:=zca hi3 0 rfl
 have jl:=zlt hi3
 have M3:=H2.out.2.1.ext B3
 have H3:=zh3 B3 M3 hi3
 clear B3 hB3 M3 nm0 c3 q0 q1 q2 q3 m1 c12 i0 i1
 go_wp2_with fail
 go_ret
 exact⟨v1,rfl,zhd ⟨H3.out.2.1,HK.out.1.trans (MK.ext H3.out.1)⟩⟩
theorem wait_either
  {Z:Nat→Prop}(b:Nat)(v:MV)(p:Img)(s:MS)(W:World)(M:MX TT Z W b v p s)
  (k i:Nat)(x:Th)(hx:s.top.kind=1)(hf:findT s.top.num s.timers.list=some i)(hxi:s.timers.list[i]? =some x)(hov:x.over=true)(hk:s.stk.length≤4294967295)(htl:s.timers.list.length≤4294967296)(hat:s.at_≤4294967296)(hZ:∀j,W.heap.size≤j→Z j)(s':MS)
  (nm:ByteArray)(hnm:p.names[k]? =some nm)(hlt:findLt nm s.letters=none)
  (hs':s'=((({s.pop with timers:=⟨s.timers.list.eraseIdx i,s.timers.next⟩}:MS).push vNil0).push (vBool false)).nxt):
  Calls Tryz.prog 133 #[.pointer (some ⟨b,0,none⟩),.agg #[.int .i64 28,.int .i64 k]] W (MP Z W b v p (.bool true) s'):=by
 have atw:wrap64 ((s.at_:Int)+1)=(s.at_:Int)+1:=by unfold wrap64;omega
 have hk2:=hk
 have hk:s.stk.length≤4294967296:=by omega
 obtain⟨w0,hw0⟩:∃w0,w0=W.alloc (.cells #[.int .i64 28,.int .i64 k] 43):=⟨_,rfl⟩
 have B0:=zba hw0
 have hB:=zha hw0
 have c0:=zca hB 0 rfl
 have c1:=zca hB 1 rfl
 have l0:=zlt hB
 have M0:=M.ext B0
 have hbW:=zlt M.h
 have b0:b<w0.heap.size:=zlt M0.h
 have TP:=zhd (top_any b v p s w0 M0)
 have HX:=zh3 M B0 hB
 clear M M0 B0 hB
 go_enter Tryz.func133,Tryz.ntmps133
 go_wp2_with fail
 rw[←hw0]
 clear hw0
 refine TP.out.mono ?_
 rintro e w1 ⟨v1,⟨ck,cn,cs,la,ln,lc⟩,rfl,H1⟩
 have hb1:=(H1.out.2.1.keeps.block W.heap.size l0 (fun e=>by have:=HX.out.1.lt e;omega)).trans HX.out.2.2
 go_upto_region 12 with(fail)
 refine wp_named ?_
 intro w2 hw2
 have B2:=zba hw2
 have hb2:=zha hw2
 have q0:=zca hb2 0 rfl
 have q1:=zca hb2 1 rfl
 have q2:=zca hb2 2 rfl
 have q3:=zca hb2 3 rfl
 have l2:=zlt hb2
 have HB2:=zhd hb2
 have H2:=zh3 B2 (H1.out.1.ext B2) (H1.out.2.2.keep (S:=fun _=>False) (zkb B2) (fun _ _ f=>f))
 clear hb2 B2 hw2
 have hi2:=(H2.out.1.block W.heap.size (zlt hb1)).trans hb1
 have i0:=zca hi2 0 rfl
 have i1:=zca hi2 1 rfl
 have il:=zlt hi2
 have b2:b<w2.heap.size:=zlt H2.out.2.1.h
 have hts:∃a cap,v1.ts= .slice a s.timers.list.length cap:=H2.out.2.1.tms.slice
 obtain⟨ta,tc,hts⟩:=hts
 have c12:w2.cell? ⟨b,12,none⟩=some (.slice ta s.timers.list.length tc):=by rw[←hts];exact H2.out.2.1.cell (k:=12) rfl
 have FI:=zhd (fun r hr=>find_any b 12 cn s.timers.list ta tc _ w2 c12 (hts▸H2.out.2.1.tms) b2 r hr)
 have K2:MK b v W v1 w2:=(MK.ext HX.out.2.1).trans (H1.out.2.1.trans (MK.ext H2.out.1))
 have HK:=zh2 K2 hi2
 clear hb1 hi2 K2 c0 c1 l0 hbW b0
 obtain rfl:ck=1:=H1.out.2.2.kind.trans hx
 have hcn:cn=s.top.num:=H1.out.2.2.n
 rw[←hcn]at hf
 have FI:=zhd (FI.out (i:Int) (by unfold findI;rw[hf]))
 have n8:decide ((i:Int)<0)=false:=decide_eq_false (by omega)
 obtain⟨x0,hx0⟩:=Go.Proofs.YtakljipkaoahnaaGreatDoor.findT_some hf
 obtain⟨g,off,c,hta,hg,hc,_,hcs⟩:=(show XRow _ w2 180 (.slice ta s.timers.list.length tc) s.timers.list from hts▸H2.out.2.1.tms).at_ hxi
 have m1:w2.cell? ⟨g,off+i*7+1,none⟩=some (.bool x.over):=by rw[←hc.over];exact hcs 1 _ rfl
 have hix:(i:Int)<s.timers.list.length:=by have:=(zge hxi).1;omega
 subst hta
 rw[hov]at m1
 have hE:=zhd hs'
 clear hs'
 obtain⟨ng,noff,hna,_,_,ngl,nm0⟩:=H2.out.2.1.img.name_at (Below.refl _ _) hnm
 have hnn:=H2.out.2.1.img.lens.2.2
 have c3:w2.cell? ⟨b,3,none⟩=some (.slice v1.ic.na v1.ic.nn v1.ic.nc):=H2.out.2.1.cell (k:=3) rfl
 rw[hna,hnn]at c3
 have hkn:(k:Int)<(p.names.length:Int):=by have:=(zge hnm).1;omega
 have LT:=zhd (letter_any b v1 p s w2.drew (H2.out.2.1.ext (Below.refl _ _).drew) nm (-1) (by unfold ltI;rw[hlt]))
 have gW:g<w2.heap.size:=hg
 clear hna hnn hnm hts hf hx hx0 hcs hc hcn hg
 go_wp2_with fail
 refine FI.out.mono ?_
 rintro e w3 ⟨rfl,hw⟩
 rw[hw]
 clear hw w3
 go_upto_region 16 with(fail)
 go_still_tail 10,(by kernel_rfl)
 go_wp2_with fail
 refine LT.out.mono ?_
 rintro e w3 ⟨rfl,hB3⟩
 have B3:Below w2.heap.size w2 w3:=Below.trans ((Below.refl w2.heap.size w2).drew) hB3
 have m2:=(B3.cell (p:=⟨g,off+i*7+1,none⟩) gW).trans m1
 have c13:=(B3.cell (p:=⟨b,12,none⟩) b2).trans c12
 have b3:=Nat.lt_of_lt_of_le b2 B3.size
 have g3:=Nat.lt_of_lt_of_le gW B3.size
 have hi3:=(B3.block W.heap.size il).trans HK.out.2
 have j0:=zca hi3 0 rfl
 have jl:=zlt hi3
 have M3:=H2.out.2.1.ext B3
 have H3:=zh3 B3 M3 hi3
 clear B3 hB3 M3 nm0 c3 q0 q1 q2 q3 m1 c12 i0 i1
 have PO:=zhd (pop_any b v1 p s w3 H3.out.2.1)
 go_wp2_with fail
 refine PO.out.mono ?_
 rintro e w4 ⟨v4,⟨dk,dn,ds,ma,mn,mc⟩,rfl,H4⟩
 have hW0:¬MO v1 b W.heap.size:=fun e=>by
  rcases H1.out.2.1.own _ e with h|h
  ·have:=HX.out.1.lt h;omega
  ·have h:w0.heap.size≤W.heap.size:=h
   have:=zlt HX.out.2.2
   omega
 have hi4:=(H4.out.2.1.keeps.block W.heap.size (zlt H3.out.2.2) hW0).trans H3.out.2.2
 have TK:=zhd (takeTms_any b v4 p s.pop w4 H4.out.1 i x hxi htl {s.pop with timers:=⟨s.timers.list.eraseIdx i,s.timers.next⟩} rfl (hZ_step hZ (Nat.le_trans HK.out.1.keeps.size (Nat.le_trans H3.out.1.size H4.out.2.1.keeps.size))))
 have hlen:s.pop.stk.length≤4294967296:=Nat.le_trans (Go.Proofs.YtakljipkaoahnaaGreatDoor.pop_len s) hk
 go_wp2_with fail
 refine TK.out.mono ?_
 rintro e w5 ⟨v5,⟨tid,tov,⟨zk,zn,zs,za,zl,zc⟩,thow⟩,rfl,H5⟩
 have hW4:¬MO v4 b W.heap.size:=fun e=>by
  rcases H4.out.2.1.own _ e with h|h
  ·exact hW0 h
  ·have:=zlt H3.out.2.2;omega
 have hi5:=(H5.out.2.1.keeps.block W.heap.size (zlt hi4) hW4).trans hi4
 go_upto_region 27 with(fail)
 refine wp_named ?_
 intro w6 hw6
 have B6:=zba hw6
 have hb6:=zha hw6
 have hi6:=(B6.block W.heap.size (zlt hi5)).trans hi5
 have u2:=zca hb6 2 rfl
 have u3:=zca hb6 3 rfl
 have u4:=zca hb6 4 rfl
 have u5:=zca hb6 5 rfl
 have u6:=zca hb6 6 rfl
 have ul:=zlt hb6
 have k0:=zca hi6 0 rfl
 have kl:=zlt hi6
 have M6:=H5.out.1.ext B6
 have c11:w6.cell? ⟨b,11,none⟩=some (.int .i64 s.now):=M6.cell (k:=11) rfl
 have b6:=zlt M6.h
 have K6:MK b v W v5 w6:=HK.out.1.trans ((MK.ext H3.out.1).trans (H4.out.2.1.trans (H5.out.2.1.trans (MK.ext B6))))
 have C6:=CF.step (MK.ext B6) H5.out.2.2.v
 have H6:=zh5 M6 K6 C6 H5.out.2.2.how hb6
 clear hi4 hi5 hi6 hb6 hw6 B6 M6 K6 C6 hW0 hW4
 have hlen3:(({s.pop with timers:=⟨s.timers.list.eraseIdx i,s.timers.next⟩}:MS).push vNil0).stk.length≤4294967296:=by
  show(s.pop.stk++[vNil0]).length≤_
  rw[List.length_append,List.length_singleton]
  have:=Go.Proofs.YtakljipkaoahnaaGreatDoor.pop_len s
  omega
 have PU:=zhd (push_any b v5 p _ w6 H6.out.1 vNil0 0 0 ⟨#[]⟩ none 0 0 (cf_nil0 _ _) hlen)
 go_wp2_with fail
 refine PU.out.mono ?_
 rintro e w8 ⟨v8,rfl,H8⟩
 go_upto_region 29 with(fail)
 go_region_law (first
  |(go_simp;go_at_call 138;refine(bool_any false _).mono ?_;rintro e w9 ⟨rfl,hB9⟩;have H9:=zhd (Below.trans ((Below.refl w8.heap.size w8).drew) hB9);clear hB9)
  |(go_simp;go_at_call 137;refine(push_any b v8 p _ w9 (H8.out.1.ext H9.out) (vBool false) 1 _ ⟨#[]⟩ none 0 0 (cf_bool _ _ _) hlen3).mono ?_;rintro e w10 ⟨v10,rfl,H10⟩))
 all_goals
  have at0:w10.cell? ⟨b,6,none⟩=some (.int .i64 (s.at_:Int)):=H10.out.1.cell (k:=6) rfl
  have atf:∀o,w10.frozen? ⟨b,o,none⟩=false:=fun o=>H10.out.1.frozen o
  have atb:=zlt H10.out.1.h
  have SN:=zhd (H10.out.1.scalar 6 (.int .i64 ((s.at_:Int)+1)) s' (by rw[hE.out];rfl) (by rw[hE.out];rfl) (by rw[hE.out];rfl) (by rw[hE.out];rfl) (by rw[hE.out];rfl) (by rw[hE.out];rfl) (by rw[hE.out];rfl) (by rw[hE.out];rfl))
  go_wp2_with fail
  go_ret
  exact⟨v10,rfl,zhd ⟨SN.out.1,H6.out.2.1.trans (H8.out.2.trans ((MK.ext H9.out).trans (H10.out.2.trans SN.out.2)))⟩⟩
theorem wait_letter
  {Z:Nat→Prop}(b:Nat)(v:MV)(p:Img)(s:MS)(W:World)(M:MX TT Z W b v p s)
  (k i j:Nat)(x:Th)(nm:ByteArray)(hnm:p.names[k]? =some nm)(hlt:findLt nm s.letters=some j)(hx:s.top.kind=1)(hf:findT s.top.num s.timers.list=some i)(hxi:s.timers.list[i]? =some x)(hk:s.stk.length≤4294967295)(hll:s.letters.length≤4294967296)(hat:s.at_≤4294967296)(hZ:∀j,W.heap.size≤j→Z j)(s':MS)
  (hs':s'=(((s.pop.openL j).push (s.letV j)).push (vBool true)).nxt):
  Calls Tryz.prog 133 #[.pointer (some ⟨b,0,none⟩),.agg #[.int .i64 28,.int .i64 k]] W (MP Z W b v p (.bool true) s'):=by
 have atw:wrap64 ((s.at_:Int)+1)=(s.at_:Int)+1:=by unfold wrap64;omega
 obtain⟨ov,hov⟩:∃ov,x.over=ov:=⟨_,rfl⟩
 obtain⟨lt,hxl⟩:=findLt_some hlt
 obtain⟨w0,hw0⟩:∃w0,w0=W.alloc (.cells #[.int .i64 28,.int .i64 k] 43):=⟨_,rfl⟩
 have B0:=zba hw0
 have hB:=zha hw0
 have c0:=zca hB 0 rfl
 have c1:=zca hB 1 rfl
 have l0:=zlt hB
 have M0:=M.ext B0
 have hbW:=zlt M.h
 have b0:b<w0.heap.size:=zlt M0.h
 have TP:=zhd (top_any b v p s w0 M0)
 have HX:=zh3 M B0 hB
 clear M M0 B0 hB
 go_enter Tryz.func133,Tryz.ntmps133
 go_wp2_with fail
 rw[←hw0]
 clear hw0
 refine TP.out.mono ?_
 rintro e w1 ⟨v1,⟨ck,cn,cs,la,ln,lc⟩,rfl,H1⟩
 have hb1:=(H1.out.2.1.keeps.block W.heap.size l0 (fun e=>by have:=HX.out.1.lt e;omega)).trans HX.out.2.2
 go_upto_region 12 with(fail)
 refine wp_named ?_
 intro w2 hw2
 have B2:=zba hw2
 have hb2:=zha hw2
 have q0:=zca hb2 0 rfl
 have q1:=zca hb2 1 rfl
 have q2:=zca hb2 2 rfl
 have q3:=zca hb2 3 rfl
 have l2:=zlt hb2
 have HB2:=zhd hb2
 have H2:=zh3 B2 (H1.out.1.ext B2) (H1.out.2.2.keep (S:=fun _=>False) (zkb B2) (fun _ _ f=>f))
 clear hb2 B2 hw2
 have hi2:=(H2.out.1.block W.heap.size (zlt hb1)).trans hb1
 have i0:=zca hi2 0 rfl
 have i1:=zca hi2 1 rfl
 have il:=zlt hi2
 have b2:b<w2.heap.size:=zlt H2.out.2.1.h
 have hts:∃a cap,v1.ts= .slice a s.timers.list.length cap:=H2.out.2.1.tms.slice
 obtain⟨ta,tc,hts⟩:=hts
 have c12:w2.cell? ⟨b,12,none⟩=some (.slice ta s.timers.list.length tc):=by rw[←hts];exact H2.out.2.1.cell (k:=12) rfl
 have FI:=zhd (fun r hr=>find_any b 12 cn s.timers.list ta tc _ w2 c12 (hts▸H2.out.2.1.tms) b2 r hr)
 have K2:MK b v W v1 w2:=(MK.ext HX.out.2.1).trans (H1.out.2.1.trans (MK.ext H2.out.1))
 have HK:=zh2 K2 hi2
 clear hb1 hi2 K2 c0 c1 l0 hbW b0
 obtain rfl:ck=1:=H1.out.2.2.kind.trans hx
 have hcn:cn=s.top.num:=H1.out.2.2.n
 rw[←hcn]at hf
 have FI:=zhd (FI.out (i:Int) (by unfold findI;rw[hf]))
 have n8:decide ((i:Int)<0)=false:=decide_eq_false (by omega)
 obtain⟨x0,hx0⟩:=Go.Proofs.YtakljipkaoahnaaGreatDoor.findT_some hf
 obtain⟨g,off,c,hta,hg,hc,_,hcs⟩:=(show XRow _ w2 180 (.slice ta s.timers.list.length tc) s.timers.list from hts▸H2.out.2.1.tms).at_ hxi
 have m1:w2.cell? ⟨g,off+i*7+1,none⟩=some (.bool x.over):=by rw[←hc.over];exact hcs 1 _ rfl
 have hix:(i:Int)<s.timers.list.length:=by have:=(zge hxi).1;omega
 subst hta
 rw[hov]at m1
 have hE:=zhd hs'
 have HXL:=zh3 hxl hk hll
 clear hs' hxl hk hll
 obtain⟨ng,noff,hna,_,_,ngl,nm0⟩:=H2.out.2.1.img.name_at (Below.refl _ _) hnm
 have hnn:=H2.out.2.1.img.lens.2.2
 have c3:w2.cell? ⟨b,3,none⟩=some (.slice v1.ic.na v1.ic.nn v1.ic.nc):=H2.out.2.1.cell (k:=3) rfl
 rw[hna,hnn]at c3
 have hkn:(k:Int)<(p.names.length:Int):=by have:=(zge hnm).1;omega
 have LT:=zhd (letter_any b v1 p s w2.drew (H2.out.2.1.ext (Below.refl _ _).drew) nm (j:Int) (by unfold ltI;rw[hlt]))
 have gW:g<w2.heap.size:=hg
 clear hna hnn hnm hts hf hx hx0 hcs hc hcn hg
 go_wp2_with fail
 refine FI.out.mono ?_
 rintro e w3 ⟨rfl,hw⟩
 rw[hw]
 clear hw w3
 go_upto_region 16 with(fail)
 go_still_tail 10,(by kernel_rfl)
 go_wp2_with fail
 refine LT.out.mono ?_
 rintro e w3 ⟨rfl,hB3⟩
 have B3:Below w2.heap.size w2 w3:=Below.trans ((Below.refl w2.heap.size w2).drew) hB3
 have m2:=(B3.cell (p:=⟨g,off+i*7+1,none⟩) gW).trans m1
 have c13:=(B3.cell (p:=⟨b,12,none⟩) b2).trans c12
 have b3:=Nat.lt_of_lt_of_le b2 B3.size
 have g3:=Nat.lt_of_lt_of_le gW B3.size
 have hi3:=(B3.block W.heap.size il).trans HK.out.2
 have j0:=zca hi3 0 rfl
 have jl:=zlt hi3
 have M3:=H2.out.2.1.ext B3
 have H3:=zh3 B3 M3 hi3
 clear B3 hB3 M3 nm0 c3 q0 q1 q2 q3 m1 c12 i0 i1
 have PO:=zhd (pop_any b v1 p s w3 H3.out.2.1)
 have n9:decide ((0:Int)≤(j:Int))=true:=decide_eq_true (by omega)
 have hlen:s.pop.stk.length≤4294967296:=Nat.le_trans (Go.Proofs.YtakljipkaoahnaaGreatDoor.pop_len s) (by have:=HXL.out.2.1;omega)
 have hlen3:((s.pop.openL j).push (s.letV j)).stk.length≤4294967296:=by
  show(s.pop.stk++[s.letV j]).length≤_
  rw[List.length_append,List.length_singleton]
  have:=Go.Proofs.YtakljipkaoahnaaGreatDoor.pop_len s
  have:=HXL.out.2.1
  omega
 go_wp2_with fail
 refine PO.out.mono ?_
 rintro e w4 ⟨v4,⟨dk,dn,ds,ma,mn,mc⟩,rfl,H4⟩
 have OP:=zhd (open_any b v4 p s.pop w4.drew (H4.out.1.ext (Below.refl _ _).drew) j lt HXL.out.1 HXL.out.2.2 (hZ_step hZ (Nat.le_trans HK.out.1.keeps.size (Nat.le_trans H3.out.1.size H4.out.2.1.keeps.size))))
 clear m2 c13 g3 j0 jl b3
 go_upto_region 19 with(fail)
 go_region_law (first
  |(go_simp;go_at_call 140;refine OP.out.mono ?_;rintro e w5 ⟨v5,⟨ek,en,es,ea,el,ec⟩,rfl,H5⟩)
  |(go_simp;go_at_call 137;refine(push_any b v5 p (s.pop.openL j) w5 H5.out.1 (s.letV j) ek en es ea el ec H5.out.2.2 hlen).mono ?_;rintro e w6 ⟨v6,rfl,H6⟩))
 all_goals
  go_upto_region 20 with(fail)
  go_region_law (first
   |(go_simp;go_at_call 138;refine(bool_any true _).mono ?_;rintro e w9 ⟨rfl,hB9⟩;have H9:=zhd (Below.trans ((Below.refl w6.heap.size w6).drew) hB9);clear hB9)
   |(go_simp;go_at_call 137;refine(push_any b v6 p _ w9 (H6.out.1.ext H9.out) (vBool true) 1 _ ⟨#[]⟩ none 0 0 (cf_bool _ _ _) hlen3).mono ?_;rintro e w10 ⟨v10,rfl,H10⟩))
  all_goals
   have at0:w10.cell? ⟨b,6,none⟩=some (.int .i64 (s.at_:Int)):=H10.out.1.cell (k:=6) rfl
   have atf:∀o,w10.frozen? ⟨b,o,none⟩=false:=fun o=>H10.out.1.frozen o
   have atb:=zlt H10.out.1.h
   have SN:=zhd (H10.out.1.scalar 6 (.int .i64 ((s.at_:Int)+1)) s' (by rw[hE.out];rfl) (by rw[hE.out];rfl) (by rw[hE.out];rfl) (by rw[hE.out];rfl) (by rw[hE.out];rfl) (by rw[hE.out];rfl) (by rw[hE.out];rfl) (by rw[hE.out];rfl))
   go_wp2_with fail
   go_ret
   exact⟨v10,rfl,zhd ⟨SN.out.1,HK.out.1.trans ((MK.ext H3.out.1).trans (H4.out.2.1.trans ((MK.ext ((Below.refl w4.heap.size w4).drew)).trans (H5.out.2.1.trans (H6.out.2.trans ((MK.ext H9.out).trans (H10.out.2.trans SN.out.2)))))))⟩⟩
end Go.Proofs.YtakljipkaoahnaaGreatDoor
