/- Parts of the proof: what the functions and the plain laws give that later parts lean on. Conditions: none beyond those that each theorem names. -/
import Derived.Test.YtakljipkaoahnaaGreatDoorB21
set_option maxRecDepth 100000
set_option maxHeartbeats 8000000
namespace Go.Proofs.YtakljipkaoahnaaGreatDoor
open Go.RowKit Go.Own Go.Own.MapTy Go.Va Go.Sort
open Go.Own.Cells (sz enc)
theorem evCheck_ch (e:Ev):evCheck e=evCh e.kind e.id e.time e.a e.b e.name.size e.text.size e.v.kind (checkL e.v):=by
 unfold evCheck evCh
 cases evHas e.kind<;>rfl
theorem MX.setInput {T:MT}{Z:Nat→Prop}{W:World}{b:Nat}{v:MV}{p:Img}{s:MS}(M:MX T Z W b v p s)(c:VC)(x:Val)(C:CF (MZ Z v b) W c x):
  MX T Z ((((W.setCell ⟨b,7,none⟩ (.int .i64 c.kind)).setCell ⟨b,8,none⟩ (.int .i64 c.n)).setCell ⟨b,9,none⟩ (.string c.s)).setCell ⟨b,10,none⟩ (.slice c.la c.ln c.lc)) b {v with inp:=c} p {s with input:=x}∧
  MK b v W {v with inp:=c} ((((W.setCell ⟨b,7,none⟩ (.int .i64 c.kind)).setCell ⟨b,8,none⟩ (.int .i64 c.n)).setCell ⟨b,9,none⟩ (.string c.s)).setCell ⟨b,10,none⟩ (.slice c.la c.ln c.lc)):=by
 obtain⟨w',hw'⟩:∃w',w'=((((W.setCell ⟨b,7,none⟩ (.int .i64 c.kind)).setCell ⟨b,8,none⟩ (.int .i64 c.n)).setCell ⟨b,9,none⟩ (.string c.s)).setCell ⟨b,10,none⟩ (.slice c.la c.ln c.lc)):=⟨_,rfl⟩
 rw[←hw']
 have K:Keeps (fun j=>j=b) W w':=by rw[hw'];exact four_keep W b 7 8 9 10 _ _ _ _
 have hown:∀i,own {v with inp:=c} b i=own v b i:=fun i=>by
  match i with
  |0=>rfl
  |1=>rfl
  |2=>rfl
  |3=>rfl
  |4=>rfl
  |5=>rfl
  |6=>rfl
  |_+7=>rfl
 have hMO:∀j,MO {v with inp:=c} b j→MO v b j:=fun j ⟨i,h⟩=>⟨i,by rw[←hown i];exact h⟩
 have hF:∀g,MZ Z v b g→¬g=b:=fun g h e=>h.1 ⟨0,by rw[e];rfl⟩
 have hO:∀i g,own v b (i+1)=some g→¬g=b:=fun i g h e=>by
  have:=M.sep (i+1) 0 g h (by rw[e];rfl)
  omega
 have hm:∀g,MZ Z v b g→g<w'.heap.size→MZ Z {v with inp:=c} b g:=fun g h _=>⟨fun e=>h.1 (hMO g e),h.2⟩
 refine⟨⟨?_,(M.stk.keep K hF (fun g hg=>hO 0 g hg)).mono hm,(M.pls.keep K hF (fun g hg=>hO 1 g hg)).mono hm,(M.tms.keep K hF (fun g hg=>hO 2 g hg)).mono hm,(M.acs.keep K hF (fun g hg=>hO 3 g hg)).mono hm,(M.lts.keep K hF (fun g hg=>hO 4 g hg)).mono hm,(M.mds.keep K hF (fun g hg=>hO 5 g hg)).mono hm,(M.img.keep K hF).mono hm,(C.keep K hF).mono hm,fun i j g hi hj=>M.sep i j g (by rw[←hown i];exact hi) (by rw[←hown j];exact hj)⟩,⟨K.mono (fun j _ e=>⟨0,by rw[e];rfl⟩),fun j h=>.inl (hMO j h)⟩⟩
 rw[hw']
 have:=M.h
 simp[World.setCell,Array.getElem?_modify,this,mCells]
theorem apply_bad
  {Z:Nat→Prop}(b:Nat)(v:MV)(p:Img)(s:MS)(W:World)(M:MX TT Z W b v p s)
  {N:Nat}(G:Gl Tryz.prog N W)(id t k a bb:Int)(nm tx:ByteArray)(x:Val)(vk vn:Int)(vs:ByteArray)(la:Option Addr)(ln lc:Nat)(F:Nat→Prop)(C:CF F W ⟨vk,vn,vs,la,ln,lc⟩ x)(hw:x.wf)
  (ck:Int)(hck:evCheck ⟨id,t,k,a,bb,nm,tx,x⟩=ck)(hne:(ck !=0)=true):
  Calls Tryz.prog 20 #[.pointer (some ⟨b,0,none⟩),.agg #[.int .i64 id,.int .i64 t,.int .i64 k,.int .i64 a,.int .i64 bb,.string nm,.string tx,.int .i64 vk,.int .i64 vn,.string vs,.slice la ln lc]] W
   (MP Z W b v p (.int .i64 9) s):=by
 obtain⟨w0,hw0⟩:∃w0,w0=W.alloc (.cells #[.int .i64 id,.int .i64 t,.int .i64 k,.int .i64 a,.int .i64 bb,.string nm,.string tx,.int .i64 vk,.int .i64 vn,.string vs,.slice la ln lc] 60):=⟨_,rfl⟩
 have B0:=zba hw0
 have hB:=zha hw0
 have C0:=C.keep (S:=fun _=>False) (zkb B0) (fun _ _ f=>f)
 have hvk:vk=x.kind:=C.kind
 rw[evCheck_ch]at hck
 dsimp only at hck
 rw[←hvk]at hck
 have EK:=zhd (evcheck_any id t k a bb nm tx vk vn vs la ln lc w0 (G.below B0) (checkL x) (fun W' BW=>check_any x vk vn vs la ln lc F W' (C0.keep (S:=fun _=>False) (zkb BW) (fun _ _ f=>f)) hw _ rfl) _ hck)
 have q0:=zca hB 0 rfl
 have q1:=zca hB 1 rfl
 have q2:=zca hB 2 rfl
 have q3:=zca hB 3 rfl
 have q4:=zca hB 4 rfl
 have q5:=zca hB 5 rfl
 have q6:=zca hB 6 rfl
 have q7:=zca hB 7 rfl
 have q8:=zca hB 8 rfl
 have q9:=zca hB 9 rfl
 have q10:=zca hB 10 rfl
 have ql:=zlt hB
 have HX:=zh4 M B0 hB C
 clear hvk hck C0 B0 hB C M
 go_enter Tryz.func20,Tryz.ntmps20
 go_wp2_with fail
 rw[←hw0]
 clear hw0
 refine EK.out.mono ?_
 rintro e w1 ⟨rfl,hB1⟩
 have B1:Below W.heap.size W w1:=HX.out.2.1.trans (hB1.mono HX.out.2.1.size)
 have hb1:=(hB1.block W.heap.size ql).trans HX.out.2.2.1
 have H1:=zh2 B1 hb1
 clear hB1 EK q0 q1 q2 q3 q4 q5 q6 q7 q8 q9 q10 ql
 clear B1 hb1
 go_wp2_with fail
 go_ret
 exact⟨v,rfl,zhd ⟨HX.out.1.ext H1.out.1,MK.ext H1.out.1⟩⟩
theorem apply_inner
  {Z:Nat→Prop}(b:Nat)(v:MV)(p:Img)(s:MS)(W:World)(M:MX TT Z W b v p s)
  {N:Nat}(G:Gl Tryz.prog N W)(id t k a bb:Int)(nm tx:ByteArray)(x:Val)(vk vn:Int)(vs:ByteArray)(la:Option Addr)(ln lc:Nat)(F:Nat→Prop)(C:CF F W ⟨vk,vn,vs,la,ln,lc⟩ x)(hw:x.wf)
  (hck:evCheck ⟨id,t,k,a,bb,nm,tx,x⟩=0)(ho:evOut k=false):
  Calls Tryz.prog 20 #[.pointer (some ⟨b,0,none⟩),.agg #[.int .i64 id,.int .i64 t,.int .i64 k,.int .i64 a,.int .i64 bb,.string nm,.string tx,.int .i64 vk,.int .i64 vn,.string vs,.slice la ln lc]] W
   (MP Z W b v p (.int .i64 9) s):=by
 obtain⟨w0,hw0⟩:∃w0,w0=W.alloc (.cells #[.int .i64 id,.int .i64 t,.int .i64 k,.int .i64 a,.int .i64 bb,.string nm,.string tx,.int .i64 vk,.int .i64 vn,.string vs,.slice la ln lc] 60):=⟨_,rfl⟩
 have B0:=zba hw0
 have hB:=zha hw0
 have C0:=C.keep (S:=fun _=>False) (zkb B0) (fun _ _ f=>f)
 have hvk:vk=x.kind:=C.kind
 rw[evCheck_ch]at hck
 dsimp only at hck
 rw[←hvk]at hck
 have EK:=zhd (evcheck_any id t k a bb nm tx vk vn vs la ln lc w0 (G.below B0) (checkL x) (fun W' BW=>check_any x vk vn vs la ln lc F W' (C0.keep (S:=fun _=>False) (zkb BW) (fun _ _ f=>f)) hw _ rfl) _ hck)
 have q0:=zca hB 0 rfl
 have q1:=zca hB 1 rfl
 have q2:=zca hB 2 rfl
 have q3:=zca hB 3 rfl
 have q4:=zca hB 4 rfl
 have q5:=zca hB 5 rfl
 have q6:=zca hB 6 rfl
 have q7:=zca hB 7 rfl
 have q8:=zca hB 8 rfl
 have q9:=zca hB 9 rfl
 have q10:=zca hB 10 rfl
 have ql:=zlt hB
 have HX:=zh4 M B0 hB C
 clear hvk hck C0 B0 hB C M
 go_enter Tryz.func20,Tryz.ntmps20
 go_wp2_with fail
 rw[←hw0]
 clear hw0
 refine EK.out.mono ?_
 rintro e w1 ⟨rfl,hB1⟩
 have B1:Below W.heap.size W w1:=HX.out.2.1.trans (hB1.mono HX.out.2.1.size)
 have hb1:=(hB1.block W.heap.size ql).trans HX.out.2.2.1
 have H1:=zh2 B1 hb1
 clear hB1 EK q0 q1 q2 q3 q4 q5 q6 q7 q8 q9 q10 ql
 have q0:=zca hb1 0 rfl
 have q1:=zca hb1 1 rfl
 have q2:=zca hb1 2 rfl
 have q3:=zca hb1 3 rfl
 have q4:=zca hb1 4 rfl
 have q5:=zca hb1 5 rfl
 have q6:=zca hb1 6 rfl
 have q7:=zca hb1 7 rfl
 have q8:=zca hb1 8 rfl
 have q9:=zca hb1 9 rfl
 have q10:=zca hb1 10 rfl
 have ql:=zlt hb1
 have OU:=zhd (outside_any id t k a bb nm tx vk vn vs la ln lc w1 _ ho)
 clear B1 hb1
 go_wp2_with fail
 refine OU.out.mono ?_
 rintro e w2 ⟨rfl,hB2⟩
 have B2:Below W.heap.size W w2:=H1.out.1.trans (hB2.mono H1.out.1.size)
 have hb2:=(hB2.block W.heap.size ql).trans H1.out.2
 have M2:=HX.out.1.ext B2
 have H2:=zh3 B2 hb2 M2
 have c19:w2.cell? ⟨b,19,none⟩=some (.bool s.over):=M2.cell (k:=19) rfl
 have c18:w2.cell? ⟨b,18,none⟩=some (.bool s.begun):=M2.cell (k:=18) rfl
 have b2:=zlt M2.h
 clear hB2 OU q0 q1 q2 q3 q4 q5 q6 q7 q8 q9 q10 ql B2 M2
 go_wp2_with fail
 go_ret
 exact⟨v,rfl,zhd ⟨H2.out.2.2,MK.ext H2.out.1⟩⟩
theorem apply_over
  {Z:Nat→Prop}(b:Nat)(v:MV)(p:Img)(s:MS)(W:World)(M:MX TT Z W b v p s)
  {N:Nat}(G:Gl Tryz.prog N W)(id t k a bb:Int)(nm tx:ByteArray)(x:Val)(vk vn:Int)(vs:ByteArray)(la:Option Addr)(ln lc:Nat)(F:Nat→Prop)(C:CF F W ⟨vk,vn,vs,la,ln,lc⟩ x)(hw:x.wf)
  (hck:evCheck ⟨id,t,k,a,bb,nm,tx,x⟩=0)(ho:evOut k=true)(hov:s.over=true):
  Calls Tryz.prog 20 #[.pointer (some ⟨b,0,none⟩),.agg #[.int .i64 id,.int .i64 t,.int .i64 k,.int .i64 a,.int .i64 bb,.string nm,.string tx,.int .i64 vk,.int .i64 vn,.string vs,.slice la ln lc]] W
   (MP Z W b v p (.int .i64 181) s):=by
 obtain⟨w0,hw0⟩:∃w0,w0=W.alloc (.cells #[.int .i64 id,.int .i64 t,.int .i64 k,.int .i64 a,.int .i64 bb,.string nm,.string tx,.int .i64 vk,.int .i64 vn,.string vs,.slice la ln lc] 60):=⟨_,rfl⟩
 have B0:=zba hw0
 have hB:=zha hw0
 have C0:=C.keep (S:=fun _=>False) (zkb B0) (fun _ _ f=>f)
 have hvk:vk=x.kind:=C.kind
 rw[evCheck_ch]at hck
 dsimp only at hck
 rw[←hvk]at hck
 have EK:=zhd (evcheck_any id t k a bb nm tx vk vn vs la ln lc w0 (G.below B0) (checkL x) (fun W' BW=>check_any x vk vn vs la ln lc F W' (C0.keep (S:=fun _=>False) (zkb BW) (fun _ _ f=>f)) hw _ rfl) _ hck)
 have q0:=zca hB 0 rfl
 have q1:=zca hB 1 rfl
 have q2:=zca hB 2 rfl
 have q3:=zca hB 3 rfl
 have q4:=zca hB 4 rfl
 have q5:=zca hB 5 rfl
 have q6:=zca hB 6 rfl
 have q7:=zca hB 7 rfl
 have q8:=zca hB 8 rfl
 have q9:=zca hB 9 rfl
 have q10:=zca hB 10 rfl
 have ql:=zlt hB
 have HX:=zh4 M B0 hB C
 clear hvk hck C0 B0 hB C M
 go_enter Tryz.func20,Tryz.ntmps20
 go_wp2_with fail
 rw[←hw0]
 clear hw0
 refine EK.out.mono ?_
 rintro e w1 ⟨rfl,hB1⟩
 have B1:Below W.heap.size W w1:=HX.out.2.1.trans (hB1.mono HX.out.2.1.size)
 have hb1:=(hB1.block W.heap.size ql).trans HX.out.2.2.1
 have H1:=zh2 B1 hb1
 clear hB1 EK q0 q1 q2 q3 q4 q5 q6 q7 q8 q9 q10 ql
 have q0:=zca hb1 0 rfl
 have q1:=zca hb1 1 rfl
 have q2:=zca hb1 2 rfl
 have q3:=zca hb1 3 rfl
 have q4:=zca hb1 4 rfl
 have q5:=zca hb1 5 rfl
 have q6:=zca hb1 6 rfl
 have q7:=zca hb1 7 rfl
 have q8:=zca hb1 8 rfl
 have q9:=zca hb1 9 rfl
 have q10:=zca hb1 10 rfl
 have ql:=zlt hb1
 have OU:=zhd (outside_any id t k a bb nm tx vk vn vs la ln lc w1 _ ho)
 clear B1 hb1
 go_wp2_with fail
 refine OU.out.mono ?_
 rintro e w2 ⟨rfl,hB2⟩
 have B2:Below W.heap.size W w2:=H1.out.1.trans (hB2.mono H1.out.1.size)
 have hb2:=(hB2.block W.heap.size ql).trans H1.out.2
 have M2:=HX.out.1.ext B2
 have H2:=zh3 B2 hb2 M2
 have c19:w2.cell? ⟨b,19,none⟩=some (.bool s.over):=M2.cell (k:=19) rfl
 have c18:w2.cell? ⟨b,18,none⟩=some (.bool s.begun):=M2.cell (k:=18) rfl
 have b2:=zlt M2.h
 clear hB2 OU q0 q1 q2 q3 q4 q5 q6 q7 q8 q9 q10 ql B2 M2
 rw[hov]at c19
 clear hov
 go_wp2_with fail
 go_ret
 exact⟨v,rfl,zhd ⟨H2.out.2.2,MK.ext H2.out.1⟩⟩
theorem apply_state
  {Z:Nat→Prop}(b:Nat)(v:MV)(p:Img)(s:MS)(W:World)(M:MX TT Z W b v p s)
  {N:Nat}(G:Gl Tryz.prog N W)(id t k a bb:Int)(nm tx:ByteArray)(x:Val)(vk vn:Int)(vs:ByteArray)(la:Option Addr)(ln lc:Nat)(F:Nat→Prop)(C:CF F W ⟨vk,vn,vs,la,ln,lc⟩ x)(hw:x.wf)
  (hck:evCheck ⟨id,t,k,a,bb,nm,tx,x⟩=0)(ho:evOut k=true)(hov:s.over=false)(hbg:s.begun=(k==1)):
  Calls Tryz.prog 20 #[.pointer (some ⟨b,0,none⟩),.agg #[.int .i64 id,.int .i64 t,.int .i64 k,.int .i64 a,.int .i64 bb,.string nm,.string tx,.int .i64 vk,.int .i64 vn,.string vs,.slice la ln lc]] W
   (MP Z W b v p (.int .i64 7) s):=by
 obtain⟨w0,hw0⟩:∃w0,w0=W.alloc (.cells #[.int .i64 id,.int .i64 t,.int .i64 k,.int .i64 a,.int .i64 bb,.string nm,.string tx,.int .i64 vk,.int .i64 vn,.string vs,.slice la ln lc] 60):=⟨_,rfl⟩
 have B0:=zba hw0
 have hB:=zha hw0
 have C0:=C.keep (S:=fun _=>False) (zkb B0) (fun _ _ f=>f)
 have hvk:vk=x.kind:=C.kind
 rw[evCheck_ch]at hck
 dsimp only at hck
 rw[←hvk]at hck
 have EK:=zhd (evcheck_any id t k a bb nm tx vk vn vs la ln lc w0 (G.below B0) (checkL x) (fun W' BW=>check_any x vk vn vs la ln lc F W' (C0.keep (S:=fun _=>False) (zkb BW) (fun _ _ f=>f)) hw _ rfl) _ hck)
 have q0:=zca hB 0 rfl
 have q1:=zca hB 1 rfl
 have q2:=zca hB 2 rfl
 have q3:=zca hB 3 rfl
 have q4:=zca hB 4 rfl
 have q5:=zca hB 5 rfl
 have q6:=zca hB 6 rfl
 have q7:=zca hB 7 rfl
 have q8:=zca hB 8 rfl
 have q9:=zca hB 9 rfl
 have q10:=zca hB 10 rfl
 have ql:=zlt hB
 have HX:=zh4 M B0 hB C
 clear hvk hck C0 B0 hB C M
 go_enter Tryz.func20,Tryz.ntmps20
 go_wp2_with fail
 rw[←hw0]
 clear hw0
 refine EK.out.mono ?_
 rintro e w1 ⟨rfl,hB1⟩
 have B1:Below W.heap.size W w1:=HX.out.2.1.trans (hB1.mono HX.out.2.1.size)
 have hb1:=(hB1.block W.heap.size ql).trans HX.out.2.2.1
 have H1:=zh2 B1 hb1
 clear hB1 EK q0 q1 q2 q3 q4 q5 q6 q7 q8 q9 q10 ql
 have q0:=zca hb1 0 rfl
 have q1:=zca hb1 1 rfl
 have q2:=zca hb1 2 rfl
 have q3:=zca hb1 3 rfl
 have q4:=zca hb1 4 rfl
 have q5:=zca hb1 5 rfl
 have q6:=zca hb1 6 rfl
 have q7:=zca hb1 7 rfl
 have q8:=zca hb1 8 rfl
 have q9:=zca hb1 9 rfl
 have q10:=zca hb1 10 rfl
 have ql:=zlt hb1
 have OU:=zhd (outside_any id t k a bb nm tx vk vn vs la ln lc w1 _ ho)
 clear B1 hb1
 go_wp2_with fail
 refine OU.out.mono ?_
 rintro e w2 ⟨rfl,hB2⟩
 have B2:Below W.heap.size W w2:=H1.out.1.trans (hB2.mono H1.out.1.size)
 have hb2:=(hB2.block W.heap.size ql).trans H1.out.2
 have M2:=HX.out.1.ext B2
 have H2:=zh3 B2 hb2 M2
 have c19:w2.cell? ⟨b,19,none⟩=some (.bool s.over):=M2.cell (k:=19) rfl
 have c18:w2.cell? ⟨b,18,none⟩=some (.bool s.begun):=M2.cell (k:=18) rfl
 have b2:=zlt M2.h
 clear hB2 OU q0 q1 q2 q3 q4 q5 q6 q7 q8 q9 q10 ql B2 M2
 rw[hov]at c19
 have q0:=zca hb2 0 rfl
 have q1:=zca hb2 1 rfl
 have q2:=zca hb2 2 rfl
 have q3:=zca hb2 3 rfl
 have q4:=zca hb2 4 rfl
 have q5:=zca hb2 5 rfl
 have q6:=zca hb2 6 rfl
 have q7:=zca hb2 7 rfl
 have q8:=zca hb2 8 rfl
 have q9:=zca hb2 9 rfl
 have q10:=zca hb2 10 rfl
 have ql:=zlt hb2
 clear hov hb2
 rw[hbg]at c18
 clear hbg
 obtain⟨kb,hkb⟩:∃kb,(k==1)=kb:=⟨_,rfl⟩
 rw[hkb]at c18
 go_upto_region 5 with(fail)
 go_region
 all_goals
  go_wp2_with fail
  go_ret
  exact⟨v,rfl,zhd ⟨H2.out.2.2.ext (Below.refl _ _).drew,MK.ext H2.out.1.drew⟩⟩
theorem apply_start
  {Z:Nat→Prop}(b:Nat)(v:MV)(p:Img)(s:MS)(W:World)(M:MX TT Z W b v p s)
  {N:Nat}(G:Gl Tryz.prog N W)(id t a bb:Int)(nm tx:ByteArray)(x:Val)(vk vn:Int)(vs:ByteArray)(la:Option Addr)(ln lc:Nat)(F:Nat→Prop)(C:CF F W ⟨vk,vn,vs,la,ln,lc⟩ x)(hw:x.wf)
  (hck:evCheck ⟨id,t,1,a,bb,nm,tx,x⟩=0)(hov:s.over=false)(hbg:s.begun=false)(hF:∀g,F g→¬MO v b g)(hev:s.events≤4294967296)(hZ:∀j,W.heap.size≤j→Z j)
  (hz:szV x≤1073741824)
  (s1 r:MS)(hs1:hear {s with now:=t,steps:=0,events:=s.events+1} ⟨id,t,1,a,bb,nm,tx,x⟩=s1)(RT:∀(W':World) (v':MV),MX TT Z W' b v' p s1→W.heap.size≤W'.heap.size→Calls Tryz.prog 60 #[.pointer (some ⟨b,0,none⟩)] W' (MP Z W' b v' p (.tuple #[]) r))
  :
  Calls Tryz.prog 20 #[.pointer (some ⟨b,0,none⟩),.agg #[.int .i64 id,.int .i64 t,.int .i64 1,.int .i64 a,.int .i64 bb,.string nm,.string tx,.int .i64 vk,.int .i64 vn,.string vs,.slice la ln lc]] W
   (MP Z W b v p (.int .i64 0) r):=by
 have HRT:=zhd RT
 clear RT
 obtain⟨w0,hw0⟩:∃w0,w0=W.alloc (.cells #[.int .i64 id,.int .i64 t,.int .i64 1,.int .i64 a,.int .i64 bb,.string nm,.string tx,.int .i64 vk,.int .i64 vn,.string vs,.slice la ln lc] 60):=⟨_,rfl⟩
 have B0:=zba hw0
 have hB:=zha hw0
 have C0:=C.keep (S:=fun _=>False) (zkb B0) (fun _ _ f=>f)
 have hvk:vk=x.kind:=C.kind
 rw[evCheck_ch]at hck
 dsimp only at hck
 rw[←hvk]at hck
 have EK:=zhd (evcheck_any id t 1 a bb nm tx vk vn vs la ln lc w0 (G.below B0) (checkL x) (fun W' BW=>check_any x vk vn vs la ln lc F W' (C0.keep (S:=fun _=>False) (zkb BW) (fun _ _ f=>f)) hw _ rfl) _ hck)
 have q0:=zca hB 0 rfl
 have q1:=zca hB 1 rfl
 have q2:=zca hB 2 rfl
 have q3:=zca hB 3 rfl
 have q4:=zca hB 4 rfl
 have q5:=zca hB 5 rfl
 have q6:=zca hB 6 rfl
 have q7:=zca hB 7 rfl
 have q8:=zca hB 8 rfl
 have q9:=zca hB 9 rfl
 have q10:=zca hB 10 rfl
 have ql:=zlt hB
 have HX:=zh4 M B0 hB C
 clear hvk hck C0 B0 hB C M
 go_enter Tryz.func20,Tryz.ntmps20
 go_wp2_with fail
 rw[←hw0]
 clear hw0
 refine EK.out.mono ?_
 rintro e w1 ⟨rfl,hB1⟩
 have B1:Below W.heap.size W w1:=HX.out.2.1.trans (hB1.mono HX.out.2.1.size)
 have hb1:=(hB1.block W.heap.size ql).trans HX.out.2.2.1
 have H1:=zh2 B1 hb1
 clear hB1 EK q0 q1 q2 q3 q4 q5 q6 q7 q8 q9 q10 ql
 have q0:=zca hb1 0 rfl
 have q1:=zca hb1 1 rfl
 have q2:=zca hb1 2 rfl
 have q3:=zca hb1 3 rfl
 have q4:=zca hb1 4 rfl
 have q5:=zca hb1 5 rfl
 have q6:=zca hb1 6 rfl
 have q7:=zca hb1 7 rfl
 have q8:=zca hb1 8 rfl
 have q9:=zca hb1 9 rfl
 have q10:=zca hb1 10 rfl
 have ql:=zlt hb1
 have OU:=zhd (outside_any id t 1 a bb nm tx vk vn vs la ln lc w1 true rfl)
 clear B1 hb1
 go_wp2_with fail
 refine OU.out.mono ?_
 rintro e w2 ⟨rfl,hB2⟩
 have B2:Below W.heap.size W w2:=H1.out.1.trans (hB2.mono H1.out.1.size)
 have hb2:=(hB2.block W.heap.size ql).trans H1.out.2
 have M2:=HX.out.1.ext B2
 have H2:=zh3 B2 hb2 M2
 have c19:w2.cell? ⟨b,19,none⟩=some (.bool s.over):=M2.cell (k:=19) rfl
 have c18:w2.cell? ⟨b,18,none⟩=some (.bool s.begun):=M2.cell (k:=18) rfl
 have b2:=zlt M2.h
 clear hB2 OU q0 q1 q2 q3 q4 q5 q6 q7 q8 q9 q10 ql B2 M2
 have HS1:=zhd hs1
 clear hs1
 rw[hov]at c19
 rw[hbg]at c18
 have q0:=zca hb2 0 rfl
 have q1:=zca hb2 1 rfl
 have q2:=zca hb2 2 rfl
 have q3:=zca hb2 3 rfl
 have q4:=zca hb2 4 rfl
 have q5:=zca hb2 5 rfl
 have q6:=zca hb2 6 rfl
 have q7:=zca hb2 7 rfl
 have q8:=zca hb2 8 rfl
 have q9:=zca hb2 9 rfl
 have q10:=zca hb2 10 rfl
 have ql:=zlt hb2
 clear hov hbg hb2
 have atw:wrap64 ((s.events:Int)+1)=(s.events:Int)+1:=by unfold wrap64;omega
 have c11:w2.cell? ⟨b,11,none⟩=some (.int .i64 s.now):=H2.out.2.2.cell (k:=11) rfl
 have c24:w2.cell? ⟨b,24,none⟩=some (.int .i64 (s.steps:Int)):=H2.out.2.2.cell (k:=24) rfl
 have c23:w2.cell? ⟨b,23,none⟩=some (.int .i64 (s.events:Int)):=H2.out.2.2.cell (k:=23) rfl
 have f0:∀o,w2.frozen? ⟨b,o,none⟩=false:=fun o=>H2.out.2.2.frozen o
 go_upto_region 5 with(fail)
 go_region
 all_goals
  go_upto_region 9 with(fail)
  refine wp_named ?_
  intro w3 hw3
  have S1:=H2.out.2.2.scalar 11 (.int .i64 t) {s with now:=t} rfl rfl rfl rfl rfl rfl rfl rfl
  have S2:=S1.1.scalar 24 (.int .i64 0) {s with now:=t,steps:=0} rfl rfl rfl rfl rfl rfl rfl rfl
  have S3:=S2.1.scalar 23 (.int .i64 ((s.events:Int)+1)) {s with now:=t,steps:=0,events:=s.events+1} rfl rfl rfl rfl rfl rfl rfl rfl
  have S4:=S3.1.ext (Below.refl _ _).drew
  have K4:=S3.2.trans (MK.ext (v:=v) (Below.refl _ _).drew)
  rw[←hw3]at S4 K4
  have K3:MK b v W v w3:=(MK.ext H2.out.1).trans (S1.2.trans (S2.2.trans K4))
  have hb3:w3.heap[W.heap.size]? =some (.cells #[.int .i64 id,.int .i64 t,.int .i64 1,.int .i64 a,.int .i64 bb,.string nm,.string tx,.int .i64 vk,.int .i64 vn,.string vs,.slice la ln lc] 60 (0,0)):=by
   have nb:W.heap.size≠b:=fun e=>by have:=zlt HX.out.1.h;omega
   rw[hw3]
   exact((Below.heap_setCell _ _ _ _ nb).trans ((Below.heap_setCell _ _ _ _ nb).trans (Below.heap_setCell _ _ _ _ nb))).trans H2.out.2.1
  have C3:=HX.out.2.2.2.keep K3.keeps hF
  obtain⟨s0,hs0⟩:∃s0:MS,s0={s with now:=t,steps:=0,events:=s.events+1}:=⟨_,rfl⟩
  rw[←hs0]at S4
  have HS0:=zhd hs0
  have b3:=zlt S4.h
  clear q0 q1 q2 q3 q4 q5 q6 q7 q8 q9 q10 ql c19 c18 c11 c24 c23 f0 b2 S1 S2 S3 K4 hw3 hs0
  have H3:=zh4 S4 K3 C3 hb3
  have q0:=zca hb3 0 rfl
  have q1:=zca hb3 1 rfl
  have q2:=zca hb3 2 rfl
  have q3:=zca hb3 3 rfl
  have q4:=zca hb3 4 rfl
  have q5:=zca hb3 5 rfl
  have q6:=zca hb3 6 rfl
  have q7:=zca hb3 7 rfl
  have q8:=zca hb3 8 rfl
  have q9:=zca hb3 9 rfl
  have q10:=zca hb3 10 rfl
  have ql:=zlt hb3
  have f3:∀o,w3.frozen? ⟨b,o,none⟩=false:=fun o=>H3.out.1.frozen o
  clear S4 K3 C3 hb3
  have CL:=zhd (clone_any x vk vn vs la ln lc F w3 H3.out.2.2.1 hz)
  go_wp2_with fail
  refine CL.out.mono ?_
  rintro e w5 ⟨⟨k8,n8,s8,la8,ln8,lc8⟩,rfl,H5⟩
  have M5:=H3.out.1.ext H5.out.2
  have f5:∀o,w5.frozen? ⟨b,o,none⟩=false:=fun o=>M5.frozen o
  have b5:=zlt M5.h
  have i0:w5.cell? ⟨b,18,none⟩=some (.bool s0.begun):=M5.cell (k:=18) rfl
  have i7:w5.cell? ⟨b,7,none⟩=some (.int .i64 v.inp.kind):=M5.cell (k:=7) rfl
  have i8:w5.cell? ⟨b,8,none⟩=some (.int .i64 v.inp.n):=M5.cell (k:=8) rfl
  have i9:w5.cell? ⟨b,9,none⟩=some (.string v.inp.s):=M5.cell (k:=9) rfl
  have i10:w5.cell? ⟨b,10,none⟩=some (.slice v.inp.la v.inp.ln v.inp.lc):=M5.cell (k:=10) rfl
  have C5:CF (MZ Z v b) w5 ⟨k8,n8,s8,la8,ln8,lc8⟩ (cloneV x):=H5.out.1.mono (fun g hg _=>by
   have hg:w3.heap.size≤g:=hg
   exact⟨fun e=>by have:=H3.out.1.lt e;omega,hZ g (by have:=H3.out.2.1.keeps.size;omega)⟩)
  have S6:=M5.scalar 18 (.bool true) {s0 with begun:=true} rfl rfl rfl rfl rfl rfl rfl rfl
  have K18:Keeps (fun j=>j=b) w5 (w5.setCell ⟨b,18,none⟩ (.bool true)):=Keeps.setCell (S:=fun j=>j=b) (p:=⟨b,18,none⟩) (Keeps.refl _ _) (.inl rfl) _
  have S7:=MX.setInput S6.1 ⟨k8,n8,s8,la8,ln8,lc8⟩ (cloneV x) (C5.keep K18 (fun g h e=>h.1 ⟨0,by rw[e];rfl⟩))
  have HS7:=zh2 S7.1 (H3.out.2.1.trans ((MK.ext H5.out.2).trans (S6.2.trans S7.2)))
  clear M5 C5 S6 S7 K18 q0 q1 q2 q3 q4 q5 q6 q7 q8 q9 q10 ql
  go_upto_region 28 with(fail)
  refine wp_named ?_
  intro w6 hw6
  have S8:=HS7.out
  rw[←hw6]at S8
  have hsx:({s0 with begun:=true,input:=cloneV x}:MS)=s1:=by rw[←HS1.out,HS0.out];rfl
  have M8:MX TT Z w6 b {v with inp:=⟨k8,n8,s8,la8,ln8,lc8⟩} p s1:=hsx▸S8.1
  have K8:=S8.2
  have HRT2:=HRT.out
  have RC:=zhd (HRT2 w6 _ M8 K8.keeps.size)
  have HKK:=zhd K8
  clear S8 hsx M8 K8 HRT2 hw6 f5 b5 i0 i7 i8 i9 i10
  go_wp2_with fail
  refine RC.out.mono ?_
  rintro e w9 ⟨v9,rfl,H9⟩
  go_wp2_with fail
  go_ret
  exact⟨v9,rfl,zhd ⟨H9.out.1,HKK.out.trans H9.out.2⟩⟩
theorem apply_fired
  {Z:Nat→Prop}(b:Nat)(v:MV)(p:Img)(s:MS)(W:World)(M:MX TT Z W b v p s)
  {N:Nat}(G:Gl Tryz.prog N W)(id t a bb:Int)(nm tx:ByteArray)(x:Val)(vk vn:Int)(vs:ByteArray)(la:Option Addr)(ln lc:Nat)(F:Nat→Prop)(C:CF F W ⟨vk,vn,vs,la,ln,lc⟩ x)(hw:x.wf)
  (hck:evCheck ⟨id,t,12,a,bb,nm,tx,x⟩=0)(hov:s.over=false)(hbg:s.begun=true)(hF:∀g,F g→¬MO v b g)(hev:s.events≤4294967296)(hZ:∀j,W.heap.size≤j→Z j)
  (hll:s.timers.list.length≤4294967296)
  (s1 r:MS)(hs1:hear {s with now:=t,steps:=0,events:=s.events+1} ⟨id,t,12,a,bb,nm,tx,x⟩=s1)(RT:∀(W':World) (v':MV),MX TT Z W' b v' p s1→W.heap.size≤W'.heap.size→Calls Tryz.prog 60 #[.pointer (some ⟨b,0,none⟩)] W' (MP Z W' b v' p (.tuple #[]) r))
  :
  Calls Tryz.prog 20 #[.pointer (some ⟨b,0,none⟩),.agg #[.int .i64 id,.int .i64 t,.int .i64 12,.int .i64 a,.int .i64 bb,.string nm,.string tx,.int .i64 vk,.int .i64 vn,.string vs,.slice la ln lc]] W
   (MP Z W b v p (.int .i64 0) r):=by
 have HRT:=zhd RT
 clear RT
 obtain⟨w0,hw0⟩:∃w0,w0=W.alloc (.cells #[.int .i64 id,.int .i64 t,.int .i64 12,.int .i64 a,.int .i64 bb,.string nm,.string tx,.int .i64 vk,.int .i64 vn,.string vs,.slice la ln lc] 60):=⟨_,rfl⟩
 have B0:=zba hw0
 have hB:=zha hw0
 have C0:=C.keep (S:=fun _=>False) (zkb B0) (fun _ _ f=>f)
 have hvk:vk=x.kind:=C.kind
 rw[evCheck_ch]at hck
 dsimp only at hck
 rw[←hvk]at hck
 have EK:=zhd (evcheck_any id t 12 a bb nm tx vk vn vs la ln lc w0 (G.below B0) (checkL x) (fun W' BW=>check_any x vk vn vs la ln lc F W' (C0.keep (S:=fun _=>False) (zkb BW) (fun _ _ f=>f)) hw _ rfl) _ hck)
 have q0:=zca hB 0 rfl
 have q1:=zca hB 1 rfl
 have q2:=zca hB 2 rfl
 have q3:=zca hB 3 rfl
 have q4:=zca hB 4 rfl
 have q5:=zca hB 5 rfl
 have q6:=zca hB 6 rfl
 have q7:=zca hB 7 rfl
 have q8:=zca hB 8 rfl
 have q9:=zca hB 9 rfl
 have q10:=zca hB 10 rfl
 have ql:=zlt hB
 have HX:=zh4 M B0 hB C
 clear hvk hck C0 B0 hB C M
 go_enter Tryz.func20,Tryz.ntmps20
 go_wp2_with fail
 rw[←hw0]
 clear hw0
 refine EK.out.mono ?_
 rintro e w1 ⟨rfl,hB1⟩
 have B1:Below W.heap.size W w1:=HX.out.2.1.trans (hB1.mono HX.out.2.1.size)
 have hb1:=(hB1.block W.heap.size ql).trans HX.out.2.2.1
 have H1:=zh2 B1 hb1
 clear hB1 EK q0 q1 q2 q3 q4 q5 q6 q7 q8 q9 q10 ql
 have q0:=zca hb1 0 rfl
 have q1:=zca hb1 1 rfl
 have q2:=zca hb1 2 rfl
 have q3:=zca hb1 3 rfl
 have q4:=zca hb1 4 rfl
 have q5:=zca hb1 5 rfl
 have q6:=zca hb1 6 rfl
 have q7:=zca hb1 7 rfl
 have q8:=zca hb1 8 rfl
 have q9:=zca hb1 9 rfl
 have q10:=zca hb1 10 rfl
 have ql:=zlt hb1
 have OU:=zhd (outside_any id t 12 a bb nm tx vk vn vs la ln lc w1 true rfl)
 clear B1 hb1
 go_wp2_with fail
 refine OU.out.mono ?_
 rintro e w2 ⟨rfl,hB2⟩
 have B2:Below W.heap.size W w2:=H1.out.1.trans (hB2.mono H1.out.1.size)
 have hb2:=(hB2.block W.heap.size ql).trans H1.out.2
 have M2:=HX.out.1.ext B2
 have H2:=zh3 B2 hb2 M2
 have c19:w2.cell? ⟨b,19,none⟩=some (.bool s.over):=M2.cell (k:=19) rfl
 have c18:w2.cell? ⟨b,18,none⟩=some (.bool s.begun):=M2.cell (k:=18) rfl
 have b2:=zlt M2.h
 clear hB2 OU q0 q1 q2 q3 q4 q5 q6 q7 q8 q9 q10 ql B2 M2
 have HS1:=zhd hs1
 clear hs1
 rw[hov]at c19
 rw[hbg]at c18
 have q0:=zca hb2 0 rfl
 have q1:=zca hb2 1 rfl
 have q2:=zca hb2 2 rfl
 have q3:=zca hb2 3 rfl
 have q4:=zca hb2 4 rfl
 have q5:=zca hb2 5 rfl
 have q6:=zca hb2 6 rfl
 have q7:=zca hb2 7 rfl
 have q8:=zca hb2 8 rfl
 have q9:=zca hb2 9 rfl
 have q10:=zca hb2 10 rfl
 have ql:=zlt hb2
 clear hov hbg hb2
 have atw:wrap64 ((s.events:Int)+1)=(s.events:Int)+1:=by unfold wrap64;omega
 have c11:w2.cell? ⟨b,11,none⟩=some (.int .i64 s.now):=H2.out.2.2.cell (k:=11) rfl
 have c24:w2.cell? ⟨b,24,none⟩=some (.int .i64 (s.steps:Int)):=H2.out.2.2.cell (k:=24) rfl
 have c23:w2.cell? ⟨b,23,none⟩=some (.int .i64 (s.events:Int)):=H2.out.2.2.cell (k:=23) rfl
 have f0:∀o,w2.frozen? ⟨b,o,none⟩=false:=fun o=>H2.out.2.2.frozen o
 go_upto_region 5 with(fail)
 go_region
 all_goals
  go_upto_region 9 with(fail)
  refine wp_named ?_
  intro w3 hw3
  have S1:=H2.out.2.2.scalar 11 (.int .i64 t) {s with now:=t} rfl rfl rfl rfl rfl rfl rfl rfl
  have S2:=S1.1.scalar 24 (.int .i64 0) {s with now:=t,steps:=0} rfl rfl rfl rfl rfl rfl rfl rfl
  have S3:=S2.1.scalar 23 (.int .i64 ((s.events:Int)+1)) {s with now:=t,steps:=0,events:=s.events+1} rfl rfl rfl rfl rfl rfl rfl rfl
  have S4:=S3.1.ext (Below.refl _ _).drew
  have K4:=S3.2.trans (MK.ext (v:=v) (Below.refl _ _).drew)
  rw[←hw3]at S4 K4
  have K3:MK b v W v w3:=(MK.ext H2.out.1).trans (S1.2.trans (S2.2.trans K4))
  have hb3:w3.heap[W.heap.size]? =some (.cells #[.int .i64 id,.int .i64 t,.int .i64 12,.int .i64 a,.int .i64 bb,.string nm,.string tx,.int .i64 vk,.int .i64 vn,.string vs,.slice la ln lc] 60 (0,0)):=by
   have nb:W.heap.size≠b:=fun e=>by have:=zlt HX.out.1.h;omega
   rw[hw3]
   exact((Below.heap_setCell _ _ _ _ nb).trans ((Below.heap_setCell _ _ _ _ nb).trans (Below.heap_setCell _ _ _ _ nb))).trans H2.out.2.1
  have C3:=HX.out.2.2.2.keep K3.keeps hF
  obtain⟨s0,hs0⟩:∃s0:MS,s0={s with now:=t,steps:=0,events:=s.events+1}:=⟨_,rfl⟩
  rw[←hs0]at S4
  have HS0:=zhd hs0
  have b3:=zlt S4.h
  clear q0 q1 q2 q3 q4 q5 q6 q7 q8 q9 q10 ql c19 c18 c11 c24 c23 f0 b2 S1 S2 S3 K4 hw3 hs0
  have H3:=zh4 S4 K3 C3 hb3
  have q0:=zca hb3 0 rfl
  have q1:=zca hb3 1 rfl
  have q2:=zca hb3 2 rfl
  have q3:=zca hb3 3 rfl
  have q4:=zca hb3 4 rfl
  have q5:=zca hb3 5 rfl
  have q6:=zca hb3 6 rfl
  have q7:=zca hb3 7 rfl
  have q8:=zca hb3 8 rfl
  have q9:=zca hb3 9 rfl
  have q10:=zca hb3 10 rfl
  have ql:=zlt hb3
  have f3:∀o,w3.frozen? ⟨b,o,none⟩=false:=fun o=>H3.out.1.frozen o
  clear S4 K3 C3 hb3
  have hsx:s1={s0 with timers:=⟨endT a 1 vNil0 s0.timers.list,s0.timers.next⟩}:=by rw[←HS1.out,HS0.out];rfl
  have hl0:s0.timers.list.length≤4294967296:=by rw[HS0.out];exact hll
  have hZ3:=hZ_step hZ H3.out.2.1.keeps.size
  have EN:=zhd (endTms_any b v p s0 w3.drew (H3.out.1.ext (Below.refl _ _).drew) a 1 vNil0 0 0 ⟨#[]⟩ none 0 0 (fun _=>False) (cf_nil0 _ _) (by rw[szV_eq];decide) hl0 hZ3 s1 hsx)
  go_upto_region 13 with(fail)
  go_region_law ((go_simp;go_at_call 58;refine EN.out.mono ?_;rintro e w5 ⟨v5,rfl,H5⟩))
  all_goals
   have RC:=zhd (HRT.out w5 v5 H5.out.1 (Nat.le_trans H3.out.2.1.keeps.size H5.out.2.keeps.size))
   have HKK:=zhd (H3.out.2.1.trans ((MK.ext (Below.refl w3.heap.size w3).drew).trans H5.out.2))
   go_wp2_with fail
   refine RC.out.mono ?_
   rintro e w9 ⟨v9,rfl,H9⟩
   go_wp2_with fail
   go_ret
   exact⟨v9,rfl,zhd ⟨H9.out.1,HKK.out.trans H9.out.2⟩⟩
theorem apply_done
  {Z:Nat→Prop}(b:Nat)(v:MV)(p:Img)(s:MS)(W:World)(M:MX TT Z W b v p s)
  {N:Nat}(G:Gl Tryz.prog N W)(id t a bb:Int)(nm tx:ByteArray)(x:Val)(vk vn:Int)(vs:ByteArray)(la:Option Addr)(ln lc:Nat)(F:Nat→Prop)(C:CF F W ⟨vk,vn,vs,la,ln,lc⟩ x)(hw:x.wf)
  (hck:evCheck ⟨id,t,8,a,bb,nm,tx,x⟩=0)(hov:s.over=false)(hbg:s.begun=true)(hF:∀g,F g→¬MO v b g)(hev:s.events≤4294967296)(hZ:∀j,W.heap.size≤j→Z j)
  (hll:s.acts.list.length≤4294967296)(hz:szV x≤1073741824)
  (s1 r:MS)(hs1:hear {s with now:=t,steps:=0,events:=s.events+1} ⟨id,t,8,a,bb,nm,tx,x⟩=s1)(RT:∀(W':World) (v':MV),MX TT Z W' b v' p s1→W.heap.size≤W'.heap.size→Calls Tryz.prog 60 #[.pointer (some ⟨b,0,none⟩)] W' (MP Z W' b v' p (.tuple #[]) r))
  :
  Calls Tryz.prog 20 #[.pointer (some ⟨b,0,none⟩),.agg #[.int .i64 id,.int .i64 t,.int .i64 8,.int .i64 a,.int .i64 bb,.string nm,.string tx,.int .i64 vk,.int .i64 vn,.string vs,.slice la ln lc]] W
   (MP Z W b v p (.int .i64 0) r):=by
 have HRT:=zhd RT
 clear RT
 obtain⟨w0,hw0⟩:∃w0,w0=W.alloc (.cells #[.int .i64 id,.int .i64 t,.int .i64 8,.int .i64 a,.int .i64 bb,.string nm,.string tx,.int .i64 vk,.int .i64 vn,.string vs,.slice la ln lc] 60):=⟨_,rfl⟩
 have B0:=zba hw0
 have hB:=zha hw0
 have C0:=C.keep (S:=fun _=>False) (zkb B0) (fun _ _ f=>f)
 have hvk:vk=x.kind:=C.kind
 rw[evCheck_ch]at hck
 dsimp only at hck
 rw[←hvk]at hck
 have EK:=zhd (evcheck_any id t 8 a bb nm tx vk vn vs la ln lc w0 (G.below B0) (checkL x) (fun W' BW=>check_any x vk vn vs la ln lc F W' (C0.keep (S:=fun _=>False) (zkb BW) (fun _ _ f=>f)) hw _ rfl) _ hck)
 have q0:=zca hB 0 rfl
 have q1:=zca hB 1 rfl
 have q2:=zca hB 2 rfl
 have q3:=zca hB 3 rfl
 have q4:=zca hB 4 rfl
 have q5:=zca hB 5 rfl
 have q6:=zca hB 6 rfl
 have q7:=zca hB 7 rfl
 have q8:=zca hB 8 rfl
 have q9:=zca hB 9 rfl
 have q10:=zca hB 10 rfl
 have ql:=zlt hB
 have HX:=zh4 M B0 hB C
 clear hvk hck C0 B0 hB C M
 go_enter Tryz.func20,Tryz.ntmps20
 go_wp2_with fail
 rw[←hw0]
 clear hw0
 refine EK.out.mono ?_
 rintro e w1 ⟨rfl,hB1⟩
 have B1:Below W.heap.size W w1:=HX.out.2.1.trans (hB1.mono HX.out.2.1.size)
 have hb1:=(hB1.block W.heap.size ql).trans HX.out.2.2.1
 have H1:=zh2 B1 hb1
 clear hB1 EK q0 q1 q2 q3 q4 q5 q6 q7 q8 q9 q10 ql
 have q0:=zca hb1 0 rfl
 have q1:=zca hb1 1 rfl
 have q2:=zca hb1 2 rfl
 have q3:=zca hb1 3 rfl
 have q4:=zca hb1 4 rfl
 have q5:=zca hb1 5 rfl
 have q6:=zca hb1 6 rfl
 have q7:=zca hb1 7 rfl
 have q8:=zca hb1 8 rfl
 have q9:=zca hb1 9 rfl
 have q10:=zca hb1 10 rfl
 have ql:=zlt hb1
 have OU:=zhd (outside_any id t 8 a bb nm tx vk vn vs la ln lc w1 true rfl)
 clear B1 hb1
 go_wp2_with fail
 refine OU.out.mono ?_
 rintro e w2 ⟨rfl,hB2⟩
 have B2:Below W.heap.size W w2:=H1.out.1.trans (hB2.mono H1.out.1.size)
 have hb2:=(hB2.block W.heap.size ql).trans H1.out.2
 have M2:=HX.out.1.ext B2
 have H2:=zh3 B2 hb2 M2
 have c19:w2.cell? ⟨b,19,none⟩=some (.bool s.over):=M2.cell (k:=19) rfl
 have c18:w2.cell? ⟨b,18,none⟩=some (.bool s.begun):=M2.cell (k:=18) rfl
 have b2:=zlt M2.h
 clear hB2 OU q0 q1 q2 q3 q4 q5 q6 q7 q8 q9 q10 ql B2 M2
 have HS1:=zhd hs1
 clear hs1
 rw[hov]at c19
 rw[hbg]at c18
 have q0:=zca hb2 0 rfl
 have q1:=zca hb2 1 rfl
 have q2:=zca hb2 2 rfl
 have q3:=zca hb2 3 rfl
 have q4:=zca hb2 4 rfl
 have q5:=zca hb2 5 rfl
 have q6:=zca hb2 6 rfl
 have q7:=zca hb2 7 rfl
 have q8:=zca hb2 8 rfl
 have q9:=zca hb2 9 rfl
 have q10:=zca hb2 10 rfl
 have ql:=zlt hb2
 clear hov hbg hb2
 have atw:wrap64 ((s.events:Int)+1)=(s.events:Int)+1:=by unfold wrap64;omega
 have c11:w2.cell? ⟨b,11,none⟩=some (.int .i64 s.now):=H2.out.2.2.cell (k:=11) rfl
 have c24:w2.cell? ⟨b,24,none⟩=some (.int .i64 (s.steps:Int)):=H2.out.2.2.cell (k:=24) rfl
 have c23:w2.cell? ⟨b,23,none⟩=some (.int .i64 (s.events:Int)):=H2.out.2.2.cell (k:=23) rfl
 have f0:∀o,w2.frozen? ⟨b,o,none⟩=false:=fun o=>H2.out.2.2.frozen o
 go_upto_region 5 with(fail)
 go_region
 all_goals
  go_upto_region 9 with(fail)
  refine wp_named ?_
  intro w3 hw3
  have S1:=H2.out.2.2.scalar 11 (.int .i64 t) {s with now:=t} rfl rfl rfl rfl rfl rfl rfl rfl
  have S2:=S1.1.scalar 24 (.int .i64 0) {s with now:=t,steps:=0} rfl rfl rfl rfl rfl rfl rfl rfl
  have S3:=S2.1.scalar 23 (.int .i64 ((s.events:Int)+1)) {s with now:=t,steps:=0,events:=s.events+1} rfl rfl rfl rfl rfl rfl rfl rfl
  have S4:=S3.1.ext (Below.refl _ _).drew
  have K4:=S3.2.trans (MK.ext (v:=v) (Below.refl _ _).drew)
  rw[←hw3]at S4 K4
  have K3:MK b v W v w3:=(MK.ext H2.out.1).trans (S1.2.trans (S2.2.trans K4))
  have hb3:w3.heap[W.heap.size]? =some (.cells #[.int .i64 id,.int .i64 t,.int .i64 8,.int .i64 a,.int .i64 bb,.string nm,.string tx,.int .i64 vk,.int .i64 vn,.string vs,.slice la ln lc] 60 (0,0)):=by
   have nb:W.heap.size≠b:=fun e=>by have:=zlt HX.out.1.h;omega
   rw[hw3]
   exact((Below.heap_setCell _ _ _ _ nb).trans ((Below.heap_setCell _ _ _ _ nb).trans (Below.heap_setCell _ _ _ _ nb))).trans H2.out.2.1
  have C3:=HX.out.2.2.2.keep K3.keeps hF
  obtain⟨s0,hs0⟩:∃s0:MS,s0={s with now:=t,steps:=0,events:=s.events+1}:=⟨_,rfl⟩
  rw[←hs0]at S4
  have HS0:=zhd hs0
  have b3:=zlt S4.h
  clear q0 q1 q2 q3 q4 q5 q6 q7 q8 q9 q10 ql c19 c18 c11 c24 c23 f0 b2 S1 S2 S3 K4 hw3 hs0
  have H3:=zh4 S4 K3 C3 hb3
  have q0:=zca hb3 0 rfl
  have q1:=zca hb3 1 rfl
  have q2:=zca hb3 2 rfl
  have q3:=zca hb3 3 rfl
  have q4:=zca hb3 4 rfl
  have q5:=zca hb3 5 rfl
  have q6:=zca hb3 6 rfl
  have q7:=zca hb3 7 rfl
  have q8:=zca hb3 8 rfl
  have q9:=zca hb3 9 rfl
  have q10:=zca hb3 10 rfl
  have ql:=zlt hb3
  have f3:∀o,w3.frozen? ⟨b,o,none⟩=false:=fun o=>H3.out.1.frozen o
  clear S4 K3 C3 hb3
  have hsx:s1={s0 with acts:=⟨endT a 1 x s0.acts.list,s0.acts.next⟩}:=by rw[←HS1.out,HS0.out];rfl
  have hl0:s0.acts.list.length≤4294967296:=by rw[HS0.out];exact hll
  have hZ3:=hZ_step hZ H3.out.2.1.keeps.size
  have EN:=zhd (endAcs_any b v p s0 w3.drew (H3.out.1.ext (Below.refl _ _).drew) a 1 x vk vn vs la ln lc F (H3.out.2.2.1.keep (S:=fun _=>False) (zkb (Below.refl _ _).drew) (fun _ _ f=>f)) hz hl0 hZ3 s1 hsx)
  go_upto_region 15 with(fail)
  go_region_law ((go_simp;go_at_call 58;refine EN.out.mono ?_;rintro e w5 ⟨v5,rfl,H5⟩))
  all_goals
   have RC:=zhd (HRT.out w5 v5 H5.out.1 (Nat.le_trans H3.out.2.1.keeps.size H5.out.2.keeps.size))
   have HKK:=zhd (H3.out.2.1.trans ((MK.ext (Below.refl w3.heap.size w3).drew).trans H5.out.2))
   go_wp2_with fail
   refine RC.out.mono ?_
   rintro e w9 ⟨v9,rfl,H9⟩
   go_wp2_with fail
   go_ret
   exact⟨v9,rfl,zhd ⟨H9.out.1,HKK.out.trans H9.out.2⟩⟩
theorem apply_late
  {Z:Nat→Prop}(b:Nat)(v:MV)(p:Img)(s:MS)(W:World)(M:MX TT Z W b v p s)
  {N:Nat}(G:Gl Tryz.prog N W)(id t a bb:Int)(nm tx:ByteArray)(x:Val)(vk vn:Int)(vs:ByteArray)(la:Option Addr)(ln lc:Nat)(F:Nat→Prop)(C:CF F W ⟨vk,vn,vs,la,ln,lc⟩ x)(hw:x.wf)
  (hck:evCheck ⟨id,t,10,a,bb,nm,tx,x⟩=0)(hov:s.over=false)(hbg:s.begun=true)(hF:∀g,F g→¬MO v b g)(hev:s.events≤4294967296)(hZ:∀j,W.heap.size≤j→Z j)
  (hll:s.acts.list.length≤4294967296)
  (s1 r:MS)(hs1:hear {s with now:=t,steps:=0,events:=s.events+1} ⟨id,t,10,a,bb,nm,tx,x⟩=s1)(RT:∀(W':World) (v':MV),MX TT Z W' b v' p s1→W.heap.size≤W'.heap.size→Calls Tryz.prog 60 #[.pointer (some ⟨b,0,none⟩)] W' (MP Z W' b v' p (.tuple #[]) r))
  :
  Calls Tryz.prog 20 #[.pointer (some ⟨b,0,none⟩),.agg #[.int .i64 id,.int .i64 t,.int .i64 10,.int .i64 a,.int .i64 bb,.string nm,.string tx,.int .i64 vk,.int .i64 vn,.string vs,.slice la ln lc]] W
   (MP Z W b v p (.int .i64 0) r):=by
 have HRT:=zhd RT
 clear RT
 obtain⟨w0,hw0⟩:∃w0,w0=W.alloc (.cells #[.int .i64 id,.int .i64 t,.int .i64 10,.int .i64 a,.int .i64 bb,.string nm,.string tx,.int .i64 vk,.int .i64 vn,.string vs,.slice la ln lc] 60):=⟨_,rfl⟩
 have B0:=zba hw0
 have hB:=zha hw0
 have C0:=C.keep (S:=fun _=>False) (zkb B0) (fun _ _ f=>f)
 have hvk:vk=x.kind:=C.kind
 rw[evCheck_ch]at hck
 dsimp only at hck
 rw[←hvk]at hck
 have EK:=zhd (evcheck_any id t 10 a bb nm tx vk vn vs la ln lc w0 (G.below B0) (checkL x) (fun W' BW=>check_any x vk vn vs la ln lc F W' (C0.keep (S:=fun _=>False) (zkb BW) (fun _ _ f=>f)) hw _ rfl) _ hck)
 have q0:=zca hB 0 rfl
 have q1:=zca hB 1 rfl
 have q2:=zca hB 2 rfl
 have q3:=zca hB 3 rfl
 have q4:=zca hB 4 rfl
 have q5:=zca hB 5 rfl
 have q6:=zca hB 6 rfl
 have q7:=zca hB 7 rfl
 have q8:=zca hB 8 rfl
 have q9:=zca hB 9 rfl
 have q10:=zca hB 10 rfl
 have ql:=zlt hB
 have HX:=zh4 M B0 hB C
 clear hvk hck C0 B0 hB C M
 go_enter Tryz.func20,Tryz.ntmps20
 go_wp2_with fail
 rw[←hw0]
 clear hw0
 refine EK.out.mono ?_
 rintro e w1 ⟨rfl,hB1⟩
 have B1:Below W.heap.size W w1:=HX.out.2.1.trans (hB1.mono HX.out.2.1.size)
 have hb1:=(hB1.block W.heap.size ql).trans HX.out.2.2.1
 have H1:=zh2 B1 hb1
 clear hB1 EK q0 q1 q2 q3 q4 q5 q6 q7 q8 q9 q10 ql
 have q0:=zca hb1 0 rfl
 have q1:=zca hb1 1 rfl
 have q2:=zca hb1 2 rfl
 have q3:=zca hb1 3 rfl
 have q4:=zca hb1 4 rfl
 have q5:=zca hb1 5 rfl
 have q6:=zca hb1 6 rfl
 have q7:=zca hb1 7 rfl
 have q8:=zca hb1 8 rfl
 have q9:=zca hb1 9 rfl
 have q10:=zca hb1 10 rfl
 have ql:=zlt hb1
 have OU:=zhd (outside_any id t 10 a bb nm tx vk vn vs la ln lc w1 true rfl)
 clear B1 hb1
 go_wp2_with fail
 refine OU.out.mono ?_
 rintro e w2 ⟨rfl,hB2⟩
 have B2:Below W.heap.size W w2:=H1.out.1.trans (hB2.mono H1.out.1.size)
 have hb2:=(hB2.block W.heap.size ql).trans H1.out.2
 have M2:=HX.out.1.ext B2
 have H2:=zh3 B2 hb2 M2
 have c19:w2.cell? ⟨b,19,none⟩=some (.bool s.over):=M2.cell (k:=19) rfl
 have c18:w2.cell? ⟨b,18,none⟩=some (.bool s.begun):=M2.cell (k:=18) rfl
 have b2:=zlt M2.h
 clear hB2 OU q0 q1 q2 q3 q4 q5 q6 q7 q8 q9 q10 ql B2 M2
 have HS1:=zhd hs1
 clear hs1
 rw[hov]at c19
 rw[hbg]at c18
 have q0:=zca hb2 0 rfl
 have q1:=zca hb2 1 rfl
 have q2:=zca hb2 2 rfl
 have q3:=zca hb2 3 rfl
 have q4:=zca hb2 4 rfl
 have q5:=zca hb2 5 rfl
 have q6:=zca hb2 6 rfl
 have q7:=zca hb2 7 rfl
 have q8:=zca hb2 8 rfl
 have q9:=zca hb2 9 rfl
 have q10:=zca hb2 10 rfl
 have ql:=zlt hb2
 clear hov hbg hb2
 have atw:wrap64 ((s.events:Int)+1)=(s.events:Int)+1:=by unfold wrap64;omega
 have c11:w2.cell? ⟨b,11,none⟩=some (.int .i64 s.now):=H2.out.2.2.cell (k:=11) rfl
 have c24:w2.cell? ⟨b,24,none⟩=some (.int .i64 (s.steps:Int)):=H2.out.2.2.cell (k:=24) rfl
 have c23:w2.cell? ⟨b,23,none⟩=some (.int .i64 (s.events:Int)):=H2.out.2.2.cell (k:=23) rfl
 have f0:∀o,w2.frozen? ⟨b,o,none⟩=false:=fun o=>H2.out.2.2.frozen o
 go_upto_region 5 with(fail)
 go_region
 all_goals
  go_upto_region 9 with(fail)
  refine wp_named ?_
  intro w3 hw3
  have S1:=H2.out.2.2.scalar 11 (.int .i64 t) {s with now:=t} rfl rfl rfl rfl rfl rfl rfl rfl
  have S2:=S1.1.scalar 24 (.int .i64 0) {s with now:=t,steps:=0} rfl rfl rfl rfl rfl rfl rfl rfl
  have S3:=S2.1.scalar 23 (.int .i64 ((s.events:Int)+1)) {s with now:=t,steps:=0,events:=s.events+1} rfl rfl rfl rfl rfl rfl rfl rfl
  have S4:=S3.1.ext (Below.refl _ _).drew
  have K4:=S3.2.trans (MK.ext (v:=v) (Below.refl _ _).drew)
  rw[←hw3]at S4 K4
  have K3:MK b v W v w3:=(MK.ext H2.out.1).trans (S1.2.trans (S2.2.trans K4))
  have hb3:w3.heap[W.heap.size]? =some (.cells #[.int .i64 id,.int .i64 t,.int .i64 10,.int .i64 a,.int .i64 bb,.string nm,.string tx,.int .i64 vk,.int .i64 vn,.string vs,.slice la ln lc] 60 (0,0)):=by
   have nb:W.heap.size≠b:=fun e=>by have:=zlt HX.out.1.h;omega
   rw[hw3]
   exact((Below.heap_setCell _ _ _ _ nb).trans ((Below.heap_setCell _ _ _ _ nb).trans (Below.heap_setCell _ _ _ _ nb))).trans H2.out.2.1
  have C3:=HX.out.2.2.2.keep K3.keeps hF
  obtain⟨s0,hs0⟩:∃s0:MS,s0={s with now:=t,steps:=0,events:=s.events+1}:=⟨_,rfl⟩
  rw[←hs0]at S4
  have HS0:=zhd hs0
  have b3:=zlt S4.h
  clear q0 q1 q2 q3 q4 q5 q6 q7 q8 q9 q10 ql c19 c18 c11 c24 c23 f0 b2 S1 S2 S3 K4 hw3 hs0
  have H3:=zh4 S4 K3 C3 hb3
  have q0:=zca hb3 0 rfl
  have q1:=zca hb3 1 rfl
  have q2:=zca hb3 2 rfl
  have q3:=zca hb3 3 rfl
  have q4:=zca hb3 4 rfl
  have q5:=zca hb3 5 rfl
  have q6:=zca hb3 6 rfl
  have q7:=zca hb3 7 rfl
  have q8:=zca hb3 8 rfl
  have q9:=zca hb3 9 rfl
  have q10:=zca hb3 10 rfl
  have ql:=zlt hb3
  have f3:∀o,w3.frozen? ⟨b,o,none⟩=false:=fun o=>H3.out.1.frozen o
  clear S4 K3 C3 hb3
  have hsx:s1={s0 with acts:=⟨endT a (-1) vNil0 s0.acts.list,s0.acts.next⟩}:=by rw[←HS1.out,HS0.out];rfl
  have hl0:s0.acts.list.length≤4294967296:=by rw[HS0.out];exact hll
  have hZ3:=hZ_step hZ H3.out.2.1.keeps.size
  have EN:=zhd (endAcs_any b v p s0 w3.drew (H3.out.1.ext (Below.refl _ _).drew) a (-1) vNil0 0 0 ⟨#[]⟩ none 0 0 (fun _=>False) (cf_nil0 _ _) (by rw[szV_eq];decide) hl0 hZ3 s1 hsx)
  go_upto_region 19 with(fail)
  go_region_law ((go_simp;go_at_call 58;refine EN.out.mono ?_;rintro e w5 ⟨v5,rfl,H5⟩))
  all_goals
   have RC:=zhd (HRT.out w5 v5 H5.out.1 (Nat.le_trans H3.out.2.1.keeps.size H5.out.2.keeps.size))
   have HKK:=zhd (H3.out.2.1.trans ((MK.ext (Below.refl w3.heap.size w3).drew).trans H5.out.2))
   go_wp2_with fail
   refine RC.out.mono ?_
   rintro e w9 ⟨v9,rfl,H9⟩
   go_wp2_with fail
   go_ret
   exact⟨v9,rfl,zhd ⟨H9.out.1,HKK.out.trans H9.out.2⟩⟩
theorem apply_failed
  {Z:Nat→Prop}(b:Nat)(v:MV)(p:Img)(s:MS)(W:World)(M:MX TT Z W b v p s)
  {N:Nat}(G:Gl Tryz.prog N W)(id t a bb:Int)(nm tx:ByteArray)(x:Val)(vk vn:Int)(vs:ByteArray)(la:Option Addr)(ln lc:Nat)(F:Nat→Prop)(C:CF F W ⟨vk,vn,vs,la,ln,lc⟩ x)(hw:x.wf)
  (hck:evCheck ⟨id,t,9,a,bb,nm,tx,x⟩=0)(hov:s.over=false)(hbg:s.begun=true)(hF:∀g,F g→¬MO v b g)(hev:s.events≤4294967296)(hZ:∀j,W.heap.size≤j→Z j)
  (hll:s.acts.list.length≤4294967296)(hnm:nm.size≤64)
  (s1 r:MS)(hs1:hear {s with now:=t,steps:=0,events:=s.events+1} ⟨id,t,9,a,bb,nm,tx,x⟩=s1)(RT:∀(W':World) (v':MV),MX TT Z W' b v' p s1→W.heap.size≤W'.heap.size→Calls Tryz.prog 60 #[.pointer (some ⟨b,0,none⟩)] W' (MP Z W' b v' p (.tuple #[]) r))
  :
  Calls Tryz.prog 20 #[.pointer (some ⟨b,0,none⟩),.agg #[.int .i64 id,.int .i64 t,.int .i64 9,.int .i64 a,.int .i64 bb,.string nm,.string tx,.int .i64 vk,.int .i64 vn,.string vs,.slice la ln lc]] W
   (MP Z W b v p (.int .i64 0) r):=by
 have HRT:=zhd RT
 clear RT
 obtain⟨w0,hw0⟩:∃w0,w0=W.alloc (.cells #[.int .i64 id,.int .i64 t,.int .i64 9,.int .i64 a,.int .i64 bb,.string nm,.string tx,.int .i64 vk,.int .i64 vn,.string vs,.slice la ln lc] 60):=⟨_,rfl⟩
 have B0:=zba hw0
 have hB:=zha hw0
 have C0:=C.keep (S:=fun _=>False) (zkb B0) (fun _ _ f=>f)
 have hvk:vk=x.kind:=C.kind
 rw[evCheck_ch]at hck
 dsimp only at hck
 rw[←hvk]at hck
 have EK:=zhd (evcheck_any id t 9 a bb nm tx vk vn vs la ln lc w0 (G.below B0) (checkL x) (fun W' BW=>check_any x vk vn vs la ln lc F W' (C0.keep (S:=fun _=>False) (zkb BW) (fun _ _ f=>f)) hw _ rfl) _ hck)
 have q0:=zca hB 0 rfl
 have q1:=zca hB 1 rfl
 have q2:=zca hB 2 rfl
 have q3:=zca hB 3 rfl
 have q4:=zca hB 4 rfl
 have q5:=zca hB 5 rfl
 have q6:=zca hB 6 rfl
 have q7:=zca hB 7 rfl
 have q8:=zca hB 8 rfl
 have q9:=zca hB 9 rfl
 have q10:=zca hB 10 rfl
 have ql:=zlt hB
 have HX:=zh4 M B0 hB C
 clear hvk hck C0 B0 hB C M
 go_enter Tryz.func20,Tryz.ntmps20
 go_wp2_with fail
 rw[←hw0]
 clear hw0
 refine EK.out.mono ?_
 rintro e w1 ⟨rfl,hB1⟩
 have B1:Below W.heap.size W w1:=HX.out.2.1.trans (hB1.mono HX.out.2.1.size)
 have hb1:=(hB1.block W.heap.size ql).trans HX.out.2.2.1
 have H1:=zh2 B1 hb1
 clear hB1 EK q0 q1 q2 q3 q4 q5 q6 q7 q8 q9 q10 ql
 have q0:=zca hb1 0 rfl
 have q1:=zca hb1 1 rfl
 have q2:=zca hb1 2 rfl
 have q3:=zca hb1 3 rfl
 have q4:=zca hb1 4 rfl
 have q5:=zca hb1 5 rfl
 have q6:=zca hb1 6 rfl
 have q7:=zca hb1 7 rfl
 have q8:=zca hb1 8 rfl
 have q9:=zca hb1 9 rfl
 have q10:=zca hb1 10 rfl
 have ql:=zlt hb1
 have OU:=zhd (outside_any id t 9 a bb nm tx vk vn vs la ln lc w1 true rfl)
 clear B1 hb1
 go_wp2_with fail
 refine OU.out.mono ?_
 rintro e w2 ⟨rfl,hB2⟩
 have B2:Below W.heap.size W w2:=H1.out.1.trans (hB2.mono H1.out.1.size)
 have hb2:=(hB2.block W.heap.size ql).trans H1.out.2
 have M2:=HX.out.1.ext B2
 have H2:=zh3 B2 hb2 M2
 have c19:w2.cell? ⟨b,19,none⟩=some (.bool s.over):=M2.cell (k:=19) rfl
 have c18:w2.cell? ⟨b,18,none⟩=some (.bool s.begun):=M2.cell (k:=18) rfl
 have b2:=zlt M2.h
 clear hB2 OU q0 q1 q2 q3 q4 q5 q6 q7 q8 q9 q10 ql B2 M2
 have HS1:=zhd hs1
 clear hs1
 rw[hov]at c19
 rw[hbg]at c18
 have q0:=zca hb2 0 rfl
 have q1:=zca hb2 1 rfl
 have q2:=zca hb2 2 rfl
 have q3:=zca hb2 3 rfl
 have q4:=zca hb2 4 rfl
 have q5:=zca hb2 5 rfl
 have q6:=zca hb2 6 rfl
 have q7:=zca hb2 7 rfl
 have q8:=zca hb2 8 rfl
 have q9:=zca hb2 9 rfl
 have q10:=zca hb2 10 rfl
 have ql:=zlt hb2
 clear hov hbg hb2
 have atw:wrap64 ((s.events:Int)+1)=(s.events:Int)+1:=by unfold wrap64;omega
 have c11:w2.cell? ⟨b,11,none⟩=some (.int .i64 s.now):=H2.out.2.2.cell (k:=11) rfl
 have c24:w2.cell? ⟨b,24,none⟩=some (.int .i64 (s.steps:Int)):=H2.out.2.2.cell (k:=24) rfl
 have c23:w2.cell? ⟨b,23,none⟩=some (.int .i64 (s.events:Int)):=H2.out.2.2.cell (k:=23) rfl
 have f0:∀o,w2.frozen? ⟨b,o,none⟩=false:=fun o=>H2.out.2.2.frozen o
 go_upto_region 5 with(fail)
 go_region
 all_goals
  go_upto_region 9 with(fail)
  refine wp_named ?_
  intro w3 hw3
  have S1:=H2.out.2.2.scalar 11 (.int .i64 t) {s with now:=t} rfl rfl rfl rfl rfl rfl rfl rfl
  have S2:=S1.1.scalar 24 (.int .i64 0) {s with now:=t,steps:=0} rfl rfl rfl rfl rfl rfl rfl rfl
  have S3:=S2.1.scalar 23 (.int .i64 ((s.events:Int)+1)) {s with now:=t,steps:=0,events:=s.events+1} rfl rfl rfl rfl rfl rfl rfl rfl
  have S4:=S3.1.ext (Below.refl _ _).drew
  have K4:=S3.2.trans (MK.ext (v:=v) (Below.refl _ _).drew)
  rw[←hw3]at S4 K4
  have K3:MK b v W v w3:=(MK.ext H2.out.1).trans (S1.2.trans (S2.2.trans K4))
  have hb3:w3.heap[W.heap.size]? =some (.cells #[.int .i64 id,.int .i64 t,.int .i64 9,.int .i64 a,.int .i64 bb,.string nm,.string tx,.int .i64 vk,.int .i64 vn,.string vs,.slice la ln lc] 60 (0,0)):=by
   have nb:W.heap.size≠b:=fun e=>by have:=zlt HX.out.1.h;omega
   rw[hw3]
   exact((Below.heap_setCell _ _ _ _ nb).trans ((Below.heap_setCell _ _ _ _ nb).trans (Below.heap_setCell _ _ _ _ nb))).trans H2.out.2.1
  have C3:=HX.out.2.2.2.keep K3.keeps hF
  obtain⟨s0,hs0⟩:∃s0:MS,s0={s with now:=t,steps:=0,events:=s.events+1}:=⟨_,rfl⟩
  rw[←hs0]at S4
  have HS0:=zhd hs0
  have b3:=zlt S4.h
  clear q0 q1 q2 q3 q4 q5 q6 q7 q8 q9 q10 ql c19 c18 c11 c24 c23 f0 b2 S1 S2 S3 K4 hw3 hs0
  have H3:=zh4 S4 K3 C3 hb3
  have q0:=zca hb3 0 rfl
  have q1:=zca hb3 1 rfl
  have q2:=zca hb3 2 rfl
  have q3:=zca hb3 3 rfl
  have q4:=zca hb3 4 rfl
  have q5:=zca hb3 5 rfl
  have q6:=zca hb3 6 rfl
  have q7:=zca hb3 7 rfl
  have q8:=zca hb3 8 rfl
  have q9:=zca hb3 9 rfl
  have q10:=zca hb3 10 rfl
  have ql:=zlt hb3
  have f3:∀o,w3.frozen? ⟨b,o,none⟩=false:=fun o=>H3.out.1.frozen o
  clear S4 K3 C3 hb3
  have hsx:s1={s0 with acts:=⟨endT a 0 (vText nm) s0.acts.list,s0.acts.next⟩}:=by rw[←HS1.out,HS0.out];rfl
  have hl0:s0.acts.list.length≤4294967296:=by rw[HS0.out];exact hll
  have hZ3:=hZ_step hZ H3.out.2.1.keeps.size
  have VT:=zhd (vtext_any nm w3.drew)
  have EN:=zhd (fun w4 (B:Below w3.heap.size w3 w4)=>endAcs_any b v p s0 w4 (H3.out.1.ext B) a 0 (vText nm) 2 0 nm none 0 0 (fun _=>False) (cf_text _ _ _) (by rw[szV_eq];show 4*nm.size+30≤_;omega) hl0 (hZ_step hZ3 B.size) s1 hsx)
  clear hnm
  go_upto_region 17 with(fail)
  go_region_law (first
   |(go_simp;go_at_call 59;refine VT.out.mono ?_;rintro e w4 ⟨rfl,hB4⟩;have B4:=(Below.trans ((Below.refl w3.heap.size w3).drew) hB4);have hb4:=(B4.block W.heap.size ql).trans H3.out.2.2.2;have r3:w4.cell? ⟨W.heap.size,3,none⟩=some (.int .i64 a):=(by rw[zch hb4];rfl);have rl:=zlt hb4;have H4:=zhd B4;clear hB4 B4 hb4)
   |(go_simp;go_at_call 58;refine(EN.out w4 H4.out).mono ?_;rintro e w5 ⟨v5,rfl,H5⟩))
  all_goals
   have RC:=zhd (HRT.out w5 v5 H5.out.1 (Nat.le_trans H3.out.2.1.keeps.size (Nat.le_trans H4.out.size H5.out.2.keeps.size)))
   have HKK:=zhd (H3.out.2.1.trans ((MK.ext H4.out).trans H5.out.2))
   go_wp2_with fail
   refine RC.out.mono ?_
   rintro e w9 ⟨v9,rfl,H9⟩
   go_wp2_with fail
   go_ret
   exact⟨v9,rfl,zhd ⟨H9.out.1,HKK.out.trans H9.out.2⟩⟩
theorem apply_asked
  {Z:Nat→Prop}(b:Nat)(v:MV)(p:Img)(s:MS)(W:World)(M:MX TT Z W b v p s)
  {N:Nat}(G:Gl Tryz.prog N W)(id t a bb:Int)(nm tx:ByteArray)(x:Val)(vk vn:Int)(vs:ByteArray)(la:Option Addr)(ln lc:Nat)(F:Nat→Prop)(C:CF F W ⟨vk,vn,vs,la,ln,lc⟩ x)(hw:x.wf)
  (hck:evCheck ⟨id,t,15,a,bb,nm,tx,x⟩=0)(hov:s.over=false)(hbg:s.begun=true)(hF:∀g,F g→¬MO v b g)(hev:s.events≤4294967296)
  (s1 r:MS)(hs1:hear {s with now:=t,steps:=0,events:=s.events+1} ⟨id,t,15,a,bb,nm,tx,x⟩=s1)(RT:∀(W':World) (v':MV),MX TT Z W' b v' p s1→W.heap.size≤W'.heap.size→Calls Tryz.prog 60 #[.pointer (some ⟨b,0,none⟩)] W' (MP Z W' b v' p (.tuple #[]) r))
  :
  Calls Tryz.prog 20 #[.pointer (some ⟨b,0,none⟩),.agg #[.int .i64 id,.int .i64 t,.int .i64 15,.int .i64 a,.int .i64 bb,.string nm,.string tx,.int .i64 vk,.int .i64 vn,.string vs,.slice la ln lc]] W
   (MP Z W b v p (.int .i64 0) r):=by
 have HRT:=zhd RT
 clear RT
 obtain⟨w0,hw0⟩:∃w0,w0=W.alloc (.cells #[.int .i64 id,.int .i64 t,.int .i64 15,.int .i64 a,.int .i64 bb,.string nm,.string tx,.int .i64 vk,.int .i64 vn,.string vs,.slice la ln lc] 60):=⟨_,rfl⟩
 have B0:=zba hw0
 have hB:=zha hw0
 have C0:=C.keep (S:=fun _=>False) (zkb B0) (fun _ _ f=>f)
 have hvk:vk=x.kind:=C.kind
 rw[evCheck_ch]at hck
 dsimp only at hck
 rw[←hvk]at hck
 have EK:=zhd (evcheck_any id t 15 a bb nm tx vk vn vs la ln lc w0 (G.below B0) (checkL x) (fun W' BW=>check_any x vk vn vs la ln lc F W' (C0.keep (S:=fun _=>False) (zkb BW) (fun _ _ f=>f)) hw _ rfl) _ hck)
 have q0:=zca hB 0 rfl
 have q1:=zca hB 1 rfl
 have q2:=zca hB 2 rfl
 have q3:=zca hB 3 rfl
 have q4:=zca hB 4 rfl
 have q5:=zca hB 5 rfl
 have q6:=zca hB 6 rfl
 have q7:=zca hB 7 rfl
 have q8:=zca hB 8 rfl
 have q9:=zca hB 9 rfl
 have q10:=zca hB 10 rfl
 have ql:=zlt hB
 have HX:=zh4 M B0 hB C
 clear hvk hck C0 B0 hB C M
 go_enter Tryz.func20,Tryz.ntmps20
 go_wp2_with fail
 rw[←hw0]
 clear hw0
 refine EK.out.mono ?_
 rintro e w1 ⟨rfl,hB1⟩
 have B1:Below W.heap.size W w1:=HX.out.2.1.trans (hB1.mono HX.out.2.1.size)
 have hb1:=(hB1.block W.heap.size ql).trans HX.out.2.2.1
 have H1:=zh2 B1 hb1
 clear hB1 EK q0 q1 q2 q3 q4 q5 q6 q7 q8 q9 q10 ql
 have q0:=zca hb1 0 rfl
 have q1:=zca hb1 1 rfl
 have q2:=zca hb1 2 rfl
 have q3:=zca hb1 3 rfl
 have q4:=zca hb1 4 rfl
 have q5:=zca hb1 5 rfl
 have q6:=zca hb1 6 rfl
 have q7:=zca hb1 7 rfl
 have q8:=zca hb1 8 rfl
 have q9:=zca hb1 9 rfl
 have q10:=zca hb1 10 rfl
 have ql:=zlt hb1
 have OU:=zhd (outside_any id t 15 a bb nm tx vk vn vs la ln lc w1 true rfl)
 clear B1 hb1
 go_wp2_with fail
 refine OU.out.mono ?_
 rintro e w2 ⟨rfl,hB2⟩
 have B2:Below W.heap.size W w2:=H1.out.1.trans (hB2.mono H1.out.1.size)
 have hb2:=(hB2.block W.heap.size ql).trans H1.out.2
 have M2:=HX.out.1.ext B2
 have H2:=zh3 B2 hb2 M2
 have c19:w2.cell? ⟨b,19,none⟩=some (.bool s.over):=M2.cell (k:=19) rfl
 have c18:w2.cell? ⟨b,18,none⟩=some (.bool s.begun):=M2.cell (k:=18) rfl
 have b2:=zlt M2.h
 clear hB2 OU q0 q1 q2 q3 q4 q5 q6 q7 q8 q9 q10 ql B2 M2
 have HS1:=zhd hs1
 clear hs1
 rw[hov]at c19
 rw[hbg]at c18
 have q0:=zca hb2 0 rfl
 have q1:=zca hb2 1 rfl
 have q2:=zca hb2 2 rfl
 have q3:=zca hb2 3 rfl
 have q4:=zca hb2 4 rfl
 have q5:=zca hb2 5 rfl
 have q6:=zca hb2 6 rfl
 have q7:=zca hb2 7 rfl
 have q8:=zca hb2 8 rfl
 have q9:=zca hb2 9 rfl
 have q10:=zca hb2 10 rfl
 have ql:=zlt hb2
 clear hov hbg hb2
 have atw:wrap64 ((s.events:Int)+1)=(s.events:Int)+1:=by unfold wrap64;omega
 have c11:w2.cell? ⟨b,11,none⟩=some (.int .i64 s.now):=H2.out.2.2.cell (k:=11) rfl
 have c24:w2.cell? ⟨b,24,none⟩=some (.int .i64 (s.steps:Int)):=H2.out.2.2.cell (k:=24) rfl
 have c23:w2.cell? ⟨b,23,none⟩=some (.int .i64 (s.events:Int)):=H2.out.2.2.cell (k:=23) rfl
 have f0:∀o,w2.frozen? ⟨b,o,none⟩=false:=fun o=>H2.out.2.2.frozen o
 go_upto_region 5 with(fail)
 go_region
 all_goals
  go_upto_region 9 with(fail)
  refine wp_named ?_
  intro w3 hw3
  have S1:=H2.out.2.2.scalar 11 (.int .i64 t) {s with now:=t} rfl rfl rfl rfl rfl rfl rfl rfl
  have S2:=S1.1.scalar 24 (.int .i64 0) {s with now:=t,steps:=0} rfl rfl rfl rfl rfl rfl rfl rfl
  have S3:=S2.1.scalar 23 (.int .i64 ((s.events:Int)+1)) {s with now:=t,steps:=0,events:=s.events+1} rfl rfl rfl rfl rfl rfl rfl rfl
  have S4:=S3.1.ext (Below.refl _ _).drew
  have K4:=S3.2.trans (MK.ext (v:=v) (Below.refl _ _).drew)
  rw[←hw3]at S4 K4
  have K3:MK b v W v w3:=(MK.ext H2.out.1).trans (S1.2.trans (S2.2.trans K4))
  have hb3:w3.heap[W.heap.size]? =some (.cells #[.int .i64 id,.int .i64 t,.int .i64 15,.int .i64 a,.int .i64 bb,.string nm,.string tx,.int .i64 vk,.int .i64 vn,.string vs,.slice la ln lc] 60 (0,0)):=by
   have nb:W.heap.size≠b:=fun e=>by have:=zlt HX.out.1.h;omega
   rw[hw3]
   exact((Below.heap_setCell _ _ _ _ nb).trans ((Below.heap_setCell _ _ _ _ nb).trans (Below.heap_setCell _ _ _ _ nb))).trans H2.out.2.1
  have C3:=HX.out.2.2.2.keep K3.keeps hF
  obtain⟨s0,hs0⟩:∃s0:MS,s0={s with now:=t,steps:=0,events:=s.events+1}:=⟨_,rfl⟩
  rw[←hs0]at S4
  have HS0:=zhd hs0
  have b3:=zlt S4.h
  clear q0 q1 q2 q3 q4 q5 q6 q7 q8 q9 q10 ql c19 c18 c11 c24 c23 f0 b2 S1 S2 S3 K4 hw3 hs0
  have H3:=zh4 S4 K3 C3 hb3
  have q0:=zca hb3 0 rfl
  have q1:=zca hb3 1 rfl
  have q2:=zca hb3 2 rfl
  have q3:=zca hb3 3 rfl
  have q4:=zca hb3 4 rfl
  have q5:=zca hb3 5 rfl
  have q6:=zca hb3 6 rfl
  have q7:=zca hb3 7 rfl
  have q8:=zca hb3 8 rfl
  have q9:=zca hb3 9 rfl
  have q10:=zca hb3 10 rfl
  have ql:=zlt hb3
  have f3:∀o,w3.frozen? ⟨b,o,none⟩=false:=fun o=>H3.out.1.frozen o
  clear S4 K3 C3 hb3
  have hsx:{s0 with asked:=true}=s1:=by rw[←HS1.out,HS0.out];rfl
  have S4:=H3.out.1.scalar 17 (.bool true) {s0 with asked:=true} rfl rfl rfl rfl rfl rfl rfl rfl
  rw[hsx]at S4
  have i0:w3.cell? ⟨b,17,none⟩=some (.bool s0.asked):=H3.out.1.cell (k:=17) rfl
  have RC:=zhd (HRT.out _ v S4.1 (Nat.le_trans H3.out.2.1.keeps.size S4.2.keeps.size))
  have HKK:=zhd (H3.out.2.1.trans S4.2)
  have HS4:=zhd S4
  clear S4 hsx
  go_wp2_with fail
  refine RC.out.mono ?_
  rintro e w9 ⟨v9,rfl,H9⟩
  go_wp2_with fail
  go_ret
  exact⟨v9,rfl,zhd ⟨H9.out.1,HKK.out.trans H9.out.2⟩⟩
theorem apply_ended
  {Z:Nat→Prop}(b:Nat)(v:MV)(p:Img)(s:MS)(W:World)(M:MX TT Z W b v p s)
  {N:Nat}(G:Gl Tryz.prog N W)(id t a bb:Int)(nm tx:ByteArray)(x:Val)(vk vn:Int)(vs:ByteArray)(la:Option Addr)(ln lc:Nat)(F:Nat→Prop)(C:CF F W ⟨vk,vn,vs,la,ln,lc⟩ x)(hw:x.wf)
  (hck:evCheck ⟨id,t,19,a,bb,nm,tx,x⟩=0)(hov:s.over=false)(hbg:s.begun=true)(hF:∀g,F g→¬MO v b g)(hev:s.events≤4294967296)
  (s1:MS)(hs1:hear {s with now:=t,steps:=0,events:=s.events+1} ⟨id,t,19,a,bb,nm,tx,x⟩=s1):
  Calls Tryz.prog 20 #[.pointer (some ⟨b,0,none⟩),.agg #[.int .i64 id,.int .i64 t,.int .i64 19,.int .i64 a,.int .i64 bb,.string nm,.string tx,.int .i64 vk,.int .i64 vn,.string vs,.slice la ln lc]] W
   (MP Z W b v p (.int .i64 0) s1):=by
 obtain⟨w0,hw0⟩:∃w0,w0=W.alloc (.cells #[.int .i64 id,.int .i64 t,.int .i64 19,.int .i64 a,.int .i64 bb,.string nm,.string tx,.int .i64 vk,.int .i64 vn,.string vs,.slice la ln lc] 60):=⟨_,rfl⟩
 have B0:=zba hw0
 have hB:=zha hw0
 have C0:=C.keep (S:=fun _=>False) (zkb B0) (fun _ _ f=>f)
 have hvk:vk=x.kind:=C.kind
 rw[evCheck_ch]at hck
 dsimp only at hck
 rw[←hvk]at hck
 have EK:=zhd (evcheck_any id t 19 a bb nm tx vk vn vs la ln lc w0 (G.below B0) (checkL x) (fun W' BW=>check_any x vk vn vs la ln lc F W' (C0.keep (S:=fun _=>False) (zkb BW) (fun _ _ f=>f)) hw _ rfl) _ hck)
 have q0:=zca hB 0 rfl
 have q1:=zca hB 1 rfl
 have q2:=zca hB 2 rfl
 have q3:=zca hB 3 rfl
 have q4:=zca hB 4 rfl
 have q5:=zca hB 5 rfl
 have q6:=zca hB 6 rfl
 have q7:=zca hB 7 rfl
 have q8:=zca hB 8 rfl
 have q9:=zca hB 9 rfl
 have q10:=zca hB 10 rfl
 have ql:=zlt hB
 have HX:=zh4 M B0 hB C
 clear hvk hck C0 B0 hB C M
 go_enter Tryz.func20,Tryz.ntmps20
 go_wp2_with fail
 rw[←hw0]
 clear hw0
 refine EK.out.mono ?_
 rintro e w1 ⟨rfl,hB1⟩
 have B1:Below W.heap.size W w1:=HX.out.2.1.trans (hB1.mono HX.out.2.1.size)
 have hb1:=(hB1.block W.heap.size ql).trans HX.out.2.2.1
 have H1:=zh2 B1 hb1
 clear hB1 EK q0 q1 q2 q3 q4 q5 q6 q7 q8 q9 q10 ql
 have q0:=zca hb1 0 rfl
 have q1:=zca hb1 1 rfl
 have q2:=zca hb1 2 rfl
 have q3:=zca hb1 3 rfl
 have q4:=zca hb1 4 rfl
 have q5:=zca hb1 5 rfl
 have q6:=zca hb1 6 rfl
 have q7:=zca hb1 7 rfl
 have q8:=zca hb1 8 rfl
 have q9:=zca hb1 9 rfl
 have q10:=zca hb1 10 rfl
 have ql:=zlt hb1
 have OU:=zhd (outside_any id t 19 a bb nm tx vk vn vs la ln lc w1 true rfl)
 clear B1 hb1
 go_wp2_with fail
 refine OU.out.mono ?_
 rintro e w2 ⟨rfl,hB2⟩
 have B2:Below W.heap.size W w2:=H1.out.1.trans (hB2.mono H1.out.1.size)
 have hb2:=(hB2.block W.heap.size ql).trans H1.out.2
 have M2:=HX.out.1.ext B2
 have H2:=zh3 B2 hb2 M2
 have c19:w2.cell? ⟨b,19,none⟩=some (.bool s.over):=M2.cell (k:=19) rfl
 have c18:w2.cell? ⟨b,18,none⟩=some (.bool s.begun):=M2.cell (k:=18) rfl
 have b2:=zlt M2.h
 clear hB2 OU q0 q1 q2 q3 q4 q5 q6 q7 q8 q9 q10 ql B2 M2
 have HS1:=zhd hs1
 clear hs1
 rw[hov]at c19
 rw[hbg]at c18
 have q0:=zca hb2 0 rfl
 have q1:=zca hb2 1 rfl
 have q2:=zca hb2 2 rfl
 have q3:=zca hb2 3 rfl
 have q4:=zca hb2 4 rfl
 have q5:=zca hb2 5 rfl
 have q6:=zca hb2 6 rfl
 have q7:=zca hb2 7 rfl
 have q8:=zca hb2 8 rfl
 have q9:=zca hb2 9 rfl
 have q10:=zca hb2 10 rfl
 have ql:=zlt hb2
 clear hov hbg hb2
 have atw:wrap64 ((s.events:Int)+1)=(s.events:Int)+1:=by unfold wrap64;omega
 have c11:w2.cell? ⟨b,11,none⟩=some (.int .i64 s.now):=H2.out.2.2.cell (k:=11) rfl
 have c24:w2.cell? ⟨b,24,none⟩=some (.int .i64 (s.steps:Int)):=H2.out.2.2.cell (k:=24) rfl
 have c23:w2.cell? ⟨b,23,none⟩=some (.int .i64 (s.events:Int)):=H2.out.2.2.cell (k:=23) rfl
 have f0:∀o,w2.frozen? ⟨b,o,none⟩=false:=fun o=>H2.out.2.2.frozen o
 go_upto_region 5 with(fail)
 go_region
 all_goals
  go_upto_region 9 with(fail)
  refine wp_named ?_
  intro w3 hw3
  have S1:=H2.out.2.2.scalar 11 (.int .i64 t) {s with now:=t} rfl rfl rfl rfl rfl rfl rfl rfl
  have S2:=S1.1.scalar 24 (.int .i64 0) {s with now:=t,steps:=0} rfl rfl rfl rfl rfl rfl rfl rfl
  have S3:=S2.1.scalar 23 (.int .i64 ((s.events:Int)+1)) {s with now:=t,steps:=0,events:=s.events+1} rfl rfl rfl rfl rfl rfl rfl rfl
  have S4:=S3.1.ext (Below.refl _ _).drew
  have K4:=S3.2.trans (MK.ext (v:=v) (Below.refl _ _).drew)
  rw[←hw3]at S4 K4
  have K3:MK b v W v w3:=(MK.ext H2.out.1).trans (S1.2.trans (S2.2.trans K4))
  have hb3:w3.heap[W.heap.size]? =some (.cells #[.int .i64 id,.int .i64 t,.int .i64 19,.int .i64 a,.int .i64 bb,.string nm,.string tx,.int .i64 vk,.int .i64 vn,.string vs,.slice la ln lc] 60 (0,0)):=by
   have nb:W.heap.size≠b:=fun e=>by have:=zlt HX.out.1.h;omega
   rw[hw3]
   exact((Below.heap_setCell _ _ _ _ nb).trans ((Below.heap_setCell _ _ _ _ nb).trans (Below.heap_setCell _ _ _ _ nb))).trans H2.out.2.1
  have C3:=HX.out.2.2.2.keep K3.keeps hF
  obtain⟨s0,hs0⟩:∃s0:MS,s0={s with now:=t,steps:=0,events:=s.events+1}:=⟨_,rfl⟩
  rw[←hs0]at S4
  have HS0:=zhd hs0
  have b3:=zlt S4.h
  clear q0 q1 q2 q3 q4 q5 q6 q7 q8 q9 q10 ql c19 c18 c11 c24 c23 f0 b2 S1 S2 S3 K4 hw3 hs0
  have H3:=zh4 S4 K3 C3 hb3
  have q0:=zca hb3 0 rfl
  have q1:=zca hb3 1 rfl
  have q2:=zca hb3 2 rfl
  have q3:=zca hb3 3 rfl
  have q4:=zca hb3 4 rfl
  have q5:=zca hb3 5 rfl
  have q6:=zca hb3 6 rfl
  have q7:=zca hb3 7 rfl
  have q8:=zca hb3 8 rfl
  have q9:=zca hb3 9 rfl
  have q10:=zca hb3 10 rfl
  have ql:=zlt hb3
  have f3:∀o,w3.frozen? ⟨b,o,none⟩=false:=fun o=>H3.out.1.frozen o
  clear S4 K3 C3 hb3
  have hsx:{s0 with over:=true}=s1:=by rw[←HS1.out,HS0.out];rfl
  have S4:=H3.out.1.scalar 19 (.bool true) {s0 with over:=true} rfl rfl rfl rfl rfl rfl rfl rfl
  rw[hsx]at S4
  have i0:w3.cell? ⟨b,19,none⟩=some (.bool s0.over):=H3.out.1.cell (k:=19) rfl
  have HS4:=zhd S4
  clear S4 hsx
  go_wp2_with fail
  go_ret
  exact⟨v,rfl,zhd ⟨HS4.out.1,H3.out.2.1.trans HS4.out.2⟩⟩
theorem apply_timed
  {Z:Nat→Prop}(b:Nat)(v:MV)(p:Img)(s:MS)(W:World)(M:MX TT Z W b v p s)
  {N:Nat}(G:Gl Tryz.prog N W)(id t a bb:Int)(nm tx:ByteArray)(x:Val)(vk vn:Int)(vs:ByteArray)(la:Option Addr)(ln lc:Nat)(F:Nat→Prop)(C:CF F W ⟨vk,vn,vs,la,ln,lc⟩ x)(hw:x.wf)
  (hck:evCheck ⟨id,t,20,a,bb,nm,tx,x⟩=0)(hov:s.over=false)(hbg:s.begun=true)(hF:∀g,F g→¬MO v b g)(hev:s.events≤4294967296)
  (s1:MS)(hs1:hear {s with now:=t,steps:=0,events:=s.events+1} ⟨id,t,20,a,bb,nm,tx,x⟩=s1):
  Calls Tryz.prog 20 #[.pointer (some ⟨b,0,none⟩),.agg #[.int .i64 id,.int .i64 t,.int .i64 20,.int .i64 a,.int .i64 bb,.string nm,.string tx,.int .i64 vk,.int .i64 vn,.string vs,.slice la ln lc]] W
   (MP Z W b v p (.int .i64 0) s1):=by
 obtain⟨w0,hw0⟩:∃w0,w0=W.alloc (.cells #[.int .i64 id,.int .i64 t,.int .i64 20,.int .i64 a,.int .i64 bb,.string nm,.string tx,.int .i64 vk,.int .i64 vn,.string vs,.slice la ln lc] 60):=⟨_,rfl⟩
 have B0:=zba hw0
 have hB:=zha hw0
 have C0:=C.keep (S:=fun _=>False) (zkb B0) (fun _ _ f=>f)
 have hvk:vk=x.kind:=C.kind
 rw[evCheck_ch]at hck
 dsimp only at hck
 rw[←hvk]at hck
 have EK:=zhd (evcheck_any id t 20 a bb nm tx vk vn vs la ln lc w0 (G.below B0) (checkL x) (fun W' BW=>check_any x vk vn vs la ln lc F W' (C0.keep (S:=fun _=>False) (zkb BW) (fun _ _ f=>f)) hw _ rfl) _ hck)
 have q0:=zca hB 0 rfl
 have q1:=zca hB 1 rfl
 have q2:=zca hB 2 rfl
 have q3:=zca hB 3 rfl
 have q4:=zca hB 4 rfl
 have q5:=zca hB 5 rfl
 have q6:=zca hB 6 rfl
 have q7:=zca hB 7 rfl
 have q8:=zca hB 8 rfl
 have q9:=zca hB 9 rfl
 have q10:=zca hB 10 rfl
 have ql:=zlt hB
 have HX:=zh4 M B0 hB C
 clear hvk hck C0 B0 hB C M
 go_enter Tryz.func20,Tryz.ntmps20
 go_wp2_with fail
 rw[←hw0]
 clear hw0
 refine EK.out.mono ?_
 rintro e w1 ⟨rfl,hB1⟩
 have B1:Below W.heap.size W w1:=HX.out.2.1.trans (hB1.mono HX.out.2.1.size)
 have hb1:=(hB1.block W.heap.size ql).trans HX.out.2.2.1
 have H1:=zh2 B1 hb1
 clear hB1 EK q0 q1 q2 q3 q4 q5 q6 q7 q8 q9 q10 ql
 have q0:=zca hb1 0 rfl
 have q1:=zca hb1 1 rfl
 have q2:=zca hb1 2 rfl
 have q3:=zca hb1 3 rfl
 have q4:=zca hb1 4 rfl
 have q5:=zca hb1 5 rfl
 have q6:=zca hb1 6 rfl
 have q7:=zca hb1 7 rfl
 have q8:=zca hb1 8 rfl
 have q9:=zca hb1 9 rfl
 have q10:=zca hb1 10 rfl
 have ql:=zlt hb1
 have OU:=zhd (outside_any id t 20 a bb nm tx vk vn vs la ln lc w1 true rfl)
 clear B1 hb1
 go_wp2_with fail
 refine OU.out.mono ?_
 rintro e w2 ⟨rfl,hB2⟩
 have B2:Below W.heap.size W w2:=H1.out.1.trans (hB2.mono H1.out.1.size)
 have hb2:=(hB2.block W.heap.size ql).trans H1.out.2
 have M2:=HX.out.1.ext B2
 have H2:=zh3 B2 hb2 M2
 have c19:w2.cell? ⟨b,19,none⟩=some (.bool s.over):=M2.cell (k:=19) rfl
 have c18:w2.cell? ⟨b,18,none⟩=some (.bool s.begun):=M2.cell (k:=18) rfl
 have b2:=zlt M2.h
 clear hB2 OU q0 q1 q2 q3 q4 q5 q6 q7 q8 q9 q10 ql B2 M2
 have HS1:=zhd hs1
 clear hs1
 rw[hov]at c19
 rw[hbg]at c18
 have q0:=zca hb2 0 rfl
 have q1:=zca hb2 1 rfl
 have q2:=zca hb2 2 rfl
 have q3:=zca hb2 3 rfl
 have q4:=zca hb2 4 rfl
 have q5:=zca hb2 5 rfl
 have q6:=zca hb2 6 rfl
 have q7:=zca hb2 7 rfl
 have q8:=zca hb2 8 rfl
 have q9:=zca hb2 9 rfl
 have q10:=zca hb2 10 rfl
 have ql:=zlt hb2
 clear hov hbg hb2
 have atw:wrap64 ((s.events:Int)+1)=(s.events:Int)+1:=by unfold wrap64;omega
 have c11:w2.cell? ⟨b,11,none⟩=some (.int .i64 s.now):=H2.out.2.2.cell (k:=11) rfl
 have c24:w2.cell? ⟨b,24,none⟩=some (.int .i64 (s.steps:Int)):=H2.out.2.2.cell (k:=24) rfl
 have c23:w2.cell? ⟨b,23,none⟩=some (.int .i64 (s.events:Int)):=H2.out.2.2.cell (k:=23) rfl
 have f0:∀o,w2.frozen? ⟨b,o,none⟩=false:=fun o=>H2.out.2.2.frozen o
 go_upto_region 5 with(fail)
 go_region
 all_goals
  go_upto_region 9 with(fail)
  refine wp_named ?_
  intro w3 hw3
  have S1:=H2.out.2.2.scalar 11 (.int .i64 t) {s with now:=t} rfl rfl rfl rfl rfl rfl rfl rfl
  have S2:=S1.1.scalar 24 (.int .i64 0) {s with now:=t,steps:=0} rfl rfl rfl rfl rfl rfl rfl rfl
  have S3:=S2.1.scalar 23 (.int .i64 ((s.events:Int)+1)) {s with now:=t,steps:=0,events:=s.events+1} rfl rfl rfl rfl rfl rfl rfl rfl
  have S4:=S3.1.ext (Below.refl _ _).drew
  have K4:=S3.2.trans (MK.ext (v:=v) (Below.refl _ _).drew)
  rw[←hw3]at S4 K4
  have K3:MK b v W v w3:=(MK.ext H2.out.1).trans (S1.2.trans (S2.2.trans K4))
  have hb3:w3.heap[W.heap.size]? =some (.cells #[.int .i64 id,.int .i64 t,.int .i64 20,.int .i64 a,.int .i64 bb,.string nm,.string tx,.int .i64 vk,.int .i64 vn,.string vs,.slice la ln lc] 60 (0,0)):=by
   have nb:W.heap.size≠b:=fun e=>by have:=zlt HX.out.1.h;omega
   rw[hw3]
   exact((Below.heap_setCell _ _ _ _ nb).trans ((Below.heap_setCell _ _ _ _ nb).trans (Below.heap_setCell _ _ _ _ nb))).trans H2.out.2.1
  have C3:=HX.out.2.2.2.keep K3.keeps hF
  obtain⟨s0,hs0⟩:∃s0:MS,s0={s with now:=t,steps:=0,events:=s.events+1}:=⟨_,rfl⟩
  rw[←hs0]at S4
  have HS0:=zhd hs0
  have b3:=zlt S4.h
  clear q0 q1 q2 q3 q4 q5 q6 q7 q8 q9 q10 ql c19 c18 c11 c24 c23 f0 b2 S1 S2 S3 K4 hw3 hs0
  have H3:=zh4 S4 K3 C3 hb3
  have q0:=zca hb3 0 rfl
  have q1:=zca hb3 1 rfl
  have q2:=zca hb3 2 rfl
  have q3:=zca hb3 3 rfl
  have q4:=zca hb3 4 rfl
  have q5:=zca hb3 5 rfl
  have q6:=zca hb3 6 rfl
  have q7:=zca hb3 7 rfl
  have q8:=zca hb3 8 rfl
  have q9:=zca hb3 9 rfl
  have q10:=zca hb3 10 rfl
  have ql:=zlt hb3
  have f3:∀o,w3.frozen? ⟨b,o,none⟩=false:=fun o=>H3.out.1.frozen o
  clear S4 K3 C3 hb3
  have hsx:{s0 with over:=true}=s1:=by rw[←HS1.out,HS0.out];rfl
  have S4:=H3.out.1.scalar 19 (.bool true) {s0 with over:=true} rfl rfl rfl rfl rfl rfl rfl rfl
  rw[hsx]at S4
  have i0:w3.cell? ⟨b,19,none⟩=some (.bool s0.over):=H3.out.1.cell (k:=19) rfl
  have HS4:=zhd S4
  clear S4 hsx
  go_wp2_with fail
  go_ret
  exact⟨v,rfl,zhd ⟨HS4.out.1,H3.out.2.1.trans HS4.out.2⟩⟩
theorem apply_signal
  {Z:Nat→Prop}(b:Nat)(v:MV)(p:Img)(s:MS)(W:World)(M:MX TT Z W b v p s)
  {N:Nat}(G:Gl Tryz.prog N W)(id t a bb:Int)(nm tx:ByteArray)(x:Val)(vk vn:Int)(vs:ByteArray)(la:Option Addr)(ln lc:Nat)(F:Nat→Prop)(C:CF F W ⟨vk,vn,vs,la,ln,lc⟩ x)(hw:x.wf)
  (hck:evCheck ⟨id,t,14,a,bb,nm,tx,x⟩=0)(hov:s.over=false)(hbg:s.begun=true)(hF:∀g,F g→¬MO v b g)(hev:s.events≤4294967296)(hZ:∀j,W.heap.size≤j→Z j)
  (hll:s.letters.length≤4294967296)(hz:szV x≤1073741824)
  (s1 r:MS)(hs1:hear {s with now:=t,steps:=0,events:=s.events+1} ⟨id,t,14,a,bb,nm,tx,x⟩=s1)(RT:∀(W':World) (v':MV),MX TT Z W' b v' p s1→W.heap.size≤W'.heap.size→Calls Tryz.prog 60 #[.pointer (some ⟨b,0,none⟩)] W' (MP Z W' b v' p (.tuple #[]) r))
  :
  Calls Tryz.prog 20 #[.pointer (some ⟨b,0,none⟩),.agg #[.int .i64 id,.int .i64 t,.int .i64 14,.int .i64 a,.int .i64 bb,.string nm,.string tx,.int .i64 vk,.int .i64 vn,.string vs,.slice la ln lc]] W
   (MP Z W b v p (.int .i64 0) r):=by
 have HRT:=zhd RT
 clear RT
 obtain⟨w0,hw0⟩:∃w0,w0=W.alloc (.cells #[.int .i64 id,.int .i64 t,.int .i64 14,.int .i64 a,.int .i64 bb,.string nm,.string tx,.int .i64 vk,.int .i64 vn,.string vs,.slice la ln lc] 60):=⟨_,rfl⟩
 have B0:=zba hw0
 have hB:=zha hw0
 have C0:=C.keep (S:=fun _=>False) (zkb B0) (fun _ _ f=>f)
 have hvk:vk=x.kind:=C.kind
 rw[evCheck_ch]at hck
 dsimp only at hck
 rw[←hvk]at hck
 have EK:=zhd (evcheck_any id t 14 a bb nm tx vk vn vs la ln lc w0 (G.below B0) (checkL x) (fun W' BW=>check_any x vk vn vs la ln lc F W' (C0.keep (S:=fun _=>False) (zkb BW) (fun _ _ f=>f)) hw _ rfl) _ hck)
 have q0:=zca hB 0 rfl
 have q1:=zca hB 1 rfl
 have q2:=zca hB 2 rfl
 have q3:=zca hB 3 rfl
 have q4:=zca hB 4 rfl
 have q5:=zca hB 5 rfl
 have q6:=zca hB 6 rfl
 have q7:=zca hB 7 rfl
 have q8:=zca hB 8 rfl
 have q9:=zca hB 9 rfl
 have q10:=zca hB 10 rfl
 have ql:=zlt hB
 have HX:=zh4 M B0 hB C
 clear hvk hck C0 B0 hB C M
 go_enter Tryz.func20,Tryz.ntmps20
 go_wp2_with fail
 rw[←hw0]
 clear hw0
 refine EK.out.mono ?_
 rintro e w1 ⟨rfl,hB1⟩
 have B1:Below W.heap.size W w1:=HX.out.2.1.trans (hB1.mono HX.out.2.1.size)
 have hb1:=(hB1.block W.heap.size ql).trans HX.out.2.2.1
 have H1:=zh2 B1 hb1
 clear hB1 EK q0 q1 q2 q3 q4 q5 q6 q7 q8 q9 q10 ql
 have q0:=zca hb1 0 rfl
 have q1:=zca hb1 1 rfl
 have q2:=zca hb1 2 rfl
 have q3:=zca hb1 3 rfl
 have q4:=zca hb1 4 rfl
 have q5:=zca hb1 5 rfl
 have q6:=zca hb1 6 rfl
 have q7:=zca hb1 7 rfl
 have q8:=zca hb1 8 rfl
 have q9:=zca hb1 9 rfl
 have q10:=zca hb1 10 rfl
 have ql:=zlt hb1
 have OU:=zhd (outside_any id t 14 a bb nm tx vk vn vs la ln lc w1 true rfl)
 clear B1 hb1
 go_wp2_with fail
 refine OU.out.mono ?_
 rintro e w2 ⟨rfl,hB2⟩
 have B2:Below W.heap.size W w2:=H1.out.1.trans (hB2.mono H1.out.1.size)
 have hb2:=(hB2.block W.heap.size ql).trans H1.out.2
 have M2:=HX.out.1.ext B2
 have H2:=zh3 B2 hb2 M2
 have c19:w2.cell? ⟨b,19,none⟩=some (.bool s.over):=M2.cell (k:=19) rfl
 have c18:w2.cell? ⟨b,18,none⟩=some (.bool s.begun):=M2.cell (k:=18) rfl
 have b2:=zlt M2.h
 clear hB2 OU q0 q1 q2 q3 q4 q5 q6 q7 q8 q9 q10 ql B2 M2
 have HS1:=zhd hs1
 clear hs1
 rw[hov]at c19
 rw[hbg]at c18
 have q0:=zca hb2 0 rfl
 have q1:=zca hb2 1 rfl
 have q2:=zca hb2 2 rfl
 have q3:=zca hb2 3 rfl
 have q4:=zca hb2 4 rfl
 have q5:=zca hb2 5 rfl
 have q6:=zca hb2 6 rfl
 have q7:=zca hb2 7 rfl
 have q8:=zca hb2 8 rfl
 have q9:=zca hb2 9 rfl
 have q10:=zca hb2 10 rfl
 have ql:=zlt hb2
 clear hov hbg hb2
 have atw:wrap64 ((s.events:Int)+1)=(s.events:Int)+1:=by unfold wrap64;omega
 have c11:w2.cell? ⟨b,11,none⟩=some (.int .i64 s.now):=H2.out.2.2.cell (k:=11) rfl
 have c24:w2.cell? ⟨b,24,none⟩=some (.int .i64 (s.steps:Int)):=H2.out.2.2.cell (k:=24) rfl
 have c23:w2.cell? ⟨b,23,none⟩=some (.int .i64 (s.events:Int)):=H2.out.2.2.cell (k:=23) rfl
 have f0:∀o,w2.frozen? ⟨b,o,none⟩=false:=fun o=>H2.out.2.2.frozen o
 go_upto_region 5 with(fail)
 go_region
 all_goals
  go_upto_region 9 with(fail)
  refine wp_named ?_
  intro w3 hw3
  have S1:=H2.out.2.2.scalar 11 (.int .i64 t) {s with now:=t} rfl rfl rfl rfl rfl rfl rfl rfl
  have S2:=S1.1.scalar 24 (.int .i64 0) {s with now:=t,steps:=0} rfl rfl rfl rfl rfl rfl rfl rfl
  have S3:=S2.1.scalar 23 (.int .i64 ((s.events:Int)+1)) {s with now:=t,steps:=0,events:=s.events+1} rfl rfl rfl rfl rfl rfl rfl rfl
  have S4:=S3.1.ext (Below.refl _ _).drew
  have K4:=S3.2.trans (MK.ext (v:=v) (Below.refl _ _).drew)
  rw[←hw3]at S4 K4
  have K3:MK b v W v w3:=(MK.ext H2.out.1).trans (S1.2.trans (S2.2.trans K4))
  have hb3:w3.heap[W.heap.size]? =some (.cells #[.int .i64 id,.int .i64 t,.int .i64 14,.int .i64 a,.int .i64 bb,.string nm,.string tx,.int .i64 vk,.int .i64 vn,.string vs,.slice la ln lc] 60 (0,0)):=by
   have nb:W.heap.size≠b:=fun e=>by have:=zlt HX.out.1.h;omega
   rw[hw3]
   exact((Below.heap_setCell _ _ _ _ nb).trans ((Below.heap_setCell _ _ _ _ nb).trans (Below.heap_setCell _ _ _ _ nb))).trans H2.out.2.1
  have C3:=HX.out.2.2.2.keep K3.keeps hF
  obtain⟨s0,hs0⟩:∃s0:MS,s0={s with now:=t,steps:=0,events:=s.events+1}:=⟨_,rfl⟩
  rw[←hs0]at S4
  have HS0:=zhd hs0
  have b3:=zlt S4.h
  clear q0 q1 q2 q3 q4 q5 q6 q7 q8 q9 q10 ql c19 c18 c11 c24 c23 f0 b2 S1 S2 S3 K4 hw3 hs0
  have H3:=zh4 S4 K3 C3 hb3
  have q0:=zca hb3 0 rfl
  have q1:=zca hb3 1 rfl
  have q2:=zca hb3 2 rfl
  have q3:=zca hb3 3 rfl
  have q4:=zca hb3 4 rfl
  have q5:=zca hb3 5 rfl
  have q6:=zca hb3 6 rfl
  have q7:=zca hb3 7 rfl
  have q8:=zca hb3 8 rfl
  have q9:=zca hb3 9 rfl
  have q10:=zca hb3 10 rfl
  have ql:=zlt hb3
  have f3:∀o,w3.frozen? ⟨b,o,none⟩=false:=fun o=>H3.out.1.frozen o
  clear S4 K3 C3 hb3
  have hsx:s1={s0 with letters:=s0.letters++[⟨nm,cloneV x⟩]}:=by rw[←HS1.out,HS0.out];rfl
  have hl0:s0.letters.length≤4294967296:=by rw[HS0.out];exact hll
  have hZ3:=hZ_step hZ H3.out.2.1.keeps.size
  obtain⟨ss,ic,ps,inp,ts,as_,ls,ms⟩:=v
  obtain⟨am,cap,rfl⟩:∃a cap,ls= .slice a s0.letters.length cap:=H3.out.1.lts.slice
  have CL:=zhd (clone_any x vk vn vs la ln lc F w3.drew (H3.out.2.2.1.keep (S:=fun _=>False) (zkb (Below.refl _ _).drew) (fun _ _ f=>f)) hz)
  have c16:w3.cell? ⟨b,16,none⟩=some (.slice am s0.letters.length cap):=H3.out.1.cell (k:=16) rfl
  obtain⟨ks,hKR,hKP⟩:=H3.out.1.lts.cells
  have hkl:ks.length=s0.letters.length:=hKP.1
  have NB:=zhd (show∀g,(Value.slice am s0.letters.length cap).ownBlock=some g→g≠b from fun g hg e=>absurd (H3.out.1.sep 5 0 g hg (by rw[e];rfl)) (by decide))
  have HBD:=zhd (show∀y:LC,(ks.length+[y].length)*72≤140737488355328∧ks.length+[y].length≤maxLen∧ks.length+[y].length=s0.letters.length+1 from fun y=>by
   have e:ks.length+[y].length=s0.letters.length+1:=by rw[hkl];rfl
   rw[e]
   exact⟨by omega,by unfold maxLen;omega,rfl⟩)
  have HK:=zh4 hKR hKP hsx hZ3
  clear hKR hKP hkl hsx hl0 hZ3
  go_upto_region 21 with(fail)
  go_region_law (first
   |(go_simp;go_at_call 57;refine CL.out.mono ?_;rintro e w5 ⟨⟨k8,n8,s8,la8,ln8,lc8⟩,rfl,hC5⟩;have B5:Below w3.heap.size w3 w5:=Below.trans ((Below.refl w3.heap.size w3).drew) hC5.out.2;have d16:=(B5.cell (p:=⟨b,16,none⟩) b3).trans c16;have df:∀o,w5.frozen? ⟨b,o,none⟩=false:=(fun o=>(B5.frozen (p:=⟨b,o,none⟩) b3).trans (f3 o));have db:b<w5.heap.size:=Nat.lt_of_lt_of_le b3 B5.size;have hb5:=(B5.block W.heap.size ql).trans H3.out.2.2.2;have r5:w5.cell? ⟨W.heap.size,5,none⟩=some (.string nm):=(by rw[zch hb5];rfl);have rl:=zlt hb5;have H5:=zh4 hC5.out.1 B5 (HK.out.1.below B5) (H3.out.1.ext B5);clear hC5 B5 hb5)
   |(refine step_apps (α:=LC) (o:=⟨some 109,_,_,_,_,_⟩) elemL (by rfl) (.tmp 101) (.tmp 108) (by rfl) (v:=.slice am s0.letters.length cap) (u:=.slice (some ⟨w5.heap.size,0,none⟩) 1 1) (by rfl) (by rfl) (xs:=ks) (ys:=[⟨nm,⟨k8,n8,s8,la8,ln8,lc8⟩⟩]) (H5.out.2.2.1.alloc _) (RowAt.lit (α:=LC) (y:=⟨nm,⟨k8,n8,s8,la8,ln8,lc8⟩⟩) (heap_alloc_new _ _)) (HBD.out _).1 (HBD.out _).2.1 (s0.letters.length+1) (HBD.out _).2.2 ?_;intro a1 cp w7 hr1 hk1 hf1;have hb1:=(hk1.block b (by simp;omega) (fun e=>NB.out _ e rfl)).trans ((Below.heap_alloc _ _ _ db).trans H5.out.2.2.2.h);have y0:w7.cell? ⟨b,16,none⟩=some (.slice am s0.letters.length cap):=(by rw[zch hb1];rfl);have y1:∀o,w7.frozen? ⟨b,o,none⟩=false:=(fun o=>zfr hb1 o);have y2:b<w7.heap.size:=zlt hb1;have FF:=zh3 hr1 hk1 hf1;clear hr1 hk1 hf1 hb1))
  all_goals
   have B1:Below w5.heap.size w5 (w5.alloc (.cells (enc (⟨nm,⟨k8,n8,s8,la8,ln8,lc8⟩⟩:LC)).toArray 130)):=zal
   have C5:CF (MZ Z ⟨ss,ic,ps,inp,ts,as_,.slice am s0.letters.length cap,ms⟩ b) w5 ⟨k8,n8,s8,la8,ln8,lc8⟩ (cloneV x):=H5.out.1.mono (fun g hg _=>by
    have hg:w3.heap.size≤g:=hg
    exact⟨fun e=>by have:=H3.out.1.lt e;omega,HK.out.2.2.2 g hg⟩)
   have P5:=HK.out.2.1.keep (S:=fun _=>False) (zkb H5.out.2.1) (fun _ _ f=>f)
   have S:=H5.out.2.2.2.putLts (v1:=.slice a1 (s0.letters.length+1) cp) s1 FF.out.1 (P5.app (Ptw.one (x:=⟨nm,cloneV x⟩) ⟨rfl,C5⟩)) (((zkb (S:=fun _=>False) B1).mono (fun _ _ f=>f.elim)).trans FF.out.2.1 (fun _ _ e=>e)) (fun g hg=>(FF.out.2.2 g hg).imp (fun h=>h) (fun h=>Nat.le_trans B1.size h)) HK.out.2.2.1
   have RC:=zhd (HRT.out _ _ S.1 (Nat.le_trans H3.out.2.1.keeps.size (Nat.le_trans H5.out.2.1.size S.2.keeps.size)))
   have HKK:=zhd (H3.out.2.1.trans ((MK.ext H5.out.2.1).trans S.2))
   clear S B1 C5 P5
   go_wp2_with fail
   refine RC.out.mono ?_
   rintro e w9 ⟨v9,rfl,H9⟩
   go_wp2_with fail
   go_ret
   exact⟨v9,rfl,zhd ⟨H9.out.1,HKK.out.trans H9.out.2⟩⟩
end Go.Proofs.YtakljipkaoahnaaGreatDoor
