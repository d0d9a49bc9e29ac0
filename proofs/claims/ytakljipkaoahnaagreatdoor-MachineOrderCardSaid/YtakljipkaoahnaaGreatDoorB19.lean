/- Parts of the proof: what the functions and the plain laws give that later parts lean on. Conditions: none beyond those that each theorem names. -/
import Derived.Test.YtakljipkaoahnaaGreatDoorB10
set_option maxRecDepth 100000
set_option maxHeartbeats 8000000
namespace Go.Proofs.YtakljipkaoahnaaGreatDoor
open Go.RowKit Go.Own Go.Own.MapTy Go.Va Go.Sort
open Go.Own.Cells (sz enc)
theorem step_wait
  {Z:Nat→Prop}(b:Nat)(v:MV)(p:Img)(s:MS)(W:World)(M:MX TT Z W b v p s)
  (op a:Int)(hc:p.code[s.at_]? =some ⟨op,a⟩)(nm:ByteArray)(od ii oo:Int)(en fl:Bool)(hof:ofL op=(⟨nm,od,ii,oo,true,en,fl⟩,true))(r:Bool)(s':MS)
  (WT:∀(W':World) (v':MV),MX TT Z W' b v' p s→W.heap.size≤W'.heap.size→Calls Tryz.prog 133 #[.pointer (some ⟨b,0,none⟩),.agg #[.int .i64 op,.int .i64 a]] W' (MP Z W' b v' p (.bool r) s')):
  Calls Tryz.prog 104 #[.pointer (some ⟨b,0,none⟩)] W (MP Z W b v p (.bool r) s'):=by
 have OF:=zhd (of_rule op _ _ hof)
 have HWT:=zhd WT
 clear WT hof
 obtain⟨g,off,hca,_,gl,_,m0,m1⟩:=M.img.code_at (Below.refl _ _) hc
 have hcn:=M.img.lens.1
 have c1:W.cell? ⟨b,1,none⟩=some (.slice v.ic.ca v.ic.cn v.ic.cc):=M.cell (k:=1) rfl
 rw[hca,hcn]at c1
 have c6:W.cell? ⟨b,6,none⟩=some (.int .i64 (s.at_:Int)):=M.cell (k:=6) rfl
 have b0:=zlt M.h
 have hix:(s.at_:Int)<(p.code.length:Int):=by have:=(zge hc).1;omega
 have HX:=zhd M
 clear M hca hcn hc
 go_enter Tryz.func104,Tryz.ntmps104
 go_upto_region 1 with(fail)
 go_region
 all_goals
  go_upto_region 2 with(fail)
  refine wp_named ?_
  intro w1 hw1
  have B1:Below W.heap.size W w1:=by rw[hw1];exact(zal).drew
  have hb1:w1.heap[W.heap.size]? =some (.cells #[.int .i64 op,.int .i64 a] 43 (0,0)):=by rw[hw1];exact heap_alloc_new _ _
  have e0:=zca hb1 0 rfl
  have el:=zlt hb1
  have H1:=zh2 B1 hb1
  clear hw1 B1 hb1
  go_wp2_with fail
  refine(OF.out _).mono ?_
  rintro e w2 ⟨rfl,hB2⟩
  have hb2:=(hB2.block W.heap.size el).trans H1.out.2
  have H2:=zh2 (H1.out.1.trans (hB2.mono H1.out.1.size)) hb2
  clear hB2 hb2 e0 el
  go_upto_region 3 with(fail)
  refine wp_named ?_
  intro w3 hw3
  have B3:Below W.heap.size W w3:=by rw[hw3];exact H2.out.1.alloc H2.out.1.size _
  have hi3:=zha hw3
  have hb3:w3.heap[W.heap.size]? =some (.cells #[.int .i64 op,.int .i64 a] 43 (0,0)):=by rw[hw3];exact(Below.heap_alloc _ _ _ (zlt H2.out.2)).trans H2.out.2
  have f4:=zca hi3 4 rfl
  have f5:=zca hi3 5 rfl
  have f6:=zca hi3 6 rfl
  have e0:=zca hb3 0 rfl
  have e1:=zca hb3 1 rfl
  have il:=zlt hi3
  have el:=zlt hb3
  have M3:=HX.out.ext B3
  have H3:=zh3 B3 M3 hb3
  clear hw3 B3 hi3 hb3 M3
  have WC:=zhd (HWT.out w3 v H3.out.2.1 H3.out.1.size)
  go_wp2_with fail
  refine WC.out.mono ?_
  rintro e w4 ⟨v4,rfl,H4⟩
  go_wp2_with fail
  go_ret
  exact⟨v4,rfl,zhd ⟨H4.out.1,(MK.ext H3.out.1).trans H4.out.2⟩⟩
theorem step_end
  {Z:Nat→Prop}(b:Nat)(v:MV)(p:Img)(s:MS)(W:World)(M:MX TT Z W b v p s)
  (op a:Int)(hc:p.code[s.at_]? =some ⟨op,a⟩)(nm:ByteArray)(od ii oo:Int)(fl:Bool)(hof:ofL op=(⟨nm,od,ii,oo,false,true,fl⟩,true))(s':MS)
  (WT:∀(W':World) (v':MV),MX TT Z W' b v' p s→W.heap.size≤W'.heap.size→Calls Tryz.prog 134 #[.pointer (some ⟨b,0,none⟩),.agg #[.int .i64 op,.int .i64 a]] W' (MP Z W' b v' p (.tuple #[]) s')):
  Calls Tryz.prog 104 #[.pointer (some ⟨b,0,none⟩)] W (MP Z W b v p (.bool true) s'):=by
 have OF:=zhd (of_rule op _ _ hof)
 have HWT:=zhd WT
 clear WT hof
 obtain⟨g,off,hca,_,gl,_,m0,m1⟩:=M.img.code_at (Below.refl _ _) hc
 have hcn:=M.img.lens.1
 have c1:W.cell? ⟨b,1,none⟩=some (.slice v.ic.ca v.ic.cn v.ic.cc):=M.cell (k:=1) rfl
 rw[hca,hcn]at c1
 have c6:W.cell? ⟨b,6,none⟩=some (.int .i64 (s.at_:Int)):=M.cell (k:=6) rfl
 have b0:=zlt M.h
 have hix:(s.at_:Int)<(p.code.length:Int):=by have:=(zge hc).1;omega
 have HX:=zhd M
 clear M hca hcn hc
 go_enter Tryz.func104,Tryz.ntmps104
 go_upto_region 1 with(fail)
 go_region
 all_goals
  go_upto_region 2 with(fail)
  refine wp_named ?_
  intro w1 hw1
  have B1:Below W.heap.size W w1:=by rw[hw1];exact(zal).drew
  have hb1:w1.heap[W.heap.size]? =some (.cells #[.int .i64 op,.int .i64 a] 43 (0,0)):=by rw[hw1];exact heap_alloc_new _ _
  have e0:=zca hb1 0 rfl
  have el:=zlt hb1
  have H1:=zh2 B1 hb1
  clear hw1 B1 hb1
  go_wp2_with fail
  refine(OF.out _).mono ?_
  rintro e w2 ⟨rfl,hB2⟩
  have hb2:=(hB2.block W.heap.size el).trans H1.out.2
  have H2:=zh2 (H1.out.1.trans (hB2.mono H1.out.1.size)) hb2
  clear hB2 hb2 e0 el
  go_upto_region 3 with(fail)
  refine wp_named ?_
  intro w3 hw3
  have B3:Below W.heap.size W w3:=by rw[hw3];exact H2.out.1.alloc H2.out.1.size _
  have hi3:=zha hw3
  have hb3:w3.heap[W.heap.size]? =some (.cells #[.int .i64 op,.int .i64 a] 43 (0,0)):=by rw[hw3];exact(Below.heap_alloc _ _ _ (zlt H2.out.2)).trans H2.out.2
  have f4:=zca hi3 4 rfl
  have f5:=zca hi3 5 rfl
  have f6:=zca hi3 6 rfl
  have e0:=zca hb3 0 rfl
  have e1:=zca hb3 1 rfl
  have il:=zlt hi3
  have el:=zlt hb3
  have M3:=HX.out.ext B3
  have H3:=zh3 B3 M3 hb3
  clear hw3 B3 hi3 hb3 M3
  have WC:=zhd (HWT.out w3 v H3.out.2.1 H3.out.1.size)
  go_wp2_with fail
  refine WC.out.mono ?_
  rintro e w4 ⟨v4,rfl,H4⟩
  go_wp2_with fail
  go_ret
  exact⟨v4,rfl,zhd ⟨H4.out.1,(MK.ext H3.out.1).trans H4.out.2⟩⟩
theorem step_x
  {Z:Nat→Prop}(b:Nat)(v:MV)(p:Img)(s:MS)(W:World)(M:MX TT Z W b v p s)
  (op a:Int)(hc:p.code[s.at_]? =some ⟨op,a⟩)(nm:ByteArray)(od ii oo:Int)(hof:ofL op=(⟨nm,od,ii,oo,false,false,false⟩,true))(hat:s.at_≤4294967296)(hk:s.stk.length≤4294967296)(s':MS)
  (hd:(op=16∧s'=s.nxt.push (vInt s.now))∨(op=2∧s'=s.nxt.pop)∨(op=0∧s'=s.nxt)∨(op=24∧s'=s.nxt.push (vBool s.asked))):
  Calls Tryz.prog 104 #[.pointer (some ⟨b,0,none⟩)] W (MP Z W b v p (.bool true) s')
  :=by
 have HD:=zhd hd
 have atw:wrap64 ((s.at_:Int)+1)=(s.at_:Int)+1:=by unfold wrap64;omega
 have OF:=zhd (of_rule op _ _ hof)
 clear hof hd
 obtain⟨g,off,hca,_,gl,_,m0,m1⟩:=M.img.code_at (Below.refl _ _) hc
 have hcn:=M.img.lens.1
 have c1:W.cell? ⟨b,1,none⟩=some (.slice v.ic.ca v.ic.cn v.ic.cc):=M.cell (k:=1) rfl
 rw[hca,hcn]at c1
 have c6:W.cell? ⟨b,6,none⟩=some (.int .i64 (s.at_:Int)):=M.cell (k:=6) rfl
 have b0:=zlt M.h
 have hix:(s.at_:Int)<(p.code.length:Int):=by have:=(zge hc).1;omega
 have HX:=zhd M
 clear M hca hcn hc
 go_enter Tryz.func104,Tryz.ntmps104
 go_upto_region 1 with(fail)
 go_region
 all_goals
  go_upto_region 2 with(fail)
  refine wp_named ?_
  intro w1 hw1
  have B1:Below W.heap.size W w1:=by rw[hw1];exact(zal).drew
  have hb1:w1.heap[W.heap.size]? =some (.cells #[.int .i64 op,.int .i64 a] 43 (0,0)):=by rw[hw1];exact heap_alloc_new _ _
  have e0:=zca hb1 0 rfl
  have el:=zlt hb1
  have H1:=zh2 B1 hb1
  clear hw1 B1 hb1
  go_wp2_with fail
  refine(OF.out _).mono ?_
  rintro e w2 ⟨rfl,hB2⟩
  have hb2:=(hB2.block W.heap.size el).trans H1.out.2
  have H2:=zh2 (H1.out.1.trans (hB2.mono H1.out.1.size)) hb2
  clear hB2 hb2 e0 el
  go_upto_region 3 with(fail)
  refine wp_named ?_
  intro w3 hw3
  have B3:Below W.heap.size W w3:=by rw[hw3];exact H2.out.1.alloc H2.out.1.size _
  have hi3:=zha hw3
  have hb3:w3.heap[W.heap.size]? =some (.cells #[.int .i64 op,.int .i64 a] 43 (0,0)):=by rw[hw3];exact(Below.heap_alloc _ _ _ (zlt H2.out.2)).trans H2.out.2
  have f4:=zca hi3 4 rfl
  have f5:=zca hi3 5 rfl
  have f6:=zca hi3 6 rfl
  have e0:=zca hb3 0 rfl
  have e1:=zca hb3 1 rfl
  have il:=zlt hi3
  have el:=zlt hb3
  have M3:=HX.out.ext B3
  have H3:=zh3 B3 M3 hb3
  clear hw3 B3 hi3 hb3 M3
  have c6:w3.cell? ⟨b,6,none⟩=some (.int .i64 (s.at_:Int)):=H3.out.2.1.cell (k:=6) rfl
  have f0:∀o,w3.frozen? ⟨b,o,none⟩=false:=fun o=>H3.out.2.1.frozen o
  have b3:=zlt H3.out.2.1.h
  go_upto_region 14 with(fail)
  refine wp_named ?_
  intro w4 hw4
  have S4:=H3.out.2.1.scalar 6 (.int .i64 ((s.at_:Int)+1)) s.nxt rfl rfl rfl rfl rfl rfl rfl rfl
  rw[←hw4]at S4
  have hb4:w4.heap[W.heap.size]? =some (.cells #[.int .i64 op,.int .i64 a] 43 (0,0)):=by
   rw[hw4,Below.heap_setCell _ _ _ _ (fun e=>by have e:W.heap.size=b:=e;omega)]
   exact H3.out.2.2
  have g0:=zca hb4 0 rfl
  have g1:=zca hb4 1 rfl
  have gl:=zlt hb4
  have H4:=zh3 S4.1 ((MK.ext H3.out.1).trans S4.2) hb4
  have b4:=zlt S4.1.h
  have hlen:s.nxt.stk.length≤4294967296:=hk
  clear S4 hw4 hb4 f4 f5 f6 e0 e1 c6 f0 b3 il el c1 m0 m1 hix
  rcases HD.out with⟨hop,hs⟩|⟨hop,hs⟩|⟨hop,hs⟩|⟨hop,hs⟩
  ·skip
   have hE:=zhd hs
   clear hs
   subst hop
   have c11:w4.cell? ⟨b,11,none⟩=some (.int .i64 s.now):=H4.out.1.cell (k:=11) rfl
   go_upto_region 33 with(fail)
   go_region_law (first
    |(go_simp;go_at_call 48;refine(vof_any _ _).mono ?_;rintro e w8 ⟨rfl,hB8⟩;have H8:=zhd (Below.trans ((Below.refl w4.heap.size w4).drew) hB8);clear hB8)
    |(go_simp;go_at_call 137;refine(push_any b v p _ w8 (H4.out.1.ext H8.out) (vInt s.now) 1 _ ⟨#[]⟩ none 0 0 (cf_int _ _ _) hlen).mono ?_;rintro e w9 ⟨v9,rfl,H9⟩))
   all_goals
    go_wp2_with fail
    go_ret
    exact⟨v9,rfl,zhd ⟨by rw[hE.out];exact H9.out.1,H4.out.2.1.trans ((MK.ext H8.out).trans H9.out.2)⟩⟩
  ·skip
   have hE:=zhd hs
   clear hs
   subst hop
   have PO:=zhd (pop_any b v p _ w4 H4.out.1)
   go_wp2_with fail
   refine PO.out.mono ?_
   rintro e w5 ⟨v5,⟨ck,cn,cs,la,ln,lc⟩,rfl,H5⟩
   go_wp2_with fail
   go_ret
   exact⟨v5,rfl,zhd ⟨by rw[hE.out];exact H5.out.1,H4.out.2.1.trans H5.out.2.1⟩⟩
  ·skip
   have hE:=zhd hs
   clear hs
   subst hop
   go_wp2_with fail
   go_ret
   exact⟨v,rfl,zhd ⟨by rw[hE.out];exact H4.out.1,H4.out.2.1⟩⟩
  ·skip
   have hE:=zhd hs
   clear hs
   subst hop
   have c17:w4.cell? ⟨b,17,none⟩=some (.bool s.asked):=H4.out.1.cell (k:=17) rfl
   have BO:=zhd (fun W=>bool_any s.asked W)
   have HE2:=zhd (show s'=s.nxt.push (vBool s.asked)from hE.out)
   clear hE
   obtain⟨q,hq⟩:∃q,s.asked=q:=⟨_,rfl⟩
   rw[hq]at c17 BO HE2
   go_upto_region 35 with(fail)
   clear hq
   cases q
   ·
    go_region_law (first
     |(go_simp;go_at_call 138;refine(BO.out _).mono ?_;rintro e w8 ⟨rfl,hB8⟩;have H8:=zhd (Below.trans ((Below.refl w4.heap.size w4).drew) hB8);clear hB8)
     |(go_simp;go_at_call 137;refine(push_any b v p _ w8 (H4.out.1.ext H8.out) (vBool false) 1 _ ⟨#[]⟩ none 0 0 (cf_bool _ _ _) hlen).mono ?_;rintro e w9 ⟨v9,rfl,H9⟩))
    all_goals
     go_wp2_with fail
     go_ret
     exact⟨v9,rfl,zhd ⟨by rw[HE2.out];exact H9.out.1,H4.out.2.1.trans ((MK.ext H8.out).trans H9.out.2)⟩⟩
   ·
    go_region_law (first
     |(go_simp;go_at_call 138;refine(BO.out _).mono ?_;rintro e w8 ⟨rfl,hB8⟩;have H8:=zhd (Below.trans ((Below.refl w4.heap.size w4).drew) hB8);clear hB8)
     |(go_simp;go_at_call 137;refine(push_any b v p _ w8 (H4.out.1.ext H8.out) (vBool true) 1 _ ⟨#[]⟩ none 0 0 (cf_bool _ _ _) hlen).mono ?_;rintro e w9 ⟨v9,rfl,H9⟩))
    all_goals
     go_wp2_with fail
     go_ret
     exact⟨v9,rfl,zhd ⟨by rw[HE2.out];exact H9.out.1,H4.out.2.1.trans ((MK.ext H8.out).trans H9.out.2)⟩⟩
theorem step_y
  {Z:Nat→Prop}(b:Nat)(v:MV)(p:Img)(s:MS)(W:World)(M:MX TT Z W b v p s)
  (op a:Int)(hc:p.code[s.at_]? =some ⟨op,a⟩)(nm:ByteArray)(od ii oo:Int)(hof:ofL op=(⟨nm,od,ii,oo,false,false,false⟩,true))(hat:s.at_≤4294967296)(hk:s.stk.length≤4294967296)(s':MS)
  (hZ:(∀j,W.heap.size≤j→Z j))
  (hd:(op=3∧szV s.top≤1073741824∧s'=s.nxt.push (cloneV s.top))∨(op=15∧szV s.input≤1073741824∧s'=s.nxt.push (cloneV s.input))∨(op=1∧∃(k:Nat) (x:Val),a=k∧p.consts[k]? =some x∧szV x≤1073741824∧s'=s.nxt.push (cloneV x))∨(op=13∧∃(k:Nat) (x:Val),a=k∧s.places[k]? =some x∧szV x≤1073741824∧s'=s.nxt.push (cloneV x))):
  Calls Tryz.prog 104 #[.pointer (some ⟨b,0,none⟩)] W (MP Z W b v p (.bool true) s')
  :=by
 have HD:=zhd hd
 have atw:wrap64 ((s.at_:Int)+1)=(s.at_:Int)+1:=by unfold wrap64;omega
 have OF:=zhd (of_rule op _ _ hof)
 clear hof hd
 obtain⟨g,off,hca,_,gl,_,m0,m1⟩:=M.img.code_at (Below.refl _ _) hc
 have hcn:=M.img.lens.1
 have c1:W.cell? ⟨b,1,none⟩=some (.slice v.ic.ca v.ic.cn v.ic.cc):=M.cell (k:=1) rfl
 rw[hca,hcn]at c1
 have c6:W.cell? ⟨b,6,none⟩=some (.int .i64 (s.at_:Int)):=M.cell (k:=6) rfl
 have b0:=zlt M.h
 have hix:(s.at_:Int)<(p.code.length:Int):=by have:=(zge hc).1;omega
 have HX:=zhd M
 clear M hca hcn hc
 go_enter Tryz.func104,Tryz.ntmps104
 go_upto_region 1 with(fail)
 go_region
 all_goals
  go_upto_region 2 with(fail)
  refine wp_named ?_
  intro w1 hw1
  have B1:Below W.heap.size W w1:=by rw[hw1];exact(zal).drew
  have hb1:w1.heap[W.heap.size]? =some (.cells #[.int .i64 op,.int .i64 a] 43 (0,0)):=by rw[hw1];exact heap_alloc_new _ _
  have e0:=zca hb1 0 rfl
  have el:=zlt hb1
  have H1:=zh2 B1 hb1
  clear hw1 B1 hb1
  go_wp2_with fail
  refine(OF.out _).mono ?_
  rintro e w2 ⟨rfl,hB2⟩
  have hb2:=(hB2.block W.heap.size el).trans H1.out.2
  have H2:=zh2 (H1.out.1.trans (hB2.mono H1.out.1.size)) hb2
  clear hB2 hb2 e0 el
  go_upto_region 3 with(fail)
  refine wp_named ?_
  intro w3 hw3
  have B3:Below W.heap.size W w3:=by rw[hw3];exact H2.out.1.alloc H2.out.1.size _
  have hi3:=zha hw3
  have hb3:w3.heap[W.heap.size]? =some (.cells #[.int .i64 op,.int .i64 a] 43 (0,0)):=by rw[hw3];exact(Below.heap_alloc _ _ _ (zlt H2.out.2)).trans H2.out.2
  have f4:=zca hi3 4 rfl
  have f5:=zca hi3 5 rfl
  have f6:=zca hi3 6 rfl
  have e0:=zca hb3 0 rfl
  have e1:=zca hb3 1 rfl
  have il:=zlt hi3
  have el:=zlt hb3
  have M3:=HX.out.ext B3
  have H3:=zh3 B3 M3 hb3
  clear hw3 B3 hi3 hb3 M3
  have c6:w3.cell? ⟨b,6,none⟩=some (.int .i64 (s.at_:Int)):=H3.out.2.1.cell (k:=6) rfl
  have f0:∀o,w3.frozen? ⟨b,o,none⟩=false:=fun o=>H3.out.2.1.frozen o
  have b3:=zlt H3.out.2.1.h
  go_upto_region 14 with(fail)
  refine wp_named ?_
  intro w4 hw4
  have S4:=H3.out.2.1.scalar 6 (.int .i64 ((s.at_:Int)+1)) s.nxt rfl rfl rfl rfl rfl rfl rfl rfl
  rw[←hw4]at S4
  have hb4:w4.heap[W.heap.size]? =some (.cells #[.int .i64 op,.int .i64 a] 43 (0,0)):=by
   rw[hw4,Below.heap_setCell _ _ _ _ (fun e=>by have e:W.heap.size=b:=e;omega)]
   exact H3.out.2.2
  have g0:=zca hb4 0 rfl
  have g1:=zca hb4 1 rfl
  have gl:=zlt hb4
  have H4:=zh3 S4.1 ((MK.ext H3.out.1).trans S4.2) hb4
  have b4:=zlt S4.1.h
  have hlen:s.nxt.stk.length≤4294967296:=hk
  clear S4 hw4 hb4 f4 f5 f6 e0 e1 c6 f0 b3 il el c1 m0 m1 hix
  rcases HD.out with⟨hop,hz,hs⟩|⟨hop,hz,hs⟩|⟨hop,k,x,hak,hx,hz,hs⟩|⟨hop,k,x,hak,hx,hz,hs⟩
  ·skip
   have hE:=zhd hs
   clear hs
   subst hop
   have TP:=zhd (top_any b v p _ w4.drew (H4.out.1.ext (Below.refl _ _).drew))
   go_upto_region 21 with(fail)
   go_region_law (first
    |(go_simp;go_at_call 94;refine TP.out.mono ?_;rintro e w5 ⟨v5,⟨ck,cn,cs,la,ln,lc⟩,rfl,H5⟩)
    |(go_simp;go_at_call 57;refine(clone_any s.top ck cn cs la ln lc _ w5 H5.out.2.2 hz).mono ?_;rintro e w7 ⟨⟨k8,n8,s8,la8,ln8,lc8⟩,rfl,H7⟩)
    |(go_simp;go_at_call 137;refine(push_any b v5 p _ w7 (H5.out.1.ext H7.out.2) (cloneV s.top) k8 n8 s8 la8 ln8 lc8 (H7.out.1.mono (fun g hg _=>⟨fun e=>by have:=H5.out.1.lt e;have hg:w5.heap.size≤g:=hg;omega,hZ g (by have hg:w5.heap.size≤g:=hg;have:=H5.out.2.1.keeps.size;have h4:W.heap.size≤w4.heap.size:=H4.out.2.1.keeps.size;have h5:w4.drew.heap.size=w4.heap.size:=rfl;omega)⟩)) hlen).mono ?_;rintro e w9 ⟨v9,rfl,H9⟩))
   all_goals
    go_wp2_with fail
    go_ret
    exact⟨v9,rfl,zhd ⟨by rw[hE.out];exact H9.out.1,H4.out.2.1.trans ((MK.ext ((Below.refl w4.heap.size w4).drew)).trans (H5.out.2.1.trans ((MK.ext H7.out.2).trans H9.out.2)))⟩⟩
  ·skip
   have hE:=zhd hs
   clear hs
   subst hop
   have c7:w4.cell? ⟨b,7,none⟩=some (.int .i64 v.inp.kind):=H4.out.1.cell (k:=7) rfl
   have c8:w4.cell? ⟨b,8,none⟩=some (.int .i64 v.inp.n):=H4.out.1.cell (k:=8) rfl
   have c9:w4.cell? ⟨b,9,none⟩=some (.string v.inp.s):=H4.out.1.cell (k:=9) rfl
   have c10:w4.cell? ⟨b,10,none⟩=some (.slice v.inp.la v.inp.ln v.inp.lc):=H4.out.1.cell (k:=10) rfl
   have CL:=zhd (clone_any s.input v.inp.kind v.inp.n v.inp.s v.inp.la v.inp.ln v.inp.lc _ w4.drew (H4.out.1.inp.keep (S:=fun _=>False) (zkb ((Below.refl _ _).drew)) (fun _ _ f=>f)) hz)
   go_upto_region 31 with(fail)
   go_region_law (first
    |(go_simp;go_at_call 57;refine CL.out.mono ?_;rintro e w7 ⟨⟨k8,n8,s8,la8,ln8,lc8⟩,rfl,hC7⟩;have B7:Below w4.heap.size w4 w7:=Below.trans ((Below.refl w4.heap.size w4).drew) hC7.out.2;have H7:=zh2 hC7.out.1 B7;clear hC7 B7)
    |(go_simp;go_at_call 137;refine(push_any b v p _ w7 (H4.out.1.ext H7.out.2) (cloneV s.input) k8 n8 s8 la8 ln8 lc8 (H7.out.1.mono (fun g hg _=>⟨fun e=>by have:=H4.out.1.lt e;have hg:w4.heap.size≤g:=hg;omega,hZ g (by have hg:w4.heap.size≤g:=hg;have h4:W.heap.size≤w4.heap.size:=H4.out.2.1.keeps.size;omega)⟩)) hlen).mono ?_;rintro e w9 ⟨v9,rfl,H9⟩))
   all_goals
    go_wp2_with fail
    go_ret
    exact⟨v9,rfl,zhd ⟨by rw[hE.out];exact H9.out.1,H4.out.2.1.trans ((MK.ext H7.out.2).trans H9.out.2)⟩⟩
  ·skip
   have hE:=zhd hs
   clear hs
   have hkn:(k:Int)<(p.consts.length:Int):=by have:=(zge hx).1;omega
   have HXK:=zhd hx
   clear hx
   subst hop
   subst hak
   obtain⟨kg,koff,kc,hka,_,kgl,_,hCk,k0,k1,k2,k3⟩:=H4.out.1.img.const_at (Below.refl _ _) HXK.out
   have hkl:=H4.out.1.img.lens.2.1
   have c2:w4.cell? ⟨b,2,none⟩=some (.slice v.ic.ka v.ic.kn v.ic.kc):=H4.out.1.cell (k:=2) rfl
   rw[hka,hkl]at c2
   have CL:=zhd (clone_any x kc.kind kc.n kc.s kc.la kc.ln kc.lc _ w4.drew (hCk.keep (S:=fun _=>False) (zkb ((Below.refl _ _).drew)) (fun _ _ f=>f)) hz)
   clear hka hkl hCk
   go_upto_region 17 with(fail)
   go_region_law (first
    |(go_simp;go_at_call 57;refine CL.out.mono ?_;rintro e w7 ⟨⟨k8,n8,s8,la8,ln8,lc8⟩,rfl,hC7⟩;have B7:Below w4.heap.size w4 w7:=Below.trans ((Below.refl w4.heap.size w4).drew) hC7.out.2;have H7:=zh2 hC7.out.1 B7;clear hC7 B7)
    |(go_simp;go_at_call 137;refine(push_any b v p _ w7 (H4.out.1.ext H7.out.2) (cloneV x) k8 n8 s8 la8 ln8 lc8 (H7.out.1.mono (fun g hg _=>⟨fun e=>by have:=H4.out.1.lt e;have hg:w4.heap.size≤g:=hg;omega,hZ g (by have hg:w4.heap.size≤g:=hg;have h4:W.heap.size≤w4.heap.size:=H4.out.2.1.keeps.size;omega)⟩)) hlen).mono ?_;rintro e w9 ⟨v9,rfl,H9⟩))
   all_goals
    go_wp2_with fail
    go_ret
    exact⟨v9,rfl,zhd ⟨by rw[hE.out];exact H9.out.1,H4.out.2.1.trans ((MK.ext H7.out.2).trans H9.out.2)⟩⟩
  ·skip
   have hE:=zhd hs
   clear hs
   have hkn:(k:Int)<(s.places.length:Int):=by have:=(zge hx).1;omega
   have HXK:=zhd hx
   clear hx
   subst hop
   subst hak
   obtain⟨pa,pc,hps⟩:∃a cap,v.ps= .slice a s.places.length cap:=H4.out.1.pls.slice
   have c5:w4.cell? ⟨b,5,none⟩=some (.slice pa s.places.length pc):=by rw[←hps];exact H4.out.1.cell (k:=5) rfl
   obtain⟨kg,koff,kc,hka,kgl,hCk,_,hcs⟩:=(show XRow _ w4 39 (.slice pa s.places.length pc) s.places from hps▸H4.out.1.pls).at_ HXK.out
   have k0:w4.cell? ⟨kg,koff+k*4,none⟩=some (.int .i64 kc.kind):=hcs 0 _ rfl
   have k1:w4.cell? ⟨kg,koff+k*4+1,none⟩=some (.int .i64 kc.n):=hcs 1 _ rfl
   have k2:w4.cell? ⟨kg,koff+k*4+2,none⟩=some (.string kc.s):=hcs 2 _ rfl
   have k3:w4.cell? ⟨kg,koff+k*4+3,none⟩=some (.slice kc.la kc.ln kc.lc):=hcs 3 _ rfl
   subst hka
   have hCk2:CF _ w4 kc x:=hCk
   have CL:=zhd (clone_any x kc.kind kc.n kc.s kc.la kc.ln kc.lc _ w4.drew (hCk2.keep (S:=fun _=>False) (zkb ((Below.refl _ _).drew)) (fun _ _ f=>f)) hz)
   clear hps hCk hcs hCk2
   go_upto_region 27 with(fail)
   go_region_law (first
    |(go_simp;go_at_call 57;refine CL.out.mono ?_;rintro e w7 ⟨⟨k8,n8,s8,la8,ln8,lc8⟩,rfl,hC7⟩;have B7:Below w4.heap.size w4 w7:=Below.trans ((Below.refl w4.heap.size w4).drew) hC7.out.2;have H7:=zh2 hC7.out.1 B7;clear hC7 B7)
    |(go_simp;go_at_call 137;refine(push_any b v p _ w7 (H4.out.1.ext H7.out.2) (cloneV x) k8 n8 s8 la8 ln8 lc8 (H7.out.1.mono (fun g hg _=>⟨fun e=>by have:=H4.out.1.lt e;have hg:w4.heap.size≤g:=hg;omega,hZ g (by have hg:w4.heap.size≤g:=hg;have h4:W.heap.size≤w4.heap.size:=H4.out.2.1.keeps.size;omega)⟩)) hlen).mono ?_;rintro e w9 ⟨v9,rfl,H9⟩))
   all_goals
    go_wp2_with fail
    go_ret
    exact⟨v9,rfl,zhd ⟨by rw[hE.out];exact H9.out.1,H4.out.2.1.trans ((MK.ext H7.out.2).trans H9.out.2)⟩⟩
theorem step_jump
  {Z:Nat→Prop}(b:Nat)(v:MV)(p:Img)(s:MS)(W:World)(M:MX TT Z W b v p s)
  (a:Nat)(hc:p.code[s.at_]? =some ⟨11,a⟩)(nm:ByteArray)(od ii oo:Int)(hof:ofL 11=(⟨nm,od,ii,oo,false,false,true⟩,true))(s':MS)(hs':s'={s with at_:=a}):
  Calls Tryz.prog 104 #[.pointer (some ⟨b,0,none⟩)] W (MP Z W b v p (.bool true) s')
  :=by
 have OF:=zhd (of_rule 11 _ _ hof)
 have hE:=zhd hs'
 clear hof hs'
 obtain⟨g,off,hca,_,gl,_,m0,m1⟩:=M.img.code_at (Below.refl _ _) hc
 have hcn:=M.img.lens.1
 have c1:W.cell? ⟨b,1,none⟩=some (.slice v.ic.ca v.ic.cn v.ic.cc):=M.cell (k:=1) rfl
 rw[hca,hcn]at c1
 have c6:W.cell? ⟨b,6,none⟩=some (.int .i64 (s.at_:Int)):=M.cell (k:=6) rfl
 have b0:=zlt M.h
 have hix:(s.at_:Int)<(p.code.length:Int):=by have:=(zge hc).1;omega
 have HX:=zhd M
 clear M hca hcn hc
 go_enter Tryz.func104,Tryz.ntmps104
 go_upto_region 1 with(fail)
 go_region
 all_goals
  go_upto_region 2 with(fail)
  refine wp_named ?_
  intro w1 hw1
  have B1:Below W.heap.size W w1:=by rw[hw1];exact(zal).drew
  have hb1:w1.heap[W.heap.size]? =some (.cells #[.int .i64 11,.int .i64 (a:Int)] 43 (0,0)):=by rw[hw1];exact heap_alloc_new _ _
  have e0:=zca hb1 0 rfl
  have el:=zlt hb1
  have H1:=zh2 B1 hb1
  clear hw1 B1 hb1
  go_wp2_with fail
  refine(OF.out _).mono ?_
  rintro e w2 ⟨rfl,hB2⟩
  have hb2:=(hB2.block W.heap.size el).trans H1.out.2
  have H2:=zh2 (H1.out.1.trans (hB2.mono H1.out.1.size)) hb2
  clear hB2 hb2 e0 el
  go_upto_region 3 with(fail)
  refine wp_named ?_
  intro w3 hw3
  have B3:Below W.heap.size W w3:=by rw[hw3];exact H2.out.1.alloc H2.out.1.size _
  have hi3:=zha hw3
  have hb3:w3.heap[W.heap.size]? =some (.cells #[.int .i64 11,.int .i64 (a:Int)] 43 (0,0)):=by rw[hw3];exact(Below.heap_alloc _ _ _ (zlt H2.out.2)).trans H2.out.2
  have f4:=zca hi3 4 rfl
  have f5:=zca hi3 5 rfl
  have f6:=zca hi3 6 rfl
  have e0:=zca hb3 0 rfl
  have e1:=zca hb3 1 rfl
  have il:=zlt hi3
  have el:=zlt hb3
  have M3:=HX.out.ext B3
  have H3:=zh3 B3 M3 hb3
  clear hw3 B3 hi3 hb3 M3
  have c6:w3.cell? ⟨b,6,none⟩=some (.int .i64 (s.at_:Int)):=H3.out.2.1.cell (k:=6) rfl
  have f0:∀o,w3.frozen? ⟨b,o,none⟩=false:=fun o=>H3.out.2.1.frozen o
  have b3:=zlt H3.out.2.1.h
  have SN:=zhd (H3.out.2.1.scalar 6 (.int .i64 (a:Int)) s' (by rw[hE.out];rfl) (by rw[hE.out]) (by rw[hE.out]) (by rw[hE.out]) (by rw[hE.out]) (by rw[hE.out]) (by rw[hE.out]) (by rw[hE.out]))
  go_wp2_with fail
  go_ret
  exact⟨v,rfl,zhd ⟨SN.out.1,(MK.ext H3.out.1).trans SN.out.2⟩⟩
theorem step_go
  {Z:Nat→Prop}(b:Nat)(v:MV)(p:Img)(s:MS)(W:World)(M:MX TT Z W b v p s)
  (op a:Int)(hc:p.code[s.at_]? =some ⟨op,a⟩)(nm:ByteArray)(od ii oo:Int)(hof:ofL op=(⟨nm,od,ii,oo,false,false,false⟩,true))(hat:s.at_≤4294967296)(hk:s.stk.length≤4294967296)(s':MS)(fn:Nat)
  (hd:(fn=141∧(op=17∨op=19∨op=20))∨(fn=142∧(op=5∨op=6∨op=7∨op=8∨op=9∨op=10∨op=29∨op=30∨op=31∨op=32)))
  (WT:∀(W':World) (v':MV),MX TT Z W' b v' p s.nxt→W.heap.size≤W'.heap.size→Calls Tryz.prog fn #[.pointer (some ⟨b,0,none⟩),.agg #[.int .i64 op,.int .i64 a]] W' (MP Z W' b v' p (.bool true) s')):
  Calls Tryz.prog 104 #[.pointer (some ⟨b,0,none⟩)] W (MP Z W b v p (.bool true) s')
  :=by
 have HWT:=zhd WT
 clear WT
 have HD:=zhd hd
 have atw:wrap64 ((s.at_:Int)+1)=(s.at_:Int)+1:=by unfold wrap64;omega
 have OF:=zhd (of_rule op _ _ hof)
 clear hof hd
 obtain⟨g,off,hca,_,gl,_,m0,m1⟩:=M.img.code_at (Below.refl _ _) hc
 have hcn:=M.img.lens.1
 have c1:W.cell? ⟨b,1,none⟩=some (.slice v.ic.ca v.ic.cn v.ic.cc):=M.cell (k:=1) rfl
 rw[hca,hcn]at c1
 have c6:W.cell? ⟨b,6,none⟩=some (.int .i64 (s.at_:Int)):=M.cell (k:=6) rfl
 have b0:=zlt M.h
 have hix:(s.at_:Int)<(p.code.length:Int):=by have:=(zge hc).1;omega
 have HX:=zhd M
 clear M hca hcn hc
 go_enter Tryz.func104,Tryz.ntmps104
 go_upto_region 1 with(fail)
 go_region
 all_goals
  go_upto_region 2 with(fail)
  refine wp_named ?_
  intro w1 hw1
  have B1:Below W.heap.size W w1:=by rw[hw1];exact(zal).drew
  have hb1:w1.heap[W.heap.size]? =some (.cells #[.int .i64 op,.int .i64 a] 43 (0,0)):=by rw[hw1];exact heap_alloc_new _ _
  have e0:=zca hb1 0 rfl
  have el:=zlt hb1
  have H1:=zh2 B1 hb1
  clear hw1 B1 hb1
  go_wp2_with fail
  refine(OF.out _).mono ?_
  rintro e w2 ⟨rfl,hB2⟩
  have hb2:=(hB2.block W.heap.size el).trans H1.out.2
  have H2:=zh2 (H1.out.1.trans (hB2.mono H1.out.1.size)) hb2
  clear hB2 hb2 e0 el
  go_upto_region 3 with(fail)
  refine wp_named ?_
  intro w3 hw3
  have B3:Below W.heap.size W w3:=by rw[hw3];exact H2.out.1.alloc H2.out.1.size _
  have hi3:=zha hw3
  have hb3:w3.heap[W.heap.size]? =some (.cells #[.int .i64 op,.int .i64 a] 43 (0,0)):=by rw[hw3];exact(Below.heap_alloc _ _ _ (zlt H2.out.2)).trans H2.out.2
  have f4:=zca hi3 4 rfl
  have f5:=zca hi3 5 rfl
  have f6:=zca hi3 6 rfl
  have e0:=zca hb3 0 rfl
  have e1:=zca hb3 1 rfl
  have il:=zlt hi3
  have el:=zlt hb3
  have M3:=HX.out.ext B3
  have H3:=zh3 B3 M3 hb3
  clear hw3 B3 hi3 hb3 M3
  have c6:w3.cell? ⟨b,6,none⟩=some (.int .i64 (s.at_:Int)):=H3.out.2.1.cell (k:=6) rfl
  have f0:∀o,w3.frozen? ⟨b,o,none⟩=false:=fun o=>H3.out.2.1.frozen o
  have b3:=zlt H3.out.2.1.h
  go_upto_region 14 with(fail)
  refine wp_named ?_
  intro w4 hw4
  have S4:=H3.out.2.1.scalar 6 (.int .i64 ((s.at_:Int)+1)) s.nxt rfl rfl rfl rfl rfl rfl rfl rfl
  rw[←hw4]at S4
  have hb4:w4.heap[W.heap.size]? =some (.cells #[.int .i64 op,.int .i64 a] 43 (0,0)):=by
   rw[hw4,Below.heap_setCell _ _ _ _ (fun e=>by have e:W.heap.size=b:=e;omega)]
   exact H3.out.2.2
  have g0:=zca hb4 0 rfl
  have g1:=zca hb4 1 rfl
  have gl:=zlt hb4
  have H4:=zh3 S4.1 ((MK.ext H3.out.1).trans S4.2) hb4
  have b4:=zlt S4.1.h
  have hlen:s.nxt.stk.length≤4294967296:=hk
  clear S4 hw4 hb4 f4 f5 f6 e0 e1 c6 f0 b3 il el c1 m0 m1 hix
  have WC:=zhd (HWT.out w4 v H4.out.1 H4.out.2.1.keeps.size)
  rcases HD.out with⟨hf,hop⟩|⟨hf,hop⟩
  ·subst hf
   rcases hop with hop|hop|hop
   all_goals
    subst hop
    go_wp2_with fail
    refine WC.out.mono ?_
    rintro e w5 ⟨v5,rfl,H5⟩
    go_wp2_with fail
    go_ret
    exact⟨v5,rfl,zhd ⟨H5.out.1,H4.out.2.1.trans H5.out.2⟩⟩
  ·subst hf
   rcases hop with hop|hop|hop|hop|hop|hop|hop|hop|hop|hop
   all_goals
    subst hop
    go_wp2_with fail
    refine WC.out.mono ?_
    rintro e w5 ⟨v5,rfl,H5⟩
    go_wp2_with fail
    go_ret
    exact⟨v5,rfl,zhd ⟨H5.out.1,H4.out.2.1.trans H5.out.2⟩⟩
theorem step_branch
  {Z:Nat→Prop}(b:Nat)(v:MV)(p:Img)(s:MS)(W:World)(M:MX TT Z W b v p s)
  (op:Int)(h11:(op==11)=false)(a:Nat)(hc:p.code[s.at_]? =some ⟨op,a⟩)(nm:ByteArray)(od ii oo:Int)(hof:ofL op=(⟨nm,od,ii,oo,false,false,true⟩,true))(hat:s.at_≤4294967296)(s':MS)(hs':s'=bif trueV s.top then s.pop.nxt else{s.pop with at_:=a}):
  Calls Tryz.prog 104 #[.pointer (some ⟨b,0,none⟩)] W (MP Z W b v p (.bool true) s')
  :=by
 have atw:wrap64 ((s.at_:Int)+1)=(s.at_:Int)+1:=by unfold wrap64;omega
 have OF:=zhd (of_rule op _ _ hof)
 have hE:=zhd hs'
 clear hof hs'
 obtain⟨g,off,hca,_,gl,_,m0,m1⟩:=M.img.code_at (Below.refl _ _) hc
 have hcn:=M.img.lens.1
 have c1:W.cell? ⟨b,1,none⟩=some (.slice v.ic.ca v.ic.cn v.ic.cc):=M.cell (k:=1) rfl
 rw[hca,hcn]at c1
 have c6:W.cell? ⟨b,6,none⟩=some (.int .i64 (s.at_:Int)):=M.cell (k:=6) rfl
 have b0:=zlt M.h
 have hix:(s.at_:Int)<(p.code.length:Int):=by have:=(zge hc).1;omega
 have HX:=zhd M
 clear M hca hcn hc
 go_enter Tryz.func104,Tryz.ntmps104
 go_upto_region 1 with(fail)
 go_region
 all_goals
  go_upto_region 2 with(fail)
  refine wp_named ?_
  intro w1 hw1
  have B1:Below W.heap.size W w1:=by rw[hw1];exact(zal).drew
  have hb1:w1.heap[W.heap.size]? =some (.cells #[.int .i64 op,.int .i64 (a:Int)] 43 (0,0)):=by rw[hw1];exact heap_alloc_new _ _
  have e0:=zca hb1 0 rfl
  have el:=zlt hb1
  have H1:=zh2 B1 hb1
  clear hw1 B1 hb1
  go_wp2_with fail
  refine(OF.out _).mono ?_
  rintro e w2 ⟨rfl,hB2⟩
  have hb2:=(hB2.block W.heap.size el).trans H1.out.2
  have H2:=zh2 (H1.out.1.trans (hB2.mono H1.out.1.size)) hb2
  clear hB2 hb2 e0 el
  go_upto_region 3 with(fail)
  refine wp_named ?_
  intro w3 hw3
  have B3:Below W.heap.size W w3:=by rw[hw3];exact H2.out.1.alloc H2.out.1.size _
  have hi3:=zha hw3
  have hb3:w3.heap[W.heap.size]? =some (.cells #[.int .i64 op,.int .i64 (a:Int)] 43 (0,0)):=by rw[hw3];exact(Below.heap_alloc _ _ _ (zlt H2.out.2)).trans H2.out.2
  have f4:=zca hi3 4 rfl
  have f5:=zca hi3 5 rfl
  have f6:=zca hi3 6 rfl
  have e0:=zca hb3 0 rfl
  have e1:=zca hb3 1 rfl
  have il:=zlt hi3
  have el:=zlt hb3
  have M3:=HX.out.ext B3
  have H3:=zh3 B3 M3 hb3
  clear hw3 B3 hi3 hb3 M3
  have PO:=zhd (pop_any b v p s w3 H3.out.2.1)
  cases hr:trueV s.top
  all_goals
   go_wp2_with fail
   refine PO.out.mono ?_
   rintro e w5 ⟨v5,⟨ck,cn,cs,la,ln,lc⟩,rfl,H5⟩
   have hb5:=(H5.out.2.1.keeps.block W.heap.size el (fun e=>by have:=HX.out.lt e;omega)).trans H3.out.2.2
   have TR:=zhd (true_any s.top ck cn cs la ln lc _ w5 H5.out.2.2 _ hr)
   go_wp2_with fail
   refine TR.out.mono ?_
   rintro e w6 ⟨rfl,hB6⟩
   have M6:=H5.out.1.ext hB6
   have hb6:=(hB6.block W.heap.size (zlt hb5)).trans hb5
   have e1:=zca hb6 1 rfl
   have c6:w6.cell? ⟨b,6,none⟩=some (.int .i64 (s.at_:Int)):=M6.cell (k:=6) rfl
   have f0:∀o,w6.frozen? ⟨b,o,none⟩=false:=fun o=>M6.frozen o
   have b6:=zlt M6.h
   have l6:=zlt hb6
   have H6:=zh2 M6 (H5.out.2.1.trans (MK.ext hB6))
   clear hb5 hb6 hB6 M6
  ·have hE:=zhd (show s'={s.pop with at_:=a} by rw[hE.out,hr];rfl)
   have SN:=zhd (H6.out.1.scalar 6 (.int .i64 (a:Int)) s' (by rw[hE.out];rfl) (by rw[hE.out]) (by rw[hE.out]) (by rw[hE.out]) (by rw[hE.out]) (by rw[hE.out]) (by rw[hE.out]) (by rw[hE.out]))
   clear hr
   go_wp2_with fail
   go_ret
   exact⟨v5,rfl,zhd ⟨SN.out.1,(MK.ext H3.out.1).trans (H6.out.2.trans SN.out.2)⟩⟩
  ·have hE:=zhd (show s'=s.pop.nxt by rw[hE.out,hr];rfl)
   have SN:=zhd (H6.out.1.scalar 6 (.int .i64 ((s.at_:Int)+1)) s' (by rw[hE.out];rfl) (by rw[hE.out];rfl) (by rw[hE.out];rfl) (by rw[hE.out];rfl) (by rw[hE.out];rfl) (by rw[hE.out];rfl) (by rw[hE.out];rfl) (by rw[hE.out];rfl))
   clear hr
   go_wp2_with fail
   go_ret
   exact⟨v5,rfl,zhd ⟨SN.out.1,(MK.ext H3.out.1).trans (H6.out.2.trans SN.out.2)⟩⟩
end Go.Proofs.YtakljipkaoahnaaGreatDoor
