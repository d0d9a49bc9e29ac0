/- Parts of the proof: what the functions and the plain laws give that later parts lean on. Conditions: none beyond those that each theorem names. -/
import Derived.Test.YtakljipkaoahnaaGreatDoorC1
set_option maxRecDepth 100000
set_option maxHeartbeats 8000000
namespace Go.Proofs.YtakljipkaoahnaaGreatDoor
open Go.RowKit Go.Own Go.Own.MapTy Go.Va Go.Sort
open Go.Own.Cells (sz enc)
set_option linter.unusedVariables false
theorem ccheck1 (t a b:Int)(n:ByteArray)(vk vn:Int)(vs:ByteArray)(la:Option Addr)(ln lc:Nat)(ht:0≤t)(ht2:t≤4611686018427387903)(ha:0≤a)(hb:0≤b)(hn:n.size≤64)(W:World)
  (CH:∀W',Below W.heap.size W W'→Calls Tryz.prog 70 #[.agg #[.int .i64 0,.int .i64 vn,.string vs,.slice la ln lc]] W' (fun e w'=>e= .returned (.int .i64 0)∧Below W'.heap.size W' w')):
  Calls Tryz.prog 28 #[.agg #[.int .i64 1,.int .i64 t,.int .i64 a,.int .i64 b,.string ⟨#[]⟩,.int .i64 0,.int .i64 vn,.string vs,.slice la ln lc]] W (fun e w'=>e= .returned (.int .i64 0)∧Below W.heap.size W w'):=by
 have CK:=zhd CH
 have h1:¬t<0:=by omega
 have h2:¬4611686018427387903<t:=by omega
 have h3:¬a<0:=by omega
 have h4:¬b<0:=by omega
 have h5:¬(64:Int)<(n.size:Int):=by omega
 have g1:decide (t<0)=false:=decide_eq_false h1
 have g2:decide (4611686018427387903<t)=false:=decide_eq_false h2
 have g3:decide (a<0)=false:=decide_eq_false h3
 have g4:decide (b<0)=false:=decide_eq_false h4
 obtain⟨w0,hw0⟩:∃w0,w0=W.alloc (.cells #[.int .i64 1,.int .i64 t,.int .i64 a,.int .i64 b,.string ⟨#[]⟩,.int .i64 0,.int .i64 vn,.string vs,.slice la ln lc] 68):=⟨_,rfl⟩
 have B0:=zba hw0
 have hB:=zha hw0
 have c0:=zca hB 0 rfl
 have l0:=zlt hB
 have H0:=zh2 B0 hB
 clear B0 hB ht ht2 ha hb hn CH
 go_enter Tryz.func28,Tryz.ntmps28
 go_wp2_with fail
 rw[←hw0]
 clear hw0
 refine(fields1_any _).mono ?_
 rintro e w1 ⟨rfl,hB1⟩
 have b1:=(hB1.block W.heap.size l0).trans H0.out.2
 have HB1:=zh2 b1 (H0.out.1.trans (hB1.mono H0.out.1.size))
 have l1:=zlt b1
 clear c0 l0 hB1 b1
 go_upto_region 2 with(fail)
 refine wp_named ?_
 intro w2 hw2
 have B2:=zba hw2
 have f2:=zha hw2
 have b2:=(B2.block W.heap.size l1).trans HB1.out.1
 have c1:=zca b2 1 rfl
 have c2:=zca b2 2 rfl
 have c3:=zca b2 3 rfl
 have c4:=zca b2 4 rfl
 have c5:=zca b2 5 rfl
 have c6:=zca b2 6 rfl
 have c7:=zca b2 7 rfl
 have c8:=zca b2 8 rfl
 have d0:=zca f2 0 rfl
 have d1:=zca f2 1 rfl
 have d2:=zca f2 2 rfl
 have d3:=zca f2 3 rfl
 have l2:=zlt b2
 have m2:=zlt f2
 have H2:=zhd (HB1.out.2.trans (B2.mono HB1.out.2.size))
 clear hw2 B2 f2 b2 l1
 go_wp2_with fail
 refine(CK.out _ H2.out).mono ?_
 rintro e w3 ⟨rfl,hB3⟩
 have H3:=zhd (H2.out.trans (hB3.mono H2.out.size))
 clear hB3 c1 c2 c3 c4 c5 c6 c7 c8 d0 d1 d2 d3 l2 m2
 go_wp2_with fail
 go_ret
 exact⟨rfl,H3.out⟩
theorem ccheck2 (t a b:Int)(n:ByteArray)(vk vn:Int)(vs:ByteArray)(la:Option Addr)(ln lc:Nat)(ht:0≤t)(ht2:t≤4611686018427387903)(ha:0≤a)(hb:0≤b)(hn:n.size≤64)(W:World)
  (CH:∀W',Below W.heap.size W W'→Calls Tryz.prog 70 #[.agg #[.int .i64 0,.int .i64 vn,.string vs,.slice la ln lc]] W' (fun e w'=>e= .returned (.int .i64 0)∧Below W'.heap.size W' w')):
  Calls Tryz.prog 28 #[.agg #[.int .i64 2,.int .i64 t,.int .i64 a,.int .i64 0,.string ⟨#[]⟩,.int .i64 0,.int .i64 vn,.string vs,.slice la ln lc]] W (fun e w'=>e= .returned (.int .i64 0)∧Below W.heap.size W w'):=by
 have CK:=zhd CH
 have h1:¬t<0:=by omega
 have h2:¬4611686018427387903<t:=by omega
 have h3:¬a<0:=by omega
 have h4:¬b<0:=by omega
 have h5:¬(64:Int)<(n.size:Int):=by omega
 have g1:decide (t<0)=false:=decide_eq_false h1
 have g2:decide (4611686018427387903<t)=false:=decide_eq_false h2
 have g3:decide (a<0)=false:=decide_eq_false h3
 have g4:decide (b<0)=false:=decide_eq_false h4
 obtain⟨w0,hw0⟩:∃w0,w0=W.alloc (.cells #[.int .i64 2,.int .i64 t,.int .i64 a,.int .i64 0,.string ⟨#[]⟩,.int .i64 0,.int .i64 vn,.string vs,.slice la ln lc] 68):=⟨_,rfl⟩
 have B0:=zba hw0
 have hB:=zha hw0
 have c0:=zca hB 0 rfl
 have l0:=zlt hB
 have H0:=zh2 B0 hB
 clear B0 hB ht ht2 ha hb hn CH
 go_enter Tryz.func28,Tryz.ntmps28
 go_wp2_with fail
 rw[←hw0]
 clear hw0
 refine(fields2_any _).mono ?_
 rintro e w1 ⟨rfl,hB1⟩
 have b1:=(hB1.block W.heap.size l0).trans H0.out.2
 have HB1:=zh2 b1 (H0.out.1.trans (hB1.mono H0.out.1.size))
 have l1:=zlt b1
 clear c0 l0 hB1 b1
 go_upto_region 2 with(fail)
 refine wp_named ?_
 intro w2 hw2
 have B2:=zba hw2
 have f2:=zha hw2
 have b2:=(B2.block W.heap.size l1).trans HB1.out.1
 have c1:=zca b2 1 rfl
 have c2:=zca b2 2 rfl
 have c3:=zca b2 3 rfl
 have c4:=zca b2 4 rfl
 have c5:=zca b2 5 rfl
 have c6:=zca b2 6 rfl
 have c7:=zca b2 7 rfl
 have c8:=zca b2 8 rfl
 have d0:=zca f2 0 rfl
 have d1:=zca f2 1 rfl
 have d2:=zca f2 2 rfl
 have d3:=zca f2 3 rfl
 have l2:=zlt b2
 have m2:=zlt f2
 have H2:=zhd (HB1.out.2.trans (B2.mono HB1.out.2.size))
 clear hw2 B2 f2 b2 l1
 go_wp2_with fail
 refine(CK.out _ H2.out).mono ?_
 rintro e w3 ⟨rfl,hB3⟩
 have H3:=zhd (H2.out.trans (hB3.mono H2.out.size))
 clear hB3 c1 c2 c3 c4 c5 c6 c7 c8 d0 d1 d2 d3 l2 m2
 go_wp2_with fail
 go_ret
 exact⟨rfl,H3.out⟩
theorem ccheck3 (t a b:Int)(n:ByteArray)(vk vn:Int)(vs:ByteArray)(la:Option Addr)(ln lc:Nat)(ht:0≤t)(ht2:t≤4611686018427387903)(ha:0≤a)(hb:0≤b)(hn:n.size≤64)(W:World)
  (CH:∀W',Below W.heap.size W W'→Calls Tryz.prog 70 #[.agg #[.int .i64 vk,.int .i64 vn,.string vs,.slice la ln lc]] W' (fun e w'=>e= .returned (.int .i64 0)∧Below W'.heap.size W' w')):
  Calls Tryz.prog 28 #[.agg #[.int .i64 3,.int .i64 t,.int .i64 a,.int .i64 b,.string n,.int .i64 vk,.int .i64 vn,.string vs,.slice la ln lc]] W (fun e w'=>e= .returned (.int .i64 0)∧Below W.heap.size W w'):=by
 have CK:=zhd CH
 have h1:¬t<0:=by omega
 have h2:¬4611686018427387903<t:=by omega
 have h3:¬a<0:=by omega
 have h4:¬b<0:=by omega
 have h5:¬(64:Int)<(n.size:Int):=by omega
 have g1:decide (t<0)=false:=decide_eq_false h1
 have g2:decide (4611686018427387903<t)=false:=decide_eq_false h2
 have g3:decide (a<0)=false:=decide_eq_false h3
 have g4:decide (b<0)=false:=decide_eq_false h4
 obtain⟨w0,hw0⟩:∃w0,w0=W.alloc (.cells #[.int .i64 3,.int .i64 t,.int .i64 a,.int .i64 b,.string n,.int .i64 vk,.int .i64 vn,.string vs,.slice la ln lc] 68):=⟨_,rfl⟩
 have B0:=zba hw0
 have hB:=zha hw0
 have c0:=zca hB 0 rfl
 have l0:=zlt hB
 have H0:=zh2 B0 hB
 clear B0 hB ht ht2 ha hb hn CH
 go_enter Tryz.func28,Tryz.ntmps28
 go_wp2_with fail
 rw[←hw0]
 clear hw0
 refine(fields3_any _).mono ?_
 rintro e w1 ⟨rfl,hB1⟩
 have b1:=(hB1.block W.heap.size l0).trans H0.out.2
 have HB1:=zh2 b1 (H0.out.1.trans (hB1.mono H0.out.1.size))
 have l1:=zlt b1
 clear c0 l0 hB1 b1
 go_upto_region 2 with(fail)
 refine wp_named ?_
 intro w2 hw2
 have B2:=zba hw2
 have f2:=zha hw2
 have b2:=(B2.block W.heap.size l1).trans HB1.out.1
 have c1:=zca b2 1 rfl
 have c2:=zca b2 2 rfl
 have c3:=zca b2 3 rfl
 have c4:=zca b2 4 rfl
 have c5:=zca b2 5 rfl
 have c6:=zca b2 6 rfl
 have c7:=zca b2 7 rfl
 have c8:=zca b2 8 rfl
 have d0:=zca f2 0 rfl
 have d1:=zca f2 1 rfl
 have d2:=zca f2 2 rfl
 have d3:=zca f2 3 rfl
 have l2:=zlt b2
 have m2:=zlt f2
 have H2:=zhd (HB1.out.2.trans (B2.mono HB1.out.2.size))
 clear hw2 B2 f2 b2 l1
 go_wp2_with fail
 refine(CK.out _ H2.out).mono ?_
 rintro e w3 ⟨rfl,hB3⟩
 have H3:=zhd (H2.out.trans (hB3.mono H2.out.size))
 clear hB3 c1 c2 c3 c4 c5 c6 c7 c8 d0 d1 d2 d3 l2 m2
 go_wp2_with fail
 go_ret
 exact⟨rfl,H3.out⟩
theorem ccheck4 (t a b:Int)(n:ByteArray)(vk vn:Int)(vs:ByteArray)(la:Option Addr)(ln lc:Nat)(ht:0≤t)(ht2:t≤4611686018427387903)(ha:0≤a)(hb:0≤b)(hn:n.size≤64)(W:World)
  (CH:∀W',Below W.heap.size W W'→Calls Tryz.prog 70 #[.agg #[.int .i64 vk,.int .i64 vn,.string vs,.slice la ln lc]] W' (fun e w'=>e= .returned (.int .i64 0)∧Below W'.heap.size W' w')):
  Calls Tryz.prog 28 #[.agg #[.int .i64 4,.int .i64 t,.int .i64 0,.int .i64 0,.string ⟨#[]⟩,.int .i64 vk,.int .i64 vn,.string vs,.slice la ln lc]] W (fun e w'=>e= .returned (.int .i64 0)∧Below W.heap.size W w'):=by
 have CK:=zhd CH
 have h1:¬t<0:=by omega
 have h2:¬4611686018427387903<t:=by omega
 have h3:¬a<0:=by omega
 have h4:¬b<0:=by omega
 have h5:¬(64:Int)<(n.size:Int):=by omega
 have g1:decide (t<0)=false:=decide_eq_false h1
 have g2:decide (4611686018427387903<t)=false:=decide_eq_false h2
 have g3:decide (a<0)=false:=decide_eq_false h3
 have g4:decide (b<0)=false:=decide_eq_false h4
 obtain⟨w0,hw0⟩:∃w0,w0=W.alloc (.cells #[.int .i64 4,.int .i64 t,.int .i64 0,.int .i64 0,.string ⟨#[]⟩,.int .i64 vk,.int .i64 vn,.string vs,.slice la ln lc] 68):=⟨_,rfl⟩
 have B0:=zba hw0
 have hB:=zha hw0
 have c0:=zca hB 0 rfl
 have l0:=zlt hB
 have H0:=zh2 B0 hB
 clear B0 hB ht ht2 ha hb hn CH
 go_enter Tryz.func28,Tryz.ntmps28
 go_wp2_with fail
 rw[←hw0]
 clear hw0
 refine(fields4_any _).mono ?_
 rintro e w1 ⟨rfl,hB1⟩
 have b1:=(hB1.block W.heap.size l0).trans H0.out.2
 have HB1:=zh2 b1 (H0.out.1.trans (hB1.mono H0.out.1.size))
 have l1:=zlt b1
 clear c0 l0 hB1 b1
 go_upto_region 2 with(fail)
 refine wp_named ?_
 intro w2 hw2
 have B2:=zba hw2
 have f2:=zha hw2
 have b2:=(B2.block W.heap.size l1).trans HB1.out.1
 have c1:=zca b2 1 rfl
 have c2:=zca b2 2 rfl
 have c3:=zca b2 3 rfl
 have c4:=zca b2 4 rfl
 have c5:=zca b2 5 rfl
 have c6:=zca b2 6 rfl
 have c7:=zca b2 7 rfl
 have c8:=zca b2 8 rfl
 have d0:=zca f2 0 rfl
 have d1:=zca f2 1 rfl
 have d2:=zca f2 2 rfl
 have d3:=zca f2 3 rfl
 have l2:=zlt b2
 have m2:=zlt f2
 have H2:=zhd (HB1.out.2.trans (B2.mono HB1.out.2.size))
 clear hw2 B2 f2 b2 l1
 go_wp2_with fail
 refine(CK.out _ H2.out).mono ?_
 rintro e w3 ⟨rfl,hB3⟩
 have H3:=zhd (H2.out.trans (hB3.mono H2.out.size))
 clear hB3 c1 c2 c3 c4 c5 c6 c7 c8 d0 d1 d2 d3 l2 m2
 go_wp2_with fail
 go_ret
 exact⟨rfl,H3.out⟩
theorem ccheck5 (t a b:Int)(n:ByteArray)(vk vn:Int)(vs:ByteArray)(la:Option Addr)(ln lc:Nat)(ht:0≤t)(ht2:t≤4611686018427387903)(ha:0≤a)(hb:0≤b)(hn:n.size≤64)(W:World)
  (CH:∀W',Below W.heap.size W W'→Calls Tryz.prog 70 #[.agg #[.int .i64 0,.int .i64 vn,.string vs,.slice la ln lc]] W' (fun e w'=>e= .returned (.int .i64 0)∧Below W'.heap.size W' w')):
  Calls Tryz.prog 28 #[.agg #[.int .i64 5,.int .i64 t,.int .i64 0,.int .i64 0,.string n,.int .i64 0,.int .i64 vn,.string vs,.slice la ln lc]] W (fun e w'=>e= .returned (.int .i64 0)∧Below W.heap.size W w'):=by
 have CK:=zhd CH
 have h1:¬t<0:=by omega
 have h2:¬4611686018427387903<t:=by omega
 have h3:¬a<0:=by omega
 have h4:¬b<0:=by omega
 have h5:¬(64:Int)<(n.size:Int):=by omega
 have g1:decide (t<0)=false:=decide_eq_false h1
 have g2:decide (4611686018427387903<t)=false:=decide_eq_false h2
 have g3:decide (a<0)=false:=decide_eq_false h3
 have g4:decide (b<0)=false:=decide_eq_false h4
 obtain⟨w0,hw0⟩:∃w0,w0=W.alloc (.cells #[.int .i64 5,.int .i64 t,.int .i64 0,.int .i64 0,.string n,.int .i64 0,.int .i64 vn,.string vs,.slice la ln lc] 68):=⟨_,rfl⟩
 have B0:=zba hw0
 have hB:=zha hw0
 have c0:=zca hB 0 rfl
 have l0:=zlt hB
 have H0:=zh2 B0 hB
 clear B0 hB ht ht2 ha hb hn CH
 go_enter Tryz.func28,Tryz.ntmps28
 go_wp2_with fail
 rw[←hw0]
 clear hw0
 refine(fields5_any _).mono ?_
 rintro e w1 ⟨rfl,hB1⟩
 have b1:=(hB1.block W.heap.size l0).trans H0.out.2
 have HB1:=zh2 b1 (H0.out.1.trans (hB1.mono H0.out.1.size))
 have l1:=zlt b1
 clear c0 l0 hB1 b1
 go_upto_region 2 with(fail)
 refine wp_named ?_
 intro w2 hw2
 have B2:=zba hw2
 have f2:=zha hw2
 have b2:=(B2.block W.heap.size l1).trans HB1.out.1
 have c1:=zca b2 1 rfl
 have c2:=zca b2 2 rfl
 have c3:=zca b2 3 rfl
 have c4:=zca b2 4 rfl
 have c5:=zca b2 5 rfl
 have c6:=zca b2 6 rfl
 have c7:=zca b2 7 rfl
 have c8:=zca b2 8 rfl
 have d0:=zca f2 0 rfl
 have d1:=zca f2 1 rfl
 have d2:=zca f2 2 rfl
 have d3:=zca f2 3 rfl
 have l2:=zlt b2
 have m2:=zlt f2
 have H2:=zhd (HB1.out.2.trans (B2.mono HB1.out.2.size))
 clear hw2 B2 f2 b2 l1
 go_wp2_with fail
 refine(CK.out _ H2.out).mono ?_
 rintro e w3 ⟨rfl,hB3⟩
 have H3:=zhd (H2.out.trans (hB3.mono H2.out.size))
 clear hB3 c1 c2 c3 c4 c5 c6 c7 c8 d0 d1 d2 d3 l2 m2
 go_wp2_with fail
 go_ret
 exact⟨rfl,H3.out⟩
theorem ccheck6 (t a b:Int)(n:ByteArray)(vk vn:Int)(vs:ByteArray)(la:Option Addr)(ln lc:Nat)(ht:0≤t)(ht2:t≤4611686018427387903)(ha:0≤a)(hb:0≤b)(hn:n.size≤64)(W:World)
  (CH:∀W',Below W.heap.size W W'→Calls Tryz.prog 70 #[.agg #[.int .i64 vk,.int .i64 vn,.string vs,.slice la ln lc]] W' (fun e w'=>e= .returned (.int .i64 0)∧Below W'.heap.size W' w')):
  Calls Tryz.prog 28 #[.agg #[.int .i64 6,.int .i64 t,.int .i64 0,.int .i64 0,.string ⟨#[]⟩,.int .i64 vk,.int .i64 vn,.string vs,.slice la ln lc]] W (fun e w'=>e= .returned (.int .i64 0)∧Below W.heap.size W w'):=by
 have CK:=zhd CH
 have h1:¬t<0:=by omega
 have h2:¬4611686018427387903<t:=by omega
 have h3:¬a<0:=by omega
 have h4:¬b<0:=by omega
 have h5:¬(64:Int)<(n.size:Int):=by omega
 have g1:decide (t<0)=false:=decide_eq_false h1
 have g2:decide (4611686018427387903<t)=false:=decide_eq_false h2
 have g3:decide (a<0)=false:=decide_eq_false h3
 have g4:decide (b<0)=false:=decide_eq_false h4
 obtain⟨w0,hw0⟩:∃w0,w0=W.alloc (.cells #[.int .i64 6,.int .i64 t,.int .i64 0,.int .i64 0,.string ⟨#[]⟩,.int .i64 vk,.int .i64 vn,.string vs,.slice la ln lc] 68):=⟨_,rfl⟩
 have B0:=zba hw0
 have hB:=zha hw0
 have c0:=zca hB 0 rfl
 have l0:=zlt hB
 have H0:=zh2 B0 hB
 clear B0 hB ht ht2 ha hb hn CH
 go_enter Tryz.func28,Tryz.ntmps28
 go_wp2_with fail
 rw[←hw0]
 clear hw0
 refine(fields6_any _).mono ?_
 rintro e w1 ⟨rfl,hB1⟩
 have b1:=(hB1.block W.heap.size l0).trans H0.out.2
 have HB1:=zh2 b1 (H0.out.1.trans (hB1.mono H0.out.1.size))
 have l1:=zlt b1
 clear c0 l0 hB1 b1
 go_upto_region 2 with(fail)
 refine wp_named ?_
 intro w2 hw2
 have B2:=zba hw2
 have f2:=zha hw2
 have b2:=(B2.block W.heap.size l1).trans HB1.out.1
 have c1:=zca b2 1 rfl
 have c2:=zca b2 2 rfl
 have c3:=zca b2 3 rfl
 have c4:=zca b2 4 rfl
 have c5:=zca b2 5 rfl
 have c6:=zca b2 6 rfl
 have c7:=zca b2 7 rfl
 have c8:=zca b2 8 rfl
 have d0:=zca f2 0 rfl
 have d1:=zca f2 1 rfl
 have d2:=zca f2 2 rfl
 have d3:=zca f2 3 rfl
 have l2:=zlt b2
 have m2:=zlt f2
 have H2:=zhd (HB1.out.2.trans (B2.mono HB1.out.2.size))
 clear hw2 B2 f2 b2 l1
 go_wp2_with fail
 refine(CK.out _ H2.out).mono ?_
 rintro e w3 ⟨rfl,hB3⟩
 have H3:=zhd (H2.out.trans (hB3.mono H2.out.size))
 clear hB3 c1 c2 c3 c4 c5 c6 c7 c8 d0 d1 d2 d3 l2 m2
 go_wp2_with fail
 go_ret
 exact⟨rfl,H3.out⟩
theorem csame (k t a b:Int)(n:ByteArray)(x:Val)(c d:VC)(F F':Nat→Prop)(W:World)(C:CF F W c x)(D:CF F' W d x):
  Calls Tryz.prog 27 #[.agg #[.int .i64 k,.int .i64 t,.int .i64 a,.int .i64 b,.string n,.int .i64 c.kind,.int .i64 c.n,.string c.s,.slice c.la c.ln c.lc],.agg #[.int .i64 k,.int .i64 t,.int .i64 a,.int .i64 b,.string n,.int .i64 d.kind,.int .i64 d.n,.string d.s,.slice d.la d.ln d.lc]] W (fun e w'=>e= .returned (.bool true)∧Below W.heap.size W w'):=by
 have hz:(cmpV x x==0)=true:=by rw[beq_iff_eq];exact(cmp_zero x x).2 rfl
 obtain⟨w0,hw0⟩:∃w0,w0=(W.alloc (.cells #[.int .i64 k,.int .i64 t,.int .i64 a,.int .i64 b,.string n,.int .i64 c.kind,.int .i64 c.n,.string c.s,.slice c.la c.ln c.lc] 68)).alloc (.cells #[.int .i64 k,.int .i64 t,.int .i64 a,.int .i64 b,.string n,.int .i64 d.kind,.int .i64 d.n,.string d.s,.slice d.la d.ln d.lc] 68):=⟨_,rfl⟩
 have B0:Below W.heap.size W w0:=by rw[hw0];exact(zal).alloc (by simp) _
 have hB:w0.heap[W.heap.size]? =some (.cells #[.int .i64 k,.int .i64 t,.int .i64 a,.int .i64 b,.string n,.int .i64 c.kind,.int .i64 c.n,.string c.s,.slice c.la c.ln c.lc] 68 (0,0)):=by rw[hw0];exact heap_lt2
 have hD:w0.heap[W.heap.size+1]? =some (.cells #[.int .i64 k,.int .i64 t,.int .i64 a,.int .i64 b,.string n,.int .i64 d.kind,.int .i64 d.n,.string d.s,.slice d.la d.ln d.lc] 68 (0,0)):=by rw[hw0];exact heap_new2
 have c0:=zca hB 0 rfl
 have c1:=zca hB 1 rfl
 have c2:=zca hB 2 rfl
 have c3:=zca hB 3 rfl
 have c4:=zca hB 4 rfl
 have c5:=zca hB 5 rfl
 have c6:=zca hB 6 rfl
 have c7:=zca hB 7 rfl
 have c8:=zca hB 8 rfl
 have d0:=zca hD 0 rfl
 have d1:=zca hD 1 rfl
 have d2:=zca hD 2 rfl
 have d3:=zca hD 3 rfl
 have d4:=zca hD 4 rfl
 have d5:=zca hD 5 rfl
 have d6:=zca hD 6 rfl
 have d7:=zca hD 7 rfl
 have d8:=zca hD 8 rfl
 have l0:=zlt hB
 have l1:=zlt hD
 have SA:=zhd (same_any x x c d F F' w0 (C.keep (S:=fun _=>False) (zkb B0) (fun _ _ f=>f)) (D.keep (S:=fun _=>False) (zkb B0) (fun _ _ f=>f)) true hz)
 have H0:=zhd B0
 clear B0 hB hD hz C D
 go_enter Tryz.func27,Tryz.ntmps27
 go_wp2_with fail
 rw[←hw0]
 clear hw0
 go_wp2_with fail
 refine SA.out.mono ?_
 rintro e w1 ⟨rfl,hB1⟩
 have H1:=zhd (H0.out.trans (hB1.mono H0.out.size))
 clear hB1 c0 c1 c2 c3 c4 c5 c6 c7 c8 d0 d1 d2 d3 d4 d5 d6 d7 d8 l0 l1
 go_wp2_with fail
 go_ret
 exact⟨rfl,H1.out⟩
end Go.Proofs.YtakljipkaoahnaaGreatDoor
namespace Go.Va
open Go.Own Go.RowKit
open Go.Proofs.YtakljipkaoahnaaGreatDoor
def MS.tkn (s:MS)(i _j:Nat):MS:={s with taken:=i}
theorem k_ite {a b a' b':MS}{c:Prop}[Decidable c]{i j:Nat}(ha:a'=a.tkn i j)(hb:b'=b.tkn i j):(if c then a' else b')=(if c then a else b).tkn i j:=by
 split
 ·exact ha
 ·exact hb
theorem k_put (s:MS)(v:Val)(i j:Nat):(s.tkn i j).put v=(s.put v).tkn i j:=by
 unfold MS.put
 exact k_ite rfl rfl
theorem k_arith (s:MS)(op:Int)(a b:Val)(i j:Nat):(s.tkn i j).arith op a b=(s.arith op a b).tkn i j:=by
 unfold MS.arith
 exact k_ite rfl rfl
theorem k_two (s:MS)(op:Int)(a b:Val)(i j:Nat):(s.tkn i j).two op a b=(s.two op a b).tkn i j:=by
 unfold MS.two
 exact k_ite rfl (k_ite rfl (k_ite (k_ite rfl rfl) (k_ite (k_ite (k_put _ _ _ _) (k_ite (k_put _ _ _ _) rfl)) (k_arith _ _ _ _ _ _))))
theorem k_reckon (s:MS)(op:Int)(k i j:Nat):(s.tkn i j).reckon op k=(s.reckon op k).tkn i j:=by
 unfold MS.reckon
 exact k_ite (k_put {s with stk:=s.stk.take (s.stk.length - k)} _ _ _) (k_ite rfl (k_ite (k_ite rfl (k_ite rfl rfl)) (k_two s.pop.pop _ _ _ _ _)))
theorem k_begin (s:MS)(op:Int)(name:ByteArray)(i j:Nat):(s.tkn i j).begin_ op name=(s.begin_ op name).tkn i j:=by
 unfold MS.begin_
 dsimp only
 refine k_ite ?_ (k_ite rfl (k_ite rfl (k_ite rfl rfl)))
 show(match(if s.top.kind=1 then findT s.top.num s.timers.list else none)with
  |none=>(s.tkn i j).pop.tGone
  |some k=>_)=_
 cases(if s.top.kind=1 then findT s.top.num s.timers.list else none)with
 |none=>rfl
 |some k=>
  show(bif (s.timers.list[k]?.getD ⟨0,false,vNil0,0⟩).over then({(s.tkn i j).pop with timers:=⟨s.timers.list.eraseIdx k,s.timers.next⟩}:MS)else({(s.tkn i j).pop with timers:=⟨s.timers.list.eraseIdx k,s.timers.next⟩}:MS).want ⟨2,0,s.top.num,0,⟨#[]⟩,vNil0⟩).push (vBool (!(s.timers.list[k]?.getD ⟨0,false,vNil0,0⟩).over))=((bif (s.timers.list[k]?.getD ⟨0,false,vNil0,0⟩).over then({s.pop with timers:=⟨s.timers.list.eraseIdx k,s.timers.next⟩}:MS)else({s.pop with timers:=⟨s.timers.list.eraseIdx k,s.timers.next⟩}:MS).want ⟨2,0,s.top.num,0,⟨#[]⟩,vNil0⟩).push (vBool (!(s.timers.list[k]?.getD ⟨0,false,vNil0,0⟩).over))).tkn i j
  cases(s.timers.list[k]?.getD ⟨0,false,vNil0,0⟩).over<;>rfl
theorem k_wait (s:MS)(op:Int)(name:ByteArray)(i j:Nat):(s.tkn i j).wait op name=(s.wait op name).map (·.tkn i j):=by
 unfold MS.wait
 by_cases h22:op=22
 ·rw[if_pos h22,if_pos h22]
  show(findLt name s.letters).map _=_
  cases findLt name s.letters<;>rfl
 ·rw[if_neg h22,if_neg h22]
  dsimp only
  show(match(if s.top.kind=1 then findT s.top.num (if op=21 then s.acts.list else s.timers.list)else none)with
   |none=>some (s.tkn i j).tGone
   |some k=>_)=_
  cases(if s.top.kind=1 then findT s.top.num (if op=21 then s.acts.list else s.timers.list)else none)with
  |none=>rfl
  |some k=>
   dsimp only
   show(match(if op=28 then findLt name s.letters else none)with
    |some m=>_
    |none=>_)=_
   cases(if op=28 then findLt name s.letters else none)with
   |some m=>rfl
   |none=>
    dsimp only
    show(bif !((if op=21 then s.acts.list else s.timers.list)[k]?.getD ⟨0,false,vNil0,0⟩).over then none else _)=_
    cases((if op=21 then s.acts.list else s.timers.list)[k]?.getD ⟨0,false,vNil0,0⟩).over with
    |false=>rfl
    |true=>
     simp only[Bool.not_true,cond_false,Option.map_some]
     by_cases h21:op=21
     ·subst h21;rfl
     ·by_cases h18:op=18
      ·subst h18;rfl
      ·simp only[if_neg h21,if_neg h18];rfl
theorem k_end (s:MS)(op:Int)(name:ByteArray)(i j:Nat):(s.tkn i j).end_ op name=(s.end_ op name).tkn i j:=by
 unfold MS.end_
 exact k_ite rfl (k_ite rfl rfl)
theorem k_go (s:MS)(p:Img)(op:Int)(k i j:Nat):(s.tkn i j).go p op k=(s.go p op k).tkn i j:=by
 unfold MS.go
 dsimp only
 refine k_ite rfl (k_ite rfl (k_ite rfl (k_ite rfl (k_ite rfl (k_ite rfl (k_ite rfl (k_ite rfl (k_ite rfl (k_ite ?_ (k_ite (k_begin _ _ _ _ _) (k_ite rfl (k_reckon _ _ _ _ _))))))))))))
 show(match findLt (p.names[k]?.getD ⟨#[]⟩) s.letters with
  |some m=>_
  |none=>_)=_
 cases findLt (p.names[k]?.getD ⟨#[]⟩) s.letters<;>rfl
theorem k_step (p:Img)(s:MS)(i j:Nat):stepM p (s.tkn i j)=(stepM p s).map (·.tkn i j):=by
 unfold stepM
 have hat:(s.tkn i j).at_=s.at_:=rfl
 rw[hat]
 dsimp only
 cases hb:(ofL (p.code[s.at_]?.getD ⟨0,0⟩).op).1.blocks with
 |true=>exact k_wait _ _ _ _ _
 |false=>
  simp only[cond_false]
  cases he:(ofL (p.code[s.at_]?.getD ⟨0,0⟩).op).1.ends with
  |true=>simp only[cond_true,Option.map_some];rw[←k_end]
  |false=>
   simp only[cond_false]
   cases hf:(ofL (p.code[s.at_]?.getD ⟨0,0⟩).op).1.flow with
   |true=>
    simp only[cond_true,Option.map_some]
    congr 1
    show(bif (p.code[s.at_]?.getD ⟨0,0⟩).op==11 then _ else bif trueV s.top then _ else _)=_
    cases((p.code[s.at_]?.getD ⟨0,0⟩).op==11)
    ·cases trueV s.top<;>rfl
    ·rfl
   |false=>
    simp only[cond_false,Option.map_some]
    congr 1
    exact k_go s.nxt p _ _ i j
theorem tkn_none {p:Img}{s:MS}(n:Nat)(h:stepM p s=none):stepM p {s with taken:=n}=none:=by
 have:=k_step p s n 0
 rw[h]at this
 exact this
theorem St.tkn {p:Img}{fa:Fa}{s:MS}(S:St p fa s)(n:Nat):St p fa {s with taken:=n}:=S.take n (fun h1 h2=>tkn_none n (S.good.wait h1 h2))
theorem ba_nil {n:ByteArray}(h:n.size=0):n=⟨#[]⟩:=by
 apply ByteArray.ext
 exact Array.eq_empty_of_size_eq_zero h
theorem cm_facts {c:Cm}(h:cmCheck c=0):(0≤c.time∧c.time≤4611686018427387903)∧0≤c.a∧0≤c.b∧c.name.size≤64∧checkL c.v=0∧((c.kind=1∧c.name=⟨#[]⟩∧c.v.kind=0)∨(c.kind=2∧c.b=0∧c.name=⟨#[]⟩∧c.v.kind=0)∨c.kind=3∨(c.kind=4∧c.a=0∧c.b=0∧c.name=⟨#[]⟩)∨(c.kind=5∧c.a=0∧c.b=0∧c.v.kind=0)∨(c.kind=6∧c.a=0∧c.b=0∧c.name=⟨#[]⟩)):=by
 unfold cmCheck at h
 cases hk:cmHas c.kind with
 |none=>rw[hk]at h;cases h
 |some q=>
  obtain⟨fa,fb,fn,fv⟩:=q
  rw[hk]at h
  dsimp only at h
  split at h
  ·cases h
  ·rename_i g1
   split at h
   ·cases h
   ·rename_i g2
    split at h
    ·cases h
    ·rename_i g3
     have ha:fa=false→c.a=0:=fun e=>Decidable.byContradiction fun n=>g1 (.inr (.inr (.inr (.inr (.inl ⟨e,n⟩)))))
     have hb:fb=false→c.b=0:=fun e=>Decidable.byContradiction fun n=>g1 (.inr (.inr (.inr (.inr (.inr ⟨e,n⟩)))))
     have hn:fn=false→c.name=⟨#[]⟩:=fun e=>ba_nil (Decidable.byContradiction fun n=>g3 (.inl ⟨e,n⟩))
     have hv:fv=false→c.v.kind=0:=fun e=>Decidable.byContradiction fun n=>g3 (.inr ⟨e,n⟩)
     have t1:¬c.time<0:=fun e=>g1 (.inl e)
     have t2:¬4611686018427387903<c.time:=fun e=>g1 (.inr (.inl e))
     have t3:¬c.a<0:=fun e=>g1 (.inr (.inr (.inl e)))
     have t4:¬c.b<0:=fun e=>g1 (.inr (.inr (.inr (.inl e))))
     refine⟨⟨by omega,by omega⟩,by omega,by omega,by omega,h,?_⟩
     clear g1 g2 g3 t1 t2 t3 t4 h
     unfold cmHas at hk
     split at hk
     ·rename_i e
      cases hk
      exact .inl ⟨e,hn rfl,hv rfl⟩
     ·split at hk
      ·rename_i e
       cases hk
       exact .inr (.inl ⟨e,hb rfl,hn rfl,hv rfl⟩)
      ·split at hk
       ·rename_i e
        exact .inr (.inr (.inl e))
       ·split at hk
        ·rename_i e
         cases hk
         rcases e with e|e
         ·exact .inr (.inr (.inr (.inl ⟨e,ha rfl,hb rfl,hn rfl⟩)))
         ·exact .inr (.inr (.inr (.inr (.inr ⟨e,ha rfl,hb rfl,hn rfl⟩))))
        ·split at hk
         ·rename_i e
          cases hk
          exact .inr (.inr (.inr (.inr (.inl ⟨e,ha rfl,hb rfl,hv rfl⟩))))
         ·cases hk
theorem cm_clone {c:Cm}(h:cmCheck c=0)(hw:c.v.wf):cmCheck (cloneC c)=0∧(cloneC c).v.wf:=by
 have hv:checkL c.v=0:=(cm_facts h).2.2.2.2.1
 have ho:=ok_clone ⟨hv,hw⟩
 refine⟨?_,ho.2⟩
 unfold cmCheck at h⊢
 show(match cmHas c.kind with
  |none=>(9:Int)
  |some (fa,fb,fn,fv)=>
   if c.time<0∨4611686018427387903<c.time∨c.a<0∨c.b<0∨(fa=false∧c.a≠0)∨(fb=false∧c.b≠0)then 1 else
   if 64<c.name.size then 2 else
   if(fn=false∧c.name.size≠0)∨(fv=false∧(cloneV c.v).kind≠0)then 8 else checkL (cloneV c.v))=0
 rw[clone_kind,ho.1]
 rw[hv]at h
 exact h
theorem hear_taken (s:MS)(e:Ev):(hear s e).taken=s.taken:=by
 unfold hear
 repeat' split
 all_goals rfl
theorem step_taken {p:Img}{s s':MS}(h:stepM p s=some s'):s'.taken=s.taken:=by
 have k:=k_step p s s.taken 0
 rw[h]at k
 have e:s.tkn s.taken 0=s:=rfl
 rw[e,h]at k
 simp only[Option.map_some,Option.some.injEq]at k
 rw[k]
 rfl
theorem run_taken (p:Img):∀(f:Nat) (s:MS),(runM p f s).taken=s.taken
 |0,_=>rfl
 |f+1,s=>by
  rw[runM]
  cases s.over with
  |true=>rfl
  |false=>
   simp only[cond_false]
   cases h:stepM p s with
   |none=>rfl
   |some s'=>exact(run_taken p f {s' with steps:=s'.steps+1}).trans (show s'.taken=s.taken from step_taken h)
theorem apply_taken (p:Img)(s:MS)(e:Ev):(applyM p s e).2.taken=s.taken:=by
 rcases apply_cases p s e with⟨_,h⟩|⟨_,_,_,_,h⟩
 ·rw[h]
 ·rw[h]
  exact(run_taken p _ _).trans (hear_taken _ _)
end Go.Va
namespace Go.Proofs.YtakljipkaoahnaaGreatDoor
open Go.RowKit Go.Own Go.Own.MapTy Go.Va Go.Sort
open Go.Own.Cells (sz enc)
theorem ccheck_any (c:Cm)(k t a b:Int)(n:ByteArray)(vk vn:Int)(vs:ByteArray)(la:Option Addr)(ln lc:Nat)(F:Nat→Prop)(W:World)(C:CmF F W ⟨k,t,a,b,n,⟨vk,vn,vs,la,ln,lc⟩⟩ c)(h:cmCheck c=0)(hw:c.v.wf):
  Calls Tryz.prog 28 #[.agg #[.int .i64 k,.int .i64 t,.int .i64 a,.int .i64 b,.string n,.int .i64 vk,.int .i64 vn,.string vs,.slice la ln lc]] W (fun e w'=>e= .returned (.int .i64 0)∧Below W.heap.size W w'):=by
 obtain⟨⟨t1,t2⟩,ha,hb,hn,hv,hk⟩:=cm_facts h
 have CH:∀W',Below W.heap.size W W'→Calls Tryz.prog 70 #[.agg #[.int .i64 vk,.int .i64 vn,.string vs,.slice la ln lc]] W' (fun e w'=>e= .returned (.int .i64 0)∧Below W'.heap.size W' w'):=
  fun W' B=>check_any c.v vk vn vs la ln lc F W' (C.v.keep (S:=fun _=>False) (zkb B) (fun _ _ f=>f)) hw 0 hv
 have e0:=C.kind
 have e1:=C.time
 have e2:=C.a
 have e3:=C.b
 have e4:=C.name
 have e5:=C.v.kind
 dsimp only at e0 e1 e2 e3 e4 e5
 subst e0 e1 e2 e3 e4
 rcases hk with⟨q0,q1,q2⟩|⟨q0,q1,q2,q3⟩|q0|⟨q0,q1,q2,q3⟩|⟨q0,q1,q2,q3⟩|⟨q0,q1,q2,q3⟩
 ·rw[q2]at e5;subst e5;rw[q0,q1]
  exact ccheck1 _ _ _ ⟨#[]⟩ 0 vn vs la ln lc t1 t2 ha hb (by decide) W CH
 ·rw[q3]at e5;subst e5;rw[q0,q1,q2]
  exact ccheck2 _ _ 0 ⟨#[]⟩ 0 vn vs la ln lc t1 t2 ha (by decide) (by decide) W CH
 ·rw[q0]
  exact ccheck3 _ _ _ _ vk vn vs la ln lc t1 t2 ha hb hn W CH
 ·rw[q0,q1,q2,q3]
  exact ccheck4 _ 0 0 ⟨#[]⟩ vk vn vs la ln lc t1 t2 (by decide) (by decide) (by decide) W CH
 ·rw[q3]at e5;subst e5;rw[q0,q1,q2]
  exact ccheck5 _ 0 0 _ 0 vn vs la ln lc t1 t2 (by decide) (by decide) hn W CH
 ·rw[q0,q1,q2,q3]
  exact ccheck6 _ 0 0 ⟨#[]⟩ vk vn vs la ln lc t1 t2 (by decide) (by decide) (by decide) W CH
theorem _root_.Go.Va.CmF.keep2 {F:Nat→Prop}{W W':World}{c:CC}{x:Cm}(h:CmF F W c x)(B:Below W.heap.size W W'):CmF F W' c x:=⟨h.kind,h.time,h.a,h.b,h.name,h.v.keep (S:=fun _=>False) (zkb B) (fun _ _ f=>f)⟩
structure AL (N n5 b:Nat)(v:MV)(p:Img)(s:MS)(v9:Value)(A:List Cm)(w:World):Prop where
 mx:MX TT (fun q=>N≤q∧¬v9.ownBlock=some q) w b v p s
 row:XRow (fun g=>N≤g∧¬MO v b g∧¬v9.ownBlock=some g) w 68 v9 A
 own:∀g,v9.ownBlock=some g→n5≤g∧¬MO v b g
theorem AL.ext {N n5 b:Nat}{v:MV}{p:Img}{s:MS}{v9:Value}{A:List Cm}{w w':World}(h:AL N n5 b v p s v9 A w)(B:Below w.heap.size w w'):AL N n5 b v p s v9 A w':=⟨h.mx.ext B,h.row.below B,h.own⟩
theorem AL.turn {N n5 b:Nat}{v v':MV}{p:Img}{s s':MS}{v9:Value}{A:List Cm}{w w':World}(h:AL N n5 b v p s v9 A w)(M:MX TT (fun q=>N≤q∧¬v9.ownBlock=some q) w' b v' p s')(K:MK b v w v' w'):AL N n5 b v' p s' v9 A w':=by
 have nb:∀g,¬MO v b g→g<w.heap.size→¬MO v' b g:=fun g h1 hl e=>(K.own g e).elim h1 (fun e=>by omega)
 refine⟨M,?_,fun g hg=>⟨(h.own g hg).1,nb g (h.own g hg).2 (h.row.lt hg)⟩⟩
 exact((h.row.mono (G:=fun g=>(N≤g∧¬MO v b g∧¬v9.ownBlock=some g)∧¬MO v' b g) (fun g hg hl=>⟨hg,nb g hg.2.1 hl⟩)).keep K.keeps (fun g hg e=>hg.1.2.1 e) (fun g hg e=>(h.own g hg).2 e)).mono (fun g hg _=>⟨hg.1.1,hg.2,hg.1.2.2⟩)
theorem AL.app {N n5 n b:Nat}{v:MV}{p:Img}{s:MS}{v9 v1:Value}{A B:List Cm}{w w1:World}{ks kr:List CC}(h:AL N n5 b v p s v9 A w)
  (P:Ptw (fun g=>N≤g∧¬MO v b g∧¬v9.ownBlock=some g) w ks A)(Q:Ptw (fun g=>n≤g) w kr B)(hb:∀g,MO v b g→g<n)(h9:∀g,v9.ownBlock=some g→g<n)(hN:N≤n)(h5:n5≤w.heap.size)(hn:n≤w.heap.size)
  (hrow:RowAt w1 68 v1 (ks++kr))(hk:Keeps (fun j=>v9.ownBlock=some j) w w1)(hf:∀g,v1.ownBlock=some g→v9.ownBlock=some g∨w.heap.size≤g):AL N n5 b v p s v1 (A++B) w1:=by
 refine⟨?_,?_,fun g hg=>(hf g hg).elim (fun e=>h.own g e) (fun e=>⟨by omega,fun m=>by have:=hb g m;omega⟩)⟩
 ·exact((h.mx.monoZ (Z':=fun q=>(N≤q∧¬v9.ownBlock=some q)∧q<w.heap.size) (fun j h1 h2=>⟨h1,h2⟩)).far hk (fun j hj=>(h.own j hj).2) (fun j hj z=>z.1.2 hj)).monoZ (fun j hz _=>⟨hz.1.1,fun e=>(hf j e).elim hz.1.2 (fun e=>by have:=hz.2;omega)⟩)
 ·have P':=P.mono (G:=fun g=>(N≤g∧¬MO v b g∧¬v9.ownBlock=some g)∧g<w.heap.size) (fun g h l=>⟨h,l⟩)
  have Q':=Q.mono (G:=fun g=>(N≤g∧¬MO v b g∧¬v9.ownBlock=some g)∧g<w.heap.size) (fun g (hg:n≤g) l=>⟨⟨by omega,fun e=>by have:=hb g e;omega,fun e=>by have:=h9 g e;omega⟩,l⟩)
  refine XRow.of hrow (Ptw.mono (Ptw.keep (P'.app Q') hk (fun g hg e=>hg.1.2.2 e)) ?_)
  exact fun g hg _=>⟨hg.1.1,hg.1.2.1,fun e=>(hf g e).elim hg.1.2.2 (fun e=>by have:=hg.2;omega)⟩
end Go.Proofs.YtakljipkaoahnaaGreatDoor
