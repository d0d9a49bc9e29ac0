/- Parts of the proof: what the functions and the plain laws give that later parts lean on. Conditions: none beyond those that each theorem names. -/
import Derived.Test.YtakljipkaoahnaaGreatDoorB18
import Derived.Test.YtakljipkaoahnaaGreatDoorB19
set_option maxRecDepth 100000
set_option maxHeartbeats 8000000
namespace Go.Proofs.YtakljipkaoahnaaGreatDoor
open Go.RowKit Go.Own Go.Own.MapTy Go.Va Go.Sort
open Go.Own.Cells (sz enc)
def MPS (Z:Nat→Prop)(W:World)(b:Nat)(v:MV)(p:Img)(x:Val)(s':MS)(e:Ending)(w':World):Prop:=∃(ss:Value) (c:VC),e= .returned (.agg #[.int .i64 c.kind,.int .i64 c.n,.string c.s,.slice c.la c.ln c.lc])∧Hid (MX TT Z w' b {v with ss:=ss} p s'∧MK b v W {v with ss:=ss} w'∧CF (MZ Z {v with ss:=ss} b) w' c x)
theorem pop_strong
  {Z:Nat→Prop}(b:Nat)(v:MV)(p:Img)(s:MS)(W:World)(M:MX TT Z W b v p s)
  :Calls Tryz.prog 136 #[.pointer (some ⟨b,0,none⟩)] W (MPS Z W b v p s.top s.pop):=by
 obtain⟨ss,ic,ps,inp,ts,as_,ls,ms⟩:=v
 obtain⟨a,cap,rfl⟩:∃a cap,ss= .slice a s.stk.length cap:=M.stk.slice
 obtain⟨ks,hR,hP⟩:=M.stk.cells
 have b1:=zlt M.h
 have c1:W.cell? ⟨b,0,none⟩=some (.slice a s.stk.length cap):=M.cell (k:=0) rfl
 have f0:∀o,W.frozen? ⟨b,o,none⟩=false:=fun o=>M.frozen o
 have HX:=zh3 M hR hP
 by_cases h0:s.stk.length=0
 ·have hs:s.stk=[]:=List.length_eq_zero_iff.1 h0
  have ht:s.top=vNil0:=by unfold MS.top;rw[hs];rfl
  have hp:s.pop=s:=by unfold MS.pop;rw[hs];simp only[List.dropLast_nil];rw[←hs]
  have HT:=zh2 ht hp
  have h0':((s.stk.length:Int)==0)=true:=by rw[beq_iff_eq];omega
  clear hs ht hp hR hP M h0
  go_enter Tryz.func136,Tryz.ntmps136
  go_wp2_with fail
  exact bodyPost_ret (v:=.agg #[.int .i64 0,.int .i64 0,.string ⟨#[]⟩,.slice none 0 0]) (by simp only[results,Tryz.results136];go_simp) rfl ⟨.slice a s.stk.length cap,⟨0,0,⟨#[]⟩,none,0,0⟩,rfl,zhd (by
   have B:Below W.heap.size W _:=(Below.refl W.heap.size W).alloc (Nat.le_refl _) (.cells #[.int .i64 0,.int .i64 0,.string ⟨#[]⟩,.slice none 0 0] 39)
   rw[HT.out.1,HT.out.2]
   exact⟨HX.out.1.ext B,MK.ext B,cf_nil0 _ _⟩)⟩
 ·obtain⟨n,hn⟩:∃n,s.stk.length=n+1:=⟨s.stk.length - 1,by omega⟩
  obtain⟨x,hx⟩:=elem_at (l:=s.stk) (k:=n) (by omega)
  obtain⟨⟨ck,cn,cs,la,ln,lc⟩,hc,hC⟩:=hP.get hx
  obtain⟨g,off,rfl,hg⟩:=hR.addr hc
  have cc:=fun(j:Nat) (hj:j<4)=>hR.cell hc (j:=j) hj
  have m0:W.cell? ⟨g,off+n*4,none⟩=some (.int .i64 ck):=cc 0 (by decide)
  have m1:W.cell? ⟨g,off+n*4+1,none⟩=some (.int .i64 cn):=by rw[Nat.add_assoc];exact cc 1 (by decide)
  have m2:W.cell? ⟨g,off+n*4+2,none⟩=some (.string cs):=by rw[Nat.add_assoc];exact cc 2 (by decide)
  have m3:W.cell? ⟨g,off+n*4+3,none⟩=some (.slice la ln lc):=by rw[Nat.add_assoc];exact cc 3 (by decide)
  have ht:s.top=x:=by
   unfold MS.top
   rw[List.getLast?_eq_getElem?,show s.stk.length - 1=n from by omega,hx]
   rfl
  have HT:=zh3 ht hC hn
  have nb:¬g=b:=fun e=>absurd (HX.out.1.sep 1 0 g rfl (by rw[e];rfl)) (by decide)
  rw[hn]at c1
  have h0':(((n+1:Nat):Int)==0)=false:=by rw[beq_eq_false_iff_ne];omega
  have hn63:(n:Int)<9223372036854775807:=by
   have hl:=hR.length_le
   have:=hP.1
   unfold maxLen at hl
   omega
  have hw3:wrap64 (n:Int)=(n:Int):=by unfold wrap64;omega
  clear hn63
  obtain⟨hsl,_⟩:=cut_to3 elemV (hn▸hR) (k:=n) (by have:=hP.1;omega)
  clear hC ht hc hx cc hR hP M hn
  go_enter Tryz.func136,Tryz.ntmps136
  go_wp2_with fail
  exact bodyPost_ret (v:=.agg #[.int .i64 ck,.int .i64 cn,.string cs,.slice la ln lc]) (by simp only[results,Tryz.results136];go_simp) rfl ⟨.slice (some ⟨g,off,none⟩) n n,⟨ck,cn,cs,la,ln,lc⟩,rfl,zhd (by
   have hR:=HX.out.2.1
   rw[HT.out.2.2]at hR
   rw[HT.out.1]
   exact pop_end (n:=n+1) (x:=x) (wx:=W) HX.out.1 (by rw[HT.out.2.2]) HT.out.2.2 hR HX.out.2.2 HT.out.2.1 (Below.refl _ _) ((((Keeps.refl (fun j=>W.heap.size≤j) _).alloc _).alloc _)))⟩
theorem MX.box {T:MT}{Z:Nat→Prop}{W:World}{b X o:Nat}{u:Value}{v:MV}{p:Img}{s:MS}(M:MX T Z W b v p s)(h1:¬MO v b X)(h2:¬Z X):MX T Z (W.setCell ⟨X,o,none⟩ u) b v p s:=
 M.far (S:=fun j=>j=X) (Keeps.setCell (S:=fun j=>j=X) (p:=⟨X,o,none⟩) (Keeps.refl _ _) (.inl rfl) _) (fun _ e=>e▸h1) (fun _ e=>e▸h2)
theorem MX.allo {T:MT}{Z:Nat→Prop}{W:World}{b:Nat}{v:MV}{p:Img}{s:MS}(M:MX T Z W b v p s)(o:Obj):MX T Z (W.alloc o) b v p s:=M.ext (zal)
theorem MK.box {b X o:Nat}{u:Value}{v v':MV}{W w1:World}(K:MK b v W v' w1)(h:W.heap.size≤X):MK b v W v' (w1.setCell ⟨X,o,none⟩ u):=K.late (Keeps.setCell (S:=fun j=>W.heap.size≤j) (p:=⟨X,o,none⟩) (Keeps.refl _ _) (.inl h) _)
theorem MK.allo {b:Nat}{v v':MV}{W w1:World}(K:MK b v W v' w1)(o:Obj):MK b v W v' (w1.alloc o):=K.late ((Keeps.refl _ _).alloc _)
theorem MK.drw {b:Nat}{v v':MV}{W w1:World}(K:MK b v W v' w1):MK b v W v' w1.drew:=K.late ((zkb (S:=fun _=>False) (Below.refl _ _).drew).mono (fun _ _ f=>f.elim))
theorem cf_box {F:Nat→Prop}{w:World}{X o:Nat}{u:Value}{c:VC}{x:Val}(C:CF F w c x)(h:¬F X):CF F (w.setCell ⟨X,o,none⟩ u) c x:=C.keep (Keeps.setCell (S:=fun j=>j=X) (p:=⟨X,o,none⟩) (Keeps.refl _ _) (.inl rfl) _) (fun _ hg e=>h (e▸hg))
theorem cf_allo {F:Nat→Prop}{w:World}{c:VC}{x:Val}(C:CF F w c x)(o:Obj):CF F (w.alloc o) c x:=C.keep (S:=fun _=>False) ((Keeps.refl _ _).alloc _) (fun _ _ f=>f)
theorem pop_open
  {Z:Nat→Prop}(b:Nat)(v:MV)(p:Img)(s:MS)(W:World)(M:MX TT Z W b v p s)
  :Calls Tryz.prog 136 #[.pointer (some ⟨b,0,none⟩)] W (fun e w'=>∃(v':MV) (ck cn:Int) (cs:ByteArray) (la:Option Addr) (ln lc:Nat),e= .returned (.agg #[.int .i64 ck,.int .i64 cn,.string cs,.slice la ln lc])∧Hid (MX TT Z w' b v' p s.pop∧MK b v W v' w'∧CF (MZ Z v' b) w' ⟨ck,cn,cs,la,ln,lc⟩ s.top)∧
   (∀X,X<W.heap.size→¬MO v b X→∀o,w'.cell? ⟨X,o,none⟩=W.cell? ⟨X,o,none⟩)∧(∀X,X<W.heap.size→¬MO v b X→∀o,w'.frozen? ⟨X,o,none⟩=W.frozen? ⟨X,o,none⟩)∧(∀X,X<W.heap.size→X<w'.heap.size)):=
 (pop_any b v p s W M).mono fun _ _ ⟨v',⟨ck,cn,cs,la,ln,lc⟩,he,H⟩=>⟨v',ck,cn,cs,la,ln,lc,he,H,fun X h1 h2 o=>H.out.2.1.keeps.cell (p:=⟨X,o,none⟩) h1 h2,fun X h1 h2 o=>H.out.2.1.keeps.frozen (p:=⟨X,o,none⟩) h1 h2,fun _ h=>Nat.lt_of_lt_of_le h H.out.2.1.keeps.size⟩
def SwRel (Z:Nat→Prop)(b:Nat)(v:MV)(p:Img)(s:MS)(w4:World)(v6 v7:Value)(wx:World):Prop:=
 ∃(B6 B7:Nat) (vv:MV) (c d:VC),v6= .pointer (some ⟨B6,0,none⟩)∧v7= .pointer (some ⟨B7,0,none⟩)∧Hid ((wx.cell? ⟨B6,0,none⟩=some (.int .i64 c.kind)∧wx.cell? ⟨B6,1,none⟩=some (.int .i64 c.n)∧wx.cell? ⟨B6,2,none⟩=some (.string c.s)∧wx.cell? ⟨B6,3,none⟩=some (.slice c.la c.ln c.lc)∧B6<wx.heap.size)∧
  (wx.cell? ⟨B7,0,none⟩=some (.int .i64 d.kind)∧wx.cell? ⟨B7,1,none⟩=some (.int .i64 d.n)∧wx.cell? ⟨B7,2,none⟩=some (.string d.s)∧wx.cell? ⟨B7,3,none⟩=some (.slice d.la d.ln d.lc)∧B7<wx.heap.size)∧
  ¬MO vv b B7∧MX TT Z wx b vv p s.pop.pop∧MK b v w4 vv wx∧CF (MZ Z vv b) wx c s.top∧CF (MZ Z vv b) wx d s.pop.top)
theorem step_swap
  {Z:Nat→Prop}(b:Nat)(v:MV)(p:Img)(s:MS)(W:World)(M:MX TT Z W b v p s)
  (op a:Int)(hop:op=4)(hc:p.code[s.at_]? =some ⟨op,a⟩)(nm:ByteArray)(od ii oo:Int)(hof:ofL op=(⟨nm,od,ii,oo,false,false,false⟩,true))(hat:s.at_≤4294967296)(hk:s.stk.length≤4294967296)(s':MS)
  (hs':s'=(s.nxt.pop.pop.push s.nxt.top).push s.nxt.pop.top)(h2:2≤s.stk.length):
  Calls Tryz.prog 104 #[.pointer (some ⟨b,0,none⟩)] W (MP Z W b v p (.bool true) s')
  :=by
 have hl1:s.nxt.pop.pop.stk.length≤4294967296:=by
  show(s.stk.dropLast).dropLast.length≤_
  simp
  omega
 have hl2:(s.nxt.pop.pop.push s.nxt.top).stk.length≤4294967296:=by
  show((s.stk.dropLast).dropLast++[_]).length≤_
  rw[List.length_append,List.length_singleton,List.length_dropLast,List.length_dropLast]
  omega
 have HOP:=zhd hop
 have hE:=zhd hs'
 clear hop hs'
 have atw:wrap64 ((s.at_:Int)+1)=(s.at_:Int)+1:=by unfold wrap64;omega
 have OF:=zhd (of_rule op _ _ hof)
 clear hof
 obtain⟨g,off,hca,_,gl,_,m0,m1⟩:=M.img.code_at (Below.refl _ _) hc
 have hcn:=M.img.lens.1
 have c1:W.cell? ⟨b,1,none⟩=some (.slice v.ic.ca v.ic.cn v.ic.cc):=M.cell (k:=1) rfl
 rw[hca,hcn]at c1
 have c6:W.cell? ⟨b,6,none⟩=some (.int .i64 (s.at_:Int)):=M.cell (k:=6) rfl
 have b0:=zlt M.h
 have hix:(s.at_:Int)<(p.code.length:Int):=by have:=(zge hc).1;omega
 have HX:=zhd M
 clear M hca hcn hc
 go_enter Tryz.func104,Tryz.ntmps104
 go_upto_region 1 with(fail)
 go_region
 all_goals
  go_upto_region 2 with(fail)
  refine wp_named ?_
  intro w1 hw1
  have B1:Below W.heap.size W w1:=by rw[hw1];exact(zal).drew
  have hb1:w1.heap[W.heap.size]? =some (.cells #[.int .i64 op,.int .i64 a] 43 (0,0)):=by rw[hw1];exact heap_alloc_new _ _
  have e0:=zca hb1 0 rfl
  have el:=zlt hb1
  have H1:=zh2 B1 hb1
  clear hw1 B1 hb1
  go_wp2_with fail
  refine(OF.out _).mono ?_
  rintro e w2 ⟨rfl,hB2⟩
  have hb2:=(hB2.block W.heap.size el).trans H1.out.2
  have H2:=zh2 (H1.out.1.trans (hB2.mono H1.out.1.size)) hb2
  clear hB2 hb2 e0 el
  go_upto_region 3 with(fail)
  refine wp_named ?_
  intro w3 hw3
  have B3:Below W.heap.size W w3:=by rw[hw3];exact H2.out.1.alloc H2.out.1.size _
  have hi3:=zha hw3
  have hb3:w3.heap[W.heap.size]? =some (.cells #[.int .i64 op,.int .i64 a] 43 (0,0)):=by rw[hw3];exact(Below.heap_alloc _ _ _ (zlt H2.out.2)).trans H2.out.2
  have f4:=zca hi3 4 rfl
  have f5:=zca hi3 5 rfl
  have f6:=zca hi3 6 rfl
  have e0:=zca hb3 0 rfl
  have e1:=zca hb3 1 rfl
  have il:=zlt hi3
  have el:=zlt hb3
  have M3:=HX.out.ext B3
  have H3:=zh3 B3 M3 hb3
  clear hw3 B3 hi3 hb3 M3
  have c6:w3.cell? ⟨b,6,none⟩=some (.int .i64 (s.at_:Int)):=H3.out.2.1.cell (k:=6) rfl
  have f0:∀o,w3.frozen? ⟨b,o,none⟩=false:=fun o=>H3.out.2.1.frozen o
  have b3:=zlt H3.out.2.1.h
  go_upto_region 14 with(fail)
  refine wp_named ?_
  intro w4 hw4
  have S4:=H3.out.2.1.scalar 6 (.int .i64 ((s.at_:Int)+1)) s.nxt rfl rfl rfl rfl rfl rfl rfl rfl
  rw[←hw4]at S4
  have hb4:w4.heap[W.heap.size]? =some (.cells #[.int .i64 op,.int .i64 a] 43 (0,0)):=by
   rw[hw4,Below.heap_setCell _ _ _ _ (fun e=>by have e:W.heap.size=b:=e;omega)]
   exact H3.out.2.2
  have g0:=zca hb4 0 rfl
  have g1:=zca hb4 1 rfl
  have gl:=zlt hb4
  have H4:=zh3 S4.1 ((MK.ext H3.out.1).trans S4.2) hb4
  have b4:=zlt S4.1.h
  have hlen:s.nxt.stk.length≤4294967296:=hk
  clear S4 hw4 hb4 f4 f5 f6 e0 e1 c6 f0 b3 il el c1 m0 m1 hix
  have hop:=HOP.out
  subst hop
  obtain⟨Zc,hZc⟩:∃Zc:Nat→Prop,Zc=fun j=>Z j∧j<w4.heap.size:=⟨_,rfl⟩
  have M4:MX TT Zc w4 b v p s.nxt:=by rw[hZc];exact H4.out.1.cut
  have hzc:∀X,w4.heap.size≤X→¬Zc X:=fun X h e=>by rw[hZc]at e;have:=e.2;omega
  have HM:=zh3 M4 hZc hzc
  have no4:∀X,w4.heap.size≤X→¬MO v b X:=fun X h e=>by have:=M4.lt e;omega
  clear M4 hzc hZc
  go_upto_region 23 with(fail)
  go_cut [6,7] (fun v6 v7 wx=>SwRel Zc b v p s.nxt w4 v6 v7 wx)
  case first=>
   go_region_law (first
    |(go_simp;go_at_call 136;refine(pop_open (Z:=Zc) b v5 p s.nxt.pop _ ?_).mono ?_;(repeat(first|exact H5.out.1|refine MX.allo ?_ _|refine MX.box ?_ (by first|exact no5 _ (by omega)|exact x0|exact x1) (HM.out.2.2 _ (by omega))));rintro e w6 ⟨v6,dk,dn,ds,ma,mn,mc,rfl,H6,hc6,hf6,hl6⟩;(try(refine have k0:w4.heap.size<w6.heap.size:= ?_; ?_;(focus (refine hl6 _ ?_;(first|assumption|(simp;done)|(simp;omega))))));(try(refine have p0:=hc6 w4.heap.size ?_ ?_; ?_;(focus (first|assumption|(simp;done)|(simp;omega)));(focus (exact x0))));(try(refine have q0:=hf6 w4.heap.size ?_ ?_; ?_;(focus (first|assumption|(simp;done)|(simp;omega)));(focus (exact x0))));(try(refine have f0:¬MO v6 b w4.heap.size:= ?_; ?_;(focus (intro e;rcases H6.out.2.1.own _ e with h|h;(focus (exact x0 h));(focus (first|omega|(simp at h;done)|(simp at h;omega)))))));(try(refine have e0:¬w4.heap.size=w6.heap.size:= ?_; ?_;(focus (omega))));(try(refine have e0r:¬w6.heap.size=w4.heap.size:= ?_; ?_;(focus (omega))));(try(refine have e0s:¬w4.heap.size=w6.heap.size+1:= ?_; ?_;(focus (omega))));(try(refine have e0t:¬w6.heap.size+1=w4.heap.size:= ?_; ?_;(focus (omega))));(try(refine have k1:(w4.heap.size+1)<w6.heap.size:= ?_; ?_;(focus (refine hl6 _ ?_;(first|assumption|(simp;done)|(simp;omega))))));(try(refine have p1:=hc6 (w4.heap.size+1) ?_ ?_; ?_;(focus (first|assumption|(simp;done)|(simp;omega)));(focus (exact x1))));(try(refine have q1:=hf6 (w4.heap.size+1) ?_ ?_; ?_;(focus (first|assumption|(simp;done)|(simp;omega)));(focus (exact x1))));(try(refine have f1:¬MO v6 b (w4.heap.size+1):= ?_; ?_;(focus (intro e;rcases H6.out.2.1.own _ e with h|h;(focus (exact x1 h));(focus (first|omega|(simp at h;done)|(simp at h;omega)))))));(try(refine have e1:¬(w4.heap.size+1)=w6.heap.size:= ?_; ?_;(focus (omega))));(try(refine have e1r:¬w6.heap.size=(w4.heap.size+1):= ?_; ?_;(focus (omega))));(try(refine have e1s:¬(w4.heap.size+1)=w6.heap.size+1:= ?_; ?_;(focus (omega))));(try(refine have e1t:¬w6.heap.size+1=(w4.heap.size+1):= ?_; ?_;(focus (omega))));(try(refine have k2:w5.heap.size<w6.heap.size:= ?_; ?_;(focus (refine hl6 _ ?_;(first|assumption|(simp;done)|(simp;omega))))));(try(refine have p2:=hc6 w5.heap.size ?_ ?_; ?_;(focus (first|assumption|(simp;done)|(simp;omega)));(focus (exact(no5 _ (Nat.le_refl _))))));(try(refine have q2:=hf6 w5.heap.size ?_ ?_; ?_;(focus (first|assumption|(simp;done)|(simp;omega)));(focus (exact(no5 _ (Nat.le_refl _))))));(try(refine have f2:¬MO v6 b w5.heap.size:= ?_; ?_;(focus (intro e;rcases H6.out.2.1.own _ e with h|h;(focus (exact(no5 _ (Nat.le_refl _)) h));(focus (first|omega|(simp at h;done)|(simp at h;omega)))))));(try(refine have e2:¬w5.heap.size=w6.heap.size:= ?_; ?_;(focus (omega))));(try(refine have e2r:¬w6.heap.size=w5.heap.size:= ?_; ?_;(focus (omega))));(try(refine have e2s:¬w5.heap.size=w6.heap.size+1:= ?_; ?_;(focus (omega))));(try(refine have e2t:¬w6.heap.size+1=w5.heap.size:= ?_; ?_;(focus (omega))));(try(refine have k3:(w5.heap.size+1)<w6.heap.size:= ?_; ?_;(focus (refine hl6 _ ?_;(first|assumption|(simp;done)|(simp;omega))))));(try(refine have p3:=hc6 (w5.heap.size+1) ?_ ?_; ?_;(focus (first|assumption|(simp;done)|(simp;omega)));(focus (exact(no5 _ (Nat.le_succ _))))));(try(refine have q3:=hf6 (w5.heap.size+1) ?_ ?_; ?_;(focus (first|assumption|(simp;done)|(simp;omega)));(focus (exact(no5 _ (Nat.le_succ _))))));(try(refine have f3:¬MO v6 b (w5.heap.size+1):= ?_; ?_;(focus (intro e;rcases H6.out.2.1.own _ e with h|h;(focus (exact(no5 _ (Nat.le_succ _)) h));(focus (first|omega|(simp at h;done)|(simp at h;omega)))))));(try(refine have e3:¬(w5.heap.size+1)=w6.heap.size:= ?_; ?_;(focus (omega))));(try(refine have e3r:¬w6.heap.size=(w5.heap.size+1):= ?_; ?_;(focus (omega))));(try(refine have e3s:¬(w5.heap.size+1)=w6.heap.size+1:= ?_; ?_;(focus (omega))));(try(refine have e3t:¬w6.heap.size+1=(w5.heap.size+1):= ?_; ?_;(focus (omega))));clear hc6 hf6 hl6)
    |(go_simp;go_at_call 136;refine(pop_open (Z:=Zc) b v p s.nxt _ ?_).mono ?_;(repeat(first|exact HM.out.1|refine MX.allo ?_ _|refine MX.ext ?_ (Below.refl _ _).drew));rintro e w5 ⟨v5,ck,cn,cs,la,ln,lc,rfl,H5,hc5,hf5,hl5⟩;have no5:∀X,w5.heap.size≤X→¬MO v5 b X:=(fun X h e=>by have:=H5.out.1.lt e;omega);have hs5:w4.heap.size≤w5.heap.size:=(by have:=H5.out.2.1.keeps.size;simp at this;omega);(try(refine have g0:w4.heap.size<w5.heap.size:= ?_; ?_;(focus (refine hl5 _ ?_;(first|(simp;done)|(simp;omega))))));(try(refine have z0:=hc5 w4.heap.size ?_ ?_; ?_;(focus (first|(simp;done)|(simp;omega)));(focus (refine no4 _ ?_;omega))));(try(refine have y0:=hf5 w4.heap.size ?_ ?_; ?_;(focus (first|(simp;done)|(simp;omega)));(focus (refine no4 _ ?_;omega))));(try(refine have x0:¬MO v5 b w4.heap.size:= ?_; ?_;(focus (intro e;rcases H5.out.2.1.own _ e with h|h;(focus (exact no4 _ (Nat.le_refl _) h));(focus (first|omega|(simp at h;done)|(simp at h;omega)))))));(try(refine have d0:¬w4.heap.size=w5.heap.size:= ?_; ?_;(focus (omega))));(try(refine have d0r:¬w5.heap.size=w4.heap.size:= ?_; ?_;(focus (omega))));(try(refine have d0s:¬w4.heap.size=w5.heap.size+1:= ?_; ?_;(focus (omega))));(try(refine have d0t:¬w5.heap.size+1=w4.heap.size:= ?_; ?_;(focus (omega))));(try(refine have g1:(w4.heap.size+1)<w5.heap.size:= ?_; ?_;(focus (refine hl5 _ ?_;(first|(simp;done)|(simp;omega))))));(try(refine have z1:=hc5 (w4.heap.size+1) ?_ ?_; ?_;(focus (first|(simp;done)|(simp;omega)));(focus (refine no4 _ ?_;omega))));(try(refine have y1:=hf5 (w4.heap.size+1) ?_ ?_; ?_;(focus (first|(simp;done)|(simp;omega)));(focus (refine no4 _ ?_;omega))));(try(refine have x1:¬MO v5 b (w4.heap.size+1):= ?_; ?_;(focus (intro e;rcases H5.out.2.1.own _ e with h|h;(focus (exact no4 _ (Nat.le_add_right _ _) h));(focus (first|omega|(simp at h;done)|(simp at h;omega)))))));(try(refine have d1:¬(w4.heap.size+1)=w5.heap.size:= ?_; ?_;(focus (omega))));(try(refine have d1r:¬w5.heap.size=(w4.heap.size+1):= ?_; ?_;(focus (omega))));(try(refine have d1s:¬(w4.heap.size+1)=w5.heap.size+1:= ?_; ?_;(focus (omega))));(try(refine have d1t:¬w5.heap.size+1=(w4.heap.size+1):= ?_; ?_;(focus (omega))));clear hc5 hf5 hl5))
   all_goals
    go_wp2_with fail
    go_meet
    case rel=>
     have K5:MK b v w4 v5 w5:=by
      refine MK.trans ?_ H5.out.2.1
      repeat(with_reducible first|exact MK.refl _ _ _|refine MK.allo ?_ _|refine MK.drw ?_)
     have K6:MK b v w4 v6 w6:=by
      refine MK.trans (v':=v5) ?_ H6.out.2.1
      repeat(with_reducible first|exact K5|refine MK.allo ?_ _)
     have C6:=CF.step H6.out.2.1 (c:=⟨ck,cn,cs,la,ln,lc⟩) (x:=s.nxt.top) (by repeat(with_reducible first|exact H5.out.2.2|refine cf_allo ?_ _))
     have hs6:=K6.keeps.size
     have f6:¬MO v6 b w6.heap.size:=fun e=>Nat.lt_irrefl _ (H6.out.1.lt e)
     have f7:¬MO v6 b (w6.heap.size+1):=fun e=>by have:=H6.out.1.lt e;omega
     have c0:=HM.out.2.2 w4.heap.size (Nat.le_refl _)
     have c1:=HM.out.2.2 (w4.heap.size+1) (Nat.le_succ _)
     have c2:=HM.out.2.2 w5.heap.size hs5
     have c3:=HM.out.2.2 (w5.heap.size+1) (Nat.le_succ_of_le hs5)
     have u0:w4.heap.size≤w4.heap.size:=Nat.le_refl _
     have u1:w4.heap.size≤w4.heap.size+1:=Nat.le_succ _
     have u3:w4.heap.size≤w5.heap.size+1:=Nat.le_succ_of_le hs5
     refine⟨_,_,v6,⟨ck,cn,cs,la,ln,lc⟩,⟨dk,dn,ds,ma,mn,mc⟩,rfl,rfl,zhd ⟨⟨(by first|(go_simp;done)|(simp;done)|(simp;omega)),(by first|(go_simp;done)|(simp;done)|(simp;omega)),(by first|(go_simp;done)|(simp;done)|(simp;omega)),(by first|(go_simp;done)|(simp;done)|(simp;omega)),(by first|(go_simp;done)|(simp;done)|(simp;omega))⟩,⟨(by first|(go_simp;done)|(simp;done)|(simp;omega)),(by first|(go_simp;done)|(simp;done)|(simp;omega)),(by first|(go_simp;done)|(simp;done)|(simp;omega)),(by first|(go_simp;done)|(simp;done)|(simp;omega)),(by first|(go_simp;done)|(simp;done)|(simp;omega))⟩,(by first|assumption|(simp;assumption)),?_,?_,?_,?_⟩⟩
     ·repeat(first|with_reducible exact H6.out.1|with_reducible refine MX.allo ?_ _|((with_reducible refine MX.box ?_ ?_ ?_);rotate_left;(focus assumption);(focus assumption)))
     ·repeat(first|with_reducible exact K6|with_reducible refine MK.allo ?_ _|((with_reducible refine MK.box ?_ ?_);rotate_left;(focus assumption)))
     ·repeat(first|with_reducible exact C6|with_reducible refine cf_allo ?_ _|((with_reducible refine cf_box ?_ ?_);rotate_left;(focus (intro h;first|exact c0 h.2|exact c1 h.2|exact c2 h.2|exact c3 h.2))))
     ·repeat(first|with_reducible exact H6.out.2.2|with_reducible refine cf_allo ?_ _|((with_reducible refine cf_box ?_ ?_);rotate_left;(focus (intro h;first|exact c0 h.2|exact c1 h.2|exact c2 h.2|exact c3 h.2))))
  case rest=>
   obtain⟨B6,B7,vv,⟨ck,cn,cs,la,ln,lc⟩,⟨dk,dn,ds,ma,mn,mc⟩,rfl,rfl,H7⟩:=hcut
   obtain⟨q0,q1,q2,q3,ql⟩:=H7.out.1
   dsimp only at q0 q1 q2 q3
   have PU:=zhd (push_any b vv p s.nxt.pop.pop wc.drew (H7.out.2.2.2.1.ext (Below.refl _ _).drew) s.nxt.top ck cn cs la ln lc (H7.out.2.2.2.2.2.1.keep (S:=fun _=>False) (zkb (Below.refl _ _).drew) (fun _ _ f=>f)) hl1)
   go_upto_region 24 with(fail)
   go_region_law ((go_simp;go_at_call 137;refine PU.out.mono ?_;rintro e w8 ⟨v8,rfl,H8⟩))
   all_goals
    have KD:MK b vv wc v8 w8:=(MK.ext (Below.refl wc.heap.size wc).drew).trans H8.out.2
    obtain⟨r0,r1,r2,r3,rl⟩:=H7.out.2.1
    dsimp only at r0 r1 r2 r3
    have y0:=(KD.keeps.cell (p:=⟨B7,0,none⟩) rl H7.out.2.2.1).trans r0
    have y1:=(KD.keeps.cell (p:=⟨B7,1,none⟩) rl H7.out.2.2.1).trans r1
    have y2:=(KD.keeps.cell (p:=⟨B7,2,none⟩) rl H7.out.2.2.1).trans r2
    have y3:=(KD.keeps.cell (p:=⟨B7,3,none⟩) rl H7.out.2.2.1).trans r3
    have yl:B7<w8.heap.size:=Nat.lt_of_lt_of_le rl KD.keeps.size
    have C8:=CF.step KD H7.out.2.2.2.2.2.2
    have PU2:=zhd (push_any b v8 p (s.nxt.pop.pop.push s.nxt.top) w8.drew (H8.out.1.ext (Below.refl _ _).drew) s.nxt.pop.top dk dn ds ma mn mc (C8.keep (S:=fun _=>False) (zkb (Below.refl _ _).drew) (fun _ _ f=>f)) hl2)
    have HKD:=zhd KD
    clear r0 r1 r2 r3 rl KD C8 q0 q1 q2 q3 ql
    go_upto_region 25 with(fail)
    go_region_law ((go_simp;go_at_call 137;refine PU2.out.mono ?_;rintro e w9 ⟨v9,rfl,H9⟩))
    all_goals
     go_wp2_with fail
     go_ret
     refine⟨v9,rfl,zhd ⟨?_,H4.out.2.1.trans (H7.out.2.2.2.2.1.trans (HKD.out.trans ((MK.ext (Below.refl w8.heap.size w8).drew).trans H9.out.2)))⟩⟩
     rw[hE.out]
     exact H9.out.1.monoZ (fun j h _=>by have h:Zc j:=h;rw[HM.out.2.1]at h;exact h.1)
theorem step_store
  {Z:Nat→Prop}(b:Nat)(v:MV)(p:Img)(s:MS)(W:World)(M:MX TT Z W b v p s)
  (op a:Int)(hop:op=14)(hc:p.code[s.at_]? =some ⟨op,a⟩)(nm:ByteArray)(od ii oo:Int)(hof:ofL op=(⟨nm,od,ii,oo,false,false,false⟩,true))(hat:s.at_≤4294967296)(hk:s.stk.length≤4294967296)(s':MS)
  (k:Nat)(x:Val)(hak:a=k)(hx:s.places[k]? =some x)(hs':s'={s.nxt.pop with places:=s.places.set k s.top}):
  Calls Tryz.prog 104 #[.pointer (some ⟨b,0,none⟩)] W (MP Z W b v p (.bool true) s')
  :=by
 have HAK:=zhd hak
 clear hak
 have hkn:(k:Int)<(s.places.length:Int):=by have:=(zge hx).1;omega
 have HXK:=zhd hx
 clear hx
 have HOP:=zhd hop
 have hE:=zhd hs'
 clear hop hs'
 have atw:wrap64 ((s.at_:Int)+1)=(s.at_:Int)+1:=by unfold wrap64;omega
 have OF:=zhd (of_rule op _ _ hof)
 clear hof
 obtain⟨g,off,hca,_,gl,_,m0,m1⟩:=M.img.code_at (Below.refl _ _) hc
 have hcn:=M.img.lens.1
 have c1:W.cell? ⟨b,1,none⟩=some (.slice v.ic.ca v.ic.cn v.ic.cc):=M.cell (k:=1) rfl
 rw[hca,hcn]at c1
 have c6:W.cell? ⟨b,6,none⟩=some (.int .i64 (s.at_:Int)):=M.cell (k:=6) rfl
 have b0:=zlt M.h
 have hix:(s.at_:Int)<(p.code.length:Int):=by have:=(zge hc).1;omega
 have HX:=zhd M
 clear M hca hcn hc
 go_enter Tryz.func104,Tryz.ntmps104
 go_upto_region 1 with(fail)
 go_region
 all_goals
  go_upto_region 2 with(fail)
  refine wp_named ?_
  intro w1 hw1
  have B1:Below W.heap.size W w1:=by rw[hw1];exact(zal).drew
  have hb1:w1.heap[W.heap.size]? =some (.cells #[.int .i64 op,.int .i64 a] 43 (0,0)):=by rw[hw1];exact heap_alloc_new _ _
  have e0:=zca hb1 0 rfl
  have el:=zlt hb1
  have H1:=zh2 B1 hb1
  clear hw1 B1 hb1
  go_wp2_with fail
  refine(OF.out _).mono ?_
  rintro e w2 ⟨rfl,hB2⟩
  have hb2:=(hB2.block W.heap.size el).trans H1.out.2
  have H2:=zh2 (H1.out.1.trans (hB2.mono H1.out.1.size)) hb2
  clear hB2 hb2 e0 el
  go_upto_region 3 with(fail)
  refine wp_named ?_
  intro w3 hw3
  have B3:Below W.heap.size W w3:=by rw[hw3];exact H2.out.1.alloc H2.out.1.size _
  have hi3:=zha hw3
  have hb3:w3.heap[W.heap.size]? =some (.cells #[.int .i64 op,.int .i64 a] 43 (0,0)):=by rw[hw3];exact(Below.heap_alloc _ _ _ (zlt H2.out.2)).trans H2.out.2
  have f4:=zca hi3 4 rfl
  have f5:=zca hi3 5 rfl
  have f6:=zca hi3 6 rfl
  have e0:=zca hb3 0 rfl
  have e1:=zca hb3 1 rfl
  have il:=zlt hi3
  have el:=zlt hb3
  have M3:=HX.out.ext B3
  have H3:=zh3 B3 M3 hb3
  clear hw3 B3 hi3 hb3 M3
  have c6:w3.cell? ⟨b,6,none⟩=some (.int .i64 (s.at_:Int)):=H3.out.2.1.cell (k:=6) rfl
  have f0:∀o,w3.frozen? ⟨b,o,none⟩=false:=fun o=>H3.out.2.1.frozen o
  have b3:=zlt H3.out.2.1.h
  go_upto_region 14 with(fail)
  refine wp_named ?_
  intro w4 hw4
  have S4:=H3.out.2.1.scalar 6 (.int .i64 ((s.at_:Int)+1)) s.nxt rfl rfl rfl rfl rfl rfl rfl rfl
  rw[←hw4]at S4
  have hb4:w4.heap[W.heap.size]? =some (.cells #[.int .i64 op,.int .i64 a] 43 (0,0)):=by
   rw[hw4,Below.heap_setCell _ _ _ _ (fun e=>by have e:W.heap.size=b:=e;omega)]
   exact H3.out.2.2
  have g0:=zca hb4 0 rfl
  have g1:=zca hb4 1 rfl
  have gl:=zlt hb4
  have H4:=zh3 S4.1 ((MK.ext H3.out.1).trans S4.2) hb4
  have b4:=zlt S4.1.h
  have hlen:s.nxt.stk.length≤4294967296:=hk
  clear S4 hw4 hb4 f4 f5 f6 e0 e1 c6 f0 b3 il el c1 m0 m1 hix
  have hop:=HOP.out
  subst hop
  have hak:=HAK.out
  subst hak
  obtain⟨pa,pc,hps⟩:∃a cap,v.ps= .slice a s.places.length cap:=H4.out.1.pls.slice
  have c5:w4.cell? ⟨b,5,none⟩=some (.slice pa s.places.length pc):=by rw[←hps];exact H4.out.1.cell (k:=5) rfl
  obtain⟨pg,poff,kc,hka,pgl,_,_,_⟩:=(show XRow _ w4 39 (.slice pa s.places.length pc) s.places from hps▸H4.out.1.pls).at_ HXK.out
  subst hka
  have PO:=zhd (pop_strong b v p _ w4.drew (H4.out.1.ext (Below.refl _ _).drew))
  have HPS:=zhd hps
  clear hps
  go_upto_region 29 with(fail)
  go_region_law ((go_simp;go_at_call 136;refine PO.out.mono ?_;rintro e w5 ⟨ss5,⟨ck,cn,cs,la,ln,lc⟩,rfl,H5⟩;have hb5:=(H5.out.2.1.keeps.block W.heap.size (by exact zlt H4.out.2.2) (fun e=>Nat.lt_irrefl _ (HX.out.lt e))).trans H4.out.2.2;have y1:w5.cell? ⟨W.heap.size,1,none⟩=some (.int .i64 (k:Int)):=(by rw[zch hb5];rfl);have y0:=zlt hb5;have z5:w5.cell? ⟨b,5,none⟩=some (.slice (some ⟨pg,poff,none⟩) s.places.length pc):=(by rw[←HPS.out];exact H5.out.1.cell (k:=5) rfl);have zb:=zlt H5.out.1.h;have zp:pg<w5.heap.size:=Nat.lt_of_lt_of_le pgl (H5.out.2.1.keeps.size);obtain⟨ks5,hR5v,hP5⟩:=H5.out.1.pls.cells;have hR5:RowAt w5 39 (.slice (some ⟨pg,poff,none⟩) s.places.length pc) ks5:=(by have h:RowAt w5 39 v.ps ks5:=hR5v;rw[HPS.out]at h;exact h);obtain⟨c5k,hc5k⟩:=elem_at (l:=ks5) (k:=k) (by rw[hP5.1];exact(zge HXK.out).1);have zc:=fun(j:Nat) (hj:j<4)=>hR5.cell hc5k (j:=j) hj;have zc0:w5.cell? ⟨pg,poff+k*4,none⟩=some (.int .i64 c5k.kind):=zc 0 (by decide);have zc1:w5.cell? ⟨pg,poff+k*4+1,none⟩=some (.int .i64 c5k.n):=(by rw[Nat.add_assoc];exact zc 1 (by decide));have zc2:w5.cell? ⟨pg,poff+k*4+2,none⟩=some (.string c5k.s):=(by rw[Nat.add_assoc];exact zc 2 (by decide));have zc3:w5.cell? ⟨pg,poff+k*4+3,none⟩=some (.slice c5k.la c5k.ln c5k.lc):=(by rw[Nat.add_assoc];exact zc 3 (by decide));have zpf:∀o,w5.frozen? ⟨pg,o,none⟩=false:=(fun o=>hR5.frozen o);have HR5:=zh2 hR5 hP5;clear hb5 zc hc5k hR5 hR5v hP5))
  all_goals
   obtain⟨w6,hw6⟩:∃w6,w6=((((w5.setCell ⟨pg,poff+k*4,none⟩ (.int .i64 ck)).setCell ⟨pg,poff+k*4+1,none⟩ (.int .i64 cn)).setCell ⟨pg,poff+k*4+2,none⟩ (.string cs)).setCell ⟨pg,poff+k*4+3,none⟩ (.slice la ln lc)):=⟨_,rfl⟩
   rw[←hw6]
   have hset:=HR5.out.1.set (i:=k) (by rw[HR5.out.2.1];exact(zge HXK.out).1) ⟨ck,cn,cs,la,ln,lc⟩
   have hset2:RowAt w6 39 (.slice (some ⟨pg,poff,none⟩) s.places.length pc) (ks5.set k ⟨ck,cn,cs,la,ln,lc⟩):=by rw[hw6];exact hset
   have hob:({v with ss:=ss5}:MV).ps.ownBlock=some pg:=by show v.ps.ownBlock=_;rw[HPS.out];rfl
   have K4:Keeps (fun j=>({v with ss:=ss5}:MV).ps.ownBlock=some j) w5 w6:=by
    rw[hw6]
    exact((((Keeps.refl _ _).setCell (p:=⟨pg,poff+k*4,none⟩) (.inl hob) _).setCell (p:=⟨pg,poff+k*4+1,none⟩) (.inl hob) _).setCell (p:=⟨pg,poff+k*4+2,none⟩) (.inl hob) _).setCell (p:=⟨pg,poff+k*4+3,none⟩) (.inl hob) _
   have S:=H5.out.1.putPls (v1:=.slice (some ⟨pg,poff,none⟩) s.places.length pc) s' hset2 (HR5.out.2.set k H5.out.2.2) K4 (fun g hg=>.inl (by rw[hob];exact hg)) hE.out
   have hnb:¬b=pg:=fun e=>absurd (H5.out.1.sep 2 0 pg hob (by rw[e];rfl)) (by decide)
   have z6:w6.cell? ⟨b,5,none⟩=some (.slice (some ⟨pg,poff,none⟩) s.places.length pc):=(K4.cell (p:=⟨b,5,none⟩) zb (fun e=>by rw[hob]at e;exact hnb (Option.some.inj e).symm)).trans z5
   rw[setCell_self z6]at S
   have HS:=zhd S
   clear S K4 hset hset2 hw6 z5 z6 y0 y1 zb zp zc0 zc1 zc2 zc3 zpf
   go_wp2_with fail
   go_ret
   exact⟨_,rfl,zhd ⟨HS.out.1,H4.out.2.1.trans ((MK.ext (Below.refl w4.heap.size w4).drew).trans (H5.out.2.1.trans HS.out.2))⟩⟩
theorem step_poll_none
  {Z:Nat→Prop}(b:Nat)(v:MV)(p:Img)(s:MS)(W:World)(M:MX TT Z W b v p s)
  (op a:Int)(hop:op=23)(hc:p.code[s.at_]? =some ⟨op,a⟩)(nm:ByteArray)(od ii oo:Int)(hof:ofL op=(⟨nm,od,ii,oo,false,false,false⟩,true))(hat:s.at_≤4294967296)(hk:s.stk.length≤4294967296)(s':MS)
  (k:Nat)(lnm:ByteArray)(hak:a=k)(hnm:p.names[k]? =some lnm)(hf:findLt lnm s.letters=none)(hk2:s.stk.length≤4294967295)(hs':s'=(s.nxt.push vNil0).push (vBool false)):
  Calls Tryz.prog 104 #[.pointer (some ⟨b,0,none⟩)] W (MP Z W b v p (.bool true) s')
  :=by
 have HAK:=zhd hak
 have hkn:(k:Int)<(p.names.length:Int):=by have:=(zge hnm).1;omega
 have HNM:=zhd hnm
 have HF:=zhd hf
 have hlen2:(s.nxt.push vNil0).stk.length≤4294967296:=by
  show(s.stk++[_]).length≤_
  rw[List.length_append,List.length_singleton]
  omega
 clear hak hnm hf hk2
 have HOP:=zhd hop
 have hE:=zhd hs'
 clear hop hs'
 have atw:wrap64 ((s.at_:Int)+1)=(s.at_:Int)+1:=by unfold wrap64;omega
 have OF:=zhd (of_rule op _ _ hof)
 clear hof
 obtain⟨g,off,hca,_,gl,_,m0,m1⟩:=M.img.code_at (Below.refl _ _) hc
 have hcn:=M.img.lens.1
 have c1:W.cell? ⟨b,1,none⟩=some (.slice v.ic.ca v.ic.cn v.ic.cc):=M.cell (k:=1) rfl
 rw[hca,hcn]at c1
 have c6:W.cell? ⟨b,6,none⟩=some (.int .i64 (s.at_:Int)):=M.cell (k:=6) rfl
 have b0:=zlt M.h
 have hix:(s.at_:Int)<(p.code.length:Int):=by have:=(zge hc).1;omega
 have HX:=zhd M
 clear M hca hcn hc
 go_enter Tryz.func104,Tryz.ntmps104
 go_upto_region 1 with(fail)
 go_region
 all_goals
  go_upto_region 2 with(fail)
  refine wp_named ?_
  intro w1 hw1
  have B1:Below W.heap.size W w1:=by rw[hw1];exact(zal).drew
  have hb1:w1.heap[W.heap.size]? =some (.cells #[.int .i64 op,.int .i64 a] 43 (0,0)):=by rw[hw1];exact heap_alloc_new _ _
  have e0:=zca hb1 0 rfl
  have el:=zlt hb1
  have H1:=zh2 B1 hb1
  clear hw1 B1 hb1
  go_wp2_with fail
  refine(OF.out _).mono ?_
  rintro e w2 ⟨rfl,hB2⟩
  have hb2:=(hB2.block W.heap.size el).trans H1.out.2
  have H2:=zh2 (H1.out.1.trans (hB2.mono H1.out.1.size)) hb2
  clear hB2 hb2 e0 el
  go_upto_region 3 with(fail)
  refine wp_named ?_
  intro w3 hw3
  have B3:Below W.heap.size W w3:=by rw[hw3];exact H2.out.1.alloc H2.out.1.size _
  have hi3:=zha hw3
  have hb3:w3.heap[W.heap.size]? =some (.cells #[.int .i64 op,.int .i64 a] 43 (0,0)):=by rw[hw3];exact(Below.heap_alloc _ _ _ (zlt H2.out.2)).trans H2.out.2
  have f4:=zca hi3 4 rfl
  have f5:=zca hi3 5 rfl
  have f6:=zca hi3 6 rfl
  have e0:=zca hb3 0 rfl
  have e1:=zca hb3 1 rfl
  have il:=zlt hi3
  have el:=zlt hb3
  have M3:=HX.out.ext B3
  have H3:=zh3 B3 M3 hb3
  clear hw3 B3 hi3 hb3 M3
  have c6:w3.cell? ⟨b,6,none⟩=some (.int .i64 (s.at_:Int)):=H3.out.2.1.cell (k:=6) rfl
  have f0:∀o,w3.frozen? ⟨b,o,none⟩=false:=fun o=>H3.out.2.1.frozen o
  have b3:=zlt H3.out.2.1.h
  go_upto_region 14 with(fail)
  refine wp_named ?_
  intro w4 hw4
  have S4:=H3.out.2.1.scalar 6 (.int .i64 ((s.at_:Int)+1)) s.nxt rfl rfl rfl rfl rfl rfl rfl rfl
  rw[←hw4]at S4
  have hb4:w4.heap[W.heap.size]? =some (.cells #[.int .i64 op,.int .i64 a] 43 (0,0)):=by
   rw[hw4,Below.heap_setCell _ _ _ _ (fun e=>by have e:W.heap.size=b:=e;omega)]
   exact H3.out.2.2
  have g0:=zca hb4 0 rfl
  have g1:=zca hb4 1 rfl
  have gl:=zlt hb4
  have H4:=zh3 S4.1 ((MK.ext H3.out.1).trans S4.2) hb4
  have b4:=zlt S4.1.h
  have hlen:s.nxt.stk.length≤4294967296:=hk
  clear S4 hw4 hb4 f4 f5 f6 e0 e1 c6 f0 b3 il el c1 m0 m1 hix
  have hop:=HOP.out
  subst hop
  have hak:=HAK.out
  subst hak
  obtain⟨ng,noff,hna,_,_,ngl,nm0⟩:=H4.out.1.img.name_at (Below.refl _ _) HNM.out
  have hnn:=H4.out.1.img.lens.2.2
  have c3:w4.cell? ⟨b,3,none⟩=some (.slice v.ic.na v.ic.nn v.ic.nc):=H4.out.1.cell (k:=3) rfl
  rw[hna,hnn]at c3
  have LT:=zhd (letter_any b v p s.nxt w4.drew (H4.out.1.ext (Below.refl _ _).drew) lnm (-1) (by unfold ltI;show(match findLt lnm s.letters with|none=>(-1:Int)|some i=>(i:Int))=_;rw[HF.out]))
  clear hna hnn
  go_upto_region 37 with(fail)
  go_still_tail 10,(by kernel_rfl)
  go_wp2_with fail
  refine LT.out.mono ?_
  rintro e w5 ⟨rfl,hB5⟩
  have B5:Below w4.heap.size w4 w5:=Below.trans ((Below.refl _ _).drew) hB5
  have M5:=H4.out.1.ext B5
  have H5:=zh2 B5 M5
  clear hB5 B5 M5 nm0 c3 g0 g1 gl ngl b4
  have PU:=zhd (push_any b v p s.nxt w5 H5.out.2 vNil0 0 0 ⟨#[]⟩ none 0 0 (cf_nil0 _ _) hlen)
  go_wp2_with fail
  refine PU.out.mono ?_
  rintro e w6 ⟨v6,rfl,H6⟩
  go_upto_region 42 with(fail)
  go_region_law (first
   |(go_simp;go_at_call 138;refine(bool_any false _).mono ?_;rintro e w8 ⟨rfl,hB8⟩;have H8:=zhd (Below.trans ((Below.refl w6.heap.size w6).drew) hB8);clear hB8)
   |(go_simp;go_at_call 137;refine(push_any b v6 p _ w8 (H6.out.1.ext H8.out) (vBool false) 1 _ ⟨#[]⟩ none 0 0 (cf_bool _ _ _) hlen2).mono ?_;rintro e w9 ⟨v9,rfl,H9⟩))
  all_goals
   go_wp2_with fail
   go_ret
   exact⟨v9,rfl,zhd ⟨by rw[hE.out];exact H9.out.1,H4.out.2.1.trans ((MK.ext H5.out.1).trans (H6.out.2.trans ((MK.ext H8.out).trans H9.out.2)))⟩⟩
theorem step_poll
  {Z:Nat→Prop}(b:Nat)(v:MV)(p:Img)(s:MS)(W:World)(M:MX TT Z W b v p s)
  (op a:Int)(hop:op=23)(hc:p.code[s.at_]? =some ⟨op,a⟩)(nm:ByteArray)(od ii oo:Int)(hof:ofL op=(⟨nm,od,ii,oo,false,false,false⟩,true))(hat:s.at_≤4294967296)(hk:s.stk.length≤4294967296)(hZ:∀j,W.heap.size≤j→Z j)(s':MS)
  (k:Nat)(lnm:ByteArray)(hak:a=k)(hnm:p.names[k]? =some lnm)(i:Nat)(hf:findLt lnm s.letters=some i)(hll:s.letters.length≤4294967296)(hk2:s.stk.length≤4294967295)(hs':s'=((s.nxt.openL i).push (s.letV i)).push (vBool true)):
  Calls Tryz.prog 104 #[.pointer (some ⟨b,0,none⟩)] W (MP Z W b v p (.bool true) s')
  :=by
 have HAK:=zhd hak
 have hkn:(k:Int)<(p.names.length:Int):=by have:=(zge hnm).1;omega
 have HNM:=zhd hnm
 have HF:=zhd hf
 obtain⟨x,hx⟩:=Go.Proofs.YtakljipkaoahnaaGreatDoor.findLt_some hf
 have HLX:=zh3 hx hll hZ
 have n8:decide ((0:Int)≤(i:Int))=true:=decide_eq_true (by omega)
 have n9:(0:Int)≤(i:Int):=by omega
 have hlen2:((s.nxt.openL i).push (s.letV i)).stk.length≤4294967296:=by
  show(s.stk++[_]).length≤_
  rw[List.length_append,List.length_singleton]
  omega
 clear hak hnm hf hk2 hx hll
 have HOP:=zhd hop
 have hE:=zhd hs'
 clear hop hs'
 have atw:wrap64 ((s.at_:Int)+1)=(s.at_:Int)+1:=by unfold wrap64;omega
 have OF:=zhd (of_rule op _ _ hof)
 clear hof
 obtain⟨g,off,hca,_,gl,_,m0,m1⟩:=M.img.code_at (Below.refl _ _) hc
 have hcn:=M.img.lens.1
 have c1:W.cell? ⟨b,1,none⟩=some (.slice v.ic.ca v.ic.cn v.ic.cc):=M.cell (k:=1) rfl
 rw[hca,hcn]at c1
 have c6:W.cell? ⟨b,6,none⟩=some (.int .i64 (s.at_:Int)):=M.cell (k:=6) rfl
 have b0:=zlt M.h
 have hix:(s.at_:Int)<(p.code.length:Int):=by have:=(zge hc).1;omega
 have HX:=zhd M
 clear M hca hcn hc
 go_enter Tryz.func104,Tryz.ntmps104
 go_upto_region 1 with(fail)
 go_region
 all_goals
  go_upto_region 2 with(fail)
  refine wp_named ?_
  intro w1 hw1
  have B1:Below W.heap.size W w1:=by rw[hw1];exact(zal).drew
  have hb1:w1.heap[W.heap.size]? =some (.cells #[.int .i64 op,.int .i64 a] 43 (0,0)):=by rw[hw1];exact heap_alloc_new _ _
  have e0:=zca hb1 0 rfl
  have el:=zlt hb1
  have H1:=zh2 B1 hb1
  clear hw1 B1 hb1
  go_wp2_with fail
  refine(OF.out _).mono ?_
  rintro e w2 ⟨rfl,hB2⟩
  have hb2:=(hB2.block W.heap.size el).trans H1.out.2
  have H2:=zh2 (H1.out.1.trans (hB2.mono H1.out.1.size)) hb2
  clear hB2 hb2 e0 el
  go_upto_region 3 with(fail)
  refine wp_named ?_
  intro w3 hw3
  have B3:Below W.heap.size W w3:=by rw[hw3];exact H2.out.1.alloc H2.out.1.size _
  have hi3:=zha hw3
  have hb3:w3.heap[W.heap.size]? =some (.cells #[.int .i64 op,.int .i64 a] 43 (0,0)):=by rw[hw3];exact(Below.heap_alloc _ _ _ (zlt H2.out.2)).trans H2.out.2
  have f4:=zca hi3 4 rfl
  have f5:=zca hi3 5 rfl
  have f6:=zca hi3 6 rfl
  have e0:=zca hb3 0 rfl
  have e1:=zca hb3 1 rfl
  have il:=zlt hi3
  have el:=zlt hb3
  have M3:=HX.out.ext B3
  have H3:=zh3 B3 M3 hb3
  clear hw3 B3 hi3 hb3 M3
  have c6:w3.cell? ⟨b,6,none⟩=some (.int .i64 (s.at_:Int)):=H3.out.2.1.cell (k:=6) rfl
  have f0:∀o,w3.frozen? ⟨b,o,none⟩=false:=fun o=>H3.out.2.1.frozen o
  have b3:=zlt H3.out.2.1.h
  go_upto_region 14 with(fail)
  refine wp_named ?_
  intro w4 hw4
  have S4:=H3.out.2.1.scalar 6 (.int .i64 ((s.at_:Int)+1)) s.nxt rfl rfl rfl rfl rfl rfl rfl rfl
  rw[←hw4]at S4
  have hb4:w4.heap[W.heap.size]? =some (.cells #[.int .i64 op,.int .i64 a] 43 (0,0)):=by
   rw[hw4,Below.heap_setCell _ _ _ _ (fun e=>by have e:W.heap.size=b:=e;omega)]
   exact H3.out.2.2
  have g0:=zca hb4 0 rfl
  have g1:=zca hb4 1 rfl
  have gl:=zlt hb4
  have H4:=zh3 S4.1 ((MK.ext H3.out.1).trans S4.2) hb4
  have b4:=zlt S4.1.h
  have hlen:s.nxt.stk.length≤4294967296:=hk
  clear S4 hw4 hb4 f4 f5 f6 e0 e1 c6 f0 b3 il el c1 m0 m1 hix
  have hop:=HOP.out
  subst hop
  have hak:=HAK.out
  subst hak
  obtain⟨ng,noff,hna,_,_,ngl,nm0⟩:=H4.out.1.img.name_at (Below.refl _ _) HNM.out
  have hnn:=H4.out.1.img.lens.2.2
  have c3:w4.cell? ⟨b,3,none⟩=some (.slice v.ic.na v.ic.nn v.ic.nc):=H4.out.1.cell (k:=3) rfl
  rw[hna,hnn]at c3
  have LT:=zhd (letter_any b v p s.nxt w4.drew (H4.out.1.ext (Below.refl _ _).drew) lnm (i:Int) (by unfold ltI;show(match findLt lnm s.letters with|none=>(-1:Int)|some i=>(i:Int))=_;rw[HF.out]))
  clear hna hnn
  go_upto_region 37 with(fail)
  go_still_tail 10,(by kernel_rfl)
  go_wp2_with fail
  refine LT.out.mono ?_
  rintro e w5 ⟨rfl,hB5⟩
  have B5:Below w4.heap.size w4 w5:=Below.trans ((Below.refl _ _).drew) hB5
  have M5:=H4.out.1.ext B5
  have H5:=zh2 B5 M5
  clear hB5 B5 M5 nm0 c3 g0 g1 gl ngl b4
  have OP:=zhd (open_any b v p s.nxt w5.drew (H5.out.2.ext (Below.refl _ _).drew) i x HLX.out.1 HLX.out.2.1 (hZ_step HLX.out.2.2 (Nat.le_trans H4.out.2.1.keeps.size H5.out.1.size)))
  go_upto_region 39 with(fail)
  go_region_law (first
   |(go_simp;go_at_call 140;refine OP.out.mono ?_;rintro e w7 ⟨v7,⟨ck,cn,cs,la,ln,lc⟩,rfl,H7⟩)
   |(go_simp;go_at_call 137;refine(push_any b v7 p (s.nxt.openL i) w7 H7.out.1 (s.letV i) ck cn cs la ln lc H7.out.2.2 hlen).mono ?_;rintro e w6 ⟨v6,rfl,H6⟩))
  all_goals
   go_upto_region 40 with(fail)
   go_region_law (first
    |(go_simp;go_at_call 138;refine(bool_any true _).mono ?_;rintro e w8 ⟨rfl,hB8⟩;have H8:=zhd (Below.trans ((Below.refl w6.heap.size w6).drew) hB8);clear hB8)
    |(go_simp;go_at_call 137;refine(push_any b v6 p _ w8 (H6.out.1.ext H8.out) (vBool true) 1 _ ⟨#[]⟩ none 0 0 (cf_bool _ _ _) hlen2).mono ?_;rintro e w9 ⟨v9,rfl,H9⟩))
   all_goals
    go_wp2_with fail
    go_ret
    exact⟨v9,rfl,zhd ⟨by rw[hE.out];exact H9.out.1,H4.out.2.1.trans ((MK.ext H5.out.1).trans ((MK.ext (Below.refl w5.heap.size w5).drew).trans (H7.out.2.1.trans (H6.out.2.trans ((MK.ext H8.out).trans H9.out.2)))))⟩⟩
def SP (Z:Nat→Prop)(W:World)(b:Nat)(v:MV)(p:Img)(s:MS)(r:Option MS)(e:Ending)(w':World):Prop:=match r with
 |none=>MP Z W b v p (.bool false) s e w'
 |some s'=>MP Z W b v p (.bool true) s' e w'
structure Bd (s:MS):Prop where
 stk:s.stk.length≤32
 made:s.made.length≤4294967295
 let_:s.letters.length≤4294967296
 opn:opn s≤64
 at_:s.at_≤513
theorem wait18_all
  {Z:Nat→Prop}(b:Nat)(v:MV)(p:Img)(s:MS)(W:World)(M:MX TT Z W b v p s)
  (k:Nat)(nm:ByteArray)(B:Bd s)(hZ:∀j,W.heap.size≤j→Z j)
  :Calls Tryz.prog 133 #[.pointer (some ⟨b,0,none⟩),.agg #[.int .i64 18,.int .i64 k]] W (SP Z W b v p s (s.wait 18 nm)):=by
 have b1:=B.stk
 have b2:=B.made
 have b3:=B.opn
 have b4:=B.at_
 unfold opn at b3
 have e:s.wait 18 nm=match(if s.top.kind=1 then findT s.top.num s.timers.list else none)with
  |none=>some s.tGone
  |some i=>bif !(s.timers.list[i]?.getD ⟨0,false,vNil0,0⟩).over then none else some (({s.pop with timers:=⟨s.timers.list.eraseIdx i,s.timers.next⟩}:MS).push (vInt s.now)).nxt:=rfl
 rw[e]
 by_cases hx:s.top.kind=1
 ·rw[if_pos hx]
  cases hf:findT s.top.num s.timers.list with
  |none=>exact wait_gone18 b v p s W M k (.inr hf) (by omega) hZ _ rfl
  |some i=>
   obtain⟨x,hxi⟩:=findT_some hf
   dsimp only
   rw[hxi]
   dsimp only[Option.getD]
   cases hov:x.over with
   |true=>exact wait_timer b v p s W M k i x hx hf hxi hov (by omega) (by omega) (by omega) hZ _ rfl
   |false=>exact wait_stay18 b v p s W M k i x hx hf hxi hov
 ·rw[if_neg hx]
  exact wait_gone18 b v p s W M k (.inl hx) (by omega) hZ _ rfl
theorem wait21_all
  {Z:Nat→Prop}(b:Nat)(v:MV)(p:Img)(s:MS)(W:World)(M:MX TT Z W b v p s)
  (k:Nat)(nm:ByteArray)(B:Bd s)(hZ:∀j,W.heap.size≤j→Z j)
  :Calls Tryz.prog 133 #[.pointer (some ⟨b,0,none⟩),.agg #[.int .i64 21,.int .i64 k]] W (SP Z W b v p s (s.wait 21 nm)):=by
 have b1:=B.stk
 have b2:=B.made
 have b3:=B.opn
 have b4:=B.at_
 unfold opn at b3
 have e:s.wait 21 nm=match(if s.top.kind=1 then findT s.top.num s.acts.list else none)with
  |none=>some s.tGone
  |some i=>bif !(s.acts.list[i]?.getD ⟨0,false,vNil0,0⟩).over then none else some ((({s.pop with acts:=⟨s.acts.list.eraseIdx i,s.acts.next⟩}:MS).push (s.acts.list[i]?.getD ⟨0,false,vNil0,0⟩).result).push (vInt (s.acts.list[i]?.getD ⟨0,false,vNil0,0⟩).how)).nxt:=rfl
 rw[e]
 by_cases hx:s.top.kind=1
 ·rw[if_pos hx]
  cases hf:findT s.top.num s.acts.list with
  |none=>exact wait_gone21 b v p s W M k (.inr hf) (by omega) hZ _ rfl
  |some i=>
   obtain⟨x,hxi⟩:=findT_some hf
   dsimp only
   rw[hxi]
   dsimp only[Option.getD]
   cases hov:x.over with
   |true=>exact wait_act b v p s W M k i x hx hf hxi hov (by omega) (by omega) (by omega) hZ _ rfl
   |false=>exact wait_stay21 b v p s W M k i x hx hf hxi hov
 ·rw[if_neg hx]
  exact wait_gone21 b v p s W M k (.inl hx) (by omega) hZ _ rfl
theorem wait22_all
  {Z:Nat→Prop}(b:Nat)(v:MV)(p:Img)(s:MS)(W:World)(M:MX TT Z W b v p s)
  (k:Nat)(nm:ByteArray)(B:Bd s)(hZ:∀j,W.heap.size≤j→Z j)
  (hnm:p.names[k]? =some nm):
  Calls Tryz.prog 133 #[.pointer (some ⟨b,0,none⟩),.agg #[.int .i64 22,.int .i64 k]] W (SP Z W b v p s (s.wait 22 nm)):=by
 have b1:=B.stk
 have b2:=B.made
 have b4:=B.at_
 have e:s.wait 22 nm=(findLt nm s.letters).map (fun i=>((s.openL i).push (s.letV i)).nxt):=rfl
 rw[e]
 cases hf:findLt nm s.letters with
 |none=>exact wait_sig_none b v p s W M k nm hnm hf
 |some i=>exact wait_sig b v p s W M k nm hnm i hf (by omega) B.let_ (by omega) hZ _ rfl
theorem wait28_all
  {Z:Nat→Prop}(b:Nat)(v:MV)(p:Img)(s:MS)(W:World)(M:MX TT Z W b v p s)
  (k:Nat)(nm:ByteArray)(B:Bd s)(hZ:∀j,W.heap.size≤j→Z j)
  (hnm:p.names[k]? =some nm):
  Calls Tryz.prog 133 #[.pointer (some ⟨b,0,none⟩),.agg #[.int .i64 28,.int .i64 k]] W (SP Z W b v p s (s.wait 28 nm)):=by
 have b1:=B.stk
 have b2:=B.made
 have b3:=B.opn
 have b4:=B.at_
 unfold opn at b3
 have e:s.wait 28 nm=match(if s.top.kind=1 then findT s.top.num s.timers.list else none)with
  |none=>some s.tGone
  |some i=>match findLt nm s.letters with
   |some k=>some (((s.pop.openL k).push (s.letV k)).push (vBool true)).nxt
   |none=>bif !(s.timers.list[i]?.getD ⟨0,false,vNil0,0⟩).over then none else some ((({s.pop with timers:=⟨s.timers.list.eraseIdx i,s.timers.next⟩}:MS).push vNil0).push (vBool false)).nxt:=rfl
 rw[e]
 by_cases hx:s.top.kind=1
 ·rw[if_pos hx]
  cases hf:findT s.top.num s.timers.list with
  |none=>exact wait_gone28 b v p s W M k (.inr hf) (by omega) hZ _ rfl
  |some i=>
   obtain⟨x,hxi⟩:=findT_some hf
   dsimp only
   rw[hxi]
   dsimp only[Option.getD]
   cases hlt:findLt nm s.letters with
   |some j=>exact wait_letter b v p s W M k i j x nm hnm hlt hx hf hxi (by omega) B.let_ (by omega) hZ _ rfl
   |none=>
    cases hov:x.over with
    |true=>exact wait_either b v p s W M k i x hx hf hxi hov (by omega) (by omega) (by omega) hZ _ nm hnm hlt rfl
    |false=>exact wait_stay28 b v p s W M k i x nm hnm hlt hx hf hxi hov
 ·rw[if_neg hx]
  exact wait_gone28 b v p s W M k (.inl hx) (by omega) hZ _ rfl
theorem begin19_all
  {Z:Nat→Prop}(b:Nat)(v:MV)(p:Img)(s:MS)(W:World)(M:MX TT Z W b v p s)
  (k:Nat)(nm:ByteArray)(B:Bd s)(hZ:∀j,W.heap.size≤j→Z j)
  (V:Vs s):Calls Tryz.prog 141 #[.pointer (some ⟨b,0,none⟩),.agg #[.int .i64 19,.int .i64 k]] W (MP Z W b v p (.bool true) (s.begin_ 19 nm)):=by
 have b1:=B.stk
 have b2:=B.made
 have b3:=B.opn
 have hb:=V.nt
 have ha:=V.na
 unfold opn at b3
 have e:s.begin_ 19 nm=match(if s.top.kind=1 then findT s.top.num s.timers.list else none)with
  |none=>s.pop.tGone
  |some i=>(bif (s.timers.list[i]?.getD ⟨0,false,vNil0,0⟩).over then({s.pop with timers:=⟨s.timers.list.eraseIdx i,s.timers.next⟩}:MS)else({s.pop with timers:=⟨s.timers.list.eraseIdx i,s.timers.next⟩}:MS).want ⟨2,0,s.top.num,0,⟨#[]⟩,vNil0⟩).push (vBool (!(s.timers.list[i]?.getD ⟨0,false,vNil0,0⟩).over)):=rfl
 rw[e]
 by_cases hx:s.top.kind=1
 ·rw[if_pos hx]
  cases hf:findT s.top.num s.timers.list with
  |none=>exact begin_gone b v p s W M k (by omega) (by omega) hZ _ (.inr hf) rfl
  |some i=>
   obtain⟨x,hxi⟩:=findT_some hf
   dsimp only
   rw[hxi]
   dsimp only[Option.getD]
   cases hov:x.over with
   |true=>exact begin_cancel_over b v p s W M k (by omega) (by omega) hZ _ i x hx hf hxi hov (by omega) rfl
   |false=>exact begin_cancel b v p s W M k (by omega) (by omega) hZ _ i x hx hf hxi hov (by omega) rfl
 ·rw[if_neg hx]
  exact begin_gone b v p s W M k (by omega) (by omega) hZ _ (.inl hx) rfl
theorem begin17_all
  {Z:Nat→Prop}(b:Nat)(v:MV)(p:Img)(s:MS)(W:World)(M:MX TT Z W b v p s)
  (k:Nat)(nm:ByteArray)(B:Bd s)(hZ:∀j,W.heap.size≤j→Z j)
  (V:Vs s):Calls Tryz.prog 141 #[.pointer (some ⟨b,0,none⟩),.agg #[.int .i64 17,.int .i64 k]] W (MP Z W b v p (.bool true) (s.begin_ 17 nm)):=by
 have b1:=B.stk
 have b2:=B.made
 have b3:=B.opn
 have hb:=V.nt
 have ha:=V.na
 unfold opn at b3
 have e:s.begin_ 17 nm=if s.top.kind≠1∨s.top.num<0∨((17:Int)=20∧1073741824<s.top.num)then s.pop.tRange else
  if 64≤s.timers.list.length+s.acts.list.length then s.pop.tMany else
  (({s.pop with timers:=beginT s.timers}:MS).want ⟨1,0,s.timers.next+1,s.top.num,⟨#[]⟩,vNil0⟩).push (vInt (s.timers.next+1)):=rfl
 rw[e]
 have hn:=((Val.wf_eq _).1 V.top.2).2.1
 by_cases hx:s.top.kind≠1∨s.top.num<0∨((17:Int)=20∧1073741824<s.top.num)
 ·rw[if_pos hx]
  exact begin_range17 b v p s W M k (by omega) (by omega) hZ _ (by omega) rfl
 ·rw[if_neg hx]
  by_cases hm:64≤s.timers.list.length+s.acts.list.length
  ·rw[if_pos hm]
   exact begin_many17 b v p s W M k (by omega) (by omega) hZ _ (by omega) (by omega) (by omega) hm rfl
  ·rw[if_neg hm]
   exact begin_timer b v p s W M k (by omega) (by omega) hZ _ (by omega) (by omega) (by omega) hm (by omega) rfl
theorem begin20_all
  {Z:Nat→Prop}(b:Nat)(v:MV)(p:Img)(s:MS)(W:World)(M:MX TT Z W b v p s)
  (k:Nat)(nm:ByteArray)(B:Bd s)(hZ:∀j,W.heap.size≤j→Z j)
  (hnm:p.names[k]? =some nm)(V:Vs s):Calls Tryz.prog 141 #[.pointer (some ⟨b,0,none⟩),.agg #[.int .i64 20,.int .i64 k]] W (MP Z W b v p (.bool true) (s.begin_ 20 nm)):=by
 have b1:=B.stk
 have b2:=B.made
 have b3:=B.opn
 have hb:=V.nt
 have ha:=V.na
 unfold opn at b3
 have e:s.begin_ 20 nm=if s.top.kind≠1∨s.top.num<0∨((20:Int)=20∧1073741824<s.top.num)then s.pop.tRange else
  if 64≤s.timers.list.length+s.acts.list.length then s.pop.tMany else
  (({s.pop.pop with acts:=beginT s.acts}:MS).want ⟨3,0,s.acts.next+1,s.top.num,nm,s.pop.top⟩).push (vInt (s.acts.next+1)):=rfl
 rw[e]
 have hsz:=ok_sz V.pop.top
 by_cases hx:s.top.kind≠1∨s.top.num<0∨((20:Int)=20∧1073741824<s.top.num)
 ·rw[if_pos hx]
  exact begin_range20 b v p s W M k (by omega) (by omega) hZ _ (by omega) rfl
 ·rw[if_neg hx]
  by_cases hm:64≤s.timers.list.length+s.acts.list.length
  ·rw[if_pos hm]
   exact begin_many20 b v p s W M k (by omega) (by omega) hZ _ (by omega) (by omega) (by omega) hm rfl
  ·rw[if_neg hm]
   exact begin_call b v p s W M k (by omega) (by omega) hZ _ nm hnm (by omega) (by omega) (by omega) hm (by omega) (by omega) rfl
theorem reckon5_all
  {Z:Nat→Prop}(b:Nat)(v:MV)(p:Img)(s:MS)(W:World)(M:MX TT Z W b v p s)
  (k:Nat)(B:Bd s)(hZ:∀j,W.heap.size≤j→Z j):Calls Tryz.prog 142 #[.pointer (some ⟨b,0,none⟩),.agg #[.int .i64 5,.int .i64 k]] W (MP Z W b v p (.bool true) (s.reckon 5 k)):=by
 have b1:=B.stk
 have b2:=B.made
 have e:s.reckon 5 k=if s.pop.top.kind≠1∨s.top.kind≠1 then s.pop.pop.tType else s.pop.pop.push (vInt (wrap64 (s.pop.top.num+s.top.num))):=rfl
 rw[e]
 by_cases hx:s.pop.top.kind≠1∨s.top.kind≠1
 ·rw[if_pos hx]
  exact reckon_ar5f b v p s W M k (by omega) (by omega) hZ _ hx rfl
 ·rw[if_neg hx]
  exact reckon_ar5 b v p s W M k (by omega) (by omega) hZ _ (by omega) (by omega) rfl
theorem reckon6_all
  {Z:Nat→Prop}(b:Nat)(v:MV)(p:Img)(s:MS)(W:World)(M:MX TT Z W b v p s)
  (k:Nat)(B:Bd s)(hZ:∀j,W.heap.size≤j→Z j):Calls Tryz.prog 142 #[.pointer (some ⟨b,0,none⟩),.agg #[.int .i64 6,.int .i64 k]] W (MP Z W b v p (.bool true) (s.reckon 6 k)):=by
 have b1:=B.stk
 have b2:=B.made
 have e:s.reckon 6 k=if s.pop.top.kind≠1∨s.top.kind≠1 then s.pop.pop.tType else s.pop.pop.push (vInt (wrap64 (s.pop.top.num - s.top.num))):=rfl
 rw[e]
 by_cases hx:s.pop.top.kind≠1∨s.top.kind≠1
 ·rw[if_pos hx]
  exact reckon_ar6f b v p s W M k (by omega) (by omega) hZ _ hx rfl
 ·rw[if_neg hx]
  exact reckon_ar6 b v p s W M k (by omega) (by omega) hZ _ (by omega) (by omega) rfl
theorem reckon7_all
  {Z:Nat→Prop}(b:Nat)(v:MV)(p:Img)(s:MS)(W:World)(M:MX TT Z W b v p s)
  (k:Nat)(B:Bd s)(hZ:∀j,W.heap.size≤j→Z j):Calls Tryz.prog 142 #[.pointer (some ⟨b,0,none⟩),.agg #[.int .i64 7,.int .i64 k]] W (MP Z W b v p (.bool true) (s.reckon 7 k)):=by
 have b1:=B.stk
 have b2:=B.made
 have e:s.reckon 7 k=if s.pop.top.kind≠1∨s.top.kind≠1 then s.pop.pop.tType else s.pop.pop.push (vInt (wrap64 (s.pop.top.num*s.top.num))):=rfl
 rw[e]
 by_cases hx:s.pop.top.kind≠1∨s.top.kind≠1
 ·rw[if_pos hx]
  exact reckon_ar7f b v p s W M k (by omega) (by omega) hZ _ hx rfl
 ·rw[if_neg hx]
  exact reckon_ar7 b v p s W M k (by omega) (by omega) hZ _ (by omega) (by omega) rfl
theorem reckon10_all
  {Z:Nat→Prop}(b:Nat)(v:MV)(p:Img)(s:MS)(W:World)(M:MX TT Z W b v p s)
  (k:Nat)(B:Bd s)(hZ:∀j,W.heap.size≤j→Z j):Calls Tryz.prog 142 #[.pointer (some ⟨b,0,none⟩),.agg #[.int .i64 10,.int .i64 k]] W (MP Z W b v p (.bool true) (s.reckon 10 k)):=by
 have b1:=B.stk
 have b2:=B.made
 exact reckon_not b v p s W M k (by omega) (by omega) hZ _ rfl
theorem reckon8_all
  {Z:Nat→Prop}(b:Nat)(v:MV)(p:Img)(s:MS)(W:World)(M:MX TT Z W b v p s)
  (k:Nat)(B:Bd s)(hZ:∀j,W.heap.size≤j→Z j):Calls Tryz.prog 142 #[.pointer (some ⟨b,0,none⟩),.agg #[.int .i64 8,.int .i64 k]] W (MP Z W b v p (.bool true) (s.reckon 8 k)):=by
 have b1:=B.stk
 have b2:=B.made
 exact reckon_same b v p s W M k (by omega) (by omega) hZ _ rfl
theorem reckon9_all
  {Z:Nat→Prop}(b:Nat)(v:MV)(p:Img)(s:MS)(W:World)(M:MX TT Z W b v p s)
  (k:Nat)(B:Bd s)(hZ:∀j,W.heap.size≤j→Z j):Calls Tryz.prog 142 #[.pointer (some ⟨b,0,none⟩),.agg #[.int .i64 9,.int .i64 k]] W (MP Z W b v p (.bool true) (s.reckon 9 k)):=by
 have b1:=B.stk
 have b2:=B.made
 exact reckon_less b v p s W M k (by omega) (by omega) hZ _ rfl
theorem reckon31_all
  {Z:Nat→Prop}(b:Nat)(v:MV)(p:Img)(s:MS)(W:World)(M:MX TT Z W b v p s)
  (k:Nat)(B:Bd s)(hZ:∀j,W.heap.size≤j→Z j):Calls Tryz.prog 142 #[.pointer (some ⟨b,0,none⟩),.agg #[.int .i64 31,.int .i64 k]] W (MP Z W b v p (.bool true) (s.reckon 31 k)):=by
 have b1:=B.stk
 have b2:=B.made
 have e:s.reckon 31 k=if s.top.kind=3 then s.pop.push (vInt s.top.list.length)else if s.top.kind=2 then s.pop.push (vInt s.top.txt.size)else s.pop.tType:=rfl
 rw[e]
 by_cases h3:s.top.kind=3
 ·rw[if_pos h3]
  exact reckon_size_list b v p s W M k (by omega) (by omega) hZ _ h3 rfl
 ·rw[if_neg h3]
  by_cases h2:s.top.kind=2
  ·rw[if_pos h2]
   exact reckon_size_text b v p s W M k (by omega) (by omega) hZ _ h2 rfl
  ·rw[if_neg h2]
   exact reckon_size_fall b v p s W M k (by omega) (by omega) hZ _ h3 h2 rfl
theorem reckon30_all
  {Z:Nat→Prop}(b:Nat)(v:MV)(p:Img)(s:MS)(W:World)(M:MX TT Z W b v p s)
  (k:Nat)(B:Bd s)(hZ:∀j,W.heap.size≤j→Z j)(V:Vs s):Calls Tryz.prog 142 #[.pointer (some ⟨b,0,none⟩),.agg #[.int .i64 30,.int .i64 k]] W (MP Z W b v p (.bool true) (s.reckon 30 k)):=by
 have b1:=B.stk
 have b2:=B.made
 have e:s.reckon 30 k=if s.pop.top.kind≠3∨s.top.kind≠1 then s.pop.pop.tType else s.pop.pop.push (cloneV (if 0≤s.top.num∧s.top.num<s.pop.top.list.length then s.pop.top.list[s.top.num.toNat]?.getD vNil0 else vNil0)):=rfl
 rw[e]
 by_cases hx:s.pop.top.kind≠3∨s.top.kind≠1
 ·rw[if_pos hx]
  exact reckon_item_fall b v p s W M k (by omega) (by omega) hZ _ hx rfl
 ·rw[if_neg hx]
  have h3:s.pop.top.kind=3:=by omega
  by_cases hr:0≤s.top.num∧s.top.num<s.pop.top.list.length
  ·rw[if_pos hr]
   obtain⟨i,hi⟩:∃i:Nat,s.top.num=i:=⟨s.top.num.toNat,by omega⟩
   obtain⟨y,hy⟩:=elem_at (l:=s.pop.top.list) (k:=i) (by omega)
   rw[hi,Int.toNat_natCast,hy]
   have:=ok_sz (ok_elem V.pop.top h3 (zmg hy))
   exact reckon_item_in b v p s W M k (by omega) (by omega) hZ _ h3 (by omega) i y hi hy (by omega) rfl
  ·rw[if_neg hr]
   exact reckon_item_out b v p s W M k (by omega) (by omega) hZ _ h3 (by omega) hr rfl
theorem reckon32_all
  {Z:Nat→Prop}(b:Nat)(v:MV)(p:Img)(s:MS)(W:World)(M:MX TT Z W b v p s)
  (k:Nat)(B:Bd s)(hZ:∀j,W.heap.size≤j→Z j)(V:Vs s):Calls Tryz.prog 142 #[.pointer (some ⟨b,0,none⟩),.agg #[.int .i64 32,.int .i64 k]] W (MP Z W b v p (.bool true) (s.reckon 32 k)):=by
 have b1:=B.stk
 have b2:=B.made
 have e:s.reckon 32 k=if s.pop.top.kind=2∧s.top.kind=2 then s.pop.pop.put (vText (s.pop.top.txt++s.top.txt))else if s.pop.top.kind=3∧s.top.kind=3 then s.pop.pop.put (cloneV (.mk 3 0 ⟨#[]⟩ (s.pop.top.list++s.top.list)))else s.pop.pop.tType:=rfl
 rw[e]
 by_cases h2:s.pop.top.kind=2∧s.top.kind=2
 ·rw[if_pos h2]
  have t1:=ok_txt V.pop.top h2.1
  have t2:=ok_txt V.top h2.2
  refine reckon_cat_text b v p s W M k (by omega) (by omega) hZ _ h2.1 h2.2 (by omega) (by omega) ?_ rfl
  rw[vText,Val.wf,Val.wf.wfL]
  exact⟨⟨by decide,by decide⟩,⟨by decide,by decide⟩,by rw[ByteArray.size_append];omega,trivial⟩
 ·rw[if_neg h2]
  by_cases h3:s.pop.top.kind=3∧s.top.kind=3
  ·rw[if_pos h3]
   have t1:=ok_szL V.pop.top h3.1
   have t2:=ok_szL V.top h3.2
   refine reckon_cat_list b v p s W M k (by omega) (by omega) hZ _ h3.1 h3.2 ?_ ?_ rfl
   ·rw[szV_eq]
    show szV.szL (s.pop.top.list++s.top.list)+30≤_
    rw[szL_append]
    omega
   ·refine clone_wf _ (wf_list fun x hx=> ?_)
    rcases List.mem_append.1 hx with hx|hx
    ·exact Val.wfL_mem ((Val.wf_eq _).1 V.pop.top.2).2.2.2 hx
    ·exact Val.wfL_mem ((Val.wf_eq _).1 V.top.2).2.2.2 hx
  ·rw[if_neg h3]
   exact reckon_cat_fall b v p s W M k (by omega) (by omega) hZ _ h2 h3 rfl
theorem reckon29_all
  {Z:Nat→Prop}(b:Nat)(v:MV)(p:Img)(s:MS)(W:World)(M:MX TT Z W b v p s)
  (k:Nat)(B:Bd s)(hZ:∀j,W.heap.size≤j→Z j)(hks:k≤s.stk.length)(V:Vs s):Calls Tryz.prog 142 #[.pointer (some ⟨b,0,none⟩),.agg #[.int .i64 29,.int .i64 k]] W (MP Z W b v p (.bool true) (s.reckon 29 k)):=by
 have b1:=B.stk
 have b2:=B.made
 exact reckon_pack b v p s W M k hks (by omega) (by omega) hZ _ (wf_list fun x hx=>(V.stk x (List.mem_of_mem_drop hx)).2) rfl
end Go.Proofs.YtakljipkaoahnaaGreatDoor
