/- Parts of the proof: what the functions and the plain laws give that later parts lean on. Conditions: none beyond those that each theorem names. -/
import Derived.Test.YtpagmlndgblhhaaGreatDoorR12
import Derived.Test.YtpagmlndgblhhaaGreatDoorR19
set_option maxRecDepth 100000
set_option maxHeartbeats 8000000
namespace Go.Proofs.YtpagmlndgblhhaaGreatDoor
open Go.RowKit Go.Own Go.Own.MapTy Go.Va Go.Sort
open Go.Own.Cells (sz enc)
def MPS (Z:Nat→Prop)(W:World)(b:Nat)(v:MV)(p:Img)(x:Val)(s':MS)(e:Ending)(w':World):Prop:=∃(ss:Value) (c:VC),e= .returned (.agg #[.int .i64 c.kind,.int .i64 c.n,.string c.s,.slice c.la c.ln c.lc])∧Hid (MX TT Z w' b {v with ss:=ss} p s'∧MK b v W {v with ss:=ss} w'∧CF (MZ Z {v with ss:=ss} b) w' c x)
theorem yil
  {Z:Nat→Prop}(b:Nat)(v:MV)(p:Img)(s:MS)(W:World)(M:MX TT Z W b v p s)
  :Calls Tryz.prog 159 #[.pointer (some ⟨b,0,none⟩)] W (MPS Z W b v p s.top s.pop):=by
 obtain⟨ss,ic,ps,inp,ts,as_,ls,ms⟩:=v;obtain⟨a,cap,rfl⟩:∃a cap,ss= .slice a s.stk.length cap:=M.stk.slice;obtain⟨ks,hR,hP⟩:=M.stk.cells;have b1:=zlt M.h;have c1:W.cell? ⟨b,0,none⟩=some (.slice a s.stk.length cap):=M.cell (k:=0) rfl;have f0:∀o,W.frozen? ⟨b,o,none⟩=false:=fun o=>M.frozen o;have HX:=zh3 M hR hP;by_cases h0:s.stk.length=0
 ·have hs:s.stk=[]:=List.length_eq_zero_iff.1 h0
  have ht:s.top=yai:=by unfold MS.top;rw[hs];rfl
  have hp:s.pop=s:=by unfold MS.pop;rw[hs];simp only[List.dropLast_nil];rw[←hs]
  have HT:=zh2 ht hp;have h0':((s.stk.length:Int)==0)=true:=by rw[beq_iff_eq];omega
  clear hs ht hp hR hP M h0;go_enter Tryz.func159,Tryz.ntmps159;go_wp2_with fail;exact zng (v:=.agg #[.int .i64 0,.int .i64 0,.string ⟨#[]⟩,.slice none 0 0]) (by simp only[results,Tryz.results159];go_simp) rfl ⟨.slice a s.stk.length cap,⟨0,0,⟨#[]⟩,none,0,0⟩,rfl,zhd (by
   have B:Below W.heap.size W _:=(znv W.heap.size W).alloc (znc _) (.cells #[.int .i64 0,.int .i64 0,.string ⟨#[]⟩,.slice none 0 0] 38);rw[HT.o.1,HT.o.2];exact⟨HX.o.1.ext B,MK.ext B,yaD _ _⟩)⟩
 ·obtain⟨n,hn⟩:∃n,s.stk.length=n+1:=⟨s.stk.length - 1,by omega⟩
  obtain⟨x,hx⟩:=yad (l:=s.stk) (k:=n) (by omega);obtain⟨⟨ck,cn,cs,la,ln,lc⟩,hc,hC⟩:=hP.get hx;obtain⟨g,off,rfl,hg⟩:=hR.addr hc;have cc:=fun(j:Nat) (hj:j<4)=>hR.cell hc (j:=j) hj;have m0:W.cell? ⟨g,off+n*4,none⟩=some (.int .i64 ck):=cc 0 (by decide);have m1:W.cell? ⟨g,off+n*4+1,none⟩=some (.int .i64 cn):=by rw[zmm];exact cc 1 (by decide)
  have m2:W.cell? ⟨g,off+n*4+2,none⟩=some (.string cs):=by rw[zmm];exact cc 2 (by decide)
  have m3:W.cell? ⟨g,off+n*4+3,none⟩=some (.slice la ln lc):=by rw[zmm];exact cc 3 (by decide)
  have ht:s.top=x:=by
   unfold MS.top;rw[List.getLast?_eq_getElem?,show s.stk.length - 1=n from by omega,hx];rfl
  have HT:=zh3 ht hC hn;have nb:¬g=b:=fun e=>absurd (HX.o.1.sep 1 0 g rfl (by rw[e];rfl)) (by decide);rw[hn]at c1;have h0':(((n+1:Nat):Int)==0)=false:=by rw[zna];omega
  have hn63:(n:Int)<9223372036854775807:=by
   have hl:=hR.length_le;have:=hP.1;unfold maxLen at hl;omega
  have hw3:wrap64 (n:Int)=(n:Int):=by unfold wrap64;omega
  clear hn63;obtain⟨hsl,_⟩:=yj6 yfc (hn▸hR) (k:=n) (by have:=hP.1;omega);clear hC ht hc hx cc hR hP M hn;go_enter Tryz.func159,Tryz.ntmps159;go_wp2_with fail;exact zng (v:=.agg #[.int .i64 ck,.int .i64 cn,.string cs,.slice la ln lc]) (by simp only[results,Tryz.results159];go_simp) rfl ⟨.slice (some ⟨g,off,none⟩) n n,⟨ck,cn,cs,la,ln,lc⟩,rfl,zhd (by
   have hR:=HX.o.2.1;rw[HT.o.2.2]at hR;rw[HT.o.1];exact yjm (n:=n+1) (x:=x) (wx:=W) HX.o.1 (by rw[HT.o.2.2]) HT.o.2.2 hR HX.o.2.2 HT.o.2.1 (znv _ _) ((((Keeps.refl (fun j=>W.heap.size≤j) _).alloc _).alloc _)))⟩
theorem MX.box {T:MT}{Z:Nat→Prop}{W:World}{b X o:Nat}{u:Value}{v:MV}{p:Img}{s:MS}(M:MX T Z W b v p s)(h1:¬MO v b X)(h2:¬Z X):MX T Z (W.setCell ⟨X,o,none⟩ u) b v p s:=
 M.far (S:=fun j=>j=X) (Keeps.setCell (S:=fun j=>j=X) (p:=⟨X,o,none⟩) (Keeps.refl _ _) (.inl rfl) _) (fun _ e=>e▸h1) (fun _ e=>e▸h2)
theorem MX.allo {T:MT}{Z:Nat→Prop}{W:World}{b:Nat}{v:MV}{p:Img}{s:MS}(M:MX T Z W b v p s)(o:Obj):MX T Z (W.alloc o) b v p s:=M.ext (zal)
theorem MK.box {b X o:Nat}{u:Value}{v v':MV}{W w1:World}(K:MK b v W v' w1)(h:W.heap.size≤X):MK b v W v' (w1.setCell ⟨X,o,none⟩ u):=K.late (Keeps.setCell (S:=fun j=>W.heap.size≤j) (p:=⟨X,o,none⟩) (Keeps.refl _ _) (.inl h) _)
theorem MK.allo {b:Nat}{v v':MV}{W w1:World}(K:MK b v W v' w1)(o:Obj):MK b v W v' (w1.alloc o):=K.late ((Keeps.refl _ _).alloc _)
theorem MK.drw {b:Nat}{v v':MV}{W w1:World}(K:MK b v W v' w1):MK b v W v' w1.drew:=K.late ((zkb (S:=fun _=>False) (znv _ _).drew).mono (fun _ _ f=>f.elim))
theorem ylL {F:Nat→Prop}{w:World}{X o:Nat}{u:Value}{c:VC}{x:Val}(C:CF F w c x)(h:¬F X):CF F (w.setCell ⟨X,o,none⟩ u) c x:=C.keep (Keeps.setCell (S:=fun j=>j=X) (p:=⟨X,o,none⟩) (Keeps.refl _ _) (.inl rfl) _) (fun _ hg e=>h (e▸hg))
theorem ygS {F:Nat→Prop}{w:World}{c:VC}{x:Val}(C:CF F w c x)(o:Obj):CF F (w.alloc o) c x:=C.keep (S:=fun _=>False) ((Keeps.refl _ _).alloc _) (fun _ _ f=>f)
theorem yho
  {Z:Nat→Prop}(b:Nat)(v:MV)(p:Img)(s:MS)(W:World)(M:MX TT Z W b v p s)
  :Calls Tryz.prog 159 #[.pointer (some ⟨b,0,none⟩)] W (fun e w'=>∃(v':MV) (ck cn:Int) (cs:ByteArray) (la:Option Addr) (ln lc:Nat),e= .returned (.agg #[.int .i64 ck,.int .i64 cn,.string cs,.slice la ln lc])∧Hid (MX TT Z w' b v' p s.pop∧MK b v W v' w'∧CF (MZ Z v' b) w' ⟨ck,cn,cs,la,ln,lc⟩ s.top)∧
   (∀X,X<W.heap.size→¬MO v b X→∀o,w'.cell? ⟨X,o,none⟩=W.cell? ⟨X,o,none⟩)∧(∀X,X<W.heap.size→¬MO v b X→∀o,w'.frozen? ⟨X,o,none⟩=W.frozen? ⟨X,o,none⟩)∧(∀X,X<W.heap.size→X<w'.heap.size)):=
 (yag b v p s W M).mono fun _ _ ⟨v',⟨ck,cn,cs,la,ln,lc⟩,he,H⟩=>⟨v',ck,cn,cs,la,ln,lc,he,H,fun X h1 h2 o=>H.o.2.1.keeps.cell (p:=⟨X,o,none⟩) h1 h2,fun X h1 h2 o=>H.o.2.1.keeps.frozen (p:=⟨X,o,none⟩) h1 h2,fun _ h=>znj h H.o.2.1.keeps.size⟩
def you (Z:Nat→Prop)(b:Nat)(v:MV)(p:Img)(s:MS)(w4:World)(v6 v7:Value)(wx:World):Prop:=
 ∃(B6 B7:Nat) (vv:MV) (c d:VC),v6= .pointer (some ⟨B6,0,none⟩)∧v7= .pointer (some ⟨B7,0,none⟩)∧Hid ((wx.cell? ⟨B6,0,none⟩=some (.int .i64 c.kind)∧wx.cell? ⟨B6,1,none⟩=some (.int .i64 c.n)∧wx.cell? ⟨B6,2,none⟩=some (.string c.s)∧wx.cell? ⟨B6,3,none⟩=some (.slice c.la c.ln c.lc)∧B6<wx.heap.size)∧
  (wx.cell? ⟨B7,0,none⟩=some (.int .i64 d.kind)∧wx.cell? ⟨B7,1,none⟩=some (.int .i64 d.n)∧wx.cell? ⟨B7,2,none⟩=some (.string d.s)∧wx.cell? ⟨B7,3,none⟩=some (.slice d.la d.ln d.lc)∧B7<wx.heap.size)∧
  ¬MO vv b B7∧MX TT Z wx b vv p s.pop.pop∧MK b v w4 vv wx∧CF (MZ Z vv b) wx c s.top∧CF (MZ Z vv b) wx d s.pop.top)
theorem yi6
  {Z:Nat→Prop}(b:Nat)(v:MV)(p:Img)(s:MS)(W:World)(M:MX TT Z W b v p s)
  (op a:Int)(hop:op=4)(hc:p.code[s.at_]? =some ⟨op,a⟩)(nm:ByteArray)(od ii oo:Int)(hof:ofL op=(⟨nm,od,ii,oo,false,false,false⟩,true))(hat:s.at_≤4294967296)(hk:s.stk.length≤4294967296)(s':MS)
  (hs':s'=(s.nxt.pop.pop.push s.nxt.top).push s.nxt.pop.top)(h2:2≤s.stk.length):
  Calls Tryz.prog 139 #[.pointer (some ⟨b,0,none⟩)] W (MP Z W b v p (.bool true) s')
  :=by
 have hl1:s.nxt.pop.pop.stk.length≤4294967296:=by
  show(s.stk.dropLast).dropLast.length≤_;simp;omega
 have hl2:(s.nxt.pop.pop.push s.nxt.top).stk.length≤4294967296:=by
  show((s.stk.dropLast).dropLast++[_]).length≤_;rw[znk,zmh,zmi,zmi];omega
 have HOP:=zhd hop;have hE:=zhd hs';clear hop hs';have atw:wrap64 ((s.at_:Int)+1)=(s.at_:Int)+1:=by unfold wrap64;omega
 have OF:=zhd (ya0 op _ _ hof);clear hof;obtain⟨g,off,hca,_,gl,_,m0,m1⟩:=M.img.code_at (znv _ _) hc;have hcn:=M.img.lens.1;have c1:W.cell? ⟨b,1,none⟩=some (.slice v.ic.ca v.ic.cn v.ic.cc):=M.cell (k:=1) rfl;rw[hca,hcn]at c1;have c6:W.cell? ⟨b,6,none⟩=some (.int .i64 (s.at_:Int)):=M.cell (k:=6) rfl;have b0:=zlt M.h;have hix:(s.at_:Int)<(p.code.length:Int):=by have:=(zge hc).1;omega
 have HX:=zhd M;clear M hca hcn hc;go_enter Tryz.func139,Tryz.ntmps139;go_upto_region 1 with(fail);go_region
 all_goals
  go_upto_region 2 with(fail);refine yaa ?_;intro w1 hw1;have B1:Below W.heap.size W w1:=by rw[hw1];exact(zal).drew
  have hb1:w1.heap[W.heap.size]? =some (.cells #[.int .i64 op,.int .i64 a] 106 (0,0)):=by rw[hw1];exact znb _ _
  have e0:=zca hb1 0 rfl;have el:=zlt hb1;have H1:=zh2 B1 hb1;clear hw1 B1 hb1;go_wp2_with fail;refine(OF.o _).mono ?_;rintro e w2 ⟨rfl,hB2⟩;have hb2:=(hB2.block W.heap.size el).trans H1.o.2;have H2:=zh2 (H1.o.1.trans (hB2.mono H1.o.1.size)) hb2;clear hB2 hb2 e0 el;go_upto_region 3 with(fail);refine yaa ?_;intro w3 hw3;have B3:Below W.heap.size W w3:=by rw[hw3];exact H2.o.1.alloc H2.o.1.size _
  have hi3:=zha hw3;have hb3:w3.heap[W.heap.size]? =some (.cells #[.int .i64 op,.int .i64 a] 106 (0,0)):=by rw[hw3];exact(zne _ _ _ (zlt H2.o.2)).trans H2.o.2
  have f4:=zca hi3 4 rfl;have f5:=zca hi3 5 rfl;have f6:=zca hi3 6 rfl;have e0:=zca hb3 0 rfl;have e1:=zca hb3 1 rfl;have il:=zlt hi3;have el:=zlt hb3;have M3:=HX.o.ext B3;have H3:=zh3 B3 M3 hb3;clear hw3 B3 hi3 hb3 M3;have c6:w3.cell? ⟨b,6,none⟩=some (.int .i64 (s.at_:Int)):=H3.o.2.1.cell (k:=6) rfl;have f0:∀o,w3.frozen? ⟨b,o,none⟩=false:=fun o=>H3.o.2.1.frozen o;have b3:=zlt H3.o.2.1.h;go_upto_region 14 with(fail);refine yaa ?_;intro w4 hw4;have S4:=H3.o.2.1.scalar 6 (.int .i64 ((s.at_:Int)+1)) s.nxt rfl rfl rfl rfl rfl rfl rfl rfl;rw[←hw4]at S4;have hb4:w4.heap[W.heap.size]? =some (.cells #[.int .i64 op,.int .i64 a] 106 (0,0)):=by
   rw[hw4,znn _ _ _ _ (fun e=>by have e:W.heap.size=b:=e;omega)];exact H3.o.2.2
  have g0:=zca hb4 0 rfl;have g1:=zca hb4 1 rfl;have gl:=zlt hb4;have H4:=zh3 S4.1 ((MK.ext H3.o.1).trans S4.2) hb4;have b4:=zlt S4.1.h;have hlen:s.nxt.stk.length≤4294967296:=hk;clear S4 hw4 hb4 f4 f5 f6 e0 e1 c6 f0 b3 il el c1 m0 m1 hix;have hop:=HOP.o;subst hop;obtain⟨Zc,hZc⟩:∃Zc:Nat→Prop,Zc=fun j=>Z j∧j<w4.heap.size:=⟨_,rfl⟩;have M4:MX TT Zc w4 b v p s.nxt:=by rw[hZc];exact H4.o.1.cut
  have hzc:∀X,w4.heap.size≤X→¬Zc X:=fun X h e=>by rw[hZc]at e;have:=e.2;omega
  have HM:=zh3 M4 hZc hzc;have no4:∀X,w4.heap.size≤X→¬MO v b X:=fun X h e=>by have:=M4.lt e;omega
  clear M4 hzc hZc;go_upto_region 23 with(fail);go_cut [6,7] (fun v6 v7 wx=>you Zc b v p s.nxt w4 v6 v7 wx)
  case first=>
   go_region_law (first
    |(go_simp;go_at_call 159;refine(yho (Z:=Zc) b v5 p s.nxt.pop _ ?_).mono ?_;(repeat(first|exact H5.o.1|refine MX.allo ?_ _|refine MX.box ?_ (by first|exact no5 _ (by omega)|exact x0|exact x1) (HM.o.2.2 _ (by omega))));rintro e w6 ⟨v6,dk,dn,ds,ma,mn,mc,rfl,H6,hc6,hf6,hl6⟩;(try(refine have k0:w4.heap.size<w6.heap.size:= ?_; ?_;(focus (refine hl6 _ ?_;(first|assumption|(simp;done)|(simp;omega))))));(try(refine have p0:=hc6 w4.heap.size ?_ ?_; ?_;(focus (first|assumption|(simp;done)|(simp;omega)));(focus (exact x0))));(try(refine have q0:=hf6 w4.heap.size ?_ ?_; ?_;(focus (first|assumption|(simp;done)|(simp;omega)));(focus (exact x0))));(try(refine have f0:¬MO v6 b w4.heap.size:= ?_; ?_;(focus (intro e;rcases H6.o.2.1.own _ e with h|h;(focus (exact x0 h));(focus (first|omega|(simp at h;done)|(simp at h;omega)))))));(try(refine have e0:¬w4.heap.size=w6.heap.size:= ?_; ?_;(focus (omega))));(try(refine have e0r:¬w6.heap.size=w4.heap.size:= ?_; ?_;(focus (omega))));(try(refine have e0s:¬w4.heap.size=w6.heap.size+1:= ?_; ?_;(focus (omega))));(try(refine have e0t:¬w6.heap.size+1=w4.heap.size:= ?_; ?_;(focus (omega))));(try(refine have k1:(w4.heap.size+1)<w6.heap.size:= ?_; ?_;(focus (refine hl6 _ ?_;(first|assumption|(simp;done)|(simp;omega))))));(try(refine have p1:=hc6 (w4.heap.size+1) ?_ ?_; ?_;(focus (first|assumption|(simp;done)|(simp;omega)));(focus (exact x1))));(try(refine have q1:=hf6 (w4.heap.size+1) ?_ ?_; ?_;(focus (first|assumption|(simp;done)|(simp;omega)));(focus (exact x1))));(try(refine have f1:¬MO v6 b (w4.heap.size+1):= ?_; ?_;(focus (intro e;rcases H6.o.2.1.own _ e with h|h;(focus (exact x1 h));(focus (first|omega|(simp at h;done)|(simp at h;omega)))))));(try(refine have e1:¬(w4.heap.size+1)=w6.heap.size:= ?_; ?_;(focus (omega))));(try(refine have e1r:¬w6.heap.size=(w4.heap.size+1):= ?_; ?_;(focus (omega))));(try(refine have e1s:¬(w4.heap.size+1)=w6.heap.size+1:= ?_; ?_;(focus (omega))));(try(refine have e1t:¬w6.heap.size+1=(w4.heap.size+1):= ?_; ?_;(focus (omega))));(try(refine have k2:w5.heap.size<w6.heap.size:= ?_; ?_;(focus (refine hl6 _ ?_;(first|assumption|(simp;done)|(simp;omega))))));(try(refine have p2:=hc6 w5.heap.size ?_ ?_; ?_;(focus (first|assumption|(simp;done)|(simp;omega)));(focus (exact(no5 _ (znc _))))));(try(refine have q2:=hf6 w5.heap.size ?_ ?_; ?_;(focus (first|assumption|(simp;done)|(simp;omega)));(focus (exact(no5 _ (znc _))))));(try(refine have f2:¬MO v6 b w5.heap.size:= ?_; ?_;(focus (intro e;rcases H6.o.2.1.own _ e with h|h;(focus (exact(no5 _ (znc _)) h));(focus (first|omega|(simp at h;done)|(simp at h;omega)))))));(try(refine have e2:¬w5.heap.size=w6.heap.size:= ?_; ?_;(focus (omega))));(try(refine have e2r:¬w6.heap.size=w5.heap.size:= ?_; ?_;(focus (omega))));(try(refine have e2s:¬w5.heap.size=w6.heap.size+1:= ?_; ?_;(focus (omega))));(try(refine have e2t:¬w6.heap.size+1=w5.heap.size:= ?_; ?_;(focus (omega))));(try(refine have k3:(w5.heap.size+1)<w6.heap.size:= ?_; ?_;(focus (refine hl6 _ ?_;(first|assumption|(simp;done)|(simp;omega))))));(try(refine have p3:=hc6 (w5.heap.size+1) ?_ ?_; ?_;(focus (first|assumption|(simp;done)|(simp;omega)));(focus (exact(no5 _ (Nat.le_succ _))))));(try(refine have q3:=hf6 (w5.heap.size+1) ?_ ?_; ?_;(focus (first|assumption|(simp;done)|(simp;omega)));(focus (exact(no5 _ (Nat.le_succ _))))));(try(refine have f3:¬MO v6 b (w5.heap.size+1):= ?_; ?_;(focus (intro e;rcases H6.o.2.1.own _ e with h|h;(focus (exact(no5 _ (Nat.le_succ _)) h));(focus (first|omega|(simp at h;done)|(simp at h;omega)))))));(try(refine have e3:¬(w5.heap.size+1)=w6.heap.size:= ?_; ?_;(focus (omega))));(try(refine have e3r:¬w6.heap.size=(w5.heap.size+1):= ?_; ?_;(focus (omega))));(try(refine have e3s:¬(w5.heap.size+1)=w6.heap.size+1:= ?_; ?_;(focus (omega))));(try(refine have e3t:¬w6.heap.size+1=(w5.heap.size+1):= ?_; ?_;(focus (omega))));clear hc6 hf6 hl6)
    |(go_simp;go_at_call 159;refine(yho (Z:=Zc) b v p s.nxt _ ?_).mono ?_;(repeat(first|exact HM.o.1|refine MX.allo ?_ _|refine MX.ext ?_ (znv _ _).drew));rintro e w5 ⟨v5,ck,cn,cs,la,ln,lc,rfl,H5,hc5,hf5,hl5⟩;have no5:∀X,w5.heap.size≤X→¬MO v5 b X:=(fun X h e=>by have:=H5.o.1.lt e;omega);have hs5:w4.heap.size≤w5.heap.size:=(by have:=H5.o.2.1.keeps.size;simp at this;omega);(try(refine have g0:w4.heap.size<w5.heap.size:= ?_; ?_;(focus (refine hl5 _ ?_;(first|(simp;done)|(simp;omega))))));(try(refine have z0:=hc5 w4.heap.size ?_ ?_; ?_;(focus (first|(simp;done)|(simp;omega)));(focus (refine no4 _ ?_;omega))));(try(refine have y0:=hf5 w4.heap.size ?_ ?_; ?_;(focus (first|(simp;done)|(simp;omega)));(focus (refine no4 _ ?_;omega))));(try(refine have x0:¬MO v5 b w4.heap.size:= ?_; ?_;(focus (intro e;rcases H5.o.2.1.own _ e with h|h;(focus (exact no4 _ (znc _) h));(focus (first|omega|(simp at h;done)|(simp at h;omega)))))));(try(refine have d0:¬w4.heap.size=w5.heap.size:= ?_; ?_;(focus (omega))));(try(refine have d0r:¬w5.heap.size=w4.heap.size:= ?_; ?_;(focus (omega))));(try(refine have d0s:¬w4.heap.size=w5.heap.size+1:= ?_; ?_;(focus (omega))));(try(refine have d0t:¬w5.heap.size+1=w4.heap.size:= ?_; ?_;(focus (omega))));(try(refine have g1:(w4.heap.size+1)<w5.heap.size:= ?_; ?_;(focus (refine hl5 _ ?_;(first|(simp;done)|(simp;omega))))));(try(refine have z1:=hc5 (w4.heap.size+1) ?_ ?_; ?_;(focus (first|(simp;done)|(simp;omega)));(focus (refine no4 _ ?_;omega))));(try(refine have y1:=hf5 (w4.heap.size+1) ?_ ?_; ?_;(focus (first|(simp;done)|(simp;omega)));(focus (refine no4 _ ?_;omega))));(try(refine have x1:¬MO v5 b (w4.heap.size+1):= ?_; ?_;(focus (intro e;rcases H5.o.2.1.own _ e with h|h;(focus (exact no4 _ (Nat.le_add_right _ _) h));(focus (first|omega|(simp at h;done)|(simp at h;omega)))))));(try(refine have d1:¬(w4.heap.size+1)=w5.heap.size:= ?_; ?_;(focus (omega))));(try(refine have d1r:¬w5.heap.size=(w4.heap.size+1):= ?_; ?_;(focus (omega))));(try(refine have d1s:¬(w4.heap.size+1)=w5.heap.size+1:= ?_; ?_;(focus (omega))));(try(refine have d1t:¬w5.heap.size+1=(w4.heap.size+1):= ?_; ?_;(focus (omega))));clear hc5 hf5 hl5))
   all_goals
    go_wp2_with fail;go_meet
    case rel=>
     have K5:MK b v w4 v5 w5:=by
      refine MK.trans ?_ H5.o.2.1
      repeat(with_reducible first|exact MK.refl _ _ _|refine MK.allo ?_ _|refine MK.drw ?_)
     have K6:MK b v w4 v6 w6:=by
      refine MK.trans (v':=v5) ?_ H6.o.2.1
      repeat(with_reducible first|exact K5|refine MK.allo ?_ _)
     have C6:=CF.step H6.o.2.1 (c:=⟨ck,cn,cs,la,ln,lc⟩) (x:=s.nxt.top) (by repeat(with_reducible first|exact H5.o.2.2|refine ygS ?_ _));have hs6:=K6.keeps.size;have f6:¬MO v6 b w6.heap.size:=fun e=>Nat.lt_irrefl _ (H6.o.1.lt e);have f7:¬MO v6 b (w6.heap.size+1):=fun e=>by have:=H6.o.1.lt e;omega
     have c0:=HM.o.2.2 w4.heap.size (znc _);have c1:=HM.o.2.2 (w4.heap.size+1) (Nat.le_succ _);have c2:=HM.o.2.2 w5.heap.size hs5;have c3:=HM.o.2.2 (w5.heap.size+1) (Nat.le_succ_of_le hs5);have u0:w4.heap.size≤w4.heap.size:=znc _;have u1:w4.heap.size≤w4.heap.size+1:=Nat.le_succ _;have u3:w4.heap.size≤w5.heap.size+1:=Nat.le_succ_of_le hs5;refine⟨_,_,v6,⟨ck,cn,cs,la,ln,lc⟩,⟨dk,dn,ds,ma,mn,mc⟩,rfl,rfl,zhd ⟨⟨(by first|(go_simp;done)|(simp;done)|(simp;omega)),(by first|(go_simp;done)|(simp;done)|(simp;omega)),(by first|(go_simp;done)|(simp;done)|(simp;omega)),(by first|(go_simp;done)|(simp;done)|(simp;omega)),(by first|(go_simp;done)|(simp;done)|(simp;omega))⟩,⟨(by first|(go_simp;done)|(simp;done)|(simp;omega)),(by first|(go_simp;done)|(simp;done)|(simp;omega)),(by first|(go_simp;done)|(simp;done)|(simp;omega)),(by first|(go_simp;done)|(simp;done)|(simp;omega)),(by first|(go_simp;done)|(simp;done)|(simp;omega))⟩,(by first|assumption|(simp;assumption)),?_,?_,?_,?_⟩⟩
     ·repeat(first|with_reducible exact H6.o.1|with_reducible refine MX.allo ?_ _|((with_reducible refine MX.box ?_ ?_ ?_);rotate_left;(focus assumption);(focus assumption)))
     ·repeat(first|with_reducible exact K6|with_reducible refine MK.allo ?_ _|((with_reducible refine MK.box ?_ ?_);rotate_left;(focus assumption)))
     ·repeat(first|with_reducible exact C6|with_reducible refine ygS ?_ _|((with_reducible refine ylL ?_ ?_);rotate_left;(focus (intro h;first|exact c0 h.2|exact c1 h.2|exact c2 h.2|exact c3 h.2))))
     ·repeat(first|with_reducible exact H6.o.2.2|with_reducible refine ygS ?_ _|((with_reducible refine ylL ?_ ?_);rotate_left;(focus (intro h;first|exact c0 h.2|exact c1 h.2|exact c2 h.2|exact c3 h.2))))
  case rest=>
   obtain⟨B6,B7,vv,⟨ck,cn,cs,la,ln,lc⟩,⟨dk,dn,ds,ma,mn,mc⟩,rfl,rfl,H7⟩:=hcut;obtain⟨q0,q1,q2,q3,ql⟩:=H7.o.1;dsimp only at q0 q1 q2 q3;have PU:=zhd (yah b vv p s.nxt.pop.pop wc.drew (H7.o.2.2.2.1.ext (znv _ _).drew) s.nxt.top ck cn cs la ln lc (H7.o.2.2.2.2.2.1.keep (S:=fun _=>False) (zkb (znv _ _).drew) (fun _ _ f=>f)) hl1);go_upto_region 24 with(fail);go_region_law ((go_simp;go_at_call 119;refine PU.o.mono ?_;rintro e w8 ⟨v8,rfl,H8⟩))
   all_goals
    have KD:MK b vv wc v8 w8:=(MK.ext (znv wc.heap.size wc).drew).trans H8.o.2;obtain⟨r0,r1,r2,r3,rl⟩:=H7.o.2.1;dsimp only at r0 r1 r2 r3;have y0:=(KD.keeps.cell (p:=⟨B7,0,none⟩) rl H7.o.2.2.1).trans r0;have y1:=(KD.keeps.cell (p:=⟨B7,1,none⟩) rl H7.o.2.2.1).trans r1;have y2:=(KD.keeps.cell (p:=⟨B7,2,none⟩) rl H7.o.2.2.1).trans r2;have y3:=(KD.keeps.cell (p:=⟨B7,3,none⟩) rl H7.o.2.2.1).trans r3;have yl:B7<w8.heap.size:=znj rl KD.keeps.size;have C8:=CF.step KD H7.o.2.2.2.2.2.2;have PU2:=zhd (yah b v8 p (s.nxt.pop.pop.push s.nxt.top) w8.drew (H8.o.1.ext (znv _ _).drew) s.nxt.pop.top dk dn ds ma mn mc (C8.keep (S:=fun _=>False) (zkb (znv _ _).drew) (fun _ _ f=>f)) hl2);have HKD:=zhd KD;clear r0 r1 r2 r3 rl KD C8 q0 q1 q2 q3 ql;go_upto_region 25 with(fail);go_region_law ((go_simp;go_at_call 119;refine PU2.o.mono ?_;rintro e w9 ⟨v9,rfl,H9⟩))
    all_goals
     go_wp2_with fail;go_ret;refine⟨v9,rfl,zhd ⟨?_,H4.o.2.1.trans (H7.o.2.2.2.2.1.trans (HKD.o.trans ((MK.ext (znv w8.heap.size w8).drew).trans H9.o.2)))⟩⟩;rw[hE.o];exact H9.o.1.monoZ (fun j h _=>by have h:Zc j:=h;rw[HM.o.2.1]at h;exact h.1)
theorem yh3
  {Z:Nat→Prop}(b:Nat)(v:MV)(p:Img)(s:MS)(W:World)(M:MX TT Z W b v p s)
  (op a:Int)(hop:op=14)(hc:p.code[s.at_]? =some ⟨op,a⟩)(nm:ByteArray)(od ii oo:Int)(hof:ofL op=(⟨nm,od,ii,oo,false,false,false⟩,true))(hat:s.at_≤4294967296)(hk:s.stk.length≤4294967296)(s':MS)
  (k:Nat)(x:Val)(hak:a=k)(hx:s.places[k]? =some x)(hs':s'={s.nxt.pop with places:=s.places.set k s.top}):
  Calls Tryz.prog 139 #[.pointer (some ⟨b,0,none⟩)] W (MP Z W b v p (.bool true) s')
  :=by
 have HAK:=zhd hak;clear hak;have hkn:(k:Int)<(s.places.length:Int):=by have:=(zge hx).1;omega
 have HXK:=zhd hx;clear hx;have HOP:=zhd hop;have hE:=zhd hs';clear hop hs';have atw:wrap64 ((s.at_:Int)+1)=(s.at_:Int)+1:=by unfold wrap64;omega
 have OF:=zhd (ya0 op _ _ hof);clear hof;obtain⟨g,off,hca,_,gl,_,m0,m1⟩:=M.img.code_at (znv _ _) hc;have hcn:=M.img.lens.1;have c1:W.cell? ⟨b,1,none⟩=some (.slice v.ic.ca v.ic.cn v.ic.cc):=M.cell (k:=1) rfl;rw[hca,hcn]at c1;have c6:W.cell? ⟨b,6,none⟩=some (.int .i64 (s.at_:Int)):=M.cell (k:=6) rfl;have b0:=zlt M.h;have hix:(s.at_:Int)<(p.code.length:Int):=by have:=(zge hc).1;omega
 have HX:=zhd M;clear M hca hcn hc;go_enter Tryz.func139,Tryz.ntmps139;go_upto_region 1 with(fail);go_region
 all_goals
  go_upto_region 2 with(fail);refine yaa ?_;intro w1 hw1;have B1:Below W.heap.size W w1:=by rw[hw1];exact(zal).drew
  have hb1:w1.heap[W.heap.size]? =some (.cells #[.int .i64 op,.int .i64 a] 106 (0,0)):=by rw[hw1];exact znb _ _
  have e0:=zca hb1 0 rfl;have el:=zlt hb1;have H1:=zh2 B1 hb1;clear hw1 B1 hb1;go_wp2_with fail;refine(OF.o _).mono ?_;rintro e w2 ⟨rfl,hB2⟩;have hb2:=(hB2.block W.heap.size el).trans H1.o.2;have H2:=zh2 (H1.o.1.trans (hB2.mono H1.o.1.size)) hb2;clear hB2 hb2 e0 el;go_upto_region 3 with(fail);refine yaa ?_;intro w3 hw3;have B3:Below W.heap.size W w3:=by rw[hw3];exact H2.o.1.alloc H2.o.1.size _
  have hi3:=zha hw3;have hb3:w3.heap[W.heap.size]? =some (.cells #[.int .i64 op,.int .i64 a] 106 (0,0)):=by rw[hw3];exact(zne _ _ _ (zlt H2.o.2)).trans H2.o.2
  have f4:=zca hi3 4 rfl;have f5:=zca hi3 5 rfl;have f6:=zca hi3 6 rfl;have e0:=zca hb3 0 rfl;have e1:=zca hb3 1 rfl;have il:=zlt hi3;have el:=zlt hb3;have M3:=HX.o.ext B3;have H3:=zh3 B3 M3 hb3;clear hw3 B3 hi3 hb3 M3;have c6:w3.cell? ⟨b,6,none⟩=some (.int .i64 (s.at_:Int)):=H3.o.2.1.cell (k:=6) rfl;have f0:∀o,w3.frozen? ⟨b,o,none⟩=false:=fun o=>H3.o.2.1.frozen o;have b3:=zlt H3.o.2.1.h;go_upto_region 14 with(fail);refine yaa ?_;intro w4 hw4;have S4:=H3.o.2.1.scalar 6 (.int .i64 ((s.at_:Int)+1)) s.nxt rfl rfl rfl rfl rfl rfl rfl rfl;rw[←hw4]at S4;have hb4:w4.heap[W.heap.size]? =some (.cells #[.int .i64 op,.int .i64 a] 106 (0,0)):=by
   rw[hw4,znn _ _ _ _ (fun e=>by have e:W.heap.size=b:=e;omega)];exact H3.o.2.2
  have g0:=zca hb4 0 rfl;have g1:=zca hb4 1 rfl;have gl:=zlt hb4;have H4:=zh3 S4.1 ((MK.ext H3.o.1).trans S4.2) hb4;have b4:=zlt S4.1.h;have hlen:s.nxt.stk.length≤4294967296:=hk;clear S4 hw4 hb4 f4 f5 f6 e0 e1 c6 f0 b3 il el c1 m0 m1 hix;have hop:=HOP.o;subst hop;have hak:=HAK.o;subst hak;obtain⟨pa,pc,hps⟩:∃a cap,v.ps= .slice a s.places.length cap:=H4.o.1.pls.slice;have c5:w4.cell? ⟨b,5,none⟩=some (.slice pa s.places.length pc):=by rw[←hps];exact H4.o.1.cell (k:=5) rfl
  obtain⟨pg,poff,kc,hka,pgl,_,_,_⟩:=(show XRow _ w4 38 (.slice pa s.places.length pc) s.places from hps▸H4.o.1.pls).at_ HXK.o;subst hka;have PO:=zhd (yil b v p _ w4.drew (H4.o.1.ext (znv _ _).drew));have HPS:=zhd hps;clear hps;go_upto_region 29 with(fail)
  go_region_law ((go_simp;go_at_call 159;refine PO.o.mono ?_;rintro e w5 ⟨ss5,⟨ck,cn,cs,la,ln,lc⟩,rfl,H5⟩;have hb5:=(H5.o.2.1.keeps.block W.heap.size (by exact zlt H4.o.2.2) (fun e=>Nat.lt_irrefl _ (HX.o.lt e))).trans H4.o.2.2;have y1:w5.cell? ⟨W.heap.size,1,none⟩=some (.int .i64 (k:Int)):=(by rw[zch hb5];rfl);have y0:=zlt hb5;have z5:w5.cell? ⟨b,5,none⟩=some (.slice (some ⟨pg,poff,none⟩) s.places.length pc):=(by rw[←HPS.o];exact H5.o.1.cell (k:=5) rfl);have zb:=zlt H5.o.1.h;have zp:pg<w5.heap.size:=znj pgl (H5.o.2.1.keeps.size);obtain⟨ks5,hR5v,hP5⟩:=H5.o.1.pls.cells;have hR5:RowAt w5 38 (.slice (some ⟨pg,poff,none⟩) s.places.length pc) ks5:=(by have h:RowAt w5 38 v.ps ks5:=hR5v;rw[HPS.o]at h;exact h);obtain⟨c5k,hc5k⟩:=yad (l:=ks5) (k:=k) (by rw[hP5.1];exact(zge HXK.o).1);have zc:=fun(j:Nat) (hj:j<4)=>hR5.cell hc5k (j:=j) hj;have zc0:w5.cell? ⟨pg,poff+k*4,none⟩=some (.int .i64 c5k.kind):=zc 0 (by decide);have zc1:w5.cell? ⟨pg,poff+k*4+1,none⟩=some (.int .i64 c5k.n):=(by rw[zmm];exact zc 1 (by decide));have zc2:w5.cell? ⟨pg,poff+k*4+2,none⟩=some (.string c5k.s):=(by rw[zmm];exact zc 2 (by decide));have zc3:w5.cell? ⟨pg,poff+k*4+3,none⟩=some (.slice c5k.la c5k.ln c5k.lc):=(by rw[zmm];exact zc 3 (by decide));have zpf:∀o,w5.frozen? ⟨pg,o,none⟩=false:=(fun o=>hR5.frozen o);have HR5:=zh2 hR5 hP5;clear hb5 zc hc5k hR5 hR5v hP5))
  all_goals
   obtain⟨w6,hw6⟩:∃w6,w6=((((w5.setCell ⟨pg,poff+k*4,none⟩ (.int .i64 ck)).setCell ⟨pg,poff+k*4+1,none⟩ (.int .i64 cn)).setCell ⟨pg,poff+k*4+2,none⟩ (.string cs)).setCell ⟨pg,poff+k*4+3,none⟩ (.slice la ln lc)):=⟨_,rfl⟩;rw[←hw6];have hset:=HR5.o.1.set (i:=k) (by rw[HR5.o.2.1];exact(zge HXK.o).1) ⟨ck,cn,cs,la,ln,lc⟩;have hset2:RowAt w6 38 (.slice (some ⟨pg,poff,none⟩) s.places.length pc) (ks5.set k ⟨ck,cn,cs,la,ln,lc⟩):=by rw[hw6];exact hset
   have hob:({v with ss:=ss5}:MV).ps.ownBlock=some pg:=by show v.ps.ownBlock=_;rw[HPS.o];rfl
   have K4:Keeps (fun j=>({v with ss:=ss5}:MV).ps.ownBlock=some j) w5 w6:=by
    rw[hw6];exact((((Keeps.refl _ _).setCell (p:=⟨pg,poff+k*4,none⟩) (.inl hob) _).setCell (p:=⟨pg,poff+k*4+1,none⟩) (.inl hob) _).setCell (p:=⟨pg,poff+k*4+2,none⟩) (.inl hob) _).setCell (p:=⟨pg,poff+k*4+3,none⟩) (.inl hob) _
   have S:=H5.o.1.putPls (v1:=.slice (some ⟨pg,poff,none⟩) s.places.length pc) s' hset2 (HR5.o.2.set k H5.o.2.2) K4 (fun g hg=>.inl (by rw[hob];exact hg)) hE.o;have hnb:¬b=pg:=fun e=>absurd (H5.o.1.sep 2 0 pg hob (by rw[e];rfl)) (by decide);have z6:w6.cell? ⟨b,5,none⟩=some (.slice (some ⟨pg,poff,none⟩) s.places.length pc):=(K4.cell (p:=⟨b,5,none⟩) zb (fun e=>by rw[hob]at e;exact hnb (Option.some.inj e).symm)).trans z5;rw[yb5 z6]at S;have HS:=zhd S;clear S K4 hset hset2 hw6 z5 z6 y0 y1 zb zp zc0 zc1 zc2 zc3 zpf;go_wp2_with fail;go_ret;exact⟨_,rfl,zhd ⟨HS.o.1,H4.o.2.1.trans ((MK.ext (znv w4.heap.size w4).drew).trans (H5.o.2.1.trans HS.o.2))⟩⟩
theorem yem
  {Z:Nat→Prop}(b:Nat)(v:MV)(p:Img)(s:MS)(W:World)(M:MX TT Z W b v p s)
  (op a:Int)(hop:op=23)(hc:p.code[s.at_]? =some ⟨op,a⟩)(nm:ByteArray)(od ii oo:Int)(hof:ofL op=(⟨nm,od,ii,oo,false,false,false⟩,true))(hat:s.at_≤4294967296)(hk:s.stk.length≤4294967296)(s':MS)
  (k:Nat)(lnm:ByteArray)(hak:a=k)(hnm:p.names[k]? =some lnm)(hf:yap lnm s.letters=none)(hk2:s.stk.length≤4294967295)(hs':s'=(s.nxt.push yai).push (yaH false)):
  Calls Tryz.prog 139 #[.pointer (some ⟨b,0,none⟩)] W (MP Z W b v p (.bool true) s')
  :=by
 have HAK:=zhd hak;have hkn:(k:Int)<(p.names.length:Int):=by have:=(zge hnm).1;omega
 have HNM:=zhd hnm;have HF:=zhd hf;have hlen2:(s.nxt.push yai).stk.length≤4294967296:=by
  show(s.stk++[_]).length≤_;rw[znk,zmh];omega
 clear hak hnm hf hk2;have HOP:=zhd hop;have hE:=zhd hs';clear hop hs';have atw:wrap64 ((s.at_:Int)+1)=(s.at_:Int)+1:=by unfold wrap64;omega
 have OF:=zhd (ya0 op _ _ hof);clear hof;obtain⟨g,off,hca,_,gl,_,m0,m1⟩:=M.img.code_at (znv _ _) hc;have hcn:=M.img.lens.1;have c1:W.cell? ⟨b,1,none⟩=some (.slice v.ic.ca v.ic.cn v.ic.cc):=M.cell (k:=1) rfl;rw[hca,hcn]at c1;have c6:W.cell? ⟨b,6,none⟩=some (.int .i64 (s.at_:Int)):=M.cell (k:=6) rfl;have b0:=zlt M.h;have hix:(s.at_:Int)<(p.code.length:Int):=by have:=(zge hc).1;omega
 have HX:=zhd M;clear M hca hcn hc;go_enter Tryz.func139,Tryz.ntmps139;go_upto_region 1 with(fail);go_region
 all_goals
  go_upto_region 2 with(fail);refine yaa ?_;intro w1 hw1;have B1:Below W.heap.size W w1:=by rw[hw1];exact(zal).drew
  have hb1:w1.heap[W.heap.size]? =some (.cells #[.int .i64 op,.int .i64 a] 106 (0,0)):=by rw[hw1];exact znb _ _
  have e0:=zca hb1 0 rfl;have el:=zlt hb1;have H1:=zh2 B1 hb1;clear hw1 B1 hb1;go_wp2_with fail;refine(OF.o _).mono ?_;rintro e w2 ⟨rfl,hB2⟩;have hb2:=(hB2.block W.heap.size el).trans H1.o.2;have H2:=zh2 (H1.o.1.trans (hB2.mono H1.o.1.size)) hb2;clear hB2 hb2 e0 el;go_upto_region 3 with(fail);refine yaa ?_;intro w3 hw3;have B3:Below W.heap.size W w3:=by rw[hw3];exact H2.o.1.alloc H2.o.1.size _
  have hi3:=zha hw3;have hb3:w3.heap[W.heap.size]? =some (.cells #[.int .i64 op,.int .i64 a] 106 (0,0)):=by rw[hw3];exact(zne _ _ _ (zlt H2.o.2)).trans H2.o.2
  have f4:=zca hi3 4 rfl;have f5:=zca hi3 5 rfl;have f6:=zca hi3 6 rfl;have e0:=zca hb3 0 rfl;have e1:=zca hb3 1 rfl;have il:=zlt hi3;have el:=zlt hb3;have M3:=HX.o.ext B3;have H3:=zh3 B3 M3 hb3;clear hw3 B3 hi3 hb3 M3;have c6:w3.cell? ⟨b,6,none⟩=some (.int .i64 (s.at_:Int)):=H3.o.2.1.cell (k:=6) rfl;have f0:∀o,w3.frozen? ⟨b,o,none⟩=false:=fun o=>H3.o.2.1.frozen o;have b3:=zlt H3.o.2.1.h;go_upto_region 14 with(fail);refine yaa ?_;intro w4 hw4;have S4:=H3.o.2.1.scalar 6 (.int .i64 ((s.at_:Int)+1)) s.nxt rfl rfl rfl rfl rfl rfl rfl rfl;rw[←hw4]at S4;have hb4:w4.heap[W.heap.size]? =some (.cells #[.int .i64 op,.int .i64 a] 106 (0,0)):=by
   rw[hw4,znn _ _ _ _ (fun e=>by have e:W.heap.size=b:=e;omega)];exact H3.o.2.2
  have g0:=zca hb4 0 rfl;have g1:=zca hb4 1 rfl;have gl:=zlt hb4;have H4:=zh3 S4.1 ((MK.ext H3.o.1).trans S4.2) hb4;have b4:=zlt S4.1.h;have hlen:s.nxt.stk.length≤4294967296:=hk;clear S4 hw4 hb4 f4 f5 f6 e0 e1 c6 f0 b3 il el c1 m0 m1 hix;have hop:=HOP.o;subst hop;have hak:=HAK.o;subst hak;obtain⟨ng,noff,hna,_,_,ngl,nm0⟩:=H4.o.1.img.name_at (znv _ _) HNM.o;have hnn:=H4.o.1.img.lens.2.2;have c3:w4.cell? ⟨b,3,none⟩=some (.slice v.ic.na v.ic.nn v.ic.nc):=H4.o.1.cell (k:=3) rfl;rw[hna,hnn]at c3;have LT:=zhd (ya9 b v p s.nxt w4.drew (H4.o.1.ext (znv _ _).drew) lnm (-1) (by unfold ltI;show(match yap lnm s.letters with|none=>(-1:Int)|some i=>(i:Int))=_;rw[HF.o]));clear hna hnn;go_upto_region 37 with(fail)
  go_still_tail 10,(by kernel_rfl)
  go_wp2_with fail;refine LT.o.mono ?_;rintro e w5 ⟨rfl,hB5⟩;have B5:Below w4.heap.size w4 w5:=znw ((znv _ _).drew) hB5;have M5:=H4.o.1.ext B5;have H5:=zh2 B5 M5;clear hB5 B5 M5 nm0 c3 g0 g1 gl ngl b4;have PU:=zhd (yah b v p s.nxt w5 H5.o.2 yai 0 0 ⟨#[]⟩ none 0 0 (yaD _ _) hlen);go_wp2_with fail;refine PU.o.mono ?_;rintro e w6 ⟨v6,rfl,H6⟩;go_upto_region 42 with(fail);go_region_law (first
   |(go_simp;go_at_call 63;refine(ybg false _).mono ?_;rintro e w8 ⟨rfl,hB8⟩;have H8:=zhd (znw ((znv w6.heap.size w6).drew) hB8);clear hB8)
   |(go_simp;go_at_call 119;refine(yah b v6 p _ w8 (H6.o.1.ext H8.o) (yaH false) 1 _ ⟨#[]⟩ none 0 0 (ya5 _ _ _) hlen2).mono ?_;rintro e w9 ⟨v9,rfl,H9⟩))
  all_goals
   go_wp2_with fail;go_ret;exact⟨v9,rfl,zhd ⟨by rw[hE.o];exact H9.o.1,H4.o.2.1.trans ((MK.ext H5.o.1).trans (H6.o.2.trans ((MK.ext H8.o).trans H9.o.2)))⟩⟩
theorem yi7
  {Z:Nat→Prop}(b:Nat)(v:MV)(p:Img)(s:MS)(W:World)(M:MX TT Z W b v p s)
  (op a:Int)(hop:op=23)(hc:p.code[s.at_]? =some ⟨op,a⟩)(nm:ByteArray)(od ii oo:Int)(hof:ofL op=(⟨nm,od,ii,oo,false,false,false⟩,true))(hat:s.at_≤4294967296)(hk:s.stk.length≤4294967296)(hZ:∀j,W.heap.size≤j→Z j)(s':MS)
  (k:Nat)(lnm:ByteArray)(hak:a=k)(hnm:p.names[k]? =some lnm)(i:Nat)(hf:yap lnm s.letters=some i)(hll:s.letters.length≤4294967296)(hk2:s.stk.length≤4294967295)(hs':s'=((s.nxt.openL i).push (s.letV i)).push (yaH true)):
  Calls Tryz.prog 139 #[.pointer (some ⟨b,0,none⟩)] W (MP Z W b v p (.bool true) s')
  :=by
 have HAK:=zhd hak;have hkn:(k:Int)<(p.names.length:Int):=by have:=(zge hnm).1;omega
 have HNM:=zhd hnm;have HF:=zhd hf;obtain⟨x,hx⟩:=Go.Proofs.YtpagmlndgblhhaaGreatDoor.findLt_some hf;have HLX:=zh3 hx hll hZ;have n8:decide ((0:Int)≤(i:Int))=true:=zno (by omega);have n9:(0:Int)≤(i:Int):=by omega
 have hlen2:((s.nxt.openL i).push (s.letV i)).stk.length≤4294967296:=by
  show(s.stk++[_]).length≤_;rw[znk,zmh];omega
 clear hak hnm hf hk2 hx hll;have HOP:=zhd hop;have hE:=zhd hs';clear hop hs';have atw:wrap64 ((s.at_:Int)+1)=(s.at_:Int)+1:=by unfold wrap64;omega
 have OF:=zhd (ya0 op _ _ hof);clear hof;obtain⟨g,off,hca,_,gl,_,m0,m1⟩:=M.img.code_at (znv _ _) hc;have hcn:=M.img.lens.1;have c1:W.cell? ⟨b,1,none⟩=some (.slice v.ic.ca v.ic.cn v.ic.cc):=M.cell (k:=1) rfl;rw[hca,hcn]at c1;have c6:W.cell? ⟨b,6,none⟩=some (.int .i64 (s.at_:Int)):=M.cell (k:=6) rfl;have b0:=zlt M.h;have hix:(s.at_:Int)<(p.code.length:Int):=by have:=(zge hc).1;omega
 have HX:=zhd M;clear M hca hcn hc;go_enter Tryz.func139,Tryz.ntmps139;go_upto_region 1 with(fail);go_region
 all_goals
  go_upto_region 2 with(fail);refine yaa ?_;intro w1 hw1;have B1:Below W.heap.size W w1:=by rw[hw1];exact(zal).drew
  have hb1:w1.heap[W.heap.size]? =some (.cells #[.int .i64 op,.int .i64 a] 106 (0,0)):=by rw[hw1];exact znb _ _
  have e0:=zca hb1 0 rfl;have el:=zlt hb1;have H1:=zh2 B1 hb1;clear hw1 B1 hb1;go_wp2_with fail;refine(OF.o _).mono ?_;rintro e w2 ⟨rfl,hB2⟩;have hb2:=(hB2.block W.heap.size el).trans H1.o.2;have H2:=zh2 (H1.o.1.trans (hB2.mono H1.o.1.size)) hb2;clear hB2 hb2 e0 el;go_upto_region 3 with(fail);refine yaa ?_;intro w3 hw3;have B3:Below W.heap.size W w3:=by rw[hw3];exact H2.o.1.alloc H2.o.1.size _
  have hi3:=zha hw3;have hb3:w3.heap[W.heap.size]? =some (.cells #[.int .i64 op,.int .i64 a] 106 (0,0)):=by rw[hw3];exact(zne _ _ _ (zlt H2.o.2)).trans H2.o.2
  have f4:=zca hi3 4 rfl;have f5:=zca hi3 5 rfl;have f6:=zca hi3 6 rfl;have e0:=zca hb3 0 rfl;have e1:=zca hb3 1 rfl;have il:=zlt hi3;have el:=zlt hb3;have M3:=HX.o.ext B3;have H3:=zh3 B3 M3 hb3;clear hw3 B3 hi3 hb3 M3;have c6:w3.cell? ⟨b,6,none⟩=some (.int .i64 (s.at_:Int)):=H3.o.2.1.cell (k:=6) rfl;have f0:∀o,w3.frozen? ⟨b,o,none⟩=false:=fun o=>H3.o.2.1.frozen o;have b3:=zlt H3.o.2.1.h;go_upto_region 14 with(fail);refine yaa ?_;intro w4 hw4;have S4:=H3.o.2.1.scalar 6 (.int .i64 ((s.at_:Int)+1)) s.nxt rfl rfl rfl rfl rfl rfl rfl rfl;rw[←hw4]at S4;have hb4:w4.heap[W.heap.size]? =some (.cells #[.int .i64 op,.int .i64 a] 106 (0,0)):=by
   rw[hw4,znn _ _ _ _ (fun e=>by have e:W.heap.size=b:=e;omega)];exact H3.o.2.2
  have g0:=zca hb4 0 rfl;have g1:=zca hb4 1 rfl;have gl:=zlt hb4;have H4:=zh3 S4.1 ((MK.ext H3.o.1).trans S4.2) hb4;have b4:=zlt S4.1.h;have hlen:s.nxt.stk.length≤4294967296:=hk;clear S4 hw4 hb4 f4 f5 f6 e0 e1 c6 f0 b3 il el c1 m0 m1 hix;have hop:=HOP.o;subst hop;have hak:=HAK.o;subst hak;obtain⟨ng,noff,hna,_,_,ngl,nm0⟩:=H4.o.1.img.name_at (znv _ _) HNM.o;have hnn:=H4.o.1.img.lens.2.2;have c3:w4.cell? ⟨b,3,none⟩=some (.slice v.ic.na v.ic.nn v.ic.nc):=H4.o.1.cell (k:=3) rfl;rw[hna,hnn]at c3;have LT:=zhd (ya9 b v p s.nxt w4.drew (H4.o.1.ext (znv _ _).drew) lnm (i:Int) (by unfold ltI;show(match yap lnm s.letters with|none=>(-1:Int)|some i=>(i:Int))=_;rw[HF.o]));clear hna hnn;go_upto_region 37 with(fail)
  go_still_tail 10,(by kernel_rfl)
  go_wp2_with fail;refine LT.o.mono ?_;rintro e w5 ⟨rfl,hB5⟩;have B5:Below w4.heap.size w4 w5:=znw ((znv _ _).drew) hB5;have M5:=H4.o.1.ext B5;have H5:=zh2 B5 M5;clear hB5 B5 M5 nm0 c3 g0 g1 gl ngl b4;have OP:=zhd (ye1 b v p s.nxt w5.drew (H5.o.2.ext (znv _ _).drew) i x HLX.o.1 HLX.o.2.1 (yac HLX.o.2.2 (znf H4.o.2.1.keeps.size H5.o.1.size)));go_upto_region 39 with(fail);go_region_law (first
   |(go_simp;go_at_call 162;refine OP.o.mono ?_;rintro e w7 ⟨v7,⟨ck,cn,cs,la,ln,lc⟩,rfl,H7⟩)
   |(go_simp;go_at_call 119;refine(yah b v7 p (s.nxt.openL i) w7 H7.o.1 (s.letV i) ck cn cs la ln lc H7.o.2.2 hlen).mono ?_;rintro e w6 ⟨v6,rfl,H6⟩))
  all_goals
   go_upto_region 40 with(fail);go_region_law (first
    |(go_simp;go_at_call 63;refine(ybg true _).mono ?_;rintro e w8 ⟨rfl,hB8⟩;have H8:=zhd (znw ((znv w6.heap.size w6).drew) hB8);clear hB8)
    |(go_simp;go_at_call 119;refine(yah b v6 p _ w8 (H6.o.1.ext H8.o) (yaH true) 1 _ ⟨#[]⟩ none 0 0 (ya5 _ _ _) hlen2).mono ?_;rintro e w9 ⟨v9,rfl,H9⟩))
   all_goals
    go_wp2_with fail;go_ret;exact⟨v9,rfl,zhd ⟨by rw[hE.o];exact H9.o.1,H4.o.2.1.trans ((MK.ext H5.o.1).trans ((MK.ext (znv w5.heap.size w5).drew).trans (H7.o.2.1.trans (H6.o.2.trans ((MK.ext H8.o).trans H9.o.2)))))⟩⟩
structure RPX (tr:TypeId)(Z:Nat→Prop)(W:World)(rb b mb:Nat)(v:MV)(p:Img)(r:RP):Prop where
 h:W.heap[rb]? =some (.cells #[.pointer (some ⟨b,0,none⟩),.int .i64 (r.seen:Int),.int .i64 (r.next:Int),.map (some mb),.bool r.closed,.int .i64 r.err] tr (0,0))
 mx:MX TT (fun q=>Z q∧¬q=rb∧¬q=mb) W b v p r.m
 fm:MapAt NM W mb (mOf r.fired)
 ne:¬rb=mb
 o1:¬MO v b rb
 o2:¬MO v b mb
def RO (rb b mb:Nat)(v:MV)(g:Nat):Prop:=g=rb∨g=mb∨MO v b g
structure RPK (rb b mb:Nat)(v:MV)(W:World)(v':MV)(W':World):Prop where
 keeps:Keeps (RO rb b mb v) W W'
 own:∀j,MO v' b j→MO v b j∨W.heap.size≤j
theorem RPK.refl (rb b mb:Nat)(v:MV)(W:World):RPK rb b mb v W v W:=⟨Keeps.refl _ _,fun _ h=>.inl h⟩
theorem RPK.trans {rb b mb:Nat}{v v' v'':MV}{W W' W'':World}(h:RPK rb b mb v W v' W')(k:RPK rb b mb v' W' v'' W''):RPK rb b mb v W v'' W'':=by
 refine⟨h.keeps.trans k.keeps (fun j hj e=> ?_),fun j hj=> ?_⟩
 ·rcases e with e|e|e
  ·exact .inl e
  ·exact .inr (.inl e)
  ·exact .inr (.inr ((h.own j e).resolve_right (by omega)))
 ·rcases k.own j hj with h1|h1
  ·exact h.own j h1
  ·exact .inr (znf h.keeps.size h1)
theorem RPK.ext {rb b mb:Nat}{v:MV}{W W':World}(K:Below W.heap.size W W'):RPK rb b mb v W v W':=⟨(zkb (S:=fun _=>False) K).mono (fun _ _ f=>f.elim),fun _ h=>.inl h⟩
theorem RPK.mk_ {rb b mb:Nat}{v v':MV}{W W':World}(K:MK b v W v' W'):RPK rb b mb v W v' W':=⟨K.keeps.mono (fun _ _ h=>.inr (.inr h)),K.own⟩
section
variable{tr:TypeId} {Z:Nat→Prop} {W W':World} {rb b mb:Nat} {v v':MV} {p:Img} {r:RP}
theorem RPX.ext (R:RPX tr Z W rb b mb v p r)(B:Below W.heap.size W W'):RPX tr Z W' rb b mb v p r:=⟨(B.block rb (zlt R.h)).trans R.h,R.mx.ext B,ycH R.fm B,R.ne,R.o1,R.o2⟩
theorem RPX.mlt (R:RPX tr Z W rb b mb v p r):mb<W.heap.size:=by
 obtain⟨es,ck,h1,_⟩:=R.fm;exact zlt h1
theorem RPX.lt (R:RPX tr Z W rb b mb v p r){g:Nat}(h:RO rb b mb v g):g<W.heap.size:=by
 rcases h with rfl|rfl|h
 ·exact zlt R.h
 ·exact R.mlt
 ·exact R.mx.lt h
theorem RPX.put (R:RPX tr Z W rb b mb v p r)(k:Nat)(u:Value)(r':RP)(hm:r'.m=r.m)(hf:r'.fired=r.fired)
  (henc:#[.pointer (some ⟨b,0,none⟩),.int .i64 (r'.seen:Int),.int .i64 (r'.next:Int),.map (some mb),.bool r'.closed,.int .i64 r'.err]=(#[.pointer (some ⟨b,0,none⟩),.int .i64 (r.seen:Int),.int .i64 (r.next:Int),.map (some mb),.bool r.closed,.int .i64 r.err]:Array Value).setIfInBounds k u):
  RPX tr Z (W.setCell ⟨rb,k,none⟩ u) rb b mb v p r'∧RPK rb b mb v W v (W.setCell ⟨rb,k,none⟩ u):=by
 have K:Keeps (fun j=>j=rb) W (W.setCell ⟨rb,k,none⟩ u):=Keeps.setCell (S:=fun j=>j=rb) (p:=⟨rb,k,none⟩) (Keeps.refl _ _) (.inl rfl) _;refine⟨⟨?_,?_,?_,R.ne,R.o1,R.o2⟩,⟨K.mono (fun _ _ e=>.inl e),fun _ h=>.inl h⟩⟩
 ·have:=R.h
  simp only[World.setCell,zni,this];rw[henc];simp
 ·rw[hm]
  exact R.mx.far K (fun j e h=>R.o1 (e▸h)) (fun j e h=>h.2.1 e)
 ·rw[hf]
  obtain⟨es,ck,h1,h2⟩:=R.fm;exact⟨es,ck,(K.block mb (zlt h1) (fun e=>R.ne e.symm)).trans h1,h2⟩
theorem RPX.turn (R:RPX tr Z W rb b mb v p r){m':MS}(M:MX TT (fun q=>Z q∧¬q=rb∧¬q=mb) W' b v' p m')(K:MK b v W v' W'):RPX tr Z W' rb b mb v' p {r with m:=m'}:=by
 have nb:∀g,¬MO v b g→g<W.heap.size→¬MO v' b g:=fun g h1 hl e=>(K.own g e).elim h1 (fun e=>by omega);refine⟨(K.keeps.block rb (zlt R.h) R.o1).trans R.h,M,?_,R.ne,nb rb R.o1 (zlt R.h),nb mb R.o2 R.mlt⟩;obtain⟨es,ck,h1,h2⟩:=R.fm;exact⟨es,ck,(K.keeps.block mb (zlt h1) R.o2).trans h1,h2⟩
theorem RPX.fire (R:RPX tr Z W rb b mb v p r)(a:Int){o:Obj}(hm:MapAt NM (setBlock W mb o) mb (mOf (a::r.fired))):RPX tr Z (setBlock W mb o) rb b mb v p {r with fired:=a::r.fired}∧RPK rb b mb v W v (setBlock W mb o):=by
 have K:Keeps (fun j=>j=mb) W (setBlock W mb o):=(Keeps.refl (fun j=>j=mb) W).setBlock (b:=mb) (.inl rfl) o;exact⟨⟨(K.block rb (zlt R.h) R.ne).trans R.h,R.mx.far K (fun j e h=>R.o2 (e▸h)) (fun j e h=>h.2.2 e),hm,R.ne,R.o1,R.o2⟩,⟨K.mono (fun _ _ e=>.inr (.inl e)),fun _ h=>.inl h⟩⟩
end
end Go.Proofs.YtpagmlndgblhhaaGreatDoor
namespace Go.Va
open Go.Own Go.RowKit
open Go.Proofs.YtpagmlndgblhhaaGreatDoor
def opn (s:MS):Nat:=s.timers.list.length+s.acts.list.length
def LmR (s s':MS):Prop:=(opn s≤64→opn s'≤64)∧s'.letters.length≤s.letters.length
theorem LmR.same {s s':MS}(h1:s'.timers.list=s.timers.list)(h2:s'.acts.list=s.acts.list)(h3:s'.letters=s.letters):LmR s s':=by
 unfold LmR opn;rw[h1,h2,h3];exact⟨fun h=>h,znc _⟩
theorem LmR.nxt {s a:MS}(h:LmR s a):LmR s a.nxt:=h
theorem LmR.same2 {a s s':MS}(h:LmR a s)(h1:s'.timers.list=s.timers.list)(h2:s'.acts.list=s.acts.list)(h3:s'.letters=s.letters):LmR a s':=by
 unfold LmR opn at h⊢;rw[h1,h2,h3];exact h
theorem LmR.put (s:MS)(v:Val):LmR s (s.put v):=by
 unfold MS.put;split<;>exact LmR.same rfl rfl rfl
theorem LmR.arith (s:MS)(op:Int)(a b:Val):LmR s (s.arith op a b):=by
 unfold MS.arith;split<;>exact LmR.same rfl rfl rfl
theorem ybj {s a b:MS}{c:Prop}[Decidable c](ha:LmR s a)(hb:LmR s b):LmR s (if c then a else b):=by
 split
 ·exact ha
 ·exact hb
theorem LmR.two (s:MS)(op:Int)(a b:Val):LmR s (s.two op a b):=by
 unfold MS.two;exact ybj (LmR.same rfl rfl rfl) (ybj (LmR.same rfl rfl rfl) (ybj (ybj (LmR.same rfl rfl rfl) (LmR.same rfl rfl rfl)) (ybj (ybj (LmR.put _ _) (ybj (LmR.put _ _) (LmR.same rfl rfl rfl))) (LmR.arith _ _ _ _))))
theorem LmR.reckon (s:MS)(op:Int)(k:Nat):LmR s (s.reckon op k):=by
 unfold MS.reckon;exact ybj (LmR.put {s with stk:=s.stk.take (s.stk.length - k)} _) (ybj (LmR.same rfl rfl rfl) (ybj (ybj (LmR.same rfl rfl rfl) (ybj (LmR.same rfl rfl rfl) (LmR.same rfl rfl rfl))) (LmR.two s.pop.pop _ _ _)))
theorem LmR.begin_ (s:MS)(op:Int)(name:ByteArray):LmR s (s.begin_ op name):=by
 unfold MS.begin_;dsimp only;split
 ·split
  ·exact LmR.same rfl rfl rfl
  ·rename_i i _
   have he:=List.length_eraseIdx_le s.timers.list i;have hq:LmR s {s.pop with timers:=⟨s.timers.list.eraseIdx i,s.timers.next⟩}:=⟨fun h=>by have h:s.timers.list.length+s.acts.list.length≤64:=h;show(s.timers.list.eraseIdx i).length+s.acts.list.length≤64;omega,znc _⟩;cases(s.timers.list[i]?.getD ⟨0,false,yai,0⟩).over<;>exact hq
 ·split
  ·exact LmR.same rfl rfl rfl
  ·split
   ·exact LmR.same rfl rfl rfl
   ·rename_i h64
    split
    ·refine⟨fun _=> ?_,znc _⟩
     show s.timers.list.length+(s.acts.list++[_]).length≤64;rw[znk,zmh];omega
    ·refine⟨fun _=> ?_,znc _⟩
     show(s.timers.list++[_]).length+s.acts.list.length≤64;rw[znk,zmh];omega
theorem LmR.wait {s s':MS}{op:Int}{name:ByteArray}(h:s.wait op name=some s'):LmR s s':=by
 have hop:∀i,LmR s (s.openL i):=fun i=>⟨fun h=>h,List.length_eraseIdx_le _ _⟩;unfold MS.wait at h;split at h
 ·cases hf:yap name s.letters with
  |none=>rw[hf]at h;cases h
  |some i=>rw[hf]at h;cases h;exact hop i
 ·dsimp only at h
  split at h
  ·cases h;exact LmR.same rfl rfl rfl
  ·split at h
   ·rename_i k _
    cases h;exact hop k
   ·rename_i i _ _ _
    cases hov:((if op=21 then s.acts.list else s.timers.list)[i]?.getD ⟨0,false,yai,0⟩).over with
    |false=>rw[hov]at h;cases h
    |true=>
     rw[hov]at h;simp only[Bool.not_true,znl,Option.some.injEq]at h;have hq:LmR s (if op=21 then{s.pop with acts:=⟨(if op=21 then s.acts.list else s.timers.list).eraseIdx i,s.acts.next⟩}else{s.pop with timers:=⟨(if op=21 then s.acts.list else s.timers.list).eraseIdx i,s.timers.next⟩}):=by
      have e1:=List.length_eraseIdx_le s.timers.list i;have e2:=List.length_eraseIdx_le s.acts.list i;split
      ·rename_i h21
       refine⟨fun h=> ?_,znc _⟩;have h:s.timers.list.length+s.acts.list.length≤64:=h;show s.timers.list.length+(s.acts.list.eraseIdx i).length≤64;omega
      ·rename_i h21
       refine⟨fun h=> ?_,znc _⟩;have h:s.timers.list.length+s.acts.list.length≤64:=h;show(s.timers.list.eraseIdx i).length+s.acts.list.length≤64;omega
     rw[←h];exact LmR.nxt (ybj (LmR.same2 hq rfl rfl rfl) (ybj (LmR.same2 hq rfl rfl rfl) (LmR.same2 hq rfl rfl rfl)))
theorem LmR.end_ (s:MS)(op:Int)(name:ByteArray):LmR s (s.end_ op name):=by
 unfold MS.end_;exact ybj (LmR.same rfl rfl rfl) (ybj (LmR.same rfl rfl rfl) (LmR.same rfl rfl rfl))
theorem LmR.go (s:MS)(p:Img)(op:Int)(k:Nat):LmR s (s.go p op k):=by
 unfold MS.go;dsimp only
 repeat' (first|exact LmR.begin_ _ _ _|exact LmR.reckon _ _ _|refine ybj ?_ ?_)
 all_goals try(cases yap (p.names[k]?.getD ⟨#[]⟩) s.letters)
 all_goals first|exact LmR.same rfl rfl rfl|exact LmR.begin_ _ _ _|exact LmR.reckon _ _ _|exact⟨fun h=>h,List.length_eraseIdx_le _ _⟩
theorem LmR.step {p:Img}{s s':MS}(h:yak p s=some s'):LmR s s':=by
 unfold yak at h;dsimp only at h;cases hb:(ofL (p.code[s.at_]?.getD ⟨0,0⟩).op).1.blocks with
 |true=>rw[hb]at h;exact LmR.wait h
 |false=>
  rw[hb]at h;simp only[znl]at h;cases he:(ofL (p.code[s.at_]?.getD ⟨0,0⟩).op).1.ends with
  |true=>rw[he]at h;cases h;exact LmR.end_ _ _ _
  |false=>
   rw[he]at h;simp only[znl]at h;cases hf:(ofL (p.code[s.at_]?.getD ⟨0,0⟩).op).1.flow with
   |true=>
    rw[hf]at h;cases h;cases((p.code[s.at_]?.getD ⟨0,0⟩).op==11)
    ·cases ycp s.top<;>exact LmR.same rfl rfl rfl
    ·exact LmR.same rfl rfl rfl
   |false=>
    rw[hf]at h;cases h;exact LmR.go s.nxt _ _ _
theorem ycT {x:Val}(h:Okv x):szV x≤20000:=by
 have h1:=yfU h.1;have h2:=ydA x;omega
theorem ylC {x:Val}(h:Okv x)(hk:x.kind=2):x.txt.size≤256:=by
 cases x with
 |mk k n s l=>
  have hk:k=2:=hk;subst hk;have h1:=(ybb.1 h.1).1;rw[yal]at h1;have h1:(bif decide (256<s.size)then(2:Int)else 0)=0:=h1;show s.size≤256;by_cases e:256<s.size
  ·rw[zno e]at h1;cases h1
  ·omega
theorem yeA:∀l k:List Val,szV.szL (l++k)=szV.szL l+szV.szL k
 |[],k=>by rw[List.nil_append,szV.szL];omega
 |x::l,k=>by rw[List.cons_append,szV.szL,szV.szL,yeA l k];omega
theorem ylD {x:Val}(h:Okv x)(hk:x.kind=3):szV.szL x.list≤20000:=by
 have h1:=ycT h;rw[yc5,show(x.kind==2)=false by rw[hk];rfl,show(x.kind==3)=true by rw[hk];rfl]at h1;simp only[znm,znl]at h1;omega
structure Rk (p:Img)(s:MS):Prop where
 vs:Vs s
 opn:opn s≤64
 pls:(s.places.length:Int)=p.places
theorem Rk.steps {p:Img}{s:MS}(R:Rk p s)(k:Nat):Rk p {s with steps:=k}:=⟨⟨R.vs.stk,R.vs.pls,R.vs.inp,R.vs.tms,R.vs.acs,R.vs.lts,R.vs.mds,R.vs.now,R.vs.nt,R.vs.na⟩,R.opn,R.pls⟩
theorem Rk.step {p:Img}(P:Pk p){s s':MS}(R:Rk p s)(hm:s.made.length<4611686018427387904)(h:yak p s=some s'):Rk p s':=⟨R.vs.step P hm h,(LmR.step h).1 R.opn,by rw[(ybw h).places];exact R.pls⟩
theorem yeg (p:Img)(s:MS)(e:Ev):((yay p s e).1≠0∧(yay p s e).2=s)∨(yaj e=0∧yaS e.kind=true∧s.over=false∧¬s.begun=(e.kind==1)∧yay p s e=(0,ykJ p (hear {s with now:=e.time,steps:=0,events:=s.events+1} e))):=by
 unfold yay;by_cases h1:yaj e≠0∨yaS e.kind=false
 ·rw[if_pos h1];exact .inl ⟨(show(9:Int)≠0 from by decide),rfl⟩
 ·rw[if_neg h1]
  by_cases h2:s.over=true
  ·rw[if_pos h2];exact .inl ⟨(show(181:Int)≠0 from by decide),rfl⟩
  ·rw[if_neg h2]
   by_cases h3:s.begun=(e.kind==1)
   ·rw[if_pos h3];exact .inl ⟨(show(7:Int)≠0 from by decide),rfl⟩
   ·rw[if_neg h3]
    refine .inr ⟨?_,?_,by simpa using h2,h3,rfl⟩
    ·by_cases h:yaj e=0
     ·exact h
     ·exact absurd (.inl h) h1
    ·cases h:yaS e.kind with
     |true=>rfl
     |false=>exact absurd (.inr h) h1
theorem yfb (id how:Int)(v:Val):∀l:List Th,(ycw id how v l).length=l.length
 |[]=>rfl
 |x::r=>by
  rw[ycw];split
  ·cases x.over<;>rfl
  ·rw[List.length_cons,List.length_cons,yfb id how v r]
theorem yhC (s:MS)(e:Ev):opn (hear s e)=opn s∧(hear s e).places=s.places:=by
 unfold hear opn
 repeat' split
 all_goals first|exact⟨rfl,rfl⟩|exact⟨by show(ycw _ _ _ s.timers.list).length+s.acts.list.length=_;rw[yfb],rfl⟩|exact⟨by show s.timers.list.length+(ycw _ _ _ s.acts.list).length=_;rw[yfb],rfl⟩
theorem ygk {p:Img}:∀(f:Nat) (s:MS),opn s≤64→opn (ya2 p f s)≤64∧(ya2 p f s).places.length=s.places.length
 |0,_,h=>⟨h,rfl⟩
 |f+1,s,h=>by
  rw[ya2];cases s.over with
  |true=>exact⟨h,rfl⟩
  |false=>
   simp only[znl];cases hs:yak p s with
   |none=>exact⟨h,rfl⟩
   |some s'=>
    obtain⟨i1,i2⟩:=ygk f {s' with steps:=s'.steps+1} ((LmR.step hs).1 h);exact⟨i1,i2.trans (ybw hs).places⟩
structure St (p:Img)(fa:Fa)(s:MS):Prop where
 good:Good p fa s
 rk:Rk p s
 ml:Ml s
 bd:s.made.length≤20000*s.events
theorem St.zero {p:Img}{fa:Fa}(K:Known p fa)(hp:0≤p.places):St p fa (ms0 p):=
 ⟨yoh K,⟨vs0,znq _,by show((List.replicate p.places.toNat yai).length:Int)=p.places;rw[List.length_replicate];omega⟩,ml0,znq _⟩
theorem yi9 {p:Img}{fa:Fa}(K:Known p fa){s:MS}(S:St p fa s)(he:s.events≤30):s.made.length+(p.code.length+1)*(s.events+2)≤700000:=by
 have h1:=(ybL K.img).2.1;have h2:=S.bd;have h3:(p.code.length+1)*(s.events+2)≤513*32:=Nat.mul_le_mul (by omega) (by omega);omega
theorem St.apply {p:Img}{fa:Fa}(K:Known p fa)(P:Pk p)(hsp:fa.span≤p.code.length+1){s:MS}(S:St p fa s)(e:Ev)(hw:e.v.wf)(he:s.events≤30):St p fa (yay p s e).2∧(yay p s e).2.events≤s.events+1:=by
 have hr:=yi9 K S he;obtain⟨h1,h2,l,h3,h4,h5,h6⟩:=yiN P S.rk.vs S.ml e hw (N:=s.events) S.good.pot (by omega);have hg:=yiP K hsp S.good e;rcases yeg p s e with⟨_,hs⟩|⟨_,_,ho,_,hs⟩
 ·rw[hs]
  exact⟨S,Nat.le_succ _⟩
 ·obtain⟨s1,hs1⟩:∃s1,hear {s with now:=e.time,steps:=0,events:=s.events+1} e=s1:=⟨_,rfl⟩
  have o1:=yhC {s with now:=e.time,steps:=0,events:=s.events+1} e;have q1:=ydo {s with now:=e.time,steps:=0,events:=s.events+1} e;rw[hs1]at hs o1 q1;have e2:(yay p s e).2=ykJ p s1:=by rw[hs]
  have hk:=(yeZ p (fuel p s1) s1).1;have hev:(yay p s e).2.events=s.events+1:=by rw[e2];exact hk.trans q1.2.1
  refine⟨⟨hg,⟨h1,?_,?_⟩,h2,?_⟩,Nat.le_of_eq hev⟩
  ·rw[e2]
   exact(ygk (fuel p s1) s1 (by rw[o1.1];exact S.rk.opn)).1
  ·rw[e2]
   have hp:=(ygk (p:=p) (fuel p s1) s1 (by rw[o1.1];exact S.rk.opn)).2;show((ya2 p (fuel p s1) s1).places.length:Int)=p.places;rw[hp,o1.2];exact S.rk.pls
  ·rw[h3,hev,znk]
   have h7:=S.bd;have h8:(p.code.length+1)*(s.events+2)≤513*32:=Nat.mul_le_mul (by have:=(ybL K.img).2.1;omega) (by omega);omega
theorem ynx {n:ByteArray}(h:n.size=0):n=⟨#[]⟩:=by
 apply ByteArray.ext;exact Array.eq_empty_of_size_eq_zero h
theorem yfe {c:Cm}(h:yaT c=0):(0≤c.time∧c.time≤4611686018427387903)∧0≤c.a∧0≤c.b∧c.name.size≤64∧checkL c.v=0∧((c.kind=1∧c.name=⟨#[]⟩∧c.v.kind=0)∨(c.kind=2∧c.b=0∧c.name=⟨#[]⟩∧c.v.kind=0)∨c.kind=3∨(c.kind=4∧c.a=0∧c.b=0∧c.name=⟨#[]⟩)∨(c.kind=5∧c.a=0∧c.b=0∧c.v.kind=0)∨(c.kind=6∧c.a=0∧c.b=0∧c.name=⟨#[]⟩)):=by
 unfold yaT at h;cases hk:yka c.kind with
 |none=>rw[hk]at h;cases h
 |some q=>
  obtain⟨fa,fb,fn,fv⟩:=q;rw[hk]at h;dsimp only at h;split at h
  ·cases h
  ·rename_i g1
   split at h
   ·cases h
   ·rename_i g2
    split at h
    ·cases h
    ·rename_i g3
     have ha:fa=false→c.a=0:=fun e=>Decidable.byContradiction fun n=>g1 (.inr (.inr (.inr (.inr (.inl ⟨e,n⟩)))));have hb:fb=false→c.b=0:=fun e=>Decidable.byContradiction fun n=>g1 (.inr (.inr (.inr (.inr (.inr ⟨e,n⟩)))));have hn:fn=false→c.name=⟨#[]⟩:=fun e=>ynx (Decidable.byContradiction fun n=>g3 (.inl ⟨e,n⟩));have hv:fv=false→c.v.kind=0:=fun e=>Decidable.byContradiction fun n=>g3 (.inr ⟨e,n⟩);have t1:¬c.time<0:=fun e=>g1 (.inl e);have t2:¬4611686018427387903<c.time:=fun e=>g1 (.inr (.inl e));have t3:¬c.a<0:=fun e=>g1 (.inr (.inr (.inl e)));have t4:¬c.b<0:=fun e=>g1 (.inr (.inr (.inr (.inl e))));refine⟨⟨by omega,by omega⟩,by omega,by omega,by omega,h,?_⟩;clear g1 g2 g3 t1 t2 t3 t4 h;unfold yka at hk;split at hk
     ·rename_i e
      cases hk;exact .inl ⟨e,hn rfl,hv rfl⟩
     ·split at hk
      ·rename_i e
       cases hk;exact .inr (.inl ⟨e,hb rfl,hn rfl,hv rfl⟩)
      ·split at hk
       ·rename_i e
        exact .inr (.inr (.inl e))
       ·split at hk
        ·rename_i e
         cases hk;rcases e with e|e
         ·exact .inr (.inr (.inr (.inl ⟨e,ha rfl,hb rfl,hn rfl⟩)))
         ·exact .inr (.inr (.inr (.inr (.inr ⟨e,ha rfl,hb rfl,hn rfl⟩))))
        ·split at hk
         ·rename_i e
          cases hk;exact .inr (.inr (.inr (.inr (.inl ⟨e,ha rfl,hb rfl,hv rfl⟩))))
         ·cases hk
end Go.Va
