/- Parts of the proof: what the functions and the plain laws give that later parts lean on. Conditions: none beyond those that each theorem names. -/
import Derived.Test.YtpagmlndgblhhaaGreatDoorW9
import Derived.Test.YtpagmlndgblhhaaGreatDoorW14
set_option maxRecDepth 100000
set_option maxHeartbeats 8000000
namespace Go.Proofs.YtpagmlndgblhhaaGreatDoor
open Go.RowKit Go.Own Go.Own.MapTy Go.Va Go.Sort
open Go.Own.Cells (sz enc)
def MPS (Z:Nat->Prop)(W:World)(b:Nat)(v:MV)(p:Img)(x:Val)(s':MS)(e:Ending)(w':World):Prop:=∃(ss:Value) (c:VC),e= .returned (.agg #[c.kind,c.n,c.s,.slice c.la c.ln c.lc])/\Hid (MX TT Z w' b {v with ss:=ss} p s'/\MK b v W {v with ss:=ss} w'/\CF (MZ Z {v with ss:=ss} b) w' c x)
theorem yjc
  {Z:Nat->Prop}(b:Nat)(v:MV)(p:Img)(s:MS)(W:World)(M:MX TT Z W b v p s)
  :Calls Tryz.prog 159 #[.pointer (some ⟨b,0,none⟩)] W (MPS Z W b v p s.top s.pop):=by
 obtain⟨Y,ic,r,c,q,m,ls,u⟩:=v;obtain⟨a,cap,rfl⟩:∃a cap,Y= .slice a s.stk.length cap:=M.stk.slice;obtain⟨ks,C,E⟩:=M.stk.cells;have b1:=zlt M.h;have c1:W.cell? ⟨b,0,none⟩=some (.slice a s.stk.length cap):=M.cell (k:=0) rfl;have f0:∀o,W.frozen? ⟨b,o,none⟩=false:=fun o=>M.frozen o;have I:=zh3 M C E;by_cases h0:s.stk.length=0
 .have J:s.stk=[]:=List.length_eq_zero_iff.1 h0
  have F:s.top=yag:=by unfold MS.top;rw[J];rfl
  have V:s.pop=s:=by unfold MS.pop;rw[J];simp only[List.dropLast_nil];rw[<-J]
  have D:=zh2 F V;have R:((s.stk.length:Int)==0)=true:=by rw[beq_iff_eq];omega
  clear J F V C E M h0;go_in;go_wp2_with fail;exact zng (v:=.agg #[.int .i64 0,.int .i64 0,.string ⟨#[]⟩,.slice none 0 0]) (by simp only[results,Tryz.results159];go_simp) rfl ⟨.slice a s.stk.length cap,⟨0,0,⟨#[]⟩,none,0,0⟩,rfl,zhd (by
   have B:Below W W _:=(znv W.heap.size W).alloc (znc _) (.cells #[.int .i64 0,.int .i64 0,.string ⟨#[]⟩,.slice none 0 0] 38);rw[D.o.1,D.o.2];exact⟨I.o.1.ext B,MK.ext B,yaI _ _⟩)⟩
 .obtain⟨n,K⟩:∃n,s.stk.length=n+1:=⟨s.stk.length - 1,by omega⟩
  obtain⟨x,P⟩:=yae (l:=s.stk) (k:=n) (by omega);obtain⟨⟨U,T,S,O,L,N⟩,Q,X⟩:=E.get P;obtain⟨g,A,rfl,hg⟩:=C.addr Q;have H:=fun(j:Nat) (hj:j<4)=>C.cell Q (j:=j) hj;have m0:W.cell? ⟨g,A+n*4,none⟩=some (.int .i64 U):=H 0 (by decide);have m1:W.cell? ⟨g,A+n*4+1,none⟩=some (.int .i64 T):=by rw[zmm];exact H 1 (by decide)
  have z:W.cell? ⟨g,A+n*4+2,none⟩=some (.string S):=by rw[zmm];exact H 2 (by decide)
  have y:W.cell? ⟨g,A+n*4+3,none⟩=some (.slice O L N):=by rw[zmm];exact H 3 (by decide)
  have F:s.top=x:=by
   unfold MS.top;rw[List.getLast?_eq_getElem?,show s.stk.length - 1=n from by omega,P];rfl
  have D:=zh3 F X K;have t:¬g=b:=fun e=>absurd (I.o.1.sep 1 0 g rfl (by rw[e];rfl)) (by decide);rw[K]at c1;have R:(((n+1:Nat):Int)==0)=false:=by rw[zna];omega
  have G:(n:Int)<9223372036854775807:=by
   have i:=C.length_le;have:=E.1;unfold maxLen at i;omega
  have d:wrap64 (n:Int)=(n:Int):=by unfold wrap64;omega
  clear G;obtain⟨f,_⟩:=ykY yfO (K▸C) (k:=n) (by have:=E.1;omega);clear X F Q P H C E M K;go_in;go_wp2_with fail;exact zng (v:=.agg #[U,T,S,.slice O L N]) (by simp only[results,Tryz.results159];go_simp) rfl ⟨.slice (some ⟨g,A,none⟩) n n,⟨U,T,S,O,L,N⟩,rfl,zhd (by
   have C:=I.o.2.1;rw[D.o.2.2]at C;rw[D.o.1];exact ykg (n:=n+1) (x:=x) (wx:=W) I.o.1 (by rw[D.o.2.2]) D.o.2.2 C I.o.2.2 D.o.2.1 (znv _ _) ((((Keeps.refl (fun j=>W<=j) _).alloc _).alloc _)))⟩
theorem MX.box {T:MT}{Z:Nat->Prop}{W:World}{b X o:Nat}{u:Value}{v:MV}{p:Img}{s:MS}(M:MX T Z W b v p s)(h1:¬MO v b X)(h2:¬Z X):MX T Z (W.setCell ⟨X,o,none⟩ u) b v p s:=
 M.far (S:=fun j=>j=X) (Keeps.setCell (S:=fun j=>j=X) (p:=⟨X,o,none⟩) (Keeps.refl _ _) (.inl rfl) _) (fun _ e=>e▸h1) (fun _ e=>e▸h2)
theorem MX.allo {T:MT}{Z:Nat->Prop}{W:World}{b:Nat}{v:MV}{p:Img}{s:MS}(M:MX T Z W b v p s)(o:Obj):MX T Z (W.alloc o) b v p s:=M.ext (zal)
theorem MK.box {b X o:Nat}{u:Value}{v v':MV}{W w1:World}(K:MK b v W v' w1)(h:W<=X):MK b v W v' (w1.setCell ⟨X,o,none⟩ u):=K.late (Keeps.setCell (S:=fun j=>W<=j) (p:=⟨X,o,none⟩) (Keeps.refl _ _) (.inl h) _)
theorem MK.allo {b:Nat}{v v':MV}{W w1:World}(K:MK b v W v' w1)(o:Obj):MK b v W v' (w1.alloc o):=K.late ((Keeps.refl _ _).alloc _)
theorem MK.drw {b:Nat}{v v':MV}{W w1:World}(K:MK b v W v' w1):MK b v W v' w1.drew:=K.late ((zkb (S:=fun _=>False) (znv _ _).drew).mono (fun _ _ f=>f.elim))
theorem ymL {F:Nat->Prop}{w:World}{X o:Nat}{u:Value}{c:VC}{x:Val}(C:CF F w c x)(h:¬F X):CF F (w.setCell ⟨X,o,none⟩ u) c x:=C.keep (Keeps.setCell (S:=fun j=>j=X) (p:=⟨X,o,none⟩) (Keeps.refl _ _) (.inl rfl) _) (fun _ hg e=>h (e▸hg))
theorem yhI {F:Nat->Prop}{w:World}{c:VC}{x:Val}(C:CF F w c x)(o:Obj):CF F (w.alloc o) c x:=C.keep (S:=fun _=>False) ((Keeps.refl _ _).alloc _) (fun _ _ f=>f)
theorem yig
  {Z:Nat->Prop}(b:Nat)(v:MV)(p:Img)(s:MS)(W:World)(M:MX TT Z W b v p s)
  :Calls Tryz.prog 159 #[.pointer (some ⟨b,0,none⟩)] W (fun e w'=>∃(v':MV) (ck cn:Int) (cs:ByteArray) (la:Option Addr) (ln lc:Nat),e= .returned (.agg #[ck,cn,cs,.slice la ln lc])/\Hid (MX TT Z w' b v' p s.pop/\MK b v W v' w'/\CF (MZ Z v' b) w' ⟨ck,cn,cs,la,ln,lc⟩ s.top)/\
   (∀X,X<W.heap.size->¬MO v b X->∀o,w'.cell? ⟨X,o,none⟩=W.cell? ⟨X,o,none⟩)/\(∀X,X<W.heap.size->¬MO v b X->∀o,w'.frozen? ⟨X,o,none⟩=W.frozen? ⟨X,o,none⟩)/\(∀X,X<W.heap.size->X<w'.heap.size)):=
 (yaj b v p s W M).mono fun _ _ ⟨v',⟨ck,cn,cs,la,ln,lc⟩,he,H⟩=>⟨v',ck,cn,cs,la,ln,lc,he,H,fun X h1 h2 o=>H.o.2.1.keeps.cell (p:=⟨X,o,none⟩) h1 h2,fun X h1 h2 o=>H.o.2.1.keeps.frozen (p:=⟨X,o,none⟩) h1 h2,fun _ h=>znj h H.o.2.1.keeps.size⟩
def yp0 (Z:Nat->Prop)(b:Nat)(v:MV)(p:Img)(s:MS)(w4:World)(v6 v7:Value)(wx:World):Prop:=
 ∃(B6 B7:Nat) (vv:MV) (c d:VC),v6= .pointer (some ⟨B6,0,none⟩)/\v7= .pointer (some ⟨B7,0,none⟩)/\Hid ((wx.cell? ⟨B6,0,none⟩=some (.int .i64 c.kind)/\wx.cell? ⟨B6,1,none⟩=some (.int .i64 c.n)/\wx.cell? ⟨B6,2,none⟩=some (.string c.s)/\wx.cell? ⟨B6,3,none⟩=some (.slice c.la c.ln c.lc)/\B6<wx.heap.size)/\
  (wx.cell? ⟨B7,0,none⟩=some (.int .i64 d.kind)/\wx.cell? ⟨B7,1,none⟩=some (.int .i64 d.n)/\wx.cell? ⟨B7,2,none⟩=some (.string d.s)/\wx.cell? ⟨B7,3,none⟩=some (.slice d.la d.ln d.lc)/\B7<wx.heap.size)/\
  ¬MO vv b B7/\MX TT Z wx b vv p s.pop.pop/\MK b v w4 vv wx/\CF (MZ Z vv b) wx c s.top/\CF (MZ Z vv b) wx d s.pop.top)
theorem yjW
  {Z:Nat->Prop}(b:Nat)(v:MV)(p:Img)(s:MS)(W:World)(M:MX TT Z W b v p s)
  (op a:Int)(hop:op=4)(hc:p.code[s.at_]? =some ⟨op,a⟩)(nm:ByteArray)(od ii oo:Int)(hof:ofL op=(⟨nm,od,ii,oo,false,false,false⟩,true))(hat:s.at_<=4294967296)(hk:s.stk.length<=4294967296)(s':MS)
  (hs':s'=(s.nxt.pop.pop.push s.nxt.top).push s.nxt.pop.top)(h2:2<=s.stk.length):
  Calls Tryz.prog 139 #[.pointer (some ⟨b,0,none⟩)] W (MP Z W b v p (.bool true) s')
  :=by
 have Ab:s.nxt.pop.pop.stk.length<=4294967296:=by
  show(s.stk.dropLast).dropLast.length<=_;simp;omega
 have Aa:(s.nxt.pop.pop.push s.nxt.top).stk.length<=4294967296:=by
  show((s.stk.dropLast).dropLast++[_]).length<=_;rw[znk,zmh,zmi,zmi];omega
 have Ae:=zhd hop;have hE:=zhd hs';clear hop hs';have A2:wrap64 ((s.at_:Int)+1)=(s.at_:Int)+1:=by unfold wrap64;omega
 have OF:=zhd (ybc op _ _ hof);clear hof;obtain⟨g,Ah,y,_,gl,_,m0,m1⟩:=M.img.code_at (znv _ _) hc;have u:=M.img.lens.1;have c1:W.cell? ⟨b,1,none⟩=some (.slice v.ic.ca v.ic.cn v.ic.cc):=M.cell (k:=1) rfl;rw[y,u]at c1;have c6:W.cell? ⟨b,6,none⟩=some (.int .i64 (s.at_:Int)):=M.cell (k:=6) rfl;have b0:=zlt M.h;have Ac:(s.at_:Int)<(p.code.length:Int):=by have:=(zge hc).1;omega
 have HX:=zhd M;clear M y u hc;go_in;go_upto_region 1 with(fail);go_region
 all_goals
  go_upto_region 2 with(fail);refine yab ?_;intro w1 T;have B1:Below W W w1:=by rw[T];exact(zal).drew
  have N:w1.heap[W.heap.size]? =some (.cells #[op,a] 106 (0,0)):=by rw[T];exact znb _ _
  have e0:=zca N 0 rfl;have el:=zlt N;have H1:=zh2 B1 N;clear T B1 N;go_wp2_with fail;refine(OF.o _).mono ?_;rintro e w2 ⟨rfl,i⟩;have z:=(i.block W el).trans H1.o.2;have H2:=zh2 (H1.o.1.trans (i.mono H1.o.1.size)) z;clear i z e0 el;go_upto_region 3 with(fail);refine yab ?_;intro w3 L;have B3:Below W W w3:=by rw[L];exact H2.o.1.alloc H2.o.1.size _
  have D:=zha L;have H:w3.heap[W.heap.size]? =some (.cells #[op,a] 106 (0,0)):=by rw[L];exact(zne _ _ _ (zlt H2.o.2)).trans H2.o.2
  have f4:=zca D 4 rfl;have f5:=zca D 5 rfl;have f6:=zca D 6 rfl;have e0:=zca H 0 rfl;have e1:=zca H 1 rfl;have il:=zlt D;have el:=zlt H;have M3:=HX.o.ext B3;have r:=zh3 B3 M3 H;clear L B3 D H M3;have c6:w3.cell? ⟨b,6,none⟩=some (.int .i64 (s.at_:Int)):=r.o.2.1.cell (k:=6) rfl;have f0:∀o,w3.frozen? ⟨b,o,none⟩=false:=fun o=>r.o.2.1.frozen o;have b3:=zlt r.o.2.1.h;go_upto_region 14 with(fail);refine yab ?_;intro w4 R;have S4:=r.o.2.1.scalar 6 (.int .i64 ((s.at_:Int)+1)) s.nxt rfl rfl rfl rfl rfl rfl rfl rfl;rw[<-R]at S4;have G:w4.heap[W.heap.size]? =some (.cells #[op,a] 106 (0,0)):=by
   rw[R,znn _ _ _ _ (fun e=>by have e:W.heap.size=b:=e;omega)];exact r.o.2.2
  have g0:=zca G 0 rfl;have g1:=zca G 1 rfl;have gl:=zlt G;have H4:=zh3 S4.1 ((MK.ext r.o.1).trans S4.2) G;have b4:=zlt S4.1.h;have Ag:s.nxt.stk.length<=4294967296:=hk;clear S4 R G f4 f5 f6 e0 e1 c6 f0 b3 il el c1 m0 m1 Ac;have hop:=Ae.o;subst hop;obtain⟨P,O⟩:∃P:Nat->Prop,P=fun j=>Z j/\j<w4:=⟨_,rfl⟩;have M4:MX TT P w4 b v p s.nxt:=by rw[O];exact H4.o.1.cut
  have t:∀X,w4.heap.size<=X->¬P X:=fun X h e=>by rw[O]at e;have:=e.2;omega
  have l:=zh3 M4 O t;have B:∀X,w4.heap.size<=X->¬MO v b X:=fun X h e=>by have:=M4.lt e;omega
  clear M4 t O;go_upto_region 23 with(fail);go_cut [6,7] (fun I v7 wx=>yp0 P b v p s.nxt w4 I v7 wx)
  case first=>
   go_region_law (first
    |(go_simp;go_at_call 159;refine(yig (Z:=P) b n p s.nxt.pop _ ?_).mono ?_;(repeat(first|exact m.o.1|refine MX.allo ?_ _|refine MX.box ?_ (by first|exact A _ (by omega)|exact x0|exact x1) (l.o.2.2 _ (by omega))));rintro e w6 ⟨I,dk,dn,ds,ma,mn,mc,rfl,K,F,E,C⟩;(try(refine have k0:w4<w6.heap.size:= ?_; ?_;(focus (refine C _ ?_;(first|assumption|(simp;done)|(simp;omega))))));(try(refine have p0:=F w4.heap.size ?_ ?_; ?_;(focus (first|assumption|(simp;done)|(simp;omega)));(focus (exact x0))));(try(refine have q0:=E w4.heap.size ?_ ?_; ?_;(focus (first|assumption|(simp;done)|(simp;omega)));(focus (exact x0))));(try(refine have f0:¬MO I b w4.heap.size:= ?_; ?_;(focus (intro e;rcases K.o.2.1.own _ e with h|h;(focus (exact x0 h));(focus (first|omega|(simp at h;done)|(simp at h;omega)))))));(try(refine have e0:¬w4.heap.size=w6.heap.size:= ?_; ?_;(focus (omega))));(try(refine have Au:¬w6.heap.size=w4.heap.size:= ?_; ?_;(focus (omega))));(try(refine have At:¬w4.heap.size=w6.heap.size+1:= ?_; ?_;(focus (omega))));(try(refine have As:¬w6.heap.size+1=w4.heap.size:= ?_; ?_;(focus (omega))));(try(refine have k1:(w4.heap.size+1)<w6.heap.size:= ?_; ?_;(focus (refine C _ ?_;(first|assumption|(simp;done)|(simp;omega))))));(try(refine have p1:=F (w4.heap.size+1) ?_ ?_; ?_;(focus (first|assumption|(simp;done)|(simp;omega)));(focus (exact x1))));(try(refine have q1:=E (w4.heap.size+1) ?_ ?_; ?_;(focus (first|assumption|(simp;done)|(simp;omega)));(focus (exact x1))));(try(refine have f1:¬MO I b (w4.heap.size+1):= ?_; ?_;(focus (intro e;rcases K.o.2.1.own _ e with h|h;(focus (exact x1 h));(focus (first|omega|(simp at h;done)|(simp at h;omega)))))));(try(refine have e1:¬(w4.heap.size+1)=w6.heap.size:= ?_; ?_;(focus (omega))));(try(refine have Ar:¬w6.heap.size=(w4.heap.size+1):= ?_; ?_;(focus (omega))));(try(refine have Aq:¬(w4.heap.size+1)=w6.heap.size+1:= ?_; ?_;(focus (omega))));(try(refine have Ap:¬w6.heap.size+1=(w4.heap.size+1):= ?_; ?_;(focus (omega))));(try(refine have k2:w5<w6.heap.size:= ?_; ?_;(focus (refine C _ ?_;(first|assumption|(simp;done)|(simp;omega))))));(try(refine have p2:=F w5.heap.size ?_ ?_; ?_;(focus (first|assumption|(simp;done)|(simp;omega)));(focus (exact(A _ (znc _))))));(try(refine have q2:=E w5.heap.size ?_ ?_; ?_;(focus (first|assumption|(simp;done)|(simp;omega)));(focus (exact(A _ (znc _))))));(try(refine have f2:¬MO I b w5.heap.size:= ?_; ?_;(focus (intro e;rcases K.o.2.1.own _ e with h|h;(focus (exact(A _ (znc _)) h));(focus (first|omega|(simp at h;done)|(simp at h;omega)))))));(try(refine have e2:¬w5.heap.size=w6.heap.size:= ?_; ?_;(focus (omega))));(try(refine have Ao:¬w6.heap.size=w5.heap.size:= ?_; ?_;(focus (omega))));(try(refine have An:¬w5.heap.size=w6.heap.size+1:= ?_; ?_;(focus (omega))));(try(refine have Am:¬w6.heap.size+1=w5.heap.size:= ?_; ?_;(focus (omega))));(try(refine have k3:(w5.heap.size+1)<w6.heap.size:= ?_; ?_;(focus (refine C _ ?_;(first|assumption|(simp;done)|(simp;omega))))));(try(refine have p3:=F (w5.heap.size+1) ?_ ?_; ?_;(focus (first|assumption|(simp;done)|(simp;omega)));(focus (exact(A _ (Nat.le_succ _))))));(try(refine have q3:=E (w5.heap.size+1) ?_ ?_; ?_;(focus (first|assumption|(simp;done)|(simp;omega)));(focus (exact(A _ (Nat.le_succ _))))));(try(refine have f3:¬MO I b (w5.heap.size+1):= ?_; ?_;(focus (intro e;rcases K.o.2.1.own _ e with h|h;(focus (exact(A _ (Nat.le_succ _)) h));(focus (first|omega|(simp at h;done)|(simp at h;omega)))))));(try(refine have e3:¬(w5.heap.size+1)=w6.heap.size:= ?_; ?_;(focus (omega))));(try(refine have Al:¬w6.heap.size=(w5.heap.size+1):= ?_; ?_;(focus (omega))));(try(refine have Ak:¬(w5.heap.size+1)=w6.heap.size+1:= ?_; ?_;(focus (omega))));(try(refine have Aj:¬w6.heap.size+1=(w5.heap.size+1):= ?_; ?_;(focus (omega))));clear F E C)
    |(go_simp;go_at_call 159;refine(yig (Z:=P) b v p s.nxt _ ?_).mono ?_;(repeat(first|exact l.o.1|refine MX.allo ?_ _|refine MX.ext ?_ (znv _ _).drew));rintro e w5 ⟨n,ck,cn,cs,la,ln,lc,rfl,m,d,Y,V⟩;have A:∀X,w5.heap.size<=X->¬MO n b X:=(fun X h e=>by have:=m.o.1.lt e;omega);have U:w4<=w5.heap.size:=(by have:=m.o.2.1.keeps.size;simp at this;omega);(try(refine have g0:w4<w5.heap.size:= ?_; ?_;(focus (refine V _ ?_;(first|(simp;done)|(simp;omega))))));(try(refine have z0:=d w4.heap.size ?_ ?_; ?_;(focus (first|(simp;done)|(simp;omega)));(focus (refine B _ ?_;omega))));(try(refine have y0:=Y w4.heap.size ?_ ?_; ?_;(focus (first|(simp;done)|(simp;omega)));(focus (refine B _ ?_;omega))));(try(refine have x0:¬MO n b w4.heap.size:= ?_; ?_;(focus (intro e;rcases m.o.2.1.own _ e with h|h;(focus (exact B _ (znc _) h));(focus (first|omega|(simp at h;done)|(simp at h;omega)))))));(try(refine have d0:¬w4.heap.size=w5.heap.size:= ?_; ?_;(focus (omega))));(try(refine have A1:¬w5.heap.size=w4.heap.size:= ?_; ?_;(focus (omega))));(try(refine have A0:¬w4.heap.size=w5.heap.size+1:= ?_; ?_;(focus (omega))));(try(refine have Az:¬w5.heap.size+1=w4.heap.size:= ?_; ?_;(focus (omega))));(try(refine have g1:(w4.heap.size+1)<w5.heap.size:= ?_; ?_;(focus (refine V _ ?_;(first|(simp;done)|(simp;omega))))));(try(refine have z1:=d (w4.heap.size+1) ?_ ?_; ?_;(focus (first|(simp;done)|(simp;omega)));(focus (refine B _ ?_;omega))));(try(refine have y1:=Y (w4.heap.size+1) ?_ ?_; ?_;(focus (first|(simp;done)|(simp;omega)));(focus (refine B _ ?_;omega))));(try(refine have x1:¬MO n b (w4.heap.size+1):= ?_; ?_;(focus (intro e;rcases m.o.2.1.own _ e with h|h;(focus (exact B _ (Nat.le_add_right _ _) h));(focus (first|omega|(simp at h;done)|(simp at h;omega)))))));(try(refine have d1:¬(w4.heap.size+1)=w5.heap.size:= ?_; ?_;(focus (omega))));(try(refine have Ay:¬w5.heap.size=(w4.heap.size+1):= ?_; ?_;(focus (omega))));(try(refine have Ax:¬(w4.heap.size+1)=w5.heap.size+1:= ?_; ?_;(focus (omega))));(try(refine have Av:¬w5.heap.size+1=(w4.heap.size+1):= ?_; ?_;(focus (omega))));clear d Y V))
   all_goals
    go_wp2_with fail;go_meet
    case rel=>
     have K5:MK b v w4 n w5:=by
      refine MK.trans ?_ m.o.2.1
      repeat(with_reducible first|exact MK.refl _ _ _|refine MK.allo ?_ _|refine MK.drw ?_)
     have K6:MK b v w4 I w6:=by
      refine MK.trans (v':=n) ?_ K.o.2.1
      repeat(with_reducible first|exact K5|refine MK.allo ?_ _)
     have C6:=CF.step K.o.2.1 (c:=⟨ck,cn,cs,la,ln,lc⟩) (x:=s.nxt.top) (by repeat(with_reducible first|exact m.o.2.2|refine yhI ?_ _));have Ai:=K6.keeps.size;have f6:¬MO I b w6.heap.size:=fun e=>Nat.lt_irrefl _ (K.o.1.lt e);have f7:¬MO I b (w6.heap.size+1):=fun e=>by have:=K.o.1.lt e;omega
     have c0:=l.o.2.2 w4.heap.size (znc _);have c1:=l.o.2.2 (w4.heap.size+1) (Nat.le_succ _);have c2:=l.o.2.2 w5.heap.size U;have c3:=l.o.2.2 (w5.heap.size+1) (Nat.le_succ_of_le U);have u0:w4<=w4.heap.size:=znc _;have u1:w4<=w4.heap.size+1:=Nat.le_succ _;have u3:w4<=w5.heap.size+1:=Nat.le_succ_of_le U;refine⟨_,_,I,⟨ck,cn,cs,la,ln,lc⟩,⟨dk,dn,ds,ma,mn,mc⟩,rfl,rfl,zhd ⟨⟨(by first|(go_simp;done)|(simp;done)|(simp;omega)),(by first|(go_simp;done)|(simp;done)|(simp;omega)),(by first|(go_simp;done)|(simp;done)|(simp;omega)),(by first|(go_simp;done)|(simp;done)|(simp;omega)),(by first|(go_simp;done)|(simp;done)|(simp;omega))⟩,⟨(by first|(go_simp;done)|(simp;done)|(simp;omega)),(by first|(go_simp;done)|(simp;done)|(simp;omega)),(by first|(go_simp;done)|(simp;done)|(simp;omega)),(by first|(go_simp;done)|(simp;done)|(simp;omega)),(by first|(go_simp;done)|(simp;done)|(simp;omega))⟩,(by first|assumption|(simp;assumption)),?_,?_,?_,?_⟩⟩
     .repeat(first|with_reducible exact K.o.1|with_reducible refine MX.allo ?_ _|((with_reducible refine MX.box ?_ ?_ ?_);rotate_left;(focus assumption);(focus assumption)))
     .repeat(first|with_reducible exact K6|with_reducible refine MK.allo ?_ _|((with_reducible refine MK.box ?_ ?_);rotate_left;(focus assumption)))
     .repeat(first|with_reducible exact C6|with_reducible refine yhI ?_ _|((with_reducible refine ymL ?_ ?_);rotate_left;(focus (intro h;first|exact c0 h.2|exact c1 h.2|exact c2 h.2|exact c3 h.2))))
     .repeat(first|with_reducible exact K.o.2.2|with_reducible refine yhI ?_ _|((with_reducible refine ymL ?_ ?_);rotate_left;(focus (intro h;first|exact c0 h.2|exact c1 h.2|exact c2 h.2|exact c3 h.2))))
  case rest=>
   obtain⟨B6,B7,vv,⟨ck,cn,cs,la,ln,lc⟩,⟨dk,dn,ds,ma,mn,mc⟩,rfl,rfl,J⟩:=hcut;obtain⟨q0,q1,q2,q3,ql⟩:=J.o.1;dsimp only at q0 q1 q2 q3;have PU:=zhd (yak b vv p s.nxt.pop.pop wc.drew (J.o.2.2.2.1.ext (znv _ _).drew) s.nxt.top ck cn cs la ln lc (J.o.2.2.2.2.2.1.keep (S:=fun _=>False) (zkb (znv _ _).drew) (fun _ _ f=>f)) Ab);go_upto_region 24 with(fail);go_region_law ((go_simp;go_at_call 119;refine PU.o.mono ?_;rintro e w8 ⟨v8,rfl,H8⟩))
   all_goals
    have Q:MK b vv wc v8 w8:=(MK.ext (znv wc.heap.size wc).drew).trans H8.o.2;obtain⟨r0,r1,r2,r3,q⟩:=J.o.2.1;dsimp only at r0 r1 r2 r3;have y0:=(Q.keeps.cell (p:=⟨B7,0,none⟩) q J.o.2.2.1).trans r0;have y1:=(Q.keeps.cell (p:=⟨B7,1,none⟩) q J.o.2.2.1).trans r1;have y2:=(Q.keeps.cell (p:=⟨B7,2,none⟩) q J.o.2.2.1).trans r2;have y3:=(Q.keeps.cell (p:=⟨B7,3,none⟩) q J.o.2.2.1).trans r3;have yl:B7<w8.heap.size:=znj q Q.keeps.size;have C8:=CF.step Q J.o.2.2.2.2.2.2;have Ad:=zhd (yak b v8 p (s.nxt.pop.pop.push s.nxt.top) w8.drew (H8.o.1.ext (znv _ _).drew) s.nxt.pop.top dk dn ds ma mn mc (C8.keep (S:=fun _=>False) (zkb (znv _ _).drew) (fun _ _ f=>f)) Aa);have Af:=zhd Q;clear r0 r1 r2 r3 q Q C8 q0 q1 q2 q3 ql;go_upto_region 25 with(fail);go_region_law ((go_simp;go_at_call 119;refine Ad.o.mono ?_;rintro e w9 ⟨v9,rfl,H9⟩))
    all_goals
     go_wp2;go_ret;refine⟨v9,rfl,zhd ⟨?_,H4.o.2.1.trans (J.o.2.2.2.2.1.trans (Af.o.trans ((MK.ext (znv w8.heap.size w8).drew).trans H9.o.2)))⟩⟩;rw[hE.o];exact H9.o.1.monoZ (fun j h _=>by have h:P j:=h;rw[l.o.2.1]at h;exact h.1)
theorem yiW
  {Z:Nat->Prop}(b:Nat)(v:MV)(p:Img)(s:MS)(W:World)(M:MX TT Z W b v p s)
  (op a:Int)(hop:op=14)(hc:p.code[s.at_]? =some ⟨op,a⟩)(nm:ByteArray)(od ii oo:Int)(hof:ofL op=(⟨nm,od,ii,oo,false,false,false⟩,true))(hat:s.at_<=4294967296)(hk:s.stk.length<=4294967296)(s':MS)
  (k:Nat)(x:Val)(hak:a=k)(hx:s.places[k]? =some x)(hs':s'={s.nxt.pop with places:=s.places.set k s.top}):
  Calls Tryz.prog 139 #[.pointer (some ⟨b,0,none⟩)] W (MP Z W b v p (.bool true) s')
  :=by
 have Ah:=zhd hak;clear hak;have Ak:(k:Int)<(s.places.length:Int):=by have:=(zge hx).1;omega
 have d:=zhd hx;clear hx;have Ag:=zhd hop;have hE:=zhd hs';clear hop hs';have Al:wrap64 ((s.at_:Int)+1)=(s.at_:Int)+1:=by unfold wrap64;omega
 have OF:=zhd (ybc op _ _ hof);clear hof;obtain⟨g,Aj,Aa,_,gl,_,m0,m1⟩:=M.img.code_at (znv _ _) hc;have z:=M.img.lens.1;have c1:W.cell? ⟨b,1,none⟩=some (.slice v.ic.ca v.ic.cn v.ic.cc):=M.cell (k:=1) rfl;rw[Aa,z]at c1;have c6:W.cell? ⟨b,6,none⟩=some (.int .i64 (s.at_:Int)):=M.cell (k:=6) rfl;have b0:=zlt M.h;have Af:(s.at_:Int)<(p.code.length:Int):=by have:=(zge hc).1;omega
 have HX:=zhd M;clear M Aa z hc;go_in;go_upto_region 1 with(fail);go_region
 all_goals
  go_upto_region 2 with(fail);refine yab ?_;intro w1 V;have B1:Below W W w1:=by rw[V];exact(zal).drew
  have L:w1.heap[W.heap.size]? =some (.cells #[op,a] 106 (0,0)):=by rw[V];exact znb _ _
  have e0:=zca L 0 rfl;have el:=zlt L;have H1:=zh2 B1 L;clear V B1 L;go_wp2_with fail;refine(OF.o _).mono ?_;rintro e w2 ⟨rfl,c⟩;have Ab:=(c.block W el).trans H1.o.2;have H2:=zh2 (H1.o.1.trans (c.mono H1.o.1.size)) Ab;clear c Ab e0 el;go_upto_region 3 with(fail);refine yab ?_;intro w3 J;have B3:Below W W w3:=by rw[J];exact H2.o.1.alloc H2.o.1.size _
  have F:=zha J;have H:w3.heap[W.heap.size]? =some (.cells #[op,a] 106 (0,0)):=by rw[J];exact(zne _ _ _ (zlt H2.o.2)).trans H2.o.2
  have f4:=zca F 4 rfl;have f5:=zca F 5 rfl;have f6:=zca F 6 rfl;have e0:=zca H 0 rfl;have e1:=zca H 1 rfl;have il:=zlt F;have el:=zlt H;have M3:=HX.o.ext B3;have t:=zh3 B3 M3 H;clear J B3 F H M3;have c6:w3.cell? ⟨b,6,none⟩=some (.int .i64 (s.at_:Int)):=t.o.2.1.cell (k:=6) rfl;have f0:∀o,w3.frozen? ⟨b,o,none⟩=false:=fun o=>t.o.2.1.frozen o;have b3:=zlt t.o.2.1.h;go_upto_region 14 with(fail);refine yab ?_;intro r U;have S4:=t.o.2.1.scalar 6 (.int .i64 ((s.at_:Int)+1)) s.nxt rfl rfl rfl rfl rfl rfl rfl rfl;rw[<-U]at S4;have G:r.heap[W.heap.size]? =some (.cells #[op,a] 106 (0,0)):=by
   rw[U,znn _ _ _ _ (fun e=>by have e:W.heap.size=b:=e;omega)];exact t.o.2.2
  have g0:=zca G 0 rfl;have g1:=zca G 1 rfl;have gl:=zlt G;have q:=zh3 S4.1 ((MK.ext t.o.1).trans S4.2) G;have b4:=zlt S4.1.h;have Ai:s.nxt.stk.length<=4294967296:=hk;clear S4 U G f4 f5 f6 e0 e1 c6 f0 b3 il el c1 m0 m1 Af;have hop:=Ag.o;subst hop;have hak:=Ah.o;subst hak;obtain⟨pa,T,K⟩:∃a cap,v.ps= .slice a s.places.length cap:=q.o.1.pls.slice;have c5:r.cell? ⟨b,5,none⟩=some (.slice pa s.places.length T):=by rw[<-K];exact q.o.1.cell (k:=5) rfl
  obtain⟨pg,A,kc,Ae,Ac,_,_,_⟩:=(show XRow _ r 38 (.slice pa s.places.length T) s.places from K▸q.o.1.pls).at_ d.o;subst Ae;have PO:=zhd (yjc b v p _ r.drew (q.o.1.ext (znv _ _).drew));have m:=zhd K;clear K;go_upto_region 29 with(fail)
  go_region_law ((go_simp;go_at_call 159;refine PO.o.mono ?_;rintro e D ⟨y,⟨ck,cn,cs,la,ln,lc⟩,rfl,O⟩;have X:=(O.o.2.1.keeps.block W (by exact zlt q.o.2.2) (fun e=>Nat.lt_irrefl _ (HX.o.lt e))).trans q.o.2.2;have y1:D.cell? ⟨W,1,none⟩=some (.int .i64 (k:Int)):=(by rw[zch X];rfl);have y0:=zlt X;have z5:D.cell? ⟨b,5,none⟩=some (.slice (some ⟨pg,A,none⟩) s.places.length T):=(by rw[<-m.o];exact O.o.1.cell (k:=5) rfl);have zb:=zlt O.o.1.h;have zp:pg<D.heap.size:=znj Ac (O.o.2.1.keeps.size);obtain⟨ks5,R,Y⟩:=O.o.1.pls.cells;have N:RowAt D 38 (.slice (some ⟨pg,A,none⟩) s.places.length T) ks5:=(by have h:RowAt D 38 v.ps ks5:=R;rw[m.o]at h;exact h);obtain⟨C,Q⟩:=yae (l:=ks5) (k:=k) (by rw[Y.1];exact(zge d.o).1);have u:=fun(j:Nat) (hj:j<4)=>N.cell Q (j:=j) hj;have zc0:D.cell? ⟨pg,A+k*4,none⟩=some (.int .i64 C.kind):=u 0 (by decide);have zc1:D.cell? ⟨pg,A+k*4+1,none⟩=some (.int .i64 C.n):=(by rw[zmm];exact u 1 (by decide));have zc2:D.cell? ⟨pg,A+k*4+2,none⟩=some (.string C.s):=(by rw[zmm];exact u 2 (by decide));have zc3:D.cell? ⟨pg,A+k*4+3,none⟩=some (.slice C.la C.ln C.lc):=(by rw[zmm];exact u 3 (by decide));have zpf:∀o,D.frozen? ⟨pg,o,none⟩=false:=(fun o=>N.frozen o);have f:=zh2 N Y;clear X u Q N R Y))
  all_goals
   obtain⟨w6,I⟩:∃w6,w6=((((D.setCell ⟨pg,A+k*4,none⟩ (.int .i64 ck)).setCell ⟨pg,A+k*4+1,none⟩ (.int .i64 cn)).setCell ⟨pg,A+k*4+2,none⟩ (.string cs)).setCell ⟨pg,A+k*4+3,none⟩ (.slice la ln lc)):=⟨_,rfl⟩;rw[<-I];have P:=f.o.1.set (i:=k) (by rw[f.o.2.1];exact(zge d.o).1) ⟨ck,cn,cs,la,ln,lc⟩;have E:RowAt w6 38 (.slice (some ⟨pg,A,none⟩) s.places.length T) (ks5.set k ⟨ck,cn,cs,la,ln,lc⟩):=by rw[I];exact P
   have B:({v with ss:=y}:MV).ps.ownBlock=some pg:=by show v.ps.ownBlock=_;rw[m.o];rfl
   have K4:Keeps (fun j=>({v with ss:=y}:MV).ps.ownBlock=some j) D w6:=by
    rw[I];exact((((Keeps.refl _ _).setCell (p:=⟨pg,A+k*4,none⟩) (.inl B) _).setCell (p:=⟨pg,A+k*4+1,none⟩) (.inl B) _).setCell (p:=⟨pg,A+k*4+2,none⟩) (.inl B) _).setCell (p:=⟨pg,A+k*4+3,none⟩) (.inl B) _
   have S:=O.o.1.putPls (v1:=.slice (some ⟨pg,A,none⟩) s.places.length T) s' E (f.o.2.set k O.o.2.2) K4 (fun g hg=>.inl (by rw[B];exact hg)) hE.o;have Ad:¬b=pg:=fun e=>absurd (O.o.1.sep 2 0 pg B (by rw[e];rfl)) (by decide);have z6:w6.cell? ⟨b,5,none⟩=some (.slice (some ⟨pg,A,none⟩) s.places.length T):=(K4.cell (p:=⟨b,5,none⟩) zb (fun e=>by rw[B]at e;exact Ad (Option.some.inj e).symm)).trans z5;rw[yco z6]at S;have HS:=zhd S;clear S K4 P E I z5 z6 y0 y1 zb zp zc0 zc1 zc2 zc3 zpf;go_wp2;go_ret;exact⟨_,rfl,zhd ⟨HS.o.1,q.o.2.1.trans ((MK.ext (znv r.heap.size r).drew).trans (O.o.2.1.trans HS.o.2))⟩⟩
theorem yeL
  {Z:Nat->Prop}(b:Nat)(v:MV)(p:Img)(s:MS)(W:World)(M:MX TT Z W b v p s)
  (op a:Int)(hop:op=23)(hc:p.code[s.at_]? =some ⟨op,a⟩)(nm:ByteArray)(od ii oo:Int)(hof:ofL op=(⟨nm,od,ii,oo,false,false,false⟩,true))(hat:s.at_<=4294967296)(hk:s.stk.length<=4294967296)(s':MS)
  (k:Nat)(lnm:ByteArray)(hak:a=k)(hnm:p.names[k]? =some lnm)(hf:yao lnm s.letters=none)(hk2:s.stk.length<=4294967295)(hs':s'=(s.nxt.push yag).push (yaE false)):
  Calls Tryz.prog 139 #[.pointer (some ⟨b,0,none⟩)] W (MP Z W b v p (.bool true) s')
  :=by
 have n:=zhd hak;have Ab:(k:Int)<(p.names.length:Int):=by have:=(zge hnm).1;omega
 have m:=zhd hnm;have HF:=zhd hf;have H:(s.nxt.push yag).stk.length<=4294967296:=by
  show(s.stk++[_]).length<=_;rw[znk,zmh];omega
 clear hak hnm hf hk2;have l:=zhd hop;have hE:=zhd hs';clear hop hs';have Ac:wrap64 ((s.at_:Int)+1)=(s.at_:Int)+1:=by unfold wrap64;omega
 have OF:=zhd (ybc op _ _ hof);clear hof;obtain⟨g,Aa,R,_,y,_,m0,m1⟩:=M.img.code_at (znv _ _) hc;have Q:=M.img.lens.1;have c1:W.cell? ⟨b,1,none⟩=some (.slice v.ic.ca v.ic.cn v.ic.cc):=M.cell (k:=1) rfl;rw[R,Q]at c1;have z:W.cell? ⟨b,6,none⟩=some (.int .i64 (s.at_:Int)):=M.cell (k:=6) rfl;have b0:=zlt M.h;have f:(s.at_:Int)<(p.code.length:Int):=by have:=(zge hc).1;omega
 have HX:=zhd M;clear M R Q hc;go_in;go_upto_region 1 with(fail);go_region
 all_goals
  go_upto_region 2 with(fail);refine yab ?_;intro w1 G;have B1:Below W W w1:=by rw[G];exact(zal).drew
  have E:w1.heap[W.heap.size]? =some (.cells #[op,a] 106 (0,0)):=by rw[G];exact znb _ _
  have j:=zca E 0 rfl;have X:=zlt E;have q:=zh2 B1 E;clear G B1 E;go_wp2_with fail;refine(OF.o _).mono ?_;rintro e w2 ⟨rfl,I⟩;have S:=(I.block W X).trans q.o.2;have Y:=zh2 (q.o.1.trans (I.mono q.o.1.size)) S;clear I S j X;go_upto_region 3 with(fail);refine yab ?_;intro w3 D;have t:Below W W w3:=by rw[D];exact Y.o.1.alloc Y.o.1.size _
  have A:=zha D;have C:w3.heap[W.heap.size]? =some (.cells #[op,a] 106 (0,0)):=by rw[D];exact(zne _ _ _ (zlt Y.o.2)).trans Y.o.2
  have f4:=zca A 4 rfl;have f5:=zca A 5 rfl;have f6:=zca A 6 rfl;have j:=zca C 0 rfl;have e1:=zca C 1 rfl;have il:=zlt A;have X:=zlt C;have M3:=HX.o.ext t;have K:=zh3 t M3 C;clear D t A C M3;have z:w3.cell? ⟨b,6,none⟩=some (.int .i64 (s.at_:Int)):=K.o.2.1.cell (k:=6) rfl;have f0:∀o,w3.frozen? ⟨b,o,none⟩=false:=fun o=>K.o.2.1.frozen o;have b3:=zlt K.o.2.1.h;go_upto_region 14 with(fail);refine yab ?_;intro L F;have V:=K.o.2.1.scalar 6 (.int .i64 ((s.at_:Int)+1)) s.nxt rfl rfl rfl rfl rfl rfl rfl rfl;rw[<-F]at V;have B:L.heap[W.heap.size]? =some (.cells #[op,a] 106 (0,0)):=by
   rw[F,znn _ _ _ _ (fun e=>by have e:W.heap.size=b:=e;omega)];exact K.o.2.2
  have g0:=zca B 0 rfl;have g1:=zca B 1 rfl;have y:=zlt B;have J:=zh3 V.1 ((MK.ext K.o.1).trans V.2) B;have b4:=zlt V.1.h;have P:s.nxt.stk.length<=4294967296:=hk;clear V F B f4 f5 f6 j e1 z f0 b3 il X c1 m0 m1 f;have hop:=l.o;subst hop;have hak:=n.o;subst hak;obtain⟨ng,x,O,_,_,d,c⟩:=J.o.1.img.name_at (znv _ _) m.o;have N:=J.o.1.img.lens.2.2;have c3:L.cell? ⟨b,3,none⟩=some (.slice v.ic.na v.ic.nn v.ic.nc):=J.o.1.cell (k:=3) rfl;rw[O,N]at c3;have LT:=zhd (ybo b v p s.nxt L.drew (J.o.1.ext (znv _ _).drew) lnm (-1) (by unfold ltI;show(match yao lnm s.letters with|none=>(-1:Int)|some i=>(i:Int))=_;rw[HF.o]));clear O N;go_upto_region 37 with(fail)
  go_still_tail 10,(by kernel_rfl)
  go_wp2_with fail;refine LT.o.mono ?_;rintro e w5 ⟨rfl,U⟩;have r:Below L L w5:=znw ((znv _ _).drew) U;have M5:=J.o.1.ext r;have H5:=zh2 r M5;clear U r M5 c c3 g0 g1 y d b4;have PU:=zhd (yak b v p s.nxt w5 H5.o.2 yag 0 0 ⟨#[]⟩ none 0 0 (yaI _ _) P);go_wp2_with fail;refine PU.o.mono ?_;rintro e u ⟨v6,rfl,H6⟩;go_upto_region 42 with(fail);go_region_law (first
   |(go_simp;go_at_call 63;refine(ybw false _).mono ?_;rintro e w8 ⟨rfl,T⟩;have H8:=zhd (znw ((znv u.heap.size u).drew) T);clear T)
   |(go_simp;go_at_call 119;refine(yak b v6 p _ w8 (H6.o.1.ext H8.o) (yaE false) 1 _ ⟨#[]⟩ none 0 0 (ybj _ _ _) H).mono ?_;rintro e w9 ⟨v9,rfl,H9⟩))
  all_goals
   go_wp2;go_ret;exact⟨v9,rfl,zhd ⟨by rw[hE.o];exact H9.o.1,J.o.2.1.trans ((MK.ext H5.o.1).trans (H6.o.2.trans ((MK.ext H8.o).trans H9.o.2)))⟩⟩
theorem yjX
  {Z:Nat->Prop}(b:Nat)(v:MV)(p:Img)(s:MS)(W:World)(M:MX TT Z W b v p s)
  (op a:Int)(hop:op=23)(hc:p.code[s.at_]? =some ⟨op,a⟩)(nm:ByteArray)(od ii oo:Int)(hof:ofL op=(⟨nm,od,ii,oo,false,false,false⟩,true))(hat:s.at_<=4294967296)(hk:s.stk.length<=4294967296)(hZ:∀j,W.heap.size<=j->Z j)(s':MS)
  (k:Nat)(lnm:ByteArray)(hak:a=k)(hnm:p.names[k]? =some lnm)(i:Nat)(hf:yao lnm s.letters=some i)(hll:s.letters.length<=4294967296)(hk2:s.stk.length<=4294967295)(hs':s'=((s.nxt.openL i).push (s.letV i)).push (yaE true)):
  Calls Tryz.prog 139 #[.pointer (some ⟨b,0,none⟩)] W (MP Z W b v p (.bool true) s')
  :=by
 have r:=zhd hak;have Ac:(k:Int)<(p.names.length:Int):=by have:=(zge hnm).1;omega
 have q:=zhd hnm;have HF:=zhd hf;obtain⟨x,hx⟩:=Go.Proofs.YtpagmlndgblhhaaGreatDoor.findLt_some hf;have J:=zh3 hx hll hZ;have n8:decide ((0:Int)<=(i:Int))=true:=zno (by omega);have n9:(0:Int)<=(i:Int):=by omega
 have H:((s.nxt.openL i).push (s.letV i)).stk.length<=4294967296:=by
  show(s.stk++[_]).length<=_;rw[znk,zmh];omega
 clear hak hnm hf hk2 hx hll;have n:=zhd hop;have hE:=zhd hs';clear hop hs';have Ad:wrap64 ((s.at_:Int)+1)=(s.at_:Int)+1:=by unfold wrap64;omega
 have OF:=zhd (ybc op _ _ hof);clear hof;obtain⟨g,Ab,S,_,gl,_,m0,m1⟩:=M.img.code_at (znv _ _) hc;have R:=M.img.lens.1;have c1:W.cell? ⟨b,1,none⟩=some (.slice v.ic.ca v.ic.cn v.ic.cc):=M.cell (k:=1) rfl;rw[S,R]at c1;have c6:W.cell? ⟨b,6,none⟩=some (.int .i64 (s.at_:Int)):=M.cell (k:=6) rfl;have b0:=zlt M.h;have l:(s.at_:Int)<(p.code.length:Int):=by have:=(zge hc).1;omega
 have HX:=zhd M;clear M S R hc;go_in;go_upto_region 1 with(fail);go_region
 all_goals
  go_upto_region 2 with(fail);refine yab ?_;intro w1 G;have B1:Below W W w1:=by rw[G];exact(zal).drew
  have E:w1.heap[W.heap.size]? =some (.cells #[op,a] 106 (0,0)):=by rw[G];exact znb _ _
  have m:=zca E 0 rfl;have Y:=zlt E;have y:=zh2 B1 E;clear G B1 E;go_wp2_with fail;refine(OF.o _).mono ?_;rintro e w2 ⟨rfl,I⟩;have T:=(I.block W Y).trans y.o.2;have c:=zh2 (y.o.1.trans (I.mono y.o.1.size)) T;clear I T m Y;go_upto_region 3 with(fail);refine yab ?_;intro w3 D;have B3:Below W W w3:=by rw[D];exact c.o.1.alloc c.o.1.size _
  have A:=zha D;have C:w3.heap[W.heap.size]? =some (.cells #[op,a] 106 (0,0)):=by rw[D];exact(zne _ _ _ (zlt c.o.2)).trans c.o.2
  have f4:=zca A 4 rfl;have f5:=zca A 5 rfl;have f6:=zca A 6 rfl;have m:=zca C 0 rfl;have e1:=zca C 1 rfl;have il:=zlt A;have Y:=zlt C;have M3:=HX.o.ext B3;have L:=zh3 B3 M3 C;clear D B3 A C M3;have c6:w3.cell? ⟨b,6,none⟩=some (.int .i64 (s.at_:Int)):=L.o.2.1.cell (k:=6) rfl;have f0:∀o,w3.frozen? ⟨b,o,none⟩=false:=fun o=>L.o.2.1.frozen o;have b3:=zlt L.o.2.1.h;go_upto_region 14 with(fail);refine yab ?_;intro N F;have X:=L.o.2.1.scalar 6 (.int .i64 ((s.at_:Int)+1)) s.nxt rfl rfl rfl rfl rfl rfl rfl rfl;rw[<-F]at X;have B:N.heap[W.heap.size]? =some (.cells #[op,a] 106 (0,0)):=by
   rw[F,znn _ _ _ _ (fun e=>by have e:W.heap.size=b:=e;omega)];exact L.o.2.2
  have g0:=zca B 0 rfl;have g1:=zca B 1 rfl;have gl:=zlt B;have K:=zh3 X.1 ((MK.ext L.o.1).trans X.2) B;have b4:=zlt X.1.h;have Q:s.nxt.stk.length<=4294967296:=hk;clear X F B f4 f5 f6 m e1 c6 f0 b3 il Y c1 m0 m1 l;have hop:=n.o;subst hop;have hak:=r.o;subst hak;obtain⟨ng,Aa,P,_,_,f,d⟩:=K.o.1.img.name_at (znv _ _) q.o;have O:=K.o.1.img.lens.2.2;have c3:N.cell? ⟨b,3,none⟩=some (.slice v.ic.na v.ic.nn v.ic.nc):=K.o.1.cell (k:=3) rfl;rw[P,O]at c3;have LT:=zhd (ybo b v p s.nxt N.drew (K.o.1.ext (znv _ _).drew) lnm (i:Int) (by unfold ltI;show(match yao lnm s.letters with|none=>(-1:Int)|some i=>(i:Int))=_;rw[HF.o]));clear P O;go_upto_region 37 with(fail)
  go_still_tail 10,(by kernel_rfl)
  go_wp2_with fail;refine LT.o.mono ?_;rintro e w5 ⟨rfl,V⟩;have z:Below N N w5:=znw ((znv _ _).drew) V;have M5:=K.o.1.ext z;have u:=zh2 z M5;clear V z M5 d c3 g0 g1 gl f b4;have OP:=zhd (yfD b v p s.nxt w5.drew (u.o.2.ext (znv _ _).drew) i x J.o.1 J.o.2.1 (yad J.o.2.2 (znf K.o.2.1.keeps.size u.o.1.size)));go_upto_region 39 with(fail);go_region_law (first
   |(go_simp;go_at_call 162;refine OP.o.mono ?_;rintro e w7 ⟨v7,⟨ck,cn,cs,la,ln,lc⟩,rfl,t⟩)
   |(go_simp;go_at_call 119;refine(yak b v7 p (s.nxt.openL i) w7 t.o.1 (s.letV i) ck cn cs la ln lc t.o.2.2 Q).mono ?_;rintro e w6 ⟨v6,rfl,H6⟩))
  all_goals
   go_upto_region 40 with(fail);go_region_law (first
    |(go_simp;go_at_call 63;refine(ybw true _).mono ?_;rintro e w8 ⟨rfl,U⟩;have H8:=zhd (znw ((znv w6.heap.size w6).drew) U);clear U)
    |(go_simp;go_at_call 119;refine(yak b v6 p _ w8 (H6.o.1.ext H8.o) (yaE true) 1 _ ⟨#[]⟩ none 0 0 (ybj _ _ _) H).mono ?_;rintro e w9 ⟨v9,rfl,H9⟩))
   all_goals
    go_wp2;go_ret;exact⟨v9,rfl,zhd ⟨by rw[hE.o];exact H9.o.1,K.o.2.1.trans ((MK.ext u.o.1).trans ((MK.ext (znv w5.heap.size w5).drew).trans (t.o.2.1.trans (H6.o.2.trans ((MK.ext H8.o).trans H9.o.2)))))⟩⟩
def SP (Z:Nat->Prop)(W:World)(b:Nat)(v:MV)(p:Img)(s:MS)(r:Option MS)(e:Ending)(w':World):Prop:=match r with
 |none=>MP Z W b v p (.bool false) s e w'
 |some s'=>MP Z W b v p (.bool true) s' e w'
structure Bd (s:MS):Prop where
 stk:s.stk.length<=32
 made:s.made.length<=4294967295
 let_:s.letters.length<=4294967296
 opn:opn s<=64
 at_:s.at_<=513
theorem yiT
  {Z:Nat->Prop}(b:Nat)(v:MV)(p:Img)(s:MS)(W:World)(M:MX TT Z W b v p s)
  (k:Nat)(nm:ByteArray)(B:Bd s)(hZ:∀j,W.heap.size<=j->Z j)
  :Calls Tryz.prog 156 #[.pointer (some ⟨b,0,none⟩),.agg #[.int .i64 18,k]] W (SP Z W b v p s (s.wait 18 nm)):=by
 have F:=B.stk;have E:=B.made;have C:=B.opn;have D:=B.at_;unfold opn at C;have e:s.wait 18 nm=match(if s.top.kind=1 then yax s.top.num s.timers.list else none)with
  |none=>some s.tGone
  |some i=>bif !(s.timers.list[i]?.getD ⟨0,false,yag,0⟩).over then none else some (({s.pop with timers:=⟨s.timers.list.eraseIdx i,s.timers.next⟩}:MS).push (ybD s.now)).nxt:=rfl
 rw[e];by_cases hx:s.top.kind=1
 .rw[if_pos hx]
  cases hf:yax s.top.num s.timers.list with
  |none=>exact ydS b v p s W M k (.inr hf) (by omega) hZ _ rfl
  |some i=>
   obtain⟨x,A⟩:=findT_some hf;dsimp only;rw[A];dsimp only[Option.getD];cases hov:x.over with
   |true=>exact yiP b v p s W M k i x hx hf A hov (by omega) (by omega) (by omega) hZ _ rfl
   |false=>exact yg1 b v p s W M k i x hx hf A hov
 .rw[if_neg hx]
  exact ydS b v p s W M k (.inl hx) (by omega) hZ _ rfl
theorem yiS
  {Z:Nat->Prop}(b:Nat)(v:MV)(p:Img)(s:MS)(W:World)(M:MX TT Z W b v p s)
  (k:Nat)(nm:ByteArray)(B:Bd s)(hZ:∀j,W.heap.size<=j->Z j)
  :Calls Tryz.prog 156 #[.pointer (some ⟨b,0,none⟩),.agg #[.int .i64 21,k]] W (SP Z W b v p s (s.wait 21 nm)):=by
 have F:=B.stk;have E:=B.made;have C:=B.opn;have D:=B.at_;unfold opn at C;have e:s.wait 21 nm=match(if s.top.kind=1 then yax s.top.num s.acts.list else none)with
  |none=>some s.tGone
  |some i=>bif !(s.acts.list[i]?.getD ⟨0,false,yag,0⟩).over then none else some ((({s.pop with acts:=⟨s.acts.list.eraseIdx i,s.acts.next⟩}:MS).push (s.acts.list[i]?.getD ⟨0,false,yag,0⟩).result).push (ybD (s.acts.list[i]?.getD ⟨0,false,yag,0⟩).how)).nxt:=rfl
 rw[e];by_cases hx:s.top.kind=1
 .rw[if_pos hx]
  cases hf:yax s.top.num s.acts.list with
  |none=>exact ydR b v p s W M k (.inr hf) (by omega) hZ _ rfl
  |some i=>
   obtain⟨x,A⟩:=findT_some hf;dsimp only;rw[A];dsimp only[Option.getD];cases hov:x.over with
   |true=>exact ylr b v p s W M k i x hx hf A hov (by omega) (by omega) (by omega) hZ _ rfl
   |false=>exact yg0 b v p s W M k i x hx hf A hov
 .rw[if_neg hx]
  exact ydR b v p s W M k (.inl hx) (by omega) hZ _ rfl
theorem yiR
  {Z:Nat->Prop}(b:Nat)(v:MV)(p:Img)(s:MS)(W:World)(M:MX TT Z W b v p s)
  (k:Nat)(nm:ByteArray)(B:Bd s)(hZ:∀j,W.heap.size<=j->Z j)
  (hnm:p.names[k]? =some nm):
  Calls Tryz.prog 156 #[.pointer (some ⟨b,0,none⟩),.agg #[.int .i64 22,k]] W (SP Z W b v p s (s.wait 22 nm)):=by
 have D:=B.stk;have C:=B.made;have A:=B.at_;have e:s.wait 22 nm=(yao nm s.letters).map (fun i=>((s.openL i).push (s.letV i)).nxt):=rfl;rw[e];cases hf:yao nm s.letters with
 |none=>exact yfs b v p s W M k nm hnm hf
 |some i=>exact ylp b v p s W M k nm hnm i hf (by omega) B.let_ (by omega) hZ _ rfl
theorem yiQ
  {Z:Nat->Prop}(b:Nat)(v:MV)(p:Img)(s:MS)(W:World)(M:MX TT Z W b v p s)
  (k:Nat)(nm:ByteArray)(B:Bd s)(hZ:∀j,W.heap.size<=j->Z j)
  (hnm:p.names[k]? =some nm):
  Calls Tryz.prog 156 #[.pointer (some ⟨b,0,none⟩),.agg #[.int .i64 28,k]] W (SP Z W b v p s (s.wait 28 nm)):=by
 have F:=B.stk;have E:=B.made;have C:=B.opn;have D:=B.at_;unfold opn at C;have e:s.wait 28 nm=match(if s.top.kind=1 then yax s.top.num s.timers.list else none)with
  |none=>some s.tGone
  |some i=>match yao nm s.letters with
   |some k=>some (((s.pop.openL k).push (s.letV k)).push (yaE true)).nxt
   |none=>bif !(s.timers.list[i]?.getD ⟨0,false,yag,0⟩).over then none else some ((({s.pop with timers:=⟨s.timers.list.eraseIdx i,s.timers.next⟩}:MS).push yag).push (yaE false)).nxt:=rfl
 rw[e];by_cases hx:s.top.kind=1
 .rw[if_pos hx]
  cases hf:yax s.top.num s.timers.list with
  |none=>exact ydQ b v p s W M k (.inr hf) (by omega) hZ _ rfl
  |some i=>
   obtain⟨x,A⟩:=findT_some hf;dsimp only;rw[A];dsimp only[Option.getD];cases hlt:yao nm s.letters with
   |some j=>exact yg2 b v p s W M k i j x nm hnm hlt hx hf A (by omega) B.let_ (by omega) hZ _ rfl
   |none=>
    cases hov:x.over with
    |true=>exact yg3 b v p s W M k i x hx hf A hov (by omega) (by omega) (by omega) hZ _ nm hnm hlt rfl
    |false=>exact ygZ b v p s W M k i x nm hnm hlt hx hf A hov
 .rw[if_neg hx]
  exact ydQ b v p s W M k (.inl hx) (by omega) hZ _ rfl
theorem yhM
  {Z:Nat->Prop}(b:Nat)(v:MV)(p:Img)(s:MS)(W:World)(M:MX TT Z W b v p s)
  (k:Nat)(nm:ByteArray)(B:Bd s)(hZ:∀j,W.heap.size<=j->Z j)
  (V:Vs s):Calls Tryz.prog 163 #[.pointer (some ⟨b,0,none⟩),.agg #[.int .i64 19,k]] W (MP Z W b v p (.bool true) (s.begin_ 19 nm)):=by
 have G:=B.stk;have F:=B.made;have C:=B.opn;have D:=V.nt;have E:=V.na;unfold opn at C;have e:s.begin_ 19 nm=match(if s.top.kind=1 then yax s.top.num s.timers.list else none)with
  |none=>s.pop.tGone
  |some i=>(bif (s.timers.list[i]?.getD ⟨0,false,yag,0⟩).over then({s.pop with timers:=⟨s.timers.list.eraseIdx i,s.timers.next⟩}:MS)else({s.pop with timers:=⟨s.timers.list.eraseIdx i,s.timers.next⟩}:MS).want ⟨2,0,s.top.num,0,⟨#[]⟩,yag⟩).push (yaE (!(s.timers.list[i]?.getD ⟨0,false,yag,0⟩).over)):=rfl
 rw[e];by_cases hx:s.top.kind=1
 .rw[if_pos hx]
  cases hf:yax s.top.num s.timers.list with
  |none=>exact yfm b v p s W M k (by omega) (by omega) hZ _ (.inr hf) rfl
  |some i=>
   obtain⟨x,A⟩:=findT_some hf;dsimp only;rw[A];dsimp only[Option.getD];cases hov:x.over with
   |true=>exact ydq b v p s W M k (by omega) (by omega) hZ _ i x hx hf A hov (by omega) rfl
   |false=>exact ygN b v p s W M k (by omega) (by omega) hZ _ i x hx hf A hov (by omega) rfl
 .rw[if_neg hx]
  exact yfm b v p s W M k (by omega) (by omega) hZ _ (.inl hx) rfl
theorem yhN
  {Z:Nat->Prop}(b:Nat)(v:MV)(p:Img)(s:MS)(W:World)(M:MX TT Z W b v p s)
  (k:Nat)(nm:ByteArray)(B:Bd s)(hZ:∀j,W.heap.size<=j->Z j)
  (V:Vs s):Calls Tryz.prog 163 #[.pointer (some ⟨b,0,none⟩),.agg #[.int .i64 17,k]] W (MP Z W b v p (.bool true) (s.begin_ 17 nm)):=by
 have G:=B.stk;have F:=B.made;have A:=B.opn;have D:=V.nt;have E:=V.na;unfold opn at A;have e:s.begin_ 17 nm=if s.top.kind≠1\/s.top.num<0\/((17:Int)=20/\1073741824<s.top.num)then s.pop.tRange else
  if 64<=s.timers.list.length+s.acts.list.length then s.pop.tMany else
  (({s.pop with timers:=yck s.timers}:MS).want ⟨1,0,s.timers.next+1,s.top.num,⟨#[]⟩,yag⟩).push (ybD (s.timers.next+1)):=rfl
 rw[e];have C:=((Val.wf_eq _).1 V.top.2).2.1;by_cases hx:s.top.kind≠1\/s.top.num<0\/((17:Int)=20/\1073741824<s.top.num)
 .rw[if_pos hx]
  exact yfU b v p s W M k (by omega) (by omega) hZ _ (by omega) rfl
 .rw[if_neg hx]
  by_cases hm:64<=s.timers.list.length+s.acts.list.length
  .rw[if_pos hm]
   exact ygM b v p s W M k (by omega) (by omega) hZ _ (by omega) (by omega) (by omega) hm rfl
  .rw[if_neg hm]
   exact yhK b v p s W M k (by omega) (by omega) hZ _ (by omega) (by omega) (by omega) hm (by omega) rfl
theorem yhL
  {Z:Nat->Prop}(b:Nat)(v:MV)(p:Img)(s:MS)(W:World)(M:MX TT Z W b v p s)
  (k:Nat)(nm:ByteArray)(B:Bd s)(hZ:∀j,W.heap.size<=j->Z j)
  (hnm:p.names[k]? =some nm)(V:Vs s):Calls Tryz.prog 163 #[.pointer (some ⟨b,0,none⟩),.agg #[.int .i64 20,k]] W (MP Z W b v p (.bool true) (s.begin_ 20 nm)):=by
 have G:=B.stk;have F:=B.made;have C:=B.opn;have D:=V.nt;have E:=V.na;unfold opn at C;have e:s.begin_ 20 nm=if s.top.kind≠1\/s.top.num<0\/((20:Int)=20/\1073741824<s.top.num)then s.pop.tRange else
  if 64<=s.timers.list.length+s.acts.list.length then s.pop.tMany else
  (({s.pop.pop with acts:=yck s.acts}:MS).want ⟨3,0,s.acts.next+1,s.top.num,nm,s.pop.top⟩).push (ybD (s.acts.next+1)):=rfl
 rw[e];have A:=ycq V.pop.top;by_cases hx:s.top.kind≠1\/s.top.num<0\/((20:Int)=20/\1073741824<s.top.num)
 .rw[if_pos hx]
  exact yfT b v p s W M k (by omega) (by omega) hZ _ (by omega) rfl
 .rw[if_neg hx]
  by_cases hm:64<=s.timers.list.length+s.acts.list.length
  .rw[if_pos hm]
   exact ygL b v p s W M k (by omega) (by omega) hZ _ (by omega) (by omega) (by omega) hm rfl
  .rw[if_neg hm]
   exact yjz b v p s W M k (by omega) (by omega) hZ _ nm hnm (by omega) (by omega) (by omega) hm (by omega) (by omega) rfl
theorem yhm
  {Z:Nat->Prop}(b:Nat)(v:MV)(p:Img)(s:MS)(W:World)(M:MX TT Z W b v p s)
  (k:Nat)(B:Bd s)(hZ:∀j,W.heap.size<=j->Z j):Calls Tryz.prog 164 #[.pointer (some ⟨b,0,none⟩),.agg #[.int .i64 5,k]] W (MP Z W b v p (.bool true) (s.reckon 5 k)):=by
 have C:=B.stk;have A:=B.made;have e:s.reckon 5 k=if s.pop.top.kind≠1\/s.top.kind≠1 then s.pop.pop.tType else s.pop.pop.push (ybD (wrap64 (s.pop.top.num+s.top.num))):=rfl;rw[e];by_cases hx:s.pop.top.kind≠1\/s.top.kind≠1
 .rw[if_pos hx]
  exact yhh b v p s W M k (by omega) (by omega) hZ _ hx rfl
 .rw[if_neg hx]
  exact yi9 b v p s W M k (by omega) (by omega) hZ _ (by omega) (by omega) rfl
theorem yhl
  {Z:Nat->Prop}(b:Nat)(v:MV)(p:Img)(s:MS)(W:World)(M:MX TT Z W b v p s)
  (k:Nat)(B:Bd s)(hZ:∀j,W.heap.size<=j->Z j):Calls Tryz.prog 164 #[.pointer (some ⟨b,0,none⟩),.agg #[.int .i64 6,k]] W (MP Z W b v p (.bool true) (s.reckon 6 k)):=by
 have C:=B.stk;have A:=B.made;have e:s.reckon 6 k=if s.pop.top.kind≠1\/s.top.kind≠1 then s.pop.pop.tType else s.pop.pop.push (ybD (wrap64 (s.pop.top.num - s.top.num))):=rfl;rw[e];by_cases hx:s.pop.top.kind≠1\/s.top.kind≠1
 .rw[if_pos hx]
  exact yhg b v p s W M k (by omega) (by omega) hZ _ hx rfl
 .rw[if_neg hx]
  exact yi8 b v p s W M k (by omega) (by omega) hZ _ (by omega) (by omega) rfl
theorem yhk
  {Z:Nat->Prop}(b:Nat)(v:MV)(p:Img)(s:MS)(W:World)(M:MX TT Z W b v p s)
  (k:Nat)(B:Bd s)(hZ:∀j,W.heap.size<=j->Z j):Calls Tryz.prog 164 #[.pointer (some ⟨b,0,none⟩),.agg #[.int .i64 7,k]] W (MP Z W b v p (.bool true) (s.reckon 7 k)):=by
 have C:=B.stk;have A:=B.made;have e:s.reckon 7 k=if s.pop.top.kind≠1\/s.top.kind≠1 then s.pop.pop.tType else s.pop.pop.push (ybD (wrap64 (s.pop.top.num*s.top.num))):=rfl;rw[e];by_cases hx:s.pop.top.kind≠1\/s.top.kind≠1
 .rw[if_pos hx]
  exact yhf b v p s W M k (by omega) (by omega) hZ _ hx rfl
 .rw[if_neg hx]
  exact yi7 b v p s W M k (by omega) (by omega) hZ _ (by omega) (by omega) rfl
theorem yga
  {Z:Nat->Prop}(b:Nat)(v:MV)(p:Img)(s:MS)(W:World)(M:MX TT Z W b v p s)
  (k:Nat)(B:Bd s)(hZ:∀j,W.heap.size<=j->Z j):Calls Tryz.prog 164 #[.pointer (some ⟨b,0,none⟩),.agg #[.int .i64 10,k]] W (MP Z W b v p (.bool true) (s.reckon 10 k)):=by
 have C:=B.stk;have A:=B.made;exact yi6 b v p s W M k (by omega) (by omega) hZ _ rfl
theorem yhj
  {Z:Nat->Prop}(b:Nat)(v:MV)(p:Img)(s:MS)(W:World)(M:MX TT Z W b v p s)
  (k:Nat)(B:Bd s)(hZ:∀j,W.heap.size<=j->Z j):Calls Tryz.prog 164 #[.pointer (some ⟨b,0,none⟩),.agg #[.int .i64 8,k]] W (MP Z W b v p (.bool true) (s.reckon 8 k)):=by
 have C:=B.stk;have A:=B.made;exact yhc b v p s W M k (by omega) (by omega) hZ _ rfl
theorem yhi
  {Z:Nat->Prop}(b:Nat)(v:MV)(p:Img)(s:MS)(W:World)(M:MX TT Z W b v p s)
  (k:Nat)(B:Bd s)(hZ:∀j,W.heap.size<=j->Z j):Calls Tryz.prog 164 #[.pointer (some ⟨b,0,none⟩),.agg #[.int .i64 9,k]] W (MP Z W b v p (.bool true) (s.reckon 9 k)):=by
 have C:=B.stk;have A:=B.made;exact yhe b v p s W M k (by omega) (by omega) hZ _ rfl
theorem yf7
  {Z:Nat->Prop}(b:Nat)(v:MV)(p:Img)(s:MS)(W:World)(M:MX TT Z W b v p s)
  (k:Nat)(B:Bd s)(hZ:∀j,W.heap.size<=j->Z j):Calls Tryz.prog 164 #[.pointer (some ⟨b,0,none⟩),.agg #[.int .i64 31,k]] W (MP Z W b v p (.bool true) (s.reckon 31 k)):=by
 have C:=B.stk;have A:=B.made;have e:s.reckon 31 k=if s.top.kind=3 then s.pop.push (ybD s.top.list.length)else if s.top.kind=2 then s.pop.push (ybD s.top.txt.size)else s.pop.tType:=rfl;rw[e];by_cases h3:s.top.kind=3
 .rw[if_pos h3]
  exact ydB b v p s W M k (by omega) (by omega) hZ _ h3 rfl
 .rw[if_neg h3]
  by_cases h2:s.top.kind=2
  .rw[if_pos h2]
   exact ydA b v p s W M k (by omega) (by omega) hZ _ h2 rfl
  .rw[if_neg h2]
   exact ydC b v p s W M k (by omega) (by omega) hZ _ h3 h2 rfl
theorem yf8
  {Z:Nat->Prop}(b:Nat)(v:MV)(p:Img)(s:MS)(W:World)(M:MX TT Z W b v p s)
  (k:Nat)(B:Bd s)(hZ:∀j,W.heap.size<=j->Z j)(V:Vs s):Calls Tryz.prog 164 #[.pointer (some ⟨b,0,none⟩),.agg #[.int .i64 30,k]] W (MP Z W b v p (.bool true) (s.reckon 30 k)):=by
 have F:=B.stk;have E:=B.made;have e:s.reckon 30 k=if s.pop.top.kind≠3\/s.top.kind≠1 then s.pop.pop.tType else s.pop.pop.push (yaa (if 0<=s.top.num/\s.top.num<s.pop.top.list.length then s.pop.top.list[s.top.num.toNat]?.getD yag else yag)):=rfl;rw[e];by_cases hx:s.pop.top.kind≠3\/s.top.kind≠1
 .rw[if_pos hx]
  exact ydD b v p s W M k (by omega) (by omega) hZ _ hx rfl
 .rw[if_neg hx]
  have C:s.pop.top.kind=3:=by omega
  by_cases hr:0<=s.top.num/\s.top.num<s.pop.top.list.length
  .rw[if_pos hr]
   obtain⟨i,D⟩:∃i:Nat,s.top.num=i:=⟨s.top.num.toNat,by omega⟩;obtain⟨y,A⟩:=yae (l:=s.pop.top.list) (k:=i) (by omega);rw[D,Int.toNat_natCast,A];have:=ycq (ykk V.pop.top C (zmg A));exact yeO b v p s W M k (by omega) (by omega) hZ _ C (by omega) i y D A (by omega) rfl
  .rw[if_neg hr]
   exact yd6 b v p s W M k (by omega) (by omega) hZ _ C (by omega) hr rfl
theorem yf6
  {Z:Nat->Prop}(b:Nat)(v:MV)(p:Img)(s:MS)(W:World)(M:MX TT Z W b v p s)
  (k:Nat)(B:Bd s)(hZ:∀j,W.heap.size<=j->Z j)(V:Vs s):Calls Tryz.prog 164 #[.pointer (some ⟨b,0,none⟩),.agg #[.int .i64 32,k]] W (MP Z W b v p (.bool true) (s.reckon 32 k)):=by
 have F:=B.stk;have E:=B.made;have e:s.reckon 32 k=if s.pop.top.kind=2/\s.top.kind=2 then s.pop.pop.put (ybZ (s.pop.top.txt++s.top.txt))else if s.pop.top.kind=3/\s.top.kind=3 then s.pop.pop.put (yaa (.mk 3 0 ⟨#[]⟩ (s.pop.top.list++s.top.list)))else s.pop.pop.tType:=rfl;rw[e];by_cases h2:s.pop.top.kind=2/\s.top.kind=2
 .rw[if_pos h2]
  have D:=ymy V.pop.top h2.1;have C:=ymy V.top h2.2;refine yd7 b v p s W M k (by omega) (by omega) hZ _ h2.1 h2.2 (by omega) (by omega) ?_ rfl;rw[ybZ,Val.wf,Val.wf.wfL];exact⟨⟨by decide,by decide⟩,⟨by decide,by decide⟩,by rw[ByteArray.size_append];omega,trivial⟩
 .rw[if_neg h2]
  by_cases h3:s.pop.top.kind=3/\s.top.kind=3
  .rw[if_pos h3]
   have D:=ymz V.pop.top h3.1;have C:=ymz V.top h3.2;refine yd8 b v p s W M k (by omega) (by omega) hZ _ h3.1 h3.2 ?_ ?_ rfl
   .rw[ycX]
    show szV.szL (s.pop.top.list++s.top.list)+30<=_;rw[ye1];omega
   .refine ya9 _ (yfr fun x A=> ?_)
    rcases List.mem_append.1 A with A|A
    .exact Val.wfL_mem ((Val.wf_eq _).1 V.pop.top.2).2.2.2 A
    .exact Val.wfL_mem ((Val.wf_eq _).1 V.top.2).2.2.2 A
  .rw[if_neg h3]
   exact yd9 b v p s W M k (by omega) (by omega) hZ _ h2 h3 rfl
theorem yf9
  {Z:Nat->Prop}(b:Nat)(v:MV)(p:Img)(s:MS)(W:World)(M:MX TT Z W b v p s)
  (k:Nat)(B:Bd s)(hZ:∀j,W.heap.size<=j->Z j)(hks:k<=s.stk.length)(V:Vs s):Calls Tryz.prog 164 #[.pointer (some ⟨b,0,none⟩),.agg #[.int .i64 29,k]] W (MP Z W b v p (.bool true) (s.reckon 29 k)):=by
 have C:=B.stk;have A:=B.made;exact yhd b v p s W M k hks (by omega) (by omega) hZ _ (yfr fun x hx=>(V.stk x (List.mem_of_mem_drop hx)).2) rfl
theorem ykq
  {Z:Nat->Prop}(b:Nat)(v:MV)(p:Img)(s:MS)(W:World)(M:MX TT Z W b v p s)(fa:Fa)(K:Known p fa)(P:Pk p)(RA:At fa s)(R:Rk p s)(hm:s.made.length<=4294967295)(hl:s.letters.length<=4294967296)(hZ:∀j,W.heap.size<=j->Z j):
  Calls Tryz.prog 139 #[.pointer (some ⟨b,0,none⟩)] W (SP Z W b v p s (yal p s)):=by
 obtain⟨⟨op,a'⟩,A,O,N,S,Q,_,D⟩:=yhO K RA;have S:0<=a':=S;obtain⟨a,rfl⟩:∃a:Nat,a'=(a:Int):=⟨a'.toNat,by omega⟩;have L:s.stk.length<=32:=by have:=(K.low _ _ RA).2;omega
 have U:=(ybE K.img).2.1;have T:=(zge A).1;have B:Bd s:=⟨L,hm,hl,R.opn,by omega⟩;have H:Bd s.nxt:=⟨L,hm,hl,R.opn,by show s.at_+1<=513;omega⟩;have C:s.at_<=4294967296:=by omega
 have hk:s.stk.length<=4294967296:=by omega
 have O:0<=op:=O;have N:op<33:=N;rcases ylR O N with rfl|rfl|rfl|rfl|rfl|rfl|rfl|rfl|rfl|rfl|rfl|rfl|rfl|rfl|rfl|rfl|rfl|rfl|rfl|rfl|rfl|rfl|rfl|rfl|rfl|rfl|rfl|rfl|rfl|rfl|rfl|rfl|rfl
 .have e:yal p s=some s.nxt:=by unfold yal;rw[A];rfl
  rw[e];exact yh6 b v p s W M 0 a A _ _ _ _ rfl C hk _ (.inr (.inr (.inl ⟨rfl,rfl⟩)))
 .obtain⟨x,I⟩:=yae (l:=p.consts) (k:=a) (by have h:(a:Int)<(p.consts.length:Int):=D;omega)
  have J:=ycq (P.consts x (zmg I));have e:yal p s=some (s.nxt.push (yaa (p.consts[a]?.getD yag))):=by unfold yal;rw[A];rfl
  rw[e,I];exact yh5 b v p s W M 1 a A _ _ _ _ rfl C hk _ hZ (.inr (.inr (.inl ⟨rfl,a,x,rfl,I,by omega,rfl⟩)))
 .have e:yal p s=some s.nxt.pop:=by unfold yal;rw[A];rfl
  rw[e];exact yh6 b v p s W M 2 a A _ _ _ _ rfl C hk _ (.inr (.inl ⟨rfl,rfl⟩))
 .have J:=ycq R.vs.top
  have e:yal p s=some (s.nxt.push (yaa s.top)):=by unfold yal;rw[A];rfl
  rw[e];exact yh5 b v p s W M 3 a A _ _ _ _ rfl C hk _ hZ (.inl ⟨rfl,by omega,rfl⟩)
 .have e:yal p s=some ((s.nxt.pop.pop.push s.nxt.top).push s.nxt.pop.top):=by unfold yal;rw[A];rfl
  rw[e];exact yjW b v p s W M 4 a rfl A _ _ _ _ rfl C hk _ rfl (by have h:(2:Int)<=s.stk.length:=Q;omega)
 .have e:yal p s=some (s.nxt.reckon 5 a):=by unfold yal;rw[A];rfl
  rw[e];exact ybm b v p s W M 5 a A _ _ _ _ rfl C hk _ _ (.inr ⟨rfl,by decide⟩) (fun W' v' M' hs=>yhm b v' p s.nxt W' M' a H (yad hZ hs))
 .have e:yal p s=some (s.nxt.reckon 6 a):=by unfold yal;rw[A];rfl
  rw[e];exact ybm b v p s W M 6 a A _ _ _ _ rfl C hk _ _ (.inr ⟨rfl,by decide⟩) (fun W' v' M' hs=>yhl b v' p s.nxt W' M' a H (yad hZ hs))
 .have e:yal p s=some (s.nxt.reckon 7 a):=by unfold yal;rw[A];rfl
  rw[e];exact ybm b v p s W M 7 a A _ _ _ _ rfl C hk _ _ (.inr ⟨rfl,by decide⟩) (fun W' v' M' hs=>yhk b v' p s.nxt W' M' a H (yad hZ hs))
 .have e:yal p s=some (s.nxt.reckon 8 a):=by unfold yal;rw[A];rfl
  rw[e];exact ybm b v p s W M 8 a A _ _ _ _ rfl C hk _ _ (.inr ⟨rfl,by decide⟩) (fun W' v' M' hs=>yhj b v' p s.nxt W' M' a H (yad hZ hs))
 .have e:yal p s=some (s.nxt.reckon 9 a):=by unfold yal;rw[A];rfl
  rw[e];exact ybm b v p s W M 9 a A _ _ _ _ rfl C hk _ _ (.inr ⟨rfl,by decide⟩) (fun W' v' M' hs=>yhi b v' p s.nxt W' M' a H (yad hZ hs))
 .have e:yal p s=some (s.nxt.reckon 10 a):=by unfold yal;rw[A];rfl
  rw[e];exact ybm b v p s W M 10 a A _ _ _ _ rfl C hk _ _ (.inr ⟨rfl,by decide⟩) (fun W' v' M' hs=>yga b v' p s.nxt W' M' a H (yad hZ hs))
 .have e:yal p s=some {s with at_:=a}:=by unfold yal;rw[A];rfl
  rw[e];exact yjY b v p s W M a A _ _ _ _ rfl _ rfl
 .have e:yal p s=some (bif ycm s.top then s.pop.nxt else{s.pop with at_:=a}):=by unfold yal;rw[A];rfl
  rw[e];exact yg7 b v p s W M 12 rfl a A _ _ _ _ rfl C _ rfl
 .obtain⟨x,I⟩:=yae (l:=s.places) (k:=a) (by have h:(a:Int)<p.places:=D;have:=R.pls;omega)
  have J:=ycq (R.vs.pls x (zmg I));have e:yal p s=some (s.nxt.push (yaa (s.places[a]?.getD yag))):=by unfold yal;rw[A];rfl
  rw[e,I];exact yh5 b v p s W M 13 a A _ _ _ _ rfl C hk _ hZ (.inr (.inr (.inr ⟨rfl,a,x,rfl,I,by omega,rfl⟩)))
 .obtain⟨x,I⟩:=yae (l:=s.places) (k:=a) (by have h:(a:Int)<p.places:=D;have:=R.pls;omega)
  have e:yal p s=some {s.nxt.pop with places:=s.places.set a s.top}:=by unfold yal;rw[A];rfl
  rw[e];exact yiW b v p s W M 14 a rfl A _ _ _ _ rfl C hk _ a x rfl I rfl
 .have J:=ycq R.vs.inp
  have e:yal p s=some (s.nxt.push (yaa s.input)):=by unfold yal;rw[A];rfl
  rw[e];exact yh5 b v p s W M 15 a A _ _ _ _ rfl C hk _ hZ (.inr (.inl ⟨rfl,by omega,rfl⟩))
 .have e:yal p s=some (s.nxt.push (ybD s.now)):=by unfold yal;rw[A];rfl
  rw[e];exact yh6 b v p s W M 16 a A _ _ _ _ rfl C hk _ (.inl ⟨rfl,rfl⟩)
 .have e:yal p s=some (s.nxt.begin_ 17 (p.names[a]?.getD ⟨#[]⟩)):=by unfold yal;rw[A];rfl
  rw[e];exact ybm b v p s W M 17 a A _ _ _ _ rfl C hk _ _ (.inl ⟨rfl,by decide⟩) (fun W' v' M' hs=>yhN b v' p s.nxt W' M' a _ H (yad hZ hs) R.vs.nxt)
 .have e:yal p s=s.wait 18 (p.names[a]?.getD ⟨#[]⟩):=by unfold yal;rw[A];rfl
  rw[e];have F:∀(W':World) (v':MV),MX TT Z W' b v' p s->W<=W'.heap.size->Calls Tryz.prog 156 #[.pointer (some ⟨b,0,none⟩),.agg #[.int .i64 18,a]] W' (SP Z W' b v' p s (s.wait 18 (p.names[a]?.getD ⟨#[]⟩))):=fun W' v' M' hs=>yiT b v' p s W' M' a _ B (yad hZ hs);cases hw:s.wait 18 (p.names[a]?.getD ⟨#[]⟩)with
  |none=>rw[hw]at F;exact ybx b v p s W M 18 a A _ _ _ _ _ _ rfl false s F
  |some s'=>rw[hw]at F;exact ybx b v p s W M 18 a A _ _ _ _ _ _ rfl true s' F
 .have e:yal p s=some (s.nxt.begin_ 19 (p.names[a]?.getD ⟨#[]⟩)):=by unfold yal;rw[A];rfl
  rw[e];exact ybm b v p s W M 19 a A _ _ _ _ rfl C hk _ _ (.inl ⟨rfl,by decide⟩) (fun W' v' M' hs=>yhM b v' p s.nxt W' M' a _ H (yad hZ hs) R.vs.nxt)
 .obtain⟨G,E⟩:=yae (l:=p.names) (k:=a) (by have h:(a:Int)<(p.names.length:Int):=D;omega)
  have e:yal p s=some (s.nxt.begin_ 20 (p.names[a]?.getD ⟨#[]⟩)):=by unfold yal;rw[A];rfl
  rw[e,E];exact ybm b v p s W M 20 a A _ _ _ _ rfl C hk _ _ (.inl ⟨rfl,by decide⟩) (fun W' v' M' hs=>yhL b v' p s.nxt W' M' a G H (yad hZ hs) E R.vs.nxt)
 .have e:yal p s=s.wait 21 (p.names[a]?.getD ⟨#[]⟩):=by unfold yal;rw[A];rfl
  rw[e];have F:∀(W':World) (v':MV),MX TT Z W' b v' p s->W<=W'.heap.size->Calls Tryz.prog 156 #[.pointer (some ⟨b,0,none⟩),.agg #[.int .i64 21,a]] W' (SP Z W' b v' p s (s.wait 21 (p.names[a]?.getD ⟨#[]⟩))):=fun W' v' M' hs=>yiS b v' p s W' M' a _ B (yad hZ hs);cases hw:s.wait 21 (p.names[a]?.getD ⟨#[]⟩)with
  |none=>rw[hw]at F;exact ybx b v p s W M 21 a A _ _ _ _ _ _ rfl false s F
  |some s'=>rw[hw]at F;exact ybx b v p s W M 21 a A _ _ _ _ _ _ rfl true s' F
 .obtain⟨G,E⟩:=yae (l:=p.names) (k:=a) (by have h:(a:Int)<(p.names.length:Int):=D;omega)
  have e:yal p s=s.wait 22 (p.names[a]?.getD ⟨#[]⟩):=by unfold yal;rw[A];rfl
  rw[e,E];simp only[Option.getD_some];have F:∀(W':World) (v':MV),MX TT Z W' b v' p s->W<=W'.heap.size->Calls Tryz.prog 156 #[.pointer (some ⟨b,0,none⟩),.agg #[.int .i64 22,a]] W' (SP Z W' b v' p s (s.wait 22 G)):=fun W' v' M' hs=>yiR b v' p s W' M' a G B (yad hZ hs) E;cases hw:s.wait 22 G with
  |none=>rw[hw]at F;exact ybx b v p s W M 22 a A _ _ _ _ _ _ rfl false s F
  |some s'=>rw[hw]at F;exact ybx b v p s W M 22 a A _ _ _ _ _ _ rfl true s' F
 .obtain⟨G,E⟩:=yae (l:=p.names) (k:=a) (by have h:(a:Int)<(p.names.length:Int):=D;omega)
  have e:yal p s=some (match yao (p.names[a]?.getD ⟨#[]⟩) s.letters with|some i=>((s.nxt.openL i).push (s.letV i)).push (yaE true)|none=>(s.nxt.push yag).push (yaE false)):=by unfold yal;rw[A];rfl
  rw[e,E];simp only[Option.getD_some];cases hf:yao G s.letters with
  |none=>exact yeL b v p s W M 23 a rfl A _ _ _ _ rfl C hk _ a G rfl E hf (by omega) rfl
  |some i=>exact yjX b v p s W M 23 a rfl A _ _ _ _ rfl C hk hZ _ a G rfl E i hf hl (by omega) rfl
 .have e:yal p s=some (s.nxt.push (yaE s.asked)):=by unfold yal;rw[A];rfl
  rw[e];exact yh6 b v p s W M 24 a A _ _ _ _ rfl C hk _ (.inr (.inr (.inr ⟨rfl,rfl⟩)))
 .have J:=ycq R.vs.top
  have e:yal p s=some (s.pop.want ⟨4,0,0,0,⟨#[]⟩,s.top⟩):=by unfold yal;rw[A];rfl
  rw[e];exact yfu b v p s W M 25 a A _ _ _ _ _ rfl _ (fun W' v' M' hs=>ykS b v' p s W' M' a (by omega) (yad hZ hs) (by omega) _ rfl)
 .obtain⟨G,E⟩:=yae (l:=p.names) (k:=a) (by have h:(a:Int)<(p.names.length:Int):=D;omega)
  have e:yal p s=some (s.want ⟨5,0,0,0,p.names[a]?.getD ⟨#[]⟩,yag⟩):=by unfold yal;rw[A];rfl
  rw[e,E];exact yfu b v p s W M 26 a A _ _ _ _ _ rfl _ (fun W' v' M' hs=>yme b v' p s W' M' 26 rfl rfl a G E (by omega) (yad hZ hs) _ rfl)
 .have J:=ycq R.vs.top
  have e:yal p s=some (s.pop.want ⟨6,0,0,0,⟨#[]⟩,s.top⟩):=by unfold yal;rw[A];rfl
  rw[e];exact yfu b v p s W M 27 a A _ _ _ _ _ rfl _ (fun W' v' M' hs=>ykR b v' p s W' M' a (by omega) (yad hZ hs) (by omega) _ rfl)
 .obtain⟨G,E⟩:=yae (l:=p.names) (k:=a) (by have h:(a:Int)<(p.names.length:Int):=D;omega)
  have e:yal p s=s.wait 28 (p.names[a]?.getD ⟨#[]⟩):=by unfold yal;rw[A];rfl
  rw[e,E];simp only[Option.getD_some];have F:∀(W':World) (v':MV),MX TT Z W' b v' p s->W<=W'.heap.size->Calls Tryz.prog 156 #[.pointer (some ⟨b,0,none⟩),.agg #[.int .i64 28,a]] W' (SP Z W' b v' p s (s.wait 28 G)):=fun W' v' M' hs=>yiQ b v' p s W' M' a G B (yad hZ hs) E;cases hw:s.wait 28 G with
  |none=>rw[hw]at F;exact ybx b v p s W M 28 a A _ _ _ _ _ _ rfl false s F
  |some s'=>rw[hw]at F;exact ybx b v p s W M 28 a A _ _ _ _ _ _ rfl true s' F
 .have e:yal p s=some (s.nxt.reckon 29 a):=by unfold yal;rw[A];rfl
  rw[e];exact ybm b v p s W M 29 a A _ _ _ _ rfl C hk _ _ (.inr ⟨rfl,by decide⟩) (fun W' v' M' hs=>yf9 b v' p s.nxt W' M' a H (yad hZ hs) (by have h:(a:Int)<=s.stk.length:=Q;show a<=s.stk.length;omega) R.vs.nxt)
 .have e:yal p s=some (s.nxt.reckon 30 a):=by unfold yal;rw[A];rfl
  rw[e];exact ybm b v p s W M 30 a A _ _ _ _ rfl C hk _ _ (.inr ⟨rfl,by decide⟩) (fun W' v' M' hs=>yf8 b v' p s.nxt W' M' a H (yad hZ hs) R.vs.nxt)
 .have e:yal p s=some (s.nxt.reckon 31 a):=by unfold yal;rw[A];rfl
  rw[e];exact ybm b v p s W M 31 a A _ _ _ _ rfl C hk _ _ (.inr ⟨rfl,by decide⟩) (fun W' v' M' hs=>yf7 b v' p s.nxt W' M' a H (yad hZ hs))
 .have e:yal p s=some (s.nxt.reckon 32 a):=by unfold yal;rw[A];rfl
  rw[e];exact ybm b v p s W M 32 a A _ _ _ _ rfl C hk _ _ (.inr ⟨rfl,by decide⟩) (fun W' v' M' hs=>yf6 b v' p s.nxt W' M' a H (yad hZ hs) R.vs.nxt)
def yo3 (Z:Nat->Prop)(b:Nat)(v:MV)(p:Img)(fa:Fa)(r:MS)(W:World)(gk:Nat)(wr:World):Prop:=
 ∃(v':MV) (s':MS),MX TT Z wr b v' p s'/\MK b v W v' wr/\Rk p s'/\(s'.over=false->At fa s'/\ygm p fa s'<=gk)/\ya1 p gk s'=r/\s'.made.length+gk<=4000000000/\s'.letters.length<=4294967296/\s'.steps+gk<=4000000000
theorem yd3 {p:Img}{s:MS}(h:s.over=true):∀f,ya1 p f s=s
 |0=>rfl
 |f+1=>by rw[ya1,h];rfl
theorem ymZ
  {Z:Nat->Prop}(b:Nat)(v:MV)(p:Img)(s:MS)(W:World)(M:MX TT Z W b v p s)(fa:Fa)(K:Known p fa)(P:Pk p)(R:Rk p s)(f:Nat)(hA:s.over=false->At fa s/\ygm p fa s<=f)(hm:s.made.length+f<=4000000000)(hl:s.letters.length<=4294967296)(hs:s.steps+f<=4000000000)(hZ:∀j,W.heap.size<=j->Z j)(r:MS)(hr:ya1 p f s=r):
  Calls Tryz.prog 109 #[.pointer (some ⟨b,0,none⟩)] W (MP Z W b v p (.tuple #[]) r):=by
 have J:=zh7 M R hA hr hm hl hs;clear M R hA hr hm hl hs;go_in;go_wp2_with fail;go_loopg [] f (fun gk wr=>yo3 Z b v p fa r W gk wr)
 case atStart=>exact⟨v,s,J.o.1,MK.refl _ _ _,J.o.2.1,J.o.2.2.1,J.o.2.2.2.1,J.o.2.2.2.2.1,J.o.2.2.2.2.2.1,J.o.2.2.2.2.2.2⟩
 case round=>
  obtain⟨q,E,H,I,Y,hA,hr,G,B,F⟩:=hrel;have X:wr.cell? ⟨b,19,none⟩=some (.bool E.over):=H.cell (k:=19) rfl;have bl:=zlt H.h;cases ho:E.over with
  |true=>
   rw[ho]at X;have N:=zh3 (show E=r by rw[<-hr,yd3 ho]) H I;clear hA hr G B F ho H I Y;go_wp2_with fail
   go_end0
   exact⟨q,rfl,zhd ⟨by rw[<-N.o.1];exact N.o.2.1,N.o.2.2⟩⟩
  |false=>
   rw[ho]at X;obtain⟨A,S⟩:=hA ho;have C:=ydI K A;obtain⟨f',rfl⟩:∃f',gk=f'+1:=⟨gk - 1,by omega⟩;have a:=zhd (ykq b q p E wr H fa K P A Y (by omega) B (yad hZ I.keeps.size));cases hsm:yal p E with
   |none=>
    rw[hsm]at a;have N:=zh2 (show E=r by rw[<-hr,ya1,ho,hsm];rfl) I;clear hA A S C hr G B F ho H I Y hsm;go_wp2_with fail;refine a.o.mono ?_;rintro e c ⟨d,rfl,D⟩;go_wp2_with fail
    go_end0
    exact⟨d,rfl,zhd ⟨by rw[<-N.o.1];exact D.o.1,N.o.2.trans D.o.2⟩⟩
   |some s2=>
    rw[hsm]at a;have n:=(ybM hsm).steps;have Q:=ydW K A hsm;obtain⟨l,T,m,_⟩:=MdR.step hsm;have i:=(LmR.step hsm).2;have U:Rk p {s2 with steps:=s2.steps+1}:=(Y.step P (by omega) hsm).steps _;have g:s2.made.length<=E.made.length+1:=by rw[T,znk];omega
    have O:ya1 p f' {s2 with steps:=s2.steps+1}=r:=by rw[<-hr,ya1,ho,hsm];rfl
    have V:s2.over=false->At fa {s2 with steps:=s2.steps+1}/\ygm p fa {s2 with steps:=s2.steps+1}<=f':=fun e=>by
     rcases Q with h|⟨h,z⟩
     .rw[h]at e;cases e
     .exact⟨h,by show ygm p fa s2<=f';omega⟩
    have u:s2.steps<=4000000000:=by omega
    have L:=zh7 I U V O (show s2.made.length+f'<=4000000000 by omega) (show s2.letters.length<=4294967296 by omega) (show s2.steps+1+f'<=4000000000 by omega);clear hA A S C hr G B F ho H I Y hsm n Q T m i U g O V;have y:wrap64 ((s2.steps:Int)+1)=(s2.steps:Int)+1:=by unfold wrap64;omega
    go_wp2_with fail;refine a.o.mono ?_;rintro e c ⟨d,rfl,D⟩;have x:c.cell? ⟨b,24,none⟩=some (.int .i64 (s2.steps:Int)):=D.o.1.cell (k:=24) rfl;have f0:∀o,c.frozen? ⟨b,o,none⟩=false:=fun o=>D.o.1.frozen o;have b4:=zlt D.o.1.h;have t:=zhd (D.o.1.scalar 24 (.int .i64 ((s2.steps:Int)+1)) {s2 with steps:=s2.steps+1} rfl rfl rfl rfl rfl rfl rfl rfl);go_wp2_with fail;go_roundg f'
    case measure=>omega
    case rel=>exact⟨d,{s2 with steps:=s2.steps+1},t.o.1,L.o.1.trans (D.o.2.trans t.o.2),L.o.2.1,L.o.2.2.1,L.o.2.2.2.1,L.o.2.2.2.2.1,L.o.2.2.2.2.2.1,L.o.2.2.2.2.2.2⟩
end Go.Proofs.YtpagmlndgblhhaaGreatDoor
