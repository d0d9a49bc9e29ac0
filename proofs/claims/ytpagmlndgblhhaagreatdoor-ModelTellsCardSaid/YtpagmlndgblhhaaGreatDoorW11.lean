/- Parts of the proof: what the functions and the plain laws give that later parts lean on. Conditions: none beyond those that each theorem names. -/
import Derived.Test.YtpagmlndgblhhaaGreatDoorW10
set_option maxRecDepth 100000
set_option maxHeartbeats 8000000
namespace Go.Proofs.YtpagmlndgblhhaaGreatDoor
open Go.RowKit Go.Own Go.Own.MapTy Go.Va Go.Sort
open Go.Own.Cells (sz enc)
theorem yqF {w5:World}{B:Nat}{k t t' a b:Int}{nm:ByteArray}{c c':VC}{T:TypeId}(h:w5.heap[B]? =some (.cells #[k,t,a,b,nm,c.kind,c.n,c.s,.slice c.la c.ln c.lc] T (0,0))):
  (((((w5.setCell ⟨B,1,none⟩ (.int .i64 t')).setCell ⟨B,5,none⟩ (.int .i64 c'.kind)).setCell ⟨B,6,none⟩ (.int .i64 c'.n)).setCell ⟨B,7,none⟩ (.string c'.s)).setCell ⟨B,8,none⟩ (.slice c'.la c'.ln c'.lc)).heap[B]? =some (.cells #[k,t',a,b,nm,c'.kind,c'.n,c'.s,.slice c'.la c'.ln c'.lc] T (0,0)):=by
 simp[World.setCell,zni,h]
theorem yma (w':World)(b:Nat)(v1 v2 v3 v4 v5:Value):
  Keeps (fun j=>j=b) w' (((((w'.setCell ⟨b,1,none⟩ v1).setCell ⟨b,5,none⟩ v2).setCell ⟨b,6,none⟩ v3).setCell ⟨b,7,none⟩ v4).setCell ⟨b,8,none⟩ v5):=by
 have E:Keeps (fun j=>j=b) w' w':=Keeps.refl _ _;have D:=Keeps.setCell (p:=⟨b,1,none⟩) E (.inl rfl) v1;have C:=Keeps.setCell (p:=⟨b,5,none⟩) D (.inl rfl) v2;have B:=Keeps.setCell (p:=⟨b,6,none⟩) C (.inl rfl) v3;have A:=Keeps.setCell (p:=⟨b,7,none⟩) B (.inl rfl) v4;exact Keeps.setCell (p:=⟨b,8,none⟩) A (.inl rfl) v5
theorem ycb
  {Z:Nat->Prop}(b:Nat)(v:MV)(p:Img)(s:MS)(W:World)(M:MX TT Z W b v p s)
  (k t a c:Int)(nm:ByteArray)(x:Val)(vk vn:Int)(vs:ByteArray)(la:Option Addr)(ln lc:Nat)(F:Nat->Prop)(C:CF F W ⟨vk,vn,vs,la,ln,lc⟩ x)(hz:szV x<=1073741824)(hl:s.made.length<=4294967296)(hZ:∀j,W.heap.size<=j->Z j)
  (s':MS)(hs':s.want ⟨k,t,a,c,nm,x⟩=s'):
  Calls Tryz.prog 179 #[.pointer (some ⟨b,0,none⟩),.agg #[k,t,a,c,nm,vk,vn,vs,.slice la ln lc]] W (MP Z W b v p (.tuple #[]) s'):=by
 obtain⟨ss,ic,ps,Aa,ts,Af,ls,ms⟩:=v;obtain⟨q,cap,rfl⟩:∃a cap,ms= .slice a s.made.length cap:=M.mds.slice;have hb:=zlt M.h;obtain⟨w0,R⟩:∃w0,w0=W.alloc (.cells #[k,t,a,c,nm,vk,vn,vs,.slice la ln lc] 52):=⟨_,rfl⟩;have B0:=zba R;have P:=zha R;have q0:=zca P 0 rfl;have q1:=zca P 1 rfl;have q5:=zca P 5 rfl;have q6:=zca P 6 rfl;have q7:=zca P 7 rfl;have q8:=zca P 8 rfl;have qf:∀o,w0.frozen? ⟨W,o,none⟩=false:=fun o=>zfr P o;have lr:W<w0.heap.size:=zlt P;have b1:b<w0:=by omega
 have M0:=M.ext B0;have Ae:w0.cell? ⟨b,11,none⟩=some (.int .i64 s.now):=M0.cell (k:=11) rfl;have Am:¬W.heap.size=b:=by omega
 have CL:=zhd (yay x vk vn vs la ln lc F w0.drew (C.keep (S:=fun _=>False) (zkb B0.drew) (fun _ _ f=>f)) hz);have J:=zh7 M B0 P hs' hl hZ hb;clear M B0 P hs' hl hZ hb C M0;go_in;go_wp2_with fail;rw[<-R];clear R;go_region_law ((go_simp;go_at_call 58;refine CL.o.mono ?_;rintro e w5 ⟨⟨N,L,K,G,D,E⟩,rfl,i⟩;have B5:Below w0 w0 w5:=znw ((znv w0.heap.size w0).drew) i.o.2;have H:=(B5.block W lr).trans J.o.2.2.1;have r1:w5.cell? ⟨W,1,none⟩=some (.int .i64 t):=(by rw[zch H];rfl);have r5:w5.cell? ⟨W,5,none⟩=some (.int .i64 vk):=(by rw[zch H];rfl);have r6:w5.cell? ⟨W,6,none⟩=some (.int .i64 vn):=(by rw[zch H];rfl);have r7:w5.cell? ⟨W,7,none⟩=some (.string vs):=(by rw[zch H];rfl);have r8:w5.cell? ⟨W,8,none⟩=some (.slice la ln lc):=(by rw[zch H];rfl);have rf:∀o,w5.frozen? ⟨W,o,none⟩=false:=(fun o=>zfr H o);have rl:=zlt H;have Al:=(B5.cell (p:=⟨b,11,none⟩) b1).trans Ae;have H5:=zh3 i.o.1 B5 H;clear i B5 H))
 all_goals
  obtain⟨w6,Q⟩:∃w6,w6=(((((w5.setCell ⟨W,1,none⟩ (.int .i64 s.now)).setCell ⟨W,5,none⟩ (.int .i64 N)).setCell ⟨W,6,none⟩ (.int .i64 L)).setCell ⟨W,7,none⟩ (.string K)).setCell ⟨W,8,none⟩ (.slice G D E)):=⟨_,rfl⟩;rw[<-Q];have B:w6.heap[W.heap.size]? =some (.cells #[k,s.now,a,c,nm,N,L,K,.slice G D E] 52 (0,0)):=by rw[Q];exact yqF (c':=⟨N,L,K,G,D,E⟩) (c:=⟨vk,vn,vs,la,ln,lc⟩) H5.o.2.2
  have K56:Keeps (fun j=>j=W) w5 w6:=by rw[Q];exact yma _ _ _ _ _ _ _
  have K6:Keeps (fun j=>W<=j) W w6:=((zkb (S:=fun _=>False) (J.o.2.1.trans (H5.o.2.1.mono J.o.2.1.size))).mono (fun _ _ f=>f.elim)).trans K56 (fun j _ e=>Nat.le_of_eq e.symm);have M6:=J.o.1.cut.late (fun j h=>J.o.1.lt h) K6;have KM6:=(MK.refl b ⟨ss,ic,ps,Aa,ts,Af,ls,.slice q s.made.length cap⟩ W).late K6;have C6:CF (MZ Z ⟨ss,ic,ps,Aa,ts,Af,ls,.slice q s.made.length cap⟩ b) w6 ⟨N,L,K,G,D,E⟩ (yaa x):=((H5.o.1.keep K56 (fun g O e=>by have O:w0<=g:=O;have e:g=W:=e;omega))).mono (fun g O _=>by
   have O:w0<=g:=O;exact⟨fun e=>by have:=J.o.1.lt e;omega,J.o.2.2.2.2.2.1 g (by omega)⟩)
  obtain⟨z,hR,hP⟩:=M6.mds.cells;have Aj:z.length=s.made.length:=hP.1;have l:=zh6 M6 KM6 C6 B hR hP;have n:=zhd (show(z.length+[(⟨k,s.now,a,c,nm,⟨N,L,K,G,D,E⟩⟩:CC)].length)*104<=140737488355328/\z.length+[(⟨k,s.now,a,c,nm,⟨N,L,K,G,D,E⟩⟩:CC)].length<=maxLen/\z.length+[(⟨k,s.now,a,c,nm,⟨N,L,K,G,D,E⟩⟩:CC)].length=s.made.length+1 from by have:=J.o.2.2.2.2.1;unfold maxLen;simp;omega);have NB:=zhd (show∀g,(Value.slice q s.made.length cap).ownBlock=some g->g≠b/\g≠W.heap.size from fun g O=>⟨fun e=>absurd (J.o.1.sep 6 0 g O (by rw[e];rfl)) (by decide),fun e=>by have:=J.o.1.mds.lt O;omega⟩);have lz:W<w6.heap.size:=zlt B;have b6:b<w6:=by have:=J.o.2.2.2.2.2.2;omega
  have q0:=zca B 0 rfl;have q1:=zca B 1 rfl;have q2:=zca B 2 rfl;have q3:=zca B 3 rfl;have q4:=zca B 4 rfl;have q5:=zca B 5 rfl;have q6:=zca B 6 rfl;have q7:=zca B 7 rfl;have q8:=zca B 8 rfl;have Ak:w6.cell? ⟨b,21,none⟩=some (.slice q s.made.length cap):=M6.cell (k:=21) rfl;have df:∀o,w6.frozen? ⟨b,o,none⟩=false:=fun o=>M6.frozen o;clear M6 KM6 C6 B hR hP Aj K56 K6 Q r1 r5 r6 r7 r8 rf Al Ae rl lr b1 qf;go_wp2_with fail
  go_region_law ((refine yaC (α:=CC) (o:=⟨some 20,_,_,_,_,_⟩) ynH (by rfl) (.tmp 17) (.tmp 19) (by rfl) (v:=.slice q s.made.length cap) (u:=.slice (some ⟨w6,0,none⟩) 1 1) (by rfl) (by rfl) (xs:=z) (ys:=[⟨k,s.now,a,c,nm,⟨N,L,K,G,D,E⟩⟩]) ((l.o.2.2.2.2.1.drew).alloc _) (RowAt.lit (α:=CC) (y:=⟨k,s.now,a,c,nm,⟨N,L,K,G,D,E⟩⟩) (znb _ _)) n.o.1 n.o.2.1 (s.made.length+1) n.o.2.2 ?_;intro a1 cp w7 Ac T Ad;have U:=(T.block b (by simp;omega) (fun e=>(NB.o _ e).1 rfl)).trans ((zne _ _ _ b6).trans l.o.1.h);have Ab:=(T.block W (by simp;omega) (fun e=>(NB.o _ e).2 rfl)).trans ((zne _ _ _ lz).trans l.o.2.2.2.1);have y0:w7.cell? ⟨b,21,none⟩=some (.slice q s.made.length cap):=(by rw[zch U];rfl);have y1:∀o,w7.frozen? ⟨b,o,none⟩=false:=(fun o=>zfr U o);have y2:b<w7:=zlt U;have FF:=zh4 Ac T Ad Ab;clear Ac T Ad U Ab))
  all_goals
   have B1:Below w6 w6 (w6.drew.alloc (.cells (enc (⟨k,s.now,a,c,nm,⟨N,L,K,G,D,E⟩⟩:CC)).toArray 52)):=((znv w6.heap.size w6).drew).alloc (znc _) _;have S:=l.o.1.putMds (v1:=.slice a1 (s.made.length+1) cp) {s with made:=s.made++[⟨k,s.now,a,c,nm,yaa x⟩]} FF.o.1 (l.o.2.2.2.2.2.app (Ptw.one (x:=⟨k,s.now,a,c,nm,yaa x⟩) ⟨rfl,rfl,rfl,rfl,rfl,l.o.2.2.1⟩)) (((zkb (S:=fun _=>False) B1).mono (fun _ _ f=>f.elim)).trans FF.o.2.1 (fun _ _ e=>e)) (fun g O=>(FF.o.2.2.1 g O).imp id (fun h=>znf B1.size h)) rfl;obtain⟨r,d⟩:∃r,r=w7.setCell ⟨b,21,none⟩ (.slice a1 (s.made.length+1) cp):=⟨_,rfl⟩;rw[<-d]at S|-;have Y:r.heap[W.heap.size]? =some (.cells #[k,s.now,a,c,nm,N,L,K,.slice G D E] 52 (0,0)):=by
    rw[d,znn _ _ _ _ (fun e=>by have e:W.heap.size=b:=e;have:=J.o.2.2.2.2.2.2;omega)];exact FF.o.2.2.2
   have z0:=zca Y 0 rfl;have zl:=zlt Y;have An:r.cell? ⟨b,19,none⟩=some (.bool s.over):=S.1.cell (k:=19) rfl;have fz:∀o,r.frozen? ⟨b,o,none⟩=false:=fun o=>S.1.frozen o;have bz:=zlt S.1.h;have m:=zh2 S.1 (l.o.2.1.trans S.2);have I:=J.o.2.2.2.1;clear S d Y y0 y1 y2 Ak df B1 q0 q1 q2 q3 q4 q5 q6 q7 q8;by_cases k4:k=4
   .subst k4
    have A:=zhd I;clear I;have V:s'=({s with made:=s.made++[⟨4,s.now,a,c,nm,yaa x⟩],over:=true}:MS):=by rw[<-A.o];unfold MS.want;simp
    have A:=zhd V;clear V;go_wp2_with fail
    go_end0
    have X:=m.o.1.scalar 19 (.bool true) s' (by rw[A.o];rfl) (by rw[A.o]) (by rw[A.o]) (by rw[A.o]) (by rw[A.o]) (by rw[A.o]) (by rw[A.o]) (by rw[A.o]);exact⟨_,rfl,zhd ⟨X.1,m.o.2.trans X.2⟩⟩
   .have Ai:(k==4)=false:=by rw[zna];exact k4
    by_cases k5:k=5
    .subst k5
     have A:=zhd I;clear I;have V:s'=({s with made:=s.made++[⟨5,s.now,a,c,nm,yaa x⟩],over:=true}:MS):=by rw[<-A.o];unfold MS.want;simp
     have A:=zhd V;clear V;go_wp2_with fail
     go_end0
     have X:=m.o.1.scalar 19 (.bool true) s' (by rw[A.o];rfl) (by rw[A.o]) (by rw[A.o]) (by rw[A.o]) (by rw[A.o]) (by rw[A.o]) (by rw[A.o]) (by rw[A.o]);exact⟨_,rfl,zhd ⟨X.1,m.o.2.trans X.2⟩⟩
    .have Ah:(k==5)=false:=by rw[zna];exact k5
     by_cases k6:k=6
     .subst k6
      have A:=zhd I;clear I;have V:s'=({s with made:=s.made++[⟨6,s.now,a,c,nm,yaa x⟩],over:=true}:MS):=by rw[<-A.o];unfold MS.want;simp
      have A:=zhd V;clear V;go_wp2_with fail
      go_end0
      have X:=m.o.1.scalar 19 (.bool true) s' (by rw[A.o];rfl) (by rw[A.o]) (by rw[A.o]) (by rw[A.o]) (by rw[A.o]) (by rw[A.o]) (by rw[A.o]) (by rw[A.o]);exact⟨_,rfl,zhd ⟨X.1,m.o.2.trans X.2⟩⟩
     .have Ag:(k==6)=false:=by rw[zna];exact k6
      have A:=zhd (show({s with made:=s.made++[⟨k,s.now,a,c,nm,yaa x⟩]}:MS)=s' from by rw[<-I];unfold MS.want;simp only[Ai,Ah,Ag,Bool.or_false]);clear I;go_wp2_with fail
      go_end0
      exact⟨_,rfl,zhd (by rw[<-A.o];exact m.o)⟩
theorem ydU:szV yag<=1073741824:=by rw[ycX];decide
theorem yav
  {Z:Nat->Prop}(b:Nat)(v:MV)(p:Img)(s:MS)(W:World)(M:MX TT Z W b v p s)
  (why:ByteArray)(hy:why.size<=64)(hl:s.made.length<=4294967296)(hZ:∀j,W.heap.size<=j->Z j)(s':MS)(hs':s.fall why=s'):
  Calls Tryz.prog 177 #[.pointer (some ⟨b,0,none⟩),why] W (MP Z W b v p (.bool true) s'):=by
 obtain⟨O,S,P,G,N,J,R,Q⟩:=v;have I:=zlt M.h;have c1:W.cell? ⟨b,20,none⟩=some (.string s.trap):=M.cell (k:=20) rfl;have H:∀o,W.frozen? ⟨b,o,none⟩=false:=fun o=>M.frozen o;have C:=M.scalar 20 (.string why) {s with trap:=why} rfl rfl rfl rfl rfl rfl rfl rfl;have B:=zh5 C.1 C.2 hs' hl hZ;clear C M hs' hl hZ;go_in;go_wp2_with fail;obtain⟨wr,A⟩:∃wr,wr=W.setCell ⟨b,20,none⟩ (.string why):=⟨_,rfl⟩;have D:=zh2 (A▸B.o.1) (A▸B.o.2.1);rw[<-A];clear A c1 H I;have K:=zhd (ycb b _ p _ wr D.o.1 5 0 0 0 (⟨#[116,114,97,112,32]⟩++why) yag 0 0 ⟨#[]⟩ none 0 0 (fun _=>True) (yaI _ _) ydU B.o.2.2.2.1 (yad B.o.2.2.2.2 D.o.2.keeps.size) s' (by have h:=B.o.2.2.1;unfold MS.fall at h;exact h));refine K.o.mono ?_;rintro e L ⟨F,rfl,E⟩;go_wp2;go_ret;exact⟨F,rfl,zhd ⟨E.o.1,D.o.2.trans E.o.2⟩⟩
theorem yhq
  {Z:Nat->Prop}(b:Nat)(v:MV)(p:Img)(s:MS)(W:World)(M:MX TT Z W b v p s)
  (x:Val)(ck cn:Int)(cs:ByteArray)(la:Option Addr)(ln lc:Nat)(C:CF (MZ Z v b) W ⟨ck,cn,cs,la,ln,lc⟩ x)(hw:x.wf)(hk:s.stk.length<=4294967296)(hl:s.made.length<=4294967296)(hZ:∀j,W.heap.size<=j->Z j)(s':MS)(hs':s.put x=s'):
  Calls Tryz.prog 181 #[.pointer (some ⟨b,0,none⟩),.agg #[ck,cn,cs,.slice la ln lc]] W (MP Z W b v p (.bool true) s'):=by
 obtain⟨H,B⟩:∃H,H=W.alloc (.cells #[ck,cn,cs,.slice la ln lc] 38):=⟨_,rfl⟩;have P:=zba B;have I:=zha B;obtain⟨U,T,R,Q,_⟩:=zq4 I;have N:W.heap.size<H.heap.size:=zlt I;obtain⟨r,O⟩:∃r,checkL x=r:=⟨_,rfl⟩;have g:=zhd (ybi x ck cn cs la ln lc (MZ Z v b) H (C.keep (S:=fun _=>False) (zkb P) (fun _ _ f=>f)) hw r O);unfold MS.put at hs';rw[O]at hs';have A:=zh8 M P C hs' hl hZ hk I;clear M P C hs' hl hZ hk O hw I;go_in;go_wp2_with fail;rw[<-B];clear B;refine g.o.mono ?_;rintro e K ⟨rfl,E⟩;have J:=A.o.2.1.trans (E.mono A.o.2.1.size);have F:=(E.block W N).trans A.o.2.2.2.2.2.2.2;have V:=A.o.1.ext J;have X:=A.o.2.2.1.keep (S:=fun _=>False) (zkb J) (fun _ _ f=>f);have D:=zh4 J F V X;clear E U T R Q N J F V X;cases hz:(r !=0)with
 |true=>
  have hs':=A.o.2.2.2.1;rw[if_pos (by simpa using hz)]at hs';have d:=zhd (yav b v p s K D.o.2.2.1 ⟨#[108,111,110,103]⟩ (by decide) A.o.2.2.2.2.1 (yad A.o.2.2.2.2.2.1 D.o.1.size) s' hs');clear hs';go_wp2_with fail;refine d.o.mono ?_;rintro e Y ⟨L,rfl,G⟩;go_wp2;go_ret;exact⟨L,rfl,zhd ⟨G.o.1,(MK.ext D.o.1).trans G.o.2⟩⟩
 |false=>
  have hs':=A.o.2.2.2.1;rw[if_neg (by simpa using hz)]at hs';have c:=zhd (yak b v p s K.drew (D.o.2.2.1.ext (znv _ _).drew) x ck cn cs la ln lc (D.o.2.2.2.keep (S:=fun _=>False) (zkb ((znv _ _).drew)) (fun _ _ f=>f)) A.o.2.2.2.2.2.2.1);obtain⟨U,T,R,Q,_⟩:=zq4 D.o.2.1;have N:W<K.heap.size:=zlt D.o.2.1;have a:=zhd hs';clear hs';go_wp2_with fail;go_region_law ((go_simp;go_at_call 119;refine c.o.mono ?_;rintro e Y ⟨L,rfl,G⟩))
  all_goals
   go_wp2;go_ret;exact⟨L,rfl,zhd ⟨by rw[<-a.o];exact G.o.1,(MK.ext (D.o.1.drew)).trans G.o.2⟩⟩
theorem yab {P:Program}{c:Code}{Q:Exit->Act->World->Prop}{a:Act}{W:World}(h:∀w,w=W->c.wp P Q a w):c.wp P Q a W:=h W rfl
theorem pop_len (s:MS):s.pop.stk.length<=s.stk.length:=by unfold MS.pop;simp
theorem yi6
  {Z:Nat->Prop}(b:Nat)(v:MV)(p:Img)(s:MS)(W:World)(M:MX TT Z W b v p s)
  (k:Int)(hk:s.stk.length<=4294967296)(hl:s.made.length<=4294967296)(hZ:∀j,W.heap.size<=j->Z j)(s':MS)
  (hs':s'=s.pop.push (yaE (!ycm s.top))):
  Calls Tryz.prog 164 #[.pointer (some ⟨b,0,none⟩),.agg #[.int .i64 10,k]] W (MP Z W b v p (.bool true) s')
  :=by
 obtain⟨T,E⟩:∃T,T=W.alloc (.cells #[.int .i64 10,k] 106):=⟨_,rfl⟩;have Y:=zba E;have c:=zha E;have r:=zhd (yaj b v p s T (M.ext Y));have I:=zh7 M Y c hs' hk hl hZ;clear M Y c hs' hk hl hZ;go_in;go_wp2_with fail;rw[<-E];clear E;refine r.o.mono ?_;rintro e u ⟨a,⟨q,n,m,l,h,i⟩,rfl,O⟩;have A:=(O.o.2.1.keeps.block W (zlt I.o.2.2.1) (fun e=>by have:=I.o.1.lt e;omega)).trans I.o.2.2.1;have d0:=zca A 0 rfl;have d1:=zca A 1 rfl;have dl:=zlt A;have HB:=zhd A;clear A;go_upto_region 11 with(fail);refine yab ?_;intro D G;have Q:=zba G;have H:=zha G;obtain⟨q0,z,y,x,l2⟩:=zq4 H;have t:=zhd H;have J:=zh3 Q (O.o.1.ext Q) (O.o.2.2.keep (S:=fun _=>False) (zkb Q) (fun _ _ f=>f));clear H Q G;have V:=I.o.2.2.2.1;have F:s.pop.stk.length<=4294967296:=znf (pop_len s) I.o.2.2.2.2.1;cases hr:ycm s.top
 all_goals
  rw[hr]at V;have TR:=zhd (yh3 s.top q n m l h i _ D.drew (J.o.2.2.keep (S:=fun _=>False) (zkb ((znv _ _).drew)) (fun _ _ f=>f)) _ hr);have X:=zhd (ybw (!(ycm s.top)));rw[hr]at X;have d:=zhd V;clear V hr
 .
  go_region_law (first
   |(go_simp;go_at_call 158;refine TR.o.mono ?_;rintro e w3 ⟨rfl,C⟩;have P:Below D D w3:=znw ((znv D.heap.size D).drew) C;have N:=zhd P;clear C P)
   |(go_simp;go_at_call 63;refine(X.o w3).mono ?_;rintro e R ⟨rfl,B⟩;have L:=zhd (N.o.trans (B.mono N.o.size));clear B)
   |(go_simp;go_at_call 119;refine(yak b a p s.pop R (J.o.2.1.ext L.o) (yaE true) 1 _ ⟨#[]⟩ none 0 0 (ybj _ _ _) F).mono ?_;rintro e g ⟨U,rfl,K⟩))
  all_goals
   go_wp2;go_ret;exact⟨U,rfl,zhd ⟨by rw[d.o];exact K.o.1,(MK.ext I.o.2.1).trans (O.o.2.1.trans ((MK.ext (J.o.1.trans (L.o.mono J.o.1.size))).trans K.o.2))⟩⟩
 .
  go_region_law (first
   |(go_simp;go_at_call 158;refine TR.o.mono ?_;rintro e w3 ⟨rfl,C⟩;have P:Below D D w3:=znw ((znv D.heap.size D).drew) C;have N:=zhd P;clear C P)
   |(go_simp;go_at_call 63;refine(X.o w3).mono ?_;rintro e R ⟨rfl,B⟩;have L:=zhd (N.o.trans (B.mono N.o.size));clear B)
   |(go_simp;go_at_call 119;refine(yak b a p s.pop R (J.o.2.1.ext L.o) (yaE false) 1 _ ⟨#[]⟩ none 0 0 (ybj _ _ _) F).mono ?_;rintro e g ⟨U,rfl,K⟩))
  all_goals
   go_wp2;go_ret;exact⟨U,rfl,zhd ⟨by rw[d.o];exact K.o.1,(MK.ext I.o.2.1).trans (O.o.2.1.trans ((MK.ext (J.o.1.trans (L.o.mono J.o.1.size))).trans K.o.2))⟩⟩
theorem ydB
  {Z:Nat->Prop}(b:Nat)(v:MV)(p:Img)(s:MS)(W:World)(M:MX TT Z W b v p s)
  (k:Int)(hk:s.stk.length<=4294967296)(hl:s.made.length<=4294967296)(hZ:∀j,W.heap.size<=j->Z j)(s':MS)
  (hx:s.top.kind=3)(hs':s'=s.pop.push (ybD s.top.list.length)):
  Calls Tryz.prog 164 #[.pointer (some ⟨b,0,none⟩),.agg #[.int .i64 31,k]] W (MP Z W b v p (.bool true) s')
  :=by
 obtain⟨J,B⟩:∃J,J=W.alloc (.cells #[.int .i64 31,k] 106):=⟨_,rfl⟩;have O:=zba B;have Q:=zha B;have c:=zhd (yaj b v p s J (M.ext O));have E:=zh7 M O Q hs' hk hl hZ;clear M O Q hs' hk hl hZ;go_in;go_wp2_with fail;rw[<-B];clear B;refine c.o.mono ?_;rintro e i ⟨X,⟨a,cn,cs,u,K,t⟩,rfl,F⟩;have A:=(F.o.2.1.keeps.block W (zlt E.o.2.2.1) (fun e=>by have:=E.o.1.lt e;omega)).trans E.o.2.2.1;have d0:=zca A 0 rfl;have z:=zca A 1 rfl;have y:=zlt A;have HB:=zhd A;clear A;have G:s.pop.stk.length<=4294967296:=znf (pop_len s) E.o.2.2.2.2.1;have Y:(a==3)=true:=by rw[beq_iff_eq];exact F.o.2.2.kind.trans hx
 have L:=zhd (show K=s.top.list.length from F.o.2.2.l.elem.1);go_upto_region 17 with(fail);refine yab ?_;intro P C;have I:=zba C;have D:=zha C;obtain⟨r,q,n,m,x⟩:=zq4 D;have g:=zhd D;have N:=zh3 I (F.o.1.ext I) (F.o.2.2.keep (S:=fun _=>False) (zkb I) (fun _ _ f=>f));clear D I C;have d:=zhd (show s'=s.pop.push (ybD K) by rw[L.o];exact E.o.2.2.2.1);clear hx;go_region_law (first
  |(go_simp;go_at_call 106;refine(ybl _ _).mono ?_;rintro e U ⟨rfl,H⟩;have T:=zhd (znw ((znv P.heap.size P).drew) H);clear H)
  |(go_simp;go_at_call 119;refine(yak b X p s.pop U (N.o.2.1.ext T.o) (ybD K) 1 _ ⟨#[]⟩ none 0 0 (ycK _ _ _) G).mono ?_;rintro e h ⟨V,rfl,R⟩))
 all_goals
  go_wp2;go_ret;exact⟨V,rfl,zhd ⟨by rw[d.o];exact R.o.1,(MK.ext E.o.2.1).trans (F.o.2.1.trans ((MK.ext (N.o.1.trans (T.o.mono N.o.1.size))).trans R.o.2))⟩⟩
theorem ydA
  {Z:Nat->Prop}(b:Nat)(v:MV)(p:Img)(s:MS)(W:World)(M:MX TT Z W b v p s)
  (k:Int)(hk:s.stk.length<=4294967296)(hl:s.made.length<=4294967296)(hZ:∀j,W.heap.size<=j->Z j)(s':MS)
  (hx:s.top.kind=2)(hs':s'=s.pop.push (ybD s.top.txt.size)):
  Calls Tryz.prog 164 #[.pointer (some ⟨b,0,none⟩),.agg #[.int .i64 31,k]] W (MP Z W b v p (.bool true) s')
  :=by
 obtain⟨J,B⟩:∃J,J=W.alloc (.cells #[.int .i64 31,k] 106):=⟨_,rfl⟩;have P:=zba B;have R:=zha B;have d:=zhd (yaj b v p s J (M.ext P));have F:=zh7 M P R hs' hk hl hZ;clear M P R hs' hk hl hZ;go_in;go_wp2_with fail;rw[<-B];clear B;refine d.o.mono ?_;rintro e l ⟨Y,⟨L,cn,K,x,t,u⟩,rfl,E⟩;have A:=(E.o.2.1.keeps.block W (zlt F.o.2.2.1) (fun e=>by have:=F.o.1.lt e;omega)).trans F.o.2.2.1;have d0:=zca A 0 rfl;have d1:=zca A 1 rfl;have z:=zlt A;have HB:=zhd A;clear A;have G:s.pop.stk.length<=4294967296:=znf (pop_len s) F.o.2.2.2.2.1;have c:(L==2)=true:=by rw[beq_iff_eq];exact E.o.2.2.kind.trans hx
 have a:(L==3)=false:=by rw[zna];have:L=2:=E.o.2.2.kind.trans hx;omega
 have N:=zhd (show K=s.top.txt from E.o.2.2.s);go_upto_region 19 with(fail);refine yab ?_;intro Q C;have I:=zba C;have D:=zha C;obtain⟨r,q,n,m,y⟩:=zq4 D;have h:=zhd D;have O:=zh3 I (E.o.1.ext I) (E.o.2.2.keep (S:=fun _=>False) (zkb I) (fun _ _ f=>f));clear D I C;have g:=zhd (show s'=s.pop.push (ybD K.size) by rw[N.o];exact F.o.2.2.2.1);clear hx;go_region_law (first
  |(go_simp;go_at_call 106;refine(ybl _ _).mono ?_;rintro e V ⟨rfl,H⟩;have U:=zhd (znw ((znv Q.heap.size Q).drew) H);clear H)
  |(go_simp;go_at_call 119;refine(yak b Y p s.pop V (O.o.2.1.ext U.o) (ybD K.size) 1 _ ⟨#[]⟩ none 0 0 (ycK _ _ _) G).mono ?_;rintro e i ⟨X,rfl,T⟩))
 all_goals
  go_wp2;go_ret;exact⟨X,rfl,zhd ⟨by rw[g.o];exact T.o.1,(MK.ext F.o.2.1).trans (E.o.2.1.trans ((MK.ext (O.o.1.trans (U.o.mono O.o.1.size))).trans T.o.2))⟩⟩
theorem ydC
  {Z:Nat->Prop}(b:Nat)(v:MV)(p:Img)(s:MS)(W:World)(M:MX TT Z W b v p s)
  (k:Int)(hk:s.stk.length<=4294967296)(hl:s.made.length<=4294967296)(hZ:∀j,W.heap.size<=j->Z j)(s':MS)
  (hx3:¬s.top.kind=3)(hx2:¬s.top.kind=2)(hs':s'=s.pop.tType):
  Calls Tryz.prog 164 #[.pointer (some ⟨b,0,none⟩),.agg #[.int .i64 31,k]] W (MP Z W b v p (.bool true) s')
  :=by
 obtain⟨H,B⟩:∃H,H=W.alloc (.cells #[.int .i64 31,k] 106):=⟨_,rfl⟩;have K:=zba B;have L:=zha B;have R:=zhd (yaj b v p s H (M.ext K));have C:=zh7 M K L hs' hk hl hZ;clear M K L hs' hk hl hZ;go_in;go_wp2_with fail;rw[<-B];clear B;refine R.o.mono ?_;rintro e X ⟨Q,⟨I,x,u,m,i,l⟩,rfl,F⟩;have A:=(F.o.2.1.keeps.block W (zlt C.o.2.2.1) (fun e=>by have:=C.o.1.lt e;omega)).trans C.o.2.2.1;have t:=zca A 0 rfl;have r:=zca A 1 rfl;have q:=zlt A;have y:=zhd A;clear A;have hk:I=s.top.kind:=F.o.2.2.kind;have g:(I==3)=false:=by rw[zna,hk];exact hx3
 have h:(I==2)=false:=by rw[zna,hk];exact hx2
 clear hk hx3 hx2;go_upto_region 15 with(fail);refine yab ?_;intro O D;have G:=zba D;have E:=zha D;obtain⟨d,c,a,Y,n⟩:=zq4 E;have T:=zhd E;have J:=zh3 G (F.o.1.ext G) (F.o.2.2.keep (S:=fun _=>False) (zkb G) (fun _ _ f=>f));clear E G D;have U:=zhd (yav b Q p s.pop O J.o.2.1 ⟨#[116,121,112,101]⟩ (by decide) C.o.2.2.2.2.2.1 (yad C.o.2.2.2.2.2.2 (znf C.o.2.1.size (znf F.o.2.1.keeps.size J.o.1.size))) s' (C.o.2.2.2.1.symm));go_wp2_with fail;refine U.o.mono ?_;rintro e V ⟨P,rfl,N⟩;go_wp2;go_ret;exact⟨P,rfl,zhd ⟨N.o.1,(MK.ext C.o.2.1).trans (F.o.2.1.trans ((MK.ext J.o.1).trans N.o.2))⟩⟩
theorem yaV (s:MS):s.pop.pop.stk.length<=s.stk.length:=znf (pop_len _) (pop_len _)
theorem yhc
  {Z:Nat->Prop}(b:Nat)(v:MV)(p:Img)(s:MS)(W:World)(M:MX TT Z W b v p s)
  (k:Int)(hk:s.stk.length<=4294967296)(hl:s.made.length<=4294967296)(hZ:∀j,W.heap.size<=j->Z j)(s':MS)
  (hs':s'=s.pop.pop.push (yaE (cmpV s.pop.top s.top==0))):
  Calls Tryz.prog 164 #[.pointer (some ⟨b,0,none⟩),.agg #[.int .i64 8,k]] W (MP Z W b v p (.bool true) s')
  :=by
 obtain⟨n,J⟩:∃n,n=W.alloc (.cells #[.int .i64 8,k] 106):=⟨_,rfl⟩;have z:=zba J;have hB:=zha J;have PO:=zhd (yaj b v p s n (M.ext z));have L:=zh7 M z hB hs' hk hl hZ;clear M z hB hs' hk hl hZ;go_in;go_wp2_with fail;rw[<-J];clear J;refine PO.o.mono ?_;rintro e m ⟨v1,⟨ck,cn,cs,la,ln,lc⟩,rfl,U⟩;have F:=(U.o.2.1.keeps.block W (zlt L.o.2.2.1) (fun e=>by have:=L.o.1.lt e;omega)).trans L.o.2.2.1;have u:=zca F 0 rfl;have d1:=zca F 1 rfl;have g:=zlt F;have HB:=zhd F;clear F;have x:=zhd (fun(X:World) (M2:MX TT Z X b v1 p s.pop)=>yaj b v1 p s.pop X M2);go_wp2_with fail;obtain⟨X,I⟩:∃X,X=m.alloc (.cells #[ck,cn,cs,.slice la ln lc] 38):=⟨_,rfl⟩;have d:=zba I;have Y:=zha I;rw[<-I];have P:=zh5 d (U.o.1.ext d) (U.o.2.2.keep (S:=fun _=>False) (zkb d) (fun _ _ f=>f)) Y (d.block W g|>.trans HB.o);clear I d Y u d1 g;refine(x.o _ P.o.2.1).mono ?_;rintro e w3 ⟨r,⟨dk,dn,ds,ma,mn,mc⟩,rfl,T⟩;have B:=(T.o.2.1.keeps.block m (zlt P.o.2.2.2.1) (fun e=>by have:=U.o.1.lt e;omega)).trans P.o.2.2.2.1
 have E:=(T.o.2.1.keeps.block W (zlt P.o.2.2.2.2) (fun e=>by
  rcases U.o.2.1.own _ e with h|h
  .have:=L.o.1.lt h;omega
  .have:=zlt L.o.2.2.1;omega)).trans P.o.2.2.2.2
 obtain⟨w4,H⟩:∃w4,w4=w3.alloc (.cells #[dk,dn,ds,.slice ma mn mc] 38):=⟨_,rfl⟩;have Q:=zba H;have D:=zha H;have C:=(Q.block m (zlt B)).trans B;have N:=(Q.block W (zlt E)).trans E;have q0:=zca C 0 rfl;have q1:=zca C 1 rfl;have q2:=zca C 2 rfl;have q3:=zca C 3 rfl;have r0:=zca D 0 rfl;have r1:=zca D 1 rfl;have r2:=zca D 2 rfl;have r3:=zca D 3 rfl;have c0:=zca N 0 rfl;have u:=zca E 0 rfl;have x0:=zca B 0 rfl;have x1:=zca B 1 rfl;have x2:=zca B 2 rfl;have x3:=zca B 3 rfl;have xl:=zlt B;have g:=zlt E;have l4:=zlt D;have xl4:=zlt C;have Aa:=zlt N;have K4:MK b v W r w4:=(MK.ext L.o.2.1).trans (U.o.2.1.trans ((MK.ext P.o.1).trans (T.o.2.1.trans (MK.ext Q))));have R:=zh4 (T.o.1.ext Q) K4 ((CF.step T.o.2.1 P.o.2.2.1).step (MK.ext Q)) (T.o.2.2.step (MK.ext Q));have K:s.pop.pop.stk.length<=4294967296:=znf (yaV s) L.o.2.2.2.2.1;have t:=L.o.2.2.2.1;clear B E D C N Q K4;go_upto_region 22 with(fail);rw[<-H];clear H u x0 x1 x2 x3 xl g;go_upto_region 24 with(fail);cases hr:(cmpV s.pop.top s.top==0)
 all_goals
  rw[hr]at t;have i:=zhd (yfx s.pop.top s.top ⟨dk,dn,ds,ma,mn,mc⟩ ⟨ck,cn,cs,la,ln,lc⟩ _ _ w4.drew (R.o.2.2.2.keep (S:=fun _=>False) (zkb ((znv _ _).drew)) (fun _ _ f=>f)) (R.o.2.2.1.keep (S:=fun _=>False) (zkb ((znv _ _).drew)) (fun _ _ f=>f)) _ hr);have y:=zhd (ybw (cmpV s.pop.top s.top==0));rw[hr]at y;have HE:=zhd t;clear t hr
 .
  go_region_law (first
   |(go_simp;go_at_call 33;refine i.o.mono ?_;rintro e V ⟨rfl,A⟩;have O:=zhd (znw ((znv w4.heap.size w4).drew) A);clear A)
   |(go_simp;go_at_call 71;refine i.o.mono ?_;rintro e V ⟨rfl,A⟩;have O:=zhd (znw ((znv w4.heap.size w4).drew) A);clear A)
   |(go_simp;go_at_call 63;refine(y.o V).mono ?_;rintro e l ⟨rfl,G⟩;have c:=zhd (O.o.trans (G.mono O.o.size));clear G)
   |(go_simp;go_at_call 119;refine(yak b r p s.pop.pop l (R.o.1.ext c.o) (yaE false) 1 _ ⟨#[]⟩ none 0 0 (ybj _ _ _) K).mono ?_;rintro e w7 ⟨q,rfl,a⟩))
  all_goals
   go_wp2;go_ret;exact⟨q,rfl,zhd ⟨by rw[HE.o];exact a.o.1,R.o.2.1.trans ((MK.ext c.o).trans a.o.2)⟩⟩
 .
  go_region_law (first
   |(go_simp;go_at_call 33;refine i.o.mono ?_;rintro e V ⟨rfl,A⟩;have O:=zhd (znw ((znv w4.heap.size w4).drew) A);clear A)
   |(go_simp;go_at_call 71;refine i.o.mono ?_;rintro e V ⟨rfl,A⟩;have O:=zhd (znw ((znv w4.heap.size w4).drew) A);clear A)
   |(go_simp;go_at_call 63;refine(y.o V).mono ?_;rintro e l ⟨rfl,G⟩;have c:=zhd (O.o.trans (G.mono O.o.size));clear G)
   |(go_simp;go_at_call 119;refine(yak b r p s.pop.pop l (R.o.1.ext c.o) (yaE true) 1 _ ⟨#[]⟩ none 0 0 (ybj _ _ _) K).mono ?_;rintro e w7 ⟨q,rfl,a⟩))
  all_goals
   go_wp2;go_ret;exact⟨q,rfl,zhd ⟨by rw[HE.o];exact a.o.1,R.o.2.1.trans ((MK.ext c.o).trans a.o.2)⟩⟩
theorem yhe
  {Z:Nat->Prop}(b:Nat)(v:MV)(p:Img)(s:MS)(W:World)(M:MX TT Z W b v p s)
  (k:Int)(hk:s.stk.length<=4294967296)(hl:s.made.length<=4294967296)(hZ:∀j,W.heap.size<=j->Z j)(s':MS)
  (hs':s'=s.pop.pop.push (yaE (decide (cmpV s.pop.top s.top<0)))):
  Calls Tryz.prog 164 #[.pointer (some ⟨b,0,none⟩),.agg #[.int .i64 9,k]] W (MP Z W b v p (.bool true) s')
  :=by
 obtain⟨n,J⟩:∃n,n=W.alloc (.cells #[.int .i64 9,k] 106):=⟨_,rfl⟩;have B0:=zba J;have hB:=zha J;have PO:=zhd (yaj b v p s n (M.ext B0));have L:=zh7 M B0 hB hs' hk hl hZ;clear M B0 hB hs' hk hl hZ;go_in;go_wp2_with fail;rw[<-J];clear J;refine PO.o.mono ?_;rintro e m ⟨v1,⟨ck,cn,cs,la,ln,lc⟩,rfl,U⟩;have F:=(U.o.2.1.keeps.block W (zlt L.o.2.2.1) (fun e=>by have:=L.o.1.lt e;omega)).trans L.o.2.2.1;have u:=zca F 0 rfl;have d1:=zca F 1 rfl;have g:=zlt F;have HB:=zhd F;clear F;have x:=zhd (fun(X:World) (M2:MX TT Z X b v1 p s.pop)=>yaj b v1 p s.pop X M2);go_wp2_with fail;obtain⟨X,I⟩:∃X,X=m.alloc (.cells #[ck,cn,cs,.slice la ln lc] 38):=⟨_,rfl⟩;have d:=zba I;have Y:=zha I;rw[<-I];have P:=zh5 d (U.o.1.ext d) (U.o.2.2.keep (S:=fun _=>False) (zkb d) (fun _ _ f=>f)) Y (d.block W g|>.trans HB.o);clear I d Y u d1 g;refine(x.o _ P.o.2.1).mono ?_;rintro e w3 ⟨r,⟨dk,dn,ds,ma,mn,mc⟩,rfl,T⟩;have B:=(T.o.2.1.keeps.block m (zlt P.o.2.2.2.1) (fun e=>by have:=U.o.1.lt e;omega)).trans P.o.2.2.2.1
 have E:=(T.o.2.1.keeps.block W (zlt P.o.2.2.2.2) (fun e=>by
  rcases U.o.2.1.own _ e with h|h
  .have:=L.o.1.lt h;omega
  .have:=zlt L.o.2.2.1;omega)).trans P.o.2.2.2.2
 obtain⟨w4,H⟩:∃w4,w4=w3.alloc (.cells #[dk,dn,ds,.slice ma mn mc] 38):=⟨_,rfl⟩;have Q:=zba H;have D:=zha H;have C:=(Q.block m (zlt B)).trans B;have N:=(Q.block W (zlt E)).trans E;have q0:=zca C 0 rfl;have q1:=zca C 1 rfl;have q2:=zca C 2 rfl;have q3:=zca C 3 rfl;have r0:=zca D 0 rfl;have r1:=zca D 1 rfl;have r2:=zca D 2 rfl;have r3:=zca D 3 rfl;have c0:=zca N 0 rfl;have u:=zca E 0 rfl;have x0:=zca B 0 rfl;have x1:=zca B 1 rfl;have x2:=zca B 2 rfl;have x3:=zca B 3 rfl;have xl:=zlt B;have g:=zlt E;have l4:=zlt D;have xl4:=zlt C;have Aa:=zlt N;have K4:MK b v W r w4:=(MK.ext L.o.2.1).trans (U.o.2.1.trans ((MK.ext P.o.1).trans (T.o.2.1.trans (MK.ext Q))));have R:=zh4 (T.o.1.ext Q) K4 ((CF.step T.o.2.1 P.o.2.2.1).step (MK.ext Q)) (T.o.2.2.step (MK.ext Q));have K:s.pop.pop.stk.length<=4294967296:=znf (yaV s) L.o.2.2.2.2.1;have t:=L.o.2.2.2.1;clear B E D C N Q K4;go_upto_region 22 with(fail);rw[<-H];clear H u x0 x1 x2 x3 xl g;go_upto_region 27 with(fail)
 have i:=zhd (ycR (s.pop.top).parts s.pop.top (znc _) s.top ⟨dk,dn,ds,ma,mn,mc⟩ ⟨ck,cn,cs,la,ln,lc⟩ _ _ w4.drew (R.o.2.2.2.keep (S:=fun _=>False) (zkb ((znv _ _).drew)) (fun _ _ f=>f)) (R.o.2.2.1.keep (S:=fun _=>False) (zkb ((znv _ _).drew)) (fun _ _ f=>f)));generalize cmpV s.pop.top s.top=z at*;have y:=zhd (ybw (decide (z<0)));cases hr:decide (z<0)
 all_goals
  rw[hr]at t y;have HE:=zhd t;clear t
 .
  go_region_law (first
   |(go_simp;go_at_call 33;refine i.o.mono ?_;rintro e V ⟨rfl,A⟩;have O:=zhd (znw ((znv w4.heap.size w4).drew) A);clear A)
   |(go_simp;go_at_call 71;refine i.o.mono ?_;rintro e V ⟨rfl,A⟩;have O:=zhd (znw ((znv w4.heap.size w4).drew) A);clear A)
   |(go_simp;go_at_call 63;refine(y.o V).mono ?_;rintro e l ⟨rfl,G⟩;have c:=zhd (O.o.trans (G.mono O.o.size));clear G)
   |(go_simp;go_at_call 119;refine(yak b r p s.pop.pop l (R.o.1.ext c.o) (yaE false) 1 _ ⟨#[]⟩ none 0 0 (ybj _ _ _) K).mono ?_;rintro e w7 ⟨q,rfl,a⟩))
  all_goals
   go_wp2;go_ret;exact⟨q,rfl,zhd ⟨by rw[HE.o];exact a.o.1,R.o.2.1.trans ((MK.ext c.o).trans a.o.2)⟩⟩
 .
  go_region_law (first
   |(go_simp;go_at_call 33;refine i.o.mono ?_;rintro e V ⟨rfl,A⟩;have O:=zhd (znw ((znv w4.heap.size w4).drew) A);clear A)
   |(go_simp;go_at_call 71;refine i.o.mono ?_;rintro e V ⟨rfl,A⟩;have O:=zhd (znw ((znv w4.heap.size w4).drew) A);clear A)
   |(go_simp;go_at_call 63;refine(y.o V).mono ?_;rintro e l ⟨rfl,G⟩;have c:=zhd (O.o.trans (G.mono O.o.size));clear G)
   |(go_simp;go_at_call 119;refine(yak b r p s.pop.pop l (R.o.1.ext c.o) (yaE true) 1 _ ⟨#[]⟩ none 0 0 (ybj _ _ _) K).mono ?_;rintro e w7 ⟨q,rfl,a⟩))
  all_goals
   go_wp2;go_ret;exact⟨q,rfl,zhd ⟨by rw[HE.o];exact a.o.1,R.o.2.1.trans ((MK.ext c.o).trans a.o.2)⟩⟩
theorem yhh
  {Z:Nat->Prop}(b:Nat)(v:MV)(p:Img)(s:MS)(W:World)(M:MX TT Z W b v p s)
  (k:Int)(hk:s.stk.length<=4294967296)(hl:s.made.length<=4294967296)(hZ:∀j,W.heap.size<=j->Z j)(s':MS)
  (hx:¬s.pop.top.kind=1\/¬s.top.kind=1)(hs':s'=s.pop.pop.tType):
  Calls Tryz.prog 164 #[.pointer (some ⟨b,0,none⟩),.agg #[.int .i64 5,k]] W (MP Z W b v p (.bool true) s')
  :=by
 obtain⟨g,I⟩:∃g,g=W.alloc (.cells #[.int .i64 5,k] 106):=⟨_,rfl⟩;have t:=zba I;have z:=zha I;have PO:=zhd (yaj b v p s g (M.ext t));have D:=zh7 M t z hs' hk hl hZ;clear M t z hs' hk hl hZ;go_in;go_wp2_with fail;rw[<-I];clear I;refine PO.o.mono ?_;rintro e d ⟨u,⟨c,cn,cs,la,ln,lc⟩,rfl,T⟩;have F:=(T.o.2.1.keeps.block W (zlt D.o.2.2.1) (fun e=>by have:=D.o.1.lt e;omega)).trans D.o.2.2.1;have n:=zca F 0 rfl;have d1:=zca F 1 rfl;have a:=zlt F;have HB:=zhd F;clear F;have q:=zhd (fun(U:World) (M2:MX TT Z U b u p s.pop)=>yaj b u p s.pop U M2);go_wp2_with fail;obtain⟨U,H⟩:∃U,U=d.alloc (.cells #[c,cn,cs,.slice la ln lc] 38):=⟨_,rfl⟩;have Y:=zba H;have V:=zha H;rw[<-H];have O:=zh5 Y (T.o.1.ext Y) (T.o.2.2.keep (S:=fun _=>False) (zkb Y) (fun _ _ f=>f)) V (Y.block W a|>.trans HB.o);clear H Y V n d1 a;refine(q.o _ O.o.2.1).mono ?_;rintro e w3 ⟨l,⟨Q,dn,ds,ma,mn,mc⟩,rfl,R⟩;have A:=(R.o.2.1.keeps.block d (zlt O.o.2.2.2.1) (fun e=>by have:=T.o.1.lt e;omega)).trans O.o.2.2.2.1
 have E:=(R.o.2.1.keeps.block W (zlt O.o.2.2.2.2) (fun e=>by
  rcases T.o.2.1.own _ e with h|h
  .have:=D.o.1.lt h;omega
  .have:=zlt D.o.2.2.1;omega)).trans O.o.2.2.2.2
 obtain⟨w4,G⟩:∃w4,w4=w3.alloc (.cells #[Q,dn,ds,.slice ma mn mc] 38):=⟨_,rfl⟩;have P:=zba G;have C:=zha G;have B:=(P.block d (zlt A)).trans A;have N:=(P.block W (zlt E)).trans E;have q0:=zca B 0 rfl;have q1:=zca B 1 rfl;have q2:=zca B 2 rfl;have q3:=zca B 3 rfl;have r0:=zca C 0 rfl;have r1:=zca C 1 rfl;have r2:=zca C 2 rfl;have r3:=zca C 3 rfl;have c0:=zca N 0 rfl;have n:=zca E 0 rfl;have x0:=zca A 0 rfl;have x1:=zca A 1 rfl;have x2:=zca A 2 rfl;have x3:=zca A 3 rfl;have xl:=zlt A;have a:=zlt E;have l4:=zlt C;have xl4:=zlt B;have Aa:=zlt N;have K4:MK b v W l w4:=(MK.ext D.o.2.1).trans (T.o.2.1.trans ((MK.ext O.o.1).trans (R.o.2.1.trans (MK.ext P))));have K:=zh4 (R.o.1.ext P) K4 ((CF.step R.o.2.1 O.o.2.2.1).step (MK.ext P)) (R.o.2.2.step (MK.ext P));have x:s.pop.pop.stk.length<=4294967296:=znf (yaV s) D.o.2.2.2.2.1;have y:=D.o.2.2.2.1;clear A E C B N P K4;go_upto_region 22 with(fail);rw[<-G];clear G n x0 x1 x2 x3 xl a;have J:Q=s.pop.top.kind:=K.o.2.2.2.kind;have L:c=s.top.kind:=K.o.2.2.1.kind
 by_cases h1:s.pop.top.kind=1
 .have m:(Q==1)=true:=by rw[beq_iff_eq,J];exact h1
  have n2:(c==1)=false:=by rw[zna,L];exact hx.resolve_left (fun h=>h h1)
  have n3:(Q !=1)=false:=by rw[bne,m];rfl
  have n4:(c !=1)=true:=by rw[bne,n2];rfl
  clear J L h1 hx;have r:=zhd (yav b l p s.pop.pop w4 K.o.1 ⟨#[116,121,112,101]⟩ (by decide) D.o.2.2.2.2.2.1 (yad D.o.2.2.2.2.2.2 K.o.2.1.keeps.size) s' (y.symm));go_wp2_with fail;refine r.o.mono ?_;rintro e w5 ⟨i,rfl,X⟩;go_wp2;go_ret;exact⟨i,rfl,zhd ⟨X.o.1,K.o.2.1.trans X.o.2⟩⟩
 .have m:(Q==1)=false:=by rw[zna,J];exact h1
  have n3:(Q !=1)=true:=by rw[bne,m];rfl
  clear J L h1 hx;have r:=zhd (yav b l p s.pop.pop w4 K.o.1 ⟨#[116,121,112,101]⟩ (by decide) D.o.2.2.2.2.2.1 (yad D.o.2.2.2.2.2.2 K.o.2.1.keeps.size) s' (y.symm));go_wp2_with fail;refine r.o.mono ?_;rintro e w5 ⟨i,rfl,X⟩;go_wp2;go_ret;exact⟨i,rfl,zhd ⟨X.o.1,K.o.2.1.trans X.o.2⟩⟩
theorem yi9
  {Z:Nat->Prop}(b:Nat)(v:MV)(p:Img)(s:MS)(W:World)(M:MX TT Z W b v p s)
  (k:Int)(hk:s.stk.length<=4294967296)(hl:s.made.length<=4294967296)(hZ:∀j,W.heap.size<=j->Z j)(s':MS)
  (ha:s.pop.top.kind=1)(hb:s.top.kind=1)(hs':s'=s.pop.pop.push (ybD (wrap64 (s.pop.top.num+s.top.num)))):
  Calls Tryz.prog 164 #[.pointer (some ⟨b,0,none⟩),.agg #[.int .i64 5,k]] W (MP Z W b v p (.bool true) s')
  :=by
 obtain⟨i,H⟩:∃i,i=W.alloc (.cells #[.int .i64 5,k] 106):=⟨_,rfl⟩;have r:=zba H;have x:=zha H;have PO:=zhd (yaj b v p s i (M.ext r));have I:=zh7 M r x hs' hk hl hZ;clear M r x hs' hk hl hZ;go_in;go_wp2_with fail;rw[<-H];clear H;refine PO.o.mono ?_;rintro e g ⟨u,⟨z,d,cs,la,ln,lc⟩,rfl,P⟩;have E:=(P.o.2.1.keeps.block W (zlt I.o.2.2.1) (fun e=>by have:=I.o.1.lt e;omega)).trans I.o.2.2.1;have m:=zca E 0 rfl;have d1:=zca E 1 rfl;have c:=zlt E;have HB:=zhd E;clear E;have q:=zhd (fun(Q:World) (M2:MX TT Z Q b u p s.pop)=>yaj b u p s.pop Q M2);go_wp2_with fail;obtain⟨Q,G⟩:∃Q,Q=g.alloc (.cells #[z,d,cs,.slice la ln lc] 38):=⟨_,rfl⟩;have Y:=zba G;have V:=zha G;rw[<-G];have K:=zh5 Y (P.o.1.ext Y) (P.o.2.2.keep (S:=fun _=>False) (zkb Y) (fun _ _ f=>f)) V (Y.block W c|>.trans HB.o);clear G Y V m d1 c;refine(q.o _ K.o.2.1).mono ?_;rintro e w3 ⟨t,⟨y,a,ds,ma,mn,mc⟩,rfl,O⟩;have A:=(O.o.2.1.keeps.block g (zlt K.o.2.2.2.1) (fun e=>by have:=P.o.1.lt e;omega)).trans K.o.2.2.2.1
 have D:=(O.o.2.1.keeps.block W (zlt K.o.2.2.2.2) (fun e=>by
  rcases P.o.2.1.own _ e with h|h
  .have:=I.o.1.lt h;omega
  .have:=zlt I.o.2.2.1;omega)).trans K.o.2.2.2.2
 obtain⟨w4,F⟩:∃w4,w4=w3.alloc (.cells #[y,a,ds,.slice ma mn mc] 38):=⟨_,rfl⟩;have L:=zba F;have C:=zha F;have B:=(L.block g (zlt A)).trans A;have J:=(L.block W (zlt D)).trans D;have q0:=zca B 0 rfl;have q1:=zca B 1 rfl;have q2:=zca B 2 rfl;have q3:=zca B 3 rfl;have r0:=zca C 0 rfl;have r1:=zca C 1 rfl;have r2:=zca C 2 rfl;have r3:=zca C 3 rfl;have c0:=zca J 0 rfl;have m:=zca D 0 rfl;have x0:=zca A 0 rfl;have x1:=zca A 1 rfl;have x2:=zca A 2 rfl;have x3:=zca A 3 rfl;have xl:=zlt A;have c:=zlt D;have l4:=zlt C;have xl4:=zlt B;have Aa:=zlt J;have K4:MK b v W t w4:=(MK.ext I.o.2.1).trans (P.o.2.1.trans ((MK.ext K.o.1).trans (O.o.2.1.trans (MK.ext L))));have N:=zh4 (O.o.1.ext L) K4 ((CF.step O.o.2.1 K.o.2.2.1).step (MK.ext L)) (O.o.2.2.step (MK.ext L));have U:s.pop.pop.stk.length<=4294967296:=znf (yaV s) I.o.2.2.2.2.1;have l:=I.o.2.2.2.1;clear A D C B J L K4;go_upto_region 22 with(fail);rw[<-F];clear F m x0 x1 x2 x3 xl c;obtain rfl:y=1:=N.o.2.2.2.kind.trans ha;obtain rfl:z=1:=N.o.2.2.1.kind.trans hb
 have R:a=s.pop.top.num:=N.o.2.2.2.n;have T:d=s.top.num:=N.o.2.2.1.n;rw[<-R,<-T]at l;have HE:=zhd (show s'=s.pop.pop.push (ybD (IntKind.i64.wrap (a+d))) by rw[l,IntKind.wrap_i64];unfold wrap64;rfl);clear R T ha hb l;go_upto_region 48 with(fail);go_region_law (first
  |(go_simp;go_at_call 106;refine(ybl _ _).mono ?_;rintro e w6 ⟨rfl,X⟩;have H6:=zhd (znw ((znv w4.heap.size w4).drew) X);clear X)
  |(go_simp;go_at_call 119;refine(yak b t p s.pop.pop w6 (N.o.1.ext H6.o) (ybD (IntKind.i64.wrap (a+d))) 1 _ ⟨#[]⟩ none 0 0 (ycK _ _ _) U).mono ?_;rintro e w7 ⟨v7,rfl,H7⟩))
 all_goals
  go_wp2;go_ret;exact⟨v7,rfl,zhd ⟨by rw[HE.o];exact H7.o.1,N.o.2.1.trans ((MK.ext H6.o).trans H7.o.2)⟩⟩
theorem yhg
  {Z:Nat->Prop}(b:Nat)(v:MV)(p:Img)(s:MS)(W:World)(M:MX TT Z W b v p s)
  (k:Int)(hk:s.stk.length<=4294967296)(hl:s.made.length<=4294967296)(hZ:∀j,W.heap.size<=j->Z j)(s':MS)
  (hx:¬s.pop.top.kind=1\/¬s.top.kind=1)(hs':s'=s.pop.pop.tType):
  Calls Tryz.prog 164 #[.pointer (some ⟨b,0,none⟩),.agg #[.int .i64 6,k]] W (MP Z W b v p (.bool true) s')
  :=by
 obtain⟨g,I⟩:∃g,g=W.alloc (.cells #[.int .i64 6,k] 106):=⟨_,rfl⟩;have t:=zba I;have z:=zha I;have PO:=zhd (yaj b v p s g (M.ext t));have D:=zh7 M t z hs' hk hl hZ;clear M t z hs' hk hl hZ;go_in;go_wp2_with fail;rw[<-I];clear I;refine PO.o.mono ?_;rintro e d ⟨u,⟨c,cn,cs,la,ln,lc⟩,rfl,T⟩;have F:=(T.o.2.1.keeps.block W (zlt D.o.2.2.1) (fun e=>by have:=D.o.1.lt e;omega)).trans D.o.2.2.1;have n:=zca F 0 rfl;have d1:=zca F 1 rfl;have a:=zlt F;have HB:=zhd F;clear F;have q:=zhd (fun(U:World) (M2:MX TT Z U b u p s.pop)=>yaj b u p s.pop U M2);go_wp2_with fail;obtain⟨U,H⟩:∃U,U=d.alloc (.cells #[c,cn,cs,.slice la ln lc] 38):=⟨_,rfl⟩;have Y:=zba H;have V:=zha H;rw[<-H];have O:=zh5 Y (T.o.1.ext Y) (T.o.2.2.keep (S:=fun _=>False) (zkb Y) (fun _ _ f=>f)) V (Y.block W a|>.trans HB.o);clear H Y V n d1 a;refine(q.o _ O.o.2.1).mono ?_;rintro e w3 ⟨l,⟨Q,dn,ds,ma,mn,mc⟩,rfl,R⟩;have A:=(R.o.2.1.keeps.block d (zlt O.o.2.2.2.1) (fun e=>by have:=T.o.1.lt e;omega)).trans O.o.2.2.2.1
 have E:=(R.o.2.1.keeps.block W (zlt O.o.2.2.2.2) (fun e=>by
  rcases T.o.2.1.own _ e with h|h
  .have:=D.o.1.lt h;omega
  .have:=zlt D.o.2.2.1;omega)).trans O.o.2.2.2.2
 obtain⟨w4,G⟩:∃w4,w4=w3.alloc (.cells #[Q,dn,ds,.slice ma mn mc] 38):=⟨_,rfl⟩;have P:=zba G;have C:=zha G;have B:=(P.block d (zlt A)).trans A;have N:=(P.block W (zlt E)).trans E;have q0:=zca B 0 rfl;have q1:=zca B 1 rfl;have q2:=zca B 2 rfl;have q3:=zca B 3 rfl;have r0:=zca C 0 rfl;have r1:=zca C 1 rfl;have r2:=zca C 2 rfl;have r3:=zca C 3 rfl;have c0:=zca N 0 rfl;have n:=zca E 0 rfl;have x0:=zca A 0 rfl;have x1:=zca A 1 rfl;have x2:=zca A 2 rfl;have x3:=zca A 3 rfl;have xl:=zlt A;have a:=zlt E;have l4:=zlt C;have xl4:=zlt B;have Aa:=zlt N;have K4:MK b v W l w4:=(MK.ext D.o.2.1).trans (T.o.2.1.trans ((MK.ext O.o.1).trans (R.o.2.1.trans (MK.ext P))));have K:=zh4 (R.o.1.ext P) K4 ((CF.step R.o.2.1 O.o.2.2.1).step (MK.ext P)) (R.o.2.2.step (MK.ext P));have x:s.pop.pop.stk.length<=4294967296:=znf (yaV s) D.o.2.2.2.2.1;have y:=D.o.2.2.2.1;clear A E C B N P K4;go_upto_region 22 with(fail);rw[<-G];clear G n x0 x1 x2 x3 xl a;have J:Q=s.pop.top.kind:=K.o.2.2.2.kind;have L:c=s.top.kind:=K.o.2.2.1.kind
 by_cases h1:s.pop.top.kind=1
 .have m:(Q==1)=true:=by rw[beq_iff_eq,J];exact h1
  have n2:(c==1)=false:=by rw[zna,L];exact hx.resolve_left (fun h=>h h1)
  have n3:(Q !=1)=false:=by rw[bne,m];rfl
  have n4:(c !=1)=true:=by rw[bne,n2];rfl
  clear J L h1 hx;have r:=zhd (yav b l p s.pop.pop w4 K.o.1 ⟨#[116,121,112,101]⟩ (by decide) D.o.2.2.2.2.2.1 (yad D.o.2.2.2.2.2.2 K.o.2.1.keeps.size) s' (y.symm));go_wp2_with fail;refine r.o.mono ?_;rintro e w5 ⟨i,rfl,X⟩;go_wp2;go_ret;exact⟨i,rfl,zhd ⟨X.o.1,K.o.2.1.trans X.o.2⟩⟩
 .have m:(Q==1)=false:=by rw[zna,J];exact h1
  have n3:(Q !=1)=true:=by rw[bne,m];rfl
  clear J L h1 hx;have r:=zhd (yav b l p s.pop.pop w4 K.o.1 ⟨#[116,121,112,101]⟩ (by decide) D.o.2.2.2.2.2.1 (yad D.o.2.2.2.2.2.2 K.o.2.1.keeps.size) s' (y.symm));go_wp2_with fail;refine r.o.mono ?_;rintro e w5 ⟨i,rfl,X⟩;go_wp2;go_ret;exact⟨i,rfl,zhd ⟨X.o.1,K.o.2.1.trans X.o.2⟩⟩
theorem yi8
  {Z:Nat->Prop}(b:Nat)(v:MV)(p:Img)(s:MS)(W:World)(M:MX TT Z W b v p s)
  (k:Int)(hk:s.stk.length<=4294967296)(hl:s.made.length<=4294967296)(hZ:∀j,W.heap.size<=j->Z j)(s':MS)
  (ha:s.pop.top.kind=1)(hb:s.top.kind=1)(hs':s'=s.pop.pop.push (ybD (wrap64 (s.pop.top.num - s.top.num)))):
  Calls Tryz.prog 164 #[.pointer (some ⟨b,0,none⟩),.agg #[.int .i64 6,k]] W (MP Z W b v p (.bool true) s')
  :=by
 obtain⟨i,H⟩:∃i,i=W.alloc (.cells #[.int .i64 6,k] 106):=⟨_,rfl⟩;have r:=zba H;have x:=zha H;have PO:=zhd (yaj b v p s i (M.ext r));have I:=zh7 M r x hs' hk hl hZ;clear M r x hs' hk hl hZ;go_in;go_wp2_with fail;rw[<-H];clear H;refine PO.o.mono ?_;rintro e g ⟨u,⟨z,d,cs,la,ln,lc⟩,rfl,P⟩;have E:=(P.o.2.1.keeps.block W (zlt I.o.2.2.1) (fun e=>by have:=I.o.1.lt e;omega)).trans I.o.2.2.1;have m:=zca E 0 rfl;have d1:=zca E 1 rfl;have c:=zlt E;have HB:=zhd E;clear E;have q:=zhd (fun(Q:World) (M2:MX TT Z Q b u p s.pop)=>yaj b u p s.pop Q M2);go_wp2_with fail;obtain⟨Q,G⟩:∃Q,Q=g.alloc (.cells #[z,d,cs,.slice la ln lc] 38):=⟨_,rfl⟩;have Y:=zba G;have V:=zha G;rw[<-G];have K:=zh5 Y (P.o.1.ext Y) (P.o.2.2.keep (S:=fun _=>False) (zkb Y) (fun _ _ f=>f)) V (Y.block W c|>.trans HB.o);clear G Y V m d1 c;refine(q.o _ K.o.2.1).mono ?_;rintro e w3 ⟨t,⟨y,a,ds,ma,mn,mc⟩,rfl,O⟩;have A:=(O.o.2.1.keeps.block g (zlt K.o.2.2.2.1) (fun e=>by have:=P.o.1.lt e;omega)).trans K.o.2.2.2.1
 have D:=(O.o.2.1.keeps.block W (zlt K.o.2.2.2.2) (fun e=>by
  rcases P.o.2.1.own _ e with h|h
  .have:=I.o.1.lt h;omega
  .have:=zlt I.o.2.2.1;omega)).trans K.o.2.2.2.2
 obtain⟨w4,F⟩:∃w4,w4=w3.alloc (.cells #[y,a,ds,.slice ma mn mc] 38):=⟨_,rfl⟩;have L:=zba F;have C:=zha F;have B:=(L.block g (zlt A)).trans A;have J:=(L.block W (zlt D)).trans D;have q0:=zca B 0 rfl;have q1:=zca B 1 rfl;have q2:=zca B 2 rfl;have q3:=zca B 3 rfl;have r0:=zca C 0 rfl;have r1:=zca C 1 rfl;have r2:=zca C 2 rfl;have r3:=zca C 3 rfl;have c0:=zca J 0 rfl;have m:=zca D 0 rfl;have x0:=zca A 0 rfl;have x1:=zca A 1 rfl;have x2:=zca A 2 rfl;have x3:=zca A 3 rfl;have xl:=zlt A;have c:=zlt D;have l4:=zlt C;have xl4:=zlt B;have Aa:=zlt J;have K4:MK b v W t w4:=(MK.ext I.o.2.1).trans (P.o.2.1.trans ((MK.ext K.o.1).trans (O.o.2.1.trans (MK.ext L))));have N:=zh4 (O.o.1.ext L) K4 ((CF.step O.o.2.1 K.o.2.2.1).step (MK.ext L)) (O.o.2.2.step (MK.ext L));have U:s.pop.pop.stk.length<=4294967296:=znf (yaV s) I.o.2.2.2.2.1;have l:=I.o.2.2.2.1;clear A D C B J L K4;go_upto_region 22 with(fail);rw[<-F];clear F m x0 x1 x2 x3 xl c;obtain rfl:y=1:=N.o.2.2.2.kind.trans ha;obtain rfl:z=1:=N.o.2.2.1.kind.trans hb
 have R:a=s.pop.top.num:=N.o.2.2.2.n;have T:d=s.top.num:=N.o.2.2.1.n;rw[<-R,<-T]at l;have HE:=zhd (show s'=s.pop.pop.push (ybD (IntKind.i64.wrap (a - d))) by rw[l,IntKind.wrap_i64];unfold wrap64;rfl);clear R T ha hb l;go_upto_region 50 with(fail);go_region_law (first
  |(go_simp;go_at_call 106;refine(ybl _ _).mono ?_;rintro e w6 ⟨rfl,X⟩;have H6:=zhd (znw ((znv w4.heap.size w4).drew) X);clear X)
  |(go_simp;go_at_call 119;refine(yak b t p s.pop.pop w6 (N.o.1.ext H6.o) (ybD (IntKind.i64.wrap (a - d))) 1 _ ⟨#[]⟩ none 0 0 (ycK _ _ _) U).mono ?_;rintro e w7 ⟨v7,rfl,H7⟩))
 all_goals
  go_wp2;go_ret;exact⟨v7,rfl,zhd ⟨by rw[HE.o];exact H7.o.1,N.o.2.1.trans ((MK.ext H6.o).trans H7.o.2)⟩⟩
theorem yhf
  {Z:Nat->Prop}(b:Nat)(v:MV)(p:Img)(s:MS)(W:World)(M:MX TT Z W b v p s)
  (k:Int)(hk:s.stk.length<=4294967296)(hl:s.made.length<=4294967296)(hZ:∀j,W.heap.size<=j->Z j)(s':MS)
  (hx:¬s.pop.top.kind=1\/¬s.top.kind=1)(hs':s'=s.pop.pop.tType):
  Calls Tryz.prog 164 #[.pointer (some ⟨b,0,none⟩),.agg #[.int .i64 7,k]] W (MP Z W b v p (.bool true) s')
  :=by
 obtain⟨g,I⟩:∃g,g=W.alloc (.cells #[.int .i64 7,k] 106):=⟨_,rfl⟩;have t:=zba I;have z:=zha I;have PO:=zhd (yaj b v p s g (M.ext t));have D:=zh7 M t z hs' hk hl hZ;clear M t z hs' hk hl hZ;go_in;go_wp2_with fail;rw[<-I];clear I;refine PO.o.mono ?_;rintro e d ⟨u,⟨c,cn,cs,la,ln,lc⟩,rfl,T⟩;have F:=(T.o.2.1.keeps.block W (zlt D.o.2.2.1) (fun e=>by have:=D.o.1.lt e;omega)).trans D.o.2.2.1;have n:=zca F 0 rfl;have d1:=zca F 1 rfl;have a:=zlt F;have HB:=zhd F;clear F;have q:=zhd (fun(U:World) (M2:MX TT Z U b u p s.pop)=>yaj b u p s.pop U M2);go_wp2_with fail;obtain⟨U,H⟩:∃U,U=d.alloc (.cells #[c,cn,cs,.slice la ln lc] 38):=⟨_,rfl⟩;have Y:=zba H;have V:=zha H;rw[<-H];have O:=zh5 Y (T.o.1.ext Y) (T.o.2.2.keep (S:=fun _=>False) (zkb Y) (fun _ _ f=>f)) V (Y.block W a|>.trans HB.o);clear H Y V n d1 a;refine(q.o _ O.o.2.1).mono ?_;rintro e w3 ⟨l,⟨Q,dn,ds,ma,mn,mc⟩,rfl,R⟩;have A:=(R.o.2.1.keeps.block d (zlt O.o.2.2.2.1) (fun e=>by have:=T.o.1.lt e;omega)).trans O.o.2.2.2.1
 have E:=(R.o.2.1.keeps.block W (zlt O.o.2.2.2.2) (fun e=>by
  rcases T.o.2.1.own _ e with h|h
  .have:=D.o.1.lt h;omega
  .have:=zlt D.o.2.2.1;omega)).trans O.o.2.2.2.2
 obtain⟨w4,G⟩:∃w4,w4=w3.alloc (.cells #[Q,dn,ds,.slice ma mn mc] 38):=⟨_,rfl⟩;have P:=zba G;have C:=zha G;have B:=(P.block d (zlt A)).trans A;have N:=(P.block W (zlt E)).trans E;have q0:=zca B 0 rfl;have q1:=zca B 1 rfl;have q2:=zca B 2 rfl;have q3:=zca B 3 rfl;have r0:=zca C 0 rfl;have r1:=zca C 1 rfl;have r2:=zca C 2 rfl;have r3:=zca C 3 rfl;have c0:=zca N 0 rfl;have n:=zca E 0 rfl;have x0:=zca A 0 rfl;have x1:=zca A 1 rfl;have x2:=zca A 2 rfl;have x3:=zca A 3 rfl;have xl:=zlt A;have a:=zlt E;have l4:=zlt C;have xl4:=zlt B;have Aa:=zlt N;have K4:MK b v W l w4:=(MK.ext D.o.2.1).trans (T.o.2.1.trans ((MK.ext O.o.1).trans (R.o.2.1.trans (MK.ext P))));have K:=zh4 (R.o.1.ext P) K4 ((CF.step R.o.2.1 O.o.2.2.1).step (MK.ext P)) (R.o.2.2.step (MK.ext P));have x:s.pop.pop.stk.length<=4294967296:=znf (yaV s) D.o.2.2.2.2.1;have y:=D.o.2.2.2.1;clear A E C B N P K4;go_upto_region 22 with(fail);rw[<-G];clear G n x0 x1 x2 x3 xl a;have J:Q=s.pop.top.kind:=K.o.2.2.2.kind;have L:c=s.top.kind:=K.o.2.2.1.kind
 by_cases h1:s.pop.top.kind=1
 .have m:(Q==1)=true:=by rw[beq_iff_eq,J];exact h1
  have n2:(c==1)=false:=by rw[zna,L];exact hx.resolve_left (fun h=>h h1)
  have n3:(Q !=1)=false:=by rw[bne,m];rfl
  have n4:(c !=1)=true:=by rw[bne,n2];rfl
  clear J L h1 hx;have r:=zhd (yav b l p s.pop.pop w4 K.o.1 ⟨#[116,121,112,101]⟩ (by decide) D.o.2.2.2.2.2.1 (yad D.o.2.2.2.2.2.2 K.o.2.1.keeps.size) s' (y.symm));go_wp2_with fail;refine r.o.mono ?_;rintro e w5 ⟨i,rfl,X⟩;go_wp2;go_ret;exact⟨i,rfl,zhd ⟨X.o.1,K.o.2.1.trans X.o.2⟩⟩
 .have m:(Q==1)=false:=by rw[zna,J];exact h1
  have n3:(Q !=1)=true:=by rw[bne,m];rfl
  clear J L h1 hx;have r:=zhd (yav b l p s.pop.pop w4 K.o.1 ⟨#[116,121,112,101]⟩ (by decide) D.o.2.2.2.2.2.1 (yad D.o.2.2.2.2.2.2 K.o.2.1.keeps.size) s' (y.symm));go_wp2_with fail;refine r.o.mono ?_;rintro e w5 ⟨i,rfl,X⟩;go_wp2;go_ret;exact⟨i,rfl,zhd ⟨X.o.1,K.o.2.1.trans X.o.2⟩⟩
theorem yi7
  {Z:Nat->Prop}(b:Nat)(v:MV)(p:Img)(s:MS)(W:World)(M:MX TT Z W b v p s)
  (k:Int)(hk:s.stk.length<=4294967296)(hl:s.made.length<=4294967296)(hZ:∀j,W.heap.size<=j->Z j)(s':MS)
  (ha:s.pop.top.kind=1)(hb:s.top.kind=1)(hs':s'=s.pop.pop.push (ybD (wrap64 (s.pop.top.num*s.top.num)))):
  Calls Tryz.prog 164 #[.pointer (some ⟨b,0,none⟩),.agg #[.int .i64 7,k]] W (MP Z W b v p (.bool true) s')
  :=by
 obtain⟨i,H⟩:∃i,i=W.alloc (.cells #[.int .i64 7,k] 106):=⟨_,rfl⟩;have r:=zba H;have x:=zha H;have PO:=zhd (yaj b v p s i (M.ext r));have I:=zh7 M r x hs' hk hl hZ;clear M r x hs' hk hl hZ;go_in;go_wp2_with fail;rw[<-H];clear H;refine PO.o.mono ?_;rintro e g ⟨u,⟨z,d,cs,la,ln,lc⟩,rfl,P⟩;have E:=(P.o.2.1.keeps.block W (zlt I.o.2.2.1) (fun e=>by have:=I.o.1.lt e;omega)).trans I.o.2.2.1;have m:=zca E 0 rfl;have d1:=zca E 1 rfl;have c:=zlt E;have HB:=zhd E;clear E;have q:=zhd (fun(Q:World) (M2:MX TT Z Q b u p s.pop)=>yaj b u p s.pop Q M2);go_wp2_with fail;obtain⟨Q,G⟩:∃Q,Q=g.alloc (.cells #[z,d,cs,.slice la ln lc] 38):=⟨_,rfl⟩;have Y:=zba G;have V:=zha G;rw[<-G];have K:=zh5 Y (P.o.1.ext Y) (P.o.2.2.keep (S:=fun _=>False) (zkb Y) (fun _ _ f=>f)) V (Y.block W c|>.trans HB.o);clear G Y V m d1 c;refine(q.o _ K.o.2.1).mono ?_;rintro e w3 ⟨t,⟨y,a,ds,ma,mn,mc⟩,rfl,O⟩;have A:=(O.o.2.1.keeps.block g (zlt K.o.2.2.2.1) (fun e=>by have:=P.o.1.lt e;omega)).trans K.o.2.2.2.1
 have D:=(O.o.2.1.keeps.block W (zlt K.o.2.2.2.2) (fun e=>by
  rcases P.o.2.1.own _ e with h|h
  .have:=I.o.1.lt h;omega
  .have:=zlt I.o.2.2.1;omega)).trans K.o.2.2.2.2
 obtain⟨w4,F⟩:∃w4,w4=w3.alloc (.cells #[y,a,ds,.slice ma mn mc] 38):=⟨_,rfl⟩;have L:=zba F;have C:=zha F;have B:=(L.block g (zlt A)).trans A;have J:=(L.block W (zlt D)).trans D;have q0:=zca B 0 rfl;have q1:=zca B 1 rfl;have q2:=zca B 2 rfl;have q3:=zca B 3 rfl;have r0:=zca C 0 rfl;have r1:=zca C 1 rfl;have r2:=zca C 2 rfl;have r3:=zca C 3 rfl;have c0:=zca J 0 rfl;have m:=zca D 0 rfl;have x0:=zca A 0 rfl;have x1:=zca A 1 rfl;have x2:=zca A 2 rfl;have x3:=zca A 3 rfl;have xl:=zlt A;have c:=zlt D;have l4:=zlt C;have xl4:=zlt B;have Aa:=zlt J;have K4:MK b v W t w4:=(MK.ext I.o.2.1).trans (P.o.2.1.trans ((MK.ext K.o.1).trans (O.o.2.1.trans (MK.ext L))));have N:=zh4 (O.o.1.ext L) K4 ((CF.step O.o.2.1 K.o.2.2.1).step (MK.ext L)) (O.o.2.2.step (MK.ext L));have U:s.pop.pop.stk.length<=4294967296:=znf (yaV s) I.o.2.2.2.2.1;have l:=I.o.2.2.2.1;clear A D C B J L K4;go_upto_region 22 with(fail);rw[<-F];clear F m x0 x1 x2 x3 xl c;obtain rfl:y=1:=N.o.2.2.2.kind.trans ha;obtain rfl:z=1:=N.o.2.2.1.kind.trans hb
 have R:a=s.pop.top.num:=N.o.2.2.2.n;have T:d=s.top.num:=N.o.2.2.1.n;rw[<-R,<-T]at l;have HE:=zhd (show s'=s.pop.pop.push (ybD (IntKind.i64.wrap (a*d))) by rw[l,IntKind.wrap_i64];unfold wrap64;rfl);clear R T ha hb l;go_upto_region 46 with(fail);go_region_law (first
  |(go_simp;go_at_call 106;refine(ybl _ _).mono ?_;rintro e w6 ⟨rfl,X⟩;have H6:=zhd (znw ((znv w4.heap.size w4).drew) X);clear X)
  |(go_simp;go_at_call 119;refine(yak b t p s.pop.pop w6 (N.o.1.ext H6.o) (ybD (IntKind.i64.wrap (a*d))) 1 _ ⟨#[]⟩ none 0 0 (ycK _ _ _) U).mono ?_;rintro e w7 ⟨v7,rfl,H7⟩))
 all_goals
  go_wp2;go_ret;exact⟨v7,rfl,zhd ⟨by rw[HE.o];exact H7.o.1,N.o.2.1.trans ((MK.ext H6.o).trans H7.o.2)⟩⟩
end Go.Proofs.YtpagmlndgblhhaaGreatDoor
