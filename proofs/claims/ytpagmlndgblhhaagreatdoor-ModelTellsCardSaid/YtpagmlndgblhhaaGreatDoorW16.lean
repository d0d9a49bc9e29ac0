/- Parts of the proof: what the functions and the plain laws give that later parts lean on. Conditions: none beyond those that each theorem names. -/
import Derived.Lib.IndexMore
import Derived.Test.YtpagmlndgblhhaaGreatDoorW15
set_option maxRecDepth 100000
set_option maxHeartbeats 8000000
namespace Go.Proofs.YtpagmlndgblhhaaGreatDoor
open Go.RowKit Go.Own Go.Own.MapTy Go.Va Go.Sort
open Go.Own.Cells (sz enc)
theorem yjs
  {Z:Nat->Prop}(b:Nat)(v:MV)(p:Img)(s:MS)(W:World)(M:MX TT Z W b v p s)
  (id how:Int)(y:Val)(ck cn:Int)(cs:ByteArray)(la:Option Addr)(ln lc:Nat)(F:Nat->Prop)(C:CF F W ⟨ck,cn,cs,la,ln,lc⟩ y)(hz:szV y<=1073741824)(hl:s.timers.list.length<=4294967296)(hZ:∀j,W.heap.size<=j->Z j)(s':MS)(hs':s'={s with timers:=⟨ycw id how y s.timers.list,s.timers.next⟩}):
  Calls Tryz.prog 108 #[.pointer (some ⟨b,12,none⟩),id,how,.agg #[ck,cn,cs,.slice la ln lc]] W (MP Z W b v p (.tuple #[]) s'):=by
 obtain⟨ss,ic,ps,Ae,ts,Ag,ls,ms⟩:=v;obtain⟨a,cap,rfl⟩:∃a cap,ts= .slice a s.timers.list.length cap:=M.tms.slice;have b0:=zlt M.h;obtain⟨w0,D⟩:∃w0,w0=W.alloc (.cells #[ck,cn,cs,.slice la ln lc] 38):=⟨_,rfl⟩;have B0:=zba D;have hB:=zha D;obtain⟨q0,q1,q2,q3,_⟩:=zq4 hB;have lr:W.heap.size<w0.heap.size:=zlt hB;have b1:b<w0:=by omega
 have z:=M.ext B0;have c0:w0.cell? ⟨b,12,none⟩=some (.slice a s.timers.list.length cap):=z.cell (k:=12) rfl;have FI:=zhd (fun r hr=>yaR b 12 id s.timers.list a cap _ w0 c0 z.tms b1 r hr);obtain⟨ks,hR,hP⟩:=z.tms.cells;have B:=zh8 M B0 z hR hP C hZ hB;clear hB z M B0 hR hP C hZ;cases hf:yax id s.timers.list with
 |none=>
  have X:s'=s:=by rw[hs',yet hf]
  have F1:=zhd (FI.o (-1) (by unfold ybL;rw[hf]));clear hs' FI hf;go_in;go_wp2_with fail;rw[<-D];clear D;refine F1.o.mono ?_;rintro e Y ⟨rfl,N⟩;rw[N];clear N Y;go_wp2_with fail
  go_end0
  exact⟨_,rfl,zhd (by rw[X];exact⟨B.o.2.2.1,MK.ext B.o.2.1⟩)⟩
 |some i=>
  have F1:=zhd (FI.o (i:Int) (by unfold ybL;rw[hf]));obtain⟨x,P⟩:∃x,s.timers.list[i]? =some x:=by
   have:∀(l:List Th) (i:Nat),yax id l=some i->∃x,l[i]? =some x:=by
    intro l
    induction l with
    |nil=>intro i h;cases h
    |cons y r ih=>
     intro i h;rw[yax]at h;split at h
     .cases h;exact⟨y,rfl⟩
     .cases h2:yax id r with
      |none=>rw[h2]at h;cases h
      |some j=>rw[h2]at h;cases h;obtain⟨x,P⟩:=ih j h2;exact⟨x,by simpa using P⟩
   exact this _ _ hf
  obtain⟨⟨O,d,⟨vk,vn,vs,va,vl,vc⟩,m⟩,u,hC⟩:=B.o.2.2.2.2.1.get P;obtain⟨g,A,rfl,hg⟩:=B.o.2.2.2.1.addr u;have E:=fun(j:Nat) (V:j<7)=>B.o.2.2.2.1.cell u (j:=j) V;have Q:d=x.over:=hC.over;have R:O=x.id:=hC.id;have Al:(i:Int)<s.timers.list.length:=by have:=(zge P).1;omega
  have m1:w0.cell? ⟨g,A+i*7+1,none⟩=some (.bool x.over):=by rw[zmm,<-Q];exact E 1 (by decide)
  have hend:=yhF (how:=how) (v:=y) hf P;have U:=zh5 hs' hend u R hl;have Am:decide ((0:Int)<=(i:Int))=true:=zno (by omega);cases ho:x.over with
  |true=>
   rw[ho]at m1;have X:s'=s:=by rw[U.o.1,U.o.2.1,ho];rfl
   clear hs' FI hf hend E hC u P Q R hl ho;go_in;go_wp2_with fail;rw[<-D];clear D;refine F1.o.mono ?_;rintro e Y ⟨rfl,N⟩;rw[N];clear N Y;go_wp2_with fail
   go_end0
   exact⟨_,rfl,zhd (by rw[X];exact⟨B.o.2.2.1,MK.ext B.o.2.1⟩)⟩
  |false=>
   rw[ho]at m1;have CL:=zhd (yay y ck cn cs la ln lc F w0.drew (B.o.2.2.2.2.2.1.keep (S:=fun _=>False) (zkb (B.o.2.1.drew)) (fun _ _ f=>f)) hz);have X:s'={s with timers:=⟨s.timers.list.set i ⟨x.id,true,yaa y,how⟩,s.timers.next⟩}:=by rw[U.o.1,U.o.2.1,ho];rfl
   have HE:=zhd X;have nb:¬g=b:=fun e=>absurd (B.o.1.sep 3 0 g rfl (by rw[e];rfl)) (by decide);have HC:=zh2 E nb;clear hs' FI hf hend E hC u P Q R hl ho X;go_in;go_wp2_with fail;rw[<-D];clear D;refine F1.o.mono ?_;rintro e Y ⟨rfl,N⟩;rw[N];clear N Y;go_wp2_with fail;have Af:w0.drew.cell? ⟨b,12,none⟩=some (.slice (some ⟨g,A,none⟩) s.timers.list.length cap):=c0;have Ad:w0.drew.cell? ⟨W,0,none⟩=some (.int .i64 ck):=q0;have Ac:w0.drew.cell? ⟨W,1,none⟩=some (.int .i64 cn):=q1;have Ab:w0.drew.cell? ⟨W,2,none⟩=some (.string cs):=q2;have Aa:w0.drew.cell? ⟨W,3,none⟩=some (.slice la ln lc):=q3;have Ak:¬g=b:=HC.o.2;have Aj:¬b=g:=fun e=>HC.o.2 e.symm;have An:g<W:=B.o.1.tms.lt (g:=g) rfl;have Ai:¬g=W.heap.size:=by omega
   have Ah:¬W.heap.size=g:=by omega
   go_region_held3 (fun W1=>W1.cell? ⟨b,12,none⟩=some (.slice (some ⟨g,A,none⟩) s.timers.list.length cap)/\W1.cell? ⟨W,0,none⟩=some (.int .i64 ck)/\W1.cell? ⟨W,1,none⟩=some (.int .i64 cn)/\W1.cell? ⟨W,2,none⟩=some (.string cs)/\W1.cell? ⟨W,3,none⟩=some (.slice la ln lc)) (first|with_reducible exact⟨Af,Ad,Ac,Ab,Aa⟩|with_reducible exact⟨d1,p0,p1,p2,p3⟩|go_keep|go_simp|(refine⟨?_,?_,?_,?_,?_⟩<;>go_simp)) ((go_at_call 58;refine CL.o.mono ?_;rintro e w5 ⟨⟨t,q,n,I,G,H⟩,rfl,T⟩;have L:Below w0 w0 w5:=znw ((znv w0.heap.size w0).drew) T.o.2;have R5:=B.o.2.2.2.1.below L;have H5:=zh3 T.o.1 L R5;have E:=(fun(j:Nat) (V:j<7)=>R5.cell U.o.2.2.1 (j:=j) V);have e1:w5.cell? ⟨g,A+i*7+1,none⟩=some (.bool d):=(by rw[zmm];exact E 1 (by decide));have e2:w5.cell? ⟨g,A+i*7+2,none⟩=some (.int .i64 vk):=(by rw[zmm];exact E 2 (by decide));have e3:w5.cell? ⟨g,A+i*7+3,none⟩=some (.int .i64 vn):=(by rw[zmm];exact E 3 (by decide));have e4:w5.cell? ⟨g,A+i*7+4,none⟩=some (.string vs):=(by rw[zmm];exact E 4 (by decide));have e5:w5.cell? ⟨g,A+i*7+5,none⟩=some (.slice va vl vc):=(by rw[zmm];exact E 5 (by decide));have e6:w5.cell? ⟨g,A+i*7+6,none⟩=some (.int .i64 m):=(by rw[zmm];exact E 6 (by decide));have ef:∀o,w5.frozen? ⟨g,o,none⟩=false:=(fun o=>R5.frozen o);have el:g<w5:=znj hg L.size;have d1:w5.cell? ⟨b,12,none⟩=some (.slice (some ⟨g,A,none⟩) s.timers.list.length cap):=((L.cell (p:=⟨b,12,none⟩) b1).trans c0);have p0:=(L.cell (p:=⟨W,0,none⟩) lr).trans q0;have p1:=(L.cell (p:=⟨W,1,none⟩) lr).trans q1;have p2:=(L.cell (p:=⟨W,2,none⟩) lr).trans q2;have p3:=(L.cell (p:=⟨W,3,none⟩) lr).trans q3;clear T L R5 E))
   all_goals
    obtain⟨w6,K⟩:∃w6,w6=((((((w5.setCell ⟨g,A+i*7+1,none⟩ (.bool true)).setCell ⟨g,A+i*7+6,none⟩ (.int .i64 how)).setCell ⟨g,A+i*7+2,none⟩ (.int .i64 t)).setCell ⟨g,A+i*7+3,none⟩ (.int .i64 q)).setCell ⟨g,A+i*7+4,none⟩ (.string n)).setCell ⟨g,A+i*7+5,none⟩ (.slice I G H)):=⟨_,rfl⟩;rw[<-K];have K6:Keeps (fun j=>j=g) w5 w6:=by rw[K];exact yfw _ _ _ _ _ _ _ _ _ _ _ _ _ _
    have R6:RowAt w6 193 (.slice (some ⟨g,A,none⟩) s.timers.list.length cap) (ks.set i ⟨O,true,⟨t,q,n,I,G,H⟩,how⟩):=by rw[K];exact yeZ H5.o.2.2 U.o.2.2.1 how ⟨t,q,n,I,G,H⟩
    have M5:=B.o.2.2.1.ext H5.o.2.1;have C5:CF (MZ Z ⟨ss,ic,ps,Ae,.slice (some ⟨g,A,none⟩) s.timers.list.length cap,Ag,ls,ms⟩ b) w5 ⟨t,q,n,I,G,H⟩ (yaa y):=H5.o.1.mono (fun j V _=>by
     have V:w0<=j:=V;exact⟨fun e=>by have:=B.o.1.lt e;omega,B.o.2.2.2.2.2.2.1 j (by omega)⟩)
    have P5:=(B.o.2.2.2.2.1.keep (S:=fun _=>False) (zkb H5.o.2.1) (fun _ _ f=>f)).set i (c:=⟨O,true,⟨t,q,n,I,G,H⟩,how⟩) (x:=⟨x.id,true,yaa y,how⟩) ⟨U.o.2.2.2.1,rfl,C5,rfl⟩;have S:=M5.putTms (v1:=.slice (some ⟨g,A,none⟩) s.timers.list.length cap) s' R6 P5 (K6.mono (fun j _ e=>by rw[e];rfl)) (fun g hg=>.inl hg) HE.o;have J:w6.setCell ⟨b,12,none⟩ (.slice (some ⟨g,A,none⟩) s.timers.list.length cap)=w6:=yco ((K6.cell (p:=⟨b,12,none⟩) (zlt M5.h) (fun e=>HC.o.2 e.symm)).trans d1);rw[J]at S;have HT:=zh2 S.1 ((MK.ext (B.o.2.1.trans (H5.o.2.1.mono B.o.2.1.size))).trans S.2);clear S J P5 C5 M5 R6 K6 K e1 e2 e3 e4 e5 e6 ef el d1;go_wp2_with fail
    go_end0
    exact⟨_,rfl,zhd HT.o⟩
theorem ydl
  {Z:Nat->Prop}(b:Nat)(v:MV)(p:Img)(s:MS)(W:World)(M:MX TT Z W b v p s)
  (id how:Int)(y:Val)(ck cn:Int)(cs:ByteArray)(la:Option Addr)(ln lc:Nat)(F:Nat->Prop)(C:CF F W ⟨ck,cn,cs,la,ln,lc⟩ y)(hz:szV y<=1073741824)(hl:s.acts.list.length<=4294967296)(hZ:∀j,W.heap.size<=j->Z j)(s':MS)(hs':s'={s with acts:=⟨ycw id how y s.acts.list,s.acts.next⟩}):
  Calls Tryz.prog 108 #[.pointer (some ⟨b,14,none⟩),id,how,.agg #[ck,cn,cs,.slice la ln lc]] W (MP Z W b v p (.tuple #[]) s'):=by
 obtain⟨ss,ic,ps,Ae,ts,Ag,ls,ms⟩:=v;obtain⟨a,cap,rfl⟩:∃a cap,Ag= .slice a s.acts.list.length cap:=M.acs.slice;have b0:=zlt M.h;obtain⟨w0,D⟩:∃w0,w0=W.alloc (.cells #[ck,cn,cs,.slice la ln lc] 38):=⟨_,rfl⟩;have B0:=zba D;have hB:=zha D;obtain⟨q0,q1,q2,q3,_⟩:=zq4 hB;have lr:W.heap.size<w0.heap.size:=zlt hB;have b1:b<w0:=by omega
 have z:=M.ext B0;have c0:w0.cell? ⟨b,14,none⟩=some (.slice a s.acts.list.length cap):=z.cell (k:=14) rfl;have FI:=zhd (fun r hr=>yaR b 14 id s.acts.list a cap _ w0 c0 z.acs b1 r hr);obtain⟨ks,hR,hP⟩:=z.acs.cells;have B:=zh8 M B0 z hR hP C hZ hB;clear hB z M B0 hR hP C hZ;cases hf:yax id s.acts.list with
 |none=>
  have X:s'=s:=by rw[hs',yet hf]
  have F1:=zhd (FI.o (-1) (by unfold ybL;rw[hf]));clear hs' FI hf;go_in;go_wp2_with fail;rw[<-D];clear D;refine F1.o.mono ?_;rintro e Y ⟨rfl,N⟩;rw[N];clear N Y;go_wp2_with fail
  go_end0
  exact⟨_,rfl,zhd (by rw[X];exact⟨B.o.2.2.1,MK.ext B.o.2.1⟩)⟩
 |some i=>
  have F1:=zhd (FI.o (i:Int) (by unfold ybL;rw[hf]));obtain⟨x,P⟩:∃x,s.acts.list[i]? =some x:=by
   have:∀(l:List Th) (i:Nat),yax id l=some i->∃x,l[i]? =some x:=by
    intro l
    induction l with
    |nil=>intro i h;cases h
    |cons y r ih=>
     intro i h;rw[yax]at h;split at h
     .cases h;exact⟨y,rfl⟩
     .cases h2:yax id r with
      |none=>rw[h2]at h;cases h
      |some j=>rw[h2]at h;cases h;obtain⟨x,P⟩:=ih j h2;exact⟨x,by simpa using P⟩
   exact this _ _ hf
  obtain⟨⟨O,d,⟨vk,vn,vs,va,vl,vc⟩,m⟩,u,hC⟩:=B.o.2.2.2.2.1.get P;obtain⟨g,A,rfl,hg⟩:=B.o.2.2.2.1.addr u;have E:=fun(j:Nat) (V:j<7)=>B.o.2.2.2.1.cell u (j:=j) V;have Q:d=x.over:=hC.over;have R:O=x.id:=hC.id;have Al:(i:Int)<s.acts.list.length:=by have:=(zge P).1;omega
  have m1:w0.cell? ⟨g,A+i*7+1,none⟩=some (.bool x.over):=by rw[zmm,<-Q];exact E 1 (by decide)
  have hend:=yhF (how:=how) (v:=y) hf P;have U:=zh5 hs' hend u R hl;have Am:decide ((0:Int)<=(i:Int))=true:=zno (by omega);cases ho:x.over with
  |true=>
   rw[ho]at m1;have X:s'=s:=by rw[U.o.1,U.o.2.1,ho];rfl
   clear hs' FI hf hend E hC u P Q R hl ho;go_in;go_wp2_with fail;rw[<-D];clear D;refine F1.o.mono ?_;rintro e Y ⟨rfl,N⟩;rw[N];clear N Y;go_wp2_with fail
   go_end0
   exact⟨_,rfl,zhd (by rw[X];exact⟨B.o.2.2.1,MK.ext B.o.2.1⟩)⟩
  |false=>
   rw[ho]at m1;have CL:=zhd (yay y ck cn cs la ln lc F w0.drew (B.o.2.2.2.2.2.1.keep (S:=fun _=>False) (zkb (B.o.2.1.drew)) (fun _ _ f=>f)) hz);have X:s'={s with acts:=⟨s.acts.list.set i ⟨x.id,true,yaa y,how⟩,s.acts.next⟩}:=by rw[U.o.1,U.o.2.1,ho];rfl
   have HE:=zhd X;have nb:¬g=b:=fun e=>absurd (B.o.1.sep 4 0 g rfl (by rw[e];rfl)) (by decide);have HC:=zh2 E nb;clear hs' FI hf hend E hC u P Q R hl ho X;go_in;go_wp2_with fail;rw[<-D];clear D;refine F1.o.mono ?_;rintro e Y ⟨rfl,N⟩;rw[N];clear N Y;go_wp2_with fail;have Af:w0.drew.cell? ⟨b,14,none⟩=some (.slice (some ⟨g,A,none⟩) s.acts.list.length cap):=c0;have Ad:w0.drew.cell? ⟨W,0,none⟩=some (.int .i64 ck):=q0;have Ac:w0.drew.cell? ⟨W,1,none⟩=some (.int .i64 cn):=q1;have Ab:w0.drew.cell? ⟨W,2,none⟩=some (.string cs):=q2;have Aa:w0.drew.cell? ⟨W,3,none⟩=some (.slice la ln lc):=q3;have Ak:¬g=b:=HC.o.2;have Aj:¬b=g:=fun e=>HC.o.2 e.symm;have An:g<W:=B.o.1.acs.lt (g:=g) rfl;have Ai:¬g=W.heap.size:=by omega
   have Ah:¬W.heap.size=g:=by omega
   go_region_held3 (fun W1=>W1.cell? ⟨b,14,none⟩=some (.slice (some ⟨g,A,none⟩) s.acts.list.length cap)/\W1.cell? ⟨W,0,none⟩=some (.int .i64 ck)/\W1.cell? ⟨W,1,none⟩=some (.int .i64 cn)/\W1.cell? ⟨W,2,none⟩=some (.string cs)/\W1.cell? ⟨W,3,none⟩=some (.slice la ln lc)) (first|with_reducible exact⟨Af,Ad,Ac,Ab,Aa⟩|with_reducible exact⟨d1,p0,p1,p2,p3⟩|go_keep|go_simp|(refine⟨?_,?_,?_,?_,?_⟩<;>go_simp)) ((go_at_call 58;refine CL.o.mono ?_;rintro e w5 ⟨⟨t,q,n,I,G,H⟩,rfl,T⟩;have L:Below w0 w0 w5:=znw ((znv w0.heap.size w0).drew) T.o.2;have R5:=B.o.2.2.2.1.below L;have H5:=zh3 T.o.1 L R5;have E:=(fun(j:Nat) (V:j<7)=>R5.cell U.o.2.2.1 (j:=j) V);have e1:w5.cell? ⟨g,A+i*7+1,none⟩=some (.bool d):=(by rw[zmm];exact E 1 (by decide));have e2:w5.cell? ⟨g,A+i*7+2,none⟩=some (.int .i64 vk):=(by rw[zmm];exact E 2 (by decide));have e3:w5.cell? ⟨g,A+i*7+3,none⟩=some (.int .i64 vn):=(by rw[zmm];exact E 3 (by decide));have e4:w5.cell? ⟨g,A+i*7+4,none⟩=some (.string vs):=(by rw[zmm];exact E 4 (by decide));have e5:w5.cell? ⟨g,A+i*7+5,none⟩=some (.slice va vl vc):=(by rw[zmm];exact E 5 (by decide));have e6:w5.cell? ⟨g,A+i*7+6,none⟩=some (.int .i64 m):=(by rw[zmm];exact E 6 (by decide));have ef:∀o,w5.frozen? ⟨g,o,none⟩=false:=(fun o=>R5.frozen o);have el:g<w5:=znj hg L.size;have d1:w5.cell? ⟨b,14,none⟩=some (.slice (some ⟨g,A,none⟩) s.acts.list.length cap):=((L.cell (p:=⟨b,14,none⟩) b1).trans c0);have p0:=(L.cell (p:=⟨W,0,none⟩) lr).trans q0;have p1:=(L.cell (p:=⟨W,1,none⟩) lr).trans q1;have p2:=(L.cell (p:=⟨W,2,none⟩) lr).trans q2;have p3:=(L.cell (p:=⟨W,3,none⟩) lr).trans q3;clear T L R5 E))
   all_goals
    obtain⟨w6,K⟩:∃w6,w6=((((((w5.setCell ⟨g,A+i*7+1,none⟩ (.bool true)).setCell ⟨g,A+i*7+6,none⟩ (.int .i64 how)).setCell ⟨g,A+i*7+2,none⟩ (.int .i64 t)).setCell ⟨g,A+i*7+3,none⟩ (.int .i64 q)).setCell ⟨g,A+i*7+4,none⟩ (.string n)).setCell ⟨g,A+i*7+5,none⟩ (.slice I G H)):=⟨_,rfl⟩;rw[<-K];have K6:Keeps (fun j=>j=g) w5 w6:=by rw[K];exact yfw _ _ _ _ _ _ _ _ _ _ _ _ _ _
    have R6:RowAt w6 193 (.slice (some ⟨g,A,none⟩) s.acts.list.length cap) (ks.set i ⟨O,true,⟨t,q,n,I,G,H⟩,how⟩):=by rw[K];exact yeZ H5.o.2.2 U.o.2.2.1 how ⟨t,q,n,I,G,H⟩
    have M5:=B.o.2.2.1.ext H5.o.2.1;have C5:CF (MZ Z ⟨ss,ic,ps,Ae,ts,.slice (some ⟨g,A,none⟩) s.acts.list.length cap,ls,ms⟩ b) w5 ⟨t,q,n,I,G,H⟩ (yaa y):=H5.o.1.mono (fun j V _=>by
     have V:w0<=j:=V;exact⟨fun e=>by have:=B.o.1.lt e;omega,B.o.2.2.2.2.2.2.1 j (by omega)⟩)
    have P5:=(B.o.2.2.2.2.1.keep (S:=fun _=>False) (zkb H5.o.2.1) (fun _ _ f=>f)).set i (c:=⟨O,true,⟨t,q,n,I,G,H⟩,how⟩) (x:=⟨x.id,true,yaa y,how⟩) ⟨U.o.2.2.2.1,rfl,C5,rfl⟩;have S:=M5.putAcs (v1:=.slice (some ⟨g,A,none⟩) s.acts.list.length cap) s' R6 P5 (K6.mono (fun j _ e=>by rw[e];rfl)) (fun g hg=>.inl hg) HE.o;have J:w6.setCell ⟨b,14,none⟩ (.slice (some ⟨g,A,none⟩) s.acts.list.length cap)=w6:=yco ((K6.cell (p:=⟨b,14,none⟩) (zlt M5.h) (fun e=>HC.o.2 e.symm)).trans d1);rw[J]at S;have HT:=zh2 S.1 ((MK.ext (B.o.2.1.trans (H5.o.2.1.mono B.o.2.1.size))).trans S.2);clear S J P5 C5 M5 R6 K6 K e1 e2 e3 e4 e5 e6 ef el d1;go_wp2_with fail
    go_end0
    exact⟨_,rfl,zhd HT.o⟩
end Go.Proofs.YtpagmlndgblhhaaGreatDoor
namespace Go.Va
open Go.Own Go.RowKit
def wds:List (List UInt8×List UInt8):=[([114,117,110,45,115,116,97,114,116,101,100],[65,66,78,84,86]),
 ([116,97,115,107,45,115,99,104,101,100,117,108,101,100],[66]),
 ([116,97,115,107,45,115,116,97,114,116,101,100],[65,66]),
 ([116,97,115,107,45,99,111,109,112,108,101,116,101,100],[65,66]),
 ([116,97,115,107,45,116,105,109,101,100,45,111,117,116],[66]),
 ([116,97,115,107,45,102,97,105,108,101,100],[66,78]),
 ([97,99,116,105,118,105,116,121,45,115,99,104,101,100,117,108,101,100],[65,66,78,86]),
 ([97,99,116,105,118,105,116,121,45,99,111,109,112,108,101,116,101,100],[65,86]),
 ([97,99,116,105,118,105,116,121,45,102,97,105,108,101,100],[65,78]),
 ([97,99,116,105,118,105,116,121,45,116,105,109,101,100,45,111,117,116],[65]),
 ([116,105,109,101,114,45,115,116,97,114,116,101,100],[65,66]),
 ([116,105,109,101,114,45,102,105,114,101,100],[65]),
 ([116,105,109,101,114,45,99,97,110,99,101,108,101,100],[65]),
 ([115,105,103,110,97,108,45,114,101,99,101,105,118,101,100],[78,86]),
 ([99,97,110,99,101,108,45,114,101,113,117,101,115,116,101,100],[]),
 ([114,117,110,45,99,111,109,112,108,101,116,101,100],[86]),
 ([114,117,110,45,102,97,105,108,101,100],[78]),
 ([114,117,110,45,99,97,110,99,101,108,101,100],[]),
 ([114,117,110,45,116,101,114,109,105,110,97,116,101,100],[78]),
 ([114,117,110,45,116,105,109,101,100,45,111,117,116],[]),
 ([99,111,110,116,105,110,117,101,100,45,97,115,45,110,101,119],[66,86])]
def wl:List (List UInt8×List UInt8)->List UInt8
 |[]=>[]
 |(a,b)::r=>a++58::(b++32::wl r)
def restW (i:Nat):ByteArray:=⟨(wl (wds.drop i)).toArray⟩
def ynb (i:Nat):ByteArray:=⟨(match wds[i]? with|some (a,b)=>a++58::b|none=>[]).toArray⟩
def yjk (i:Nat):ByteArray:=⟨(wds[i]?.getD ([],[])).1.toArray⟩
def ycJ (i:Nat):ByteArray:=⟨(wds[i]?.getD ([],[])).2.toArray⟩
theorem ylL (i:Fin 21):Lib.cut (restW i).data.toList [32]=((ynb i).data.toList,(restW (i+1)).data.toList,true):=by revert i;decide+kernel
theorem yna (i:Fin 21):Lib.cut (ynb i).data.toList [58]=((yjk i).data.toList,(ycJ i).data.toList,true):=by revert i;decide+kernel
theorem ycZ (i:Fin 22):(restW i).size<=367/\(ynb i).size<=367/\((restW i).size=0↔i.val=21):=by revert i;decide+kernel
theorem ygj (i:Fin 21):(yjk i).size≠0/\(yjk i).size<=64/\(ycJ i).size<=8:=by revert i;decide+kernel
def hasF (s:ByteArray)(c:UInt8):Bool:=decide (0<=Lib.indexByte s.data.toList c)
def evN (k:Int):ByteArray:=if 1<=k/\k<=21 then yjk (k.toNat - 1)else⟨#[]⟩
def evF (k:Int):ByteArray:=if 1<=k/\k<=21 then ycJ (k.toNat - 1)else⟨#[]⟩
theorem yny (i:Fin 21):ygA ((i.val:Int)+1)=some (hasF (ycJ i) 65,hasF (ycJ i) 66,hasF (ycJ i) 78,hasF (ycJ i) 84,hasF (ycJ i) 86):=by revert i;decide+kernel
theorem yfg {k:Int}(h:1<=k/\k<=21):ygA k=some (hasF (evF k) 65,hasF (evF k) 66,hasF (evF k) 78,hasF (evF k) 84,hasF (evF k) 86)/\(evN k).size≠0/\(evF k).size<=8:=by
 obtain⟨i,rfl⟩:∃i:Nat,k=(i:Int)+1:=⟨k.toNat - 1,by omega⟩;have A:i<21:=by omega
 have e:(((i:Int)+1).toNat - 1)=i:=by omega
 unfold evF evN;rw[if_pos h,if_pos h,e];exact⟨yny ⟨i,A⟩,(ygj ⟨i,A⟩).1,(ygj ⟨i,A⟩).2.2⟩
theorem ydk {k:Int}(h:¬(1<=k/\k<=21)):ygA k=none/\evN k=⟨#[]⟩/\evF k=⟨#[]⟩:=by
 refine⟨?_,if_neg h,if_neg h⟩;unfold ygA
 repeat' (rw[if_neg (by omega)])
end Go.Va
namespace Go.Proofs.YtpagmlndgblhhaaGreatDoor
open Go.RowKit Go.Own Go.Own.MapTy Go.Va Go.Sort
open Go.Own.Cells (sz enc)
theorem yiD {N:Nat}(s sep a r:ByteArray)(W:World)(G:Gl Tryz.prog N W)(hs:s.size<=400)(h:Lib.cut s.data.toList sep.data.toList=(a.data.toList,r.data.toList,true)):
  Calls Tryz.prog 90 #[s,sep] W (fun e w'=>e= .returned (.tuple #[a,r,.bool true])/\Below W W w'):=by
 obtain⟨m,hm⟩:=G.m;exact(Any.strings_Cut Tryz.lays145 s sep m W (by omega) hm).mono fun e w' ⟨j1,n,j2⟩=>⟨by rw[j1,h],by rw[j2];exact⟨rfl,rfl,rfl,znc _,fun _ _=>rfl⟩⟩
def yjE (k:Int)(j:Nat):ByteArray:=if(j:Int)=k then evN k else⟨#[]⟩
def yjG (k:Int)(j:Nat):ByteArray:=if(j:Int)=k then evF k else⟨#[]⟩
theorem yko (k:Int):yjE k 0=⟨#[]⟩/\yjG k 0=⟨#[]⟩:=by
 unfold yjE yjG evN evF;constructor
 .split
  .rw[if_neg (by omega)]
  .rfl
 .split
  .rw[if_neg (by omega)]
  .rfl
def yqg (w:World)(k:Int)(gk:Nat)(v2 v3 v4 v5:Value)(wr:World):Prop:=
 ∃j:Nat,v2= .string (yjE k j)/\v3= .string (yjG k j)/\v4= .string (restW j)/\v5= .int .i64 ((j:Int)+1)/\j<=21/\(j=0\/(j:Int)<=k)/\gk=21 - j/\Below w w wr
theorem ykQ {N:Nat}(k:Int)(w:World)(G:Gl Tryz.prog N w):Calls Tryz.prog 53 #[k] w (fun e w'=>e= .returned (.tuple #[.string (evN k),.string (evF k)])/\Below w w w'):=by
 have b:=zhd (fun(i:Nat) (hi:i<21) W (B:Below w w W)=>yiD (restW i) ⟨#[32]⟩ (ynb i) (restW (i+1)) W (G.below B) (by have h:(restW i).size<=367:=(ycZ ⟨i,by omega⟩).1;omega) (ylL ⟨i,hi⟩));have a:=zhd (fun(i:Nat) (hi:i<21) W (B:Below w w W)=>yiD (ynb i) ⟨#[58]⟩ (yjk i) (ycJ i) W (G.below B) (by have h:(ynb i).size<=367:=(ycZ ⟨i,by omega⟩).2.1;omega) (yna ⟨i,hi⟩));have n:=zhd G;clear G;go_in;go_wp2_with fail;go_loopg [2,3,4,5] 21 (fun gk v2 v3 v4 v5 wr=>yqg w k gk v2 v3 v4 v5 wr)
 case atStart=>exact⟨0,by rw[(yko k).1],by rw[(yko k).2],congrArg Value.string (by kernel_rfl),rfl,znq _,.inl rfl,rfl,znv _ _⟩
 case round=>
  obtain⟨j,rfl,rfl,rfl,rfl,g,M,D,J⟩:=hrel;by_cases h1:(j:Int)+1<=k
  .by_cases h2:j<21
   .have H:(restW j).size≠0:=fun e=>by have:=(ycZ ⟨j,by omega⟩).2.2.1 e;simp at this;omega
    obtain⟨r,K⟩:∃r,restW j=r:=⟨_,rfl⟩;obtain⟨d,F⟩:∃r,restW (j+1)=r:=⟨_,rfl⟩;obtain⟨o,T⟩:∃o,ynb j=o:=⟨_,rfl⟩;have R:=b.o j h2;rw[K,F,T]at R;have R:=zhd R;have l:r.toList.isEmpty=false:=by
     rw[List.isEmpty_eq_false_iff,zml];intro e;rw[K]at H;exact H (by have:=congrArg List.length e;simpa using this)
    have m:=zhd (show wrap64 ((j:Int)+1+1)=(j:Int)+1+1 from by unfold wrap64;omega);have E:=zh5 D J K F T;rw[K];have X:=zhd (show 21 - (j+1)<gk from by omega);clear H K F T D J;by_cases h3:(j:Int)+1=k
    .have S:=a.o j h2
     rw[E.o.2.2.2.2]at S;have S:=zhd S;have U:((j:Int)+1==k)=true:=by rw[beq_iff_eq];exact h3
     have L:yjk j=yjE k (j+1)/\ycJ j=yjG k (j+1):=by
      unfold yjE yjG evN evF;rw[if_pos (by omega),if_pos (by omega),if_pos (by omega),if_pos (by omega)];have:k.toNat - 1=j:=by omega
      rw[this];exact⟨rfl,rfl⟩
     have C:=zhd L;clear L;go_wp2_with fail;refine(R.o _ E.o.2.1).mono ?_;rintro e Y ⟨rfl,A⟩;have Q:=zhd (E.o.2.1.trans (A.mono E.o.2.1.size));clear A;go_wp2_with fail;refine(S.o _ Q.o).mono ?_;rintro e c ⟨rfl,P⟩;have Z:=zhd (Q.o.trans (P.mono Q.o.size));clear P;go_wp2_with fail;go_roundg (21 - (j+1))
     case measure=>exact X.o
     case rel=>exact⟨j+1,by rw[C.o.1],by rw[C.o.2],by rw[E.o.2.2.2.1],congrArg (Value.int .i64) (by omega),by omega,.inr (by omega),rfl,Z.o⟩
    .have U:((j:Int)+1==k)=false:=by rw[zna];exact h3
     have L:yjE k j=yjE k (j+1)/\yjG k j=yjG k (j+1):=by
      unfold yjE yjG;rw[if_neg (by omega),if_neg (by omega),if_neg (by omega),if_neg (by omega)];exact⟨rfl,rfl⟩
     have C:=zhd L;clear L;go_wp2_with fail;refine(R.o _ E.o.2.1).mono ?_;rintro e Y ⟨rfl,A⟩;have Q:=zhd (E.o.2.1.trans (A.mono E.o.2.1.size));clear A;go_wp2_with fail;go_roundg (21 - (j+1))
     case measure=>exact X.o
     case rel=>exact⟨j+1,by rw[C.o.1],by rw[C.o.2],by rw[E.o.2.2.2.1],congrArg (Value.int .i64) (by omega),by omega,.inr (by omega),rfl,Q.o⟩
   .have O:j=21:=by omega
    have f:(restW j).toList.isEmpty=true:=by
     have:(restW j).size=0:=by rw[O];exact(ycZ ⟨21,by omega⟩).2.2.2 rfl
     rw[List.isEmpty_iff,zml];exact List.length_eq_zero_iff.1 (by simpa using this)
    have I:yjE k j=evN k/\yjG k j=evF k:=by
     unfold yjE yjG evN evF;rw[if_neg (by omega),if_neg (by omega),if_neg (by omega),if_neg (by omega)];exact⟨rfl,rfl⟩
    rw[I.1,I.2];have V:=zhd J;generalize restW j=r at*;clear I J D M O;go_wp2
    go_ret2
    exact⟨rfl,V.o⟩
  .have I:yjE k j=evN k/\yjG k j=evF k:=by
    unfold yjE yjG;by_cases e:(j:Int)=k
    .rw[if_pos e,if_pos e];exact⟨rfl,rfl⟩
    .rw[if_neg e,if_neg e]
     unfold evN evF;rw[if_neg (by omega),if_neg (by omega)];exact⟨rfl,rfl⟩
   rw[I.1,I.2];have V:=zhd J;clear I J D M;go_wp2
   go_ret2
   exact⟨rfl,V.o⟩
theorem yei (s:ByteArray)(c:UInt8)(w:World)(b:Bool)(hb:hasF s c=b):Calls Tryz.prog 54 #[s,.int .u8 (c.toNat:Int)] w (fun e w'=>e= .returned (.bool b)/\w=w'):=by
 have A:=Any.strings_IndexByte Tryz.lays137 s (c.toNat:Int) w;have C:(c.toNat:Int).toNat.toUInt8=c:=by simp
 rw[C]at A;have E:=zhd (show Calls Tryz.prog 98 #[s,.int .u8 (c.toNat:Int)] w (fun e w'=>e= .returned (.int .i64 (Lib.indexByte s.data.toList c))/\w'=w)from A);clear A;unfold hasF at hb;generalize Lib.indexByte s.data.toList c=z at*;have F:=zhd hb;clear hb C;go_in;go_wp2_with fail;refine E.o.mono ?_;rintro e D ⟨rfl,B⟩;rw[B];clear B D;go_wp2;go_ret;exact⟨by rw[<-F.o];rfl,rfl⟩
theorem yfj (id t k a b:Int)(nm tx:ByteArray)(vk vn:Int)(vs:ByteArray)(la:Option Addr)(ln lc:Nat)(w:World)(r:Bool)(hr:decide (16<=k/\k<=21)=r):
  Calls Tryz.prog 35 #[.agg #[id,t,k,a,b,nm,tx,vk,vn,vs,.slice la ln lc]] w (fun e w'=>e= .returned (.bool r)/\Below w w w'):=by
 by_cases h1:16<=k
 .by_cases h2:k<=21
  .have hr:r=true:=by rw[<-hr];exact zno ⟨h1,h2⟩
   subst hr;go_in;go_wp2;go_ret;exact⟨rfl,zal⟩
  .have hr:r=false:=by rw[<-hr];exact znd (fun h=>h2 h.2)
   subst hr;go_in;go_wp2;go_ret;exact⟨rfl,zal⟩
 .have hr:r=false:=by rw[<-hr];exact znd (fun h=>h1 h.1)
  subst hr;go_in;go_wp2;go_ret;exact⟨rfl,zal⟩
theorem ybS (s:ByteArray):s.toList.isEmpty=decide (s.size=0):=by
 rw[zml];by_cases h:s.size=0
 .rw[zno h,List.isEmpty_iff]
  exact List.length_eq_zero_iff.1 (by simpa using h)
 .rw[znd h,List.isEmpty_eq_false_iff]
  intro e;exact h (by have:=congrArg List.length e;simpa using this)
theorem ybb (id t k a b:Int)(nm tx:ByteArray)(vk vn:Int)(vs:ByteArray)(la:Option Addr)(ln lc:Nat)(w:World)(r:Bool)(hr:yaH k=r):
  Calls Tryz.prog 15 #[.agg #[id,t,k,a,b,nm,tx,vk,vn,vs,.slice la ln lc]] w (fun e w'=>e= .returned (.bool r)/\Below w w w'):=by
 subst hr;by_cases h8:k=8
 .subst h8
  go_in;go_wp2;go_ret;exact⟨rfl,zal⟩
 .have J:(k==8)=false:=by rw[zna];exact h8
  by_cases h9:k=9
  .subst h9
   go_in;go_wp2;go_ret;exact⟨rfl,zal⟩
  .have I:(k==9)=false:=by rw[zna];exact h9
   by_cases h10:k=10
   .subst h10
    go_in;go_wp2;go_ret;exact⟨rfl,zal⟩
   .have G:(k==10)=false:=by rw[zna];exact h10
    by_cases h12:k=12
    .subst h12
     go_in;go_wp2;go_ret;exact⟨rfl,zal⟩
    .have F:(k==12)=false:=by rw[zna];exact h12
     by_cases h14:k=14
     .subst h14
      go_in;go_wp2;go_ret;exact⟨rfl,zal⟩
     .have E:(k==14)=false:=by rw[zna];exact h14
      by_cases h15:k=15
      .subst h15
       go_in;go_wp2;go_ret;exact⟨rfl,zal⟩
      .have D:(k==15)=false:=by rw[zna];exact h15
       by_cases h19:k=19
       .subst h19
        go_in;go_wp2;go_ret;exact⟨rfl,zal⟩
       .have C:(k==19)=false:=by rw[zna];exact h19
        by_cases h20:k=20
        .subst h20
         go_in;go_wp2;go_ret;exact⟨rfl,zal⟩
        .have B:(k==20)=false:=by rw[zna];exact h20
         have A:(k==1)=yaH k:=by
          unfold yaH;by_cases h1:k=1
          .rw[h1];decide
          .rw[znd (by omega),zna];exact h1
         have H:=zhd A;clear h8 h9 h10 h12 h14 h15 h19 h20 A;go_in;go_wp2;go_ret;exact⟨by rw[<-H.o];rfl,zal⟩
theorem ybp {N:Nat}(id t k a b:Int)(nm tx:ByteArray)(vk vn:Int)(vs:ByteArray)(la:Option Addr)(ln lc:Nat)(w:World)(G:Gl Tryz.prog N w)(cl:Int)(CH:∀W,Below w w W->Calls Tryz.prog 55 #[.agg #[vk,vn,vs,.slice la ln lc]] W (fun e w'=>e= .returned (.int .i64 cl)/\Below W W w'))(r:Int)(hr:yn3 k id t a b nm.size tx.size vk cl=r):
  Calls Tryz.prog 16 #[.agg #[id,t,k,a,b,nm,tx,vk,vn,vs,.slice la ln lc]] w (fun e w'=>e= .returned (.int .i64 r)/\Below w w w'):=by
 obtain⟨M,F⟩:∃M,M=w.alloc (.cells #[id,t,k,a,b,nm,tx,vk,vn,vs,.slice la ln lc] 40):=⟨_,rfl⟩;have g:=zba F;have Q:=zha F;have u:=zca Q 2 rfl;have EN:=zhd (ykQ k M (G.below g));have j:w<M.heap.size:=zlt Q;have f:=zh2 g Q;have Z:=zhd CH;clear g Q CH G;unfold yn3 at hr;go_in;go_wp2_with fail;rw[<-F];clear F;refine EN.o.mono ?_;rintro e i ⟨rfl,K⟩;have B:=(K.block w j).trans f.o.2;have C:=zhd (f.o.1.trans (K.mono f.o.1.size));have q0:=zca B 0 rfl;have q1:=zca B 1 rfl;have q3:=zca B 3 rfl;have q4:=zca B 4 rfl;have q5:=zca B 5 rfl;have q6:=zca B 6 rfl;have q7:=zca B 7 rfl;have q8:=zca B 8 rfl;have q9:=zca B 9 rfl;have v:=zca B 10 rfl;have l5:w<i.heap.size:=zlt B;clear B K u j;by_cases hk:1<=k/\k<=21
 .obtain⟨m,l,e3⟩:=yfg hk
  rw[m]at hr;dsimp only at hr;have y:(evN k).toList.isEmpty=false:=by rw[ybS];exact znd l
  have HA:=zhd (fun W=>yei (evF k) 65 W _ rfl);have c:=zhd (fun W=>yei (evF k) 66 W _ rfl);have HN:=zhd (fun W=>yei (evF k) 78 W _ rfl);have HT:=zhd (fun W=>yei (evF k) 84 W _ rfl);have V:=zhd (fun W=>yei (evF k) 86 W _ rfl);generalize hasF (evF k) 65=hA at*;generalize hasF (evF k) 66=hBb at*;generalize hasF (evF k) 78=hN at*;generalize hasF (evF k) 84=hT at*;generalize hasF (evF k) 86=hV at*;generalize evF k=fd at*;generalize evN k=nk at*;clear m l e3 hk;by_cases h1:id<1
  .rw[if_pos (.inl h1)]at hr
   have A:=zhd hr;have L:decide (id<1)=true:=zno h1;clear hr;go_wp2_with fail
   all_goals
    go_ret;exact⟨by rw[<-A.o];rfl,C.o⟩
  .by_cases h2:1048576<id
   .rw[if_pos (.inr (.inl h2))]at hr
    have A:=zhd hr;have L:decide (id<1)=false:=znd h1;have R:decide (1048576<id)=true:=zno h2;clear hr;go_wp2_with fail
    all_goals
     go_ret;exact⟨by rw[<-A.o];rfl,C.o⟩
   .by_cases h3:t<0
    .rw[if_pos (.inr (.inr (.inl h3)))]at hr
     have A:=zhd hr;have L:decide (id<1)=false:=znd h1;have R:decide (1048576<id)=false:=znd h2;have U:decide (t<0)=true:=zno h3;clear hr;go_wp2_with fail
     all_goals
      go_ret;exact⟨by rw[<-A.o];rfl,C.o⟩
    .by_cases h4:4611686018427387903<t
     .rw[if_pos (.inr (.inr (.inr h4)))]at hr
      have A:=zhd hr;have L:decide (id<1)=false:=znd h1;have R:decide (1048576<id)=false:=znd h2;have U:decide (t<0)=false:=znd h3;have s:decide (4611686018427387903<t)=true:=zno h4;clear hr;go_wp2_with fail
      all_goals
       go_ret;exact⟨by rw[<-A.o];rfl,C.o⟩
     .rw[if_neg (fun h=>h.elim h1 (fun h=>h.elim h2 (fun h=>h.elim h3 h4)))]at hr
      have A:=zhd hr;have L:decide (id<1)=false:=znd h1;have R:decide (1048576<id)=false:=znd h2;have U:decide (t<0)=false:=znd h3;have s:decide (4611686018427387903<t)=false:=znd h4;clear hr;go_upto_region 6 with(fail);clear h1 h2 h3 h4 L R U s;go_cut [33] (fun v33 wx=>v33= .bool (decide (a<0\/b<0\/(hA=false/\a≠0)\/(hBb=false/\b≠0)))/\wx=i)
      case first=>
       by_cases h1:a<0
       .have d:=zhd (zno (p:=a<0\/b<0\/(hA=false/\a≠0)\/(hBb=false/\b≠0)) (.inl h1))
        go_wp2_with fail;go_meet
        case rel=>exact⟨by rw[d.o],rfl⟩
       .by_cases h2:b<0
        .have d:=zhd (zno (p:=a<0\/b<0\/(hA=false/\a≠0)\/(hBb=false/\b≠0)) (.inr (.inl h2)))
         go_wp2_with fail;go_meet
         case rel=>exact⟨by rw[d.o],rfl⟩
        .have P:(a !=0)=decide (a≠0):=by by_cases h:a=0<;>simp[h]
         have O:(b !=0)=decide (b≠0):=by by_cases h:b=0<;>simp[h]
         have d:decide (a<0\/b<0\/(hA=false/\a≠0)\/(hBb=false/\b≠0))=((!hA&&(a !=0))||(!hBb&&(b !=0))):=by
          rw[P,O];cases hA<;>cases hBb<;>simp[h1,h2]
         obtain⟨T,J⟩:∃z,(a !=0)=z:=⟨_,rfl⟩;obtain⟨S,I⟩:∃z,(b !=0)=z:=⟨_,rfl⟩;rw[J,I]at d;have Y:=zhd d;have n1:decide (a<0)=false:=znd h1;have n2:decide (b<0)=false:=znd h2;clear d P O h1 h2;cases hA<;>cases hBb<;>cases T<;>cases S
         all_goals
          go_wp2_with fail;refine(HA.o _).mono ?_;rintro e H ⟨rfl,D⟩;subst D;go_wp2_with fail
          try(refine(c.o _).mono ?_;rintro e H ⟨rfl,D⟩;subst D;go_wp2_with fail)
          go_meet
          case rel=>exact⟨by rw[Y.o];rfl,rfl⟩
      case rest=>
       obtain⟨rfl,rfl⟩:=hcut;cases hd:decide (a<0\/b<0\/(hA=false/\a≠0)\/(hBb=false/\b≠0))with
       |true=>
        have A:=zhd (show(1:Int)=r from by
         have h:=A.o;rw[if_pos (znx hd)]at h;exact h)
        go_wp2_with fail
        all_goals
         go_ret;exact⟨by rw[<-A.o];rfl,C.o⟩
       |false=>
        have A:=zhd (show(if 64<nm.size\/128<tx.size then 2 else if(hN=false/\nm.size≠0)\/(hT=false/\tx.size≠0)then 8 else if hV=false/\vk≠0 then 8 else cl)=r from by
         have h:=A.o;rw[if_neg (zny hd)]at h;exact h)
        by_cases h5:64<nm.size
        .have A:=zhd (show(2:Int)=r from by have h:=A.o;rw[if_pos (.inl h5)]at h;exact h)
         have q:decide ((64:Int)<(nm.size:Int))=true:=zno (by omega);go_wp2_with fail
         all_goals
          go_ret;exact⟨by rw[<-A.o];rfl,C.o⟩
        .have q:decide ((64:Int)<(nm.size:Int))=false:=znd (by omega)
         by_cases h6:128<tx.size
         .have A:=zhd (show(2:Int)=r from by have h:=A.o;rw[if_pos (.inr h6)]at h;exact h)
          have n:decide ((128:Int)<(tx.size:Int))=true:=zno (by omega);go_wp2_with fail
          all_goals
           go_ret;exact⟨by rw[<-A.o];rfl,C.o⟩
         .have n:decide ((128:Int)<(tx.size:Int))=false:=znd (by omega)
          have A:=zhd (show(if(hN=false/\nm.size≠0)\/(hT=false/\tx.size≠0)then 8 else if hV=false/\vk≠0 then 8 else cl)=r from by
           have h:=A.o;rw[if_neg (fun h=>h.elim h5 h6)]at h;exact h)
          go_upto_region 10 with(fail);clear q n h5 h6 hd;go_cut [73] (fun v73 wx=>v73= .bool (decide ((hN=false/\nm.size≠0)\/(hT=false/\tx.size≠0)))/\wx=wc)
          case first=>
           have d:decide ((hN=false/\nm.size≠0)\/(hT=false/\tx.size≠0))=((!hN&& !nm.toList.isEmpty)||(!hT&& !tx.toList.isEmpty)):=by
            rw[ybS,ybS];by_cases P:nm.size=0<;>by_cases O:tx.size=0<;>cases hN<;>cases hT<;>simp[P,O]
           obtain⟨T,J⟩:∃z,nm.toList.isEmpty=z:=⟨_,rfl⟩;obtain⟨S,I⟩:∃z,tx.toList.isEmpty=z:=⟨_,rfl⟩;rw[J,I]at d;have Y:=zhd d;clear d;cases hN<;>cases hT<;>cases T<;>cases S
           all_goals
            go_wp2_with fail;refine(HN.o _).mono ?_;rintro e H ⟨rfl,D⟩;subst D;go_wp2_with fail
            try(refine(HT.o _).mono ?_;rintro e H ⟨rfl,D⟩;subst D;go_wp2_with fail)
            go_meet
            case rel=>exact⟨by rw[Y.o];rfl,rfl⟩
          case rest=>
           obtain⟨rfl,rfl⟩:=hcut;cases hd2:decide ((hN=false/\nm.size≠0)\/(hT=false/\tx.size≠0))with
           |true=>
            have A:=zhd (show(8:Int)=r from by
             have h:=A.o;rw[if_pos (znx hd2)]at h;exact h)
            go_wp2_with fail
            all_goals
             go_ret;exact⟨by rw[<-A.o];rfl,C.o⟩
           |false=>
            have A:=zhd (show(if hV=false/\vk≠0 then 8 else cl)=r from by
             have h:=A.o;rw[if_neg (zny hd2)]at h;exact h)
            have CH:=zhd (Z.o _ C.o);cases hV with
            |true=>
             have A:=zhd (show cl=r from by have h:=A.o;rw[if_neg (fun h=>by cases h.1)]at h;exact h);go_wp2_with fail;refine(V.o _).mono ?_;rintro e H ⟨rfl,D⟩;subst D;go_wp2_with fail;refine CH.o.mono ?_;rintro e H ⟨rfl,E⟩;have C:=zhd (C.o.trans (E.mono C.o.size));clear E;go_wp2_with fail
             all_goals
              go_ret;exact⟨by rw[<-A.o];rfl,C.o⟩
            |false=>
             by_cases hv:vk=0
             .subst hv
              have A:=zhd (show cl=r from by have h:=A.o;rw[if_neg (fun h=>h.2 rfl)]at h;exact h);go_wp2_with fail;refine(V.o _).mono ?_;rintro e H ⟨rfl,D⟩;subst D;go_wp2_with fail;refine CH.o.mono ?_;rintro e H ⟨rfl,E⟩;have C:=zhd (C.o.trans (E.mono C.o.size));clear E;go_wp2_with fail
              all_goals
               go_ret;exact⟨by rw[<-A.o];rfl,C.o⟩
             .have x:(vk !=0)=true:=by simpa using hv
              have X:=zhd (show(8:Int)=r from by have h:=A.o;rw[if_pos ⟨rfl,hv⟩]at h;exact h);go_wp2_with fail;refine(V.o _).mono ?_;rintro e H ⟨rfl,D⟩;subst D;go_wp2_with fail
              all_goals
               go_ret;exact⟨by rw[<-X.o];rfl,C.o⟩
 .have A:=zhd (show(9:Int)=r by rw[(ydk hk).1]at hr;exact hr)
  have he:(evN k).toList.isEmpty=true:=by rw[(ydk hk).2.1,ybS];rfl
  clear hr hk;generalize evN k=nk at*;go_wp2_with fail
  all_goals
   go_ret;exact⟨by rw[<-A.o];rfl,C.o⟩
theorem ybq (e:Ev):yaf e=yn3 e.kind e.id e.time e.a e.b e.name.size e.text.size e.v.kind (checkL e.v):=by
 unfold yaf yn3;cases ygA e.kind<;>rfl
theorem MX.setInput {T:MT}{Z:Nat->Prop}{W:World}{b:Nat}{v:MV}{p:Img}{s:MS}(M:MX T Z W b v p s)(c:VC)(x:Val)(C:CF (MZ Z v b) W c x):
  MX T Z ((((W.setCell ⟨b,7,none⟩ (.int .i64 c.kind)).setCell ⟨b,8,none⟩ (.int .i64 c.n)).setCell ⟨b,9,none⟩ (.string c.s)).setCell ⟨b,10,none⟩ (.slice c.la c.ln c.lc)) b {v with inp:=c} p {s with input:=x}/\
  MK b v W {v with inp:=c} ((((W.setCell ⟨b,7,none⟩ (.int .i64 c.kind)).setCell ⟨b,8,none⟩ (.int .i64 c.n)).setCell ⟨b,9,none⟩ (.string c.s)).setCell ⟨b,10,none⟩ (.slice c.la c.ln c.lc)):=by
 obtain⟨w',D⟩:∃w',w'=((((W.setCell ⟨b,7,none⟩ (.int .i64 c.kind)).setCell ⟨b,8,none⟩ (.int .i64 c.n)).setCell ⟨b,9,none⟩ (.string c.s)).setCell ⟨b,10,none⟩ (.slice c.la c.ln c.lc)):=⟨_,rfl⟩;rw[<-D];have K:Keeps (fun j=>j=b) W w':=by rw[D];exact ycu W b 7 8 9 10 _ _ _ _
 have A:∀i,own {v with inp:=c} b i=own v b i:=fun i=>by
  match i with
  |0=>rfl
  |1=>rfl
  |2=>rfl
  |3=>rfl
  |4=>rfl
  |5=>rfl
  |6=>rfl
  |_+7=>rfl
 have F:∀j,MO {v with inp:=c} b j->MO v b j:=fun j ⟨i,h⟩=>⟨i,by rw[<-A i];exact h⟩;have B:∀g,MZ Z v b g->¬g=b:=fun g h e=>h.1 ⟨0,by rw[e];rfl⟩;have E:∀i g,own v b (i+1)=some g->¬g=b:=fun i g h e=>by
  have:=M.sep (i+1) 0 g h (by rw[e];rfl);omega
 have hm:∀g,MZ Z v b g->g<w'.heap.size->MZ Z {v with inp:=c} b g:=fun g h _=>⟨fun e=>h.1 (F g e),h.2⟩;refine⟨⟨?_,(M.stk.keep K B (fun g hg=>E 0 g hg)).mono hm,(M.pls.keep K B (fun g hg=>E 1 g hg)).mono hm,(M.tms.keep K B (fun g hg=>E 2 g hg)).mono hm,(M.acs.keep K B (fun g hg=>E 3 g hg)).mono hm,(M.lts.keep K B (fun g hg=>E 4 g hg)).mono hm,(M.mds.keep K B (fun g hg=>E 5 g hg)).mono hm,(M.img.keep K B).mono hm,(C.keep K B).mono hm,fun i j g hi hj=>M.sep i j g (by rw[<-A i];exact hi) (by rw[<-A j];exact hj)⟩,⟨K.mono (fun j _ e=>⟨0,by rw[e];rfl⟩),fun j h=>.inl (F j h)⟩⟩;rw[D];have:=M.h;simp[World.setCell,zni,this,ybW]
theorem ylc
  {Z:Nat->Prop}(b:Nat)(v:MV)(p:Img)(s:MS)(W:World)(M:MX TT Z W b v p s)
  {N:Nat}(G:Gl Tryz.prog N W)(id t k a bb:Int)(nm tx:ByteArray)(x:Val)(vk vn:Int)(vs:ByteArray)(la:Option Addr)(ln lc:Nat)(F:Nat->Prop)(C:CF F W ⟨vk,vn,vs,la,ln,lc⟩ x)(hw:x.wf)
  (ck:Int)(hck:yaf ⟨id,t,k,a,bb,nm,tx,x⟩=ck)(hne:(ck !=0)=true):
  Calls Tryz.prog 70 #[.pointer (some ⟨b,0,none⟩),.agg #[id,t,k,a,bb,nm,tx,vk,vn,vs,.slice la ln lc]] W
   (MP Z W b v p (.int .i64 9) s):=by
 obtain⟨J,A⟩:∃J,J=W.alloc (.cells #[id,t,k,a,bb,nm,tx,vk,vn,vs,.slice la ln lc] 40):=⟨_,rfl⟩;have I:=zba A;have L:=zha A;have R:=C.keep (S:=fun _=>False) (zkb I) (fun _ _ f=>f);have D:vk=x.kind:=C.kind;rw[ybq]at hck;dsimp only at hck;rw[<-D]at hck;have Q:=zhd (ybp id t k a bb nm tx vk vn vs la ln lc J (G.below I) (checkL x) (fun W' BW=>ybi x vk vn vs la ln lc F W' (R.keep (S:=fun _=>False) (zkb BW) (fun _ _ f=>f)) hw _ rfl) _ hck);obtain⟨j,i,h,g,d,c,Y,X,V,U,K,O⟩:=zq11 L;have H:=zh4 M I L C;clear D hck R I L C M;go_in;go_wp2_with fail;rw[<-A];clear A;refine Q.o.mono ?_;rintro e w1 ⟨rfl,B⟩;have T:Below W W w1:=H.o.2.1.trans (B.mono H.o.2.1.size);have E:=(B.block W O).trans H.o.2.2.1;have P:=zh2 T E;clear B Q j i h g d c Y X V U K O;clear T E
 go_wp2;go_ret;exact⟨v,rfl,zhd ⟨H.o.1.ext P.o.1,MK.ext P.o.1⟩⟩
theorem yhS
  {Z:Nat->Prop}(b:Nat)(v:MV)(p:Img)(s:MS)(W:World)(M:MX TT Z W b v p s)
  {N:Nat}(G:Gl Tryz.prog N W)(id t k a bb:Int)(nm tx:ByteArray)(x:Val)(vk vn:Int)(vs:ByteArray)(la:Option Addr)(ln lc:Nat)(F:Nat->Prop)(C:CF F W ⟨vk,vn,vs,la,ln,lc⟩ x)(hw:x.wf)
  (hck:yaf ⟨id,t,k,a,bb,nm,tx,x⟩=0)(ho:yaH k=false):
  Calls Tryz.prog 70 #[.pointer (some ⟨b,0,none⟩),.agg #[id,t,k,a,bb,nm,tx,vk,vn,vs,.slice la ln lc]] W
   (MP Z W b v p (.int .i64 9) s):=by
 obtain⟨P,A⟩:∃P,P=W.alloc (.cells #[id,t,k,a,bb,nm,tx,vk,vn,vs,.slice la ln lc] 40):=⟨_,rfl⟩;have O:=zba A;have j:=zha A;have u:=C.keep (S:=fun _=>False) (zkb O) (fun _ _ f=>f);have J:vk=x.kind:=C.kind;rw[ybq]at hck;dsimp only at hck;rw[<-J]at hck;have r:=zhd (ybp id t k a bb nm tx vk vn vs la ln lc P (G.below O) (checkL x) (fun W' BW=>ybi x vk vn vs la ln lc F W' (u.keep (S:=fun _=>False) (zkb BW) (fun _ _ f=>f)) hw _ rfl) _ hck);obtain⟨g,d,c,Y,X,V,U,T,R,Q,B,I⟩:=zq11 j;have L:=zh4 M O j C;clear J hck u O j C M;go_in;go_wp2_with fail;rw[<-A];clear A;refine r.o.mono ?_;rintro e w1 ⟨rfl,H⟩;have y:Below W W w1:=L.o.2.1.trans (H.mono L.o.2.1.size);have D:=(H.block W I).trans L.o.2.2.1;have l:=zh2 y D;clear H r g d c Y X V U T R Q B I;obtain⟨g,d,c,Y,X,V,U,T,R,Q,B,I⟩:=zq11 D;have n:=zhd (ybb id t k a bb nm tx vk vn vs la ln lc w1 _ ho);clear y D;go_wp2_with fail;refine n.o.mono ?_;rintro e w2 ⟨rfl,E⟩;have m:Below W W w2:=l.o.1.trans (E.mono l.o.1.size);have i:=(E.block W I).trans l.o.2;have K:=L.o.1.ext m;have q:=zh3 m i K;have z:w2.cell? ⟨b,19,none⟩=some (.bool s.over):=K.cell (k:=19) rfl;have Aa:w2.cell? ⟨b,18,none⟩=some (.bool s.begun):=K.cell (k:=18) rfl;have b2:=zlt K.h;clear E n g d c Y X V U T R Q B I m K;go_wp2;go_ret;exact⟨v,rfl,zhd ⟨q.o.2.2,MK.ext q.o.1⟩⟩
theorem yjB
  {Z:Nat->Prop}(b:Nat)(v:MV)(p:Img)(s:MS)(W:World)(M:MX TT Z W b v p s)
  {N:Nat}(G:Gl Tryz.prog N W)(id t k a bb:Int)(nm tx:ByteArray)(x:Val)(vk vn:Int)(vs:ByteArray)(la:Option Addr)(ln lc:Nat)(F:Nat->Prop)(C:CF F W ⟨vk,vn,vs,la,ln,lc⟩ x)(hw:x.wf)
  (hck:yaf ⟨id,t,k,a,bb,nm,tx,x⟩=0)(ho:yaH k=true)(hov:s.over=true):
  Calls Tryz.prog 70 #[.pointer (some ⟨b,0,none⟩),.agg #[id,t,k,a,bb,nm,tx,vk,vn,vs,.slice la ln lc]] W
   (MP Z W b v p (.int .i64 181) s):=by
 obtain⟨P,A⟩:∃P,P=W.alloc (.cells #[id,t,k,a,bb,nm,tx,vk,vn,vs,.slice la ln lc] 40):=⟨_,rfl⟩;have O:=zba A;have j:=zha A;have y:=C.keep (S:=fun _=>False) (zkb O) (fun _ _ f=>f);have J:vk=x.kind:=C.kind;rw[ybq]at hck;dsimp only at hck;rw[<-J]at hck;have u:=zhd (ybp id t k a bb nm tx vk vn vs la ln lc P (G.below O) (checkL x) (fun W' BW=>ybi x vk vn vs la ln lc F W' (y.keep (S:=fun _=>False) (zkb BW) (fun _ _ f=>f)) hw _ rfl) _ hck);obtain⟨g,d,c,Y,X,V,U,T,R,Q,B,I⟩:=zq11 j;have L:=zh4 M O j C;clear J hck y O j C M;go_in;go_wp2_with fail;rw[<-A];clear A;refine u.o.mono ?_;rintro e w1 ⟨rfl,H⟩;have z:Below W W w1:=L.o.2.1.trans (H.mono L.o.2.1.size);have D:=(H.block W I).trans L.o.2.2.1;have m:=zh2 z D;clear H u g d c Y X V U T R Q B I;obtain⟨g,d,c,Y,X,V,U,T,R,Q,B,I⟩:=zq11 D;have q:=zhd (ybb id t k a bb nm tx vk vn vs la ln lc w1 _ ho);clear z D;go_wp2_with fail;refine q.o.mono ?_;rintro e w2 ⟨rfl,E⟩;have n:Below W W w2:=m.o.1.trans (E.mono m.o.1.size);have i:=(E.block W I).trans m.o.2;have K:=L.o.1.ext n;have r:=zh3 n i K;have l:w2.cell? ⟨b,19,none⟩=some (.bool s.over):=K.cell (k:=19) rfl;have Aa:w2.cell? ⟨b,18,none⟩=some (.bool s.begun):=K.cell (k:=18) rfl;have b2:=zlt K.h;clear E q g d c Y X V U T R Q B I n K;rw[hov]at l;clear hov;go_wp2;go_ret;exact⟨v,rfl,zhd ⟨r.o.2.2,MK.ext r.o.1⟩⟩
theorem yhP
  {Z:Nat->Prop}(b:Nat)(v:MV)(p:Img)(s:MS)(W:World)(M:MX TT Z W b v p s)
  {N:Nat}(G:Gl Tryz.prog N W)(id t k a bb:Int)(nm tx:ByteArray)(x:Val)(vk vn:Int)(vs:ByteArray)(la:Option Addr)(ln lc:Nat)(F:Nat->Prop)(C:CF F W ⟨vk,vn,vs,la,ln,lc⟩ x)(hw:x.wf)
  (hck:yaf ⟨id,t,k,a,bb,nm,tx,x⟩=0)(ho:yaH k=true)(hov:s.over=false)(hbg:s.begun=(k==1)):
  Calls Tryz.prog 70 #[.pointer (some ⟨b,0,none⟩),.agg #[id,t,k,a,bb,nm,tx,vk,vn,vs,.slice la ln lc]] W
   (MP Z W b v p (.int .i64 7) s):=by
 obtain⟨j,B⟩:∃j,j=W.alloc (.cells #[id,t,k,a,bb,nm,tx,vk,vn,vs,.slice la ln lc] 40):=⟨_,rfl⟩;have i:=zba B;have m:=zha B;have C0:=C.keep (S:=fun _=>False) (zkb i) (fun _ _ f=>f);have K:vk=x.kind:=C.kind;rw[ybq]at hck;dsimp only at hck;rw[<-K]at hck;have z:=zhd (ybp id t k a bb nm tx vk vn vs la ln lc j (G.below i) (checkL x) (fun W' BW=>ybi x vk vn vs la ln lc F W' (C0.keep (S:=fun _=>False) (zkb BW) (fun _ _ f=>f)) hw _ rfl) _ hck);obtain⟨d,c,Y,X,V,U,T,R,Q,P,A,J⟩:=zq11 m;have g:=zh4 M i m C;clear K hck C0 i m C M;go_in;go_wp2_with fail;rw[<-B];clear B;refine z.o.mono ?_;rintro e w1 ⟨rfl,I⟩;have B1:Below W W w1:=g.o.2.1.trans (I.mono g.o.2.1.size);have E:=(I.block W J).trans g.o.2.2.1;have q:=zh2 B1 E;clear I z d c Y X V U T R Q P A J;obtain⟨d,c,Y,X,V,U,T,R,Q,P,A,J⟩:=zq11 E;have u:=zhd (ybb id t k a bb nm tx vk vn vs la ln lc w1 _ ho);clear B1 E;go_wp2_with fail;refine u.o.mono ?_;rintro e w2 ⟨rfl,H⟩;have r:Below W W w2:=q.o.1.trans (H.mono q.o.1.size);have D:=(H.block W J).trans q.o.2;have O:=g.o.1.ext r;have y:=zh3 r D O;have n:w2.cell? ⟨b,19,none⟩=some (.bool s.over):=O.cell (k:=19) rfl;have L:w2.cell? ⟨b,18,none⟩=some (.bool s.begun):=O.cell (k:=18) rfl;have b2:=zlt O.h;clear H u d c Y X V U T R Q P A J r O;rw[hov]at n;obtain⟨d,c,Y,X,V,U,T,R,Q,P,A,J⟩:=zq11 D;clear hov D;rw[hbg]at L;clear hbg;obtain⟨kb,l⟩:∃kb,(k==1)=kb:=⟨_,rfl⟩;rw[l]at L;go_upto_region 5 with(fail);go_region
 all_goals
  go_wp2;go_ret;exact⟨v,rfl,zhd ⟨y.o.2.2.ext (znv _ _).drew,MK.ext y.o.1.drew⟩⟩
theorem yhQ
  {Z:Nat->Prop}(b:Nat)(v:MV)(p:Img)(s:MS)(W:World)(M:MX TT Z W b v p s)
  {N:Nat}(G:Gl Tryz.prog N W)(id t a bb:Int)(nm tx:ByteArray)(x:Val)(vk vn:Int)(vs:ByteArray)(la:Option Addr)(ln lc:Nat)(F:Nat->Prop)(C:CF F W ⟨vk,vn,vs,la,ln,lc⟩ x)(hw:x.wf)
  (hck:yaf ⟨id,t,1,a,bb,nm,tx,x⟩=0)(hov:s.over=false)(hbg:s.begun=false)(hF:∀g,F g->¬MO v b g)(hev:s.events<=4294967296)(hZ:∀j,W.heap.size<=j->Z j)
  (hz:szV x<=1073741824)
  (s1 r:MS)(hs1:hear {s with now:=t,steps:=0,events:=s.events+1} ⟨id,t,1,a,bb,nm,tx,x⟩=s1)(RT:∀(W':World) (v':MV),MX TT Z W' b v' p s1->W<=W'.heap.size->Calls Tryz.prog 109 #[.pointer (some ⟨b,0,none⟩)] W' (MP Z W' b v' p (.tuple #[]) r))
  :
  Calls Tryz.prog 70 #[.pointer (some ⟨b,0,none⟩),.agg #[id,t,.int .i64 1,a,bb,nm,tx,vk,vn,vs,.slice la ln lc]] W
   (MP Z W b v p (.int .i64 0) r):=by
 have Am:=zhd RT;clear RT;obtain⟨w0,E⟩:∃w0,w0=W.alloc (.cells #[id,t,.int .i64 1,a,bb,nm,tx,vk,vn,vs,.slice la ln lc] 40):=⟨_,rfl⟩;have B0:=zba E;have hB:=zha E;have C0:=C.keep (S:=fun _=>False) (zkb B0) (fun _ _ f=>f);have Ab:vk=x.kind:=C.kind;rw[ybq]at hck;dsimp only at hck;rw[<-Ab]at hck;have EK:=zhd (ybp id t 1 a bb nm tx vk vn vs la ln lc w0 (G.below B0) (checkL x) (fun W' BW=>ybi x vk vn vs la ln lc F W' (C0.keep (S:=fun _=>False) (zkb BW) (fun _ _ f=>f)) hw _ rfl) _ hck);obtain⟨V,U,T,R,Q,P,O,L,K,J,A,D⟩:=zq11 hB;have HX:=zh4 M B0 hB C;clear Ab hck C0 B0 hB C M;go_in;go_wp2_with fail;rw[<-E];clear E;refine EK.o.mono ?_;rintro e w1 ⟨rfl,y⟩;have B1:Below W W w1:=HX.o.2.1.trans (y.mono HX.o.2.1.size);have q:=(y.block W D).trans HX.o.2.2.1;have H1:=zh2 B1 q;clear y EK V U T R Q P O L K J A D
 obtain⟨V,U,T,R,Q,P,O,L,K,J,A,D⟩:=zq11 q;have OU:=zhd (ybb id t 1 a bb nm tx vk vn vs la ln lc w1 true rfl);clear B1 q;go_wp2_with fail;refine OU.o.mono ?_;rintro e w2 ⟨rfl,u⟩;have B2:Below W W w2:=H1.o.1.trans (u.mono H1.o.1.size);have m:=(u.block W D).trans H1.o.2;have M2:=HX.o.1.ext B2;have z:=zh3 B2 m M2;have Ad:w2.cell? ⟨b,19,none⟩=some (.bool s.over):=M2.cell (k:=19) rfl;have Ae:w2.cell? ⟨b,18,none⟩=some (.bool s.begun):=M2.cell (k:=18) rfl;have b2:=zlt M2.h;clear u OU V U T R Q P O L K J A D B2 M2;have Ak:=zhd hs1;clear hs1;rw[hov]at Ad;rw[hbg]at Ae;obtain⟨V,U,T,R,Q,P,O,L,K,J,A,D⟩:=zq11 m;clear hov hbg m
 have Ao:wrap64 ((s.events:Int)+1)=(s.events:Int)+1:=by unfold wrap64;omega
 have Ai:w2.cell? ⟨b,11,none⟩=some (.int .i64 s.now):=z.o.2.2.cell (k:=11) rfl;have Ag:w2.cell? ⟨b,24,none⟩=some (.int .i64 (s.steps:Int)):=z.o.2.2.cell (k:=24) rfl;have Ah:w2.cell? ⟨b,23,none⟩=some (.int .i64 (s.events:Int)):=z.o.2.2.cell (k:=23) rfl;have f0:∀o,w2.frozen? ⟨b,o,none⟩=false:=fun o=>z.o.2.2.frozen o;go_upto_region 5 with(fail);go_region
 all_goals
  go_upto_region 9 with(fail);refine yab ?_;intro w3 d;have S1:=z.o.2.2.scalar 11 (.int .i64 t) {s with now:=t} rfl rfl rfl rfl rfl rfl rfl rfl;have S2:=S1.1.scalar 24 (.int .i64 0) {s with now:=t,steps:=0} rfl rfl rfl rfl rfl rfl rfl rfl;have S3:=S2.1.scalar 23 (.int .i64 ((s.events:Int)+1)) {s with now:=t,steps:=0,events:=s.events+1} rfl rfl rfl rfl rfl rfl rfl rfl;have S4:=S3.1.ext (znv _ _).drew;have K4:=S3.2.trans (MK.ext (v:=v) (znv _ _).drew);rw[<-d]at S4 K4;have K3:MK b v W v w3:=(MK.ext z.o.1).trans (S1.2.trans (S2.2.trans K4));have l:w3.heap[W.heap.size]? =some (.cells #[id,t,.int .i64 1,a,bb,nm,tx,vk,vn,vs,.slice la ln lc] 40 (0,0)):=by
   have nb:W≠b:=fun e=>by have:=zlt HX.o.1.h;omega
   rw[d];exact((znn _ _ _ _ nb).trans ((znn _ _ _ _ nb).trans (znn _ _ _ _ nb))).trans z.o.2.1
  have C3:=HX.o.2.2.2.keep K3.keeps hF;obtain⟨s0,i⟩:∃s0:MS,s0={s with now:=t,steps:=0,events:=s.events+1}:=⟨_,rfl⟩;rw[<-i]at S4;have Al:=zhd i;have b3:=zlt S4.h;clear V U T R Q P O L K J A D Ad Ae Ai Ag Ah f0 b2 S1 S2 S3 K4 d i;have H3:=zh4 S4 K3 C3 l;obtain⟨V,U,T,R,Q,P,O,L,K,J,A,D⟩:=zq11 l;have f3:∀o,w3.frozen? ⟨b,o,none⟩=false:=fun o=>H3.o.1.frozen o;clear S4 K3 C3 l;have CL:=zhd (yay x vk vn vs la ln lc F w3 H3.o.2.2.1 hz);go_wp2_with fail;refine CL.o.mono ?_;rintro e B ⟨⟨k8,n8,s8,c,X,Y⟩,rfl,H5⟩;have H:=H3.o.1.ext H5.o.2;have f5:∀o,B.frozen? ⟨b,o,none⟩=false:=fun o=>H.frozen o;have b5:=zlt H.h;have i0:B.cell? ⟨b,18,none⟩=some (.bool s0.begun):=H.cell (k:=18) rfl;have i7:B.cell? ⟨b,7,none⟩=some (.int .i64 v.inp.kind):=H.cell (k:=7) rfl;have i8:B.cell? ⟨b,8,none⟩=some (.int .i64 v.inp.n):=H.cell (k:=8) rfl;have i9:B.cell? ⟨b,9,none⟩=some (.string v.inp.s):=H.cell (k:=9) rfl
  have Af:B.cell? ⟨b,10,none⟩=some (.slice v.inp.la v.inp.ln v.inp.lc):=H.cell (k:=10) rfl;have C5:CF (MZ Z v b) B ⟨k8,n8,s8,c,X,Y⟩ (yaa x):=H5.o.1.mono (fun g hg _=>by
   have hg:w3<=g:=hg;exact⟨fun e=>by have:=H3.o.1.lt e;omega,hZ g (by have:=H3.o.2.1.keeps.size;omega)⟩)
  have S6:=H.scalar 18 (.bool true) {s0 with begun:=true} rfl rfl rfl rfl rfl rfl rfl rfl;have K18:Keeps (fun j=>j=b) B (B.setCell ⟨b,18,none⟩ (.bool true)):=Keeps.setCell (S:=fun j=>j=b) (p:=⟨b,18,none⟩) (Keeps.refl _ _) (.inl rfl) _;have S7:=MX.setInput S6.1 ⟨k8,n8,s8,c,X,Y⟩ (yaa x) (C5.keep K18 (fun g h e=>h.1 ⟨0,by rw[e];rfl⟩));have Aj:=zh2 S7.1 (H3.o.2.1.trans ((MK.ext H5.o.2).trans (S6.2.trans S7.2)));clear H C5 S6 S7 K18 V U T R Q P O L K J A D;go_upto_region 28 with(fail);refine yab ?_;intro w6 Aa;have S8:=Aj.o;rw[<-Aa]at S8;have Ac:({s0 with begun:=true,input:=yaa x}:MS)=s1:=by rw[<-Ak.o,Al.o];rfl
  have M8:MX TT Z w6 b {v with inp:=⟨k8,n8,s8,c,X,Y⟩} p s1:=Ac▸S8.1;have K8:=S8.2;have I:=Am.o;have RC:=zhd (I w6 _ M8 K8.keeps.size);have An:=zhd K8;clear S8 Ac M8 K8 I Aa f5 b5 i0 i7 i8 i9 Af;go_wp2_with fail;refine RC.o.mono ?_;rintro e w9 ⟨v9,rfl,H9⟩;go_wp2;go_ret;exact⟨v9,rfl,zhd ⟨H9.o.1,An.o.trans H9.o.2⟩⟩
theorem yhR
  {Z:Nat->Prop}(b:Nat)(v:MV)(p:Img)(s:MS)(W:World)(M:MX TT Z W b v p s)
  {N:Nat}(G:Gl Tryz.prog N W)(id t k a bb:Int)(nm tx:ByteArray)(x:Val)(vk vn:Int)(vs:ByteArray)(la:Option Addr)(ln lc:Nat)(F:Nat->Prop)(C:CF F W ⟨vk,vn,vs,la,ln,lc⟩ x)(hw:x.wf)
  (hck:yaf ⟨id,t,k,a,bb,nm,tx,x⟩=0)(hov:s.over=false)(hbg:s.begun=true)(hF:∀g,F g->¬MO v b g)(hev:s.events<=4294967296)(hZ:∀j,W.heap.size<=j->Z j)
  (hlt:s.timers.list.length<=4294967296)(hla:s.acts.list.length<=4294967296)(hll:s.letters.length<=4294967296)(hz:szV x<=1073741824)(hnm:nm.size<=64)
  (hk:k=12\/k=8\/k=10\/k=9\/k=15\/k=14\/k=19\/k=20)
  (s1 r:MS)(hs1:hear {s with now:=t,steps:=0,events:=s.events+1} ⟨id,t,k,a,bb,nm,tx,x⟩=s1)(RT:∀(W':World) (v':MV),MX TT Z W' b v' p s1->W<=W'.heap.size->Calls Tryz.prog 109 #[.pointer (some ⟨b,0,none⟩)] W' (MP Z W' b v' p (.tuple #[]) r))
  (hr:k=19\/k=20->r=s1):
  Calls Tryz.prog 70 #[.pointer (some ⟨b,0,none⟩),.agg #[id,t,k,a,bb,nm,tx,vk,vn,vs,.slice la ln lc]] W
   (MP Z W b v p (.int .i64 0) r):=by
 have X:=zhd RT;have Au:=zhd hr;have I:=zh6 hlt hla hll hz hnm hZ;have ho:yaH k=true:=by
  unfold yaH;exact zno (by omega)
 have n1:(k==1)=false:=by rw[zna];omega
 have Av:=zhd hk;clear RT hr hlt hla hll hz hnm hZ hk;obtain⟨w0,n⟩:∃w0,w0=W.alloc (.cells #[id,t,k,a,bb,nm,tx,vk,vn,vs,.slice la ln lc] 40):=⟨_,rfl⟩;have B0:=zba n;have hB:=zha n;have C0:=C.keep (S:=fun _=>False) (zkb B0) (fun _ _ f=>f);have Am:vk=x.kind:=C.kind;rw[ybq]at hck;dsimp only at hck;rw[<-Am]at hck;have EK:=zhd (ybp id t k a bb nm tx vk vn vs la ln lc w0 (G.below B0) (checkL x) (fun W' BW=>ybi x vk vn vs la ln lc F W' (C0.keep (S:=fun _=>False) (zkb BW) (fun _ _ f=>f)) hw _ rfl) _ hck);obtain⟨q0,q1,q2,q3,q4,q5,q6,q7,q8,q9,U,d⟩:=zq11 hB;have HX:=zh4 M B0 hB C;clear Am hck C0 B0 hB C M;go_in;go_wp2_with fail;rw[<-n];clear n;refine EK.o.mono ?_;rintro e w1 ⟨rfl,Ak⟩;have B1:Below W W w1:=HX.o.2.1.trans (Ak.mono HX.o.2.1.size);have Q:=(Ak.block W d).trans HX.o.2.2.1;have H1:=zh2 B1 Q
 clear Ak EK q0 q1 q2 q3 q4 q5 q6 q7 q8 q9 U d;obtain⟨q0,q1,q2,q3,q4,q5,q6,q7,q8,q9,U,d⟩:=zq11 Q;have OU:=zhd (ybb id t k a bb nm tx vk vn vs la ln lc w1 true ho);clear B1 Q;go_wp2_with fail;refine OU.o.mono ?_;rintro e w2 ⟨rfl,Aj⟩;have B2:Below W W w2:=H1.o.1.trans (Aj.mono H1.o.1.size);have Ag:=(Aj.block W d).trans H1.o.2;have M2:=HX.o.1.ext B2;have H2:=zh3 B2 Ag M2;have As:w2.cell? ⟨b,19,none⟩=some (.bool s.over):=M2.cell (k:=19) rfl;have At:w2.cell? ⟨b,18,none⟩=some (.bool s.begun):=M2.cell (k:=18) rfl;have b2:=zlt M2.h;clear Aj OU q0 q1 q2 q3 q4 q5 q6 q7 q8 q9 U d B2 M2;clear ho;have R:=zhd hs1;clear hs1;rw[hov]at As;rw[hbg]at At;obtain⟨q0,q1,q2,q3,q4,q5,q6,q7,q8,q9,U,d⟩:=zq11 Ag
 clear hov hbg Ag;have A5:wrap64 ((s.events:Int)+1)=(s.events:Int)+1:=by unfold wrap64;omega
 have A2:w2.cell? ⟨b,11,none⟩=some (.int .i64 s.now):=H2.o.2.2.cell (k:=11) rfl;have Az:w2.cell? ⟨b,24,none⟩=some (.int .i64 (s.steps:Int)):=H2.o.2.2.cell (k:=24) rfl;have A0:w2.cell? ⟨b,23,none⟩=some (.int .i64 (s.events:Int)):=H2.o.2.2.cell (k:=23) rfl;have f0:∀o,w2.frozen? ⟨b,o,none⟩=false:=fun o=>H2.o.2.2.frozen o;go_upto_region 5 with(fail);go_region
 all_goals
  go_upto_region 9 with(fail);refine yab ?_;intro w3 Aa;have S1:=H2.o.2.2.scalar 11 (.int .i64 t) {s with now:=t} rfl rfl rfl rfl rfl rfl rfl rfl;have S2:=S1.1.scalar 24 (.int .i64 0) {s with now:=t,steps:=0} rfl rfl rfl rfl rfl rfl rfl rfl;have S3:=S2.1.scalar 23 (.int .i64 ((s.events:Int)+1)) {s with now:=t,steps:=0,events:=s.events+1} rfl rfl rfl rfl rfl rfl rfl rfl;have O:=S3.1.ext (znv _ _).drew;have K4:=S3.2.trans (MK.ext (v:=v) (znv _ _).drew);rw[<-Aa]at O K4;have K3:MK b v W v w3:=(MK.ext H2.o.1).trans (S1.2.trans (S2.2.trans K4));have Af:w3.heap[W.heap.size]? =some (.cells #[id,t,k,a,bb,nm,tx,vk,vn,vs,.slice la ln lc] 40 (0,0)):=by
   have nb:W≠b:=fun e=>by have:=zlt HX.o.1.h;omega
   rw[Aa];exact((znn _ _ _ _ nb).trans ((znn _ _ _ _ nb).trans (znn _ _ _ _ nb))).trans H2.o.2.1
  have C3:=HX.o.2.2.2.keep K3.keeps hF;obtain⟨A,Ab⟩:∃A:MS,A={s with now:=t,steps:=0,events:=s.events+1}:=⟨_,rfl⟩;rw[<-Ab]at O;have H:=zhd Ab;have b3:=zlt O.h;clear q0 q1 q2 q3 q4 q5 q6 q7 q8 q9 U d As At A2 Az A0 f0 b2 S1 S2 S3 K4 Aa Ab;have D:=zh4 O K3 C3 Af;obtain⟨q0,q1,q2,q3,q4,q5,q6,q7,q8,q9,U,d⟩:=zq11 Af;have f3:∀o,w3.frozen? ⟨b,o,none⟩=false:=fun o=>D.o.1.frozen o;clear O K3 C3 Af;have Ay:=Av.o;clear Av n1;rcases Ay with rfl|rfl|rfl|rfl|rfl|rfl|rfl|rfl
  .
   have E:s1={A with timers:=⟨ycw a 1 yag A.timers.list,A.timers.next⟩}:=by rw[<-R.o,H.o];rfl
   have P:A.timers.list.length<=4294967296:=by rw[H.o];exact I.o.1
   have L:=yad I.o.2.2.2.2.2 D.o.2.1.keeps.size;have EN:=zhd (yjs b v p A w3.drew (D.o.1.ext (znv _ _).drew) a 1 yag 0 0 ⟨#[]⟩ none 0 0 (fun _=>False) (yaI _ _) (by rw[ycX];decide) P L s1 E);go_upto_region 13 with(fail);go_region_law ((go_simp;go_at_call 108;refine EN.o.mono ?_;rintro e w5 ⟨z,rfl,K⟩))
   all_goals
    have c:=zhd (X.o w5 z K.o.1 (znf D.o.2.1.keeps.size K.o.2.keeps.size));have J:=zhd (D.o.2.1.trans ((MK.ext (znv w3.heap.size w3).drew).trans K.o.2));go_wp2_with fail;refine c.o.mono ?_;rintro e w9 ⟨Y,rfl,T⟩;go_wp2;go_ret;exact⟨Y,rfl,zhd ⟨T.o.1,J.o.trans T.o.2⟩⟩
  .
   have E:s1={A with acts:=⟨ycw a 1 x A.acts.list,A.acts.next⟩}:=by rw[<-R.o,H.o];rfl
   have P:A.acts.list.length<=4294967296:=by rw[H.o];exact I.o.2.1
   have L:=yad I.o.2.2.2.2.2 D.o.2.1.keeps.size;have EN:=zhd (ydl b v p A w3.drew (D.o.1.ext (znv _ _).drew) a 1 x vk vn vs la ln lc F (D.o.2.2.1.keep (S:=fun _=>False) (zkb (znv _ _).drew) (fun _ _ f=>f)) I.o.2.2.2.1 P L s1 E);go_upto_region 15 with(fail);go_region_law ((go_simp;go_at_call 108;refine EN.o.mono ?_;rintro e w5 ⟨z,rfl,K⟩))
   all_goals
    have c:=zhd (X.o w5 z K.o.1 (znf D.o.2.1.keeps.size K.o.2.keeps.size));have J:=zhd (D.o.2.1.trans ((MK.ext (znv w3.heap.size w3).drew).trans K.o.2));go_wp2_with fail;refine c.o.mono ?_;rintro e w9 ⟨Y,rfl,T⟩;go_wp2;go_ret;exact⟨Y,rfl,zhd ⟨T.o.1,J.o.trans T.o.2⟩⟩
  .
   have E:s1={A with acts:=⟨ycw a (-1) yag A.acts.list,A.acts.next⟩}:=by rw[<-R.o,H.o];rfl
   have P:A.acts.list.length<=4294967296:=by rw[H.o];exact I.o.2.1
   have L:=yad I.o.2.2.2.2.2 D.o.2.1.keeps.size;have EN:=zhd (ydl b v p A w3.drew (D.o.1.ext (znv _ _).drew) a (-1) yag 0 0 ⟨#[]⟩ none 0 0 (fun _=>False) (yaI _ _) (by rw[ycX];decide) P L s1 E);go_upto_region 19 with(fail);go_region_law ((go_simp;go_at_call 108;refine EN.o.mono ?_;rintro e w5 ⟨z,rfl,K⟩))
   all_goals
    have c:=zhd (X.o w5 z K.o.1 (znf D.o.2.1.keeps.size K.o.2.keeps.size));have J:=zhd (D.o.2.1.trans ((MK.ext (znv w3.heap.size w3).drew).trans K.o.2));go_wp2_with fail;refine c.o.mono ?_;rintro e w9 ⟨Y,rfl,T⟩;go_wp2;go_ret;exact⟨Y,rfl,zhd ⟨T.o.1,J.o.trans T.o.2⟩⟩
  .
   have E:s1={A with acts:=⟨ycw a 0 (ybZ nm) A.acts.list,A.acts.next⟩}:=by rw[<-R.o,H.o];rfl
   have P:A.acts.list.length<=4294967296:=by rw[H.o];exact I.o.2.1
   have L:=yad I.o.2.2.2.2.2 D.o.2.1.keeps.size;have VT:=zhd (yfY nm w3.drew);have EN:=zhd (fun w4 (B:Below w3 w3 w4)=>ydl b v p A w4 (D.o.1.ext B) a 0 (ybZ nm) 2 0 nm none 0 0 (fun _=>False) (yk5 _ _ _) (by rw[ycX];show 4*nm.size+30<=_;have:=I.o.2.2.2.2.1;omega) P (yad L B.size) s1 E);go_upto_region 17 with(fail);go_region_law (first
    |(go_simp;go_at_call 32;refine VT.o.mono ?_;rintro e w4 ⟨rfl,Ar⟩;have B4:=(znw ((znv w3.heap.size w3).drew) Ar);have Ae:=(B4.block W d).trans D.o.2.2.2;have r3:w4.cell? ⟨W,3,none⟩=some (.int .i64 a):=(by rw[zch Ae];rfl);have rl:=zlt Ae;have H4:=zhd B4;clear Ar B4 Ae)
    |(go_simp;go_at_call 108;refine(EN.o w4 H4.o).mono ?_;rintro e w5 ⟨z,rfl,K⟩))
   all_goals
    have c:=zhd (X.o w5 z K.o.1 (znf D.o.2.1.keeps.size (znf H4.o.size K.o.2.keeps.size)));have J:=zhd (D.o.2.1.trans ((MK.ext H4.o).trans K.o.2));go_wp2_with fail;refine c.o.mono ?_;rintro e w9 ⟨Y,rfl,T⟩;go_wp2;go_ret;exact⟨Y,rfl,zhd ⟨T.o.1,J.o.trans T.o.2⟩⟩
  .
   have E:{A with asked:=true}=s1:=by rw[<-R.o,H.o];rfl
   have O:=D.o.1.scalar 17 (.bool true) {A with asked:=true} rfl rfl rfl rfl rfl rfl rfl rfl;rw[E]at O;have i0:w3.cell? ⟨b,17,none⟩=some (.bool A.asked):=D.o.1.cell (k:=17) rfl;have c:=zhd (X.o _ v O.1 (znf D.o.2.1.keeps.size O.2.keeps.size));have J:=zhd (D.o.2.1.trans O.2);have V:=zhd O;clear O E;go_wp2_with fail;refine c.o.mono ?_;rintro e w9 ⟨Y,rfl,T⟩;go_wp2;go_ret;exact⟨Y,rfl,zhd ⟨T.o.1,J.o.trans T.o.2⟩⟩
  .
   have E:s1={A with letters:=A.letters++[⟨nm,yaa x⟩]}:=by rw[<-R.o,H.o];rfl
   have P:A.letters.length<=4294967296:=by rw[H.o];exact I.o.2.2.1
   have L:=yad I.o.2.2.2.2.2 D.o.2.1.keeps.size;obtain⟨ss,ic,ps,Ax,ts,A3,ls,ms⟩:=v;obtain⟨am,cap,rfl⟩:∃a cap,ls= .slice a A.letters.length cap:=D.o.1.lts.slice;have CL:=zhd (yay x vk vn vs la ln lc F w3.drew (D.o.2.2.1.keep (S:=fun _=>False) (zkb (znv _ _).drew) (fun _ _ f=>f)) I.o.2.2.2.1);have A1:w3.cell? ⟨b,16,none⟩=some (.slice am A.letters.length cap):=D.o.1.cell (k:=16) rfl;obtain⟨ks,Aq,Ah⟩:=D.o.1.lts.cells;have Ao:ks.length=A.letters.length:=Ah.1;have NB:=zhd (show∀g,(Value.slice am A.letters.length cap).ownBlock=some g->g≠b from fun g hg e=>absurd (D.o.1.sep 5 0 g hg (by rw[e];rfl)) (by decide));have Al:=zhd (show∀y:LC,(ks.length+[y].length)*72<=140737488355328/\ks.length+[y].length<=maxLen/\ks.length+[y].length=A.letters.length+1 from fun y=>by
    have e:ks.length+[y].length=A.letters.length+1:=by rw[Ao];rfl
    rw[e];exact⟨by omega,by unfold maxLen;omega,rfl⟩)
   have HK:=zh4 Aq Ah E L;clear Aq Ah Ao E P L;go_upto_region 21 with(fail);go_region_law (first
    |(go_simp;go_at_call 58;refine CL.o.mono ?_;rintro e w5 ⟨⟨k8,n8,s8,m,i,l⟩,rfl,Ai⟩;have q:Below w3 w3 w5:=znw ((znv w3.heap.size w3).drew) Ai.o.2;have A4:=(q.cell (p:=⟨b,16,none⟩) b3).trans A1;have df:∀o,w5.frozen? ⟨b,o,none⟩=false:=(fun o=>(q.frozen (p:=⟨b,o,none⟩) b3).trans (f3 o));have db:b<w5:=znj b3 q.size;have Ad:=(q.block W d).trans D.o.2.2.2;have r5:w5.cell? ⟨W,5,none⟩=some (.string nm):=(by rw[zch Ad];rfl);have rl:=zlt Ad;have K:=zh4 Ai.o.1 q (HK.o.1.below q) (D.o.1.ext q);clear Ai q Ad)
    |(refine yaC (α:=LC) (o:=⟨some 109,_,_,_,_,_⟩) ykU (by rfl) (.tmp 101) (.tmp 108) (by rfl) (v:=.slice am A.letters.length cap) (u:=.slice (some ⟨w5,0,none⟩) 1 1) (by rfl) (by rfl) (xs:=ks) (ys:=[⟨nm,⟨k8,n8,s8,m,i,l⟩⟩]) (K.o.2.2.1.alloc _) (RowAt.lit (α:=LC) (y:=⟨nm,⟨k8,n8,s8,m,i,l⟩⟩) (znb _ _)) (Al.o _).1 (Al.o _).2.1 (A.letters.length+1) (Al.o _).2.2 ?_;intro a1 cp w7 An Ac Ap;have Q:=(Ac.block b (by simp;omega) (fun e=>NB.o _ e rfl)).trans ((zne _ _ _ db).trans K.o.2.2.2.h);have y0:w7.cell? ⟨b,16,none⟩=some (.slice am A.letters.length cap):=(by rw[zch Q];rfl);have y1:∀o,w7.frozen? ⟨b,o,none⟩=false:=(fun o=>zfr Q o);have y2:b<w7:=zlt Q;have FF:=zh3 An Ac Ap;clear An Ac Ap Q))
   all_goals
    have B1:Below w5 w5 (w5.alloc (.cells (enc (⟨nm,⟨k8,n8,s8,m,i,l⟩⟩:LC)).toArray 138)):=zal;have C5:CF (MZ Z ⟨ss,ic,ps,Ax,ts,A3,.slice am A.letters.length cap,ms⟩ b) w5 ⟨k8,n8,s8,m,i,l⟩ (yaa x):=K.o.1.mono (fun g hg _=>by
     have hg:w3<=g:=hg;exact⟨fun e=>by have:=D.o.1.lt e;omega,HK.o.2.2.2 g hg⟩)
    have P5:=HK.o.2.1.keep (S:=fun _=>False) (zkb K.o.2.1) (fun _ _ f=>f);have S:=K.o.2.2.2.putLts (v1:=.slice a1 (A.letters.length+1) cp) s1 FF.o.1 (P5.app (Ptw.one (x:=⟨nm,yaa x⟩) ⟨rfl,C5⟩)) (((zkb (S:=fun _=>False) B1).mono (fun _ _ f=>f.elim)).trans FF.o.2.1 (fun _ _ e=>e)) (fun g hg=>(FF.o.2.2 g hg).imp (fun h=>h) (fun h=>znf B1.size h)) HK.o.2.2.1;have c:=zhd (X.o _ _ S.1 (znf D.o.2.1.keeps.size (znf K.o.2.1.size S.2.keeps.size)));have J:=zhd (D.o.2.1.trans ((MK.ext K.o.2.1).trans S.2));clear S B1 C5 P5;go_wp2_with fail;refine c.o.mono ?_;rintro e w9 ⟨Y,rfl,T⟩;go_wp2;go_ret;exact⟨Y,rfl,zhd ⟨T.o.1,J.o.trans T.o.2⟩⟩
  .
   obtain rfl:r=s1:=Au.o (.inl rfl);have E:{A with over:=true}=r:=by rw[<-R.o,H.o];rfl
   have O:=D.o.1.scalar 19 (.bool true) {A with over:=true} rfl rfl rfl rfl rfl rfl rfl rfl;rw[E]at O;have i0:w3.cell? ⟨b,19,none⟩=some (.bool A.over):=D.o.1.cell (k:=19) rfl;have V:=zhd O;clear O E;go_wp2;go_ret;exact⟨v,rfl,zhd ⟨V.o.1,D.o.2.1.trans V.o.2⟩⟩
  .
   obtain rfl:r=s1:=Au.o (.inr rfl);have E:{A with over:=true}=r:=by rw[<-R.o,H.o];rfl
   have O:=D.o.1.scalar 19 (.bool true) {A with over:=true} rfl rfl rfl rfl rfl rfl rfl rfl;rw[E]at O;have i0:w3.cell? ⟨b,19,none⟩=some (.bool A.over):=D.o.1.cell (k:=19) rfl;have V:=zhd O;clear O E;go_wp2;go_ret;exact⟨v,rfl,zhd ⟨V.o.1,D.o.2.1.trans V.o.2⟩⟩
end Go.Proofs.YtpagmlndgblhhaaGreatDoor
