/- Parts of the proof: what the functions and the plain laws give that later parts lean on. Conditions: none beyond those that each theorem names. -/
import Derived.Test.YtpagmlndgblhhaaGreatDoorT12
set_option maxRecDepth 100000
set_option maxHeartbeats 8000000
namespace Go.Proofs.YtpagmlndgblhhaaGreatDoor
open Go.RowKit Go.Own Go.Own.MapTy Go.Va Go.Sort
open Go.Own.Cells (sz enc)
theorem yco {w:World}{b o:Nat}{u:Value}(h:w.cell? ⟨b,o,none⟩=some u):w.setCell ⟨b,o,none⟩ u=w:=by
 simp only[World.setCell]
 congr 1
 refine Array.ext_getElem? fun i=> ?_;simp only[zni];by_cases e:b=i
 .subst e
  rw[if_pos rfl];unfold World.cell? at h;cases hb:w.heap[b]? with
  |none=>rfl
  |some ob=>
   rw[hb]at h;cases ob with
   |cells cs t fr=>
    simp at h;simp;refine Array.ext_getElem? fun j=> ?_;rw[Array.getElem?_setIfInBounds];split
    .rename_i A
     subst A;split
     .exact h.symm
     .rename_i B;rw[Array.getElem?_eq_none (by omega)]
    .rfl
   |_=>simp at h
 .rw[if_neg e]
theorem RowAt.again {α:Type}[Cells α]{w:World}{e:TypeId}{xs:List α}{g off n cap:Nat}{i:Nat}{x y:α}(h:RowAt w e (.slice (some ⟨g,off,none⟩) n cap) (xs.set i x))(hi:i<xs.length){j:Nat}{u:Value}(hj:j<sz α)(hy:enc y=(enc x).set j u):
  RowAt (w.setCell ⟨g,off+i*sz α+j,none⟩ u) e (.slice (some ⟨g,off,none⟩) n cap) (xs.set i y):=by
 have:=RowAt.setOne h (i:=i) (x:=x) (y:=y) (by rw[List.getElem?_set_self hi]) hj hy;rw[List.set_set,<-zmm]at this;exact this
theorem ye0 {w:World}{e:TypeId}{xs:List TC}{g off n cap:Nat}{i:Nat}{x:TC}(h:RowAt w e (.slice (some ⟨g,off,none⟩) n cap) xs)(hx:xs[i]? =some x)(how:Int)(c:VC):
  RowAt ((((((w.setCell ⟨g,off+i*7+1,none⟩ (.bool true)).setCell ⟨g,off+i*7+6,none⟩ (.int .i64 how)).setCell ⟨g,off+i*7+2,none⟩ (.int .i64 c.kind)).setCell ⟨g,off+i*7+3,none⟩ (.int .i64 c.n)).setCell ⟨g,off+i*7+4,none⟩ (.string c.s)).setCell ⟨g,off+i*7+5,none⟩ (.slice c.la c.ln c.lc)) e (.slice (some ⟨g,off,none⟩) n cap) (xs.set i ⟨x.id,true,c,how⟩):=by
 have A:=(zge hx).1;have G:xs.set i x=xs:=by
  have:=(zge hx).2;rw[<-this,List.set_getElem_self]
 rw[<-G]at h;have F:=RowAt.again h A (j:=1) (u:=.bool true) (y:=⟨x.id,true,x.v,x.how⟩) (by decide) rfl;have E:=RowAt.again F A (j:=6) (u:=.int .i64 how) (y:=⟨x.id,true,x.v,how⟩) (by decide) rfl;have D:=RowAt.again E A (j:=2) (u:=.int .i64 c.kind) (y:=⟨x.id,true,⟨c.kind,x.v.n,x.v.s,x.v.la,x.v.ln,x.v.lc⟩,how⟩) (by decide) rfl;have C:=RowAt.again D A (j:=3) (u:=.int .i64 c.n) (y:=⟨x.id,true,⟨c.kind,c.n,x.v.s,x.v.la,x.v.ln,x.v.lc⟩,how⟩) (by decide) rfl;have B:=RowAt.again C A (j:=4) (u:=.string c.s) (y:=⟨x.id,true,⟨c.kind,c.n,c.s,x.v.la,x.v.ln,x.v.lc⟩,how⟩) (by decide) rfl;exact RowAt.again B A (j:=5) (u:=.slice c.la c.ln c.lc) (y:=⟨x.id,true,c,how⟩) (by decide) rfl
theorem yfl (w':World)(g o1 o2 o3 o4 o5 o6:Nat)(v1 v2 v3 v4 v5 v6:Value):
  Keeps (fun j=>j=g) w' ((((((w'.setCell ⟨g,o1,none⟩ v1).setCell ⟨g,o2,none⟩ v2).setCell ⟨g,o3,none⟩ v3).setCell ⟨g,o4,none⟩ v4).setCell ⟨g,o5,none⟩ v5).setCell ⟨g,o6,none⟩ v6):=by
 have F:Keeps (fun j=>j=g) w' w':=Keeps.refl _ _;have E:=Keeps.setCell (p:=⟨g,o1,none⟩) F (.inl rfl) v1;have D:=Keeps.setCell (p:=⟨g,o2,none⟩) E (.inl rfl) v2;have C:=Keeps.setCell (p:=⟨g,o3,none⟩) D (.inl rfl) v3;have B:=Keeps.setCell (p:=⟨g,o4,none⟩) C (.inl rfl) v4;have A:=Keeps.setCell (p:=⟨g,o5,none⟩) B (.inl rfl) v5;exact Keeps.setCell (p:=⟨g,o6,none⟩) A (.inl rfl) v6
theorem yew {id how:Int}{v:Val}:∀{l:List Th},yav id l=none->ycA id how v l=l
 |[],_=>rfl
 |x::r,h=>by
  rw[yav]at h;split at h
  .cases h
  .rename_i hne
   rw[ycA,if_neg hne];cases hf:yav id r with
   |none=>rw[yew hf]
   |some j=>rw[hf]at h;cases h
theorem yhu {id how:Int}{v:Val}:∀{l:List Th} {i:Nat} {x:Th},yav id l=some i->l[i]? =some x->ycA id how v l=bif x.over then l else l.set i ⟨x.id,true,yab v,how⟩
 |[],i,x,h,_=>by cases h
 |y::r,i,x,h,hx=>by
  rw[yav]at h;split at h
  .rename_i he
   cases h;simp at hx;subst hx;rw[ycA,if_pos he];rfl
  .rename_i hne
   rw[ycA,if_neg hne];cases hf:yav id r with
   |none=>rw[hf]at h;cases h
   |some j=>
    rw[hf]at h;cases h;rw[yhu hf (by simpa using hx)];cases x.over<;>rfl
def ypL (W:World)(nm:ByteArray)(l:List Lt)(gk:Nat)(v12:Value)(wr:World):Prop:=
 ∃i:Nat,v12= .int .i64 i/\i<=l.length/\gk=l.length - i/\yap nm l=(yap nm (l.drop i)).map (· +i)/\Below W W wr
theorem ybk
  {Z:Nat->Prop}(b:Nat)(v:MV)(p:Img)(s:MS)(W:World)(M:MX TT Z W b v p s)
  (nm:ByteArray)(r:Int)(hr:ltI nm s.letters=r):
  Calls Tryz.prog 161 #[.pointer (some ⟨b,0,none⟩),nm] W (fun e w'=>e= .returned (.int .i64 r)/\Below W W w'):=by
 obtain⟨t,ic,u,V,q,j,U,y⟩:=v;obtain⟨a,cap,rfl⟩:∃a cap,U= .slice a s.letters.length cap:=M.lts.slice;have hb:=zlt M.h;have c1:W.cell? ⟨b,16,none⟩=some (.slice a s.letters.length cap):=M.cell (k:=16) rfl;have I:s.letters.length<=maxLen:=by
  obtain⟨c,Y,X⟩:=M.lts.cells;rw[<-X.1];exact Y.length_le
 have N:=zh2 M.lts hr;clear M hr;go_in;go_wp2_with fail;go_loopg [12] (s.letters.length) (fun gk v12 wr=>ypL W nm s.letters gk v12 wr)
 case atStart=>exact⟨0,rfl,znq _,rfl,yih,znv _ _⟩
 case round=>
  obtain⟨i,rfl,hi,B,D,F⟩:=hrel;by_cases hin:i<s.letters.length
  .obtain⟨x,H⟩:=yac hin
   obtain⟨g,P,⟨f,⟨ck,d,c,la,z,lc⟩⟩,rfl,hg,L,_,A⟩:=(N.o.1.below F).at_ H;have O:=A 0 _ rfl;have T:=A 1 _ rfl;have S:=A 2 _ rfl;have R:=A 3 _ rfl;have Q:=A 4 _ rfl;have C:f=x.name:=L.name;rw[C]at O;simp only[sz,Nat.add_zero]at O T S R Q;have E:(i:Int)<s.letters.length:=by omega
   have m:=zhd (show s.letters.length - (i+1)<gk from by omega);have l:=zhd (show wrap64 ((i:Int)+1)=(i:Int)+1 from by unfold maxLen at I;unfold wrap64;omega);have J:i+1<=s.letters.length:=by omega
   have G:=zhd F;by_cases he:x.name=nm
   .have K:(x.name.toList==nm.toList)=true:=by rw[he];simp
    have hr:=N.o.2;unfold ltI at hr;rw[yhs H he D]at hr;have hr:(i:Int)=r:=hr;subst hr;clear D A L C B he F;go_wp2;go_ret;exact⟨rfl,G.o.alloc G.o.size _⟩
   .have K:(x.name.toList==nm.toList)=false:=by
     rw[zna,zml,zml];exact fun e=>he (ByteArray.ext (Array.toList_inj.1 e))
    have n:=zhd (yhr H he D);clear D A L C B he F;go_wp2_with fail;go_roundg (s.letters.length - (i+1))
    case measure=>exact m.o
    case rel=>exact⟨i+1,by rw[l.o];simp,J,rfl,n.o,G.o.alloc G.o.size _⟩
  .have E:¬(i:Int)<s.letters.length:=by omega
   have hr:=N.o.2;unfold ltI at hr;rw[D,zns (by omega)]at hr;have hr:(-1:Int)=r:=hr;subst hr;clear D B;go_wp2;go_ret;exact⟨rfl,F⟩
theorem yft {T:MT}{Z S:Nat->Prop}{W W':World}{b N:Nat}{v:MV}{p:Img}{s:MS}(M:MX T (fun j=>Z j/\j<N) W b v p s)(hS:∀j,S j->N<=j)(hO:∀j,S j->¬MO v b j)(K:Keeps S W W'):MX T Z W' b v p s:=
 (M.far K hO (fun j h e=>by have:=hS j h;have:=e.2;omega)).monoZ (fun _ h _=>h.1)
theorem yct (w':World)(b o1 o2 o3 o4:Nat)(v1 v2 v3 v4:Value):Keeps (fun j=>j=b) w' ((((w'.setCell ⟨b,o1,none⟩ v1).setCell ⟨b,o2,none⟩ v2).setCell ⟨b,o3,none⟩ v3).setCell ⟨b,o4,none⟩ v4):=by
 have D:Keeps (fun j=>j=b) w' w':=Keeps.refl _ _;have C:=Keeps.setCell (p:=⟨b,o1,none⟩) D (.inl rfl) v1;have B:=Keeps.setCell (p:=⟨b,o2,none⟩) C (.inl rfl) v2;have A:=Keeps.setCell (p:=⟨b,o3,none⟩) B (.inl rfl) v3;exact Keeps.setCell (p:=⟨b,o4,none⟩) A (.inl rfl) v4
theorem yfq
  {Z:Nat->Prop}(b:Nat)(v:MV)(p:Img)(s:MS)(W:World)(M:MX TT Z W b v p s)
  (i:Nat)(l:Lt)(hi:s.letters[i]? =some l)(hl:s.letters.length<=4294967296)(hZ:∀j,W.heap.size<=j->Z j):
  Calls Tryz.prog 162 #[.pointer (some ⟨b,0,none⟩),i] W (MPV Z W b v p (s.letV i) (s.openL i)):=by
 obtain⟨ss,ic,ps,Ab,ts,Ac,ls,ms⟩:=v;obtain⟨a,cap,rfl⟩:∃a cap,ls= .slice a s.letters.length cap:=M.lts.slice;obtain⟨G,U,y⟩:=M.lts.cells;obtain⟨⟨cn,⟨R,D,Q,L,J,K⟩⟩,hc,hC⟩:=y.get hi;obtain⟨g,A,rfl,x⟩:=U.addr hc;have b0:=zlt M.h;have t:=fun(j:Nat) (hj:j<5)=>U.cell hc (j:=j) hj;have m1:W.cell? ⟨g,A+i*5+1,none⟩=some (.int .i64 R):=by rw[zmm];exact t 1 (by decide)
 have m2:W.cell? ⟨g,A+i*5+2,none⟩=some (.int .i64 D):=by rw[zmm];exact t 2 (by decide)
 have m3:W.cell? ⟨g,A+i*5+3,none⟩=some (.string Q):=by rw[zmm];exact t 3 (by decide)
 have m4:W.cell? ⟨g,A+i*5+4,none⟩=some (.slice L J K):=by rw[zmm];exact t 4 (by decide)
 have Ah:i<s.letters.length:=(zge hi).1;have d:G.length=s.letters.length:=y.1;have Af:IntKind.i64.wrap ((i:Int)+1)=(i:Int)+1:=zmk _ (by omega);have Ae:wrap64 ((i:Int)+1)=(i:Int)+1:=by unfold wrap64;omega
 have Ag:(i:Int)<s.letters.length:=by omega
 obtain⟨Ad,r1⟩:=ygi ykR U (k:=i) (by omega);obtain⟨Ai,Aa,r2⟩:=yfE ykR U (k:=i+1) (by omega);rw[show((i+1:Nat):Int)=(i:Int)+1 from by omega]at Aa;have c1:W.cell? ⟨b,16,none⟩=some (.slice (some ⟨g,A,none⟩) s.letters.length cap):=M.cell (k:=16) rfl;have f0:∀o,W.frozen? ⟨b,o,none⟩=false:=fun o=>M.frozen o;obtain⟨wr,F⟩:∃wr,wr=(W.alloc (.cells #[.int .i64 0,.int .i64 0,.string ⟨#[]⟩,.slice none 0 0] 38)).alloc (.cells #[R,D,Q,.slice L J K] 38):=⟨_,rfl⟩;have hv:s.letV i=l.v:=by unfold MS.letV;rw[hi];rfl
 have I:=zh8 M U y hC.v hZ r1 r2 (zai hv d);clear M U y hC hZ r1 r2 t hc hi hv d;go_in;go_wp2_with fail;rw[<-F];have u:Below W W wr:=by rw[F];exact((znv W.heap.size W).alloc (znc _) _).alloc (by simp) _
 have P:wr.heap[W.heap.size]? =some (.cells #[.int .i64 0,.int .i64 0,.string ⟨#[]⟩,.slice none 0 0] 38 (0,0)):=by rw[F];exact yaG
 have O:wr.heap[W.heap.size+1]? =some (.cells #[R,D,Q,.slice L J K] 38 (0,0)):=by rw[F];exact yar
 have X:=zh4 u P O (u.block b b0);have l1:W<wr.heap.size:=zlt P;have l2:W.heap.size+1<wr.heap.size:=zlt O;have z:b<wr:=by omega
 have d1:wr.cell? ⟨b,16,none⟩=some (.slice (some ⟨g,A,none⟩) s.letters.length cap):=(u.cell (p:=⟨b,16,none⟩) b0).trans c1;have df:∀o,wr.frozen? ⟨b,o,none⟩=false:=fun o=>(u.frozen (p:=⟨b,o,none⟩) b0).trans (f0 o);have V:=zhd (show(([]:List LC).length+(G.take i).length)*72<=140737488355328/\([]:List LC).length+(G.take i).length<=maxLen/\([]:List LC).length+(G.take i).length=i/\((G.take i).length+(G.drop (i+1)).length)*72<=140737488355328/\(G.take i).length+(G.drop (i+1)).length<=maxLen/\(G.take i).length+(G.drop (i+1)).length=s.letters.length - 1 from by have:=I.o.2.2.2.2.2.2.2.2;unfold maxLen;simp;omega);clear F c1 f0 u P O m1 m2 m3 m4;go_region_law (first
  |(refine yay (α:=LC) (o:=⟨some 22,_,_,_,_,_⟩) ykR (by rfl) (.tmp 15) (.tmp 21) (by rfl) (by rfl) (by rfl) (RowAt.none_ (znb _ _)) (((I.o.2.2.2.2.2.1.below X.o.1).drew).alloc _) V.o.1 V.o.2.1 i V.o.2.2.1 ?_;intro a5 q5 w5 N n r;rw[List.nil_append]at N;have P5:=ybv (((Keeps.refl (fun _=>False) wr).drew).alloc _) n (ycM (znc _)) r;have C:=P5.1.block b z (fun f=>f);have e1:w5.cell? ⟨b,16,none⟩=some (.slice (some ⟨g,A,none⟩) s.letters.length cap):=(znt (w:=wr) C).trans d1;have H5:=zh2 N P5;have ef:∀o,w5.frozen? ⟨b,o,none⟩=false:=(fun o=>(znu (w:=wr) C).trans (df o));have eb:b<w5:=znj z P5.1.size;clear N n r P5 C)
  |(refine yay (α:=LC) (o:=⟨some 30,_,_,_,_,_⟩) ykR (by rfl) (.tmp 22) (.tmp 29) (by rfl) (by rfl) (by rfl) H5.o.1 ((I.o.2.2.2.2.2.2.1.below X.o.1).keep H5.o.2.1 (fun _ _ f=>f)) V.o.2.2.2.1 V.o.2.2.2.2.1 (s.letters.length - 1) V.o.2.2.2.2.2 ?_;intro a6 q6 w6 c m q;have P6:=ybv H5.o.2.1 m H5.o.2.2 q;have C:=P6.1.block b z (fun f=>f);have g1:w6.cell? ⟨b,16,none⟩=some (.slice (some ⟨g,A,none⟩) s.letters.length cap):=(znt (w:=wr) C).trans d1;have Y:=zh2 c P6;have gf:∀o,w6.frozen? ⟨b,o,none⟩=false:=(fun o=>(znu (w:=wr) C).trans (df o));have gb:b<w6:=znj z P6.1.size;clear c m q P6 C))
 all_goals
  obtain⟨T,H⟩:∃T,T=w6.setCell ⟨b,16,none⟩ (.slice a6 (s.letters.length - 1) q6):=⟨_,rfl⟩;have S:=I.o.1.cut.putLts (v1:=.slice a6 (s.letters.length - 1) q6) (s.openL i) Y.o.1 ((I.o.2.2.1.erase i).mono (fun g h l=>⟨h.1,h.2,l⟩)) (((zkb (S:=fun _=>False) X.o.1).trans Y.o.2.1 (fun _ _ f=>f)).mono (fun _ _ f=>f.elim)) (fun g x=>.inr (znf X.o.1.size (Y.o.2.2 g x))) rfl;have B:T.heap[W.heap.size]? =some (.cells #[.int .i64 0,.int .i64 0,.string ⟨#[]⟩,.slice none 0 0] 38 (0,0)):=by
   rw[H,znn _ _ _ _ (fun e=>by have e:W.heap.size=b:=e;omega)];exact(Y.o.2.1.block _ l1 (fun f=>f)).trans X.o.2.1
  have E:T.heap[W.heap.size+1]? =some (.cells #[R,D,Q,.slice L J K] 38 (0,0)):=by
   rw[H,znn _ _ _ _ (fun e=>by have e:W.heap.size+1=b:=e;omega)];exact(Y.o.2.1.block _ l2 (fun f=>f)).trans X.o.2.2.1
  rw[<-H]at S|-;have HS:=zh2 S (fun g (x:(Value.slice a6 (s.letters.length - 1) q6).ownBlock=some g)=>Y.o.2.2 g x);have q0:=zca B 0 rfl;have q1:=zca B 1 rfl;have q2:=zca B 2 rfl;have q3:=zca B 3 rfl;have r0:=zca E 0 rfl;have r1:=zca E 1 rfl;have r2:=zca E 2 rfl;have r3:=zca E 3 rfl;have qf:∀o,T.frozen? ⟨W,o,none⟩=false:=fun o=>zfr B o;have z1:=zlt B;have z2:=zlt E;clear S H B E e1 ef eb g1 gf gb d1 df;go_wp2_with fail;exact zng (v:=.agg #[R,D,Q,.slice L J K]) (by simp only[results,Tryz.results162];go_simp) rfl ⟨_,⟨R,D,Q,L,J,K⟩,rfl,zhd (by
   have K4:=yct T W.heap.size 0 1 2 3 (.int .i64 R) (.int .i64 D) (.string Q) (.slice L J K);have KM:=HS.o.1.2.late (K4.mono (fun j _ e=>Nat.le_of_eq e.symm));have MM:=yft HS.o.1.1 (S:=fun j=>j=W) (fun j e=>Nat.le_of_eq e.symm) (fun j e h=>by
    rcases MO.turned (v:=⟨ss,ic,ps,Ab,ts,Ac,.slice (some ⟨g,A,none⟩) s.letters.length cap,ms⟩) (i0:=5) (fun i hi=>by
     match i with
     |0=>rfl
     |1=>rfl
     |2=>rfl
     |3=>rfl
     |4=>rfl
     |5=>exact absurd rfl hi
     |6=>rfl
     |_+7=>rfl) h with h|h
    .have:=I.o.1.lt h;have e:j=W:=e;omega
    .have:=HS.o.2 j h;have e:j=W:=e;omega) K4
   rw[I.o.2.2.2.2.2.2.2.1];exact⟨MM,KM,CF.step KM I.o.2.2.2.1⟩)⟩
theorem ye5 (w':World)(b o1 o2 o3 o4 o5 o6 o7:Nat)(v1 v2 v3 v4 v5 v6 v7:Value):Keeps (fun j=>j=b) w' (((((((w'.setCell ⟨b,o1,none⟩ v1).setCell ⟨b,o2,none⟩ v2).setCell ⟨b,o3,none⟩ v3).setCell ⟨b,o4,none⟩ v4).setCell ⟨b,o5,none⟩ v5).setCell ⟨b,o6,none⟩ v6).setCell ⟨b,o7,none⟩ v7):=Keeps.setCell (p:=⟨b,o7,none⟩) (yfl w' b o1 o2 o3 o4 o5 o6 v1 v2 v3 v4 v5 v6) (.inl rfl) v7
theorem TF.step {Z:Nat->Prop}{W w':World}{b:Nat}{v v':MV}{c:TC}{x:Th}(K:MK b v W v' w')(h:TF (MZ Z v b) W c x):TF (MZ Z v' b) w' c x:=⟨h.id,h.over,CF.step K h.v,h.how⟩
def MPT (Z:Nat->Prop)(W:World)(b:Nat)(v:MV)(p:Img)(x:Th)(s':MS)(e:Ending)(w':World):Prop:=∃(v':MV) (c:TC),e= .returned (.agg #[c.id,c.over,c.v.kind,c.v.n,c.v.s,.slice c.v.la c.v.ln c.v.lc,c.how])/\Hid (MX TT Z w' b v' p s'/\MK b v W v' w'/\TF (MZ Z v' b) w' c x)
theorem ycd
  {Z:Nat->Prop}(b:Nat)(v:MV)(p:Img)(s:MS)(W:World)(M:MX TT Z W b v p s)
  (i:Nat)(l:Th)(hi:s.timers.list[i]? =some l)(hl:s.timers.list.length<=4294967296)(s':MS)(hs':s'={s with timers:=⟨s.timers.list.eraseIdx i,s.timers.next⟩})(hZ:∀j,W.heap.size<=j->Z j):
  Calls Tryz.prog 178 #[.pointer (some ⟨b,12,none⟩),i] W (MPT Z W b v p l s'):=by
 obtain⟨ss,ic,ps,Ab,ts,Ac,ls,ms⟩:=v;obtain⟨a,cap,rfl⟩:∃a cap,ts= .slice a s.timers.list.length cap:=M.tms.slice;obtain⟨J,c,hP⟩:=M.tms.cells;obtain⟨⟨F,E,⟨X,H,V,Q,O,P⟩,B⟩,hc,hC⟩:=hP.get hi;obtain⟨g,A,rfl,hg⟩:=c.addr hc;have b0:=zlt M.h;have L:=fun(j:Nat) (hj:j<7)=>c.cell hc (j:=j) hj;have m0:W.cell? ⟨g,A+i*7,none⟩=some (.int .i64 F):=L 0 (by decide);have m1:W.cell? ⟨g,A+i*7+1,none⟩=some (.bool E):=by rw[zmm];exact L 1 (by decide)
 have m2:W.cell? ⟨g,A+i*7+2,none⟩=some (.int .i64 X):=by rw[zmm];exact L 2 (by decide)
 have m3:W.cell? ⟨g,A+i*7+3,none⟩=some (.int .i64 H):=by rw[zmm];exact L 3 (by decide)
 have m4:W.cell? ⟨g,A+i*7+4,none⟩=some (.string V):=by rw[zmm];exact L 4 (by decide)
 have m5:W.cell? ⟨g,A+i*7+5,none⟩=some (.slice Q O P):=by rw[zmm];exact L 5 (by decide)
 have m6:W.cell? ⟨g,A+i*7+6,none⟩=some (.int .i64 B):=by rw[zmm];exact L 6 (by decide)
 have Ah:i<s.timers.list.length:=(zge hi).1;have r:J.length=s.timers.list.length:=hP.1;have Af:IntKind.i64.wrap ((i:Int)+1)=(i:Int)+1:=zmk _ (by omega);have Ae:wrap64 ((i:Int)+1)=(i:Int)+1:=by unfold wrap64;omega
 have Ag:(i:Int)<s.timers.list.length:=by omega
 obtain⟨Ad,r1⟩:=ygi yeV c (k:=i) (by omega);obtain⟨Ai,Aa,r2⟩:=yfE yeV c (k:=i+1) (by omega);rw[show((i+1:Nat):Int)=(i:Int)+1 from by omega]at Aa;have c1:W.cell? ⟨b,12,none⟩=some (.slice (some ⟨g,A,none⟩) s.timers.list.length cap):=M.cell (k:=12) rfl;have f0:∀o,W.frozen? ⟨b,o,none⟩=false:=fun o=>M.frozen o;obtain⟨wr,I⟩:∃wr,wr=(W.alloc (.cells #[.int .i64 0,.bool false,.int .i64 0,.int .i64 0,.string ⟨#[]⟩,.slice none 0 0,.int .i64 0] 193)).alloc (.cells #[F,E,X,H,V,.slice Q O P,B] 193):=⟨_,rfl⟩;have hv:=hs';have N:=zh8 M c hP hC hZ r1 r2 (zai hv r);clear hs' M c hP hC hZ r1 r2 L hc hi hv r;go_in;go_wp2_with fail;rw[<-I];have z:Below W W wr:=by rw[I];exact((znv W.heap.size W).alloc (znc _) _).alloc (by simp) _
 have U:wr.heap[W.heap.size]? =some (.cells #[.int .i64 0,.bool false,.int .i64 0,.int .i64 0,.string ⟨#[]⟩,.slice none 0 0,.int .i64 0] 193 (0,0)):=by rw[I];exact yaG
 have T:wr.heap[W.heap.size+1]? =some (.cells #[F,E,X,H,V,.slice Q O P,B] 193 (0,0)):=by rw[I];exact yar
 have m:=zh4 z U T (z.block b b0);have l1:W<wr.heap.size:=zlt U;have l2:W.heap.size+1<wr.heap.size:=zlt T;have b1:b<wr:=by omega
 have d1:wr.cell? ⟨b,12,none⟩=some (.slice (some ⟨g,A,none⟩) s.timers.list.length cap):=(z.cell (p:=⟨b,12,none⟩) b0).trans c1;have df:∀o,wr.frozen? ⟨b,o,none⟩=false:=fun o=>(z.frozen (p:=⟨b,o,none⟩) b0).trans (f0 o);have d:=zhd (show(([]:List TC).length+(J.take i).length)*80<=140737488355328/\([]:List TC).length+(J.take i).length<=maxLen/\([]:List TC).length+(J.take i).length=i/\((J.take i).length+(J.drop (i+1)).length)*80<=140737488355328/\(J.take i).length+(J.drop (i+1)).length<=maxLen/\(J.take i).length+(J.drop (i+1)).length=s.timers.list.length - 1 from by have:=N.o.2.2.2.2.2.2.2.2;unfold maxLen;simp;omega);clear I c1 f0 z U T m0 m1 m2 m3 m4 m5 m6;go_region_law (first
  |(refine yay (α:=TC) (o:=⟨some 21,_,_,_,_,_⟩) yeV (by rfl) (.tmp 14) (.tmp 20) (by rfl) (by rfl) (by rfl) (RowAt.none_ (znb _ _)) (((N.o.2.2.2.2.2.1.below m.o.1).drew).alloc _) d.o.1 d.o.2.1 i d.o.2.2.1 ?_;intro a5 q5 w5 R u y;rw[List.nil_append]at R;have P5:=ybv (((Keeps.refl (fun _=>False) wr).drew).alloc _) u (ycM (znc _)) y;have G:=P5.1.block b b1 (fun f=>f);have e1:w5.cell? ⟨b,12,none⟩=some (.slice (some ⟨g,A,none⟩) s.timers.list.length cap):=(znt (w:=wr) G).trans d1;have H5:=zh2 R P5;have ef:∀o,w5.frozen? ⟨b,o,none⟩=false:=(fun o=>(znu (w:=wr) G).trans (df o));have eb:b<w5:=znj b1 P5.1.size;clear R u y P5 G)
  |(refine yay (α:=TC) (o:=⟨some 29,_,_,_,_,_⟩) yeV (by rfl) (.tmp 21) (.tmp 28) (by rfl) (by rfl) (by rfl) H5.o.1 ((N.o.2.2.2.2.2.2.1.below m.o.1).keep H5.o.2.1 (fun _ _ f=>f)) d.o.2.2.2.1 d.o.2.2.2.2.1 (s.timers.list.length - 1) d.o.2.2.2.2.2 ?_;intro a6 q6 w6 q t x;have P6:=ybv H5.o.2.1 t H5.o.2.2 x;have G:=P6.1.block b b1 (fun f=>f);have g1:w6.cell? ⟨b,12,none⟩=some (.slice (some ⟨g,A,none⟩) s.timers.list.length cap):=(znt (w:=wr) G).trans d1;have n:=zh2 q P6;have gf:∀o,w6.frozen? ⟨b,o,none⟩=false:=(fun o=>(znu (w:=wr) G).trans (df o));have gb:b<w6:=znj b1 P6.1.size;clear q t x P6 G))
 all_goals
  obtain⟨Y,K⟩:∃Y,Y=w6.setCell ⟨b,12,none⟩ (.slice a6 (s.timers.list.length - 1) q6):=⟨_,rfl⟩;have S:=N.o.1.cut.putTms (v1:=.slice a6 (s.timers.list.length - 1) q6) s' n.o.1 ((N.o.2.2.1.erase i).mono (fun g h l=>⟨h.1,h.2,l⟩)) (((zkb (S:=fun _=>False) m.o.1).trans n.o.2.1 (fun _ _ f=>f)).mono (fun _ _ f=>f.elim)) (fun g hg=>.inr (znf m.o.1.size (n.o.2.2 g hg))) N.o.2.2.2.2.2.2.2.1;have C:Y.heap[W.heap.size]? =some (.cells #[.int .i64 0,.bool false,.int .i64 0,.int .i64 0,.string ⟨#[]⟩,.slice none 0 0,.int .i64 0] 193 (0,0)):=by
   rw[K,znn _ _ _ _ (fun e=>by have e:W.heap.size=b:=e;omega)];exact(n.o.2.1.block _ l1 (fun f=>f)).trans m.o.2.1
  have D:Y.heap[W.heap.size+1]? =some (.cells #[F,E,X,H,V,.slice Q O P,B] 193 (0,0)):=by
   rw[K,znn _ _ _ _ (fun e=>by have e:W.heap.size+1=b:=e;omega)];exact(n.o.2.1.block _ l2 (fun f=>f)).trans m.o.2.2.1
  rw[<-K]at S|-;have HS:=zh2 S (fun g (hg:(Value.slice a6 (s.timers.list.length - 1) q6).ownBlock=some g)=>n.o.2.2 g hg);have q0:=zca C 0 rfl;have q1:=zca C 1 rfl;have q2:=zca C 2 rfl;have q3:=zca C 3 rfl;have q4:=zca C 4 rfl;have q5:=zca C 5 rfl;have q6:=zca C 6 rfl;have r0:=zca D 0 rfl;have r1:=zca D 1 rfl;have r2:=zca D 2 rfl;have r3:=zca D 3 rfl;have r4:=zca D 4 rfl;have r5:=zca D 5 rfl;have r6:=zca D 6 rfl;have qf:∀o,Y.frozen? ⟨W,o,none⟩=false:=fun o=>zfr C o;have z1:=zlt C;have z2:=zlt D;clear S K C D e1 ef eb g1 gf gb d1 df;go_wp2_with fail;exact zng (v:=.agg #[F,E,X,H,V,.slice Q O P,B]) (by simp only[results,Tryz.results178];go_simp) rfl ⟨_,⟨F,E,⟨X,H,V,Q,O,P⟩,B⟩,rfl,zhd (by
   have K4:=ye5 Y W.heap.size 0 1 2 3 4 5 6 (.int .i64 F) (.bool E) (.int .i64 X) (.int .i64 H) (.string V) (.slice Q O P) (.int .i64 B);have KM:=HS.o.1.2.late (K4.mono (fun j _ e=>Nat.le_of_eq e.symm));have MM:=yft HS.o.1.1 (S:=fun j=>j=W) (fun j e=>Nat.le_of_eq e.symm) (fun j e h=>by
    rcases MO.turned (v:=⟨ss,ic,ps,Ab,.slice (some ⟨g,A,none⟩) s.timers.list.length cap,Ac,ls,ms⟩) (i0:=3) (fun i hi=>by
     match i with
     |0=>rfl
     |1=>rfl
     |2=>rfl
     |3=>first|rfl|exact absurd rfl hi
     |4=>first|rfl|exact absurd rfl hi
     |5=>rfl
     |6=>rfl
     |_+7=>rfl) h with h|h
    .have:=N.o.1.lt h;have e:j=W:=e;omega
    .have:=HS.o.2 j h;have e:j=W:=e;omega) K4
   exact⟨MM,KM,TF.step KM N.o.2.2.2.1⟩)⟩
theorem ygP
  {Z:Nat->Prop}(b:Nat)(v:MV)(p:Img)(s:MS)(W:World)(M:MX TT Z W b v p s)
  (i:Nat)(l:Th)(hi:s.acts.list[i]? =some l)(hl:s.acts.list.length<=4294967296)(s':MS)(hs':s'={s with acts:=⟨s.acts.list.eraseIdx i,s.acts.next⟩})(hZ:∀j,W.heap.size<=j->Z j):
  Calls Tryz.prog 178 #[.pointer (some ⟨b,14,none⟩),i] W (MPT Z W b v p l s'):=by
 obtain⟨ss,ic,ps,Ab,ts,Ac,ls,ms⟩:=v;obtain⟨a,cap,rfl⟩:∃a cap,Ac= .slice a s.acts.list.length cap:=M.acs.slice;obtain⟨J,c,hP⟩:=M.acs.cells;obtain⟨⟨F,E,⟨X,H,V,Q,O,P⟩,B⟩,hc,hC⟩:=hP.get hi;obtain⟨g,A,rfl,hg⟩:=c.addr hc;have b0:=zlt M.h;have L:=fun(j:Nat) (hj:j<7)=>c.cell hc (j:=j) hj;have m0:W.cell? ⟨g,A+i*7,none⟩=some (.int .i64 F):=L 0 (by decide);have m1:W.cell? ⟨g,A+i*7+1,none⟩=some (.bool E):=by rw[zmm];exact L 1 (by decide)
 have m2:W.cell? ⟨g,A+i*7+2,none⟩=some (.int .i64 X):=by rw[zmm];exact L 2 (by decide)
 have m3:W.cell? ⟨g,A+i*7+3,none⟩=some (.int .i64 H):=by rw[zmm];exact L 3 (by decide)
 have m4:W.cell? ⟨g,A+i*7+4,none⟩=some (.string V):=by rw[zmm];exact L 4 (by decide)
 have m5:W.cell? ⟨g,A+i*7+5,none⟩=some (.slice Q O P):=by rw[zmm];exact L 5 (by decide)
 have m6:W.cell? ⟨g,A+i*7+6,none⟩=some (.int .i64 B):=by rw[zmm];exact L 6 (by decide)
 have Ah:i<s.acts.list.length:=(zge hi).1;have r:J.length=s.acts.list.length:=hP.1;have Af:IntKind.i64.wrap ((i:Int)+1)=(i:Int)+1:=zmk _ (by omega);have Ae:wrap64 ((i:Int)+1)=(i:Int)+1:=by unfold wrap64;omega
 have Ag:(i:Int)<s.acts.list.length:=by omega
 obtain⟨Ad,r1⟩:=ygi yeV c (k:=i) (by omega);obtain⟨Ai,Aa,r2⟩:=yfE yeV c (k:=i+1) (by omega);rw[show((i+1:Nat):Int)=(i:Int)+1 from by omega]at Aa;have c1:W.cell? ⟨b,14,none⟩=some (.slice (some ⟨g,A,none⟩) s.acts.list.length cap):=M.cell (k:=14) rfl;have f0:∀o,W.frozen? ⟨b,o,none⟩=false:=fun o=>M.frozen o;obtain⟨wr,I⟩:∃wr,wr=(W.alloc (.cells #[.int .i64 0,.bool false,.int .i64 0,.int .i64 0,.string ⟨#[]⟩,.slice none 0 0,.int .i64 0] 193)).alloc (.cells #[F,E,X,H,V,.slice Q O P,B] 193):=⟨_,rfl⟩;have hv:=hs';have N:=zh8 M c hP hC hZ r1 r2 (zai hv r);clear hs' M c hP hC hZ r1 r2 L hc hi hv r;go_in;go_wp2_with fail;rw[<-I];have z:Below W W wr:=by rw[I];exact((znv W.heap.size W).alloc (znc _) _).alloc (by simp) _
 have U:wr.heap[W.heap.size]? =some (.cells #[.int .i64 0,.bool false,.int .i64 0,.int .i64 0,.string ⟨#[]⟩,.slice none 0 0,.int .i64 0] 193 (0,0)):=by rw[I];exact yaG
 have T:wr.heap[W.heap.size+1]? =some (.cells #[F,E,X,H,V,.slice Q O P,B] 193 (0,0)):=by rw[I];exact yar
 have m:=zh4 z U T (z.block b b0);have l1:W<wr.heap.size:=zlt U;have l2:W.heap.size+1<wr.heap.size:=zlt T;have b1:b<wr:=by omega
 have d1:wr.cell? ⟨b,14,none⟩=some (.slice (some ⟨g,A,none⟩) s.acts.list.length cap):=(z.cell (p:=⟨b,14,none⟩) b0).trans c1;have df:∀o,wr.frozen? ⟨b,o,none⟩=false:=fun o=>(z.frozen (p:=⟨b,o,none⟩) b0).trans (f0 o);have d:=zhd (show(([]:List TC).length+(J.take i).length)*80<=140737488355328/\([]:List TC).length+(J.take i).length<=maxLen/\([]:List TC).length+(J.take i).length=i/\((J.take i).length+(J.drop (i+1)).length)*80<=140737488355328/\(J.take i).length+(J.drop (i+1)).length<=maxLen/\(J.take i).length+(J.drop (i+1)).length=s.acts.list.length - 1 from by have:=N.o.2.2.2.2.2.2.2.2;unfold maxLen;simp;omega);clear I c1 f0 z U T m0 m1 m2 m3 m4 m5 m6;go_region_law (first
  |(refine yay (α:=TC) (o:=⟨some 21,_,_,_,_,_⟩) yeV (by rfl) (.tmp 14) (.tmp 20) (by rfl) (by rfl) (by rfl) (RowAt.none_ (znb _ _)) (((N.o.2.2.2.2.2.1.below m.o.1).drew).alloc _) d.o.1 d.o.2.1 i d.o.2.2.1 ?_;intro a5 q5 w5 R u y;rw[List.nil_append]at R;have P5:=ybv (((Keeps.refl (fun _=>False) wr).drew).alloc _) u (ycM (znc _)) y;have G:=P5.1.block b b1 (fun f=>f);have e1:w5.cell? ⟨b,14,none⟩=some (.slice (some ⟨g,A,none⟩) s.acts.list.length cap):=(znt (w:=wr) G).trans d1;have H5:=zh2 R P5;have ef:∀o,w5.frozen? ⟨b,o,none⟩=false:=(fun o=>(znu (w:=wr) G).trans (df o));have eb:b<w5:=znj b1 P5.1.size;clear R u y P5 G)
  |(refine yay (α:=TC) (o:=⟨some 29,_,_,_,_,_⟩) yeV (by rfl) (.tmp 21) (.tmp 28) (by rfl) (by rfl) (by rfl) H5.o.1 ((N.o.2.2.2.2.2.2.1.below m.o.1).keep H5.o.2.1 (fun _ _ f=>f)) d.o.2.2.2.1 d.o.2.2.2.2.1 (s.acts.list.length - 1) d.o.2.2.2.2.2 ?_;intro a6 q6 w6 q t x;have P6:=ybv H5.o.2.1 t H5.o.2.2 x;have G:=P6.1.block b b1 (fun f=>f);have g1:w6.cell? ⟨b,14,none⟩=some (.slice (some ⟨g,A,none⟩) s.acts.list.length cap):=(znt (w:=wr) G).trans d1;have n:=zh2 q P6;have gf:∀o,w6.frozen? ⟨b,o,none⟩=false:=(fun o=>(znu (w:=wr) G).trans (df o));have gb:b<w6:=znj b1 P6.1.size;clear q t x P6 G))
 all_goals
  obtain⟨Y,K⟩:∃Y,Y=w6.setCell ⟨b,14,none⟩ (.slice a6 (s.acts.list.length - 1) q6):=⟨_,rfl⟩;have S:=N.o.1.cut.putAcs (v1:=.slice a6 (s.acts.list.length - 1) q6) s' n.o.1 ((N.o.2.2.1.erase i).mono (fun g h l=>⟨h.1,h.2,l⟩)) (((zkb (S:=fun _=>False) m.o.1).trans n.o.2.1 (fun _ _ f=>f)).mono (fun _ _ f=>f.elim)) (fun g hg=>.inr (znf m.o.1.size (n.o.2.2 g hg))) N.o.2.2.2.2.2.2.2.1;have C:Y.heap[W.heap.size]? =some (.cells #[.int .i64 0,.bool false,.int .i64 0,.int .i64 0,.string ⟨#[]⟩,.slice none 0 0,.int .i64 0] 193 (0,0)):=by
   rw[K,znn _ _ _ _ (fun e=>by have e:W.heap.size=b:=e;omega)];exact(n.o.2.1.block _ l1 (fun f=>f)).trans m.o.2.1
  have D:Y.heap[W.heap.size+1]? =some (.cells #[F,E,X,H,V,.slice Q O P,B] 193 (0,0)):=by
   rw[K,znn _ _ _ _ (fun e=>by have e:W.heap.size+1=b:=e;omega)];exact(n.o.2.1.block _ l2 (fun f=>f)).trans m.o.2.2.1
  rw[<-K]at S|-;have HS:=zh2 S (fun g (hg:(Value.slice a6 (s.acts.list.length - 1) q6).ownBlock=some g)=>n.o.2.2 g hg);have q0:=zca C 0 rfl;have q1:=zca C 1 rfl;have q2:=zca C 2 rfl;have q3:=zca C 3 rfl;have q4:=zca C 4 rfl;have q5:=zca C 5 rfl;have q6:=zca C 6 rfl;have r0:=zca D 0 rfl;have r1:=zca D 1 rfl;have r2:=zca D 2 rfl;have r3:=zca D 3 rfl;have r4:=zca D 4 rfl;have r5:=zca D 5 rfl;have r6:=zca D 6 rfl;have qf:∀o,Y.frozen? ⟨W,o,none⟩=false:=fun o=>zfr C o;have z1:=zlt C;have z2:=zlt D;clear S K C D e1 ef eb g1 gf gb d1 df;go_wp2_with fail;exact zng (v:=.agg #[F,E,X,H,V,.slice Q O P,B]) (by simp only[results,Tryz.results178];go_simp) rfl ⟨_,⟨F,E,⟨X,H,V,Q,O,P⟩,B⟩,rfl,zhd (by
   have K4:=ye5 Y W.heap.size 0 1 2 3 4 5 6 (.int .i64 F) (.bool E) (.int .i64 X) (.int .i64 H) (.string V) (.slice Q O P) (.int .i64 B);have KM:=HS.o.1.2.late (K4.mono (fun j _ e=>Nat.le_of_eq e.symm));have MM:=yft HS.o.1.1 (S:=fun j=>j=W) (fun j e=>Nat.le_of_eq e.symm) (fun j e h=>by
    rcases MO.turned (v:=⟨ss,ic,ps,Ab,ts,.slice (some ⟨g,A,none⟩) s.acts.list.length cap,ls,ms⟩) (i0:=4) (fun i hi=>by
     match i with
     |0=>rfl
     |1=>rfl
     |2=>rfl
     |3=>first|rfl|exact absurd rfl hi
     |4=>first|rfl|exact absurd rfl hi
     |5=>rfl
     |6=>rfl
     |_+7=>rfl) h with h|h
    .have:=N.o.1.lt h;have e:j=W:=e;omega
    .have:=HS.o.2 j h;have e:j=W:=e;omega) K4
   exact⟨MM,KM,TF.step KM N.o.2.2.2.1⟩)⟩
end Go.Proofs.YtpagmlndgblhhaaGreatDoor
