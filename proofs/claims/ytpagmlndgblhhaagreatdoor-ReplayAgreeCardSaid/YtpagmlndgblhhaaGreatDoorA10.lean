/- Parts of the proof: what the functions and the plain laws give that later parts lean on. Conditions: none beyond those that each theorem names. -/
import Derived.Test.YtpagmlndgblhhaaGreatDoorA9
set_option maxRecDepth 100000
set_option maxHeartbeats 8000000
namespace Go.Proofs.YtpagmlndgblhhaaGreatDoor
open Go.RowKit Go.Own Go.Own.MapTy Go.Va Go.Sort
open Go.Own.Cells (sz enc)
theorem ycq {w:World}{b o:Nat}{u:Value}(h:w.cell? ⟨b,o,none⟩=some u):w.setCell ⟨b,o,none⟩ u=w:=by
 simp only[World.setCell]
 congr 1
 refine Array.ext_getElem? fun i=> ?_;simp only[zni];by_cases e:b=i
 .subst e
  rw[if_pos rfl];unfold World.cell? at h;cases hb:w.heap[b]? with
  |none=>rfl
  |some ob=>
   rw[hb]at h;cases ob with
   |cells cs t fr=>
    simp at h;simp;refine Array.ext_getElem? fun j=> ?_;rw[Array.getElem?_setIfInBounds];split
    .rename_i A
     subst A;split
     .exact h.symm
     .rename_i B;rw[Array.getElem?_eq_none (by omega)]
    .rfl
   |_=>simp at h
 .rw[if_neg e]
theorem RowAt.again {α:Type}[Cells α]{w:World}{e:TypeId}{xs:List α}{g off n cap:Nat}{i:Nat}{x y:α}(h:RowAt w e (.slice (some ⟨g,off,none⟩) n cap) (xs.set i x))(hi:i<xs.length){j:Nat}{u:Value}(hj:j<sz α)(hy:enc y=(enc x).set j u):
  RowAt (w.setCell ⟨g,off+i*sz α+j,none⟩ u) e (.slice (some ⟨g,off,none⟩) n cap) (xs.set i y):=by
 have:=RowAt.setOne h (i:=i) (x:=x) (y:=y) (by rw[List.getElem?_set_self hi]) hj hy;rw[List.set_set,<-zmm]at this;exact this
theorem ye1 {w:World}{e:TypeId}{xs:List TC}{g off n cap:Nat}{i:Nat}{x:TC}(h:RowAt w e (.slice (some ⟨g,off,none⟩) n cap) xs)(hx:xs[i]? =some x)(how:Int)(c:VC):
  RowAt ((((((w.setCell ⟨g,off+i*7+1,none⟩ (.bool true)).setCell ⟨g,off+i*7+6,none⟩ (.int .i64 how)).setCell ⟨g,off+i*7+2,none⟩ (.int .i64 c.kind)).setCell ⟨g,off+i*7+3,none⟩ (.int .i64 c.n)).setCell ⟨g,off+i*7+4,none⟩ (.string c.s)).setCell ⟨g,off+i*7+5,none⟩ (.slice c.la c.ln c.lc)) e (.slice (some ⟨g,off,none⟩) n cap) (xs.set i ⟨x.id,true,c,how⟩):=by
 have A:=(zge hx).1;have G:xs.set i x=xs:=by
  have:=(zge hx).2;rw[<-this,List.set_getElem_self]
 rw[<-G]at h;have F:=RowAt.again h A (j:=1) (u:=.bool true) (y:=⟨x.id,true,x.v,x.how⟩) (by decide) rfl;have E:=RowAt.again F A (j:=6) (u:=.int .i64 how) (y:=⟨x.id,true,x.v,how⟩) (by decide) rfl;have D:=RowAt.again E A (j:=2) (u:=.int .i64 c.kind) (y:=⟨x.id,true,⟨c.kind,x.v.n,x.v.s,x.v.la,x.v.ln,x.v.lc⟩,how⟩) (by decide) rfl;have C:=RowAt.again D A (j:=3) (u:=.int .i64 c.n) (y:=⟨x.id,true,⟨c.kind,c.n,x.v.s,x.v.la,x.v.ln,x.v.lc⟩,how⟩) (by decide) rfl;have B:=RowAt.again C A (j:=4) (u:=.string c.s) (y:=⟨x.id,true,⟨c.kind,c.n,c.s,x.v.la,x.v.ln,x.v.lc⟩,how⟩) (by decide) rfl;exact RowAt.again B A (j:=5) (u:=.slice c.la c.ln c.lc) (y:=⟨x.id,true,c,how⟩) (by decide) rfl
theorem yfr (w':World)(g o1 o2 o3 o4 o5 o6:Nat)(v1 v2 v3 v4 v5 v6:Value):
  Keeps (fun j=>j=g) w' ((((((w'.setCell ⟨g,o1,none⟩ v1).setCell ⟨g,o2,none⟩ v2).setCell ⟨g,o3,none⟩ v3).setCell ⟨g,o4,none⟩ v4).setCell ⟨g,o5,none⟩ v5).setCell ⟨g,o6,none⟩ v6):=by
 have F:Keeps (fun j=>j=g) w' w':=Keeps.refl _ _;have E:=Keeps.setCell (p:=⟨g,o1,none⟩) F (.inl rfl) v1;have D:=Keeps.setCell (p:=⟨g,o2,none⟩) E (.inl rfl) v2;have C:=Keeps.setCell (p:=⟨g,o3,none⟩) D (.inl rfl) v3;have B:=Keeps.setCell (p:=⟨g,o4,none⟩) C (.inl rfl) v4;have A:=Keeps.setCell (p:=⟨g,o5,none⟩) B (.inl rfl) v5;exact Keeps.setCell (p:=⟨g,o6,none⟩) A (.inl rfl) v6
theorem yew {id how:Int}{v:Val}:∀{l:List Th},yav id l=none->ycw id how v l=l
 |[],_=>rfl
 |x::r,h=>by
  rw[yav]at h;split at h
  .cases h
  .rename_i hne
   rw[ycw,if_neg hne];cases hf:yav id r with
   |none=>rw[yew hf]
   |some j=>rw[hf]at h;cases h
theorem yhF {id how:Int}{v:Val}:∀{l:List Th} {i:Nat} {x:Th},yav id l=some i->l[i]? =some x->ycw id how v l=bif x.over then l else l.set i ⟨x.id,true,yab v,how⟩
 |[],i,x,h,_=>by cases h
 |y::r,i,x,h,hx=>by
  rw[yav]at h;split at h
  .rename_i he
   cases h;simp at hx;subst hx;rw[ycw,if_pos he];rfl
  .rename_i hne
   rw[ycw,if_neg hne];cases hf:yav id r with
   |none=>rw[hf]at h;cases h
   |some j=>
    rw[hf]at h;cases h;rw[yhF hf (by simpa using hx)];cases x.over<;>rfl
def ypQ (W:World)(nm:ByteArray)(l:List Lt)(gk:Nat)(v12:Value)(wr:World):Prop:=
 ∃i:Nat,v12= .int .i64 i/\i<=l.length/\gk=l.length - i/\yaq nm l=(yaq nm (l.drop i)).map (· +i)/\Below W W wr
theorem ybm
  {Z:Nat->Prop}(b:Nat)(v:MV)(p:Img)(s:MS)(W:World)(M:MX TT Z W b v p s)
  (nm:ByteArray)(r:Int)(hr:ltI nm s.letters=r):
  Calls Tryz.prog 161 #[.pointer (some ⟨b,0,none⟩),nm] W (fun e w'=>e= .returned (.int .i64 r)/\Below W W w'):=by
 obtain⟨t,ic,u,V,q,j,U,y⟩:=v;obtain⟨a,cap,rfl⟩:∃a cap,U= .slice a s.letters.length cap:=M.lts.slice;have hb:=zlt M.h;have c1:W.cell? ⟨b,16,none⟩=some (.slice a s.letters.length cap):=M.cell (k:=16) rfl;have I:s.letters.length<=maxLen:=by
  obtain⟨c,Y,X⟩:=M.lts.cells;rw[<-X.1];exact Y.length_le
 have N:=zh2 M.lts hr;clear M hr;go_in;go_wp2_with fail;go_loopg [12] (s.letters.length) (fun gk v12 wr=>ypQ W nm s.letters gk v12 wr)
 case atStart=>exact⟨0,rfl,znq _,rfl,yip,znv _ _⟩
 case round=>
  obtain⟨i,rfl,hi,B,D,F⟩:=hrel;by_cases hin:i<s.letters.length
  .obtain⟨x,H⟩:=yac hin
   obtain⟨g,P,⟨f,⟨ck,d,c,la,z,lc⟩⟩,rfl,hg,L,_,A⟩:=(N.o.1.below F).at_ H;have O:=A 0 _ rfl;have T:=A 1 _ rfl;have S:=A 2 _ rfl;have R:=A 3 _ rfl;have Q:=A 4 _ rfl;have C:f=x.name:=L.name;rw[C]at O;simp only[sz,Nat.add_zero]at O T S R Q;have E:(i:Int)<s.letters.length:=by omega
   have m:=zhd (show s.letters.length - (i+1)<gk from by omega);have l:=zhd (show wrap64 ((i:Int)+1)=(i:Int)+1 from by unfold maxLen at I;unfold wrap64;omega);have J:i+1<=s.letters.length:=by omega
   have G:=zhd F;by_cases he:x.name=nm
   .have K:(x.name.toList==nm.toList)=true:=by rw[he];simp
    have hr:=N.o.2;unfold ltI at hr;rw[yhE H he D]at hr;have hr:(i:Int)=r:=hr;subst hr;clear D A L C B he F;go_wp2;go_ret;exact⟨rfl,G.o.alloc G.o.size _⟩
   .have K:(x.name.toList==nm.toList)=false:=by
     rw[zna,zml,zml];exact fun e=>he (ByteArray.ext (Array.toList_inj.1 e))
    have n:=zhd (yhD H he D);clear D A L C B he F;go_wp2_with fail;go_roundg (s.letters.length - (i+1))
    case measure=>exact m.o
    case rel=>exact⟨i+1,by rw[l.o];simp,J,rfl,n.o,G.o.alloc G.o.size _⟩
  .have E:¬(i:Int)<s.letters.length:=by omega
   have hr:=N.o.2;unfold ltI at hr;rw[D,zns (by omega)]at hr;have hr:(-1:Int)=r:=hr;subst hr;clear D B;go_wp2;go_ret;exact⟨rfl,F⟩
theorem yfA {T:MT}{Z S:Nat->Prop}{W W':World}{b N:Nat}{v:MV}{p:Img}{s:MS}(M:MX T (fun j=>Z j/\j<N) W b v p s)(hS:∀j,S j->N<=j)(hO:∀j,S j->¬MO v b j)(K:Keeps S W W'):MX T Z W' b v p s:=
 (M.far K hO (fun j h e=>by have:=hS j h;have:=e.2;omega)).monoZ (fun _ h _=>h.1)
theorem ycu (w':World)(b o1 o2 o3 o4:Nat)(v1 v2 v3 v4:Value):Keeps (fun j=>j=b) w' ((((w'.setCell ⟨b,o1,none⟩ v1).setCell ⟨b,o2,none⟩ v2).setCell ⟨b,o3,none⟩ v3).setCell ⟨b,o4,none⟩ v4):=by
 have D:Keeps (fun j=>j=b) w' w':=Keeps.refl _ _;have C:=Keeps.setCell (p:=⟨b,o1,none⟩) D (.inl rfl) v1;have B:=Keeps.setCell (p:=⟨b,o2,none⟩) C (.inl rfl) v2;have A:=Keeps.setCell (p:=⟨b,o3,none⟩) B (.inl rfl) v3;exact Keeps.setCell (p:=⟨b,o4,none⟩) A (.inl rfl) v4
theorem yfy
  {Z:Nat->Prop}(b:Nat)(v:MV)(p:Img)(s:MS)(W:World)(M:MX TT Z W b v p s)
  (i:Nat)(l:Lt)(hi:s.letters[i]? =some l)(hl:s.letters.length<=4294967296)(hZ:∀j,W.heap.size<=j->Z j):
  Calls Tryz.prog 162 #[.pointer (some ⟨b,0,none⟩),i] W (MPV Z W b v p (s.letV i) (s.openL i)):=by
 obtain⟨ss,ic,ps,Ab,ts,Ac,ls,ms⟩:=v;obtain⟨a,cap,rfl⟩:∃a cap,ls= .slice a s.letters.length cap:=M.lts.slice;obtain⟨G,U,y⟩:=M.lts.cells;obtain⟨⟨cn,⟨R,D,Q,L,J,K⟩⟩,hc,hC⟩:=y.get hi;obtain⟨g,A,rfl,x⟩:=U.addr hc;have b0:=zlt M.h;have t:=fun(j:Nat) (hj:j<5)=>U.cell hc (j:=j) hj;have m1:W.cell? ⟨g,A+i*5+1,none⟩=some (.int .i64 R):=by rw[zmm];exact t 1 (by decide)
 have m2:W.cell? ⟨g,A+i*5+2,none⟩=some (.int .i64 D):=by rw[zmm];exact t 2 (by decide)
 have m3:W.cell? ⟨g,A+i*5+3,none⟩=some (.string Q):=by rw[zmm];exact t 3 (by decide)
 have m4:W.cell? ⟨g,A+i*5+4,none⟩=some (.slice L J K):=by rw[zmm];exact t 4 (by decide)
 have Ah:i<s.letters.length:=(zge hi).1;have d:G.length=s.letters.length:=y.1;have Af:IntKind.i64.wrap ((i:Int)+1)=(i:Int)+1:=zmk _ (by omega);have Ae:wrap64 ((i:Int)+1)=(i:Int)+1:=by unfold wrap64;omega
 have Ag:(i:Int)<s.letters.length:=by omega
 obtain⟨Ad,r1⟩:=yiz yk3 U (k:=i) (by omega);obtain⟨Ai,Aa,r2⟩:=yfK yk3 U (k:=i+1) (by omega);rw[show((i+1:Nat):Int)=(i:Int)+1 from by omega]at Aa;have c1:W.cell? ⟨b,16,none⟩=some (.slice (some ⟨g,A,none⟩) s.letters.length cap):=M.cell (k:=16) rfl;have f0:∀o,W.frozen? ⟨b,o,none⟩=false:=fun o=>M.frozen o;obtain⟨wr,F⟩:∃wr,wr=(W.alloc (.cells #[.int .i64 0,.int .i64 0,.string ⟨#[]⟩,.slice none 0 0] 38)).alloc (.cells #[R,D,Q,.slice L J K] 38):=⟨_,rfl⟩;have hv:s.letV i=l.v:=by unfold MS.letV;rw[hi];rfl
 have I:=zh8 M U y hC.v hZ r1 r2 (zai hv d);clear M U y hC hZ r1 r2 t hc hi hv d;go_in;go_wp2_with fail;rw[<-F];have u:Below W W wr:=by rw[F];exact((znv W.heap.size W).alloc (znc _) _).alloc (by simp) _
 have P:wr.heap[W.heap.size]? =some (.cells #[.int .i64 0,.int .i64 0,.string ⟨#[]⟩,.slice none 0 0] 38 (0,0)):=by rw[F];exact yaC
 have O:wr.heap[W.heap.size+1]? =some (.cells #[R,D,Q,.slice L J K] 38 (0,0)):=by rw[F];exact yan
 have X:=zh4 u P O (u.block b b0);have l1:W<wr.heap.size:=zlt P;have l2:W.heap.size+1<wr.heap.size:=zlt O;have z:b<wr:=by omega
 have d1:wr.cell? ⟨b,16,none⟩=some (.slice (some ⟨g,A,none⟩) s.letters.length cap):=(u.cell (p:=⟨b,16,none⟩) b0).trans c1;have df:∀o,wr.frozen? ⟨b,o,none⟩=false:=fun o=>(u.frozen (p:=⟨b,o,none⟩) b0).trans (f0 o);have V:=zhd (show(([]:List LC).length+(G.take i).length)*72<=140737488355328/\([]:List LC).length+(G.take i).length<=maxLen/\([]:List LC).length+(G.take i).length=i/\((G.take i).length+(G.drop (i+1)).length)*72<=140737488355328/\(G.take i).length+(G.drop (i+1)).length<=maxLen/\(G.take i).length+(G.drop (i+1)).length=s.letters.length - 1 from by have:=I.o.2.2.2.2.2.2.2.2;unfold maxLen;simp;omega);clear F c1 f0 u P O m1 m2 m3 m4;go_region_law (first
  |(refine yaz (α:=LC) (o:=⟨some 22,_,_,_,_,_⟩) yk3 (by rfl) (.tmp 15) (.tmp 21) (by rfl) (by rfl) (by rfl) (RowAt.none_ (znb _ _)) (((I.o.2.2.2.2.2.1.below X.o.1).drew).alloc _) V.o.1 V.o.2.1 i V.o.2.2.1 ?_;intro a5 q5 w5 N n r;rw[List.nil_append]at N;have P5:=ybA (((Keeps.refl (fun _=>False) wr).drew).alloc _) n (ycQ (znc _)) r;have C:=P5.1.block b z (fun f=>f);have e1:w5.cell? ⟨b,16,none⟩=some (.slice (some ⟨g,A,none⟩) s.letters.length cap):=(znt (w:=wr) C).trans d1;have H5:=zh2 N P5;have ef:∀o,w5.frozen? ⟨b,o,none⟩=false:=(fun o=>(znu (w:=wr) C).trans (df o));have eb:b<w5:=znj z P5.1.size;clear N n r P5 C)
  |(refine yaz (α:=LC) (o:=⟨some 30,_,_,_,_,_⟩) yk3 (by rfl) (.tmp 22) (.tmp 29) (by rfl) (by rfl) (by rfl) H5.o.1 ((I.o.2.2.2.2.2.2.1.below X.o.1).keep H5.o.2.1 (fun _ _ f=>f)) V.o.2.2.2.1 V.o.2.2.2.2.1 (s.letters.length - 1) V.o.2.2.2.2.2 ?_;intro a6 q6 w6 c m q;have P6:=ybA H5.o.2.1 m H5.o.2.2 q;have C:=P6.1.block b z (fun f=>f);have g1:w6.cell? ⟨b,16,none⟩=some (.slice (some ⟨g,A,none⟩) s.letters.length cap):=(znt (w:=wr) C).trans d1;have Y:=zh2 c P6;have gf:∀o,w6.frozen? ⟨b,o,none⟩=false:=(fun o=>(znu (w:=wr) C).trans (df o));have gb:b<w6:=znj z P6.1.size;clear c m q P6 C))
 all_goals
  obtain⟨T,H⟩:∃T,T=w6.setCell ⟨b,16,none⟩ (.slice a6 (s.letters.length - 1) q6):=⟨_,rfl⟩;have S:=I.o.1.cut.putLts (v1:=.slice a6 (s.letters.length - 1) q6) (s.openL i) Y.o.1 ((I.o.2.2.1.erase i).mono (fun g h l=>⟨h.1,h.2,l⟩)) (((zkb (S:=fun _=>False) X.o.1).trans Y.o.2.1 (fun _ _ f=>f)).mono (fun _ _ f=>f.elim)) (fun g x=>.inr (znf X.o.1.size (Y.o.2.2 g x))) rfl;have B:T.heap[W.heap.size]? =some (.cells #[.int .i64 0,.int .i64 0,.string ⟨#[]⟩,.slice none 0 0] 38 (0,0)):=by
   rw[H,znn _ _ _ _ (fun e=>by have e:W.heap.size=b:=e;omega)];exact(Y.o.2.1.block _ l1 (fun f=>f)).trans X.o.2.1
  have E:T.heap[W.heap.size+1]? =some (.cells #[R,D,Q,.slice L J K] 38 (0,0)):=by
   rw[H,znn _ _ _ _ (fun e=>by have e:W.heap.size+1=b:=e;omega)];exact(Y.o.2.1.block _ l2 (fun f=>f)).trans X.o.2.2.1
  rw[<-H]at S|-;have HS:=zh2 S (fun g (x:(Value.slice a6 (s.letters.length - 1) q6).ownBlock=some g)=>Y.o.2.2 g x);have q0:=zca B 0 rfl;have q1:=zca B 1 rfl;have q2:=zca B 2 rfl;have q3:=zca B 3 rfl;have r0:=zca E 0 rfl;have r1:=zca E 1 rfl;have r2:=zca E 2 rfl;have r3:=zca E 3 rfl;have qf:∀o,T.frozen? ⟨W,o,none⟩=false:=fun o=>zfr B o;have z1:=zlt B;have z2:=zlt E;clear S H B E e1 ef eb g1 gf gb d1 df;go_wp2_with fail;exact zng (v:=.agg #[R,D,Q,.slice L J K]) (by simp only[results,Tryz.results162];go_simp) rfl ⟨_,⟨R,D,Q,L,J,K⟩,rfl,zhd (by
   have K4:=ycu T W.heap.size 0 1 2 3 (.int .i64 R) (.int .i64 D) (.string Q) (.slice L J K);have KM:=HS.o.1.2.late (K4.mono (fun j _ e=>Nat.le_of_eq e.symm));have MM:=yfA HS.o.1.1 (S:=fun j=>j=W) (fun j e=>Nat.le_of_eq e.symm) (fun j e h=>by
    rcases MO.turned (v:=⟨ss,ic,ps,Ab,ts,Ac,.slice (some ⟨g,A,none⟩) s.letters.length cap,ms⟩) (i0:=5) (fun i hi=>by
     match i with
     |0=>rfl
     |1=>rfl
     |2=>rfl
     |3=>rfl
     |4=>rfl
     |5=>exact absurd rfl hi
     |6=>rfl
     |_+7=>rfl) h with h|h
    .have:=I.o.1.lt h;have e:j=W:=e;omega
    .have:=HS.o.2 j h;have e:j=W:=e;omega) K4
   rw[I.o.2.2.2.2.2.2.2.1];exact⟨MM,KM,CF.step KM I.o.2.2.2.1⟩)⟩
theorem ye6 (w':World)(b o1 o2 o3 o4 o5 o6 o7:Nat)(v1 v2 v3 v4 v5 v6 v7:Value):Keeps (fun j=>j=b) w' (((((((w'.setCell ⟨b,o1,none⟩ v1).setCell ⟨b,o2,none⟩ v2).setCell ⟨b,o3,none⟩ v3).setCell ⟨b,o4,none⟩ v4).setCell ⟨b,o5,none⟩ v5).setCell ⟨b,o6,none⟩ v6).setCell ⟨b,o7,none⟩ v7):=Keeps.setCell (p:=⟨b,o7,none⟩) (yfr w' b o1 o2 o3 o4 o5 o6 v1 v2 v3 v4 v5 v6) (.inl rfl) v7
theorem TF.step {Z:Nat->Prop}{W w':World}{b:Nat}{v v':MV}{c:TC}{x:Th}(K:MK b v W v' w')(h:TF (MZ Z v b) W c x):TF (MZ Z v' b) w' c x:=⟨h.id,h.over,CF.step K h.v,h.how⟩
def MPT (Z:Nat->Prop)(W:World)(b:Nat)(v:MV)(p:Img)(x:Th)(s':MS)(e:Ending)(w':World):Prop:=∃(v':MV) (c:TC),e= .returned (.agg #[c.id,c.over,c.v.kind,c.v.n,c.v.s,.slice c.v.la c.v.ln c.v.lc,c.how])/\Hid (MX TT Z w' b v' p s'/\MK b v W v' w'/\TF (MZ Z v' b) w' c x)
theorem ycd
  {Z:Nat->Prop}(b:Nat)(v:MV)(p:Img)(s:MS)(W:World)(M:MX TT Z W b v p s)
  (i:Nat)(l:Th)(hi:s.timers.list[i]? =some l)(hl:s.timers.list.length<=4294967296)(s':MS)(hs':s'={s with timers:=⟨s.timers.list.eraseIdx i,s.timers.next⟩})(hZ:∀j,W.heap.size<=j->Z j):
  Calls Tryz.prog 178 #[.pointer (some ⟨b,12,none⟩),i] W (MPT Z W b v p l s'):=by
 obtain⟨ss,ic,ps,Ab,ts,Ac,ls,ms⟩:=v;obtain⟨a,cap,rfl⟩:∃a cap,ts= .slice a s.timers.list.length cap:=M.tms.slice;obtain⟨J,c,hP⟩:=M.tms.cells;obtain⟨⟨F,E,⟨X,H,V,Q,O,P⟩,B⟩,hc,hC⟩:=hP.get hi;obtain⟨g,A,rfl,hg⟩:=c.addr hc;have b0:=zlt M.h;have L:=fun(j:Nat) (hj:j<7)=>c.cell hc (j:=j) hj;have m0:W.cell? ⟨g,A+i*7,none⟩=some (.int .i64 F):=L 0 (by decide);have m1:W.cell? ⟨g,A+i*7+1,none⟩=some (.bool E):=by rw[zmm];exact L 1 (by decide)
 have m2:W.cell? ⟨g,A+i*7+2,none⟩=some (.int .i64 X):=by rw[zmm];exact L 2 (by decide)
 have m3:W.cell? ⟨g,A+i*7+3,none⟩=some (.int .i64 H):=by rw[zmm];exact L 3 (by decide)
 have m4:W.cell? ⟨g,A+i*7+4,none⟩=some (.string V):=by rw[zmm];exact L 4 (by decide)
 have m5:W.cell? ⟨g,A+i*7+5,none⟩=some (.slice Q O P):=by rw[zmm];exact L 5 (by decide)
 have m6:W.cell? ⟨g,A+i*7+6,none⟩=some (.int .i64 B):=by rw[zmm];exact L 6 (by decide)
 have Ah:i<s.timers.list.length:=(zge hi).1;have r:J.length=s.timers.list.length:=hP.1;have Af:IntKind.i64.wrap ((i:Int)+1)=(i:Int)+1:=zmk _ (by omega);have Ae:wrap64 ((i:Int)+1)=(i:Int)+1:=by unfold wrap64;omega
 have Ag:(i:Int)<s.timers.list.length:=by omega
 obtain⟨Ad,r1⟩:=yiz yeX c (k:=i) (by omega);obtain⟨Ai,Aa,r2⟩:=yfK yeX c (k:=i+1) (by omega);rw[show((i+1:Nat):Int)=(i:Int)+1 from by omega]at Aa;have c1:W.cell? ⟨b,12,none⟩=some (.slice (some ⟨g,A,none⟩) s.timers.list.length cap):=M.cell (k:=12) rfl;have f0:∀o,W.frozen? ⟨b,o,none⟩=false:=fun o=>M.frozen o;obtain⟨wr,I⟩:∃wr,wr=(W.alloc (.cells #[.int .i64 0,.bool false,.int .i64 0,.int .i64 0,.string ⟨#[]⟩,.slice none 0 0,.int .i64 0] 193)).alloc (.cells #[F,E,X,H,V,.slice Q O P,B] 193):=⟨_,rfl⟩;have hv:=hs';have N:=zh8 M c hP hC hZ r1 r2 (zai hv r);clear hs' M c hP hC hZ r1 r2 L hc hi hv r;go_in;go_wp2_with fail;rw[<-I];have z:Below W W wr:=by rw[I];exact((znv W.heap.size W).alloc (znc _) _).alloc (by simp) _
 have U:wr.heap[W.heap.size]? =some (.cells #[.int .i64 0,.bool false,.int .i64 0,.int .i64 0,.string ⟨#[]⟩,.slice none 0 0,.int .i64 0] 193 (0,0)):=by rw[I];exact yaC
 have T:wr.heap[W.heap.size+1]? =some (.cells #[F,E,X,H,V,.slice Q O P,B] 193 (0,0)):=by rw[I];exact yan
 have m:=zh4 z U T (z.block b b0);have l1:W<wr.heap.size:=zlt U;have l2:W.heap.size+1<wr.heap.size:=zlt T;have b1:b<wr:=by omega
 have d1:wr.cell? ⟨b,12,none⟩=some (.slice (some ⟨g,A,none⟩) s.timers.list.length cap):=(z.cell (p:=⟨b,12,none⟩) b0).trans c1;have df:∀o,wr.frozen? ⟨b,o,none⟩=false:=fun o=>(z.frozen (p:=⟨b,o,none⟩) b0).trans (f0 o);have d:=zhd (show(([]:List TC).length+(J.take i).length)*80<=140737488355328/\([]:List TC).length+(J.take i).length<=maxLen/\([]:List TC).length+(J.take i).length=i/\((J.take i).length+(J.drop (i+1)).length)*80<=140737488355328/\(J.take i).length+(J.drop (i+1)).length<=maxLen/\(J.take i).length+(J.drop (i+1)).length=s.timers.list.length - 1 from by have:=N.o.2.2.2.2.2.2.2.2;unfold maxLen;simp;omega);clear I c1 f0 z U T m0 m1 m2 m3 m4 m5 m6;go_region_law (first
  |(refine yaz (α:=TC) (o:=⟨some 21,_,_,_,_,_⟩) yeX (by rfl) (.tmp 14) (.tmp 20) (by rfl) (by rfl) (by rfl) (RowAt.none_ (znb _ _)) (((N.o.2.2.2.2.2.1.below m.o.1).drew).alloc _) d.o.1 d.o.2.1 i d.o.2.2.1 ?_;intro a5 q5 w5 R u y;rw[List.nil_append]at R;have P5:=ybA (((Keeps.refl (fun _=>False) wr).drew).alloc _) u (ycQ (znc _)) y;have G:=P5.1.block b b1 (fun f=>f);have e1:w5.cell? ⟨b,12,none⟩=some (.slice (some ⟨g,A,none⟩) s.timers.list.length cap):=(znt (w:=wr) G).trans d1;have H5:=zh2 R P5;have ef:∀o,w5.frozen? ⟨b,o,none⟩=false:=(fun o=>(znu (w:=wr) G).trans (df o));have eb:b<w5:=znj b1 P5.1.size;clear R u y P5 G)
  |(refine yaz (α:=TC) (o:=⟨some 29,_,_,_,_,_⟩) yeX (by rfl) (.tmp 21) (.tmp 28) (by rfl) (by rfl) (by rfl) H5.o.1 ((N.o.2.2.2.2.2.2.1.below m.o.1).keep H5.o.2.1 (fun _ _ f=>f)) d.o.2.2.2.1 d.o.2.2.2.2.1 (s.timers.list.length - 1) d.o.2.2.2.2.2 ?_;intro a6 q6 w6 q t x;have P6:=ybA H5.o.2.1 t H5.o.2.2 x;have G:=P6.1.block b b1 (fun f=>f);have g1:w6.cell? ⟨b,12,none⟩=some (.slice (some ⟨g,A,none⟩) s.timers.list.length cap):=(znt (w:=wr) G).trans d1;have n:=zh2 q P6;have gf:∀o,w6.frozen? ⟨b,o,none⟩=false:=(fun o=>(znu (w:=wr) G).trans (df o));have gb:b<w6:=znj b1 P6.1.size;clear q t x P6 G))
 all_goals
  obtain⟨Y,K⟩:∃Y,Y=w6.setCell ⟨b,12,none⟩ (.slice a6 (s.timers.list.length - 1) q6):=⟨_,rfl⟩;have S:=N.o.1.cut.putTms (v1:=.slice a6 (s.timers.list.length - 1) q6) s' n.o.1 ((N.o.2.2.1.erase i).mono (fun g h l=>⟨h.1,h.2,l⟩)) (((zkb (S:=fun _=>False) m.o.1).trans n.o.2.1 (fun _ _ f=>f)).mono (fun _ _ f=>f.elim)) (fun g hg=>.inr (znf m.o.1.size (n.o.2.2 g hg))) N.o.2.2.2.2.2.2.2.1;have C:Y.heap[W.heap.size]? =some (.cells #[.int .i64 0,.bool false,.int .i64 0,.int .i64 0,.string ⟨#[]⟩,.slice none 0 0,.int .i64 0] 193 (0,0)):=by
   rw[K,znn _ _ _ _ (fun e=>by have e:W.heap.size=b:=e;omega)];exact(n.o.2.1.block _ l1 (fun f=>f)).trans m.o.2.1
  have D:Y.heap[W.heap.size+1]? =some (.cells #[F,E,X,H,V,.slice Q O P,B] 193 (0,0)):=by
   rw[K,znn _ _ _ _ (fun e=>by have e:W.heap.size+1=b:=e;omega)];exact(n.o.2.1.block _ l2 (fun f=>f)).trans m.o.2.2.1
  rw[<-K]at S|-;have HS:=zh2 S (fun g (hg:(Value.slice a6 (s.timers.list.length - 1) q6).ownBlock=some g)=>n.o.2.2 g hg);have q0:=zca C 0 rfl;have q1:=zca C 1 rfl;have q2:=zca C 2 rfl;have q3:=zca C 3 rfl;have q4:=zca C 4 rfl;have q5:=zca C 5 rfl;have q6:=zca C 6 rfl;have r0:=zca D 0 rfl;have r1:=zca D 1 rfl;have r2:=zca D 2 rfl;have r3:=zca D 3 rfl;have r4:=zca D 4 rfl;have r5:=zca D 5 rfl;have r6:=zca D 6 rfl;have qf:∀o,Y.frozen? ⟨W,o,none⟩=false:=fun o=>zfr C o;have z1:=zlt C;have z2:=zlt D;clear S K C D e1 ef eb g1 gf gb d1 df;go_wp2_with fail;exact zng (v:=.agg #[F,E,X,H,V,.slice Q O P,B]) (by simp only[results,Tryz.results178];go_simp) rfl ⟨_,⟨F,E,⟨X,H,V,Q,O,P⟩,B⟩,rfl,zhd (by
   have K4:=ye6 Y W.heap.size 0 1 2 3 4 5 6 (.int .i64 F) (.bool E) (.int .i64 X) (.int .i64 H) (.string V) (.slice Q O P) (.int .i64 B);have KM:=HS.o.1.2.late (K4.mono (fun j _ e=>Nat.le_of_eq e.symm));have MM:=yfA HS.o.1.1 (S:=fun j=>j=W) (fun j e=>Nat.le_of_eq e.symm) (fun j e h=>by
    rcases MO.turned (v:=⟨ss,ic,ps,Ab,.slice (some ⟨g,A,none⟩) s.timers.list.length cap,Ac,ls,ms⟩) (i0:=3) (fun i hi=>by
     match i with
     |0=>rfl
     |1=>rfl
     |2=>rfl
     |3=>first|rfl|exact absurd rfl hi
     |4=>first|rfl|exact absurd rfl hi
     |5=>rfl
     |6=>rfl
     |_+7=>rfl) h with h|h
    .have:=N.o.1.lt h;have e:j=W:=e;omega
    .have:=HS.o.2 j h;have e:j=W:=e;omega) K4
   exact⟨MM,KM,TF.step KM N.o.2.2.2.1⟩)⟩
theorem ygY
  {Z:Nat->Prop}(b:Nat)(v:MV)(p:Img)(s:MS)(W:World)(M:MX TT Z W b v p s)
  (i:Nat)(l:Th)(hi:s.acts.list[i]? =some l)(hl:s.acts.list.length<=4294967296)(s':MS)(hs':s'={s with acts:=⟨s.acts.list.eraseIdx i,s.acts.next⟩})(hZ:∀j,W.heap.size<=j->Z j):
  Calls Tryz.prog 178 #[.pointer (some ⟨b,14,none⟩),i] W (MPT Z W b v p l s'):=by
 obtain⟨ss,ic,ps,Ab,ts,Ac,ls,ms⟩:=v;obtain⟨a,cap,rfl⟩:∃a cap,Ac= .slice a s.acts.list.length cap:=M.acs.slice;obtain⟨J,c,hP⟩:=M.acs.cells;obtain⟨⟨F,E,⟨X,H,V,Q,O,P⟩,B⟩,hc,hC⟩:=hP.get hi;obtain⟨g,A,rfl,hg⟩:=c.addr hc;have b0:=zlt M.h;have L:=fun(j:Nat) (hj:j<7)=>c.cell hc (j:=j) hj;have m0:W.cell? ⟨g,A+i*7,none⟩=some (.int .i64 F):=L 0 (by decide);have m1:W.cell? ⟨g,A+i*7+1,none⟩=some (.bool E):=by rw[zmm];exact L 1 (by decide)
 have m2:W.cell? ⟨g,A+i*7+2,none⟩=some (.int .i64 X):=by rw[zmm];exact L 2 (by decide)
 have m3:W.cell? ⟨g,A+i*7+3,none⟩=some (.int .i64 H):=by rw[zmm];exact L 3 (by decide)
 have m4:W.cell? ⟨g,A+i*7+4,none⟩=some (.string V):=by rw[zmm];exact L 4 (by decide)
 have m5:W.cell? ⟨g,A+i*7+5,none⟩=some (.slice Q O P):=by rw[zmm];exact L 5 (by decide)
 have m6:W.cell? ⟨g,A+i*7+6,none⟩=some (.int .i64 B):=by rw[zmm];exact L 6 (by decide)
 have Ah:i<s.acts.list.length:=(zge hi).1;have r:J.length=s.acts.list.length:=hP.1;have Af:IntKind.i64.wrap ((i:Int)+1)=(i:Int)+1:=zmk _ (by omega);have Ae:wrap64 ((i:Int)+1)=(i:Int)+1:=by unfold wrap64;omega
 have Ag:(i:Int)<s.acts.list.length:=by omega
 obtain⟨Ad,r1⟩:=yiz yeX c (k:=i) (by omega);obtain⟨Ai,Aa,r2⟩:=yfK yeX c (k:=i+1) (by omega);rw[show((i+1:Nat):Int)=(i:Int)+1 from by omega]at Aa;have c1:W.cell? ⟨b,14,none⟩=some (.slice (some ⟨g,A,none⟩) s.acts.list.length cap):=M.cell (k:=14) rfl;have f0:∀o,W.frozen? ⟨b,o,none⟩=false:=fun o=>M.frozen o;obtain⟨wr,I⟩:∃wr,wr=(W.alloc (.cells #[.int .i64 0,.bool false,.int .i64 0,.int .i64 0,.string ⟨#[]⟩,.slice none 0 0,.int .i64 0] 193)).alloc (.cells #[F,E,X,H,V,.slice Q O P,B] 193):=⟨_,rfl⟩;have hv:=hs';have N:=zh8 M c hP hC hZ r1 r2 (zai hv r);clear hs' M c hP hC hZ r1 r2 L hc hi hv r;go_in;go_wp2_with fail;rw[<-I];have z:Below W W wr:=by rw[I];exact((znv W.heap.size W).alloc (znc _) _).alloc (by simp) _
 have U:wr.heap[W.heap.size]? =some (.cells #[.int .i64 0,.bool false,.int .i64 0,.int .i64 0,.string ⟨#[]⟩,.slice none 0 0,.int .i64 0] 193 (0,0)):=by rw[I];exact yaC
 have T:wr.heap[W.heap.size+1]? =some (.cells #[F,E,X,H,V,.slice Q O P,B] 193 (0,0)):=by rw[I];exact yan
 have m:=zh4 z U T (z.block b b0);have l1:W<wr.heap.size:=zlt U;have l2:W.heap.size+1<wr.heap.size:=zlt T;have b1:b<wr:=by omega
 have d1:wr.cell? ⟨b,14,none⟩=some (.slice (some ⟨g,A,none⟩) s.acts.list.length cap):=(z.cell (p:=⟨b,14,none⟩) b0).trans c1;have df:∀o,wr.frozen? ⟨b,o,none⟩=false:=fun o=>(z.frozen (p:=⟨b,o,none⟩) b0).trans (f0 o);have d:=zhd (show(([]:List TC).length+(J.take i).length)*80<=140737488355328/\([]:List TC).length+(J.take i).length<=maxLen/\([]:List TC).length+(J.take i).length=i/\((J.take i).length+(J.drop (i+1)).length)*80<=140737488355328/\(J.take i).length+(J.drop (i+1)).length<=maxLen/\(J.take i).length+(J.drop (i+1)).length=s.acts.list.length - 1 from by have:=N.o.2.2.2.2.2.2.2.2;unfold maxLen;simp;omega);clear I c1 f0 z U T m0 m1 m2 m3 m4 m5 m6;go_region_law (first
  |(refine yaz (α:=TC) (o:=⟨some 21,_,_,_,_,_⟩) yeX (by rfl) (.tmp 14) (.tmp 20) (by rfl) (by rfl) (by rfl) (RowAt.none_ (znb _ _)) (((N.o.2.2.2.2.2.1.below m.o.1).drew).alloc _) d.o.1 d.o.2.1 i d.o.2.2.1 ?_;intro a5 q5 w5 R u y;rw[List.nil_append]at R;have P5:=ybA (((Keeps.refl (fun _=>False) wr).drew).alloc _) u (ycQ (znc _)) y;have G:=P5.1.block b b1 (fun f=>f);have e1:w5.cell? ⟨b,14,none⟩=some (.slice (some ⟨g,A,none⟩) s.acts.list.length cap):=(znt (w:=wr) G).trans d1;have H5:=zh2 R P5;have ef:∀o,w5.frozen? ⟨b,o,none⟩=false:=(fun o=>(znu (w:=wr) G).trans (df o));have eb:b<w5:=znj b1 P5.1.size;clear R u y P5 G)
  |(refine yaz (α:=TC) (o:=⟨some 29,_,_,_,_,_⟩) yeX (by rfl) (.tmp 21) (.tmp 28) (by rfl) (by rfl) (by rfl) H5.o.1 ((N.o.2.2.2.2.2.2.1.below m.o.1).keep H5.o.2.1 (fun _ _ f=>f)) d.o.2.2.2.1 d.o.2.2.2.2.1 (s.acts.list.length - 1) d.o.2.2.2.2.2 ?_;intro a6 q6 w6 q t x;have P6:=ybA H5.o.2.1 t H5.o.2.2 x;have G:=P6.1.block b b1 (fun f=>f);have g1:w6.cell? ⟨b,14,none⟩=some (.slice (some ⟨g,A,none⟩) s.acts.list.length cap):=(znt (w:=wr) G).trans d1;have n:=zh2 q P6;have gf:∀o,w6.frozen? ⟨b,o,none⟩=false:=(fun o=>(znu (w:=wr) G).trans (df o));have gb:b<w6:=znj b1 P6.1.size;clear q t x P6 G))
 all_goals
  obtain⟨Y,K⟩:∃Y,Y=w6.setCell ⟨b,14,none⟩ (.slice a6 (s.acts.list.length - 1) q6):=⟨_,rfl⟩;have S:=N.o.1.cut.putAcs (v1:=.slice a6 (s.acts.list.length - 1) q6) s' n.o.1 ((N.o.2.2.1.erase i).mono (fun g h l=>⟨h.1,h.2,l⟩)) (((zkb (S:=fun _=>False) m.o.1).trans n.o.2.1 (fun _ _ f=>f)).mono (fun _ _ f=>f.elim)) (fun g hg=>.inr (znf m.o.1.size (n.o.2.2 g hg))) N.o.2.2.2.2.2.2.2.1;have C:Y.heap[W.heap.size]? =some (.cells #[.int .i64 0,.bool false,.int .i64 0,.int .i64 0,.string ⟨#[]⟩,.slice none 0 0,.int .i64 0] 193 (0,0)):=by
   rw[K,znn _ _ _ _ (fun e=>by have e:W.heap.size=b:=e;omega)];exact(n.o.2.1.block _ l1 (fun f=>f)).trans m.o.2.1
  have D:Y.heap[W.heap.size+1]? =some (.cells #[F,E,X,H,V,.slice Q O P,B] 193 (0,0)):=by
   rw[K,znn _ _ _ _ (fun e=>by have e:W.heap.size+1=b:=e;omega)];exact(n.o.2.1.block _ l2 (fun f=>f)).trans m.o.2.2.1
  rw[<-K]at S|-;have HS:=zh2 S (fun g (hg:(Value.slice a6 (s.acts.list.length - 1) q6).ownBlock=some g)=>n.o.2.2 g hg);have q0:=zca C 0 rfl;have q1:=zca C 1 rfl;have q2:=zca C 2 rfl;have q3:=zca C 3 rfl;have q4:=zca C 4 rfl;have q5:=zca C 5 rfl;have q6:=zca C 6 rfl;have r0:=zca D 0 rfl;have r1:=zca D 1 rfl;have r2:=zca D 2 rfl;have r3:=zca D 3 rfl;have r4:=zca D 4 rfl;have r5:=zca D 5 rfl;have r6:=zca D 6 rfl;have qf:∀o,Y.frozen? ⟨W,o,none⟩=false:=fun o=>zfr C o;have z1:=zlt C;have z2:=zlt D;clear S K C D e1 ef eb g1 gf gb d1 df;go_wp2_with fail;exact zng (v:=.agg #[F,E,X,H,V,.slice Q O P,B]) (by simp only[results,Tryz.results178];go_simp) rfl ⟨_,⟨F,E,⟨X,H,V,Q,O,P⟩,B⟩,rfl,zhd (by
   have K4:=ye6 Y W.heap.size 0 1 2 3 4 5 6 (.int .i64 F) (.bool E) (.int .i64 X) (.int .i64 H) (.string V) (.slice Q O P) (.int .i64 B);have KM:=HS.o.1.2.late (K4.mono (fun j _ e=>Nat.le_of_eq e.symm));have MM:=yfA HS.o.1.1 (S:=fun j=>j=W) (fun j e=>Nat.le_of_eq e.symm) (fun j e h=>by
    rcases MO.turned (v:=⟨ss,ic,ps,Ab,ts,.slice (some ⟨g,A,none⟩) s.acts.list.length cap,ls,ms⟩) (i0:=4) (fun i hi=>by
     match i with
     |0=>rfl
     |1=>rfl
     |2=>rfl
     |3=>first|rfl|exact absurd rfl hi
     |4=>first|rfl|exact absurd rfl hi
     |5=>rfl
     |6=>rfl
     |_+7=>rfl) h with h|h
    .have:=N.o.1.lt h;have e:j=W:=e;omega
    .have:=HS.o.2 j h;have e:j=W:=e;omega) K4
   exact⟨MM,KM,TF.step KM N.o.2.2.2.1⟩)⟩
theorem yaa {P:Program}{c:Code}{Q:Exit->Act->World->Prop}{a:Act}{W:World}(h:∀w,w=W->c.wp P Q a w):c.wp P Q a W:=h W rfl
theorem pop_len (s:MS):s.pop.stk.length<=s.stk.length:=by unfold MS.pop;simp
theorem yi4
  {Z:Nat->Prop}(b:Nat)(v:MV)(p:Img)(s:MS)(W:World)(M:MX TT Z W b v p s)
  (k:Int)(hk:s.stk.length<=4294967296)(hl:s.made.length<=4294967296)(hZ:∀j,W.heap.size<=j->Z j)(s':MS)
  (hs':s'=s.pop.push (yaM (!ycN s.top))):
  Calls Tryz.prog 164 #[.pointer (some ⟨b,0,none⟩),.agg #[.int .i64 10,k]] W (MP Z W b v p (.bool true) s')
  :=by
 obtain⟨T,E⟩:∃T,T=W.alloc (.cells #[.int .i64 10,k] 106):=⟨_,rfl⟩;have Y:=zba E;have c:=zha E;have r:=zhd (yai b v p s T (M.ext Y));have I:=zh7 M Y c hs' hk hl hZ;clear M Y c hs' hk hl hZ;go_in;go_wp2_with fail;rw[<-E];clear E;refine r.o.mono ?_;rintro e u ⟨a,⟨q,n,m,l,h,i⟩,rfl,O⟩;have A:=(O.o.2.1.keeps.block W (zlt I.o.2.2.1) (fun e=>by have:=I.o.1.lt e;omega)).trans I.o.2.2.1;have d0:=zca A 0 rfl;have d1:=zca A 1 rfl;have dl:=zlt A;have HB:=zhd A;clear A;go_upto_region 11 with(fail);refine yaa ?_;intro D G;have Q:=zba G;have H:=zha G;obtain⟨q0,z,y,x,l2⟩:=zq4 H;have t:=zhd H;have J:=zh3 Q (O.o.1.ext Q) (O.o.2.2.keep (S:=fun _=>False) (zkb Q) (fun _ _ f=>f));clear H Q G;have V:=I.o.2.2.2.1;have F:s.pop.stk.length<=4294967296:=znf (pop_len s) I.o.2.2.2.2.1;cases hr:ycN s.top
 all_goals
  rw[hr]at V;have TR:=zhd (yh5 s.top q n m l h i _ D.drew (J.o.2.2.keep (S:=fun _=>False) (zkb ((znv _ _).drew)) (fun _ _ f=>f)) _ hr);have X:=zhd (ybu (!(ycN s.top)));rw[hr]at X;have d:=zhd V;clear V hr
 .
  go_region_law (first
   |(go_simp;go_at_call 158;refine TR.o.mono ?_;rintro e w3 ⟨rfl,C⟩;have P:Below D D w3:=znw ((znv D.heap.size D).drew) C;have N:=zhd P;clear C P)
   |(go_simp;go_at_call 63;refine(X.o w3).mono ?_;rintro e R ⟨rfl,B⟩;have L:=zhd (N.o.trans (B.mono N.o.size));clear B)
   |(go_simp;go_at_call 119;refine(yaj b a p s.pop R (J.o.2.1.ext L.o) (yaM true) 1 _ ⟨#[]⟩ none 0 0 (ybg _ _ _) F).mono ?_;rintro e g ⟨U,rfl,K⟩))
  all_goals
   go_wp2;go_ret;exact⟨U,rfl,zhd ⟨by rw[d.o];exact K.o.1,(MK.ext I.o.2.1).trans (O.o.2.1.trans ((MK.ext (J.o.1.trans (L.o.mono J.o.1.size))).trans K.o.2))⟩⟩
 .
  go_region_law (first
   |(go_simp;go_at_call 158;refine TR.o.mono ?_;rintro e w3 ⟨rfl,C⟩;have P:Below D D w3:=znw ((znv D.heap.size D).drew) C;have N:=zhd P;clear C P)
   |(go_simp;go_at_call 63;refine(X.o w3).mono ?_;rintro e R ⟨rfl,B⟩;have L:=zhd (N.o.trans (B.mono N.o.size));clear B)
   |(go_simp;go_at_call 119;refine(yaj b a p s.pop R (J.o.2.1.ext L.o) (yaM false) 1 _ ⟨#[]⟩ none 0 0 (ybg _ _ _) F).mono ?_;rintro e g ⟨U,rfl,K⟩))
  all_goals
   go_wp2;go_ret;exact⟨U,rfl,zhd ⟨by rw[d.o];exact K.o.1,(MK.ext I.o.2.1).trans (O.o.2.1.trans ((MK.ext (J.o.1.trans (L.o.mono J.o.1.size))).trans K.o.2))⟩⟩
theorem ydI
  {Z:Nat->Prop}(b:Nat)(v:MV)(p:Img)(s:MS)(W:World)(M:MX TT Z W b v p s)
  (k:Int)(hk:s.stk.length<=4294967296)(hl:s.made.length<=4294967296)(hZ:∀j,W.heap.size<=j->Z j)(s':MS)
  (hx:s.top.kind=3)(hs':s'=s.pop.push (ybB s.top.list.length)):
  Calls Tryz.prog 164 #[.pointer (some ⟨b,0,none⟩),.agg #[.int .i64 31,k]] W (MP Z W b v p (.bool true) s')
  :=by
 obtain⟨J,B⟩:∃J,J=W.alloc (.cells #[.int .i64 31,k] 106):=⟨_,rfl⟩;have O:=zba B;have Q:=zha B;have c:=zhd (yai b v p s J (M.ext O));have E:=zh7 M O Q hs' hk hl hZ;clear M O Q hs' hk hl hZ;go_in;go_wp2_with fail;rw[<-B];clear B;refine c.o.mono ?_;rintro e i ⟨X,⟨a,cn,cs,u,K,t⟩,rfl,F⟩;have A:=(F.o.2.1.keeps.block W (zlt E.o.2.2.1) (fun e=>by have:=E.o.1.lt e;omega)).trans E.o.2.2.1;have d0:=zca A 0 rfl;have z:=zca A 1 rfl;have y:=zlt A;have HB:=zhd A;clear A;have G:s.pop.stk.length<=4294967296:=znf (pop_len s) E.o.2.2.2.2.1;have Y:(a==3)=true:=by rw[beq_iff_eq];exact F.o.2.2.kind.trans hx
 have L:=zhd (show K=s.top.list.length from F.o.2.2.l.elem.1);go_upto_region 17 with(fail);refine yaa ?_;intro P C;have I:=zba C;have D:=zha C;obtain⟨r,q,n,m,x⟩:=zq4 D;have g:=zhd D;have N:=zh3 I (F.o.1.ext I) (F.o.2.2.keep (S:=fun _=>False) (zkb I) (fun _ _ f=>f));clear D I C;have d:=zhd (show s'=s.pop.push (ybB K) by rw[L.o];exact E.o.2.2.2.1);clear hx;go_region_law (first
  |(go_simp;go_at_call 106;refine(ybh _ _).mono ?_;rintro e U ⟨rfl,H⟩;have T:=zhd (znw ((znv P.heap.size P).drew) H);clear H)
  |(go_simp;go_at_call 119;refine(yaj b X p s.pop U (N.o.2.1.ext T.o) (ybB K) 1 _ ⟨#[]⟩ none 0 0 (ycL _ _ _) G).mono ?_;rintro e h ⟨V,rfl,R⟩))
 all_goals
  go_wp2;go_ret;exact⟨V,rfl,zhd ⟨by rw[d.o];exact R.o.1,(MK.ext E.o.2.1).trans (F.o.2.1.trans ((MK.ext (N.o.1.trans (T.o.mono N.o.1.size))).trans R.o.2))⟩⟩
theorem ydH
  {Z:Nat->Prop}(b:Nat)(v:MV)(p:Img)(s:MS)(W:World)(M:MX TT Z W b v p s)
  (k:Int)(hk:s.stk.length<=4294967296)(hl:s.made.length<=4294967296)(hZ:∀j,W.heap.size<=j->Z j)(s':MS)
  (hx:s.top.kind=2)(hs':s'=s.pop.push (ybB s.top.txt.size)):
  Calls Tryz.prog 164 #[.pointer (some ⟨b,0,none⟩),.agg #[.int .i64 31,k]] W (MP Z W b v p (.bool true) s')
  :=by
 obtain⟨J,B⟩:∃J,J=W.alloc (.cells #[.int .i64 31,k] 106):=⟨_,rfl⟩;have P:=zba B;have R:=zha B;have d:=zhd (yai b v p s J (M.ext P));have F:=zh7 M P R hs' hk hl hZ;clear M P R hs' hk hl hZ;go_in;go_wp2_with fail;rw[<-B];clear B;refine d.o.mono ?_;rintro e l ⟨Y,⟨L,cn,K,x,t,u⟩,rfl,E⟩;have A:=(E.o.2.1.keeps.block W (zlt F.o.2.2.1) (fun e=>by have:=F.o.1.lt e;omega)).trans F.o.2.2.1;have d0:=zca A 0 rfl;have d1:=zca A 1 rfl;have z:=zlt A;have HB:=zhd A;clear A;have G:s.pop.stk.length<=4294967296:=znf (pop_len s) F.o.2.2.2.2.1;have c:(L==2)=true:=by rw[beq_iff_eq];exact E.o.2.2.kind.trans hx
 have a:(L==3)=false:=by rw[zna];have:L=2:=E.o.2.2.kind.trans hx;omega
 have N:=zhd (show K=s.top.txt from E.o.2.2.s);go_upto_region 19 with(fail);refine yaa ?_;intro Q C;have I:=zba C;have D:=zha C;obtain⟨r,q,n,m,y⟩:=zq4 D;have h:=zhd D;have O:=zh3 I (E.o.1.ext I) (E.o.2.2.keep (S:=fun _=>False) (zkb I) (fun _ _ f=>f));clear D I C;have g:=zhd (show s'=s.pop.push (ybB K.size) by rw[N.o];exact F.o.2.2.2.1);clear hx;go_region_law (first
  |(go_simp;go_at_call 106;refine(ybh _ _).mono ?_;rintro e V ⟨rfl,H⟩;have U:=zhd (znw ((znv Q.heap.size Q).drew) H);clear H)
  |(go_simp;go_at_call 119;refine(yaj b Y p s.pop V (O.o.2.1.ext U.o) (ybB K.size) 1 _ ⟨#[]⟩ none 0 0 (ycL _ _ _) G).mono ?_;rintro e i ⟨X,rfl,T⟩))
 all_goals
  go_wp2;go_ret;exact⟨X,rfl,zhd ⟨by rw[g.o];exact T.o.1,(MK.ext F.o.2.1).trans (E.o.2.1.trans ((MK.ext (O.o.1.trans (U.o.mono O.o.1.size))).trans T.o.2))⟩⟩
theorem ydJ
  {Z:Nat->Prop}(b:Nat)(v:MV)(p:Img)(s:MS)(W:World)(M:MX TT Z W b v p s)
  (k:Int)(hk:s.stk.length<=4294967296)(hl:s.made.length<=4294967296)(hZ:∀j,W.heap.size<=j->Z j)(s':MS)
  (hx3:¬s.top.kind=3)(hx2:¬s.top.kind=2)(hs':s'=s.pop.tType):
  Calls Tryz.prog 164 #[.pointer (some ⟨b,0,none⟩),.agg #[.int .i64 31,k]] W (MP Z W b v p (.bool true) s')
  :=by
 obtain⟨H,B⟩:∃H,H=W.alloc (.cells #[.int .i64 31,k] 106):=⟨_,rfl⟩;have K:=zba B;have L:=zha B;have R:=zhd (yai b v p s H (M.ext K));have C:=zh7 M K L hs' hk hl hZ;clear M K L hs' hk hl hZ;go_in;go_wp2_with fail;rw[<-B];clear B;refine R.o.mono ?_;rintro e X ⟨Q,⟨I,x,u,m,i,l⟩,rfl,F⟩;have A:=(F.o.2.1.keeps.block W (zlt C.o.2.2.1) (fun e=>by have:=C.o.1.lt e;omega)).trans C.o.2.2.1;have t:=zca A 0 rfl;have r:=zca A 1 rfl;have q:=zlt A;have y:=zhd A;clear A;have hk:I=s.top.kind:=F.o.2.2.kind;have g:(I==3)=false:=by rw[zna,hk];exact hx3
 have h:(I==2)=false:=by rw[zna,hk];exact hx2
 clear hk hx3 hx2;go_upto_region 15 with(fail);refine yaa ?_;intro O D;have G:=zba D;have E:=zha D;obtain⟨d,c,a,Y,n⟩:=zq4 E;have T:=zhd E;have J:=zh3 G (F.o.1.ext G) (F.o.2.2.keep (S:=fun _=>False) (zkb G) (fun _ _ f=>f));clear E G D;have U:=zhd (yau b Q p s.pop O J.o.2.1 ⟨#[116,121,112,101]⟩ (by decide) C.o.2.2.2.2.2.1 (yae C.o.2.2.2.2.2.2 (znf C.o.2.1.size (znf F.o.2.1.keeps.size J.o.1.size))) s' (C.o.2.2.2.1.symm));go_wp2_with fail;refine U.o.mono ?_;rintro e V ⟨P,rfl,N⟩;go_wp2;go_ret;exact⟨P,rfl,zhd ⟨N.o.1,(MK.ext C.o.2.1).trans (F.o.2.1.trans ((MK.ext J.o.1).trans N.o.2))⟩⟩
theorem yaW (s:MS):s.pop.pop.stk.length<=s.stk.length:=znf (pop_len _) (pop_len _)
theorem yg4
  {Z:Nat->Prop}(b:Nat)(v:MV)(p:Img)(s:MS)(W:World)(M:MX TT Z W b v p s)
  (k:Int)(hk:s.stk.length<=4294967296)(hl:s.made.length<=4294967296)(hZ:∀j,W.heap.size<=j->Z j)(s':MS)
  (hs':s'=s.pop.pop.push (yaM (cmpV s.pop.top s.top==0))):
  Calls Tryz.prog 164 #[.pointer (some ⟨b,0,none⟩),.agg #[.int .i64 8,k]] W (MP Z W b v p (.bool true) s')
  :=by
 obtain⟨n,J⟩:∃n,n=W.alloc (.cells #[.int .i64 8,k] 106):=⟨_,rfl⟩;have z:=zba J;have hB:=zha J;have PO:=zhd (yai b v p s n (M.ext z));have L:=zh7 M z hB hs' hk hl hZ;clear M z hB hs' hk hl hZ;go_in;go_wp2_with fail;rw[<-J];clear J;refine PO.o.mono ?_;rintro e m ⟨v1,⟨ck,cn,cs,la,ln,lc⟩,rfl,U⟩;have F:=(U.o.2.1.keeps.block W (zlt L.o.2.2.1) (fun e=>by have:=L.o.1.lt e;omega)).trans L.o.2.2.1;have u:=zca F 0 rfl;have d1:=zca F 1 rfl;have g:=zlt F;have HB:=zhd F;clear F;have x:=zhd (fun(X:World) (M2:MX TT Z X b v1 p s.pop)=>yai b v1 p s.pop X M2);go_wp2_with fail;obtain⟨X,I⟩:∃X,X=m.alloc (.cells #[ck,cn,cs,.slice la ln lc] 38):=⟨_,rfl⟩;have d:=zba I;have Y:=zha I;rw[<-I];have P:=zh5 d (U.o.1.ext d) (U.o.2.2.keep (S:=fun _=>False) (zkb d) (fun _ _ f=>f)) Y (d.block W g|>.trans HB.o);clear I d Y u d1 g;refine(x.o _ P.o.2.1).mono ?_;rintro e w3 ⟨r,⟨dk,dn,ds,ma,mn,mc⟩,rfl,T⟩;have B:=(T.o.2.1.keeps.block m (zlt P.o.2.2.2.1) (fun e=>by have:=U.o.1.lt e;omega)).trans P.o.2.2.2.1
 have E:=(T.o.2.1.keeps.block W (zlt P.o.2.2.2.2) (fun e=>by
  rcases U.o.2.1.own _ e with h|h
  .have:=L.o.1.lt h;omega
  .have:=zlt L.o.2.2.1;omega)).trans P.o.2.2.2.2
 obtain⟨w4,H⟩:∃w4,w4=w3.alloc (.cells #[dk,dn,ds,.slice ma mn mc] 38):=⟨_,rfl⟩;have Q:=zba H;have D:=zha H;have C:=(Q.block m (zlt B)).trans B;have N:=(Q.block W (zlt E)).trans E;have q0:=zca C 0 rfl;have q1:=zca C 1 rfl;have q2:=zca C 2 rfl;have q3:=zca C 3 rfl;have r0:=zca D 0 rfl;have r1:=zca D 1 rfl;have r2:=zca D 2 rfl;have r3:=zca D 3 rfl;have c0:=zca N 0 rfl;have u:=zca E 0 rfl;have x0:=zca B 0 rfl;have x1:=zca B 1 rfl;have x2:=zca B 2 rfl;have x3:=zca B 3 rfl;have xl:=zlt B;have g:=zlt E;have l4:=zlt D;have xl4:=zlt C;have Aa:=zlt N;have K4:MK b v W r w4:=(MK.ext L.o.2.1).trans (U.o.2.1.trans ((MK.ext P.o.1).trans (T.o.2.1.trans (MK.ext Q))));have R:=zh4 (T.o.1.ext Q) K4 ((CF.step T.o.2.1 P.o.2.2.1).step (MK.ext Q)) (T.o.2.2.step (MK.ext Q));have K:s.pop.pop.stk.length<=4294967296:=znf (yaW s) L.o.2.2.2.2.1;have t:=L.o.2.2.2.1;clear B E D C N Q K4;go_upto_region 22 with(fail);rw[<-H];clear H u x0 x1 x2 x3 xl g;go_upto_region 24 with(fail);cases hr:(cmpV s.pop.top s.top==0)
 all_goals
  rw[hr]at t;have i:=zhd (yfs s.pop.top s.top ⟨dk,dn,ds,ma,mn,mc⟩ ⟨ck,cn,cs,la,ln,lc⟩ _ _ w4.drew (R.o.2.2.2.keep (S:=fun _=>False) (zkb ((znv _ _).drew)) (fun _ _ f=>f)) (R.o.2.2.1.keep (S:=fun _=>False) (zkb ((znv _ _).drew)) (fun _ _ f=>f)) _ hr);have y:=zhd (ybu (cmpV s.pop.top s.top==0));rw[hr]at y;have HE:=zhd t;clear t hr
 .
  go_region_law (first
   |(go_simp;go_at_call 33;refine i.o.mono ?_;rintro e V ⟨rfl,A⟩;have O:=zhd (znw ((znv w4.heap.size w4).drew) A);clear A)
   |(go_simp;go_at_call 71;refine i.o.mono ?_;rintro e V ⟨rfl,A⟩;have O:=zhd (znw ((znv w4.heap.size w4).drew) A);clear A)
   |(go_simp;go_at_call 63;refine(y.o V).mono ?_;rintro e l ⟨rfl,G⟩;have c:=zhd (O.o.trans (G.mono O.o.size));clear G)
   |(go_simp;go_at_call 119;refine(yaj b r p s.pop.pop l (R.o.1.ext c.o) (yaM false) 1 _ ⟨#[]⟩ none 0 0 (ybg _ _ _) K).mono ?_;rintro e w7 ⟨q,rfl,a⟩))
  all_goals
   go_wp2;go_ret;exact⟨q,rfl,zhd ⟨by rw[HE.o];exact a.o.1,R.o.2.1.trans ((MK.ext c.o).trans a.o.2)⟩⟩
 .
  go_region_law (first
   |(go_simp;go_at_call 33;refine i.o.mono ?_;rintro e V ⟨rfl,A⟩;have O:=zhd (znw ((znv w4.heap.size w4).drew) A);clear A)
   |(go_simp;go_at_call 71;refine i.o.mono ?_;rintro e V ⟨rfl,A⟩;have O:=zhd (znw ((znv w4.heap.size w4).drew) A);clear A)
   |(go_simp;go_at_call 63;refine(y.o V).mono ?_;rintro e l ⟨rfl,G⟩;have c:=zhd (O.o.trans (G.mono O.o.size));clear G)
   |(go_simp;go_at_call 119;refine(yaj b r p s.pop.pop l (R.o.1.ext c.o) (yaM true) 1 _ ⟨#[]⟩ none 0 0 (ybg _ _ _) K).mono ?_;rintro e w7 ⟨q,rfl,a⟩))
  all_goals
   go_wp2;go_ret;exact⟨q,rfl,zhd ⟨by rw[HE.o];exact a.o.1,R.o.2.1.trans ((MK.ext c.o).trans a.o.2)⟩⟩
theorem yg6
  {Z:Nat->Prop}(b:Nat)(v:MV)(p:Img)(s:MS)(W:World)(M:MX TT Z W b v p s)
  (k:Int)(hk:s.stk.length<=4294967296)(hl:s.made.length<=4294967296)(hZ:∀j,W.heap.size<=j->Z j)(s':MS)
  (hs':s'=s.pop.pop.push (yaM (decide (cmpV s.pop.top s.top<0)))):
  Calls Tryz.prog 164 #[.pointer (some ⟨b,0,none⟩),.agg #[.int .i64 9,k]] W (MP Z W b v p (.bool true) s')
  :=by
 obtain⟨n,J⟩:∃n,n=W.alloc (.cells #[.int .i64 9,k] 106):=⟨_,rfl⟩;have B0:=zba J;have hB:=zha J;have PO:=zhd (yai b v p s n (M.ext B0));have L:=zh7 M B0 hB hs' hk hl hZ;clear M B0 hB hs' hk hl hZ;go_in;go_wp2_with fail;rw[<-J];clear J;refine PO.o.mono ?_;rintro e m ⟨v1,⟨ck,cn,cs,la,ln,lc⟩,rfl,U⟩;have F:=(U.o.2.1.keeps.block W (zlt L.o.2.2.1) (fun e=>by have:=L.o.1.lt e;omega)).trans L.o.2.2.1;have u:=zca F 0 rfl;have d1:=zca F 1 rfl;have g:=zlt F;have HB:=zhd F;clear F;have x:=zhd (fun(X:World) (M2:MX TT Z X b v1 p s.pop)=>yai b v1 p s.pop X M2);go_wp2_with fail;obtain⟨X,I⟩:∃X,X=m.alloc (.cells #[ck,cn,cs,.slice la ln lc] 38):=⟨_,rfl⟩;have d:=zba I;have Y:=zha I;rw[<-I];have P:=zh5 d (U.o.1.ext d) (U.o.2.2.keep (S:=fun _=>False) (zkb d) (fun _ _ f=>f)) Y (d.block W g|>.trans HB.o);clear I d Y u d1 g;refine(x.o _ P.o.2.1).mono ?_;rintro e w3 ⟨r,⟨dk,dn,ds,ma,mn,mc⟩,rfl,T⟩;have B:=(T.o.2.1.keeps.block m (zlt P.o.2.2.2.1) (fun e=>by have:=U.o.1.lt e;omega)).trans P.o.2.2.2.1
 have E:=(T.o.2.1.keeps.block W (zlt P.o.2.2.2.2) (fun e=>by
  rcases U.o.2.1.own _ e with h|h
  .have:=L.o.1.lt h;omega
  .have:=zlt L.o.2.2.1;omega)).trans P.o.2.2.2.2
 obtain⟨w4,H⟩:∃w4,w4=w3.alloc (.cells #[dk,dn,ds,.slice ma mn mc] 38):=⟨_,rfl⟩;have Q:=zba H;have D:=zha H;have C:=(Q.block m (zlt B)).trans B;have N:=(Q.block W (zlt E)).trans E;have q0:=zca C 0 rfl;have q1:=zca C 1 rfl;have q2:=zca C 2 rfl;have q3:=zca C 3 rfl;have r0:=zca D 0 rfl;have r1:=zca D 1 rfl;have r2:=zca D 2 rfl;have r3:=zca D 3 rfl;have c0:=zca N 0 rfl;have u:=zca E 0 rfl;have x0:=zca B 0 rfl;have x1:=zca B 1 rfl;have x2:=zca B 2 rfl;have x3:=zca B 3 rfl;have xl:=zlt B;have g:=zlt E;have l4:=zlt D;have xl4:=zlt C;have Aa:=zlt N;have K4:MK b v W r w4:=(MK.ext L.o.2.1).trans (U.o.2.1.trans ((MK.ext P.o.1).trans (T.o.2.1.trans (MK.ext Q))));have R:=zh4 (T.o.1.ext Q) K4 ((CF.step T.o.2.1 P.o.2.2.1).step (MK.ext Q)) (T.o.2.2.step (MK.ext Q));have K:s.pop.pop.stk.length<=4294967296:=znf (yaW s) L.o.2.2.2.2.1;have t:=L.o.2.2.2.1;clear B E D C N Q K4;go_upto_region 22 with(fail);rw[<-H];clear H u x0 x1 x2 x3 xl g;go_upto_region 27 with(fail)
 have i:=zhd (ycV (s.pop.top).parts s.pop.top (znc _) s.top ⟨dk,dn,ds,ma,mn,mc⟩ ⟨ck,cn,cs,la,ln,lc⟩ _ _ w4.drew (R.o.2.2.2.keep (S:=fun _=>False) (zkb ((znv _ _).drew)) (fun _ _ f=>f)) (R.o.2.2.1.keep (S:=fun _=>False) (zkb ((znv _ _).drew)) (fun _ _ f=>f)));generalize cmpV s.pop.top s.top=z at*;have y:=zhd (ybu (decide (z<0)));cases hr:decide (z<0)
 all_goals
  rw[hr]at t y;have HE:=zhd t;clear t
 .
  go_region_law (first
   |(go_simp;go_at_call 33;refine i.o.mono ?_;rintro e V ⟨rfl,A⟩;have O:=zhd (znw ((znv w4.heap.size w4).drew) A);clear A)
   |(go_simp;go_at_call 71;refine i.o.mono ?_;rintro e V ⟨rfl,A⟩;have O:=zhd (znw ((znv w4.heap.size w4).drew) A);clear A)
   |(go_simp;go_at_call 63;refine(y.o V).mono ?_;rintro e l ⟨rfl,G⟩;have c:=zhd (O.o.trans (G.mono O.o.size));clear G)
   |(go_simp;go_at_call 119;refine(yaj b r p s.pop.pop l (R.o.1.ext c.o) (yaM false) 1 _ ⟨#[]⟩ none 0 0 (ybg _ _ _) K).mono ?_;rintro e w7 ⟨q,rfl,a⟩))
  all_goals
   go_wp2;go_ret;exact⟨q,rfl,zhd ⟨by rw[HE.o];exact a.o.1,R.o.2.1.trans ((MK.ext c.o).trans a.o.2)⟩⟩
 .
  go_region_law (first
   |(go_simp;go_at_call 33;refine i.o.mono ?_;rintro e V ⟨rfl,A⟩;have O:=zhd (znw ((znv w4.heap.size w4).drew) A);clear A)
   |(go_simp;go_at_call 71;refine i.o.mono ?_;rintro e V ⟨rfl,A⟩;have O:=zhd (znw ((znv w4.heap.size w4).drew) A);clear A)
   |(go_simp;go_at_call 63;refine(y.o V).mono ?_;rintro e l ⟨rfl,G⟩;have c:=zhd (O.o.trans (G.mono O.o.size));clear G)
   |(go_simp;go_at_call 119;refine(yaj b r p s.pop.pop l (R.o.1.ext c.o) (yaM true) 1 _ ⟨#[]⟩ none 0 0 (ybg _ _ _) K).mono ?_;rintro e w7 ⟨q,rfl,a⟩))
  all_goals
   go_wp2;go_ret;exact⟨q,rfl,zhd ⟨by rw[HE.o];exact a.o.1,R.o.2.1.trans ((MK.ext c.o).trans a.o.2)⟩⟩
theorem yg9
  {Z:Nat->Prop}(b:Nat)(v:MV)(p:Img)(s:MS)(W:World)(M:MX TT Z W b v p s)
  (k:Int)(hk:s.stk.length<=4294967296)(hl:s.made.length<=4294967296)(hZ:∀j,W.heap.size<=j->Z j)(s':MS)
  (hx:¬s.pop.top.kind=1\/¬s.top.kind=1)(hs':s'=s.pop.pop.tType):
  Calls Tryz.prog 164 #[.pointer (some ⟨b,0,none⟩),.agg #[.int .i64 5,k]] W (MP Z W b v p (.bool true) s')
  :=by
 obtain⟨g,I⟩:∃g,g=W.alloc (.cells #[.int .i64 5,k] 106):=⟨_,rfl⟩;have t:=zba I;have z:=zha I;have PO:=zhd (yai b v p s g (M.ext t));have D:=zh7 M t z hs' hk hl hZ;clear M t z hs' hk hl hZ;go_in;go_wp2_with fail;rw[<-I];clear I;refine PO.o.mono ?_;rintro e d ⟨u,⟨c,cn,cs,la,ln,lc⟩,rfl,T⟩;have F:=(T.o.2.1.keeps.block W (zlt D.o.2.2.1) (fun e=>by have:=D.o.1.lt e;omega)).trans D.o.2.2.1;have n:=zca F 0 rfl;have d1:=zca F 1 rfl;have a:=zlt F;have HB:=zhd F;clear F;have q:=zhd (fun(U:World) (M2:MX TT Z U b u p s.pop)=>yai b u p s.pop U M2);go_wp2_with fail;obtain⟨U,H⟩:∃U,U=d.alloc (.cells #[c,cn,cs,.slice la ln lc] 38):=⟨_,rfl⟩;have Y:=zba H;have V:=zha H;rw[<-H];have O:=zh5 Y (T.o.1.ext Y) (T.o.2.2.keep (S:=fun _=>False) (zkb Y) (fun _ _ f=>f)) V (Y.block W a|>.trans HB.o);clear H Y V n d1 a;refine(q.o _ O.o.2.1).mono ?_;rintro e w3 ⟨l,⟨Q,dn,ds,ma,mn,mc⟩,rfl,R⟩;have A:=(R.o.2.1.keeps.block d (zlt O.o.2.2.2.1) (fun e=>by have:=T.o.1.lt e;omega)).trans O.o.2.2.2.1
 have E:=(R.o.2.1.keeps.block W (zlt O.o.2.2.2.2) (fun e=>by
  rcases T.o.2.1.own _ e with h|h
  .have:=D.o.1.lt h;omega
  .have:=zlt D.o.2.2.1;omega)).trans O.o.2.2.2.2
 obtain⟨w4,G⟩:∃w4,w4=w3.alloc (.cells #[Q,dn,ds,.slice ma mn mc] 38):=⟨_,rfl⟩;have P:=zba G;have C:=zha G;have B:=(P.block d (zlt A)).trans A;have N:=(P.block W (zlt E)).trans E;have q0:=zca B 0 rfl;have q1:=zca B 1 rfl;have q2:=zca B 2 rfl;have q3:=zca B 3 rfl;have r0:=zca C 0 rfl;have r1:=zca C 1 rfl;have r2:=zca C 2 rfl;have r3:=zca C 3 rfl;have c0:=zca N 0 rfl;have n:=zca E 0 rfl;have x0:=zca A 0 rfl;have x1:=zca A 1 rfl;have x2:=zca A 2 rfl;have x3:=zca A 3 rfl;have xl:=zlt A;have a:=zlt E;have l4:=zlt C;have xl4:=zlt B;have Aa:=zlt N;have K4:MK b v W l w4:=(MK.ext D.o.2.1).trans (T.o.2.1.trans ((MK.ext O.o.1).trans (R.o.2.1.trans (MK.ext P))));have K:=zh4 (R.o.1.ext P) K4 ((CF.step R.o.2.1 O.o.2.2.1).step (MK.ext P)) (R.o.2.2.step (MK.ext P));have x:s.pop.pop.stk.length<=4294967296:=znf (yaW s) D.o.2.2.2.2.1;have y:=D.o.2.2.2.1;clear A E C B N P K4;go_upto_region 22 with(fail);rw[<-G];clear G n x0 x1 x2 x3 xl a;have J:Q=s.pop.top.kind:=K.o.2.2.2.kind;have L:c=s.top.kind:=K.o.2.2.1.kind
 by_cases h1:s.pop.top.kind=1
 .have m:(Q==1)=true:=by rw[beq_iff_eq,J];exact h1
  have n2:(c==1)=false:=by rw[zna,L];exact hx.resolve_left (fun h=>h h1)
  have n3:(Q !=1)=false:=by rw[bne,m];rfl
  have n4:(c !=1)=true:=by rw[bne,n2];rfl
  clear J L h1 hx;have r:=zhd (yau b l p s.pop.pop w4 K.o.1 ⟨#[116,121,112,101]⟩ (by decide) D.o.2.2.2.2.2.1 (yae D.o.2.2.2.2.2.2 K.o.2.1.keeps.size) s' (y.symm));go_wp2_with fail;refine r.o.mono ?_;rintro e w5 ⟨i,rfl,X⟩;go_wp2;go_ret;exact⟨i,rfl,zhd ⟨X.o.1,K.o.2.1.trans X.o.2⟩⟩
 .have m:(Q==1)=false:=by rw[zna,J];exact h1
  have n3:(Q !=1)=true:=by rw[bne,m];rfl
  clear J L h1 hx;have r:=zhd (yau b l p s.pop.pop w4 K.o.1 ⟨#[116,121,112,101]⟩ (by decide) D.o.2.2.2.2.2.1 (yae D.o.2.2.2.2.2.2 K.o.2.1.keeps.size) s' (y.symm));go_wp2_with fail;refine r.o.mono ?_;rintro e w5 ⟨i,rfl,X⟩;go_wp2;go_ret;exact⟨i,rfl,zhd ⟨X.o.1,K.o.2.1.trans X.o.2⟩⟩
theorem yi7
  {Z:Nat->Prop}(b:Nat)(v:MV)(p:Img)(s:MS)(W:World)(M:MX TT Z W b v p s)
  (k:Int)(hk:s.stk.length<=4294967296)(hl:s.made.length<=4294967296)(hZ:∀j,W.heap.size<=j->Z j)(s':MS)
  (ha:s.pop.top.kind=1)(hb:s.top.kind=1)(hs':s'=s.pop.pop.push (ybB (wrap64 (s.pop.top.num+s.top.num)))):
  Calls Tryz.prog 164 #[.pointer (some ⟨b,0,none⟩),.agg #[.int .i64 5,k]] W (MP Z W b v p (.bool true) s')
  :=by
 obtain⟨i,H⟩:∃i,i=W.alloc (.cells #[.int .i64 5,k] 106):=⟨_,rfl⟩;have r:=zba H;have x:=zha H;have PO:=zhd (yai b v p s i (M.ext r));have I:=zh7 M r x hs' hk hl hZ;clear M r x hs' hk hl hZ;go_in;go_wp2_with fail;rw[<-H];clear H;refine PO.o.mono ?_;rintro e g ⟨u,⟨z,d,cs,la,ln,lc⟩,rfl,P⟩;have E:=(P.o.2.1.keeps.block W (zlt I.o.2.2.1) (fun e=>by have:=I.o.1.lt e;omega)).trans I.o.2.2.1;have m:=zca E 0 rfl;have d1:=zca E 1 rfl;have c:=zlt E;have HB:=zhd E;clear E;have q:=zhd (fun(Q:World) (M2:MX TT Z Q b u p s.pop)=>yai b u p s.pop Q M2);go_wp2_with fail;obtain⟨Q,G⟩:∃Q,Q=g.alloc (.cells #[z,d,cs,.slice la ln lc] 38):=⟨_,rfl⟩;have Y:=zba G;have V:=zha G;rw[<-G];have K:=zh5 Y (P.o.1.ext Y) (P.o.2.2.keep (S:=fun _=>False) (zkb Y) (fun _ _ f=>f)) V (Y.block W c|>.trans HB.o);clear G Y V m d1 c;refine(q.o _ K.o.2.1).mono ?_;rintro e w3 ⟨t,⟨y,a,ds,ma,mn,mc⟩,rfl,O⟩;have A:=(O.o.2.1.keeps.block g (zlt K.o.2.2.2.1) (fun e=>by have:=P.o.1.lt e;omega)).trans K.o.2.2.2.1
 have D:=(O.o.2.1.keeps.block W (zlt K.o.2.2.2.2) (fun e=>by
  rcases P.o.2.1.own _ e with h|h
  .have:=I.o.1.lt h;omega
  .have:=zlt I.o.2.2.1;omega)).trans K.o.2.2.2.2
 obtain⟨w4,F⟩:∃w4,w4=w3.alloc (.cells #[y,a,ds,.slice ma mn mc] 38):=⟨_,rfl⟩;have L:=zba F;have C:=zha F;have B:=(L.block g (zlt A)).trans A;have J:=(L.block W (zlt D)).trans D;have q0:=zca B 0 rfl;have q1:=zca B 1 rfl;have q2:=zca B 2 rfl;have q3:=zca B 3 rfl;have r0:=zca C 0 rfl;have r1:=zca C 1 rfl;have r2:=zca C 2 rfl;have r3:=zca C 3 rfl;have c0:=zca J 0 rfl;have m:=zca D 0 rfl;have x0:=zca A 0 rfl;have x1:=zca A 1 rfl;have x2:=zca A 2 rfl;have x3:=zca A 3 rfl;have xl:=zlt A;have c:=zlt D;have l4:=zlt C;have xl4:=zlt B;have Aa:=zlt J;have K4:MK b v W t w4:=(MK.ext I.o.2.1).trans (P.o.2.1.trans ((MK.ext K.o.1).trans (O.o.2.1.trans (MK.ext L))));have N:=zh4 (O.o.1.ext L) K4 ((CF.step O.o.2.1 K.o.2.2.1).step (MK.ext L)) (O.o.2.2.step (MK.ext L));have U:s.pop.pop.stk.length<=4294967296:=znf (yaW s) I.o.2.2.2.2.1;have l:=I.o.2.2.2.1;clear A D C B J L K4;go_upto_region 22 with(fail);rw[<-F];clear F m x0 x1 x2 x3 xl c;obtain rfl:y=1:=N.o.2.2.2.kind.trans ha;obtain rfl:z=1:=N.o.2.2.1.kind.trans hb
 have R:a=s.pop.top.num:=N.o.2.2.2.n;have T:d=s.top.num:=N.o.2.2.1.n;rw[<-R,<-T]at l;have HE:=zhd (show s'=s.pop.pop.push (ybB (IntKind.i64.wrap (a+d))) by rw[l,IntKind.wrap_i64];unfold wrap64;rfl);clear R T ha hb l;go_upto_region 48 with(fail);go_region_law (first
  |(go_simp;go_at_call 106;refine(ybh _ _).mono ?_;rintro e w6 ⟨rfl,X⟩;have H6:=zhd (znw ((znv w4.heap.size w4).drew) X);clear X)
  |(go_simp;go_at_call 119;refine(yaj b t p s.pop.pop w6 (N.o.1.ext H6.o) (ybB (IntKind.i64.wrap (a+d))) 1 _ ⟨#[]⟩ none 0 0 (ycL _ _ _) U).mono ?_;rintro e w7 ⟨v7,rfl,H7⟩))
 all_goals
  go_wp2;go_ret;exact⟨v7,rfl,zhd ⟨by rw[HE.o];exact H7.o.1,N.o.2.1.trans ((MK.ext H6.o).trans H7.o.2)⟩⟩
theorem yg8
  {Z:Nat->Prop}(b:Nat)(v:MV)(p:Img)(s:MS)(W:World)(M:MX TT Z W b v p s)
  (k:Int)(hk:s.stk.length<=4294967296)(hl:s.made.length<=4294967296)(hZ:∀j,W.heap.size<=j->Z j)(s':MS)
  (hx:¬s.pop.top.kind=1\/¬s.top.kind=1)(hs':s'=s.pop.pop.tType):
  Calls Tryz.prog 164 #[.pointer (some ⟨b,0,none⟩),.agg #[.int .i64 6,k]] W (MP Z W b v p (.bool true) s')
  :=by
 obtain⟨g,I⟩:∃g,g=W.alloc (.cells #[.int .i64 6,k] 106):=⟨_,rfl⟩;have t:=zba I;have z:=zha I;have PO:=zhd (yai b v p s g (M.ext t));have D:=zh7 M t z hs' hk hl hZ;clear M t z hs' hk hl hZ;go_in;go_wp2_with fail;rw[<-I];clear I;refine PO.o.mono ?_;rintro e d ⟨u,⟨c,cn,cs,la,ln,lc⟩,rfl,T⟩;have F:=(T.o.2.1.keeps.block W (zlt D.o.2.2.1) (fun e=>by have:=D.o.1.lt e;omega)).trans D.o.2.2.1;have n:=zca F 0 rfl;have d1:=zca F 1 rfl;have a:=zlt F;have HB:=zhd F;clear F;have q:=zhd (fun(U:World) (M2:MX TT Z U b u p s.pop)=>yai b u p s.pop U M2);go_wp2_with fail;obtain⟨U,H⟩:∃U,U=d.alloc (.cells #[c,cn,cs,.slice la ln lc] 38):=⟨_,rfl⟩;have Y:=zba H;have V:=zha H;rw[<-H];have O:=zh5 Y (T.o.1.ext Y) (T.o.2.2.keep (S:=fun _=>False) (zkb Y) (fun _ _ f=>f)) V (Y.block W a|>.trans HB.o);clear H Y V n d1 a;refine(q.o _ O.o.2.1).mono ?_;rintro e w3 ⟨l,⟨Q,dn,ds,ma,mn,mc⟩,rfl,R⟩;have A:=(R.o.2.1.keeps.block d (zlt O.o.2.2.2.1) (fun e=>by have:=T.o.1.lt e;omega)).trans O.o.2.2.2.1
 have E:=(R.o.2.1.keeps.block W (zlt O.o.2.2.2.2) (fun e=>by
  rcases T.o.2.1.own _ e with h|h
  .have:=D.o.1.lt h;omega
  .have:=zlt D.o.2.2.1;omega)).trans O.o.2.2.2.2
 obtain⟨w4,G⟩:∃w4,w4=w3.alloc (.cells #[Q,dn,ds,.slice ma mn mc] 38):=⟨_,rfl⟩;have P:=zba G;have C:=zha G;have B:=(P.block d (zlt A)).trans A;have N:=(P.block W (zlt E)).trans E;have q0:=zca B 0 rfl;have q1:=zca B 1 rfl;have q2:=zca B 2 rfl;have q3:=zca B 3 rfl;have r0:=zca C 0 rfl;have r1:=zca C 1 rfl;have r2:=zca C 2 rfl;have r3:=zca C 3 rfl;have c0:=zca N 0 rfl;have n:=zca E 0 rfl;have x0:=zca A 0 rfl;have x1:=zca A 1 rfl;have x2:=zca A 2 rfl;have x3:=zca A 3 rfl;have xl:=zlt A;have a:=zlt E;have l4:=zlt C;have xl4:=zlt B;have Aa:=zlt N;have K4:MK b v W l w4:=(MK.ext D.o.2.1).trans (T.o.2.1.trans ((MK.ext O.o.1).trans (R.o.2.1.trans (MK.ext P))));have K:=zh4 (R.o.1.ext P) K4 ((CF.step R.o.2.1 O.o.2.2.1).step (MK.ext P)) (R.o.2.2.step (MK.ext P));have x:s.pop.pop.stk.length<=4294967296:=znf (yaW s) D.o.2.2.2.2.1;have y:=D.o.2.2.2.1;clear A E C B N P K4;go_upto_region 22 with(fail);rw[<-G];clear G n x0 x1 x2 x3 xl a;have J:Q=s.pop.top.kind:=K.o.2.2.2.kind;have L:c=s.top.kind:=K.o.2.2.1.kind
 by_cases h1:s.pop.top.kind=1
 .have m:(Q==1)=true:=by rw[beq_iff_eq,J];exact h1
  have n2:(c==1)=false:=by rw[zna,L];exact hx.resolve_left (fun h=>h h1)
  have n3:(Q !=1)=false:=by rw[bne,m];rfl
  have n4:(c !=1)=true:=by rw[bne,n2];rfl
  clear J L h1 hx;have r:=zhd (yau b l p s.pop.pop w4 K.o.1 ⟨#[116,121,112,101]⟩ (by decide) D.o.2.2.2.2.2.1 (yae D.o.2.2.2.2.2.2 K.o.2.1.keeps.size) s' (y.symm));go_wp2_with fail;refine r.o.mono ?_;rintro e w5 ⟨i,rfl,X⟩;go_wp2;go_ret;exact⟨i,rfl,zhd ⟨X.o.1,K.o.2.1.trans X.o.2⟩⟩
 .have m:(Q==1)=false:=by rw[zna,J];exact h1
  have n3:(Q !=1)=true:=by rw[bne,m];rfl
  clear J L h1 hx;have r:=zhd (yau b l p s.pop.pop w4 K.o.1 ⟨#[116,121,112,101]⟩ (by decide) D.o.2.2.2.2.2.1 (yae D.o.2.2.2.2.2.2 K.o.2.1.keeps.size) s' (y.symm));go_wp2_with fail;refine r.o.mono ?_;rintro e w5 ⟨i,rfl,X⟩;go_wp2;go_ret;exact⟨i,rfl,zhd ⟨X.o.1,K.o.2.1.trans X.o.2⟩⟩
theorem yi6
  {Z:Nat->Prop}(b:Nat)(v:MV)(p:Img)(s:MS)(W:World)(M:MX TT Z W b v p s)
  (k:Int)(hk:s.stk.length<=4294967296)(hl:s.made.length<=4294967296)(hZ:∀j,W.heap.size<=j->Z j)(s':MS)
  (ha:s.pop.top.kind=1)(hb:s.top.kind=1)(hs':s'=s.pop.pop.push (ybB (wrap64 (s.pop.top.num - s.top.num)))):
  Calls Tryz.prog 164 #[.pointer (some ⟨b,0,none⟩),.agg #[.int .i64 6,k]] W (MP Z W b v p (.bool true) s')
  :=by
 obtain⟨i,H⟩:∃i,i=W.alloc (.cells #[.int .i64 6,k] 106):=⟨_,rfl⟩;have r:=zba H;have x:=zha H;have PO:=zhd (yai b v p s i (M.ext r));have I:=zh7 M r x hs' hk hl hZ;clear M r x hs' hk hl hZ;go_in;go_wp2_with fail;rw[<-H];clear H;refine PO.o.mono ?_;rintro e g ⟨u,⟨z,d,cs,la,ln,lc⟩,rfl,P⟩;have E:=(P.o.2.1.keeps.block W (zlt I.o.2.2.1) (fun e=>by have:=I.o.1.lt e;omega)).trans I.o.2.2.1;have m:=zca E 0 rfl;have d1:=zca E 1 rfl;have c:=zlt E;have HB:=zhd E;clear E;have q:=zhd (fun(Q:World) (M2:MX TT Z Q b u p s.pop)=>yai b u p s.pop Q M2);go_wp2_with fail;obtain⟨Q,G⟩:∃Q,Q=g.alloc (.cells #[z,d,cs,.slice la ln lc] 38):=⟨_,rfl⟩;have Y:=zba G;have V:=zha G;rw[<-G];have K:=zh5 Y (P.o.1.ext Y) (P.o.2.2.keep (S:=fun _=>False) (zkb Y) (fun _ _ f=>f)) V (Y.block W c|>.trans HB.o);clear G Y V m d1 c;refine(q.o _ K.o.2.1).mono ?_;rintro e w3 ⟨t,⟨y,a,ds,ma,mn,mc⟩,rfl,O⟩;have A:=(O.o.2.1.keeps.block g (zlt K.o.2.2.2.1) (fun e=>by have:=P.o.1.lt e;omega)).trans K.o.2.2.2.1
 have D:=(O.o.2.1.keeps.block W (zlt K.o.2.2.2.2) (fun e=>by
  rcases P.o.2.1.own _ e with h|h
  .have:=I.o.1.lt h;omega
  .have:=zlt I.o.2.2.1;omega)).trans K.o.2.2.2.2
 obtain⟨w4,F⟩:∃w4,w4=w3.alloc (.cells #[y,a,ds,.slice ma mn mc] 38):=⟨_,rfl⟩;have L:=zba F;have C:=zha F;have B:=(L.block g (zlt A)).trans A;have J:=(L.block W (zlt D)).trans D;have q0:=zca B 0 rfl;have q1:=zca B 1 rfl;have q2:=zca B 2 rfl;have q3:=zca B 3 rfl;have r0:=zca C 0 rfl;have r1:=zca C 1 rfl;have r2:=zca C 2 rfl;have r3:=zca C 3 rfl;have c0:=zca J 0 rfl;have m:=zca D 0 rfl;have x0:=zca A 0 rfl;have x1:=zca A 1 rfl;have x2:=zca A 2 rfl;have x3:=zca A 3 rfl;have xl:=zlt A;have c:=zlt D;have l4:=zlt C;have xl4:=zlt B;have Aa:=zlt J;have K4:MK b v W t w4:=(MK.ext I.o.2.1).trans (P.o.2.1.trans ((MK.ext K.o.1).trans (O.o.2.1.trans (MK.ext L))));have N:=zh4 (O.o.1.ext L) K4 ((CF.step O.o.2.1 K.o.2.2.1).step (MK.ext L)) (O.o.2.2.step (MK.ext L));have U:s.pop.pop.stk.length<=4294967296:=znf (yaW s) I.o.2.2.2.2.1;have l:=I.o.2.2.2.1;clear A D C B J L K4;go_upto_region 22 with(fail);rw[<-F];clear F m x0 x1 x2 x3 xl c;obtain rfl:y=1:=N.o.2.2.2.kind.trans ha;obtain rfl:z=1:=N.o.2.2.1.kind.trans hb
 have R:a=s.pop.top.num:=N.o.2.2.2.n;have T:d=s.top.num:=N.o.2.2.1.n;rw[<-R,<-T]at l;have HE:=zhd (show s'=s.pop.pop.push (ybB (IntKind.i64.wrap (a - d))) by rw[l,IntKind.wrap_i64];unfold wrap64;rfl);clear R T ha hb l;go_upto_region 50 with(fail);go_region_law (first
  |(go_simp;go_at_call 106;refine(ybh _ _).mono ?_;rintro e w6 ⟨rfl,X⟩;have H6:=zhd (znw ((znv w4.heap.size w4).drew) X);clear X)
  |(go_simp;go_at_call 119;refine(yaj b t p s.pop.pop w6 (N.o.1.ext H6.o) (ybB (IntKind.i64.wrap (a - d))) 1 _ ⟨#[]⟩ none 0 0 (ycL _ _ _) U).mono ?_;rintro e w7 ⟨v7,rfl,H7⟩))
 all_goals
  go_wp2;go_ret;exact⟨v7,rfl,zhd ⟨by rw[HE.o];exact H7.o.1,N.o.2.1.trans ((MK.ext H6.o).trans H7.o.2)⟩⟩
theorem yg7
  {Z:Nat->Prop}(b:Nat)(v:MV)(p:Img)(s:MS)(W:World)(M:MX TT Z W b v p s)
  (k:Int)(hk:s.stk.length<=4294967296)(hl:s.made.length<=4294967296)(hZ:∀j,W.heap.size<=j->Z j)(s':MS)
  (hx:¬s.pop.top.kind=1\/¬s.top.kind=1)(hs':s'=s.pop.pop.tType):
  Calls Tryz.prog 164 #[.pointer (some ⟨b,0,none⟩),.agg #[.int .i64 7,k]] W (MP Z W b v p (.bool true) s')
  :=by
 obtain⟨g,I⟩:∃g,g=W.alloc (.cells #[.int .i64 7,k] 106):=⟨_,rfl⟩;have t:=zba I;have z:=zha I;have PO:=zhd (yai b v p s g (M.ext t));have D:=zh7 M t z hs' hk hl hZ;clear M t z hs' hk hl hZ;go_in;go_wp2_with fail;rw[<-I];clear I;refine PO.o.mono ?_;rintro e d ⟨u,⟨c,cn,cs,la,ln,lc⟩,rfl,T⟩;have F:=(T.o.2.1.keeps.block W (zlt D.o.2.2.1) (fun e=>by have:=D.o.1.lt e;omega)).trans D.o.2.2.1;have n:=zca F 0 rfl;have d1:=zca F 1 rfl;have a:=zlt F;have HB:=zhd F;clear F;have q:=zhd (fun(U:World) (M2:MX TT Z U b u p s.pop)=>yai b u p s.pop U M2);go_wp2_with fail;obtain⟨U,H⟩:∃U,U=d.alloc (.cells #[c,cn,cs,.slice la ln lc] 38):=⟨_,rfl⟩;have Y:=zba H;have V:=zha H;rw[<-H];have O:=zh5 Y (T.o.1.ext Y) (T.o.2.2.keep (S:=fun _=>False) (zkb Y) (fun _ _ f=>f)) V (Y.block W a|>.trans HB.o);clear H Y V n d1 a;refine(q.o _ O.o.2.1).mono ?_;rintro e w3 ⟨l,⟨Q,dn,ds,ma,mn,mc⟩,rfl,R⟩;have A:=(R.o.2.1.keeps.block d (zlt O.o.2.2.2.1) (fun e=>by have:=T.o.1.lt e;omega)).trans O.o.2.2.2.1
 have E:=(R.o.2.1.keeps.block W (zlt O.o.2.2.2.2) (fun e=>by
  rcases T.o.2.1.own _ e with h|h
  .have:=D.o.1.lt h;omega
  .have:=zlt D.o.2.2.1;omega)).trans O.o.2.2.2.2
 obtain⟨w4,G⟩:∃w4,w4=w3.alloc (.cells #[Q,dn,ds,.slice ma mn mc] 38):=⟨_,rfl⟩;have P:=zba G;have C:=zha G;have B:=(P.block d (zlt A)).trans A;have N:=(P.block W (zlt E)).trans E;have q0:=zca B 0 rfl;have q1:=zca B 1 rfl;have q2:=zca B 2 rfl;have q3:=zca B 3 rfl;have r0:=zca C 0 rfl;have r1:=zca C 1 rfl;have r2:=zca C 2 rfl;have r3:=zca C 3 rfl;have c0:=zca N 0 rfl;have n:=zca E 0 rfl;have x0:=zca A 0 rfl;have x1:=zca A 1 rfl;have x2:=zca A 2 rfl;have x3:=zca A 3 rfl;have xl:=zlt A;have a:=zlt E;have l4:=zlt C;have xl4:=zlt B;have Aa:=zlt N;have K4:MK b v W l w4:=(MK.ext D.o.2.1).trans (T.o.2.1.trans ((MK.ext O.o.1).trans (R.o.2.1.trans (MK.ext P))));have K:=zh4 (R.o.1.ext P) K4 ((CF.step R.o.2.1 O.o.2.2.1).step (MK.ext P)) (R.o.2.2.step (MK.ext P));have x:s.pop.pop.stk.length<=4294967296:=znf (yaW s) D.o.2.2.2.2.1;have y:=D.o.2.2.2.1;clear A E C B N P K4;go_upto_region 22 with(fail);rw[<-G];clear G n x0 x1 x2 x3 xl a;have J:Q=s.pop.top.kind:=K.o.2.2.2.kind;have L:c=s.top.kind:=K.o.2.2.1.kind
 by_cases h1:s.pop.top.kind=1
 .have m:(Q==1)=true:=by rw[beq_iff_eq,J];exact h1
  have n2:(c==1)=false:=by rw[zna,L];exact hx.resolve_left (fun h=>h h1)
  have n3:(Q !=1)=false:=by rw[bne,m];rfl
  have n4:(c !=1)=true:=by rw[bne,n2];rfl
  clear J L h1 hx;have r:=zhd (yau b l p s.pop.pop w4 K.o.1 ⟨#[116,121,112,101]⟩ (by decide) D.o.2.2.2.2.2.1 (yae D.o.2.2.2.2.2.2 K.o.2.1.keeps.size) s' (y.symm));go_wp2_with fail;refine r.o.mono ?_;rintro e w5 ⟨i,rfl,X⟩;go_wp2;go_ret;exact⟨i,rfl,zhd ⟨X.o.1,K.o.2.1.trans X.o.2⟩⟩
 .have m:(Q==1)=false:=by rw[zna,J];exact h1
  have n3:(Q !=1)=true:=by rw[bne,m];rfl
  clear J L h1 hx;have r:=zhd (yau b l p s.pop.pop w4 K.o.1 ⟨#[116,121,112,101]⟩ (by decide) D.o.2.2.2.2.2.1 (yae D.o.2.2.2.2.2.2 K.o.2.1.keeps.size) s' (y.symm));go_wp2_with fail;refine r.o.mono ?_;rintro e w5 ⟨i,rfl,X⟩;go_wp2;go_ret;exact⟨i,rfl,zhd ⟨X.o.1,K.o.2.1.trans X.o.2⟩⟩
theorem yi5
  {Z:Nat->Prop}(b:Nat)(v:MV)(p:Img)(s:MS)(W:World)(M:MX TT Z W b v p s)
  (k:Int)(hk:s.stk.length<=4294967296)(hl:s.made.length<=4294967296)(hZ:∀j,W.heap.size<=j->Z j)(s':MS)
  (ha:s.pop.top.kind=1)(hb:s.top.kind=1)(hs':s'=s.pop.pop.push (ybB (wrap64 (s.pop.top.num*s.top.num)))):
  Calls Tryz.prog 164 #[.pointer (some ⟨b,0,none⟩),.agg #[.int .i64 7,k]] W (MP Z W b v p (.bool true) s')
  :=by
 obtain⟨i,H⟩:∃i,i=W.alloc (.cells #[.int .i64 7,k] 106):=⟨_,rfl⟩;have r:=zba H;have x:=zha H;have PO:=zhd (yai b v p s i (M.ext r));have I:=zh7 M r x hs' hk hl hZ;clear M r x hs' hk hl hZ;go_in;go_wp2_with fail;rw[<-H];clear H;refine PO.o.mono ?_;rintro e g ⟨u,⟨z,d,cs,la,ln,lc⟩,rfl,P⟩;have E:=(P.o.2.1.keeps.block W (zlt I.o.2.2.1) (fun e=>by have:=I.o.1.lt e;omega)).trans I.o.2.2.1;have m:=zca E 0 rfl;have d1:=zca E 1 rfl;have c:=zlt E;have HB:=zhd E;clear E;have q:=zhd (fun(Q:World) (M2:MX TT Z Q b u p s.pop)=>yai b u p s.pop Q M2);go_wp2_with fail;obtain⟨Q,G⟩:∃Q,Q=g.alloc (.cells #[z,d,cs,.slice la ln lc] 38):=⟨_,rfl⟩;have Y:=zba G;have V:=zha G;rw[<-G];have K:=zh5 Y (P.o.1.ext Y) (P.o.2.2.keep (S:=fun _=>False) (zkb Y) (fun _ _ f=>f)) V (Y.block W c|>.trans HB.o);clear G Y V m d1 c;refine(q.o _ K.o.2.1).mono ?_;rintro e w3 ⟨t,⟨y,a,ds,ma,mn,mc⟩,rfl,O⟩;have A:=(O.o.2.1.keeps.block g (zlt K.o.2.2.2.1) (fun e=>by have:=P.o.1.lt e;omega)).trans K.o.2.2.2.1
 have D:=(O.o.2.1.keeps.block W (zlt K.o.2.2.2.2) (fun e=>by
  rcases P.o.2.1.own _ e with h|h
  .have:=I.o.1.lt h;omega
  .have:=zlt I.o.2.2.1;omega)).trans K.o.2.2.2.2
 obtain⟨w4,F⟩:∃w4,w4=w3.alloc (.cells #[y,a,ds,.slice ma mn mc] 38):=⟨_,rfl⟩;have L:=zba F;have C:=zha F;have B:=(L.block g (zlt A)).trans A;have J:=(L.block W (zlt D)).trans D;have q0:=zca B 0 rfl;have q1:=zca B 1 rfl;have q2:=zca B 2 rfl;have q3:=zca B 3 rfl;have r0:=zca C 0 rfl;have r1:=zca C 1 rfl;have r2:=zca C 2 rfl;have r3:=zca C 3 rfl;have c0:=zca J 0 rfl;have m:=zca D 0 rfl;have x0:=zca A 0 rfl;have x1:=zca A 1 rfl;have x2:=zca A 2 rfl;have x3:=zca A 3 rfl;have xl:=zlt A;have c:=zlt D;have l4:=zlt C;have xl4:=zlt B;have Aa:=zlt J;have K4:MK b v W t w4:=(MK.ext I.o.2.1).trans (P.o.2.1.trans ((MK.ext K.o.1).trans (O.o.2.1.trans (MK.ext L))));have N:=zh4 (O.o.1.ext L) K4 ((CF.step O.o.2.1 K.o.2.2.1).step (MK.ext L)) (O.o.2.2.step (MK.ext L));have U:s.pop.pop.stk.length<=4294967296:=znf (yaW s) I.o.2.2.2.2.1;have l:=I.o.2.2.2.1;clear A D C B J L K4;go_upto_region 22 with(fail);rw[<-F];clear F m x0 x1 x2 x3 xl c;obtain rfl:y=1:=N.o.2.2.2.kind.trans ha;obtain rfl:z=1:=N.o.2.2.1.kind.trans hb
 have R:a=s.pop.top.num:=N.o.2.2.2.n;have T:d=s.top.num:=N.o.2.2.1.n;rw[<-R,<-T]at l;have HE:=zhd (show s'=s.pop.pop.push (ybB (IntKind.i64.wrap (a*d))) by rw[l,IntKind.wrap_i64];unfold wrap64;rfl);clear R T ha hb l;go_upto_region 46 with(fail);go_region_law (first
  |(go_simp;go_at_call 106;refine(ybh _ _).mono ?_;rintro e w6 ⟨rfl,X⟩;have H6:=zhd (znw ((znv w4.heap.size w4).drew) X);clear X)
  |(go_simp;go_at_call 119;refine(yaj b t p s.pop.pop w6 (N.o.1.ext H6.o) (ybB (IntKind.i64.wrap (a*d))) 1 _ ⟨#[]⟩ none 0 0 (ycL _ _ _) U).mono ?_;rintro e w7 ⟨v7,rfl,H7⟩))
 all_goals
  go_wp2;go_ret;exact⟨v7,rfl,zhd ⟨by rw[HE.o];exact H7.o.1,N.o.2.1.trans ((MK.ext H6.o).trans H7.o.2)⟩⟩
def yaE (c:Cm):Cm:={c with v:=yab c.v}
def yiI (W:World)(l:List Cm)(e:Ending)(w':World):Prop:=∃r:Value,e= .returned r/\Hid (XRow (fun g=>W<=g) w' 52 r l/\(∀g,r.ownBlock=some g->W.heap.size<=g)/\Below W W w')
theorem yaI {α β:Type}[Cells α][Elt α β]{F:Nat->Prop}{w:World}{e:TypeId}{v:Value}{l:List β}(h:XRow F w e v l):∃a n c,v= .slice a n c:=by
 obtain⟨a,c,h⟩:=h.slice;exact⟨_,_,_,h⟩
def ypP (W:World)(l:List Cm)(gk:Nat)(v3 v11:Value)(wr:World):Prop:=
 ∃i:Nat,v11= .int .i64 i/\i<=l.length/\gk=l.length - i/\XRow (fun g=>W<=g/\¬v3.ownBlock=some g) wr 52 v3 ((l.take i).map yaE)/\(∀g,v3.ownBlock=some g->W.heap.size<=g)/\Below W W wr
theorem yfC
  {Z:Nat->Prop}(b:Nat)(v:MV)(p:Img)(s:MS)(W:World)(M:MX TT Z W b v p s)
  (hz:∀c∈s.made,szV c.v<=1073741824)(hl:s.made.length<=4294967296):
  Calls Tryz.prog 49 #[.pointer (some ⟨b,0,none⟩)] W (yiI W (s.made.map yaE)):=by
 obtain⟨am,cap,r⟩:∃a cap,v.ms= .slice a s.made.length cap:=M.mds.slice;have Ak:W.cell? ⟨b,21,none⟩=some (.slice am s.made.length cap):=by rw[<-r];exact M.cell (k:=21) rfl
 have hR:XRow (MZ Z v b) W 52 (.slice am s.made.length cap) s.made:=r▸M.mds;have b0:=zlt M.h;have HX:=zh3 hR hz hl;clear M r hR hz hl;go_in;go_wp2_with fail;obtain⟨n,hn⟩:∃n,s.made.length=n:=⟨_,rfl⟩;have O:=zhd hn;rw[hn];clear hn Ak;go_loopg [3,11] n (fun gk v3 v11 wr=>ypP W s.made gk v3 v11 wr)
 case atStart=>exact⟨0,rfl,znq _,by rw[O.o];rfl,XRow.nil _ _ _,(fun g h=>by cases h),znv _ _⟩
 case round=>
  obtain⟨i,rfl,hi,P,hX,hO,hB⟩:=hrel;rw[O.o]at hi P;by_cases hin:i<n
  .obtain⟨c,hc⟩:=yac (l:=s.made) (k:=i) (by rw[O.o];exact hin)
   obtain⟨g,E,cc,rfl,B,hrel,_,C⟩:=HX.o.1.at_ hc;have Am:(i:Int)<(n:Int):=by omega
   have Ag:wrap64 ((i:Int)+1)=(i:Int)+1:=by have:=HX.o.2.2;have:=O.o;unfold wrap64;omega
   obtain⟨T,Q,V,U,R,⟨vk,vn,vs,la,ln,lc⟩⟩:=cc;have m0:W.cell? ⟨g,E+i*9,none⟩=some (.int .i64 T):=C 0 _ rfl;have m1:W.cell? ⟨g,E+i*9+1,none⟩=some (.int .i64 Q):=C 1 _ rfl;have m2:W.cell? ⟨g,E+i*9+2,none⟩=some (.int .i64 V):=C 2 _ rfl;have m3:W.cell? ⟨g,E+i*9+3,none⟩=some (.int .i64 U):=C 3 _ rfl;have m4:W.cell? ⟨g,E+i*9+4,none⟩=some (.string R):=C 4 _ rfl;have m5:W.cell? ⟨g,E+i*9+5,none⟩=some (.int .i64 vk):=C 5 _ rfl;have m6:W.cell? ⟨g,E+i*9+6,none⟩=some (.int .i64 vn):=C 6 _ rfl;have m7:W.cell? ⟨g,E+i*9+7,none⟩=some (.string vs):=C 7 _ rfl;have m8:W.cell? ⟨g,E+i*9+8,none⟩=some (.slice la ln lc):=C 8 _ rfl;rw[<-hB.cell (p:=⟨g,_,none⟩) B]at m0 m1 m2 m3 m4 m5 m6 m7 m8;have As:g<wr:=znj B hB.size;have N:CmF (MZ Z v b) W ⟨T,Q,V,U,R,⟨vk,vn,vs,la,ln,lc⟩⟩ c:=hrel;have Aa:=HX.o.2.1 c (zmg hc);have D:=zh7 hX hO hB N hc P Aa;clear C hrel N hX hO hB hc P hi Aa;go_upto_region 5 with(fail);refine yaa ?_;intro w1 m;have B1:=zba m;have K:=zha m;have q5:=zca K 5 rfl;have q6:=zca K 6 rfl;have q7:=zca K 7 rfl;have q8:=zca K 8 rfl;have Aj:=zlt K
   have CL:=zhd (yax c.v vk vn vs la ln lc _ w1 ((D.o.2.2.2.1.v.keep (S:=fun _=>False) (zkb D.o.2.2.1) (fun _ _ f=>f)).keep (S:=fun _=>False) (zkb B1) (fun _ _ f=>f)) D.o.2.2.2.2.2.2);have H1:=zh2 B1 K;clear m B1 K m0 m1 m2 m3 m4 m5 m6 m7 m8;go_wp2_with fail;refine CL.o.mono ?_;rintro e w2 ⟨⟨d,Y,X,I,F,H⟩,rfl,H2⟩;have J:=(H2.o.2.block wr Aj).trans H1.o.2;have At:∀o,w2.frozen? ⟨wr,o,none⟩=false:=fun o=>zfr J o;have Ar:=zlt J;have q5:=zca J 5 rfl;have q6:=zca J 6 rfl;have q7:=zca J 7 rfl;have q8:=zca J 8 rfl;have Al:=zhd J;clear J;go_upto_region 6 with(fail);refine yaa ?_;intro w3 L;have A:w3.heap[wr.heap.size]? =some (.cells #[T,Q,V,U,R,d,Y,X,.slice I F H] 52 (0,0)):=by
    rw[L];have:=Al.o;simp[World.setCell,zni,this]
   have K3:Keeps (fun j=>j=wr) w2 w3:=by rw[L];exact ycu w2 wr.heap.size 5 6 7 8 _ _ _ _
   have q0:=zca A 0 rfl;have q1:=zca A 1 rfl;have q2:=zca A 2 rfl;have q3:=zca A 3 rfl;have q4:=zca A 4 rfl;have q5:=zca A 5 rfl;have q6:=zca A 6 rfl;have q7:=zca A 7 rfl;have q8:=zca A 8 rfl;have Aq:=zlt A;have z:Below wr wr w2:=H1.o.1.trans (H2.o.2.mono H1.o.1.size);have y:Below wr wr w3:=z.trans (K3.below z.size (fun jz hj e=>Nat.ne_of_lt hj e));have C3:CF (fun g=>wr<=g/\g≠wr) w3 ⟨d,Y,X,I,F,H⟩ (yab c.v):=(H2.o.1.mono (G:=fun g=>wr<=g/\g≠wr) (fun g B _=>by have B:w1<=g:=B;omega)).keep K3 (fun g B e=>B.2 e);obtain⟨va,vl,vc,Ah⟩:=yaI D.o.1;subst Ah;obtain⟨ks,Ae,u⟩:=(D.o.1.below y).cells;have t:ks.length=i:=by
    rw[u.1,zmd,List.length_take];have:=O.o;omega
   have RA:=zhd (Ae.below ((znv w3.heap.size w3).alloc (znc _) (.cells #[T,Q,V,U,R,d,Y,X,.slice I F H] 52)));have Af:=zhd (show(ks.length+1)*104<=140737488355328/\ks.length+1<=maxLen from by have:=HX.o.2.2;have:=O.o;rw[t];unfold maxLen;omega);have H3:=zh4 u C3 y t;clear L A K3 z y C3 Ae u t;go_wp2_with (at_builtin;refine yca (α:=CC) ymp rfl (.tmp 19) (.tmp 21) rfl RA.o (⟨T,Q,V,U,R,⟨d,Y,X,I,F,H⟩⟩:CC) rfl rfl (znb _ _) Af.o.1 Af.o.2 ?_;intro a1 c1 w4 Ab Ac Ad;have HF:=zh3 Ab Ac Ad;clear Ab Ac Ad);go_roundg (n - (i+1))
   case measure=>have h1:=D.o.2.2.2.2.2.1;have h2:=O.o;omega
   case rel=>
    have A4:Below w3 w3 (w3.alloc (.cells (enc (⟨T,Q,V,U,R,⟨d,Y,X,I,F,H⟩⟩:CC)).toArray 52)):=zal;have L:W<=w3.heap.size:=znf D.o.2.2.1.size H3.o.2.2.1.size;have An:wr<=w3.heap.size:=H3.o.2.2.1.size;have Ao:(w3.alloc (.cells (enc (⟨T,Q,V,U,R,⟨d,Y,X,I,F,H⟩⟩:CC)).toArray 52)).heap.size=w3.heap.size+1:=by simp
    have q:∀g,(Value.slice va vl vc).ownBlock=some g->W.heap.size<=g/\g<wr.heap.size:=fun g B=>⟨D.o.2.1 g B,D.o.1.lt B⟩;have Ai:s.made.take (i+1)=s.made.take i++[c]:=by rw[List.take_add_one,D.o.2.2.2.2.1];rfl
    refine⟨i+1,by simp[Ag],by rw[O.o];omega,by rw[O.o],?_,?_,?_⟩
    .rw[Ai,List.map_append,List.map_singleton]
     have P1:Ptw (fun g=>W<=g/\¬(Value.slice va vl vc).ownBlock=some g) w3 (ks++[⟨T,Q,V,U,R,⟨d,Y,X,I,F,H⟩⟩]) ((s.made.take i).map yaE++[yaE c]):=H3.o.1.app (Ptw.one (x:=yaE c) ⟨D.o.2.2.2.1.kind,D.o.2.2.2.1.time,D.o.2.2.2.1.a,D.o.2.2.2.1.b,D.o.2.2.2.1.name,H3.o.2.1.mono (fun g B _=>⟨znf D.o.2.2.1.size B.1,fun e=>by have:=(q g e).2;omega⟩)⟩);have P2:Ptw (fun g=>(W<=g/\¬(Value.slice va vl vc).ownBlock=some g)/\g<w3) w3 (ks++[⟨T,Q,V,U,R,⟨d,Y,X,I,F,H⟩⟩]) ((s.made.take i).map yaE++[yaE c]):=P1.mono (fun g B hl=>⟨B,hl⟩);have P3:=(P2.keep (S:=fun _=>False) (zkb A4) (fun _ _ f=>f)).keep HF.o.2.1 (fun g B e=>B.1.2 e);refine XRow.of HF.o.1 (Ptw.mono P3 ?_);intro g B _;refine⟨B.1.1,fun e=> ?_⟩;rcases HF.o.2.2 g e with h|h
     .exact B.1.2 h
     .have h:w3.heap.size+1<=g:=by simpa using h
      have:=B.2;omega
    .intro g B
     rcases HF.o.2.2 g B with h|h
     .exact(q g h).1
     .have h:w3.heap.size+1<=g:=by simpa using h
      omega
    .have K34:=((zkb (S:=fun _=>False) A4).mono (fun _ _ f=>f.elim)).trans HF.o.2.1 (fun _ _ e=>e)
     exact(D.o.2.2.1.trans (H3.o.2.2.1.mono D.o.2.2.1.size)).trans (K34.below L (fun j hj e=>by have:=q j e;omega))
  .obtain rfl:i=n:=by omega
   have Ap:¬(i:Int)<i:=by omega
   have hT:s.made.take i=s.made:=zmj (by rw[O.o];exact znc _);rw[hT]at hX;have D:=zh3 (hX.mono (G:=fun g=>W<=g) (fun g h _=>h.1)) hO hB;clear hX hO hB P hT hi;go_wp2;go_ret;exact⟨_,rfl,zhd D.o⟩
end Go.Proofs.YtpagmlndgblhhaaGreatDoor
