/- Parts of the proof: what the functions and the plain laws give that later parts lean on. Conditions: none beyond those that each theorem names. -/
import Derived.Test.YtpagmlndgblhhaaGreatDoorT22
set_option maxRecDepth 100000
set_option maxHeartbeats 8000000
namespace Go.Proofs.YtpagmlndgblhhaaGreatDoor
open Go.RowKit Go.Own Go.Own.MapTy Go.Va Go.Sort
open Go.Own.Cells (sz enc)
set_option linter.unusedVariables false
theorem ygh:ElemOf EC Tryz.prog 22 40 128:=yb5 Tryz.underlying22 (z:=.agg #[.int .i64 0,.int .i64 0,.int .i64 0,.int .i64 0,.int .i64 0,.string .empty,.string .empty,.int .i64 0,.int .i64 0,.string .empty,.slice none 0 0]) (n:=11) (by kernel_rfl) rfl rfl
def BZ (Z:Nat->Prop)(lv:Value)(kb g:Nat):Prop:=¬g=kb/\¬lv.ownBlock=some g/\Z g
def yk7 (i:IC)(lv:Value)(o:Bool):Array Value:=#[.slice i.ca i.cn i.cc,.slice i.ka i.kn i.kc,.slice i.na i.nn i.nc,.int .i64 i.pl,lv,.pointer none,.bool o]
structure BX (Z:Nat->Prop)(W:World)(kb:Nat)(i:IC)(lv:Value)(p:Img)(bk:BK):Prop where
 h:W.heap[kb]? =some (.cells (yk7 i lv bk.over) 71 (0,0))
 row:XRow (BZ Z lv kb) W 40 lv bk.list
 img:IAt (BZ Z lv kb) W i p
 ne:¬lv.ownBlock=some kb
structure BF (kb:Nat)(lv:Value)(W:World)(lv':Value)(W':World):Prop where
 keeps:Keeps (fun j=>j=kb\/lv.ownBlock=some j) W W'
 own:∀j,lv'.ownBlock=some j->lv.ownBlock=some j\/W.heap.size<=j
theorem BF.refl (kb:Nat)(lv:Value)(W:World):BF kb lv W lv W:=⟨Keeps.refl _ _,fun _ h=>.inl h⟩
theorem BF.trans {kb:Nat}{v v' v'':Value}{W W' W'':World}(h:BF kb v W v' W')(k:BF kb v' W' v'' W''):BF kb v W v'' W'':=by
 refine⟨h.keeps.trans k.keeps (fun j hj e=> ?_),fun j hj=> ?_⟩
 .rcases e with e|e
  .exact .inl e
  .exact .inr ((h.own j e).resolve_right (by omega))
 .rcases k.own j hj with A|A
  .exact h.own j A
  .exact .inr (znf h.keeps.size A)
theorem BF.ext {kb:Nat}{v:Value}{W W':World}(K:Below W W W'):BF kb v W v W':=⟨(zkb (S:=fun _=>False) K).mono (fun _ _ f=>f.elim),fun _ h=>.inl h⟩
section
variable{Z:Nat->Prop} {W W':World} {kb:Nat} {i:IC} {lv:Value} {p:Img} {bk:BK}
theorem BX.far {S:Nat->Prop}(B:BX Z W kb i lv p bk)(K:Keeps S W W')(h1:¬S kb)(h2:∀j,lv.ownBlock=some j->¬S j)(h3:∀j,Z j->¬S j):BX Z W' kb i lv p bk:=
 ⟨(K.block kb (zlt B.h) h1).trans B.h,B.row.keep K (fun g hg=>h3 g hg.2.2) h2,B.img.keep K (fun g hg=>h3 g hg.2.2),B.ne⟩
theorem BX.ext (B:BX Z W kb i lv p bk)(K:Below W W W'):BX Z W' kb i lv p bk:=B.far (zkb (S:=fun _=>False) K) id (fun _ _ f=>f) (fun _ _ f=>f)
theorem BX.q (B:BX Z W kb i lv p bk):W.cell? ⟨kb,0,none⟩=some (.slice i.ca i.cn i.cc)/\W.cell? ⟨kb,1,none⟩=some (.slice i.ka i.kn i.kc)/\W.cell? ⟨kb,2,none⟩=some (.slice i.na i.nn i.nc)/\W.cell? ⟨kb,3,none⟩=some (.int .i64 i.pl)/\W.cell? ⟨kb,4,none⟩=some lv/\W.cell? ⟨kb,6,none⟩=some (.bool bk.over)/\kb<W.heap.size/\∀o,W.frozen? ⟨kb,o,none⟩=false:=
 ⟨by rw[zch B.h];rfl,by rw[zch B.h];rfl,by rw[zch B.h];rfl,by rw[zch B.h];rfl,by rw[zch B.h];rfl,by rw[zch B.h];rfl,zlt B.h,fun o=>zfr B.h o⟩
theorem BX.app (B:BX Z W kb i lv p bk){w7:World}{v1:Value}{ks:List EC}{c:EC}{x:Ev}(hP:Ptw (BZ Z lv kb) W ks bk.list)(hx:EvF (BZ Z lv kb) W c x)(hR:RowAt w7 40 v1 (ks++[c]))(K:Keeps (fun j=>lv.ownBlock=some j) W w7)(hf:∀g,v1.ownBlock=some g->lv.ownBlock=some g\/W.heap.size<=g):
  BX Z (w7.setCell ⟨kb,4,none⟩ v1) kb i v1 p ⟨bk.list++[x],bk.over⟩/\BF kb lv W v1 (w7.setCell ⟨kb,4,none⟩ v1):=by
 have H:w7.heap[kb]? =some (.cells (yk7 i lv bk.over) 71 (0,0)):=(K.block kb (zlt B.h) B.ne).trans B.h;have F:Keeps (fun j=>j=kb) w7 (w7.setCell ⟨kb,4,none⟩ v1):=Keeps.setCell (S:=fun j=>j=kb) (p:=⟨kb,4,none⟩) (Keeps.refl _ _) (.inl rfl) _;have A:Keeps (fun j=>j=kb\/lv.ownBlock=some j) W (w7.setCell ⟨kb,4,none⟩ v1):=(K.mono (fun _ _ e=>.inr e)).trans F (fun _ _ e=>.inl e);have D:¬v1.ownBlock=some kb:=fun e=>(hf kb e).elim B.ne (fun h=>by have:=zlt B.h;omega);have C:∀g,BZ Z lv kb g->g<W.heap.size->BZ Z v1 kb g:=fun g h hl=>⟨h.1,fun e=>(hf g e).elim h.2.1 (fun h=>by omega),h.2.2⟩;have E:∀g,BZ Z lv kb g->¬(g=kb\/lv.ownBlock=some g):=fun g h e=>e.elim h.1 h.2.1;have I:Ptw (fun g=>BZ Z lv kb g/\BZ Z v1 kb g) W (ks++[c]) (bk.list++[x]):=(hP.app (Ptw.one (x:=x) hx)).mono (fun g h hl=>⟨h,C g h hl⟩);refine⟨⟨?_,?_,?_,D⟩,A,fun j h=>hf j h⟩
 .simp only[World.setCell,zni,H]
  rfl
 .refine XRow.of (hR.keep F (fun g hg e=>D (e▸hg))) ((I.keep A (fun g h=>E g h.1)).mono (fun g h _=>h.2))
 .exact((B.img.mono (G:=fun g=>BZ Z lv kb g/\BZ Z v1 kb g) (fun g h hl=>⟨h,C g h hl⟩)).keep A (fun g h=>E g h.1)).mono (fun g h _=>h.2)
theorem BX.set (B:BX Z W kb i lv p bk)(o:Bool):BX Z (W.setCell ⟨kb,6,none⟩ (.bool o)) kb i lv p ⟨bk.list,o⟩/\BF kb lv W lv (W.setCell ⟨kb,6,none⟩ (.bool o)):=by
 have A:Keeps (fun j=>j=kb) W (W.setCell ⟨kb,6,none⟩ (.bool o)):=Keeps.setCell (S:=fun j=>j=kb) (p:=⟨kb,6,none⟩) (Keeps.refl _ _) (.inl rfl) _;have C:=B.h;refine⟨⟨?_,B.row.keep A (fun g h e=>h.1 e) (fun g hg e=>B.ne (e▸hg)),B.img.keep A (fun g h e=>h.1 e),B.ne⟩,A.mono (fun _ _ e=>.inl e),fun _ h=>.inl h⟩;simp only[World.setCell,zni,C];rfl
end
def yoV (Z:Nat->Prop)(W:World)(kb:Nat)(i:IC)(lv:Value)(p:Img)(bk:BK)(e:Ending)(w':World):Prop:=e= .returned (.tuple #[])/\Hid (∃lv',BX Z w' kb i lv' p bk/\BF kb lv W lv' w')
theorem ycD
  {Z:Nat->Prop}(kb:Nat)(i:IC)(p:Img)(bk:BK)(W:World)(am:Option Addr)(n cap:Nat)(hn:bk.list.length=n)(B:BX Z W kb i (.slice am n cap) p bk)
  (id t k a bb:Int)(nm tx:ByteArray)(x:Val)(vk vn:Int)(vs:ByteArray)(la:Option Addr)(ln lc:Nat)(F:Nat->Prop)(C:CF F W ⟨vk,vn,vs,la,ln,lc⟩ x)(hF:∀g,F g->BZ Z (.slice am n cap) kb g)(hl:n<=4000000):
  Calls Tryz.prog 67 #[.pointer (some ⟨kb,0,none⟩),.agg #[id,t,k,a,bb,nm,tx,vk,vn,vs,.slice la ln lc]] W (yoV Z W kb i (.slice am n cap) p (ycu bk ⟨id,t,k,a,bb,nm,tx,x⟩)):=by
 obtain⟨w0,G⟩:∃w0,w0=W.alloc (.cells #[id,t,k,a,bb,nm,tx,vk,vn,vs,.slice la ln lc] 40):=⟨_,rfl⟩;have B0:=zba G;have hB:=zha G;obtain⟨q0,q1,q2,q3,q4,q5,q6,q7,q8,q9,K,ql,qf⟩:=yaB hB;obtain⟨_,_,_,_,r,J,U,m⟩:=(B.ext B0).q;have Ae:wrap64 ((n:Int)+1)=(n:Int)+1:=by unfold wrap64;omega
 have L:¬W.heap.size=kb:=fun e=>by have:=zlt B.h;omega
 have Ab:¬kb=W.heap.size:=fun e=>L e.symm;have E:=zh7 B B0 hB C hF hl hn;have Ad:=zhd L;clear B B0 hB C hF hl hn;go_in;go_upto_region 1 with(fail);rw[<-G];clear G;go_upto_region 2 with(fail);refine yaa ?_;intro w1 d;have A:w1=w0.setCell ⟨W,0,none⟩ (.int .i64 ((n:Int)+1)):=by rw[d]
 have P:w1.heap[W.heap.size]? =some (.cells #[.int .i64 ((n:Int)+1),t,k,a,bb,nm,tx,vk,vn,vs,.slice la ln lc] 40 (0,0)):=by
  rw[A];have:=E.o.2.2.1;simp[World.setCell,zni,this]
 have B1:Below W W w1:=by rw[A];exact E.o.2.1.setCell (znc _) _
 have I:=E.o.1.ext B1;clear q0 q1 q2 q3 q4 q5 q6 q7 q8 q9 K ql qf r J U m d A L Ab;obtain⟨q0,q1,q2,q3,q4,q5,q6,q7,q8,q9,K,ql,qf⟩:=yaB P;obtain⟨_,_,_,_,r,J,U,m⟩:=I.q;obtain⟨Y,hR,hP⟩:=I.row.cells;have Ac:Y.length=n:=hP.1.trans E.o.2.2.2.2.2.2;have Q:=zh5 B1 I P hR hP;have R:=zhd (show(Y.length+[(⟨(n:Int)+1,t,k,a,bb,nm,tx,⟨vk,vn,vs,la,ln,lc⟩⟩:EC)].length)*128<=140737488355328/\Y.length+[(⟨(n:Int)+1,t,k,a,bb,nm,tx,⟨vk,vn,vs,la,ln,lc⟩⟩:EC)].length<=maxLen/\Y.length+[(⟨(n:Int)+1,t,k,a,bb,nm,tx,⟨vk,vn,vs,la,ln,lc⟩⟩:EC)].length=n+1 from by have:=E.o.2.2.2.2.2.1;unfold maxLen;simp;omega);have NB:=zhd (show∀g,(Value.slice am n cap).ownBlock=some g->g≠kb/\g≠W.heap.size from fun g hg=>⟨fun e=>E.o.1.ne (e▸hg),fun e=>by have:=E.o.1.row.lt hg;omega⟩);clear B1 I P hR hP Ac
 go_region_law ((refine yay (α:=EC) (o:=⟨some 18,_,_,_,_,_⟩) ygh (by rfl) (.tmp 15) (.tmp 17) (by rfl) (v:=.slice am n cap) (u:=.slice (some ⟨w1,0,none⟩) 1 1) (by rfl) (by rfl) (xs:=Y) (ys:=[(⟨(n:Int)+1,t,k,a,bb,nm,tx,⟨vk,vn,vs,la,ln,lc⟩⟩:EC)]) ((Q.o.2.2.2.1.drew).alloc _) (RowAt.lit (α:=EC) (y:=(⟨(n:Int)+1,t,k,a,bb,nm,tx,⟨vk,vn,vs,la,ln,lc⟩⟩:EC)) (znb _ _)) R.o.1 R.o.2.1 (n+1) R.o.2.2 ?_;intro a1 cp X j H l;have D:=(H.block kb (by simp;omega) (fun e=>(NB.o _ e).1 rfl)).trans ((zne _ _ _ U).trans Q.o.2.1.h);have c:=(H.block W (by simp;omega) (fun e=>(NB.o _ e).2 rfl)).trans ((zne _ _ _ ql).trans Q.o.2.2.1);have y0:X.cell? ⟨kb,4,none⟩=some (.slice am n cap):=(by rw[zch D];rfl);have y3:X.cell? ⟨kb,6,none⟩=some (.bool bk.over):=(by rw[zch D];rfl);have y1:∀o,X.frozen? ⟨kb,o,none⟩=false:=(fun o=>zfr D o);have y2:kb<X.heap.size:=zlt D;have FF:=zh4 j H l c;clear j H l D c))
 all_goals
  have B7:Below w1 w1 (w1.drew.alloc (.cells (enc (⟨(n:Int)+1,t,k,a,bb,nm,tx,⟨vk,vn,vs,la,ln,lc⟩⟩:EC)).toArray 40)):=((znv w1.heap.size w1).drew).alloc (znc _) _;have CE:EvF (BZ Z (.slice am n cap) kb) w1 (⟨(n:Int)+1,t,k,a,bb,nm,tx,⟨vk,vn,vs,la,ln,lc⟩⟩:EC) ⟨(n:Int)+1,t,k,a,bb,nm,tx,x⟩:=⟨rfl,rfl,rfl,rfl,rfl,rfl,rfl,(E.o.2.2.2.1.keep (S:=fun _=>False) (zkb Q.o.1) (fun _ _ f=>f)).mono (fun g hg _=>E.o.2.2.2.2.1 g hg)⟩;have AP:=Q.o.2.1.app Q.o.2.2.2.2 CE FF.o.1 (((zkb (S:=fun _=>False) B7).mono (fun _ _ f=>f.elim)).trans FF.o.2.1 (fun _ _ e=>e)) (fun g hg=>(FF.o.2.2.1 g hg).imp (fun h=>h) (fun h=>znf B7.size h));obtain⟨wz,M⟩:∃wz,wz=X.setCell ⟨kb,4,none⟩ (.slice a1 (n+1) cp):=⟨_,rfl⟩;rw[<-M]at AP|-;have b:wz.heap[W.heap.size]? =some (.cells #[.int .i64 ((n:Int)+1),t,k,a,bb,nm,tx,vk,vn,vs,.slice la ln lc] 40 (0,0)):=by
   rw[M,znn _ _ _ _ (fun e=>Ad.o e)];exact FF.o.2.2.2
  have s:=zh2 AP.1 ((BF.ext Q.o.1).trans AP.2);clear q0 q1 q2 q3 q4 q5 q6 q7 q8 q9 K ql qf r J U m B7 CE AP M y0 y1 y2 y3;obtain⟨p0,p1,p2,p3,p4,p5,p6,p7,p8,p9,Aa,pl,_⟩:=yaB b;obtain⟨_,_,_,_,r,J,U,m⟩:=s.o.1.q;dsimp only at J;clear b;cases ho:bk.over with
  |true=>
   rw[ho]at J;have z:=zhd (show ycu bk ⟨id,t,k,a,bb,nm,tx,x⟩=⟨bk.list++[⟨(n:Int)+1,t,k,a,bb,nm,tx,x⟩],true⟩ by unfold ycu;rw[ho,E.o.2.2.2.2.2.2];rfl);clear ho;have V:=zhd (s.o.1.set true);go_wp2_with fail
   go_end0
   exact⟨rfl,zhd ⟨_,by rw[z.o];exact V.o.1,s.o.2.trans V.o.2⟩⟩
  |false=>
   rw[ho]at J;have z:=zhd (show ycu bk ⟨id,t,k,a,bb,nm,tx,x⟩=⟨bk.list++[⟨(n:Int)+1,t,k,a,bb,nm,tx,x⟩],yaS k⟩ by unfold ycu;rw[ho,E.o.2.2.2.2.2.2];rfl);obtain⟨cb,N⟩:∃cb,decide (16<=k/\k<=21)=cb:=⟨_,rfl⟩;have CS:=zhd (ybF ((n:Int)+1) t k a bb nm tx vk vn vs la ln lc wz cb N);have z:=zhd (z.o.trans (show _=(⟨bk.list++[⟨(n:Int)+1,t,k,a,bb,nm,tx,x⟩],cb⟩:BK) by rw[<-N];rfl));clear N;clear ho;go_wp2_with fail;refine CS.o.mono ?_;rintro e w8 ⟨rfl,O⟩;have T:=s.o.1.ext O;have V:=zh2 (T.set cb) (s.o.2.trans (BF.ext O));obtain⟨_,_,_,_,r,J,U,m⟩:=T.q;clear T O p0 p1 p2 p3 p4 p5 p6 p7 p8 p9 Aa pl CS;go_wp2_with fail
   go_end0
   exact⟨rfl,zhd ⟨_,by rw[z.o];exact V.o.1.1,V.o.2.trans V.o.1.2⟩⟩
def ymo (W:World)(l:List Ev)(x:Int)(gk:Nat)(v12:Value)(wr:World):Prop:=
 ∃j:Nat,v12= .int .i64 j/\j<=l.length/\gk=l.length - j/\yck l x=yck (l.drop j) x/\Below W W wr
theorem yjr
  {Z:Nat->Prop}(kb:Nat)(i:IC)(p:Img)(bk:BK)(W:World)(am:Option Addr)(n cap:Nat)(hn:bk.list.length=n)(B:BX Z W kb i (.slice am n cap) p bk)
  (hl:n<=4000000)(x:Int)(r:Bool)(hr:yck bk.list x=r):
  Calls Tryz.prog 107 #[.pointer (some ⟨kb,0,none⟩),x] W (fun e w'=>e= .returned (.bool r)/\Below W W w'):=by
 obtain⟨_,_,_,_,b4,b6,bl,bf⟩:=B.q;have E:=B.row.rd (G:=fun g=>g<W) (fun g _ h=>h) (fun g h=>B.row.lt h);have D:=zh4 E hn hl hr;clear B E hn hl hr;go_in;go_wp2_with fail;go_loopg [12] n (fun gk v12 wr=>ymo W bk.list x gk v12 wr)
 case atStart=>exact⟨0,rfl,znq _,by rw[D.o.2.1];rfl,rfl,znv _ _⟩
 case round=>
  obtain⟨j,rfl,O,F,A,J⟩:=hrel;rw[D.o.2.1]at O F;by_cases hjn:j<n
  .obtain⟨e,M⟩:=yac (l:=bk.list) (k:=j) (by rw[D.o.2.1];exact hjn)
   obtain⟨g,u,vk,vn,vs,la,ln,lc,rfl,K,c,P,Y,X,V,U,T,S,R,t,s,m,y10⟩:=yc5 D.o.1 M;rw[<-J.cell (p:=⟨g,_,none⟩) c]at Y X V U T S R t s m y10;have Aa:g<wr:=znj c J.size;have b:(j:Int)<(n:Int):=by omega
   have N:wrap64 ((j:Int)+1)=(j:Int)+1:=by have:=D.o.2.2.1;unfold wrap64;omega
   have I:bk.list.drop j=e::bk.list.drop (j+1):=by
    rw[znr (zge M).1,(zge M).2]
   obtain⟨e0,e1,f,d,e4,e5,e6,ex⟩:=e;dsimp only at Y X V U T S R P;rw[I]at A;unfold yck at A;rw[List.any_cons]at A;dsimp only at A;have Q:=zhd (show n - (j+1)<gk by omega);have C:=zh2 J (show(bk.list.drop (j+1)).any (fun e=>(e.kind==12)&&(e.a==x))=yck (bk.list.drop (j+1)) x from rfl);have H:=J.size;by_cases hk:f=12
   .subst hk
    rw[show((12:Int)==12)=true from rfl,Bool.true_and]at A;by_cases ha:d=x
    .subst ha
     rw[beq_self_eq_true,Bool.true_or]at A;have L:=zhd (A.symm.trans D.o.2.2.2);clear A I M P K J F O Q;go_wp2;go_ret;exact⟨by rw[<-L.o];rfl,C.o.1.alloc H _⟩
    .have v:(d==x)=false:=by rw[zna];exact ha
     rw[v,Bool.false_or]at A;have L:=zhd A;clear A I M P K J F O ha;go_wp2_with fail;go_roundg (n - (j+1))
     case measure=>exact Q.o
     case rel=>exact⟨j+1,by simp[N],by rw[D.o.2.1];omega,by rw[D.o.2.1],L.o.trans C.o.2,C.o.1.alloc H _⟩
   .have y:(f==12)=false:=by rw[zna];exact hk
    rw[y,Bool.false_and,Bool.false_or]at A;have L:=zhd A;clear A I M P K J F O hk;go_wp2_with fail;go_roundg (n - (j+1))
    case measure=>exact Q.o
    case rel=>exact⟨j+1,by simp[N],by rw[D.o.2.1];omega,by rw[D.o.2.1],L.o.trans C.o.2,C.o.1.alloc H _⟩
  .obtain rfl:j=n:=by omega
   have z:¬(j:Int)<j:=by omega
   rw[zns (by rw[D.o.2.1];exact znc _)]at A;have L:=zhd (A.symm.trans D.o.2.2.2);have C:=zhd J;clear A J F O;go_wp2;go_ret;exact⟨by rw[<-L.o];rfl,C.o⟩
def yhP (W:World)(l:List Ev)(x:Int)(gk:Nat)(v12:Value)(wr:World):Prop:=
 ∃j:Nat,v12= .int .i64 j/\j<=l.length/\gk=l.length - j/\yfv l x=yfv (l.drop j) x/\Below W W wr
theorem yfJ
  {Z:Nat->Prop}(kb:Nat)(i:IC)(p:Img)(bk:BK)(W:World)(am:Option Addr)(n cap:Nat)(hn:bk.list.length=n)(B:BX Z W kb i (.slice am n cap) p bk)
  (hl:n<=4000000)(x:Int)(r:Bool)(hr:yfv bk.list x=r):
  Calls Tryz.prog 66 #[.pointer (some ⟨kb,0,none⟩),x] W (fun e w'=>e= .returned (.bool r)/\Below W W w'):=by
 obtain⟨_,_,_,_,b4,b6,bl,bf⟩:=B.q;have E:=B.row.rd (G:=fun g=>g<W) (fun g _ h=>h) (fun g h=>B.row.lt h);have D:=zh4 E hn hl hr;clear B E hn hl hr;go_in;go_wp2_with fail;go_loopg [12] n (fun gk v12 wr=>yhP W bk.list x gk v12 wr)
 case atStart=>exact⟨0,rfl,znq _,by rw[D.o.2.1];rfl,rfl,znv _ _⟩
 case round=>
  obtain⟨j,rfl,O,F,A,J⟩:=hrel;rw[D.o.2.1]at O F;by_cases hjn:j<n
  .obtain⟨e,M⟩:=yac (l:=bk.list) (k:=j) (by rw[D.o.2.1];exact hjn)
   obtain⟨g,u,vk,vn,vs,la,ln,lc,rfl,K,c,P,Y,X,V,U,T,S,R,t,s,m,y10⟩:=yc5 D.o.1 M;rw[<-J.cell (p:=⟨g,_,none⟩) c]at Y X V U T S R t s m y10;have Aa:g<wr:=znj c J.size;have b:(j:Int)<(n:Int):=by omega
   have N:wrap64 ((j:Int)+1)=(j:Int)+1:=by have:=D.o.2.2.1;unfold wrap64;omega
   have I:bk.list.drop j=e::bk.list.drop (j+1):=by
    rw[znr (zge M).1,(zge M).2]
   obtain⟨e0,e1,f,d,e4,e5,e6,ex⟩:=e;dsimp only at Y X V U T S R P;rw[I]at A;unfold yfv at A;rw[List.any_cons]at A;dsimp only at A;have Q:=zhd (show n - (j+1)<gk by omega);have C:=zh2 J (show(bk.list.drop (j+1)).any (fun e=>(e.kind==13)&&(e.a==x))=yfv (bk.list.drop (j+1)) x from rfl);have H:=J.size;by_cases hk:f=13
   .subst hk
    rw[show((13:Int)==13)=true from rfl,Bool.true_and]at A;by_cases ha:d=x
    .subst ha
     rw[beq_self_eq_true,Bool.true_or]at A;have L:=zhd (A.symm.trans D.o.2.2.2);clear A I M P K J F O Q;go_wp2;go_ret;exact⟨by rw[<-L.o];rfl,C.o.1.alloc H _⟩
    .have v:(d==x)=false:=by rw[zna];exact ha
     rw[v,Bool.false_or]at A;have L:=zhd A;clear A I M P K J F O ha;go_wp2_with fail;go_roundg (n - (j+1))
     case measure=>exact Q.o
     case rel=>exact⟨j+1,by simp[N],by rw[D.o.2.1];omega,by rw[D.o.2.1],L.o.trans C.o.2,C.o.1.alloc H _⟩
   .have y:(f==13)=false:=by rw[zna];exact hk
    rw[y,Bool.false_and,Bool.false_or]at A;have L:=zhd A;clear A I M P K J F O hk;go_wp2_with fail;go_roundg (n - (j+1))
    case measure=>exact Q.o
    case rel=>exact⟨j+1,by simp[N],by rw[D.o.2.1];omega,by rw[D.o.2.1],L.o.trans C.o.2,C.o.1.alloc H _⟩
  .obtain rfl:j=n:=by omega
   have z:¬(j:Int)<j:=by omega
   rw[zns (by rw[D.o.2.1];exact znc _)]at A;have L:=zhd (A.symm.trans D.o.2.2.2);have C:=zhd J;clear A J F O;go_wp2;go_ret;exact⟨by rw[<-L.o];rfl,C.o⟩
end Go.Proofs.YtpagmlndgblhhaaGreatDoor
namespace Go.Va
open Go.Own Go.Own.MapTy Go.RowKit
def mOf:List Int->List (Int×Bool)
 |[]=>[]
 |c::r=>upd (mOf r) c true
theorem ykB:∀(cs:List Int) (x:Int),get (mOf cs) x=if x∈cs then some true else none
 |[],x=>rfl
 |c::r,x=>by
  rw[mOf,yno,ykB r];by_cases h:x=c
  .rw[if_pos h,if_pos (by rw[h];exact zmf ..)]
  .rw[if_neg h]
   by_cases h2:x∈r
   .rw[if_pos h2,if_pos (zme _ h2)]
   .rw[if_neg h2,if_neg (fun e=>(List.mem_cons.1 e).elim h h2)]
end Go.Va
namespace Go.Proofs.YtpagmlndgblhhaaGreatDoor
open Go.RowKit Go.Own Go.Own.MapTy Go.Va Go.Sort
open Go.Own.Cells (sz enc)
abbrev NM:MapTy Int Bool:=IM Bool Value.bool
theorem yot (n:Nat)(em:Bool)(W:World)(x:Int):(Instr.checkKey em (n+1) 2 (.int .i64 x)).run Tryz.prog W= .ok () W:=by simp[Instr.checkKey,go_sem]
theorem ylO:KLaw NM Tryz.prog 2:=IM.klaw Tryz.underlying2 (fun W em x=>yot 9999 em W x)
theorem yhe {w:World}{b:Nat}{cs:List Int}(h:MapAt NM w b (mOf cs))(r:Int)(c:Bool)(hc:decide (r∈cs)=c)(W:World)(hW:ydU w b W):(Instr.lookup 57 (.map (some b)) (.int .i64 r) false).run Tryz.prog W= .ok (.bool c) W:=by
 have:=h.lookS ylO Tryz.underlying57 (z:=.bool false) (fun W=>by kernel_rfl) r false W hW;subst hc;rw[ykB]at this;by_cases hr:r∈cs
 .rw[if_pos hr]at this;rw[zno hr];exact this
 .rw[if_neg hr]at this;rw[znd hr];exact this
theorem ycr {w w':World}{b:Nat}{m:List (Int×Bool)}(h:MapAt NM w b m)(B:Below w w w'):MapAt NM w' b m:=by
 obtain⟨E,F,A,D,C⟩:=h;exact⟨E,F,(B.block _ (zlt A)).trans A,D,C⟩
structure RPX (tr:TypeId)(Z:Nat->Prop)(W:World)(rb b mb:Nat)(v:MV)(p:Img)(r:RP):Prop where
 h:W.heap[rb]? =some (.cells #[.pointer (some ⟨b,0,none⟩),(r.seen:Int),(r.next:Int),.map (some mb),r.closed,r.err] tr (0,0))
 mx:MX TT (fun q=>Z q/\¬q=rb/\¬q=mb) W b v p r.m
 fm:MapAt NM W mb (mOf r.fired)
 ne:¬rb=mb
 o1:¬MO v b rb
 o2:¬MO v b mb
def RO (rb b mb:Nat)(v:MV)(g:Nat):Prop:=g=rb\/g=mb\/MO v b g
structure RPK (rb b mb:Nat)(v:MV)(W:World)(v':MV)(W':World):Prop where
 keeps:Keeps (RO rb b mb v) W W'
 own:∀j,MO v' b j->MO v b j\/W.heap.size<=j
theorem RPK.refl (rb b mb:Nat)(v:MV)(W:World):RPK rb b mb v W v W:=⟨Keeps.refl _ _,fun _ h=>.inl h⟩
theorem RPK.trans {rb b mb:Nat}{v v' v'':MV}{W W' W'':World}(h:RPK rb b mb v W v' W')(k:RPK rb b mb v' W' v'' W''):RPK rb b mb v W v'' W'':=by
 refine⟨h.keeps.trans k.keeps (fun j hj e=> ?_),fun j hj=> ?_⟩
 .rcases e with e|e|e
  .exact .inl e
  .exact .inr (.inl e)
  .exact .inr (.inr ((h.own j e).resolve_right (by omega)))
 .rcases k.own j hj with A|A
  .exact h.own j A
  .exact .inr (znf h.keeps.size A)
theorem RPK.ext {rb b mb:Nat}{v:MV}{W W':World}(K:Below W W W'):RPK rb b mb v W v W':=⟨(zkb (S:=fun _=>False) K).mono (fun _ _ f=>f.elim),fun _ h=>.inl h⟩
theorem RPK.mk_ {rb b mb:Nat}{v v':MV}{W W':World}(K:MK b v W v' W'):RPK rb b mb v W v' W':=⟨K.keeps.mono (fun _ _ h=>.inr (.inr h)),K.own⟩
section
variable{tr:TypeId} {Z:Nat->Prop} {W W':World} {rb b mb:Nat} {v v':MV} {p:Img} {r:RP}
theorem RPX.ext (R:RPX tr Z W rb b mb v p r)(B:Below W W W'):RPX tr Z W' rb b mb v p r:=⟨(B.block rb (zlt R.h)).trans R.h,R.mx.ext B,ycr R.fm B,R.ne,R.o1,R.o2⟩
theorem RPX.mlt (R:RPX tr Z W rb b mb v p r):mb<W.heap.size:=by
 obtain⟨B,C,A,_⟩:=R.fm;exact zlt A
theorem RPX.lt (R:RPX tr Z W rb b mb v p r){g:Nat}(h:RO rb b mb v g):g<W:=by
 rcases h with rfl|rfl|h
 .exact zlt R.h
 .exact R.mlt
 .exact R.mx.lt h
theorem RPX.put (R:RPX tr Z W rb b mb v p r)(k:Nat)(u:Value)(r':RP)(hm:r'.m=r.m)(hf:r'.fired=r.fired)
  (henc:#[.pointer (some ⟨b,0,none⟩),.int .i64 (r'.seen:Int),.int .i64 (r'.next:Int),.map (some mb),.bool r'.closed,.int .i64 r'.err]=(#[.pointer (some ⟨b,0,none⟩),.int .i64 (r.seen:Int),.int .i64 (r.next:Int),.map (some mb),.bool r.closed,.int .i64 r.err]:Array Value).setIfInBounds k u):
  RPX tr Z (W.setCell ⟨rb,k,none⟩ u) rb b mb v p r'/\RPK rb b mb v W v (W.setCell ⟨rb,k,none⟩ u):=by
 have K:Keeps (fun j=>j=rb) W (W.setCell ⟨rb,k,none⟩ u):=Keeps.setCell (S:=fun j=>j=rb) (p:=⟨rb,k,none⟩) (Keeps.refl _ _) (.inl rfl) _;refine⟨⟨?_,?_,?_,R.ne,R.o1,R.o2⟩,⟨K.mono (fun _ _ e=>.inl e),fun _ h=>.inl h⟩⟩
 .have:=R.h
  simp only[World.setCell,zni,this];rw[henc];simp
 .rw[hm]
  exact R.mx.far K (fun j e h=>R.o1 (e▸h)) (fun j e h=>h.2.1 e)
 .rw[hf]
  obtain⟨C,D,A,B⟩:=R.fm;exact⟨C,D,(K.block mb (zlt A) (fun e=>R.ne e.symm)).trans A,B⟩
theorem RPX.turn (R:RPX tr Z W rb b mb v p r){m':MS}(M:MX TT (fun q=>Z q/\¬q=rb/\¬q=mb) W' b v' p m')(K:MK b v W v' W'):RPX tr Z W' rb b mb v' p {r with m:=m'}:=by
 have B:∀g,¬MO v b g->g<W.heap.size->¬MO v' b g:=fun g A hl e=>(K.own g e).elim A (fun e=>by omega);refine⟨(K.keeps.block rb (zlt R.h) R.o1).trans R.h,M,?_,R.ne,B rb R.o1 (zlt R.h),B mb R.o2 R.mlt⟩;obtain⟨D,E,A,C⟩:=R.fm;exact⟨D,E,(K.keeps.block mb (zlt A) R.o2).trans A,C⟩
theorem RPX.fire (R:RPX tr Z W rb b mb v p r)(a:Int){o:Obj}(hm:MapAt NM (setBlock W mb o) mb (mOf (a::r.fired))):RPX tr Z (setBlock W mb o) rb b mb v p {r with fired:=a::r.fired}/\RPK rb b mb v W v (setBlock W mb o):=by
 have K:Keeps (fun j=>j=mb) W (setBlock W mb o):=(Keeps.refl (fun j=>j=mb) W).setBlock (b:=mb) (.inl rfl) o;exact⟨⟨(K.block rb (zlt R.h) R.ne).trans R.h,R.mx.far K (fun j e h=>R.o2 (e▸h)) (fun j e h=>h.2.2 e),hm,R.ne,R.o1,R.o2⟩,⟨K.mono (fun _ _ e=>.inr (.inl e)),fun _ h=>.inl h⟩⟩
end
set_option linter.unusedVariables false
abbrev TR:TypeId:=59
theorem ybp {N:Nat}(id t k a bb:Int)(nm tx:ByteArray)(x:Val)(vk vn:Int)(vs:ByteArray)(la:Option Addr)(ln lc:Nat)(F:Nat->Prop)(W:World)(G:Gl Tryz.prog N W)(C:CF F W ⟨vk,vn,vs,la,ln,lc⟩ x)(hw:x.wf)(r:Int)(hr:yae ⟨id,t,k,a,bb,nm,tx,x⟩=r):
  Calls Tryz.prog 16 #[.agg #[id,t,k,a,bb,nm,tx,vk,vn,vs,.slice la ln lc]] W (fun e w'=>e= .returned (.int .i64 r)/\Below W W w'):=by
 have A:vk=x.kind:=C.kind;rw[yaA]at hr;dsimp only at hr;rw[<-A]at hr;exact yaw id t k a bb nm tx vk vn vs la ln lc W G (checkL x) (fun W' BW=>yaE x vk vn vs la ln lc F W' (C.keep (S:=fun _=>False) (zkb BW) (fun _ _ f=>f)) hw _ rfl) _ hr
section
variable{Z:Nat->Prop} {W:World} {rb b mb:Nat} {v:MV} {p:Img} {r:RP}
theorem RPX.q {tr:TypeId}(R:RPX tr Z W rb b mb v p r):W.cell? ⟨rb,0,none⟩=some (.pointer (some ⟨b,0,none⟩))/\W.cell? ⟨rb,1,none⟩=some (.int .i64 (r.seen:Int))/\W.cell? ⟨rb,2,none⟩=some (.int .i64 (r.next:Int))/\W.cell? ⟨rb,3,none⟩=some (.map (some mb))/\W.cell? ⟨rb,4,none⟩=some (.bool r.closed)/\W.cell? ⟨rb,5,none⟩=some (.int .i64 r.err)/\rb<W.heap.size/\∀o,W.frozen? ⟨rb,o,none⟩=false:=
 ⟨by rw[zch R.h];rfl,by rw[zch R.h];rfl,by rw[zch R.h];rfl,by rw[zch R.h];rfl,by rw[zch R.h];rfl,by rw[zch R.h];rfl,zlt R.h,fun o=>zfr R.h o⟩
end
theorem yjX
  {Z:Nat->Prop}(rb b mb:Nat)(v:MV)(p:Img)(r:RP)(W:World)(R:RPX TR Z W rb b mb v p r)
  :Calls Tryz.prog 36 #[.pointer (some ⟨rb,0,none⟩)] W (fun e w'=>e= .returned (.int .i64 (r.seen:Int))/\Below W W w'):=by
 obtain⟨G,F,E,D,C,B,A,_⟩:=R.q;clear R;go_in;go_wp2;go_ret;exact⟨rfl,znv _ _⟩
theorem yiV
  {Z:Nat->Prop}(rb b mb:Nat)(v:MV)(p:Img)(r:RP)(W:World)(R:RPX TR Z W rb b mb v p r)
  :Calls Tryz.prog 22 #[.pointer (some ⟨rb,0,none⟩)] W (fun e w'=>e= .returned (.int .i64 (r.next:Int))/\Below W W w'):=by
 obtain⟨G,F,E,D,C,B,A,_⟩:=R.q;clear R;go_in;go_wp2;go_ret;exact⟨rfl,znv _ _⟩
theorem yg5
  {Z:Nat->Prop}(rb b mb:Nat)(v:MV)(p:Img)(r:RP)(W:World)(R:RPX TR Z W rb b mb v p r)
  :Calls Tryz.prog 17 #[.pointer (some ⟨rb,0,none⟩)] W (fun e w'=>e= .returned (.bool r.closed)/\Below W W w'):=by
 obtain⟨G,F,E,D,C,B,A,_⟩:=R.q;clear R;go_in;go_wp2;go_ret;exact⟨rfl,znv _ _⟩
theorem yij
  {Z:Nat->Prop}(rb b mb:Nat)(v:MV)(p:Img)(r:RP)(W:World)(R:RPX TR Z W rb b mb v p r)
  (k t a bb:Int)(nm:ByteArray)(vk vn:Int)(vs:ByteArray)(la:Option Addr)(ln lc:Nat)(x:Val)(q:Bool)(hq:yaU r.fired ⟨k,t,a,bb,nm,x⟩=q):
  Calls Tryz.prog 50 #[.pointer (some ⟨rb,0,none⟩),.agg #[k,t,a,bb,nm,vk,vn,vs,.slice la ln lc]] W (fun e w'=>e= .returned (.bool q)/\Below W W w'):=by
 obtain⟨E,A⟩:∃E,E=W.alloc (.cells #[k,t,a,bb,nm,vk,vn,vs,.slice la ln lc] 52):=⟨_,rfl⟩;have D:=zba A;have G:=zha A;obtain⟨c0,c1,c2,c3,Y,V,U,T,S,Q,_⟩:=ygt G;have C:=R.ext D;obtain⟨P,O,N,M,L,K,J,_⟩:=C.q;have B:=fun X hX=>yhe C.fm a (decide (a∈r.fired)) rfl X hX;have H:=zhd D;unfold yaU at hq;dsimp only at hq;clear D G R C;by_cases hk:k=2
 .subst hk
  rw[show((2:Int)==2)=true from rfl,Bool.true_and]at hq;obtain⟨d,F⟩:∃d,decide (a∈r.fired)=d:=⟨_,rfl⟩;rw[F]at hq B;subst hq;clear F;go_in;go_upto_region 1 with(fail);rw[<-A];clear A;go_region
  all_goals
   go_wp2;go_ret;exact⟨rfl,H.o.drew⟩
 .have I:(k==2)=false:=by rw[zna];exact hk
  rw[I,Bool.false_and]at hq;subst hq;clear B hk;go_in;go_upto_region 1 with(fail);rw[<-A];clear A;go_region
  all_goals
   go_wp2;go_ret;exact⟨rfl,H.o.drew⟩
def yoG (Z:Nat->Prop)(rb b mb:Nat)(v:MV)(p:Img)(r:RP)(W:World)(n:Nat)(e:Ending)(w':World):Prop:=e= .returned (.tuple #[])/\Hid (RPX TR Z w' rb b mb v p {r with next:=n}/\RPK rb b mb v W v w'/\Keeps (fun j=>j=rb) W w')
def ypA (Z:Nat->Prop)(rb b mb:Nat)(v:MV)(p:Img)(r:RP)(W:World)(L:List Cm)(gk:Nat)(wr:World):Prop:=
 ∃n:Nat,n<=L.length/\gk=L.length - n/\RPX TR Z wr rb b mb v p {r with next:=n}/\RPK rb b mb v W v wr/\Keeps (fun j=>j=rb) W wr/\ybi r.fired (L.drop n) n=ybi r.fired (L.drop r.next) r.next
theorem ylt
  {Z:Nat->Prop}(rb b mb:Nat)(v:MV)(p:Img)(r:RP)(W:World)(R:RPX TR Z W rb b mb v p r)
  (L:List Cm)(F:Nat->Prop)(am:Option Addr)(n cm:Nat)(hn:L.length=n)(E:XRd F W (.slice am n cm) L)(hF:∀g,F g->¬g=rb)(hnx:r.next<=n)(hl:n<=4294967296):
  Calls Tryz.prog 101 #[.pointer (some ⟨rb,0,none⟩),.slice am n cm] W (yoG Z rb b mb v p r W (ybi r.fired (L.drop r.next) r.next)):=by
 have H:=zh5 R E hF hl hn;have HN:=zhd hnx;clear R E hF hnx hl hn;go_in;go_wp2_with fail;go_loopg [] (n - r.next) (fun gk wr=>ypA Z rb b mb v p r W L gk wr)
 case atStart=>exact⟨r.next,by have h1:=HN.o;have h2:=H.o.2.2.2.2;omega,by rw[H.o.2.2.2.2],H.o.1,RPK.refl _ _ _ _ _,Keeps.refl _ _,rfl⟩
 case round=>
  obtain⟨i,V,I,J,Q,K,A⟩:=hrel;rw[H.o.2.2.2.2]at V I;obtain⟨r0,r1,r2,r3,r4,r5,rl,rf⟩:=J.q;dsimp only at r0 r1 r2 r3 r4 r5;by_cases hin:i<n
  .obtain⟨c,U⟩:=yac (l:=L) (k:=i) (by rw[H.o.2.2.2.2];exact hin)
   obtain⟨g,Ab,vk,vn,vs,la,ln,lc,rfl,O,Y,dv,z,y,x,u,t,s,m,h,d⟩:=ykY H.o.2.1 U;have N:=H.o.2.2.1 g O;rw[<-K.cell (p:=⟨g,_,none⟩) Y N]at z y x u t s m h d;have T:g<wr:=znj Y K.size;have Aa:(i:Int)<(n:Int):=by omega
   have Ac:wrap64 ((i:Int)+1)=(i:Int)+1:=by have:=H.o.2.2.2.1;unfold wrap64;omega
   have G:L.drop i=c::L.drop (i+1):=by
    rw[znr (zge U).1,(zge U).2]
   rw[G,ybi]at A;obtain⟨lt,M⟩:∃lt,yaU r.fired c=lt:=⟨_,rfl⟩;have LT:=zhd (fun X (B:Below wr wr X)=>yij rb b mb v p {r with next:=i} X (J.ext B) c.kind c.time c.a c.b c.name vk vn vs la ln lc c.v lt M);rw[M]at A;have HM:=zhd (show n - (i+1)<gk by omega);clear M;cases lt with
   |true=>
    rw[znm]at A;have D:=zh4 J Q K A;clear A G U I J Q K dv O V;go_wp2_with fail;refine(LT.o _ (znv _ _)).mono ?_;rintro e w2 ⟨rfl,C⟩;have R2:=D.o.1.ext C;obtain⟨s0,s1,s2,s3,s4,s5,sl,sf⟩:=R2.q;dsimp only at s0 s1 s2 s3 s4 s5;have P2:=R2.put 2 (.int .i64 ((i+1:Nat):Int)) {r with next:=i+1} rfl rfl rfl;have K2a:Keeps (fun j=>j=rb) wr w2:=(zkb (S:=fun _=>False) C).mono (fun _ _ f=>f.elim);have K2b:Keeps (fun j=>j=rb) w2 (w2.setCell ⟨rb,2,none⟩ (.int .i64 ((i+1:Nat):Int))):=Keeps.setCell (S:=fun j=>j=rb) (p:=⟨rb,2,none⟩) (Keeps.refl _ _) (.inl rfl) _;have K2c:=(D.o.2.2.1.trans K2a (fun _ _ e=>e)).trans K2b (fun _ _ e=>e);have P:=zh3 P2.1 ((D.o.2.1.trans (RPK.ext C)).trans P2.2) K2c;clear R2 P2 C K2a K2b K2c r0 r1 r2 r3 r4 r5 rl rf z y x u t s m h d T Y N;go_wp2_with fail;go_roundg (n - (i+1))
    case measure=>exact HM.o
    case rel=>exact⟨i+1,by rw[H.o.2.2.2.2];omega,by rw[H.o.2.2.2.2],P.o.1,P.o.2.1,P.o.2.2,D.o.2.2.2⟩
   |false=>
    rw[znl]at A;have D:=zh4 J Q K A;clear A G U I J Q K dv O V;go_wp2_with fail;refine(LT.o _ (znv _ _)).mono ?_;rintro e w2 ⟨rfl,C⟩;have P:=zhd C;clear C r0 r1 r2 r3 r4 r5 rl rf z y x u t s m h d T Y N;go_wp2_with fail
    go_end0
    exact⟨rfl,zhd ⟨by rw[<-D.o.2.2.2];exact D.o.1.ext P.o,D.o.2.1.trans (RPK.ext P.o),D.o.2.2.1.trans (zkb (S:=fun j=>j=rb) P.o) (fun _ _ e=>e)⟩⟩
  .obtain rfl:i=n:=by omega
   have Ad:¬(i:Int)<i:=by omega
   have G:L.drop i=[]:=zns (by rw[H.o.2.2.2.2];exact znc _);rw[G,ybi]at A;have D:=zh4 J Q K A;clear A G I J Q K V;go_wp2_with fail
   go_end0
   exact⟨rfl,zhd ⟨by rw[<-D.o.2.2.2];exact D.o.1,D.o.2.1,D.o.2.2.1⟩⟩
end Go.Proofs.YtpagmlndgblhhaaGreatDoor
