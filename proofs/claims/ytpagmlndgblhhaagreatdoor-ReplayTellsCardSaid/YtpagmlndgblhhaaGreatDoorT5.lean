/- Parts of the proof: what the functions and the plain laws give that later parts lean on. Conditions: none beyond those that each theorem names. -/
import Derived.Shelf.Strings.BuilderK
import Derived.Lib.Split
import Derived.Lib.ItoaLen
import Derived.Test.YtpagmlndgblhhaaGreatDoorT4
set_option maxRecDepth 100000
set_option maxHeartbeats 8000000
namespace Go.Va
open Go.Own Go.RowKit
open Cells (sz enc)
theorem RdF.elems {α:Type}[Cells α]{F:Nat->Prop}{w:World}{a:Option Addr}{n cap:Nat}{xs:List α}(h:RdF F w (.slice a n cap) xs):n=xs.length/\n<=maxLen/\∃g off,(a=some ⟨g,off,none⟩\/xs=[])/\∀(i:Nat) (x:α),xs[i]? =some x->F g/\g<w.heap.size/\∀j u,(enc x)[j]? =some u->w.cell? ⟨g,off+(i*sz α+j),none⟩=some u:=by
 have I:=h.length_le;obtain⟨P,H,hv,N,M,G⟩:=h;cases hv;refine⟨rfl,I,?_⟩;cases xs with
 |nil=>exact⟨0,0,.inr rfl,fun i x hx=>by simp at hx⟩
 |cons y r=>
  obtain⟨g,off,E,L,K,_⟩:=G 0 y rfl;refine⟨g,off,.inl E,fun i x hx=> ?_⟩;obtain⟨O,D,A,C,B,J⟩:=G i x hx;rw[E]at A;cases A;exact⟨C,B,J⟩
structure Img where
 code:List In
 consts:List Val
 names:List ByteArray
 places:Int
structure IC where
 ca:Option Addr
 cn:Nat
 cc:Nat
 ka:Option Addr
 kn:Nat
 kc:Nat
 na:Option Addr
 nn:Nat
 nc:Nat
 pl:Int
def IC.cells (i:IC):Array Value:=#[.slice i.ca i.cn i.cc,.slice i.ka i.kn i.kc,.slice i.na i.nn i.nc,.int .i64 i.pl]
structure IAt (F:Nat->Prop)(w:World)(i:IC)(p:Img):Prop where
 code:RdF F w (.slice i.ca i.cn i.cc) p.code
 consts:VF F w (.slice i.ka i.kn i.kc) p.consts
 names:RdF F w (.slice i.na i.nn i.nc) p.names
 pl:i.pl=p.places
theorem IAt.keep {F S:Nat->Prop}{w w':World}{i:IC}{p:Img}(h:IAt F w i p)(K:Keeps S w w')(hs:∀g,F g->¬S g):IAt F w' i p:=⟨h.code.keep K hs,h.consts.keep K hs,h.names.keep K hs,h.pl⟩
theorem IAt.mono {F G:Nat->Prop}{w:World}{i:IC}{p:Img}(h:IAt F w i p)(hs:∀g,F g->g<w.heap.size->G g):IAt G w i p:=⟨h.code.mono hs,h.consts.mono hs,h.names.mono hs,h.pl⟩
theorem IAt.lens {F:Nat->Prop}{w:World}{i:IC}{p:Img}(h:IAt F w i p):i.cn=p.code.length/\i.kn=p.consts.length/\i.nn=p.names.length:=⟨h.code.elems.1,h.consts.elems.1,h.names.elems.1⟩
def mostL (p:Img)(k:Int):Int:=
 bif k==1 then p.consts.length else bif k==2 then p.names.length else bif k==3 then p.places else bif k==4 then p.code.length else bif k==5 then 17 else 1
end Go.Va
namespace Go.Proofs.YtpagmlndgblhhaaGreatDoor
open Go.RowKit Go.Own Go.Own.MapTy Go.Va Go.Sort
open Go.Own.Cells (sz enc)
theorem ylQ (F:Nat->Prop)(w:World)(i:IC)(p:Img)(k:Int)(H:IAt F w i p):Calls Tryz.prog 94 #[.agg #[.slice i.ca i.cn i.cc,.slice i.ka i.kn i.kc,.slice i.na i.nn i.nc,i.pl],k] w fun e w'=>e= .returned (.int .i64 (mostL p k))/\Below w w w':=by
 obtain⟨E,D,C⟩:=H.lens;have B:=H.pl;have A:mostL p k=bif k==1 then(i.kn:Int)else bif k==2 then(i.nn:Int)else bif k==3 then i.pl else bif k==4 then(i.cn:Int)else bif k==5 then 17 else 1:=by rw[E,D,C,B];rfl
 rw[A];clear H E D C B A;obtain⟨ca,cn,cc,ka,kn,kc,na,nn,nc,pl⟩:=i;dsimp only;go_in;go_wp2_with fail
 all_goals
  go_ret;exact⟨by simp only[*,znm,znl];rfl,zal⟩
def ybx (p:Img):List In->Int
 |[]=>0
 |c::r=>bif !(ofL c.op).2 then 110 else bif decide (c.a<0)||decide (mostL p (ofL c.op).1.operand<=c.a)then 1 else ybx p r
def ybj:List ByteArray->Int
 |[]=>0
 |s::r=>bif decide (64<s.size)then 2 else ybj r
def yaL:List Val->Int
 |[]=>0
 |x::r=>bif checkL x !=0 then checkL x else yaL r
def imgL (p:Img):Int:=
 bif decide (p.code.length=0)then 6 else
 bif decide (512<p.code.length)||(decide (64<p.consts.length)||decide (32<p.names.length))then 2 else
 bif decide (p.places<0)||decide (16<p.places)then 1 else
 bif yaL p.consts !=0 then yaL p.consts else
 bif ybj p.names !=0 then ybj p.names else ybx p p.code
theorem yhx
  (F:Nat->Prop)(w:World)(i:IC)(p:Img)(H:IAt F w i p)(r:Int)
  (h:p.code.length=0)(hr:r=6):
  Calls Tryz.prog 48 #[.agg #[.slice i.ca i.cn i.cc,.slice i.ka i.kn i.kc,.slice i.na i.nn i.nc,i.pl]] w fun e w'=>e= .returned (.int .i64 r)/\Below w w w'
  :=by
 subst hr;have A:=H.lens.1;obtain⟨ca,cn,cc,ka,kn,kc,na,nn,nc,pl⟩:=i;obtain rfl:cn=0:=by rw[<-h];exact A
 clear H h A;dsimp only;go_in;go_wp2;go_ret;exact⟨rfl,zal⟩
theorem yjp
  (F:Nat->Prop)(w:World)(i:IC)(p:Img)(H:IAt F w i p)(r:Int)
  (h0:¬p.code.length=0)(h:512<p.code.length\/64<p.consts.length\/32<p.names.length)(hr:r=2):
  Calls Tryz.prog 48 #[.agg #[.slice i.ca i.cn i.cc,.slice i.ka i.kn i.kc,.slice i.na i.nn i.nc,i.pl]] w fun e w'=>e= .returned (.int .i64 r)/\Below w w w'
  :=by
 subst hr;obtain⟨C,B,A⟩:=H.lens;obtain⟨ca,cn,cc,ka,kn,kc,na,nn,nc,pl⟩:=i;dsimp only at C B A;rw[<-C]at h h0;rw[<-B,<-A]at h;clear H C B A;have I:((cn:Int)==0)=false:=by rw[zna];omega
 dsimp only;go_in;by_cases g1:512<cn
 .have E:(512:Int)<cn:=by omega
  clear h h0;go_wp2;go_ret;exact⟨rfl,zal⟩
 .have E:¬(512:Int)<cn:=by omega
  by_cases g2:64<kn
  .have D:(64:Int)<kn:=by omega
   clear h h0;go_wp2;go_ret;exact⟨rfl,zal⟩
  .have D:¬(64:Int)<kn:=by omega
   have G:(32:Int)<nn:=by omega
   clear h h0;go_wp2;go_ret;exact⟨rfl,zal⟩
theorem ygp
  (F:Nat->Prop)(w:World)(i:IC)(p:Img)(H:IAt F w i p)(r:Int)
  (h0:¬p.code.length=0)(h:p.code.length<=512/\p.consts.length<=64/\p.names.length<=32)(hp:p.places<0\/16<p.places)(hr:r=1):
  Calls Tryz.prog 48 #[.agg #[.slice i.ca i.cn i.cc,.slice i.ka i.kn i.kc,.slice i.na i.nn i.nc,i.pl]] w fun e w'=>e= .returned (.int .i64 r)/\Below w w w'
  :=by
 subst hr;obtain⟨D,C,B⟩:=H.lens;have A:=H.pl;obtain⟨ca,cn,cc,ka,kn,kc,na,nn,nc,pl⟩:=i;dsimp only at D C B A;rw[<-D]at h h0;rw[<-C,<-B]at h;rw[<-A]at hp;clear H D C B A;have K:((cn:Int)==0)=false:=by rw[zna];omega
 have J:¬(512:Int)<cn:=by omega
 have I:¬(64:Int)<kn:=by omega
 have G:¬(32:Int)<nn:=by omega
 dsimp only;go_in;by_cases g1:pl<0
 .clear h h0 hp
  go_wp2;go_ret;exact⟨rfl,zal⟩
 .have E:16<pl:=by omega
  clear h h0 hp;go_wp2;go_ret;exact⟨rfl,zal⟩
theorem yjo
  (F:Nat->Prop)(w:World)(i:IC)(p:Img)(H:IAt F w i p)(r:Int)
  (hw:∀x∈p.consts,x.wf)(h0:¬p.code.length=0)(h:p.code.length<=512/\p.consts.length<=64/\p.names.length<=32)(hp:0<=p.places/\p.places<=16)
  (hr:(bif yaL p.consts !=0 then yaL p.consts else bif ybj p.names !=0 then ybj p.names else ybx p p.code)=r):
  Calls Tryz.prog 48 #[.agg #[.slice i.ca i.cn i.cc,.slice i.ka i.kn i.kc,.slice i.na i.nn i.nc,i.pl]] w fun e w'=>e= .returned (.int .i64 r)/\Below w w w'
  :=by
 obtain⟨h1,h2,h3⟩:=H.lens;have h4:=H.pl;have HI:=zhd H;have B:=H.code.elems.2.2;have hk:=H.consts.elems.2.2;have hn:=H.names.elems.2.2;obtain⟨ca,cn,cc,ka,kn,kc,na,nn,nc,pl⟩:=i;dsimp only at h1 h2 h3 h4 B hk hn;have HE:=zh5 B hk hn hw hr;have Q:=zh3 h1 h2 h3;rw[<-h1]at h h0;rw[<-h2,<-h3]at h;rw[<-h4]at hp;clear H h1 h2 h3 h4 B hk hn hw hr;have e0:((cn:Int)==0)=false:=by rw[zna];omega
 have e1:¬(512:Int)<cn:=by omega
 have e2:¬(64:Int)<kn:=by omega
 have e3:¬(32:Int)<nn:=by omega
 have e4:¬pl<0:=by omega
 have e5:¬(16:Int)<pl:=by omega
 obtain⟨g1,g2,g3⟩:=h;dsimp only;go_in;go_wp2_with fail;obtain⟨z,Y⟩:∃z,z=w.alloc (.cells #[.slice ca cn cc,.slice ka kn kc,.slice na nn nc,pl] 28):=⟨_,rfl⟩;have B0:=zba Y;have q:∀o,z.cell? ⟨w,o,none⟩=(#[.slice ca cn cc,.slice ka kn kc,.slice na nn nc,.int .i64 pl]:Array Value)[o]? :=fun o=>by rw[Y,zch (znb _ _)]
 have Aa:z.heap.size=w.heap.size+1:=by rw[Y];simp
 rw[<-Y];have H0:=zh3 B0 q Aa;clear Y B0 q Aa e0 e1 e2 e3 e4 e5;go_loopg [46] (p.consts.length) (fun gk v46 wr=>∃i:Nat,v46= .int .i64 i/\i<=p.consts.length/\gk=p.consts.length - i/\yaL (p.consts.drop i)=yaL p.consts/\Below z z wr)
 case atStart=>exact⟨0,rfl,znq _,rfl,rfl,znv _ _⟩
 case round=>
  obtain⟨i,rfl,hi,E,C,N⟩:=hrel;have b:=N.size;have R:=H0.o.1.trans (N.mono (show w<=z.heap.size by have:=H0.o.2.2;omega));by_cases hin:i<kn
  .obtain⟨x,G⟩:=yac (l:=p.consts) (k:=i) (by have:=Q.o.2.1;omega)
   have K:p.consts.drop i=x::p.consts.drop (i+1):=by
    rw[znr (zge G).1,(zge G).2]
   rw[K,yaL]at C;obtain⟨g,I,v,Ab,hg,J⟩:=HE.o.2.1.resolve_left (fun e=>by rw[e]at G;simp at G);obtain⟨d,hD,m0,m1,m2,m3⟩:=J i x G;subst v;have As:g<wr:=by have:=R.size;omega
   rw[<-R.cell (p:=⟨g,_,none⟩) hg]at m0 m1 m2 m3;have Ao:(i:Int)<kn:=by omega
   have CK:=zhd (yaE x d.kind d.n d.s d.la d.ln d.lc _ _ (hD.keep (S:=fun _=>False) ((zkb R).alloc (.cells #[d.kind,d.n,d.s,.slice d.la d.ln d.lc] 38)) (fun _ _ f=>f)) (HE.o.2.2.2.1 x (zmg G)) _ rfl);generalize checkL x=cl at*;have M:=zh4 C E N R;clear C E N R J hD G K;go_wp2_with fail;refine CK.o.mono ?_;rintro e w5 ⟨rfl,L⟩;have H5:=zhd (show Below wr wr w5 from(zal).trans (L.mono (by simp)));clear L CK;cases hz:(cl !=0)with
   |true=>
    have hr:=HE.o.2.2.2.2;have B:=M.o.1;rw[hz]at B;simp only[znm]at B;rw[<-B,hz]at hr;simp only[znm]at hr;have U:=zhd hr;clear hr B;go_wp2;go_ret;exact⟨by rw[<-U.o];rfl,M.o.2.2.2.trans (H5.o.mono M.o.2.2.2.size)⟩
   |false=>
    have B:=M.o.1;rw[hz]at B;simp only[znl]at B;have HC:=zhd B;clear B;go_wp2_with fail;go_roundg (p.consts.length - (i+1))
    case measure=>have:=M.o.2.1;have:=Q.o.2.1;omega
    case rel=>exact⟨i+1,by simp,by have:=Q.o.2.1;omega,rfl,HC.o,M.o.2.2.1.trans (H5.o.mono b)⟩
  .obtain rfl:i=kn:=by have:=Q.o.2.1;omega
   have O:p.consts.drop i=[]:=zns (by have:=Q.o.2.1;omega);rw[O,yaL]at C;have hr:=HE.o.2.2.2.2;rw[<-C]at hr;simp only[bne_self_eq_false,znl]at hr;have Ad:=zhd hr;have t:w<z.heap.size:=by have:=H0.o.2.2;omega
   have q0:=(N.cell (p:=⟨w,0,none⟩) t).trans (H0.o.2.1 0);have q1:=(N.cell (p:=⟨w,1,none⟩) t).trans (H0.o.2.1 1);have q2:=(N.cell (p:=⟨w,2,none⟩) t).trans (H0.o.2.1 2);have q3:=(N.cell (p:=⟨w,3,none⟩) t).trans (H0.o.2.1 3);simp only[zmc,zma,zmb]at q0 q1 q2 q3;have m:w<wr.heap.size:=by omega
   have a:=zhd R;obtain⟨y,X⟩:∃y,y=wr:=⟨_,rfl⟩;rw[<-X]at q0 q1 q2 q3 m a|-;clear hr C E O N R hin hi X b;go_wp2_with fail;go_loopg [59] (p.names.length) (fun gk v59 wr=>∃i:Nat,v59= .int .i64 i/\i<=p.names.length/\gk=p.names.length - i/\ybj (p.names.drop i)=ybj p.names/\wr=y)
   case atStart=>exact⟨0,rfl,znq _,rfl,rfl,rfl⟩
   case round=>
    obtain⟨j,rfl,hj,E,D,Aj⟩:=hrel;subst Aj;by_cases hjn:j<nn
    .obtain⟨x,G⟩:=yac (l:=p.names) (k:=j) (by have:=Q.o.2.2;omega)
     have K:p.names.drop j=x::p.names.drop (j+1):=by
      rw[znr (zge G).1,(zge G).2]
     rw[K,ybj]at D;obtain⟨g,I,v,J⟩:=HE.o.2.2.1;obtain⟨Ab,hg,P⟩:=J j x G;have v:=v.resolve_right (fun e=>by rw[e]at G;simp at G);subst v;have m0:=P 0 _ rfl;rw[show I+(j*sz ByteArray+0)=I+j from by simp[Cells.sz]]at m0;rw[<-a.o.cell (p:=⟨g,_,none⟩) hg]at m0;have An:(j:Int)<nn:=by omega
     cases hz:decide (64<x.size)with
     |true=>
      have h5:(64:Int)<x.size:=by have:=znx hz;omega
      rw[hz]at D;simp only[znm]at D;have hr:=Ad.o;rw[<-D]at hr;have U:=zhd hr;clear hr D E K G P J hz;go_wp2;go_ret;exact⟨by rw[<-U.o];rfl,a.o⟩
     |false=>
      have h5:¬(64:Int)<x.size:=by have:=zny hz;omega
      rw[hz]at D;simp only[znl]at D;have M:=zh2 D E;clear D E K G P J hz;go_wp2_with fail;go_roundg (p.names.length - (j+1))
      case measure=>have:=M.o.2;have:=Q.o.2.2;omega
      case rel=>exact⟨j+1,by simp,by have:=Q.o.2.2;omega,rfl,M.o.1,rfl⟩
    .obtain rfl:j=nn:=by have:=Q.o.2.2;omega
     have O:p.names.drop j=[]:=zns (by have:=Q.o.2.2;omega);rw[O,ybj]at D;have hr:=Ad.o;rw[<-D]at hr;simp only[bne_self_eq_false,znl]at hr;have Ak:=zhd hr;clear hr D E O hjn hj;obtain⟨y,X⟩:∃y,y=wr:=⟨_,rfl⟩;rw[<-X]at q0 q1 q2 q3 m a|-;clear X;go_wp2_with fail;go_loopg [70] (p.code.length) (fun gk v70 wr=>∃i:Nat,v70= .int .i64 i/\i<=p.code.length/\gk=p.code.length - i/\ybx p (p.code.drop i)=r/\Below y y wr)
     case atStart=>exact⟨0,rfl,znq _,rfl,Ak.o,znv _ _⟩
     case round=>
      obtain⟨k,rfl,hk,E,C,N⟩:=hrel;have b:=N.size;have Ah:w<wr.heap.size:=by omega
      have R:=a.o.trans (N.mono (zmn m));rw[<-N.cell (p:=⟨w,_,none⟩) m]at q0 q1 q2 q3;by_cases hkn:k<cn
      .obtain⟨c,G⟩:=yac (l:=p.code) (k:=k) (by have:=Q.o.1;omega)
       have K:p.code.drop k=c::p.code.drop (k+1):=by
        rw[znr (zge G).1,(zge G).2]
       rw[K,ybx]at C;obtain⟨g,I,v,J⟩:=HE.o.1;obtain⟨Ab,hg,P⟩:=J k c G;have v:=v.resolve_right (fun e=>by rw[e]at G;simp at G);subst v;have m0:=P 0 _ rfl;have m1:=P 1 _ rfl;rw[show I+(k*sz In+0)=I+k*2 from rfl,<-R.cell (p:=⟨g,_,none⟩) hg]at m0;rw[show I+(k*sz In+1)=I+k*2+1 from rfl,<-R.cell (p:=⟨g,_,none⟩) hg]at m1;have Am:(k:Int)<cn:=by omega
       obtain⟨A,ok,u⟩:∃A ok,ofL c.op=(A,ok):=⟨_,_,rfl⟩;have OF:=zhd (show∀W,Calls Tryz.prog 92 #[c.op] W (fun e w'=>e= .returned (.tuple #[.agg #[A.name,A.operand,A.i,A.o,A.blocks,A.ends,A.flow],ok])/\Below W W w')from fun W=>(yf0 c.op W).mono fun e w' ⟨j1,j2⟩=>⟨by rw[j1,u];rfl,j2⟩);rw[u]at C;obtain⟨Ac,cav⟩:=c;dsimp only at m0 m1 OF C u;have M:=zh3 E N R;have Ae:=zhd C;clear E N R P J K G C u;go_wp2_with fail;refine(OF.o _).mono ?_;rintro e w5 ⟨rfl,L⟩;have Ai:wr<w5.heap.size:=by have:=L.size;simp at this;omega
       have i0:w5.cell? ⟨wr,0,none⟩=some (.int .i64 Ac):=by rw[L.cell (p:=⟨wr,0,none⟩) (by simp),zch (znb _ _)];rfl
       have i1:w5.cell? ⟨wr,1,none⟩=some (.int .i64 cav):=by rw[L.cell (p:=⟨wr,1,none⟩) (by simp),zch (znb _ _)];rfl
       have B5:Below wr wr w5:=((znv _ _).alloc (znc _) (.cells #[Ac,cav] 106)).trans (L.mono (by simp));have Ag:=zhd B5;clear L OF;cases ok with
       |false=>
        have B:=Ae.o;simp only[Bool.not_false,znm]at B;have U:=zhd B;clear B B5;go_wp2;go_ret;exact⟨by rw[<-U.o];rfl,(M.o.2.2.trans (Ag.o.mono M.o.2.2.size)).alloc (by have:=M.o.2.2.size;omega) _⟩
       |true=>
        have B:=Ae.o;simp only[Bool.not_true,znl]at B;obtain⟨w6,T⟩:∃w6,w6=w5.alloc (.cells #[A.name,A.operand,A.i,A.o,A.blocks,A.ends,A.flow] 169):=⟨_,rfl⟩;have B6:Below wr wr w6:=by rw[T];exact B5.alloc (by omega) _
        have Ap:w5<w6.heap.size:=by rw[T];simp
        have u1:w6.cell? ⟨w5,1,none⟩=some (.int .i64 A.operand):=by rw[T,zch (znb _ _)];rfl
        have i1:w6.cell? ⟨wr,1,none⟩=some (.int .i64 cav):=by rw[T];exact(znt (w:=w5) (zne _ _ _ Ai)).trans i1
        rw[<-B6.cell (p:=⟨w,_,none⟩) Ah]at q0 q1 q2 q3;have Ar:w<w6.heap.size:=by omega
        have Aq:wr<w6.heap.size:=by omega
        have V:=zhd (M.o.2.2.trans (B6.mono M.o.2.2.size));have Af:=zhd (M.o.2.1.trans (B6.mono b));go_wp2_with fail;rw[<-T];clear T B5 B6 Ag;cases hneg:decide (cav<0)with
        |true=>
         rw[hneg]at B;simp only[Bool.true_or,znm]at B;have U:=zhd B;have h6:cav<0:=znx hneg;clear B;refine yaF (by kernel_rfl) (by kernel_rfl) ?_
         repeat(go_big_quiet_step (fail))
         refine wpQuiet_nil ?_;intro w7 Z;go_wp2;go_ret;exact⟨by rw[<-U.o];rfl,V.o.trans (Z.mono V.o.size)⟩
        |false=>
         rw[hneg]at B;simp only[Bool.false_or]at B;have h6:¬cav<0:=zny hneg;have MO:=zhd (fun W (hW:Below w6 w6 W)=>ylQ _ W ⟨some ⟨g,I,none⟩,cn,cc,ka,i,kc,na,j,nc,pl⟩ p A.operand (HI.o.keep (S:=fun _=>False) (zkb (V.o.trans (hW.mono V.o.size))) (fun _ _ f=>f)));generalize mostL p A.operand=mo at*;cases hge:decide (mo<=cav)with
         |true=>
          rw[hge]at B;simp only[znm]at B;have U:=zhd B;have h7:mo<=cav:=znx hge;clear B hneg hge;refine yaF (by kernel_rfl) (by kernel_rfl) ?_
          repeat(go_big_quiet_step ((go_at_call 94;exact ydQ (MO.o _ (Subtype.property _)))))
          refine wpQuiet_nil ?_;intro w7 Z;go_wp2;go_ret;exact⟨by rw[<-U.o];rfl,V.o.trans (Z.mono V.o.size)⟩
         |false=>
          rw[hge]at B;simp only[znl]at B;have U:=zhd B;have h7:¬mo<=cav:=zny hge;clear B hneg hge;refine yaF (by kernel_rfl) (by kernel_rfl) ?_
          repeat(go_big_quiet_step ((go_at_call 94;exact ydQ (MO.o _ (Subtype.property _)))))
          refine wpQuiet_nil ?_;intro w7 Z;go_wp2_with fail;go_roundg (p.code.length - (k+1))
          case measure=>have:=M.o.1;have:=Q.o.1;omega
          case rel=>exact⟨k+1,by simp,by have:=Q.o.1;omega,rfl,U.o,Af.o.trans (Z.mono Af.o.size)⟩
      .obtain rfl:k=cn:=by have:=Q.o.1;omega
       have O:p.code.drop k=[]:=zns (by have:=Q.o.1;omega);rw[O,ybx]at C;have U:=zhd C;have Al:=zhd R;clear C E N R;go_wp2;go_ret;exact⟨by rw[<-U.o];rfl,Al.o⟩
theorem ydx
  (F:Nat->Prop)(w:World)(i:IC)(p:Img)(H:IAt F w i p)(r:Int)
  (hw:∀x∈p.consts,x.wf)(hr:imgL p=r):
  Calls Tryz.prog 48 #[.agg #[.slice i.ca i.cn i.cc,.slice i.ka i.kn i.kc,.slice i.na i.nn i.nc,i.pl]] w fun e w'=>e= .returned (.int .i64 r)/\Below w w w'
  :=by
 unfold imgL at hr;by_cases h0:p.code.length=0
 .rw[zno h0]at hr
  exact yhx F w i p H r h0 hr.symm
 .rw[znd h0]at hr
  simp only[znl]at hr;by_cases h1:512<p.code.length\/64<p.consts.length\/32<p.names.length
  .have e:(decide (512<p.code.length)||(decide (64<p.consts.length)||decide (32<p.names.length)))=true:=by simpa using h1
   rw[e]at hr;exact yjp F w i p H r h0 h1 hr.symm
  .have e:(decide (512<p.code.length)||(decide (64<p.consts.length)||decide (32<p.names.length)))=false:=by
    rw[Bool.eq_false_iff];exact fun h=>h1 (by simpa using h)
   rw[e]at hr;simp only[znl]at hr;by_cases h2:p.places<0\/16<p.places
   .have e:(decide (p.places<0)||decide (16<p.places))=true:=by simpa using h2
    rw[e]at hr;exact ygp F w i p H r h0 (by omega) h2 hr.symm
   .have e:(decide (p.places<0)||decide (16<p.places))=false:=by
     rw[Bool.eq_false_iff];exact fun h=>h2 (by simpa using h)
    rw[e]at hr;exact yjo F w i p H r hw h0 (by omega) (by omega) hr
end Go.Proofs.YtpagmlndgblhhaaGreatDoor
namespace Go.Va
open Go.Own Go.RowKit
structure SK (b:Nat)(w w':World):Prop where
 below:Below b w w'
 kept:Lib.OthersKept 5 (some b) w w'
def ypV (n:Nat):UInt8:=if n<10 then UInt8.ofNat (48+n)else UInt8.ofNat (87+n)
def yqb (c:UInt8):List UInt8:=if c.toNat=34\/c.toNat=92 then[92,c]else if c.toNat<32\/126<c.toNat then[92,120,ypV (c.toNat/16),ypV (c.toNat%16)]else[c]
def yn6 (s:List UInt8):List UInt8:=34::(s.flatMap yqb++[34])
end Go.Va
namespace Go.Proofs.YtpagmlndgblhhaaGreatDoor
open Go.RowKit Go.Own Go.Own.MapTy Go.Va Go.Sort
open Go.Own.Cells (sz enc)
def yc2:List ByteArray->Nat->RSt->(Int×Int)×RSt
 |[],_,st=>((0,0),st)
 |l::r,n,st=>bif (lineL ((n:Int)+1) l st).1 !=0 then(((n:Int)+1,(lineL ((n:Int)+1) l st).1),(lineL ((n:Int)+1) l st).2)else yc2 r (n+1) (lineL ((n:Int)+1) l st).2
def ypa (code:List In)(at_:Nat)(tg:Int):List In:=code.modify at_ (fun c=>{c with a:=tg})
def yel (labels:List (ByteArray×Int)):List Jp->List In->(Int×Int)×List In
 |[],code=>((0,0),code)
 |j::r,code=>match MapTy.get labels j.label with
  |none=>((j.line,120),code)
  |some tg=>bif tg==code.length then((j.line,120),code)else yel labels r (ypa code j.at_.toNat tg)
def st0:RSt:=⟨[],[],[],0,[],[]⟩
def yfs:Img:=⟨[],[],[],0⟩
def textL (s:ByteArray):List ByteArray:=Lib.splitB ⟨#[10]⟩ 0 (Lib.countB ⟨(Lib.trimSuffix s.data.toList [10]).toArray⟩ ⟨#[10]⟩) ⟨(Lib.trimSuffix s.data.toList [10]).toArray⟩
def ypu (s:ByteArray):Img×Int×Int:=
 bif decide (65536<s.size)then(yfs,0,2)else
 bif !(Lib.hasSuffix s.data.toList [10])then(yfs,0,8)else
 let q:=yc2 (textL s) 0 st0
 bif q.1.2 !=0 then(yfs,q.1.1,q.1.2)else
 let j:=yel q.2.labels q.2.jumps q.2.code
 bif j.1.2 !=0 then(yfs,j.1.1,j.1.2)else
 let p:Img:=⟨j.2,q.2.consts,q.2.names,q.2.places⟩
 bif imgL p !=0 then(yfs,0,imgL p)else(p,0,0)
structure Small (n:Nat)(st:RSt):Prop where
 code:st.code.length<=n
 consts:st.consts.length<=n
 names:st.names.length<=n
 jumps:st.jumps.length<=n
 p0:0<=st.places
 p1:st.places<=100
 wf:∀x∈st.consts,x.wf
 at_:∀j∈st.jumps,0<=j.at_/\j.at_.toNat<65537
theorem ymn {x:Val}{l l':List Val}{i:Nat}(h:yfK x l=(i,l')):l'.length<=l.length+1/\∀y∈l',y∈l\/y=x:=by
 unfold yfK at h;split at h
 .cases h;exact⟨by omega,fun y hy=>.inl hy⟩
 .cases h;exact⟨by simp,fun y hy=>by simpa using hy⟩
def ynQ (st:RSt):Prop:=∀j∈st.jumps,0<=j.at_/\j.at_.toNat<st.code.length
theorem ylJ {kind line:Int}{s:ByteArray}{st:RSt}(h:ynQ st):∀j∈(operL kind line s st).2.2.jumps,0<=j.at_/\j.at_.toNat<st.code.length+1:=by
 have B:∀j∈st.jumps,0<=j.at_/\j.at_.toNat<st.code.length+1:=fun j A=>by have:=h j A;omega
 unfold operL;split
 .split<;>exact B
 .split
  .split<;>exact B
  .split
   .split
    .intro j A
     simp at A;rcases A with A|rfl
     .exact B j A
     .dsimp only;omega
    .exact B
   .split
    .exact B
    .dsimp only
     split<;>exact B
theorem ylV {line:Int}{s:ByteArray}{st:RSt}(h:ynQ st):(lineL line s st).1=0->ynQ (lineL line s st).2:=by
 unfold lineL;split
 .split
  .exact fun _=>h
  .exact fun _=>h
 .split
  .exact fun _=>h
  .split
   .exact fun _=>h
   .rename_i A _
    split
    .exact fun _=>h
    .split
     .have E:=ylJ (kind:=(ofL A).1.operand) (line:=line) (s:=yc7 s) h
      have D:=yi4 (ofL A).1.operand line (yc7 s) st;generalize operL (ofL A).1.operand line (yc7 s) st=q at E D;split
      .rename_i B
       exact fun e=>absurd e B
      .intro _ j C
       have:=E j C;simp only[znk,List.length_cons,List.length_nil,D];omega
     .intro _ j C
      have:=h j C;simp only[znk,List.length_cons,List.length_nil];omega
theorem yf9:∀(ls:List ByteArray) (n:Nat) (st:RSt),ynQ st->(yc2 ls n st).1.2=0->ynQ (yc2 ls n st).2
 |[],_,_,h,_=>h
 |l::r,n,st,h,hz=>by
  rw[yc2]at hz|-;cases hb:((lineL ((n:Int)+1) l st).1 !=0)with
  |true=>
   rw[hb]at hz;simp only[znm]at hz;rw[hz]at hb;cases hb
  |false=>
   rw[hb]at hz;simp only[znl]at hz|-;exact yf9 r _ _ (ylV h (by simpa using hb)) hz
theorem ylx {code:List In}{i:Nat}{x:In}(hx:code[i]? =some x)(tg:Int):ypa code i tg=code.set i {x with a:=tg}:=by
 unfold ypa;apply List.ext_getElem?;intro k;rw[List.getElem?_modify,List.getElem?_set];by_cases h:i=k
 .subst h
  obtain⟨B,A⟩:=zge hx;simp[B,A]
 .simp[h]
def yoW (w:World)(r:Img×Int×Int)(e:Ending)(w':World):Prop:=
 ∃i:IC,e= .returned (.tuple #[.agg #[.slice i.ca i.cn i.cc,.slice i.ka i.kn i.kc,.slice i.na i.nn i.nc,i.pl],.agg #[.int .i64 r.2.1,.int .i64 r.2.2]])/\IAt (fun j=>w<=j) w' i r.1/\Below w w w'
theorem ydN (F:Nat->Prop)(w:World):IAt F w ⟨none,0,0,none,0,0,none,0,0,0⟩ yfs:=⟨RdF.nil _ _,VF.nil _ _,RdF.nil _ _,rfl⟩
def v0 (mb:Nat):RV:=⟨.slice none 0 0,.slice none 0 0,.slice none 0 0,.slice none 0 0,0,some mb⟩
theorem ynZ {Z:Nat->Prop}{W:World}{b mb:Nat}(hb:W.heap[b]? =some (.cells #[.slice none 0 0,.slice none 0 0,.slice none 0 0,.int .i64 0,.map (some mb),.slice none 0 0] 97 (0,0)))(hm:W.heap[mb]? =some (.map #[] 0)):RX Z W b (v0 mb) st0:=by
 have A:mb≠b:=fun e=>by rw[e,hb]at hm;cases hm
 refine⟨hb,RowAt.nil _ _,VRow.nil _ _ _,RowAt.nil _ _,RowAt.nil _ _,rfl,fun m h=> ?_,⟨(fun j h=> ?_),(fun j h=>by cases h),(fun j h=>by cases h),(fun j h=>by cases h),(fun j h=>by cases h)⟩⟩
 .cases h
  exact⟨#[],0,hm,rfl,by simp[st0]⟩
 .cases h
  exact A
theorem ynV:Small 0 st0:=⟨znc _,znc _,znc _,znc _,by decide,by decide,(fun x h=>by cases h),(fun j h=>by cases h)⟩
def yqo (Z:Nat->Prop)(W2:World)(b:Nat)(v:RV)(st:RSt)(q:(Int×Int)×List In)(gk:Nat)(v54:Value)(wr:World):Prop:=
 ∃(k:Nat) (code:List In),v54= .int .i64 k/\k<=st.jumps.length/\gk=st.jumps.length - k/\RX Z wr b v {st with code:=code}/\code.length=st.code.length/\yel st.labels (st.jumps.drop k) code=q/\RK b v W2 v wr
def ypI (Z:Nat->Prop)(W2:World)(b mb:Nat)(ls:List ByteArray)(q:(Int×Int)×RSt)(gk:Nat)(v32:Value)(wr:World):Prop:=
 ∃(i:Nat) (st:RSt) (v:RV),v32= .int .i64 i/\i<=ls.length/\gk=ls.length - i/\RX Z wr b v st/\v.mb=some mb/\Small i st/\yc2 (ls.drop i) i st=q/\RK b (v0 mb) W2 v wr
theorem ykl:∀ls:List ByteArray,ls.map Value.string=ls.flatMap Cells.enc
 |[]=>rfl
 |a::r=>by rw[List.map_cons,List.flatMap_cons,ykl r];rfl
theorem ycp {mb b j:Nat}(h:Go.Va.RO (v0 mb) b j):j=b\/j=mb:=by
 rcases h with h|h|h|h|h|h
 .exact .inl h
 .exact .inr (Option.some.inj h).symm
 all_goals cases h
theorem yd5 (sep:ByteArray)(n:Nat):∀(k:Nat) (s:ByteArray),s.size<=n->∀x∈Lib.splitB sep 0 k s,x.size<=n
 |0,s,h,x,hx=>by
  rw[Lib.splitB_zero,List.mem_singleton]at hx;rw[hx];exact h
 |k+1,s,h,x,hx=>by
  unfold Lib.splitB at hx;split at hx
  .rw[List.mem_singleton]at hx
   rw[hx];exact h
  .rcases List.mem_cons.1 hx with e|e
   .rw[e,ByteArray.size_extract];omega
   .exact yd5 sep n k _ (by rw[ByteArray.size_extract];omega) x e
theorem yeW {S:Nat->Prop}{N:Nat}{w w':World}(h:Keeps S w w')(hs:∀j,S j->N<=j)(hN:N<=w.heap.size):Below N w w':=⟨h.os,h.tape,h.output,h.size,fun k hk=>h.block k (by omega) (fun e=>by have:=hs k e;omega)⟩
theorem ycs {S:Nat->Prop}{N:Nat}{w w':World}(K:Keeps S w w')(hs:∀j,S j->N<=j)(hN:N<=w.heap.size)(b1 b2 b3 b4 b5 b6 o1 o2 o3 o4 o5 o6:Nat)(v1 v2 v3 v4 v5 v6:Value)(h1:N<=b1)(h2:N<=b2)(h3:N<=b3)(h4:N<=b4)(h5:N<=b5)(h6:N<=b6):
  Below N w ((((((w'.setCell ⟨b1,o1,none⟩ v1).setCell ⟨b2,o2,none⟩ v2).setCell ⟨b3,o3,none⟩ v3).setCell ⟨b4,o4,none⟩ v4).setCell ⟨b5,o5,none⟩ v5).setCell ⟨b6,o6,none⟩ v6):=by
 have G:Keeps (fun j=>N<=j) w w':=K.mono (fun j _ e=>hs j e);have F:=Keeps.setCell (p:=⟨b1,o1,none⟩) G (.inl h1) v1;have E:=Keeps.setCell (p:=⟨b2,o2,none⟩) F (.inl h2) v2;have D:=Keeps.setCell (p:=⟨b3,o3,none⟩) E (.inl h3) v3;have C:=Keeps.setCell (p:=⟨b4,o4,none⟩) D (.inl h4) v4;have B:=Keeps.setCell (p:=⟨b5,o5,none⟩) C (.inl h5) v5;have A:=Keeps.setCell (p:=⟨b6,o6,none⟩) B (.inl h6) v6;exact yeW A (fun j hj=>hj) hN
theorem yjS (w':World)(b1 b2 o1 o2 o3 o4 o5 o6:Nat)(v1 v2 v3 v4 v5 v6:Value):
  Keeps (fun j=>j=b1\/j=b2) w' ((((((w'.setCell ⟨b1,o1,none⟩ v1).setCell ⟨b1,o2,none⟩ v2).setCell ⟨b1,o3,none⟩ v3).setCell ⟨b1,o4,none⟩ v4).setCell ⟨b2,o5,none⟩ v5).setCell ⟨b2,o6,none⟩ v6):=by
 have F:Keeps (fun j=>j=b1\/j=b2) w' w':=Keeps.refl _ _;have E:=Keeps.setCell (p:=⟨b1,o1,none⟩) F (.inl (.inl rfl)) v1;have D:=Keeps.setCell (p:=⟨b1,o2,none⟩) E (.inl (.inl rfl)) v2;have C:=Keeps.setCell (p:=⟨b1,o3,none⟩) D (.inl (.inl rfl)) v3;have B:=Keeps.setCell (p:=⟨b1,o4,none⟩) C (.inl (.inl rfl)) v4;have A:=Keeps.setCell (p:=⟨b2,o5,none⟩) B (.inl (.inr rfl)) v5;exact Keeps.setCell (p:=⟨b2,o6,none⟩) A (.inl (.inr rfl)) v6
theorem yn0 {w:World}{e:TypeId}{xs:List Jp}{g off n cap:Nat}(h:RowAt w e (.slice (some ⟨g,off,none⟩) n cap) xs){i:Nat}{x:Jp}(hx:xs[i]? =some x):w.cell? ⟨g,off+i*3,none⟩=some (.int .i64 x.at_)/\w.cell? ⟨g,off+i*3+1,none⟩=some (.int .i64 x.line)/\w.cell? ⟨g,off+i*3+2,none⟩=some (.string x.label):=by
 have C:=h.cell hx (j:=0) (by decide);have B:=h.cell hx (j:=1) (by decide);have A:=h.cell hx (j:=2) (by decide);exact⟨C,B,A⟩
theorem ymT {Z:Nat->Prop}{W:World}{b:Nat}{v:RV}{st:RSt}(R:RX Z W b v st){g off n cap:Nat}(hv:v.vc= .slice (some ⟨g,off,none⟩) n cap){i:Nat}{x:In}(hx:st.code[i]? =some x)(tg:Int):
  RX Z (W.setCell ⟨g,off+(i*2+1),none⟩ (.int .i64 tg)) b v {st with code:=st.code.set i {x with a:=tg}}/\RK b v W v (W.setCell ⟨g,off+(i*2+1),none⟩ (.int .i64 tg)):=by
 have A:v.vc.ownBlock=some g:=by rw[hv];rfl
 have K:Keeps (fun j=>j=g) W (W.setCell ⟨g,off+(i*2+1),none⟩ (.int .i64 tg)):=Keeps.setCell (S:=fun j=>j=g) (p:=⟨g,off+(i*2+1),none⟩) (Keeps.refl _ _) (.inl rfl) _;refine⟨⟨(K.block b (zlt R.h) (fun e=>(R.sep.c g A).1 e.symm)).trans R.h,?_,R.consts.keep K (fun j h s=>h.1 (by subst s;exact .inr (.inr (.inl A)))) (fun j hj s=>(R.sep.k j hj).2.2 (by subst s;exact A)),R.names.keep K (fun j hj s=>(R.sep.n j hj).2.2.1 (by subst s;exact A)),R.jumps.keep K (fun j hj s=>(R.sep.j j hj).2.2.1 (by subst s;exact A)),R.pl,fun m hm=>(R.labels m hm).keep K (fun s=>(R.sep.c g A).2 (by subst s;exact hm)),R.sep⟩,K.mono (fun j _ e=>by subst e;exact .inr (.inr (.inl A))),fun j h=>.inl h,rfl⟩;have:=R.code;rw[hv]at this|-;exact this.setOne hx (j:=1) (u:=.int .i64 tg) (by decide) rfl
theorem yp9 (w:World)(o0 o1 o2 o3 o4:Obj):
  (((((w.alloc o0).alloc o1).alloc o2).alloc o3).alloc o4).heap[w.heap.size]? =some o0/\(((((w.alloc o0).alloc o1).alloc o2).alloc o3).alloc o4).heap[w.heap.size+1]? =some o1/\(((((w.alloc o0).alloc o1).alloc o2).alloc o3).alloc o4).heap[w.heap.size+1+1]? =some o2/\(((((w.alloc o0).alloc o1).alloc o2).alloc o3).alloc o4).heap[w.heap.size+1+1+1]? =some o3/\(((((w.alloc o0).alloc o1).alloc o2).alloc o3).alloc o4).heap[w.heap.size+4]? =some o4:=by
 have H:(w.alloc o0).heap.size=w.heap.size+1:=by simp
 have G:((w.alloc o0).alloc o1).heap.size=w.heap.size+1+1:=by simp
 have F:(((w.alloc o0).alloc o1).alloc o2).heap.size=w.heap.size+1+1+1:=by simp
 have E:((((w.alloc o0).alloc o1).alloc o2).alloc o3).heap.size=w.heap.size+4:=by simp
 have I:=znb w o0;have D:=znb (w.alloc o0) o1;have C:=znb ((w.alloc o0).alloc o1) o2;have B:=znb (((w.alloc o0).alloc o1).alloc o2) o3;have A:=znb ((((w.alloc o0).alloc o1).alloc o2).alloc o3) o4;rw[H]at D;rw[G]at C;rw[F]at B;rw[E]at A;refine⟨?_,?_,?_,?_,A⟩
 .exact(zne _ _ _ (by omega)).trans ((zne _ _ _ (by omega)).trans ((zne _ _ _ (by omega)).trans ((zne _ _ _ (by omega)).trans I)))
 .exact(zne _ _ _ (by omega)).trans ((zne _ _ _ (by omega)).trans ((zne _ _ _ (by omega)).trans D))
 .exact(zne _ _ _ (by omega)).trans ((zne _ _ _ (by omega)).trans C)
 .exact(zne _ _ _ (by omega)).trans B
structure LineLaw (N:Nat)(x:ByteArray):Prop where
 run:∀{Z:Nat->Prop} (b:Nat) (v:RV) (st:RSt) (n:Int) (W:World),RX Z W b v st->Gl Tryz.prog N W->(∀j,W.heap.size<=j->Z j)->∀m,v.mb=some m->st.consts.length<=65536->st.names.length<=65536->st.jumps.length<=65536->st.code.length<=65536->0<=st.places/\st.places<=100->Calls Tryz.prog 47 #[.pointer (some ⟨b,0,none⟩),n,x] W (ynH Z W b v (lineL n x st))
 small:∀(line:Int) (n:Nat) (st:RSt),n<=65536->Small n st->Small (n+1) (lineL line x st).2
theorem ye1 {s:ByteArray}:∀x∈textL s,x.size<=s.size:=by
 have A:(⟨(Lib.trimSuffix s.data.toList [10]).toArray⟩:ByteArray).size<=s.size:=by
  have B:(⟨(Lib.trimSuffix s.data.toList [10]).toArray⟩:ByteArray).size=(Lib.trimSuffix s.data.toList [10]).length:=by show(Lib.trimSuffix s.data.toList [10]).toArray.size=_;simp
  rw[B];unfold Lib.trimSuffix;split<;>simp
 exact fun x hx=>yd5 ⟨#[10]⟩ s.size _ _ A x hx
theorem yk9 {N:Nat}(s:ByteArray)(w:World)(G:Gl Tryz.prog N w)(h:s.size<=65536)(hn:Lib.hasSuffix s.data.toList [10]=true)(LW:∀x∈textL s,LineLaw N x)(q:(Int×Int)×RSt)(hq:yc2 (textL s) 0 st0=q)(r:Img×Int×Int)
  (hr:(bif q.1.2 !=0 then(yfs,q.1.1,q.1.2)else
    let j:=yel q.2.labels q.2.jumps q.2.code
    bif j.1.2 !=0 then(yfs,j.1.1,j.1.2)else
    let p:Img:=⟨j.2,q.2.consts,q.2.names,q.2.places⟩
    bif imgL p !=0 then(yfs,0,imgL p)else(p,0,0))=r):
  Calls Tryz.prog 10 #[s] w (yoW w r):=by
 have e1:¬(65536:Int)<s.size:=by omega
 obtain⟨t,ht⟩:∃t:ByteArray,t=⟨(Lib.trimSuffix s.data.toList [10]).toArray⟩:=⟨_,rfl⟩;have Bb:t.size<=s.size:=by
  have e2:t.size=(Lib.trimSuffix s.data.toList [10]).length:=by rw[ht];show(Lib.trimSuffix s.data.toList [10]).toArray.size=_;simp
  rw[e2];unfold Lib.trimSuffix;split<;>simp
 have A3:=zhd (show∀W,Calls Tryz.prog 45 #[s,.string ⟨#[10]⟩] W (fun e w'=>e= .returned (.tuple #[t,.bool true])/\w'=W)from fun W=>(Any.strings_CutSuffix Tryz.lays104 s ⟨#[10]⟩ W (by omega)).mono fun e w' ⟨j1,j2⟩=>⟨by rw[j1,show(⟨#[10]⟩:ByteArray).data.toList=[10]from rfl,hn,ht],j2⟩);have Ar:(Tryz.prog.info? 9).map (fun i=>(i.zero,i.size,i.bytes))=some (some (.string ByteArray.empty),1,16):=by kernel_rfl
 have Az:=zhd (show∀W,Gl Tryz.prog N W->Calls Tryz.prog 46 #[t,.string ⟨#[10]⟩] W (fun e w'=>e= .returned (.slice (some ⟨W,0,none⟩) (textL s).length (textL s).length)/\w'=W.alloc (.cells ((textL s).map Value.string).toArray 9))from fun W GW=>by
  obtain⟨m,hm⟩:=GW.m;have Af:(textL s).length=Lib.countB t ⟨#[10]⟩+1:=by
   unfold textL;rw[<-ht];exact Lib.splitB_all ⟨#[10]⟩ (by decide) 0 _ t rfl
  refine(Any.strings_Split Tryz.lays146 Ar t ⟨#[10]⟩ m W (by omega) hm (by decide)).mono fun e w' ⟨j1,j2⟩=>⟨by rw[j1,Af],?_⟩;rw[j2];unfold textL;rw[<-ht];rfl)
 have Af:(textL s).length<=65537:=by
  have e2:(textL s).length=Lib.countB t ⟨#[10]⟩+1:=by
   unfold textL;rw[<-ht];exact Lib.splitB_all ⟨#[10]⟩ (by decide) 0 _ t rfl
  have:=Lib.countB_le ⟨#[10]⟩ (by decide) t.size t (znc _);omega
 have Au:=zhd LW;have HQ:=zh2 hq hr;clear hq hr Ar ht hn LW;generalize textL s=ls at*;have HN:=zhd G.n;have Bc:= @run_makeMap Tryz.prog;go_in;go_wp2_with fail;refine(A3.o _).mono ?_;rintro e w1 ⟨rfl,rfl⟩;go_wp2_with fail;refine(Az.o _ ((((G.alloc _).alloc _).alloc _).alloc _)).mono ?_;rintro e w1 ⟨rfl,rfl⟩;obtain⟨W2,Ab⟩:∃W2,W2=(((((w.alloc (.cells #[.slice none 0 0,.slice none 0 0,.slice none 0 0,.int .i64 0] 28)).alloc (.cells #[.int .i64 0,.int .i64 0] 31)).alloc (.map #[] 0)).alloc (.cells #[.slice none 0 0,.slice none 0 0,.slice none 0 0,.int .i64 0,.map (some (w.heap.size+1+1)),.slice none 0 0] 97)).alloc (.cells (ls.map Value.string).toArray 9)):=⟨_,rfl⟩;have J:W2.heap.size=w.heap.size+5:=by rw[Ab];simp
 have B2:Below w w W2:=by
  rw[Ab];exact((((zal).alloc (by simp) _).alloc (by simp;omega) _).alloc (by simp;omega) _).alloc (by simp;omega) _
 obtain⟨c0,c1,c2,c3,c4⟩:=Ab▸yp9 w (.cells #[.slice none 0 0,.slice none 0 0,.slice none 0 0,.int .i64 0] 28) (.cells #[.int .i64 0,.int .i64 0] 31) (.map #[] 0) (.cells #[.slice none 0 0,.slice none 0 0,.slice none 0 0,.int .i64 0,.map (some (w.heap.size+1+1)),.slice none 0 0] 97) (.cells (ls.map Value.string).toArray 9);have e4:((((w.alloc (.cells #[.slice none 0 0,.slice none 0 0,.slice none 0 0,.int .i64 0] 28)).alloc (.cells #[.int .i64 0,.int .i64 0] 31)).alloc (.map #[] 0)).alloc (.cells #[.slice none 0 0,.slice none 0 0,.slice none 0 0,.int .i64 0,.map (some (w.heap.size+1+1)),.slice none 0 0] 97)).heap.size=w.heap.size+4:=by simp
 rw[<-Ab,e4];have As:=ynZ (Z:=fun j=>w.heap.size+5<=j) c3 c2;have RL:RowAt W2 9 (.slice (some ⟨w.heap.size+4,0,none⟩) ls.length ls.length) ls:=RowAt.made c4 (by rw[List.toList_toArray];exact ykl ls) rfl (by simp only[maxLen];omega);have G2:=G.below B2;have I:=zh7 c0 c1 As RL B2 G2 J;have A1:=zhd c4;clear c0 c1 c2 c3 c4 As RL B2 G2 J Ab e4 G;go_wp2_with fail;go_loopg [32] (ls.length) (fun gk v32 wr=>ypI (fun j=>w.heap.size+5<=j) W2 (w.heap.size+1+1+1) (w.heap.size+1+1) ls q gk v32 wr)
 case atStart=>exact⟨0,st0,v0 _,rfl,znq _,rfl,I.o.2.2.1,rfl,ynV,HQ.o.1,RK.refl _ _ _⟩
 case round=>
  obtain⟨i,B,v,rfl,hi,d,M,Ae,P,F,Y⟩:=hrel;by_cases hin:i<ls.length
  .obtain⟨x,hx⟩:=yac hin
   have z:ls.drop i=x::ls.drop (i+1):=by
    rw[znr (zge hx).1,(zge hx).2]
   rw[z,yc2]at F;have Ao:=Au.o x (zmg hx);have Bg:N<=w.heap.size:=by have:=I.o.2.2.2.2.2.1;have:=HN.o;omega
   have A0:=I.o.2.2.2.1.keep Y.1 (fun g hg e=>by
    have Be:w.heap.size+4=g:=Option.some.inj hg;have:=ycp e;omega)
   have Gr:Gl Tryz.prog N wr:=I.o.2.2.2.2.2.1.keep Y.1 (fun j hj=>by have:=ycp hj;omega);have Bf:wr.cell? ⟨w.heap.size+4,i,none⟩=some (.string x):=by
    have Ay:=(Y.1.block (w.heap.size+4) (by have:=I.o.2.2.2.2.2.2;omega) (fun e=>by have:=ycp e;omega)).trans A1.o;rw[zch Ay];simp[hx]
   have Ad:w.heap.size+5<=wr.heap.size:=by have:=Y.1.size;have:=I.o.2.2.2.2.2.2;omega
   have LA:=zhd (Ao.run (w.heap.size+1+1+1) v B ((i:Int)+1) wr M Gr (fun j hj=>by omega) (w.heap.size+1+1) Ae (by have:=P.consts;omega) (by have:=P.names;omega) (by have:=P.jumps;omega) (by have:=P.code;omega) ⟨P.p0,P.p1⟩);have HS:=zhd (Ao.small ((i:Int)+1) i B (by omega) P);generalize lineL ((i:Int)+1) x B=lr at*;have U:=zh5 F Y d Ad A0;have Ba:IntKind.i64.wrap ((i:Int)+1)=(i:Int)+1:=zmk _ (by omega);clear F Y d Ad z P;go_wp2_with fail;refine LA.o.mono ?_;rintro e w5 ⟨v5,rfl,H5⟩;cases hz:(lr.1 !=0)with
   |true=>
    have hq:(((i:Int)+1,lr.1),lr.2)=q:=by have:=U.o.1;rw[hz]at this;exact this
    have hr:=HQ.o.2;rw[<-hq]at hr;dsimp only at hr;rw[hz]at hr;simp only[znm]at hr;have HR:=zhd hr;have b:=U.o.2.1.1.trans H5.o.2.1 (fun j hj e=>(U.o.2.1.2.1 j e).resolve_right (by omega));have J:=I.o.2.2.2.2.2.2;have E:=(b.block w (by omega) (fun e=>by have:=ycp e;omega)).trans I.o.1;have Q:=(b.block (w.heap.size+1) (by omega) (fun e=>by have:=ycp e;omega)).trans I.o.2.1;have u:∀o,w5.cell? ⟨w,o,none⟩=(#[.slice none 0 0,.slice none 0 0,.slice none 0 0,.int .i64 0]:Array Value)[o]? :=fun o=>by rw[zch E]
    have q1:∀o,w5.cell? ⟨w.heap.size+1,o,none⟩=(#[.int .i64 0,.int .i64 0]:Array Value)[o]? :=fun o=>by rw[zch Q]
    have p0:=u 0;have p1:=u 1;have p2:=u 2;have p3:=u 3;have p4:=q1 0;have p5:=q1 1;simp only[zmc,zma,zmb]at p0 p1 p2 p3 p4 p5;have l5:w.heap.size+5<=w5.heap.size:=by have:=b.size;omega
    have l0:w<w5.heap.size:=by omega
    have l1:w.heap.size+1<w5.heap.size:=by omega
    have BB:=I.o.2.2.2.2.1.trans (ycs (N:=w.heap.size) b (fun j e=>by have:=ycp e;omega) (by omega) w.heap.size w.heap.size w.heap.size w.heap.size (w.heap.size+1) (w.heap.size+1) 0 1 2 3 0 1 (.slice none 0 0) (.slice none 0 0) (.slice none 0 0) (.int .i64 0) (.int .i64 ((i:Int)+1)) (.int .i64 lr.1) (by omega) (by omega) (by omega) (by omega) (by omega) (by omega));replace BB:=zhd BB;have z0:=zfr E 0;have z1:=zfr E 1;have z2:=zfr E 2;have z3:=zfr E 3;have y0:=zfr Q 0;have y1:=zfr Q 1;clear hq hr b E Q u q1 J;go_wp2_with fail;exact zng (v:=.tuple #[.agg #[.slice none 0 0,.slice none 0 0,.slice none 0 0,.int .i64 0],.agg #[.int .i64 ((i:Int)+1),.int .i64 lr.1]]) (by simp only[results,Tryz.results10];go_simp) rfl ⟨⟨none,0,0,none,0,0,none,0,0,0⟩,by rw[<-HR.o],by rw[<-HR.o];exact ydN _ _,BB.o⟩
   |false=>
    have hl:=U.o.1;rw[hz]at hl;simp only[znl]at hl;have HC:=zhd hl;clear hl;go_wp2_with fail;go_roundg (ls.length - (i+1))
    case measure=>have:=U.o.2.2.1;omega
    case rel=>exact⟨i+1,lr.2,v5,by simp,by omega,rfl,H5.o.1,H5.o.2.2.2.trans Ae,HS.o,HC.o,U.o.2.1.trans H5.o.2⟩
  .obtain rfl:i=ls.length:=by omega
   have Aa:ls.drop ls.length=[]:=zns (znc _);rw[Aa,yc2]at F;have hr:=HQ.o.2;rw[<-F]at hr;simp only[bne_self_eq_false,znl]at hr;have HR:=zhd hr;have q5:=zca M.h 5 rfl;have Ad:w.heap.size+5<=wr.heap.size:=by have:=Y.1.size;have:=I.o.2.2.2.2.2.2;omega
   have l3:w.heap.size+1+1+1<wr.heap.size:=by omega
   obtain⟨ja,jc,Aq⟩:=M.jumps.slice;rw[Aq]at q5;have A2:=zhd (show ynQ B from by
    have h0:=yf9 ls 0 st0 (fun j hj=>by cases hj) (by rw[HQ.o.1,<-F]);rw[HQ.o.1,<-F]at h0;exact h0)
   have U:=zh4 M Ae P Y;obtain⟨wm,Ap⟩:∃wm,wm=wr:=⟨_,rfl⟩;rw[<-Ap]at q5 Ad l3 U|-;clear hr F Aa M Ae P Y Ap;go_wp2_with fail;go_loopg [54] (B.jumps.length) (fun gk v54 wz=>yqo (fun j=>w.heap.size+5<=j) wm (w.heap.size+1+1+1) v B (yel B.labels B.jumps B.code) gk v54 wz)
   case atStart=>exact⟨0,B.code,rfl,znq _,rfl,U.o.1,rfl,rfl,RK.refl _ _ _⟩
   case round=>
    obtain⟨k,code,rfl,hk,d,M,Ak,A,Y⟩:=hrel;by_cases hkn:k<B.jumps.length
    .obtain⟨x,hx⟩:=yac hkn
     have z:B.jumps.drop k=x::B.jumps.drop (k+1):=by
      rw[znr (zge hx).1,(zge hx).2]
     rw[z,yel]at A;have RJ:=M.jumps;rw[Aq]at RJ;obtain⟨jg,A4,Av,Bd⟩:=RJ.addr hx;subst Av;obtain⟨x0,x1,x2⟩:=yn0 RJ hx;have qq:∀o,wr.cell? ⟨w.heap.size+1+1+1,o,none⟩=(#[v.vc,v.vk,v.vn,.int .i64 v.pl,.map v.mb,v.vj]:Array Value)[o]? :=fun o=>by rw[zch M.h]
     have u:=qq 0;have q4:=qq 4;simp only[zmc,zma,zmb]at u q4;rw[U.o.2.1]at q4;have lz:w.heap.size+1+1+1<wr.heap.size:=zlt M.h;obtain⟨ca,cc,V⟩:=M.code.slice;rw[V]at u;have Ai:=ylS (M.labels _ U.o.2.1) x.label;have A5:w.heap.size+1+1<wr.heap.size:=by omega
     clear qq;obtain⟨y,hy⟩:∃y,MapTy.get B.labels x.label=y:=⟨_,rfl⟩;rw[hy]at Ai A;have HG:=zh4 Ak d M Y;clear Ak d M Y z;cases y with
     |none=>
      simp only[Option.getD_none,Option.isSome_none]at Ai A;have hr:=HR.o;rw[<-A]at hr;simp only[show((120:Int)!=0)=true from rfl,znm]at hr;have O:=zhd hr;have b:=(U.o.2.2.2.trans HG.o.2.2.2).1;have D:=zh2 A b;clear hr A b;go_wp2_with fail;obtain⟨w6,L⟩:∃w6,w6=wr.alloc (.cells #[x.at_,x.line,x.label] 103):=⟨_,rfl⟩;have R:=zba L;have j1:w6.cell? ⟨wr,1,none⟩=some (.int .i64 x.line):=by rw[L,zch (znb _ _)];rfl
      have l6:w6.heap.size=wr.heap.size+1:=by rw[L];simp
      have K6:Keeps (fun j=>w.heap.size+2<=j) wr w6:=Keeps.mono (zkb R (S:=fun _=>False)) (fun _ _ f=>f.elim);rw[<-L];have J:=I.o.2.2.2.2.2.2;have E:=(R.block _ (by omega)).trans ((D.o.2.block w (by omega) (fun e=>by have:=ycp e;omega)).trans I.o.1);have Q:=(R.block _ (by omega)).trans ((D.o.2.block (w.heap.size+1) (by omega) (fun e=>by have:=ycp e;omega)).trans I.o.2.1);have C:∀o,w6.cell? ⟨w,o,none⟩=(#[.slice none 0 0,.slice none 0 0,.slice none 0 0,.int .i64 0]:Array Value)[o]? :=fun o=>by rw[zch E]
      have K:∀o,w6.cell? ⟨w.heap.size+1,o,none⟩=(#[.int .i64 0,.int .i64 0]:Array Value)[o]? :=fun o=>by rw[zch Q]
      have p0:=C 0;have p1:=C 1;have p2:=C 2;have p3:=C 3;have p4:=K 0;have p5:=K 1;simp only[zmc,zma,zmb]at p0 p1 p2 p3 p4 p5;have z0:=zfr E 0;have z1:=zfr E 1;have z2:=zfr E 2;have z3:=zfr E 3;have y0:=zfr Q 0;have y1:=zfr Q 1;have l0:w<w6.heap.size:=by omega
      have l1:w.heap.size+1<w6.heap.size:=by omega
      have l7:wr<w6.heap.size:=by omega
      have d1:¬wr.heap.size=w.heap.size:=by omega
      have d2:¬wr.heap.size=w.heap.size+1:=by omega
      have H6:=zh3 R l6 K6;have K7:=D.o.2.trans (T:=fun j=>wr<=j) (Keeps.mono (zkb R (S:=fun _=>False)) (fun _ _ f=>f.elim)) (fun j hj e=>by have:=D.o.2.size;omega);have BB:=zhd (I.o.2.2.2.2.1.trans (ycs (N:=w.heap.size) K7 (fun j e=>by have:=ycp e;omega) (by omega) w.heap.size w.heap.size w.heap.size w.heap.size (w.heap.size+1) (w.heap.size+1) 0 1 2 3 0 1 (.slice none 0 0) (.slice none 0 0) (.slice none 0 0) (.int .i64 0) (.int .i64 x.line) (.int .i64 120) (by omega) (by omega) (by omega) (by omega) (by omega) (by omega)));clear L R l6 K6 K7 E Q C K J;go_region;go_wp2_with fail;exact zng (v:=.tuple #[.agg #[.slice none 0 0,.slice none 0 0,.slice none 0 0,.int .i64 0],.agg #[x.line,.int .i64 120]]) (by simp only[results,Tryz.results10];go_simp) rfl ⟨⟨none,0,0,none,0,0,none,0,0,0⟩,by rw[<-O.o],by rw[<-O.o];exact ydN _ _,BB.o.drew⟩
     |some tg=>
      simp only[Option.getD_some,Option.isSome_some]at Ai A;cases X:(tg==(code.length:Int))with
      |true=>
       rw[X]at A;simp only[znm]at A;have hr:=HR.o;rw[<-A]at hr;simp only[show((120:Int)!=0)=true from rfl,znm]at hr;have O:=zhd hr;have b:=(U.o.2.2.2.trans HG.o.2.2.2).1;have D:=zh2 A b;clear hr A b;go_wp2_with fail;obtain⟨w6,L⟩:∃w6,w6=wr.alloc (.cells #[x.at_,x.line,x.label] 103):=⟨_,rfl⟩;have R:=zba L;have j1:w6.cell? ⟨wr,1,none⟩=some (.int .i64 x.line):=by rw[L,zch (znb _ _)];rfl
       have l6:w6.heap.size=wr.heap.size+1:=by rw[L];simp
       have K6:Keeps (fun j=>w.heap.size+2<=j) wr w6:=Keeps.mono (zkb R (S:=fun _=>False)) (fun _ _ f=>f.elim);rw[<-L];have J:=I.o.2.2.2.2.2.2;have E:=(R.block _ (by omega)).trans ((D.o.2.block w (by omega) (fun e=>by have:=ycp e;omega)).trans I.o.1);have Q:=(R.block _ (by omega)).trans ((D.o.2.block (w.heap.size+1) (by omega) (fun e=>by have:=ycp e;omega)).trans I.o.2.1);have C:∀o,w6.cell? ⟨w,o,none⟩=(#[.slice none 0 0,.slice none 0 0,.slice none 0 0,.int .i64 0]:Array Value)[o]? :=fun o=>by rw[zch E]
       have K:∀o,w6.cell? ⟨w.heap.size+1,o,none⟩=(#[.int .i64 0,.int .i64 0]:Array Value)[o]? :=fun o=>by rw[zch Q]
       have p0:=C 0;have p1:=C 1;have p2:=C 2;have p3:=C 3;have p4:=K 0;have p5:=K 1;simp only[zmc,zma,zmb]at p0 p1 p2 p3 p4 p5;have z0:=zfr E 0;have z1:=zfr E 1;have z2:=zfr E 2;have z3:=zfr E 3;have y0:=zfr Q 0;have y1:=zfr Q 1;have l0:w<w6.heap.size:=by omega
       have l1:w.heap.size+1<w6.heap.size:=by omega
       have l7:wr<w6.heap.size:=by omega
       have d1:¬wr.heap.size=w.heap.size:=by omega
       have d2:¬wr.heap.size=w.heap.size+1:=by omega
       have H6:=zh3 R l6 K6;have K7:=D.o.2.trans (T:=fun j=>wr<=j) (Keeps.mono (zkb R (S:=fun _=>False)) (fun _ _ f=>f.elim)) (fun j hj e=>by have:=D.o.2.size;omega);have BB:=zhd (I.o.2.2.2.2.1.trans (ycs (N:=w.heap.size) K7 (fun j e=>by have:=ycp e;omega) (by omega) w.heap.size w.heap.size w.heap.size w.heap.size (w.heap.size+1) (w.heap.size+1) 0 1 2 3 0 1 (.slice none 0 0) (.slice none 0 0) (.slice none 0 0) (.int .i64 0) (.int .i64 x.line) (.int .i64 120) (by omega) (by omega) (by omega) (by omega) (by omega) (by omega)));clear L R l6 K6 K7 E Q C K J;go_region;go_wp2_with fail;exact zng (v:=.tuple #[.agg #[.slice none 0 0,.slice none 0 0,.slice none 0 0,.int .i64 0],.agg #[x.line,.int .i64 120]]) (by simp only[results,Tryz.results10];go_simp) rfl ⟨⟨none,0,0,none,0,0,none,0,0,0⟩,by rw[<-O.o],by rw[<-O.o];exact ydN _ _,BB.o.drew⟩
      |false=>
       rw[X]at A;simp only[znl]at A;have Al:=A2.o x (zmg hx);rw[<-HG.o.1]at Al;obtain⟨c,hc⟩:=yac Al.2;rw[ylx hc]at A;have RC:=HG.o.2.2.1.code;dsimp only at RC;rw[V]at RC;obtain⟨cg,H,Ax,A7⟩:=RC.addr hc;subst Ax;obtain⟨i,hi⟩:∃i:Nat,i=x.at_.toNat:=⟨_,rfl⟩;rw[<-hi]at hc A;have Am:x.at_=(i:Int):=by omega
       rw[Am]at x0;have A6:i<code.length:=by omega
       have u1:=RC.cell hc (j:=1) (by decide);have u0:=RC.cell hc (j:=0) (by decide);rw[show H+(i*sz In+1)=H+i*2+1 from rfl]at u1;rw[show H+(i*sz In+0)=H+i*2 from rfl]at u0;have fz:=RC.frozen (H+i*2+1);have Bh:=RC.frozen (H+i*2);have A8:cg<wr.heap.size:=RC.lt rfl;have PK:=zhd (ymT HG.o.2.2.1 V hc tg);have A9:IntKind.i64.wrap ((k:Int)+1)=(k:Int)+1:=zmk _ (by have:=U.o.2.2.1.jumps;omega);rw[show H+(i*2+1)=H+i*2+1 from rfl]at PK;have HJ:=zh2 A Am;clear A Am RC Al hi;go_wp2_with fail;go_roundg (B.jumps.length - (k+1))
       case measure=>have:=HG.o.2.1;omega
       case rel=>exact⟨k+1,code.set i {c with a:=tg},by simp,by omega,rfl,PK.o.1.ext ((znv _ _).alloc (by simp) _),by rw[List.length_set];exact HG.o.1,HJ.o.1,HG.o.2.2.2.trans (PK.o.2.trans (RK.ext ((znv _ _).alloc (by simp) _)))⟩
    .obtain rfl:k=B.jumps.length:=by omega
     have Aa:B.jumps.drop B.jumps.length=[]:=zns (znc _);rw[Aa,yel]at A;have hr:=HR.o;rw[<-A]at hr;simp only[bne_self_eq_false,znl]at hr;have qq:∀o,wr.cell? ⟨w.heap.size+1+1+1,o,none⟩=(#[v.vc,v.vk,v.vn,.int .i64 v.pl,.map v.mb,v.vj]:Array Value)[o]? :=fun o=>by rw[zch M.h]
     have u:=qq 0;have q1:=qq 1;have q2:=qq 2;have q3:=qq 3;simp only[zmc,zma,zmb]at u q1 q2 q3;have lz:w.heap.size+1+1+1<wr.heap.size:=zlt M.h;obtain⟨ca,cc,V⟩:=M.code.slice;obtain⟨ka,kc,Ah⟩:=M.consts.slice;obtain⟨na,nc,Ag⟩:=M.names.slice;have At:=I.o.2.2.2.2.2.2;have X:∀j,Go.Va.RO v (w.heap.size+1+1+1) j->w.heap.size+2<=j:=fun j e=>by
      rcases U.o.2.2.2.2.1 j e with h|h
      .have:=ycp h
       omega
      .omega
     have hI:IAt (fun j=>w.heap.size+2<=j) wr ⟨ca,code.length,cc,ka,B.consts.length,kc,na,B.names.length,nc,v.pl⟩ ⟨code,B.consts,B.names,B.places⟩:=
      ⟨by rw[<-V];exact RdF.of_row M.code (fun g h=>X g (.inr (.inr (.inl h)))),by rw[<-Ah];exact VRow.vf M.consts (fun g h=>by have:=h.2;show w.heap.size+2<=g;omega) (fun g h=>X g (.inr (.inr (.inr (.inl h))))),by rw[<-Ag];exact RdF.of_row M.names (fun g h=>X g (.inr (.inr (.inr (.inr (.inl h)))))),M.pl⟩
     rw[V]at u;rw[Ah]at q1;rw[Ag]at q2;obtain⟨ir,Aj⟩:∃ir,imgL ⟨code,B.consts,B.names,B.places⟩=ir:=⟨_,rfl⟩;rw[Aj]at hr;have IC:=zhd (fun W (hW:Below wr wr W)=>ydx _ W _ _ (hI.keep (S:=fun _=>False) (zkb hW) (fun _ _ f=>f)) _ U.o.2.2.1.wf Aj);have b:=(U.o.2.2.2.trans Y).1;have D:=zh3 hr b hI;clear hr b hI X qq V Ah Ag Aa A M Y Ak d Aj At;generalize v.pl=vpl at*;go_wp2_with fail;refine(IC.o _ (zal)).mono ?_;rintro e w6 ⟨rfl,An⟩;have R:Below wr wr w6:=((znv _ _).alloc (znc _) (.cells #[.slice ca code.length cc,.slice ka B.consts.length kc,.slice na B.names.length nc,vpl] 28)).trans (An.mono (by simp));have J:=I.o.2.2.2.2.2.2;have E:=(R.block _ (by omega)).trans ((D.o.2.1.block w (by omega) (fun e=>by have:=ycp e;omega)).trans I.o.1);have Q:=(R.block _ (by omega)).trans ((D.o.2.1.block (w.heap.size+1) (by omega) (fun e=>by have:=ycp e;omega)).trans I.o.2.1);have b2:=(An.block wr (by simp)).trans (znb wr _)
     have C:∀o,w6.cell? ⟨w,o,none⟩=(#[.slice none 0 0,.slice none 0 0,.slice none 0 0,.int .i64 0]:Array Value)[o]? :=fun o=>by rw[zch E]
     have K:∀o,w6.cell? ⟨w.heap.size+1,o,none⟩=(#[.int .i64 0,.int .i64 0]:Array Value)[o]? :=fun o=>by rw[zch Q]
     have l:∀o,w6.cell? ⟨wr,o,none⟩=(#[.slice ca code.length cc,.slice ka B.consts.length kc,.slice na B.names.length nc,.int .i64 vpl]:Array Value)[o]? :=fun o=>by rw[zch b2]
     have p0:=C 0;have p1:=C 1;have p2:=C 2;have p3:=C 3;have p4:=K 0;have p5:=K 1;have p6:=l 0;have p7:=l 1;have p8:=l 2;have p9:=l 3;simp only[zmc,zma,zmb]at p0 p1 p2 p3 p4 p5 p6 p7 p8 p9;have z0:=zfr E 0;have z1:=zfr E 1;have z2:=zfr E 2;have z3:=zfr E 3;have y0:=zfr Q 0;have y1:=zfr Q 1;have l6:wr<w6.heap.size:=zlt b2;have l0:w<w6.heap.size:=by omega
     have l1:w.heap.size+1<w6.heap.size:=by omega
     have d1:¬wr.heap.size=w.heap.size:=by omega
     have d2:¬wr.heap.size=w.heap.size+1:=by omega
     have K7:=D.o.2.1.trans (T:=fun j=>wr<=j) (Keeps.mono (zkb R (S:=fun _=>False)) (fun _ _ f=>f.elim)) (fun j hj e=>by have:=D.o.2.1.size;omega);have Ac:=zh3 K7 R J;clear An E Q b2 C K l K7 R J IC;cases hz:(ir !=0)with
     |true=>
      have hr:=D.o.1;rw[hz]at hr;simp only[znm]at hr;have O:=zhd hr;have BB:=zhd (I.o.2.2.2.2.1.trans (ycs (N:=w.heap.size) Ac.o.1 (fun j e=>by have:=ycp e;omega) (by have:=Ac.o.2.2;omega) w.heap.size w.heap.size w.heap.size w.heap.size (w.heap.size+1) (w.heap.size+1) 0 1 2 3 0 1 (.slice none 0 0) (.slice none 0 0) (.slice none 0 0) (.int .i64 0) (.int .i64 0) (.int .i64 ir) (by omega) (by omega) (by omega) (by omega) (by omega) (by omega)));clear hr;go_wp2_with fail;exact zng (v:=.tuple #[.agg #[.slice none 0 0,.slice none 0 0,.slice none 0 0,.int .i64 0],.agg #[.int .i64 0,ir]]) (by simp only[results,Tryz.results10];go_simp) rfl ⟨⟨none,0,0,none,0,0,none,0,0,0⟩,by rw[<-O.o],by rw[<-O.o];exact ydN _ _,BB.o⟩
     |false=>
      have hr:=D.o.1;rw[hz]at hr;simp only[znl]at hr;have O:=zhd hr;have BB:=zhd (I.o.2.2.2.2.1.trans (ycs (N:=w.heap.size) Ac.o.1 (fun j e=>by have:=ycp e;omega) (by have:=Ac.o.2.2;omega) w.heap.size w.heap.size w.heap.size w.heap.size (w.heap.size+1) (w.heap.size+1) 0 1 2 3 0 1 (.slice ca code.length cc) (.slice ka B.consts.length kc) (.slice na B.names.length nc) (.int .i64 vpl) (.int .i64 0) (.int .i64 0) (by omega) (by omega) (by omega) (by omega) (by omega) (by omega)));have KI:=zhd (((D.o.2.2.keep (S:=fun _=>False) (zkb Ac.o.2.1) (fun _ _ f=>f)).keep (yjS w6 w.heap.size (w.heap.size+1) 0 1 2 3 0 1 (.slice ca code.length cc) (.slice ka B.consts.length kc) (.slice na B.names.length nc) (.int .i64 vpl) (.int .i64 0) (.int .i64 0)) (fun g h e=>by rcases e with e|e<;>omega)).mono (G:=fun j=>w<=j) (fun g h _=>by show w<=g;omega));clear hr;go_wp2_with fail
      exact zng (v:=.tuple #[.agg #[.slice ca code.length cc,.slice ka B.consts.length kc,.slice na B.names.length nc,vpl],.agg #[.int .i64 0,.int .i64 0]]) (by simp only[results,Tryz.results10];go_simp) rfl ⟨⟨ca,code.length,cc,ka,B.consts.length,kc,na,B.names.length,nc,vpl⟩,by rw[<-O.o],by rw[<-O.o];exact KI.o,BB.o⟩
theorem yfd {p:Img}:∀{l:List In},ybx p l=0->∀c∈l,(ofL c.op).2=true/\0<=c.a/\c.a<mostL p (ofL c.op).1.operand
 |[],_,c,hc=>by cases hc
 |d::r,h,c,hc=>by
  rw[ybx]at h;cases h1:(ofL d.op).2 with
  |false=>rw[h1]at h;simp at h
  |true=>
   rw[h1]at h;simp only[Bool.not_true,znl]at h;cases h2:(decide (d.a<0)||decide (mostL p (ofL d.op).1.operand<=d.a))with
   |true=>rw[h2]at h;simp at h
   |false=>
    rw[h2]at h;simp only[znl]at h;rw[Bool.or_eq_false_iff,znz,znz]at h2;rcases List.mem_cons.1 hc with rfl|hc
    .exact⟨h1,by omega,by omega⟩
    .exact yfd h c hc
theorem yb3 {p:Img}(h:imgL p=0):0<p.code.length/\p.code.length<=512/\p.consts.length<=64/\p.names.length<=32/\0<=p.places/\p.places<=16/\yaL p.consts=0/\ybj p.names=0/\∀c∈p.code,(ofL c.op).2=true/\0<=c.a/\c.a<mostL p (ofL c.op).1.operand:=by
 unfold imgL at h;by_cases h0:p.code.length=0
 .rw[zno h0]at h
  simp at h
 .rw[znd h0]at h
  simp only[znl]at h;cases h1:(decide (512<p.code.length)||(decide (64<p.consts.length)||decide (32<p.names.length)))with
  |true=>rw[h1]at h;simp at h
  |false=>
   rw[h1]at h;simp only[znl]at h;cases h2:(decide (p.places<0)||decide (16<p.places))with
   |true=>rw[h2]at h;simp at h
   |false=>
    rw[h2]at h;simp only[znl]at h;cases h3:(yaL p.consts !=0)with
    |true=>
     rw[h3]at h;simp only[znm]at h;rw[h]at h3;cases h3
    |false=>
     rw[h3]at h;simp only[znl]at h;cases h4:(ybj p.names !=0)with
     |true=>
      rw[h4]at h;simp only[znm]at h;rw[h]at h4;cases h4
     |false=>
      rw[h4]at h;simp only[znl]at h;simp only[Bool.or_eq_false_iff,znz]at h1 h2;exact⟨by omega,by omega,by omega,by omega,by omega,by omega,by simpa using h3,by simpa using h4,yfd h⟩
end Go.Proofs.YtpagmlndgblhhaaGreatDoor
namespace Go.Va
open Go.Own Go.RowKit
instance:Cells Nat where
 sz:=1
 enc:=fun n=>[.int .i64 (n:Int)]
 len:=fun _=>rfl
 one:=by
  intro x v hv;simp at hv;subst hv;rfl
def yaC (c:In):Int:=bif c.op==29 then c.a else(ofL c.op).1.i
def restsL (c:In):Bool:=(ofL c.op).1.blocks||(ofL c.op).1.ends
def followN (c:In)(k:Nat):List Nat:=
 bif (ofL c.op).1.ends then[]else bif c.op==11 then[c.a.toNat]else bif (ofL c.op).1.flow then[k+1,c.a.toNat]else[k+1]
end Go.Va
namespace Go.Proofs.YtpagmlndgblhhaaGreatDoor
open Go.RowKit Go.Own Go.Own.MapTy Go.Va Go.Sort
open Go.Own.Cells (sz enc)
theorem ybb (op:Int)(inf:Inf)(ok:Bool)(h:ofL op=(inf,ok))(W:World):Calls Tryz.prog 92 #[op] W (fun e w'=>e= .returned (.tuple #[.agg #[inf.name,inf.operand,inf.i,inf.o,inf.blocks,inf.ends,inf.flow],ok])/\Below W W w'):=by
 have:=yf0 op W;rw[h]at this;exact this
theorem yjK (op a:Int)(W:World):Calls Tryz.prog 154 #[.agg #[op,a]] W fun e w'=>e= .returned (.int .i64 (yaC ⟨op,a⟩))/\Below W W w':=by
 obtain⟨A,D,B⟩:∃A D,ofL op=(A,D):=⟨_,_,rfl⟩;have H:=zhd (ybb op A D B);have E:yaC ⟨op,a⟩=bif op==29 then a else A.i:=by unfold yaC;rw[B]
 rw[E];clear E B;go_in;cases h29:(op==29)with
 |true=>
  go_wp2;go_ret;exact⟨rfl,zal⟩
 |false=>
  go_wp2_with fail;refine(H.o _).mono ?_;rintro e G ⟨rfl,C⟩;have F:=zhd (show Below W W G from(zal).trans (C.mono (by simp)));clear C;go_wp2;go_ret;exact⟨rfl,F.o.alloc F.o.size _⟩
theorem yea (op a:Int)(W:World):Calls Tryz.prog 135 #[.agg #[op,a]] W fun e w'=>e= .returned (.bool (restsL ⟨op,a⟩))/\Below W W w':=by
 obtain⟨A,E,B⟩:∃A E,ofL op=(A,E):=⟨_,_,rfl⟩;have H:=zhd (ybb op A E B);have F:restsL ⟨op,a⟩=(A.blocks||A.ends):=by unfold restsL;rw[B]
 rw[F];clear F B;go_in;go_wp2_with fail;refine(H.o _).mono ?_;rintro e G ⟨rfl,C⟩;have D:=zhd (show Below W W G from(zal).trans (C.mono (by simp)));clear C;cases hb:A.blocks with
 |true=>
  go_wp2;go_ret;exact⟨by rw[hb];rfl,D.o.alloc D.o.size _⟩
 |false=>
  go_wp2;go_ret;exact⟨by rw[hb];rfl,D.o.alloc D.o.size _⟩
theorem ydh {F:Nat->Prop}{W:World}{ad:Option Addr}{n cap:Nat}{code:List In}(H:RdF F W (.slice ad n cap) code)(k:Nat)(c:In)(hc:code[k]? =some c)(ha:0<=c.a)(hk:k<65536):
  Calls Tryz.prog 136 #[.slice ad n cap,k] W fun e w'=>∃v,e= .returned v/\RowAt w' 3 v (followN c k)/\(∀g,v.ownBlock=some g->W.heap.size<=g)/\Below W W w':=by
 obtain⟨rfl,T,g,C,J,K⟩:=H.elems;obtain⟨V,Z,I⟩:=K k c hc;have J:=J.resolve_right (fun e=>by rw[e]at hc;simp at hc);subst J;have O:=I 0 _ rfl;have N:=I 1 _ rfl;rw[show C+(k*sz In+0)=C+k*2 from rfl]at O;rw[show C+(k*sz In+1)=C+k*2+1 from rfl]at N;have U:(k:Int)<code.length:=by have:=(zge hc).1;omega
 have S:IntKind.i64.wrap ((k:Int)+1)=(k:Int)+1:=zmk _ (by omega);obtain⟨E,a⟩:=c;obtain⟨A,L,G⟩:∃A L,ofL E=(A,L):=⟨_,_,rfl⟩;have Q:=zhd (ybb E A L G);have P:followN ⟨E,a⟩ k=bif A.ends then[]else bif E==11 then[a.toNat]else bif A.flow then[k+1,a.toNat]else[k+1]:=by unfold followN;rw[G]
 rw[P];dsimp only at ha O N;obtain⟨an,rfl⟩:∃an:Nat,a=an:=⟨a.toNat,by omega⟩;rw[Int.toNat_natCast];clear P G K I H hc;go_in;go_wp2_with fail;refine(Q.o _).mono ?_;rintro e w5 ⟨rfl,B⟩;have Y:w5.cell? ⟨W,0,none⟩=some (.int .i64 E):=by rw[B.cell (p:=⟨W,0,none⟩) (by simp),zch (znb _ _)];rfl
 have X:w5.cell? ⟨W,1,none⟩=some (.int .i64 an):=by rw[B.cell (p:=⟨W,1,none⟩) (by simp),zch (znb _ _)];rfl
 have R:W<w5.heap.size:=by have:=B.size;simp at this;omega
 have M:Below W W w5:=((znv _ _).alloc (znc _) (.cells #[E,an] 106)).trans (B.mono (by simp));have D:=zhd (M.alloc M.size (.cells #[A.name,A.operand,A.i,A.o,A.blocks,A.ends,A.flow] 169));clear B M Q;cases h1:A.ends with
 |true=>
  rw[h1]at D;go_wp2;go_ret;exact⟨_,rfl,by simp only[h1,znm];exact RowAt.nil _ _,fun g h=>(by cases h),D.o⟩
 |false=>
  rw[h1]at D;cases h2:(E==11)with
  |true=>
   go_wp2;go_ret;exact⟨_,rfl,by simp only[h1,h2,znm,znl];exact RowAt.made yar rfl rfl (by decide),ycM (by omega),D.o.alloc (by simp;omega) _⟩
  |false=>
   cases h3:A.flow with
   |true=>
    rw[h3]at D;go_wp2;go_ret;exact⟨_,rfl,by simp only[h1,h2,h3,znm,znl];exact RowAt.made yar rfl rfl (by decide),ycM (by omega),D.o.alloc (by simp;omega) _⟩
   |false=>
    rw[h3]at D;go_wp2;go_ret;exact⟨_,rfl,by simp only[h1,h2,h3,znl];exact RowAt.made yar rfl rfl (by decide),ycM (by omega),D.o.alloc (by simp;omega) _⟩
end Go.Proofs.YtpagmlndgblhhaaGreatDoor
namespace Go.Va
open Go.Own Go.RowKit Go.Own.MapTy
abbrev LM:MapTy Int ByteArray:=IM ByteArray (fun s=>.string s)
def ynf (n:Int):ByteArray:=⟨(Lib.itoa n).toArray⟩
def ynb (n:Nat):ByteArray:=⟨#[108]⟩++ynf (n:Int)
def ypU:List (Int×ByteArray)->List In->List (Int×ByteArray)
 |m,[]=>m
 |m,c::r=>ypU (bif (ofL c.op).1.operand==4 then upd m c.a ⟨#[]⟩else m) r
def ype:List (Int×ByteArray)->Nat->Nat->Nat->List (Int×ByteArray)
 |m,_,_,0=>m
 |m,i,n,f+1=>bif (MapTy.get m (i:Int)).isSome then ype (upd m (i:Int) (ynb (n+1))) (i+1) (n+1) f else ype m (i+1) n f
def ypd (code:List In):List (Int×ByteArray):=ype (ypU [] code) 0 0 code.length
def ymt (s:ByteArray):ByteArray:=⟨(yn6 s.data.toList).toArray⟩
def ypi (l:List ByteArray):ByteArray:=⟨(Lib.join (l.map (·.data.toList)) (⟨#[32]⟩:ByteArray).data.toList).toArray⟩
def ymu:Val->ByteArray
 | .mk k n s l=>bif k==1 then ynf n else bif k==2 then ymt s else bif k==3 then(⟨#[91]⟩++ypi (printsL l))++⟨#[93]⟩else⟨#[110,105,108]⟩
where printsL:List Val->List ByteArray
 |[]=>[]
 |x::r=>ymu x::printsL r
def szV:Val->Nat
 | .mk k _ s l=>bif k==2 then 4*s.size+30 else bif k==3 then szL l+30 else 30
where szL:List Val->Nat
 |[]=>0
 |x::r=>1+szV x+szL r
theorem yds (x:Val):szV x=bif x.kind==2 then 4*x.txt.size+30 else bif x.kind==3 then szV.szL x.list+30 else 30:=by
 cases x;rw[szV];rfl
theorem yjL {x:Val}:∀{l:List Val},x∈l->szV x<=szV.szL l
 |[],h=>by cases h
 |y::r,h=>by
  rw[szV.szL];rcases List.mem_cons.1 h with rfl|h
  .omega
  .have:=yjL h;omega
theorem yjM (l:List Val):l.length<=szV.szL l:=by
 induction l with
 |nil=>simp
 |cons x r ih=>rw[szV.szL];simp;omega
end Go.Va
